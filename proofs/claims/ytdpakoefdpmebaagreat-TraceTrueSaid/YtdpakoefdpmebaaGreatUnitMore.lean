/-
  Commands by their numbers, as plain data: what was done is kept, in whatever order. No program is named here.
-/
import Derived.Test.YtdpakoefdpmebaaGreatUnitModel
import Derived.Test.YtdpakoefdpmebaaGreatSlMapW
namespace Go.Sl.UnM
open Go Go.Sl Go.Sl.BitM Go.Sl.SpM Go.Sl.RsM Go.Sl.ByM
set_option linter.unusedVariables false
set_option linter.unusedSimpArgs false
def keepM (D : List (Int × Rp)) (fl : Int) : List (Int × Rp) := D.filter fun x => decide (fl ≤ x.1)
def lookD (D : List (Int × Rp)) (id : Int) : Option Rp := (D.find? fun x => x.1 == id).map (·.2)
def okK (kvs : List KV) (fl : Int) (seen : Array Nat) (ks : List KV) : Prop :=
  (∀ x ∈ ks, ∃ y ∈ kvs, y.1 = x.1 ∧ y.2.1 = x.2.1 ∧ seen.contains y.2.2 = true ∧ fl ≤ y.1) ∧ ∀ y ∈ kvs, seen.contains y.2.2 = true → fl ≤ y.1 → ∃ x ∈ ks, x.1 = y.1
section
variable {W0 w : World} {L : List HProp} {pool : PoolL} {D : List (Int × Rp)} {kvs ks : List KV} {fl id : Int} {seen : Array Nat} {ck : Nat}
theorem okK_start : okK kvs fl #[] [] := ⟨fun x hx => (by cases hx), fun y _ h => (by simp at h)⟩
theorem born_eq {kvs : List KV} (h : (kvs.map (·.2.2)).Nodup) {x y : KV} (hx : x ∈ kvs) (hy : y ∈ kvs) (e : x.2.2 = y.2.2) : x = y := by
  induction kvs with
  | nil => cases hx
  | cons z l ih =>
    rw [List.map_cons, List.nodup_cons] at h
    rcases List.mem_cons.1 hx with h1 | h1
    · rcases List.mem_cons.1 hy with h2 | h2
      · rw [h1, h2]
      · exact (h.1 (List.mem_map.2 ⟨y, h2, by rw [← e, h1]⟩)).elim
    · rcases List.mem_cons.1 hy with h2 | h2
      · exact (h.1 (List.mem_map.2 ⟨x, h1, by rw [e, h2]⟩)).elim
      · exact ih h.2 h1 h2
theorem okK_skip (H : okK kvs fl seen ks) (hf : (kvs.map (·.2.2)).Nodup) {e : KV} (he : e ∈ kvs) (hlt : ¬ fl ≤ e.1) : okK kvs fl (seen.push e.2.2) ks := by
  refine ⟨fun x hx => ?_, fun y hy hs hfl => ?_⟩
  · obtain ⟨y, hy, h1, h2, h3, h4⟩ := H.1 x hx
    exact ⟨y, hy, h1, h2, by rw [contains_pushM, h3]; rfl, h4⟩
  · rw [contains_pushM, Bool.or_eq_true] at hs
    rcases hs with hs | hs
    · exact H.2 y hy hs hfl
    · have := born_eq hf hy he (by simpa using hs)
      subst this
      exact absurd hfl hlt
theorem mem_putM {k : Int} {v : Value} {x : KV} (h : x ∈ putM ks k v ck) : (x.1 = k ∧ x.2.1 = v) ∨ (x ∈ ks ∧ x.1 ≠ k) := by
  unfold putM at h
  split at h
  · obtain ⟨y, hy, rfl⟩ := List.mem_map.1 h
    split
    · exact .inl ⟨rfl, rfl⟩
    · rename_i hne; exact .inr ⟨hy, hne⟩
  · rename_i hno
    rcases List.mem_append.1 h with h | h
    · refine .inr ⟨h, fun e => hno ?_⟩
      exact List.any_eq_true.2 ⟨x, h, by simp [e]⟩
    · simp at h; subst h; exact .inl ⟨rfl, rfl⟩
theorem putM_key {k : Int} {v : Value} : ∃ x ∈ putM ks k v ck, x.1 = k := by
  unfold putM
  split
  · rename_i h
    obtain ⟨y, hy, he⟩ := List.any_eq_true.1 h
    have he : y.1 = k := by simpa using he
    exact ⟨(k, v, y.2.2), List.mem_map.2 ⟨y, hy, by rw [if_pos he]⟩, rfl⟩
  · exact ⟨(k, v, ck), List.mem_append.2 (.inr (by simp)), rfl⟩
theorem putM_old {k : Int} {v : Value} {y : KV} (h : y ∈ ks) : ∃ x ∈ putM ks k v ck, x.1 = y.1 := by
  unfold putM
  split
  · by_cases e : y.1 = k
    · exact ⟨(k, v, y.2.2), List.mem_map.2 ⟨y, h, by rw [if_pos e]⟩, e.symm⟩
    · exact ⟨y, List.mem_map.2 ⟨y, h, by rw [if_neg e]⟩, rfl⟩
  · exact ⟨y, List.mem_append.2 (.inl h), rfl⟩
theorem okK_put (H : okK kvs fl seen ks) (hf : (kvs.map (·.2.2)).Nodup) {e : KV} (he : e ∈ kvs) (hle : fl ≤ e.1) : okK kvs fl (seen.push e.2.2) (putM ks e.1 e.2.1 ck) := by
  refine ⟨fun x hx => ?_, fun y hy hs hfl => ?_⟩
  · rcases mem_putM hx with ⟨h1, h2⟩ | ⟨hx, _⟩
    · exact ⟨e, he, h1.symm, h2.symm, by rw [contains_pushM]; simp, hle⟩
    · obtain ⟨y, hy, h1, h2, h3, h4⟩ := H.1 x hx
      exact ⟨y, hy, h1, h2, by rw [contains_pushM, h3]; rfl, h4⟩
  · rw [contains_pushM, Bool.or_eq_true] at hs
    rcases hs with hs | hs
    · obtain ⟨x, hx, h1⟩ := H.2 y hy hs hfl
      obtain ⟨z, hz, h2⟩ := putM_old (ck := ck) (k := e.1) (v := e.2.1) hx
      exact ⟨z, hz, by rw [h2, h1]⟩
    · have := born_eq hf hy he (by simpa using hs)
      subst this
      exact putM_key
theorem keep_nodup (h : (D.map (·.1)).Nodup) : ((keepM D fl).map (·.1)).Nodup := (List.filter_sublist.map _).nodup h
theorem okK_end (h : okD pool D kvs) (H : okK kvs fl seen ks) (hr : remM kvs seen = []) (hn : (ks.map (·.1)).Nodup) : okD pool (keepM D fl) ks := by
  obtain ⟨h1, h2, h3⟩ := h
  refine ⟨(List.perm_ext_iff_of_nodup hn (keep_nodup h2)).2 fun k => ⟨fun hk => ?_, fun hk => ?_⟩, keep_nodup h2, fun x hx => ?_⟩
  · obtain ⟨x, hx, rfl⟩ := List.mem_map.1 hk
    obtain ⟨y, hy, e1, e2, e3, e4⟩ := H.1 x hx
    obtain ⟨r, dv, hr, _⟩ := h3 y hy
    exact List.mem_map.2 ⟨(y.1, r), List.mem_filter.2 ⟨hr, by simpa using e4⟩, e1⟩
  · obtain ⟨p, hp, rfl⟩ := List.mem_map.1 hk
    obtain ⟨hp1, hp2⟩ := List.mem_filter.1 hp
    have : p.1 ∈ kvs.map (·.1) := h1.mem_iff.2 (List.mem_map.2 ⟨p, hp1, rfl⟩)
    obtain ⟨y, hy, e⟩ := List.mem_map.1 this
    obtain ⟨x, hx, e2⟩ := H.2 y hy (rem_allM hr hy) (by rw [e]; simpa using hp2)
    exact List.mem_map.2 ⟨x, hx, by rw [e2, e]⟩
  · obtain ⟨y, hy, e1, e2, e3, e4⟩ := H.1 x hx
    obtain ⟨r, dv, hr1, hr2, hr3⟩ := h3 y hy
    exact ⟨r, dv, List.mem_filter.2 ⟨by rw [← e1]; exact hr1, by rw [← e1]; simpa using e4⟩, by rw [← e2, hr2], hr3⟩
theorem lookD_mem {r : Rp} : ∀ {D : List (Int × Rp)}, (D.map (·.1)).Nodup → (id, r) ∈ D → lookD D id = some r
  | [], _, h => by cases h
  | p :: D, hn, h => by
    rw [List.map_cons, List.nodup_cons] at hn
    unfold lookD
    rw [List.find?_cons]
    rcases List.mem_cons.1 h with rfl | h
    · simp
    · have hne : (p.1 == id) = false := by
        simpa using fun e : p.1 = id => hn.1 (List.mem_map.2 ⟨(id, r), h, e.symm⟩)
      rw [hne]
      exact lookD_mem hn.2 h
theorem lookD_none (h : id ∉ D.map (·.1)) : lookD D id = none := by
  unfold lookD
  rw [List.find?_eq_none.2 (fun x hx => by simpa using fun e : x.1 = id => h (List.mem_map.2 ⟨x, hx, e⟩))]
  rfl
theorem look_ok (h : okD pool D kvs) (id : Int) : (∃ r dv, lookD D id = some r ∧ lookM kvs id = some (r.val dv) ∧ (dv, r.data) ∈ pool) ∨ (lookD D id = none ∧ lookM kvs id = none ∧ id ∉ D.map (·.1)) := by
  obtain ⟨h1, h2, h3⟩ := h
  unfold lookM
  cases hf : kvs.find? fun x => x.1 == id with
  | none =>
    have hno : id ∉ D.map (·.1) := fun hm => by
      obtain ⟨x, hx, e⟩ := List.mem_map.1 (h1.mem_iff.2 hm)
      have := List.find?_eq_none.1 hf x hx
      simp [e] at this
    exact .inr ⟨lookD_none hno, rfl, hno⟩
  | some x =>
    have hx := List.mem_of_find?_eq_some hf
    have he : x.1 = id := by simpa using List.find?_some hf
    obtain ⟨r, dv, hr1, hr2, hr3⟩ := h3 x hx
    rw [he] at hr1
    exact .inl ⟨r, dv, lookD_mem h2 hr1, by rw [Option.map_some, hr2], hr3⟩
theorem okD_more {p : Value × List UInt8} (h : okD pool D kvs) : okD (p :: pool) D kvs := by
  obtain ⟨h1, h2, h3⟩ := h
  refine ⟨h1, h2, fun x hx => ?_⟩
  obtain ⟨r, dv, hr1, hr2, hr3⟩ := h3 x hx
  exact ⟨r, dv, hr1, hr2, List.mem_cons_of_mem _ hr3⟩
theorem okD_put {r : Rp} {dv : Value} (h : okD pool D kvs) (hno : id ∉ D.map (·.1)) : okD ((dv, r.data) :: pool) (D ++ [(id, r)]) (putM kvs id (r.val dv) ck) := by
  obtain ⟨h1, h2, h3⟩ := h
  have hk : ¬ kvs.any (fun x => x.1 == id) = true := fun ha => by
    obtain ⟨x, hx, he⟩ := List.any_eq_true.1 ha
    exact hno (h1.mem_iff.1 (List.mem_map.2 ⟨x, hx, by simpa using he⟩))
  have e : putM kvs id (r.val dv) ck = kvs ++ [(id, r.val dv, ck)] := by unfold putM; rw [if_neg hk]
  rw [e]
  refine ⟨by rw [List.map_append, List.map_append]; exact h1.append_right _, ?_, fun x hx => ?_⟩
  · rw [List.map_append]
    refine List.nodup_append.2 ⟨h2, by simp, ?_⟩
    intro a ha b hb
    simp at hb
    subst hb
    rintro rfl
    exact hno ha
  · rcases List.mem_append.1 hx with hx | hx
    · obtain ⟨r', dv', hr1, hr2, hr3⟩ := h3 x hx
      exact ⟨r', dv', List.mem_append.2 (.inl hr1), hr2, List.mem_cons_of_mem _ hr3⟩
    · simp at hx
      subst hx
      exact ⟨r, dv, List.mem_append.2 (.inr (by simp)), rfl, List.mem_cons_self ..⟩
theorem okD_putIn {r : Rp} {dv : Value} (h : okD pool D kvs) (hp : (dv, r.data) ∈ pool) (hno : id ∉ D.map (·.1)) : okD pool (D ++ [(id, r)]) (putM kvs id (r.val dv) ck) := by
  obtain ⟨h1, h2, h3⟩ := okD_put (ck := ck) (r := r) (dv := dv) h hno
  refine ⟨h1, h2, fun x hx => ?_⟩
  obtain ⟨r', dv', hr1, hr2, hr3⟩ := h3 x hx
  refine ⟨r', dv', hr1, hr2, ?_⟩
  rcases List.mem_cons.1 hr3 with e | e
  · rw [e]; exact hp
  · exact e
theorem big_mono {α : Type} {A B : α → HProp} (h : ∀ x hh, A x hh → B x hh) : ∀ (l : List α) (hh : Hp), Big A l hh → Big B l hh
  | [], _, _ => trivial
  | x :: l, hh, H => by
    obtain ⟨h1, h2, d, s1, s2, a, r⟩ := H
    exact ⟨h1, h2, d, s1, s2, h x h1 a, big_mono h l h2 r⟩
theorem GOwn_more {p : Value × List UInt8} {g : GX} {hh : Hp} (h : GOwn pool g hh) : GOwn (p :: pool) g hh := ⟨okD_more h.1, h.2⟩
theorem UnP_more {TU TS TT bu : Nat} {ms : List Nat} {u : Un} {p : Value × List UInt8} (H : On W0 (UnP TU TS TT bu pool ms u :: L) w) : On W0 (UnP TU TS TT bu (p :: pool) ms u :: L) w := by
  obtain ⟨bs, bt, gs, hm, hl, H⟩ := openU H
  have H1 : On W0 (Big (GOwn pool) gs :: blk bu (ucells bs bt gs) TU :: SpP TS bs u.s :: blk bt u.t.cells TT :: L) w := H.to
  have H2 : On W0 (Big (GOwn (p :: pool)) gs :: blk bu (ucells bs bt gs) TU :: SpP TS bs u.s :: blk bt u.t.cells TT :: L) w := H1.head (big_mono (fun x hh => GOwn_more) gs)
  have H3 : On W0 (blk bu (ucells bs bt gs) TU :: SpP TS bs u.s :: blk bt u.t.cells TT :: Big (GOwn (p :: pool)) gs :: L) w := H2.to
  exact closeU hm hl H3
/-- What a command leaves as it was. -/
def kept (u u' : Un) : Prop := u'.g.length = u.g.length ∧ (∀ j, j < 8 → (u'.guest j).floor = (u.guest j).floor ∧ (u'.guest j).done = (u.guest j).done) ∧ ∀ k, small k u → small (k + 1) u'
theorem small_le {u : Un} {k m : Nat} (h : small k u) (hk : k ≤ m) : small m u := fun i hi => Nat.le_trans (h i hi) hk
theorem tellM_len (l : List Int) (x : Int) : (tellM l x).length ≤ l.length + 1 := by
  unfold tellM
  split
  · omega
  · simp
theorem kept_refl {u : Un} : kept u u := ⟨rfl, fun _ _ => ⟨rfl, rfl⟩, fun k h => small_le h (by omega)⟩
theorem kept_setS {u : Un} {s : Sp} : kept u (u.setS s) := ⟨rfl, fun _ _ => ⟨rfl, rfl⟩, fun k h => small_le h (by omega)⟩
theorem kept_pop {u : Un} {i : Nat} (h8 : u.g.length = 8) (hi : i < 8) : kept u (u.putG i (u.guest i).pop) := by
  refine ⟨by show (u.g.set i _).length = _; rw [List.length_set], fun j hj => ?_, fun k h j hj => ?_⟩
  · by_cases e : i = j
    · subst e; rw [guest_put h8 hi]; exact ⟨rfl, rfl⟩
    · rw [guest_other e]; exact ⟨rfl, rfl⟩
  · by_cases e : i = j
    · subst e; rw [guest_put h8 hi]
      show ((u.guest i).codes.drop 1).length ≤ _
      have := h i hi
      rw [List.length_drop]; omega
    · rw [guest_other e]; have := h j hj; omega
theorem kept_reset {u : Un} (h8 : u.g.length = 8) : kept u (resetN u 8) := by
  refine ⟨by rw [resetN_len h8, h8], fun j hj => ?_, fun k h j hj => ?_⟩
  · rw [resetN_done h8 8 hj (Nat.le_refl _)]; exact ⟨rfl, rfl⟩
  · rw [resetN_done h8 8 hj (Nat.le_refl _)]
    have := h j hj
    have := tellM_len (u.guest j).codes 10499
    show (tellM _ _).length ≤ _
    omega
theorem notM_len {u : Un} {code : Int} (h8 : u.g.length = 8) : ∀ l : List Nat, (notM u code l).g.length = 8 := fun l => by
  induction l generalizing u with
  | nil => exact h8
  | cons n l ih => exact ih (tell_len h8)
theorem tell_keeps {u : Un} {n : Nat} {x : Int} (h8 : u.g.length = 8) : ∀ j, j < 8 → ((u.tell n x).guest j).floor = (u.guest j).floor ∧ ((u.tell n x).guest j).done = (u.guest j).done := fun j hj => by
  unfold Un.tell
  by_cases e : n = j
  · subst e; rw [guest_put h8 hj]; exact ⟨rfl, rfl⟩
  · rw [guest_other e]; exact ⟨rfl, rfl⟩
theorem notM_keeps {code : Int} : ∀ (l : List Nat) {u : Un}, u.g.length = 8 → ∀ j, j < 8 → ((notM u code l).guest j).floor = (u.guest j).floor ∧ ((notM u code l).guest j).done = (u.guest j).done
  | [], u, _, j, _ => ⟨rfl, rfl⟩
  | n :: l, u, h8, j, hj => by
    have h1 := notM_keeps (code := code) l (u := u.tell n code) (tell_len h8) j hj
    have h2 := tell_keeps (n := n) (x := code) h8 j hj
    exact ⟨h1.1.trans h2.1, h1.2.trans h2.2⟩
theorem notM_out {code : Int} : ∀ (l : List Nat) {u : Un} {j : Nat}, j ∉ l → (notM u code l).guest j = u.guest j
  | [], u, _, _ => rfl
  | n :: l, u, j, h => by
    rw [List.mem_cons, not_or] at h
    have h1 := notM_out (code := code) l (u := u.tell n code) h.2
    refine h1.trans ?_
    unfold Un.tell
    exact guest_other (fun e => h.1 e.symm)
theorem notM_in {code : Int} : ∀ (l : List Nat) {u : Un} {j : Nat}, u.g.length = 8 → l.Nodup → j ∈ l → j < 8 → (notM u code l).guest j = (u.guest j).tell code
  | [], u, j, _, _, h, _ => by cases h
  | n :: l, u, j, h8, hn, h, hj => by
    rw [List.nodup_cons] at hn
    by_cases e : n = j
    · subst e
      refine (notM_out l (u := u.tell n code) hn.1).trans ?_
      unfold Un.tell
      exact guest_put h8 hj
    · have hm : j ∈ l := by rcases List.mem_cons.1 h with h | h; exact absurd h.symm e; exact h
      refine (notM_in l (u := u.tell n code) (tell_len h8) hn.2 hm hj).trans ?_
      unfold Un.tell
      rw [guest_other e]
theorem notM_s {code : Int} : ∀ (l : List Nat) {u : Un}, (notM u code l).s = u.s ∧ (notM u code l).t = u.t
  | [], u => ⟨rfl, rfl⟩
  | n :: l, u => notM_s l (u := u.tell n code)
theorem hosts_nodup {K : Nat → Int} {h : Int} {p : Int → Bool} {n : Nat} : (hostsN K h p n).Nodup := List.nodup_range.filter _
theorem told_nodup {t : Tb} {h : Int} : (t.told h).Nodup := by
  unfold Tb.told
  split
  · exact hosts_nodup
  · exact List.nodup_nil
theorem told_lt {t : Tb} {h : Int} : ∀ j ∈ t.told h, j < 8 := fun j hj => by
  unfold Tb.told at hj
  split at hj
  · exact (hostsN_mem.1 hj).1
  · cases hj
def okL (v : Rv) : Prop := v.l.Nodup ∧ (∀ j ∈ v.l, j < 8) ∧ (v.l ≠ [] → 0 ≤ v.code ∧ v.code < 65536) ∧ v.l.length ≤ 8
theorem okL_of {t : Tb} {r : Rp} {l : List Nat} {code : Int} (h1 : l.Nodup) (h2 : ∀ j ∈ l, j < 8) (h3 : 0 ≤ code ∧ code < 65536) (h4 : l.length ≤ 8) : okL ⟨t, r, l, code⟩ := ⟨h1, h2, fun _ => h3, h4⟩
theorem okL_no {t : Tb} {r : Rp} {code : Int} : okL ⟨t, r, [], code⟩ := ⟨List.nodup_nil, fun j hj => (by cases hj), fun h => absurd rfl h, Nat.zero_le _⟩
theorem hosts_lt {K : Nat → Int} {h : Int} {p : Int → Bool} {n : Nat} : ∀ j ∈ hostsN K h p n, j < n := fun j hj => (hostsN_mem.1 hj).1
theorem regF_l {t : Tb} {i : Nat} {key fresh : Int} {ign : Bool} : okL (regF t i key fresh ign) := by
  unfold regF
  split
  · unfold regO
    split
    · exact okL_of told_nodup told_lt ⟨by decide, by decide⟩ told_len
    · exact okL_no
  · exact okL_no
theorem rvM_l {t : Tb} {i : Nat} {c : Cm} : okL (rvM t i c) := by
  unfold rvM
  split
  · exact regF_l
  split
  · exact regF_l
  split
  · unfold rsvF
    repeat' split
    all_goals exact okL_no
  split
  · unfold relF
    repeat' split
    all_goals first
      | exact okL_no
      | exact okL_of told_nodup told_lt ⟨by decide, by decide⟩ told_len
  split
  · unfold clrF
    split
    · exact okL_no
    · exact okL_of hosts_nodup hosts_lt ⟨by decide, by decide⟩ (hostsN_len ..)
  · unfold preF
    repeat' split
    all_goals first
      | exact okL_no
      | exact okL_of (show (preL _ _ _).Nodup from hosts_nodup) (show ∀ j ∈ preL _ _ _, j < 8 from hosts_lt) ⟨by decide, by decide⟩ (show (preL _ _ _).length ≤ 8 from hostsN_len ..)
theorem rvM_r {t : Tb} {i : Nat} {c : Cm} : (rvM t i c).r.data = [] := by
  have hreg : ∀ key fresh ign, (regF t i key fresh ign).r.data = [] := fun key fresh ign => by unfold regF; split <;> rfl
  unfold rvM
  split
  · exact hreg _ _ _
  split
  · exact hreg _ _ _
  split
  · unfold rsvF; repeat' split
    all_goals rfl
  split
  · unfold relF; repeat' split
    all_goals rfl
  split
  · unfold clrF; split <;> rfl
  · unfold preF; repeat' split
    all_goals rfl
theorem kept_rv {u : Un} {i : Nat} {c : Cm} (h8 : u.g.length = 8) : kept u (resM u i c).1 := by
  unfold resM
  split
  · exact kept_refl
  split
  · exact kept_refl
  have hl := rvM_l (t := u.t) (i := i) (c := c)
  refine ⟨(notM_len (u := u.setT (rvM u.t i c).t) h8 _).trans h8.symm, fun j hj => notM_keeps _ (u := u.setT (rvM u.t i c).t) h8 j hj, fun k h j hj => ?_⟩
  by_cases hm : j ∈ (rvM u.t i c).l
  · rw [show (notM (u.setT (rvM u.t i c).t) (rvM u.t i c).code (rvM u.t i c).l).guest j = _ from notM_in _ (u := u.setT (rvM u.t i c).t) h8 hl.1 hm hj]
    have h1 := h j hj
    have h2 := tellM_len (u.guest j).codes (rvM u.t i c).code
    show (tellM _ _).length ≤ _
    exact Nat.le_trans h2 (by omega)
  · rw [show (notM (u.setT (rvM u.t i c).t) (rvM u.t i c).code (rvM u.t i c).l).guest j = _ from notM_out _ (u := u.setT (rvM u.t i c).t) hm]
    exact Nat.le_trans (h j hj) (by omega)
theorem keysN_len (K : Nat → Int) : ∀ n, (keysN K n).length ≤ n
  | 0 => Nat.le_refl _
  | n + 1 => by
    have := keysN_len K n
    unfold keysN
    rw [List.length_append]
    split
    · show _ + 0 ≤ _; omega
    · show _ + 1 ≤ _; omega
theorem flat8_len (l : List Int) : (l.flatMap fun k => be k.toNat 8).length = 8 * l.length := by
  induction l with
  | nil => rfl
  | cons x l ih => rw [List.flatMap_cons, List.length_append, be_length, ih, List.length_cons]; omega
theorem keysB_len (t : Tb) : (keysB t).length = 8 + 8 * (keysN t.K 8).length := by
  unfold keysB; rw [List.length_append, List.length_append, be_length, be_length, flat8_len]
theorem holdB_len (t : Tb) : (holdB t).length ≤ 24 := by
  unfold holdB
  split <;> simp only [List.length_append, be_length] <;> omega
theorem resM_dlen {u : Un} {i : Nat} {c : Cm} : (resM u i c).2.data.length ≤ 1000 := by
  unfold resM
  split
  · show (keysB _).length ≤ _; rw [keysB_len]; have := keysN_len u.t.K 8; omega
  split
  · exact Nat.le_trans (holdB_len _) (by omega)
  · show (rvM u.t i c).r.data.length ≤ _
    rw [rvM_r]; exact Nat.zero_le _
theorem kept_act {u : Un} {i : Nat} {c : Cm} (h8 : u.g.length = 8) : kept u (actM u i c).1 := by
  unfold actM
  split
  · exact kept_refl
  · split
    · exact kept_refl
    · split
      · exact kept_refl
      · split
        · exact kept_setS
        · split
          · exact kept_reset h8
          · exact kept_rv h8
theorem kept_do {u : Un} {hh : Int} {c : Cm} (h8 : u.g.length = 8) : kept u (doM u hh c).1 := by
  unfold doM
  split
  · exact kept_refl
  · rename_i hn
    have hh8 : hh.toNat < 8 := by
      cases hb : hostB hh with
      | false => exact absurd (.inl hb) hn
      | true => have := hostB_iff.1 hb; omega
    split
    · split
      · exact kept_refl
      · exact kept_pop h8 hh8
    · split
      · exact kept_pop h8 hh8
      · split
        · exact kept_refl
        · exact kept_act h8
theorem lookD_in {r : Rp} (h : lookD D id = some r) : (id, r) ∈ D := by
  unfold lookD at h
  cases hf : D.find? fun x => x.1 == id with
  | none => rw [hf] at h; cases h
  | some p =>
    rw [hf] at h
    have hp := List.mem_of_find?_eq_some hf
    have he : p.1 = id := by simpa using List.find?_some hf
    have hr : p.2 = r := by simpa using h
    rw [← he, ← hr]
    exact hp
theorem runM_len {s : Sp} {c : Cm} : (runM s c).2.data.length ≤ 1000 := by
  unfold runM
  split
  · rename_i hin
    unfold inS at hin
    split
    · show (partS s _ _).length ≤ _
      unfold partS
      rw [List.length_take]
      omega
    · split
      · split <;> exact Nat.zero_le _
      · split
        · exact Nat.zero_le _
        · split
          · split
            · unfold cmpM; split <;> exact Nat.zero_le _
            · exact Nat.zero_le _
          · exact Nat.zero_le _
  · exact Nat.zero_le _
theorem actM_dlen {u : Un} {i : Nat} {c : Cm} : (actM u i c).2.data.length ≤ 1000 := by
  unfold actM
  split
  · exact Nat.zero_le _
  · split
    · show inqB.length ≤ _; decide
    · split
      · show (capB _).length ≤ _; unfold capB; rw [List.length_append, be_length, be_length]; decide
      · split
        · exact runM_len
        · split
          · exact Nat.zero_le _
          · exact resM_dlen
theorem doM_dlen {u : Un} {hh : Int} {c : Cm} : (doM u hh c).2.data.length ≤ 1000 := by
  unfold doM
  split
  · exact Nat.zero_le _
  · split
    · split
      · show (senseB _ _).length ≤ _; rw [senseB_len]; decide
      · show (senseB _ _).length ≤ _; rw [senseB_len]; decide
    · split
      · exact Nat.zero_le _
      · split
        · exact Nat.zero_le _
        · exact actM_dlen
theorem rows_same {gs : List GX} {i : Nat} {g g' : GX} (h : gs[i]? = some g) (e : g'.row = g.row) : (gs.set i g').flatMap GX.row = gs.flatMap GX.row := by
  have hg : GX.row g = (g.row).set 0 (.slice g.a g.s.codes.length g.c) := rfl
  have := rows_set (g := g) (g' := g') (v := .slice g.a g.s.codes.length g.c) h (show 0 < 3 by decide) (by rw [e]; exact hg)
  rw [← this]
  have h2 := rows_set (g := g) (g' := g) (v := .slice g.a g.s.codes.length g.c) h (show 0 < 3 by decide) hg
  rw [h2, set_same h]
theorem mb_of {gs : List GX} {ms : List Nat} {i : Nat} {g : GX} (h : gs.map (·.mb) = ms) (hg : gs[i]? = some g) : ms[i]? = some g.mb := by rw [← h, List.getElem?_map, hg]; rfl
def Gs.setD (g : Gs) (fl : Int) (D : List (Int × Rp)) : Gs := { g with floor := fl, done := D }
def flM (g : Gs) (id floor : Int) : Int := max (min floor id) g.floor
def onceM (u : Un) (i : Nat) (id floor : Int) (c : Cm) : Un × Rp × Bool :=
  let g := u.guest i
  if id = 0 ∨ id < g.floor then (u, plain 8 0 0, false)
  else
    let fl := flM g id floor
    let kept := keepM g.done fl
    match lookD kept id with
    | some r => (u.putG i (g.setD fl kept), r, false)
    | none =>
      if 4 ≤ kept.length then (u, plain 8 0 0, false)
      else
        let p := doM (u.putG i (g.setD fl kept)) i c
        (p.1.putG i ((p.1.guest i).setD fl (kept ++ [(id, p.2)])), p.2, true)
section
variable {u : Un} {i : Nat} {c : Cm} {id floor : Int}
def onceG (u : Un) (i : Nat) (id floor : Int) : Gs := (u.guest i).setD (flM (u.guest i) id floor) (keepM (u.guest i).done (flM (u.guest i) id floor))
theorem once_busy (h : id = 0 ∨ id < (u.guest i).floor) : onceM u i id floor c = (u, plain 8 0 0, false) := by unfold onceM; simp only []; rw [if_pos h]
theorem once_old {r : Rp} (h : ¬ (id = 0 ∨ id < (u.guest i).floor)) (hl : lookD (keepM (u.guest i).done (flM (u.guest i) id floor)) id = some r) : onceM u i id floor c = (u.putG i (onceG u i id floor), r, false) := by
  unfold onceM; simp only []; rw [if_neg h, hl]; rfl
theorem once_full (h : ¬ (id = 0 ∨ id < (u.guest i).floor)) (hl : lookD (keepM (u.guest i).done (flM (u.guest i) id floor)) id = none) (h4 : 4 ≤ (keepM (u.guest i).done (flM (u.guest i) id floor)).length) : onceM u i id floor c = (u, plain 8 0 0, false) := by
  unfold onceM; simp only []; rw [if_neg h, hl]; simp only []; rw [if_pos h4]
theorem once_new {u' : Un} {r : Rp} (h : ¬ (id = 0 ∨ id < (u.guest i).floor)) (hl : lookD (keepM (u.guest i).done (flM (u.guest i) id floor)) id = none) (h4 : ¬ 4 ≤ (keepM (u.guest i).done (flM (u.guest i) id floor)).length) (hd : doM (u.putG i (onceG u i id floor)) i c = (u', r)) :
    onceM u i id floor c = (u'.putG i ((u'.guest i).setD (flM (u.guest i) id floor) (keepM (u.guest i).done (flM (u.guest i) id floor) ++ [(id, r)])), r, true) := by
  unfold onceM; simp only []; rw [if_neg h, hl]; simp only []; rw [if_neg h4]
  unfold onceG at hd
  rw [hd]
theorem setD_small {k : Nat} {fl : Int} {D : List (Int × Rp)} (h8 : u.g.length = 8) (hi : i < 8) (h : small k u) : small k (u.putG i ((u.guest i).setD fl D)) := fun j hj => by
  by_cases e : i = j
  · subst e; rw [guest_put h8 hi]; exact h i hi
  · rw [guest_other e]; exact h j hj
theorem setD_okC {fl : Int} {D : List (Int × Rp)} (h8 : u.g.length = 8) (hi : i < 8) (h : okC u) : okC (u.putG i ((u.guest i).setD fl D)) := fun j hj => by
  by_cases e : i = j
  · subst e; rw [guest_put h8 hi]; exact h i hi
  · rw [guest_other e]; exact h j hj
end
end
/-! ### Written -/
def partB (b v : List UInt8) : List UInt8 := b ++ be v.length 4 ++ v
def byteI (z : Int) : UInt8 := UInt8.ofNat (z % 256).toNat
def encTK (t : Tb) (k : Nat) : List UInt8 := be t.gen.toNat 4 ++ (List.range k).flatMap fun i => be (t.K i).toNat 8
def encT (t : Tb) : List UInt8 := encTK t 8 ++ [byteI t.hold, byteI t.typ]
def okT (t : Tb) : Prop := (∀ i, i < 8 → 0 ≤ t.K i ∧ t.K i < 18446744073709551616) ∧ 0 ≤ t.gen ∧ t.gen < 4294967296
theorem flat_len {f : Nat → List UInt8} {c : Nat} (h : ∀ i, (f i).length = c) : ∀ k, ((List.range k).flatMap f).length = k * c
  | 0 => by simp
  | k + 1 => by rw [List.range_succ, List.flatMap_append, List.length_append, flat_len h k, List.flatMap_cons, List.flatMap_nil, List.append_nil, h, Nat.succ_mul]
theorem encTK_len (t : Tb) (k : Nat) : (encTK t k).length = 4 + k * 8 := by unfold encTK; rw [List.length_append, be_length, flat_len (fun i => be_length ..)]
theorem encTK_succ (t : Tb) (k : Nat) : encTK t (k + 1) = encTK t k ++ be (t.K k).toNat 8 := by
  unfold encTK; rw [List.range_succ, List.flatMap_append, List.append_assoc, List.flatMap_cons, List.flatMap_nil, List.append_nil]
/-- One that was done. -/
def recB (x : Int × Rp) : List UInt8 := be x.1.toNat 8 ++ [byteI x.2.st, byteI x.2.key] ++ be x.2.code.toNat 2 ++ be x.2.info.toNat 4 ++ be x.2.data.length 4 ++ x.2.data
def codesB (l : List Int) (k : Nat) : List UInt8 := be l.length 2 ++ (l.take k).flatMap fun c => be c.toNat 2
def headB (g : Gs) : List UInt8 := codesB g.codes g.codes.length ++ be g.floor.toNat 8 ++ be g.done.length 2
def guestB (g : Gs) : List UInt8 := headB g ++ g.done.flatMap recB
def okR (r : Rp) : Prop := 0 ≤ r.st ∧ r.st < 256 ∧ 0 ≤ r.key ∧ r.key < 256 ∧ 0 ≤ r.code ∧ r.code < 65536 ∧ 0 ≤ r.info ∧ r.info < 4294967296 ∧ r.data.length ≤ 10000
def okG (g : Gs) : Prop := g.codes.length ≤ 10000 ∧ (∀ c ∈ g.codes, 0 ≤ c ∧ c < 65536) ∧ 0 ≤ g.floor ∧ g.floor < 18446744073709551616 ∧ ∀ x ∈ g.done, (0 ≤ x.1 ∧ x.1 < 18446744073709551616) ∧ okR x.2
theorem codesB_succ {l : List Int} {k : Nat} {c : Int} (h : l[k]? = some c) : codesB l (k + 1) = codesB l k ++ be c.toNat 2 := by
  unfold codesB; rw [List.take_add_one, h, List.flatMap_append, List.append_assoc]; simp
theorem codesB_len (l : List Int) : ∀ k, k ≤ l.length → (codesB l k).length = 2 + k * 2
  | 0, _ => by simp [codesB, be_length]
  | k + 1, h => by
    obtain ⟨c, hc⟩ : ∃ c, l[k]? = some c := ⟨l[k]'(by omega), by simp⟩
    rw [codesB_succ hc, List.length_append, codesB_len l k (by omega), be_length]; omega
theorem headB_len (g : Gs) : (headB g).length = 12 + g.codes.length * 2 := by
  unfold headB; rw [List.length_append, List.length_append, codesB_len _ _ (Nat.le_refl _), be_length, be_length]; omega
theorem recB_len {x : Int × Rp} (h : okR x.2) : (recB x).length ≤ 10020 := by
  unfold recB; simp only [List.length_append, be_length, List.length_cons, List.length_nil]
  have := h.2.2.2.2.2.2.2.2; omega
theorem one_rowU {l : List Value} {k : Nat} {v : Value} (h : l[k]? = some v) : (l.drop (k * 1)).take 1 = [v] := by
  have hlt := (List.getElem?_eq_some_iff.1 h).1
  have he := (List.getElem?_eq_some_iff.1 h).2
  rw [Nat.mul_one, List.drop_eq_getElem_cons hlt, List.take_succ_cons, List.take_zero, he]
theorem perm_one {α : Type} {l l' : List α} (h : l.Perm l') (h1 : l'.length ≤ 1) : l = l' := by
  match l', h1 with
  | [], _ => exact List.perm_nil.1 h
  | [x], _ => exact List.perm_singleton.1 h
theorem done_len {D : List (Int × Rp)} (h1 : D.length ≤ 1) (h : ∀ x ∈ D, okR x.2) (k : Nat) : ((D.take k).flatMap recB).length ≤ 10020 := by
  match D, h1, h with
  | [], _, _ => simp
  | [x], _, h =>
    cases k with
    | zero => simp
    | succ k =>
      rw [List.take_succ_cons, List.flatMap_cons, List.length_append]
      have := recB_len (h x (by simp))
      simp; omega
def encUK (u : Un) (s0 : List UInt8) : Nat → List UInt8
  | 0 => partB (partB [] s0) (encT u.t)
  | k + 1 => partB (encUK u s0 k) (guestB (u.guest k))
theorem guestB_len {g : Gs} (h : okG g) (h1 : g.done.length ≤ 1) : (guestB g).length ≤ 30100 := by
  unfold guestB
  rw [List.length_append, headB_len]
  have h2 := done_len h1 (fun x hx => (h.2.2.2.2 x hx).2) g.done.length
  rw [List.take_length] at h2
  have := h.1
  omega
theorem encUK_len {u : Un} {s0 : List UInt8} (h : ∀ i, i < 8 → okG (u.guest i) ∧ (u.guest i).done.length ≤ 1) : ∀ k, k ≤ 8 → (encUK u s0 k).length ≤ s0.length + 100 + k * 31000
  | 0, _ => by
    show (partB (partB [] s0) (encT u.t)).length ≤ _
    unfold partB encT
    simp only [List.length_append, be_length, encTK_len, List.length_cons, List.length_nil]
    omega
  | k + 1, hk => by
    have h1 := encUK_len (s0 := s0) h k (by omega)
    have h2 := guestB_len (h k (by omega)).1 (h k (by omega)).2
    show (partB (encUK u s0 k) (guestB (u.guest k))).length ≤ _
    generalize hq : encUK u s0 k = q at h1
    unfold partB
    simp only [List.length_append, be_length]
    omega
def encU (u : Un) (s0 : List UInt8) : List UInt8 := encUK u s0 8
end Go.Sl.UnM
