/-
  Guests of whom some are read already. No program is named here.
-/
import Derived.Test.YtjbgiingimhnnaaGreatUnitBytesFQ3
import Derived.Test.YtjbgiingimhnnaaGreatUnitBytesFQ5
import Derived.Test.YtjbgiingimhnnaaGreatUnitBytesFQ4
import Derived.Test.YtjbgiingimhnnaaGreatUnitBytesFQ2
namespace Go.Sl.UnM
open Go Go.Sl Go.Sl.BitM Go.Sl.SpM Go.Sl.RsM Go.Sl.ByM
set_option linter.unusedVariables false
abbrev mix (gd : List GX) (mbs : List Nat) (k : Nat) : List GX := gd ++ (mbs.drop k).map zG
theorem mix_drop {mbs : List Nat} {k mb : Nat} (hm : mbs[k]? = some mb) : mbs.drop k = mb :: mbs.drop (k + 1) := by
  have hlt := (List.getElem?_eq_some_iff.1 hm).1
  have he := (List.getElem?_eq_some_iff.1 hm).2
  rw [List.drop_eq_getElem_cons hlt, he]
theorem mix_get {gd : List GX} {mbs : List Nat} {k mb : Nat} (hk : gd.length = k) (hm : mbs[k]? = some mb) : (mix gd mbs k)[k]? = some (zG mb) := by
  show (gd ++ (mbs.drop k).map zG)[k]? = _
  rw [List.getElem?_append_right (by omega), mix_drop hm, hk, Nat.sub_self]; rfl
theorem mix_set {gd : List GX} {mbs : List Nat} {k mb : Nat} {g : GX} (hk : gd.length = k) (hm : mbs[k]? = some mb) : (mix gd mbs k).set k g = mix (gd ++ [g]) mbs (k + 1) := by
  show (gd ++ (mbs.drop k).map zG).set k g = (gd ++ [g]) ++ (mbs.drop (k + 1)).map zG
  rw [List.set_append_right _ _ (by omega), mix_drop hm, hk, Nat.sub_self, List.append_assoc]; rfl
theorem GOwn_sub {pool pool2 : PoolL} {g : GX} {hh : Hp} (hs : ∀ p ∈ pool, p ∈ pool2) (h : GOwn pool g hh) : GOwn pool2 g hh := by
  obtain ⟨⟨h1, h2, h3⟩, h4⟩ := h
  refine ⟨⟨h1, h2, fun x hx => ?_⟩, h4⟩
  obtain ⟨r, dv, a, b, c⟩ := h3 x hx
  exact ⟨r, dv, a, b, hs _ c⟩
theorem rdGs_step {n : Nat} {s : RS} {l : List Gs} (h : (readG (rdP s).1).1 = true) : rdGs (n + 1) s l = rdGs n (rdP s).2 (l ++ [(readG (rdP s).1).2]) := by
  rw [rdGs, if_pos h]
theorem rdGs_stop {n : Nat} {s : RS} {l : List Gs} (h : ¬ (readG (rdP s).1).1 = true) : rdGs (n + 1) s l = none := by
  rw [rdGs, if_neg h]
theorem decU0_none {b : List UInt8} {s : Sp} {t : Tb} (hds : decS (rdP (b, false)).1 = some s) (hdt : decT (rdP (rdP (b, false)).2).1 = some t) (hX : none = rdGs 8 (rdP (rdP (b, false)).2).2 []) : decU0 b = none := by
  unfold decU0
  simp only [hds, hdt, ← hX, Option.bind_some, Option.bind_none]
theorem decU0_some {b : List UInt8} {s : Sp} {t : Tb} {st : RS} {gl : List Gs} (hds : decS (rdP (b, false)).1 = some s) (hdt : decT (rdP (rdP (b, false)).2).1 = some t) (hX : some (st, gl) = rdGs 8 (rdP (rdP (b, false)).2).2 []) : decU0 b = if st.2 = true then none else some ⟨s, t, gl⟩ := by
  unfold decU0
  simp only [hds, hdt, ← hX, Option.bind_some]
theorem decT_ok {b : List UInt8} {t : Tb} (h : decT b = some t) : okT t := by
  unfold decT at h
  split at h
  · cases h; exact decT0_ok b
  · cases h
theorem decS_enc {b : List UInt8} {s : Sp} (h : decS b = some s) : SpM.encS s = b := by
  unfold decS at h
  cases h0 : decS0 b with
  | none => rw [h0] at h; cases h
  | some s0 =>
    rw [h0] at h
    have h : (if SpM.encS s0 = b then some s0 else none) = some s := h
    split at h
    · rename_i e; cases h; exact e
    · cases h
theorem decU_of {b : List UInt8} {u : Un} (hd : decU0 b = some u) (he : encU u (SpM.encS u.s) = b) : decU b = some u := by
  unfold decU; rw [hd]; simp only [Option.bind_some]; rw [if_pos he]
theorem decU_no {b : List UInt8} {u : Un} (hd : decU0 b = some u) (he : ¬ encU u (SpM.encS u.s) = b) : decU b = none := by
  unfold decU; rw [hd]; simp only [Option.bind_some]; rw [if_neg he]
theorem decU_no0 {b : List UInt8} (hd : decU0 b = none) : decU b = none := by
  unfold decU; rw [hd]; simp only [Option.bind_none]
theorem decU_ofE {b E : List UInt8} {u : Un} (hd : decU0 b = some u) (hE : E = encU u (SpM.encS u.s)) (he : E = b) : decU b = some u := decU_of hd (hE ▸ he)
theorem decU_noE {b E : List UInt8} {u : Un} (hd : decU0 b = some u) (hE : E = encU u (SpM.encS u.s)) (he : ¬ E = b) : decU b = none := decU_no hd (hE ▸ he)
end Go.Sl.UnM
/-
  A unit's commands, all kinds: what stays true of the table, of what waits. No program is named here.
-/
namespace Go.Sl.UnM
open Go Go.Sl Go.Sl.BitM Go.Sl.SpM Go.Sl.RsM Go.Sl.ByM
set_option linter.unusedVariables false
def kV (l : List Int) : List Value := l.map (Value.int .u64)
theorem kV_get {l : List Int} {k : Nat} {x : Int} (h : l[k]? = some x) : ((kV l).drop (k * 1)).take 1 = [.int .u64 x] := by
  have hlt := (List.getElem?_eq_some_iff.1 h).1
  have he := (List.getElem?_eq_some_iff.1 h).2
  unfold kV
  rw [Nat.mul_one, ← List.map_drop, ← List.map_take, List.drop_eq_getElem_cons hlt, List.take_succ_cons, List.take_zero, he]
  rfl
theorem kV_app (l m : List Int) : kV l ++ kV m = kV (l ++ m) := by unfold kV; rw [List.map_append]
def keysP (g n : Nat) (l : List Int) (k : Nat) : List UInt8 := be g 4 ++ be n 4 ++ (l.take k).flatMap fun k => be k.toNat 8
theorem keysP_len {g n : Nat} {l : List Int} {k : Nat} (h : k ≤ l.length) : (keysP g n l k).length = 8 + 8 * k := by
  unfold keysP; rw [List.length_append, List.length_append, be_length, be_length, flat8_len, List.length_take]; omega
theorem keysP_succ {g n : Nat} {l : List Int} {k : Nat} {x : Int} (h : l[k]? = some x) : keysP g n l k ++ be x.toNat 8 = keysP g n l (k + 1) := by
  unfold keysP; rw [List.take_add_one, h, List.flatMap_append, List.append_assoc]; simp
theorem keysP_zero {g n : Nat} {l : List Int} : keysP g n l 0 = be g 4 ++ be n 4 := by unfold keysP; simp
theorem keysP_all (t : Tb) : keysP t.gen.toNat (8 * (keysN t.K 8).length) (keysN t.K 8) (keysN t.K 8).length = keysB t := by
  unfold keysP keysB; rw [List.take_length]
theorem keysN_mem {K : Nat → Int} {x : Int} : ∀ {n : Nat}, x ∈ keysN K n → ∃ i, i < n ∧ x = K i
  | 0, h => by cases h
  | n + 1, h => by
    unfold keysN at h
    rcases List.mem_append.1 h with h | h
    · obtain ⟨i, hi, e⟩ := keysN_mem h
      exact ⟨i, by omega, e⟩
    · split at h
      · cases h
      · rw [List.mem_singleton] at h
        exact ⟨n, by omega, h⟩
theorem notM_snoc {u : Un} {code : Int} {l : List Nat} {i : Nat} : notM u code (l ++ [i]) = (notM u code l).tell i code := by unfold notM; rw [List.foldl_append]; rfl
theorem notM_take {u : Un} {code : Int} {l : List Nat} {k i : Nat} (h : l[k]? = some i) : (notM u code (l.take k)).tell i code = notM u code (l.take (k + 1)) := by
  rw [List.take_add_one, h, Option.toList_some, notM_snoc]
theorem tell_clen {u : Un} {n : Nat} {x : Int} {j : Nat} (h8 : u.g.length = 8) (hj : j < 8) : ((u.tell n x).guest j).codes.length ≤ (u.guest j).codes.length + 1 := by
  unfold Un.tell
  by_cases e : n = j
  · subst e; rw [guest_put h8 hj]; exact tellM_len _ _
  · rw [guest_other e]; omega
theorem notM_clen {code : Int} {j : Nat} (hj : j < 8) : ∀ (l : List Nat) {u : Un}, u.g.length = 8 → ((notM u code l).guest j).codes.length ≤ (u.guest j).codes.length + l.length
  | [], u, _ => Nat.le_refl _
  | n :: l, u, h8 => by
    have h1 := notM_clen (code := code) hj l (u := u.tell n code) (tell_len h8)
    have h2 := tell_clen (n := n) (x := code) h8 hj
    rw [List.length_cons]
    exact Nat.le_trans h1 (by omega)
/-! ### What stays true of a table -/
def goodT (t : Tb) : Prop := okT t ∧ RsM.inv t
def okCm (c : Cm) : Prop := (0 ≤ c.key ∧ c.key < 18446744073709551616) ∧ 0 ≤ c.new ∧ c.new < 18446744073709551616
theorem goodT_typ {t : Tb} (h : goodT t) : 0 ≤ t.typ ∧ t.typ < 16 := by
  rcases h.2 with ⟨_, h2⟩ | ⟨_, _, _, h2⟩
  · omega
  · have := typedB_iff.1 h2; omega
theorem goodT_hold {t : Tb} (h : goodT t) : t.hold = -1 ∨ (0 ≤ t.hold ∧ t.hold < 8) := inv_hold h.2
/-! ### What stays true of a unit -/
def goodU (u : Un) : Prop := goodT u.t ∧ okC u
theorem actM_rv {u : Un} {i : Nat} {c : Cm} (h1 : 10 ≤ c.kind) (h2 : c.kind ≤ 15) : actM u i c = (notM (u.setT (rvM u.t i c).t) (rvM u.t i c).code (rvM u.t i c).l, (rvM u.t i c).r) := by
  unfold actM resM
  rw [if_neg (by omega), if_neg (by omega), if_neg (by omega), if_neg (by omega), if_neg (by omega), if_neg (by omega), if_neg (by omega)]
theorem actM_keys {u : Un} {i : Nat} {c : Cm} (h : c.kind = 16) : actM u i c = (u, gave (keysB u.t)) := by
  unfold actM resM
  rw [if_neg (by omega), if_neg (by omega), if_neg (by omega), if_neg (by omega), if_neg (by omega), if_pos h]
theorem actM_hold {u : Un} {i : Nat} {c : Cm} (h : c.kind = 17) : actM u i c = (u, gave (holdB u.t)) := by
  unfold actM resM
  rw [if_neg (by omega), if_neg (by omega), if_neg (by omega), if_neg (by omega), if_neg (by omega), if_neg (by omega), if_pos h]
theorem rvM_reg {t : Tb} {i : Nat} {c : Cm} (h : c.kind = 10 ∨ c.kind = 11) : rvM t i c = regF t i c.key c.new (decide (c.kind = 11)) := by
  unfold rvM
  rcases h with h | h
  · rw [if_pos h, decide_eq_false (by omega)]
  · rw [if_neg (by omega), if_pos h, decide_eq_true h]
theorem rvM_rsv {t : Tb} {i : Nat} {c : Cm} (h : c.kind = 12) : rvM t i c = rsvF t i c.key c.typ := by unfold rvM; rw [if_neg (by omega), if_neg (by omega), if_pos h]
theorem rvM_rel {t : Tb} {i : Nat} {c : Cm} (h : c.kind = 13) : rvM t i c = relF t i c.key c.typ := by unfold rvM; rw [if_neg (by omega), if_neg (by omega), if_neg (by omega), if_pos h]
theorem rvM_clr {t : Tb} {i : Nat} {c : Cm} (h : c.kind = 14) : rvM t i c = clrF t i c.key := by unfold rvM; rw [if_neg (by omega), if_neg (by omega), if_neg (by omega), if_neg (by omega), if_pos h]
theorem rvM_pre {t : Tb} {i : Nat} {c : Cm} (h : c.kind = 15) : rvM t i c = preF t i c.key c.new c.typ := by unfold rvM; rw [if_neg (by omega), if_neg (by omega), if_neg (by omega), if_neg (by omega), if_neg (by omega)]
theorem rsvF_l {t : Tb} {i : Nat} {key typ : Int} : (rsvF t i key typ).l = [] := by
  unfold rsvF
  repeat' split
  all_goals rfl
section
variable {W0 w : World} {L : List HProp}
theorem On.nilData {r : Rp} (hd : r.data = []) (h : On W0 L w) : On W0 (OwnB (.slice none 0 0) r.data :: L) w := by rw [hd]; exact h.ownEmpty 1 none
end
end Go.Sl.UnM
/-
  Any bytes read as a unit: what is true of it, whatever they are. No program is named here.
-/
namespace Go.Sl.UnM
open Go Go.Sl Go.Sl.BitM Go.Sl.SpM Go.Sl.RsM Go.Sl.ByM
set_option linter.unusedVariables false
/-- A guest that was read. -/
def okGA (g : Gs) : Prop := (g.codes.length ≤ 70000 ∧ g.done.length < 65536) ∧ (∀ c ∈ g.codes, 0 ≤ c ∧ c < 65536) ∧ 0 ≤ g.floor ∧ g.floor < 18446744073709551616 ∧ ∀ x ∈ g.done, (0 ≤ x.1 ∧ x.1 < 18446744073709551616) ∧ okR x.2
theorem okGA_zero : okGA ⟨[], 0, []⟩ := ⟨⟨by decide, by decide⟩, (fun _ h => by cases h), by decide, by decide, (fun _ h => by cases h)⟩
theorem rd1 {s : RS} : (rdN 1 s).1 < 256 := rdN_lt
theorem rd2 {s : RS} : (rdN 2 s).1 < 65536 := rdN_lt
theorem rd4 {s : RS} : (rdN 4 s).1 < 4294967296 := rdN_lt
theorem rd8 {s : RS} : (rdN 8 s).1 < 18446744073709551616 := rdN_lt
theorem rdCodes_in : ∀ (n : Nat) (s : RS) (l : List Int), (∀ c ∈ l, 0 ≤ c ∧ c < 65536) → (∀ c ∈ (rdCodes n s l).1, 0 ≤ c ∧ c < 65536) ∧ (rdCodes n s l).1.length ≤ l.length + n
  | 0, s, l, h => ⟨h, Nat.le_refl _⟩
  | n + 1, s, l, h => by
    unfold rdCodes
    split
    · exact ⟨h, by show l.length ≤ _; omega⟩
    · have h2 : ∀ c ∈ l ++ [((rdN 2 s).1 : Int)], 0 ≤ c ∧ c < 65536 := by
        intro c hc
        rcases List.mem_append.1 hc with hc | hc
        · exact h c hc
        · have := List.mem_singleton.1 hc
          have h3 := rd2 (s := s)
          omega
      have h4 := rdCodes_in n (rdN 2 s).2 _ h2
      refine ⟨h4.1, Nat.le_trans h4.2 ?_⟩
      rw [List.length_append]
      simp only [List.length_cons, List.length_nil]
      omega
def okXA (x : Int × Rp) : Prop := (0 ≤ x.1 ∧ x.1 < 18446744073709551616) ∧ okR x.2
theorem rdOne_ok {s : RS} (h : s.1.length ≤ 10000) : okXA (rdOne s).1 ∧ (rdOne s).2.1.length ≤ 10000 := by
  have l1 := rdN_len (n := 8) (s := s)
  have l2 := rdN_len (n := 1) (s := (rdN 8 s).2)
  have l3 := rdN_len (n := 1) (s := (rdN 1 (rdN 8 s).2).2)
  have l4 := rdN_len (n := 2) (s := (rdN 1 (rdN 1 (rdN 8 s).2).2).2)
  have l5 := rdN_len (n := 4) (s := (rdN 2 (rdN 1 (rdN 1 (rdN 8 s).2).2).2).2)
  have l6 := rdP_len (s := (rdN 4 (rdN 2 (rdN 1 (rdN 1 (rdN 8 s).2).2).2).2).2)
  have b1 := rd8 (s := s)
  have b2 := rd1 (s := (rdN 8 s).2)
  have b3 := rd1 (s := (rdN 1 (rdN 8 s).2).2)
  have b4 := rd2 (s := (rdN 1 (rdN 1 (rdN 8 s).2).2).2)
  have b5 := rd4 (s := (rdN 2 (rdN 1 (rdN 1 (rdN 8 s).2).2).2).2)
  simp only [rdOne, okXA, okR]
  refine ⟨⟨⟨by omega, by omega⟩, by omega, by omega, by omega, by omega, by omega, by omega, by omega, by omega, ?_⟩, ?_⟩
  · omega
  · omega
theorem putD_in {D : List (Int × Rp)} {id : Int} {r : Rp} (h : ∀ x ∈ D, okXA x) (hr : okXA (id, r)) : (∀ x ∈ putD D id r, okXA x) ∧ (putD D id r).length ≤ D.length + 1 := by
  unfold putD
  split
  · refine ⟨fun x hx => ?_, by rw [List.length_map]; omega⟩
    obtain ⟨y, hy, e⟩ := List.mem_map.1 hx
    split at e
    · rw [← e]; exact hr
    · rw [← e]; exact h y hy
  · refine ⟨fun x hx => ?_, by rw [List.length_append]; exact Nat.le_refl _⟩
    rcases List.mem_append.1 hx with hx | hx
    · exact h x hx
    · rw [List.mem_singleton.1 hx]; exact hr
theorem rdDone_in : ∀ (n : Nat) (s : RS) (D : List (Int × Rp)), s.1.length ≤ 10000 → (∀ x ∈ D, okXA x) → (∀ x ∈ (rdDone n s D).1, okXA x) ∧ (rdDone n s D).1.length ≤ D.length + n
  | 0, s, D, hs, h => ⟨h, Nat.le_refl _⟩
  | n + 1, s, D, hs, h => by
    unfold rdDone
    split
    · exact ⟨h, by show D.length ≤ _; omega⟩
    · have h1 := rdOne_ok hs
      have h2 := putD_in (id := (rdOne s).1.1) (r := (rdOne s).1.2) h h1.1
      have h4 := rdDone_in n (rdOne s).2 _ h1.2 h2.1
      exact ⟨h4.1, by have := h4.2; have := h2.2; omega⟩
theorem readG_ok {b : List UInt8} (hb : b.length ≤ 10000) : okGA (readG b).2 := by
  have a1 := rd2 (s := (b, false))
  have l1 := rdN_len (n := 2) (s := (b, false))
  have hc := rdCodes_in (rdN 2 (b, false)).1 (rdN 2 (b, false)).2 [] (fun _ h => by cases h)
  have l2 := rdCodes_len (rdN 2 (b, false)).1 (rdN 2 (b, false)).2 []
  have l3 := rdN_len (n := 8) (s := (rdCodes (rdN 2 (b, false)).1 (rdN 2 (b, false)).2 []).2)
  have a3 := rd8 (s := (rdCodes (rdN 2 (b, false)).1 (rdN 2 (b, false)).2 []).2)
  have l4 := rdN_len (n := 2) (s := (rdN 8 (rdCodes (rdN 2 (b, false)).1 (rdN 2 (b, false)).2 []).2).2)
  have a4 := rd2 (s := (rdN 8 (rdCodes (rdN 2 (b, false)).1 (rdN 2 (b, false)).2 []).2).2)
  have l1' : (rdN 2 (b, false)).2.1.length ≤ b.length := l1
  have hd := rdDone_in (rdN 2 (rdN 8 (rdCodes (rdN 2 (b, false)).1 (rdN 2 (b, false)).2 []).2).2).1 (rdN 2 (rdN 8 (rdCodes (rdN 2 (b, false)).1 (rdN 2 (b, false)).2 []).2).2).2 [] (by omega) (fun _ h => by cases h)
  have n1 := hc.2
  have n2 := hd.2
  simp only [List.length_nil, Nat.zero_add] at n1 n2
  simp only [readG, okGA]
  exact ⟨⟨by omega, by omega⟩, hc.1, by omega, by omega, hd.1⟩
theorem rdGs_ok : ∀ (n : Nat) (s : RS) (l : List Gs) (st : RS) (gl : List Gs), s.1.length ≤ 10000 → (∀ g ∈ l, okGA g) → rdGs n s l = some (st, gl) → ∀ g ∈ gl, okGA g
  | 0, s, l, st, gl, hs, h, he => by
    simp only [rdGs, Option.some.injEq, Prod.mk.injEq] at he
    rw [← he.2]; exact h
  | n + 1, s, l, st, gl, hs, h, he => by
    rw [rdGs] at he
    split at he
    · have hl := rdP_len (s := s)
      refine rdGs_ok n _ _ st gl (by omega) ?_ he
      intro g hg
      rcases List.mem_append.1 hg with hg | hg
      · exact h g hg
      · rw [List.mem_singleton.1 hg]; exact readG_ok (by omega)
    · cases he
theorem guest_of {u : Un} {p : Gs → Prop} (h : ∀ g ∈ u.g, p g) (h0 : p ⟨[], 0, []⟩) (i : Nat) : p (u.guest i) := by
  unfold Un.guest
  rw [List.getD_eq_getElem?_getD]
  cases e : u.g[i]? with
  | none => exact h0
  | some g => exact h g (List.mem_of_getElem? e)
theorem decT0_inv (b : List UInt8) : RsM.inv (decT0 b) := by
  unfold decT0
  split
  · rename_i h
    obtain ⟨h1, h2, h3⟩ := h
    refine .inr ⟨by show (0 : Int) ≤ ((b.getD 68 0).toNat : Int); omega, by show (((b.getD 68 0).toNat : Int)) < 8; omega, ?_, h3⟩
    exact h2
  · exact .inl ⟨rfl, rfl⟩
theorem decT_good {b : List UInt8} {t : Tb} (h : decT b = some t) : goodT t := by
  refine ⟨decT_ok h, ?_⟩
  unfold decT at h
  split at h
  · cases h; exact decT0_inv b
  · cases h
theorem decU0_ok {b : List UInt8} {u : Un} (hb : b.length ≤ 10000) (h : decU0 b = some u) : goodT u.t ∧ ∀ i, okGA (u.guest i) := by
  unfold decU0 at h
  cases h1 : decS (rdP (b, false)).1 with
  | none => rw [h1] at h; cases h
  | some s =>
    cases h2 : decT (rdP (rdP (b, false)).2).1 with
    | none => rw [h1, h2] at h; cases h
    | some t =>
      cases h3 : rdGs 8 (rdP (rdP (b, false)).2).2 [] with
      | none => rw [h1, h2, h3] at h; cases h
      | some p =>
        obtain ⟨st, gl⟩ := p
        rw [h1, h2, h3] at h
        simp only [Option.bind_some] at h
        split at h
        · cases h
        · cases h
          have l1 := rdP_len (s := (b, false))
          have l2 := rdP_len (s := (rdP (b, false)).2)
          have l1' : (rdP (b, false)).2.1.length ≤ b.length := l1.2
          refine ⟨decT_good h2, guest_of ?_ okGA_zero⟩
          exact rdGs_ok 8 _ [] st gl (by omega) (fun _ h => by cases h) h3
theorem decU0_good {b : List UInt8} {u : Un} (hb : b.length ≤ 10000) (h : decU0 b = some u) : goodU u ∧ small 999000 u := by
  have h1 := decU0_ok hb h
  exact ⟨⟨h1.1, fun i _ c hc => (h1.2 i).2.1 c hc⟩, fun i _ => Nat.le_trans (h1.2 i).1.1 (by decide)⟩
end Go.Sl.UnM
/-
  A unit: a guest of many replies, a unit written: the contracts. Lines of walks printed by a program of the prover's.
-/
namespace Go.Proofs.YtjbgiingimhnnaaGreat
open Go.Proofs.Tryz
open Go Go.Sl Go.Sl.BitM Go.Sl.SpM Go.Sl.RsM Go.Sl.ByM Go.Sl.UnM
set_option linter.unusedVariables false
set_option linter.unusedSimpArgs false
set_option maxHeartbeats 1000000
set_option maxRecDepth 8000
variable {W0 w : World} {L F : List HProp}
theorem gwriteA_ok {codes : List Int} {fl mb ck gc : Nat} {done : List (Int × Rp)} {ga : Option Addr} {kvs : List KV} {pool : PoolL} (hok : okD pool done kvs) (hg : okGA (⟨codes, ((fl : Nat) : Int), done⟩ : Gs)) (h : On W0 (Own 1 (.slice ga codes.length gc) codes.length (cV codes) :: MapC mb .u64 kvs ck :: Pool pool :: L) w) : Calls Tryz.prog 50 #[.agg #[.slice ga codes.length gc, .int .u64 ((fl : Nat) : Int), .map (some mb)]] w (Ret fun v w' => ∃ a c os, os.length ≤ 2000000000 ∧ v = .slice a os.length c ∧ On W0 (OwnB (.slice a os.length c) os :: Own 1 (.slice ga codes.length gc) codes.length (cV codes) :: MapC mb .u64 kvs ck :: Pool pool :: L) w') := by
  refine enter func50 rfl ntmps50 rfl ?_
  have hmx := maxLen_eq
  obtain ⟨⟨hc1, hdl⟩, hc2, hf1, hf2, hdn⟩ := hg
  have hc1 : codes.length ≤ 70000 := hc1
  have hdl : done.length < 65536 := hdl
  have hf2 : ((fl : Nat) : Int) < 18446744073709551616 := hf2
  have hkl : kvs.length = done.length := by have := hok.1.length_eq; simpa using this
  have e0 : [] ++ be codes.length 2 = (codesB codes 0) := by unfold codesB; simp
  have hhl := headB_len (⟨codes, ((fl : Nat) : Int), done⟩ : Gs)
  have hhl : (headB (⟨codes, ((fl : Nat) : Int), done⟩ : Gs)).length = 12 + codes.length * 2 := hhl
  refine W.seq (W.region (WL.eff (eff_box (v := .agg _) (l := [.slice ga codes.length gc, .int .u64 ((fl : Nat) : Int), .map (some mb)]) h rfl rfl) rfl rfl ?_))
  rintro _ w ⟨b1, rfl, h⟩
  refine WL.val run_assign rfl rfl (WL.nil (W.seq (W.region (WL.val (run_fieldAddr 0 underlying65 rfl sizeOf62 rfl rfl) rfl rfl (WL.val (run_load1 isAgg62 rfl (h.cellB rfl)) rfl rfl (WL.val (run_lenSlice underlying62 rfl) rfl rfl (WL.val (run_convIn underlying3 underlying23 rfl (by show (0 : Int) ≤ _; (try dsimp only); omega) (by show _ ≤ (18446744073709551615 : Int); (try dsimp only); omega)) rfl rfl ?_)))))))
  refine WL.eff (eff_call call59 (bput_ok (ax := none) (cx := 0) (bs := []) (v := codes.length) (n := 2) h Gives.nilB (by decide) (by decide) (by omega) (by decide))) rfl rfl ?_
  rintro _ w ⟨a13, hv, h⟩
  rw [e0] at hv h
  subst hv
  refine WL.val run_assign rfl rfl (WL.nil (W.seq (W.seq (W.region (WL.val (run_fieldAddr 0 underlying65 rfl sizeOf62 rfl rfl) rfl rfl (WL.val (run_load1 isAgg62 rfl (h.cellB rfl)) rfl rfl (WL.val (run_lenSlice underlying62 rfl) rfl rfl ?_)))))))
  refine WL.val run_move rfl rfl (WL.nil (W.block ?_))
  refine W.loop (fun (k : Nat) env w => k ≤ codes.length ∧ ∃ (j : Env) (ao : Option Addr) (co : Nat), env = mkE j [(1, .pointer (some ⟨b1, 0, none⟩)), (3, .slice ao (codesB codes k).length co), (15, .slice ga codes.length gc), (16, .int .i64 (codes.length : Nat)), (17, .int .i64 (k : Nat))] ∧ On W0 (OwnB (.slice ao (codesB codes k).length co) (codesB codes k) :: Own 1 (.slice ga codes.length gc) codes.length (cV codes) :: MapC mb .u64 kvs ck :: Pool pool :: blk b1 [.slice ga codes.length gc, .int .u64 ((fl : Nat) : Int), .map (some mb)] 65 :: L) w) (fun k => codes.length - k) (0) ?_ ?_
  · exact ⟨Nat.zero_le _, _, a13, _, mkE_of ⟨rfl, rfl, rfl, rfl, rfl, trivial⟩, h.to⟩
  rintro k env w ⟨hk8, j, ao, co, rfl, h⟩
  have hlk := codesB_len codes k hk8
  refine W.seq (W.region (WL.val (run_lss rfl rfl) rfl rfl (WL.nil (W.seq ?_))))
  refine W.condIf rfl (fun c6 => ?_) (fun c6 => ?_)
  ·
   refine W.skip (W.seq ?_)
   have hk7 : k < codes.length := by omega
   have ob_ : ∃ c, codes[k]? = some c := ⟨codes[k]'hk7, by simp⟩
   obtain ⟨c0, hcx⟩ := ob_
   have hcc := hc2 c0 (List.mem_of_getElem? hcx)
   have ob_ := Int.eq_ofNat_of_zero_le hcc.1
   obtain ⟨cn, hcn⟩ := ob_
   subst hcn
   have hcs : (codesB codes (k + 1)) = (codesB codes k) ++ be cn 2 := codesB_succ hcx
   have ob3_ := Own.addr (h.own (.slice ga codes.length gc)) (by omega)
   obtain ⟨ba, oa, haa⟩ := ob3_
   subst haa
   refine W.block (W.seq (W.region (WL.val (run_indexAddr underlying62 sizeOf3 rfl rfl (by omega) (by omega)) rfl rfl (WL.val (run_load1 isAgg3 rfl ((h.cellsO (v := .slice (some ⟨ba, oa, none⟩) codes.length gc)).elem (i := k) (vs := [.int .i64 (cn : Int)]) (by omega) (cV_get hcx) 0 _ rfl)) rfl rfl (WL.val run_assign rfl rfl (WL.nil (W.region ?_)))))))
   refine WL.val run_move rfl rfl (WL.val run_move rfl rfl (WL.val (run_convIn underlying3 underlying23 rfl (by show (0 : Int) ≤ _; (try dsimp only); omega) (by show _ ≤ (18446744073709551615 : Int); (try dsimp only); omega)) rfl rfl (WL.eff (eff_call call59 (bput_ok (v := cn) (n := 2) (bs := (codesB codes k)) h (Gives.ownO (v := .slice ao (codesB codes k).length co)) (by decide) (by decide) (by omega) (by omega))) rfl rfl ?_)))
   rintro _ w ⟨a24, rfl, h⟩
   refine WL.val run_assign rfl rfl (WL.nil (W.region (WL.val (run_incN rfl rfl (by omega)) rfl rfl (WL.val run_move rfl rfl (WL.nil ?_)))))
   rw [← hcs] at h
   exact ⟨k + 1, ⟨by omega, _, a24, _, mkE_of ⟨rfl, congrArg (fun q : List UInt8 => Value.slice a24 q.length q.length) hcs.symm, rfl, rfl, rfl, trivial⟩, h.to⟩, by show codes.length - (k + 1) < codes.length - k; omega⟩
  refine W.exit (W.seq ?_)
  have ob_ : k = codes.length := by omega
  obtain rfl := ob_
  have hl29 : ((codesB codes codes.length) ++ be fl 8).length = 10 + codes.length * 2 := by rw [List.length_append, be_length]; omega
  refine W.draw Tryz.follows h (fun w h => ?_)
  refine WT.pure 0 rfl (by kernel_rfl) (fun w' => run_move) rfl rfl (WT.pure 1 rfl (by kernel_rfl) (fun w' => (run_fieldAddr 1 underlying65 rfl sizeOf23 rfl rfl)) rfl rfl (WT.load1 2 rfl (by kernel_rfl) isAgg23 rfl (h.cellB rfl) rfl rfl (WT.pure 4 rfl (by kernel_rfl) (fun w' => (run_fieldAddr 2 underlying65 rfl sizeOf63 rfl rfl)) rfl rfl (WT.load1 5 rfl (by kernel_rfl) isAgg63 rfl (h.cellB rfl) rfl rfl (WT.eff 3 [true, false] rfl (by kernel_rfl) (by kernel_rfl) (eff_call call59 (bput_ok (v := fl) (n := 8) (bs := (codesB codes codes.length)) h (Gives.ownO (v := .slice ao (codesB codes codes.length).length co)) (by decide) (by decide) (by omega) (by omega))) rfl rfl ?_)))))
  rintro _ w ⟨a29, rfl, h⟩
  refine ⟨⟨h.cellB rfl, trivial⟩, ?_⟩
  refine WT.take 6 (fun w => w.heap[mb]? = some (mapO .u64 kvs ck)) rfl (by kernel_rfl) rfl rfl ((On.mapC (h.fetch (MapC mb .u64 kvs ck))).2) (fun w' hC => run_lenMap hC rfl underlying63 rfl hkl) (WT.pure 7 rfl (by kernel_rfl) (fun w' => (run_convIn underlying3 underlying23 rfl (by show (0 : Int) ≤ _; (try dsimp only); omega) (by show _ ≤ (18446744073709551615 : Int); (try dsimp only); omega))) rfl rfl (WT.eff 8 [false, false] rfl (by kernel_rfl) (by kernel_rfl) (eff_call call59 (bput_ok (v := done.length) (n := 2) (bs := ((codesB codes codes.length) ++ be fl 8)) h (Gives.ownO (v := .slice a29 ((codesB codes codes.length) ++ be fl 8).length ((codesB codes codes.length) ++ be fl 8).length)) (by decide) (by decide) (by omega) (by omega))) rfl rfl ?_))
  rintro _ w ⟨a34, rfl, h⟩
  have h : On W0 (OwnB (.slice a34 (headB (⟨codes, ((fl : Nat) : Int), done⟩ : Gs)).length (headB (⟨codes, ((fl : Nat) : Int), done⟩ : Gs)).length) (headB (⟨codes, ((fl : Nat) : Int), done⟩ : Gs)) :: _) w := h
  refine ⟨trivial, ?_⟩
  refine WT.pure 9 rfl (by kernel_rfl) (fun w' => run_assign) rfl rfl (WT.done (by kernel_rfl) (W.seq (W.seq (W.region (WL.val (run_fieldAddr 2 underlying65 rfl sizeOf63 rfl rfl) rfl rfl (WL.val (run_load1 isAgg63 rfl (h.cellB rfl)) rfl rfl (WL.eff (eff_call call103 (keysU_ok (h.fetch (MapC mb .u64 kvs ck)))) rfl rfl ?_)))))))
  rintro _ w ⟨bb, rfl, h⟩
  refine WL.eff (eff_call call102 (sortedR_ok (by omega) h)) rfl rfl ?_
  rintro _ w ⟨as_, cs_, ss, hsl, hS2, rfl, h⟩
  have h := h.fetch (OwnB (.slice a34 (headB (⟨codes, ((fl : Nat) : Int), done⟩ : Gs)).length (headB (⟨codes, ((fl : Nat) : Int), done⟩ : Gs)).length) (headB (⟨codes, ((fl : Nat) : Int), done⟩ : Gs)))
  have ob_ : ∃ os0, os0 = (headB (⟨codes, ((fl : Nat) : Int), done⟩ : Gs)) := ⟨_, rfl⟩
  obtain ⟨os0, hos0⟩ := ob_
  rw [← hos0] at h hhl
  refine WL.val (run_lenSlice underlying129 rfl) rfl rfl (WL.val run_move rfl rfl (WL.nil (W.block ?_)))
  refine W.loop (fun (k : Nat) env w => k ≤ ss.length ∧ ∃ (j : Env) (ao : Option Addr) (co : Nat) (os : List UInt8), os.length ≤ 200000 + k * 20000 ∧ env = mkE j [(1, .pointer (some ⟨b1, 0, none⟩)), (3, .slice ao os.length co), (38, .slice as_ ss.length cs_), (39, .int .i64 (ss.length : Nat)), (40, .int .i64 (k : Nat))] ∧ On W0 (OwnB (.slice ao os.length co) os :: Own 1 (.slice as_ ss.length cs_) ss.length (ss.map (Value.int .u64)) :: Own 1 (.slice ga codes.length gc) codes.length (cV codes) :: MapC mb .u64 kvs ck :: Pool pool :: blk b1 [.slice ga codes.length gc, .int .u64 ((fl : Nat) : Int), .map (some mb)] 65 :: L) w) (fun k => ss.length - k) (0) ?_ ?_
  · exact ⟨Nat.zero_le _, _, a34, _, os0, by omega, mkE_of ⟨rfl, congrArg (fun q : List UInt8 => Value.slice a34 q.length q.length) hos0.symm, rfl, rfl, rfl, trivial⟩, h.to⟩
  rintro k env w ⟨hk8, j, ao, co, os, hosl, rfl, h⟩
  refine W.seq (W.region (WL.val (run_lss rfl rfl) rfl rfl (WL.nil (W.seq ?_))))
  refine W.condIf rfl (fun c18 => ?_) (fun c18 => ?_)
  ·
   refine W.skip (W.seq ?_)
   have hk7 : k < ss.length := by omega
   have ob_ : ∃ id, ss[k]? = some id := ⟨ss[k]'hk7, by simp⟩
   obtain ⟨id, hidk⟩ := ob_
   have hidm := hS2 id (List.mem_of_getElem? hidk)
   have hidd := hok.1.mem_iff.1 hidm
   have exd_ := List.mem_map.1 hidd
   obtain ⟨⟨id', r⟩, hxm, hide⟩ := exd_
   have hide : id' = id := hide
   subst hide
   have hdnx := hdn _ hxm
   obtain ⟨⟨hi1, hi2⟩, hr⟩ := hdnx
   have exi_ := Int.eq_ofNat_of_zero_le hi1
   obtain ⟨idn, hidn⟩ := exi_
   have hidn : id' = (idn : Int) := hidn
   subst hidn
   obtain ⟨st, ky, cd, dt, inf⟩ := r
   obtain ⟨r1, r2, r3, r4, r5, r6, r7, r8, r9⟩ := hr
   have ob_ := Int.eq_ofNat_of_zero_le (show 0 ≤ cd from r5)
   obtain ⟨cdn, hcdn⟩ := ob_
   subst hcdn
   have ob_ := Int.eq_ofNat_of_zero_le (show 0 ≤ inf from r7)
   obtain ⟨infn, hinfn⟩ := ob_
   subst hinfn
   have r6 : (cdn : Int) < 65536 := r6
   have r8 : (infn : Int) < 4294967296 := r8
   have r9 : dt.length ≤ 10000 := r9
   have hi2 : (idn : Int) < 18446744073709551616 := hi2
   have hlk := look_ok hok ((idn : Nat) : Int)
   rcases hlk with ⟨r', dv, hl1, hl2, hp⟩ | ⟨_, _, hno⟩
   rotate_left
   · exact (hno (List.mem_map.2 ⟨_, hxm, rfl⟩)).elim
   have hre := Option.some.inj (hl1.symm.trans (lookD_mem hok.2.1 hxm))
   subst hre
   have hfm := Cells.form (On.reads (h.fetch (Pool pool)) (Gives.pool hp))
   obtain ⟨ad, cdd, hdv, _⟩ := hfm
   subst hdv
   have ob4_ := Own.addr (h.own (.slice as_ ss.length cs_)) (by omega)
   obtain ⟨bs_, os_, has⟩ := ob4_
   subst has
   have hss6 : ss.length < 65536 := by omega
   have hlo : os.length ≤ 1400000000 := by omega
   have hq1 : (os ++ be idn 8).length = os.length + 8 := by rw [List.length_append, be_length]
   have hq2 : ((os ++ be idn 8) ++ [byteI st, byteI ky]).length = os.length + 10 := by rw [List.length_append]; simp only [List.length_cons, List.length_nil]; omega
   have hq3 : (((os ++ be idn 8) ++ [byteI st, byteI ky]) ++ be cdn 2).length = os.length + 12 := by rw [List.length_append, be_length]; omega
   have hq4 : ((((os ++ be idn 8) ++ [byteI st, byteI ky]) ++ be cdn 2) ++ be infn 4).length = os.length + 16 := by rw [List.length_append, be_length]; omega
   have hq5 : (partB ((((os ++ be idn 8) ++ [byteI st, byteI ky]) ++ be cdn 2) ++ be infn 4) dt).length = os.length + 20 + dt.length := by unfold partB; rw [List.length_append, List.length_append, be_length]; omega
   refine W.block (W.seq (W.region (WL.val (run_indexAddr underlying129 sizeOf23 rfl rfl (by omega) (by omega)) rfl rfl ?_)))
   refine WL.val (run_load1 isAgg23 rfl ((h.cellsO (v := .slice (some ⟨bs_, os_, none⟩) ss.length cs_)).elem (i := k) (vs := [.int .u64 ((idn : Nat) : Int)]) (by omega) (one_rowU (by rw [List.getElem?_map, hidk]; rfl)) 0 _ rfl)) rfl rfl ?_
   refine WL.val run_assign rfl rfl (WL.nil (W.seq (W.region (WL.val (run_fieldAddr 2 underlying65 rfl sizeOf63 rfl rfl) rfl rfl (WL.val (run_load1 isAgg63 rfl (h.cellB rfl)) rfl rfl (WL.val run_move rfl rfl (WL.val (run_lookupV (v := (⟨st, ky, (cdn : Int), dt, (infn : Int)⟩ : Rp).val (.slice ad dt.length cdd)) (On.mapC (h.fetch (MapC mb .u64 kvs ck))).2 underlying63 underlying23 zeroValue36 rfl rfl (by rw [hl2]; rfl)) rfl rfl ?_)))))))
   refine WL.eff (eff_alloc h zeroValue36 rfl) rfl rfl ?_
   rintro _ w ⟨b8, rfl, h⟩
   refine WL.eff (eff_storeW (vs := [.int .i64 _, .int .i64 _, .int .i64 _, .slice _ _ _, .int .i64 _]) h sizeOf36 rfl rfl rfl rfl rfl) rfl rfl ?_
   rintro _ w h
   refine WL.nil (W.seq (W.region (WL.val run_move rfl rfl (WL.val run_move rfl rfl (WL.eff (eff_call call59 (bput_ok (v := idn) (n := 8) (bs := os) h (Gives.ownO (v := .slice ao os.length co)) (by decide) (by decide) (by omega) (by omega))) rfl rfl ?_)))))
   rintro _ w ⟨a50, rfl, h⟩
   refine WL.val run_assign rfl rfl (WL.nil (W.seq (W.region (WL.val run_move rfl rfl (WL.val (run_fieldAddr 0 underlying36 rfl sizeOf3 rfl rfl) rfl rfl (WL.val (run_load1 isAgg3 rfl (h.cellB rfl)) rfl rfl (WL.val (run_convByteI underlying3 underlying5 rfl) rfl rfl ?_)))))))
   refine WL.val (run_fieldAddr 1 underlying36 rfl sizeOf3 rfl rfl) rfl rfl (WL.val (run_load1 isAgg3 rfl (h.cellB rfl)) rfl rfl (WL.val (run_convByteI underlying3 underlying5 rfl) rfl rfl (WL.eff (eff_mkSlice (zl := [.int .u8 0, .int .u8 0]) (out := [.int .u8 _, .int .u8 _]) h underlying22 sizeOf5 zeroValue5 (by decide) (by kernel_rfl) rfl rfl (by simp) (⟨⟨_, _, rfl, rfl, by decide⟩, ⟨⟨_, _, rfl, rfl, by decide⟩, trivial⟩⟩) rfl rfl (by simp [maxLen])) rfl rfl ?_)))
   rintro _ w ⟨b58, rfl, h⟩
   refine WL.eff (eff_app (c2 := 2) (bytes := 1) h rfl rfl (h.cellsO (v := .slice (some ⟨b58, 0, none⟩) 2 2)) underlying22 rfl rfl rfl rfl rfl (by omega) (by omega) (by simp [Value.oneCell'])) rfl rfl ?_
   rintro _ w ⟨a59, c59, hv59, h⟩
   have e2 : bytesV (os ++ be idn 8) ++ [.int .u8 ((byteI st).toNat : Int), .int .u8 ((byteI ky).toNat : Int)] = bytesV ((os ++ be idn 8) ++ [byteI st, byteI ky]) := by simp [bytesV, byteV]
   have e3 : (os ++ be idn 8).length + 2 = ((os ++ be idn 8) ++ [byteI st, byteI ky]).length := by rw [List.length_append (bs := [byteI st, byteI ky])]; rfl
   have h : On W0 (Own 1 (.slice a59 ((os ++ be idn 8).length + 2) c59) ((os ++ be idn 8).length + 2) (bytesV (os ++ be idn 8) ++ [.int .u8 ((byteI st).toNat : Int), .int .u8 ((byteI ky).toNat : Int)]) :: _) w := h
   rw [e2, e3] at h
   rw [e3] at hv59
   subst hv59
   refine WL.val run_assign rfl rfl (WL.nil (W.seq ?_))
   refine W.draw Tryz.follows h (fun w h => ?_)
   refine WT.pure 0 rfl (by kernel_rfl) (fun w' => run_move) rfl rfl (WT.pure 1 rfl (by kernel_rfl) (fun w' => (run_fieldAddr 2 underlying36 rfl sizeOf3 rfl rfl)) rfl rfl (WT.load1 2 rfl (by kernel_rfl) isAgg3 rfl (h.cellB rfl) rfl rfl (WT.pure 3 rfl (by kernel_rfl) (fun w' => (run_convIn underlying3 underlying23 rfl (by show (0 : Int) ≤ _; (try dsimp only); omega) (by show _ ≤ (18446744073709551615 : Int); (try dsimp only); omega))) rfl rfl (WT.pure 5 rfl (by kernel_rfl) (fun w' => (run_fieldAddr 4 underlying36 rfl sizeOf3 rfl rfl)) rfl rfl (WT.load1 6 rfl (by kernel_rfl) isAgg3 rfl (h.cellB rfl) rfl rfl (WT.pure 7 rfl (by kernel_rfl) (fun w' => (run_convIn underlying3 underlying23 rfl (by show (0 : Int) ≤ _; (try dsimp only); omega) (by show _ ≤ (18446744073709551615 : Int); (try dsimp only); omega))) rfl rfl (WT.eff 4 [true, false] rfl (by kernel_rfl) (by kernel_rfl) (eff_call call59 (bput_ok (v := cdn) (n := 2) (bs := ((os ++ be idn 8) ++ [byteI st, byteI ky])) h (Gives.ownO (v := .slice a59 ((os ++ be idn 8) ++ [byteI st, byteI ky]).length c59)) (by decide) (by decide) (by omega) (by omega))) rfl rfl ?_)))))))
   rintro _ w ⟨a64, rfl, h⟩
   refine ⟨⟨h.cellB rfl, trivial⟩, ?_⟩
   refine WT.eff 8 [false] rfl (by kernel_rfl) (by kernel_rfl) (eff_call call59 (bput_ok (v := infn) (n := 4) (bs := (((os ++ be idn 8) ++ [byteI st, byteI ky]) ++ be cdn 2)) h (Gives.ownO (v := .slice a64 (((os ++ be idn 8) ++ [byteI st, byteI ky]) ++ be cdn 2).length (((os ++ be idn 8) ++ [byteI st, byteI ky]) ++ be cdn 2).length)) (by decide) (by decide) (by omega) (by omega))) rfl rfl ?_
   rintro _ w ⟨a68, rfl, h⟩
   refine ⟨trivial, ?_⟩
   refine WT.pure 9 rfl (by kernel_rfl) (fun w' => run_assign) rfl rfl (WT.done (by kernel_rfl) (W.region (WL.val run_move rfl rfl (WL.val (run_fieldAddr 3 underlying36 rfl sizeOf22 rfl rfl) rfl rfl (WL.val (run_load1 isAgg22 rfl (h.cellB rfl)) rfl rfl ?_)))))
   refine WL.eff (eff_call call47 (upart_ok (bs := ((((os ++ be idn 8) ++ [byteI st, byteI ky]) ++ be cdn 2) ++ be infn 4)) (vs := dt) (by omega) (by omega) h (Gives.ownO (v := .slice a68 ((((os ++ be idn 8) ++ [byteI st, byteI ky]) ++ be cdn 2) ++ be infn 4).length ((((os ++ be idn 8) ++ [byteI st, byteI ky]) ++ be cdn 2) ++ be infn 4).length)) (Gives.to (T := [Pool pool]) (Gives.pool hp)))) rfl rfl ?_
   rintro _ w ⟨a72, c72, rfl, h⟩
   refine WL.val run_assign rfl rfl (WL.nil (W.region (WL.val (run_incN rfl rfl (by omega)) rfl rfl (WL.val run_move rfl rfl (WL.nil ?_)))))
   exact ⟨k + 1, ⟨by omega, _, a72, c72, _, by rw [hq5]; omega, mkE_of ⟨rfl, rfl, rfl, rfl, rfl, trivial⟩, h.to⟩, by show ss.length - (k + 1) < ss.length - k; omega⟩
  refine W.exit (W.seq (W.region (WL.val run_move rfl rfl (WL.val run_assign rfl rfl (WL.nil (W.ret (bodyQ.r1 (v := .slice _ _ _) results50 rfl ?_)))))))
  exact ⟨ao, co, os, by omega, rfl, h.to⟩
end Go.Proofs.YtjbgiingimhnnaaGreat
/-
  A unit: a unit of many replies written: the contracts. Lines of walks printed by a program of the prover's.
-/
namespace Go.Proofs.YtjbgiingimhnnaaGreat
open Go.Proofs.Tryz
open Go Go.Sl Go.Sl.BitM Go.Sl.SpM Go.Sl.RsM Go.Sl.ByM Go.Sl.UnM
set_option linter.unusedVariables false
set_option linter.unusedSimpArgs false
set_option maxHeartbeats 1000000
set_option maxRecDepth 8000
variable {W0 w : World} {L F : List HProp}
theorem uencodeA_ok {bu : Nat} {u : Un} {pool : PoolL} {ms : List Nat} (hcap : capS u.s) (hT : okT u.t) (hG : ∀ i, okGA (u.guest i)) (h0 : (SpM.encS u.s).length ≤ 10000000000) (h : On W0 (UnP 68 105 113 bu pool ms u :: Pool pool :: L) w) : Calls Tryz.prog 17 #[.pointer (some ⟨bu, 0, none⟩)] w (Ret fun v w' => ∃ a es, v = .slice a es.length es.length ∧ On W0 (OwnB (.slice a es.length es.length) es :: UnP 68 105 113 bu pool ms u :: Pool pool :: L) w') := by
  refine enter func17 rfl ntmps17 rfl ?_
  have hmx := maxLen_eq
  have ob_ := openU h
  obtain ⟨bs, bt, gs, hm, hl, h⟩ := ob_
  have hgl : gs.length = 8 := by rw [← hl, ← hm.1, List.length_map]
  have hrl : (gs.flatMap GX.row).length = 24 := by rw [rows_len, hgl]
  have hv24 : ((ucells bs bt gs).drop (0 + 2)).take 24 = gs.flatMap GX.row := by show (gs.flatMap GX.row).take 24 = _; exact List.take_of_length_le (by omega)
  have hp1 : (partB [] (SpM.encS u.s)).length = 4 + (SpM.encS u.s).length := by unfold partB; simp only [List.length_append, be_length, List.length_nil, Nat.zero_add]
  have htl : (encT u.t).length = 70 := by unfold encT; rw [List.length_append, encTK_len]; rfl
  refine W.seq (W.region (WL.val run_assign rfl rfl (WL.nil (W.seq ?_))))
  refine W.draw Tryz.follows h (fun w h => ?_)
  refine WT.pure 0 rfl (by kernel_rfl) (fun w' => run_move) rfl rfl (WT.pure 1 rfl (by kernel_rfl) (fun w' => (run_nilCheck rfl)) rfl rfl (WT.pure 2 rfl (by kernel_rfl) (fun w' => (run_fieldAddr 0 underlying68 rfl sizeOf56 rfl rfl)) rfl rfl (WT.load1 3 rfl (by kernel_rfl) isAgg56 rfl (h.cellB rfl) rfl rfl (WT.pure 6 rfl (by kernel_rfl) (fun w' => run_move) rfl rfl (WT.pure 7 rfl (by kernel_rfl) (fun w' => (run_nilCheck rfl)) rfl rfl (WT.pure 8 rfl (by kernel_rfl) (fun w' => (run_fieldAddr 1 underlying68 rfl sizeOf59 rfl rfl)) rfl rfl (WT.load1 9 rfl (by kernel_rfl) isAgg59 rfl (h.cellB rfl) rfl rfl ?_)))))))
  refine WT.eff 4 [true, false] rfl (by kernel_rfl) (by kernel_rfl) (eff_call call48 (sencode_ok (b := bs) hcap (h.fetch (SpP 105 bs u.s)))) rfl rfl ?_
  rintro _ w ⟨a10, rfl, h⟩
  refine ⟨⟨h.cellB rfl, trivial⟩, ?_⟩
  refine WT.eff 5 [true] rfl (by kernel_rfl) (by kernel_rfl) (eff_call call47 (upart_ok (ab := none) (cb := 0) (bs := []) (vs := (SpM.encS u.s)) (by decide) (by omega) h Gives.nilB (Gives.ownO (v := .slice a10 (SpM.encS u.s).length (SpM.encS u.s).length)))) rfl rfl ?_
  rintro _ w ⟨a11, c11, rfl, h⟩
  refine ⟨⟨h.cellB rfl, trivial⟩, ?_⟩
  refine WT.eff 10 [false] rfl (by kernel_rfl) (by kernel_rfl) (eff_call call49 (rencode_ok (b := bt) hT (h.fetch (blk bt u.t.cells 113)))) rfl rfl ?_
  rintro _ w ⟨a16, c16, rfl, h⟩
  refine ⟨trivial, ?_⟩
  refine WT.eff 11 [] rfl (by kernel_rfl) (by kernel_rfl) (eff_call call47 (upart_ok (bs := (partB [] (SpM.encS u.s))) (vs := encT u.t) (by omega) (by omega) h (Gives.ownO (v := .slice a11 (partB [] (SpM.encS u.s)).length c11)) (Gives.ownO (v := .slice a16 (encT u.t).length c16)))) rfl rfl ?_
  rintro _ w ⟨a17, c17, rfl, h⟩
  have ob_ : ∃ e0, e0 = partB (partB [] (SpM.encS u.s)) (encT u.t) := ⟨_, rfl⟩
  obtain ⟨e0, he0⟩ := ob_
  have hl0 : e0.length ≤ 20000000000 := by rw [he0]; unfold partB; rw [List.length_append, List.length_append, be_length]; have := hp1; unfold partB at this; omega
  rw [← he0] at h
  refine ⟨trivial, ?_⟩
  refine WT.pure 12 rfl (by kernel_rfl) (fun w' => run_assign) rfl rfl (WT.done (by kernel_rfl) (W.seq (W.seq (W.region (WL.val run_move rfl rfl (WL.val (run_nilCheck rfl) rfl rfl (WL.val (run_fieldAddr 2 underlying68 rfl sizeOf66 rfl rfl) rfl rfl ?_)))))))
  refine WL.val (run_loadB (vs := gs.flatMap GX.row) h isAgg66 sizeOf66 rfl hv24 hrl) rfl rfl (WL.val run_move rfl rfl (WL.nil (W.block ?_)))
  refine W.loop (fun (k : Nat) env w => k ≤ 8 ∧ ∃ (j : Env) (ao : Option Addr) (co : Nat) (es : List UInt8), es.length ≤ 20000000000 + k * 3000000000 ∧ env = mkE j [(3, .slice ao es.length co), (21, .agg (gs.flatMap GX.row).toArray), (22, .int .i64 (k : Int))] ∧ On W0 (OwnB (.slice ao es.length co) es :: blk bu (ucells bs bt gs) 68 :: SpP 105 bs u.s :: blk bt u.t.cells 113 :: Big (GOwn pool) gs :: Pool pool :: L) w) (fun k => 8 - k) (0) ?_ ?_
  · exact ⟨Nat.zero_le _, _, a17, c17, e0, by omega, mkE_of ⟨congrArg (fun q : List UInt8 => Value.slice a17 q.length c17) he0.symm, rfl, rfl, trivial⟩, h.to⟩
  rintro k env w ⟨hk8, j, ao, co, es, hel, rfl, h⟩
  refine W.seq (W.region (WL.val (run_lss rfl rfl) rfl rfl (WL.nil (W.seq ?_))))
  refine W.condIf rfl (fun c6 => ?_) (fun c6 => ?_)
  ·
   refine W.skip (W.seq ?_)
   have hk7 : k < 8 := by omega
   have ob_ := row_of hm hl hk7
   obtain ⟨g, hg, hgu⟩ := ob_
   have hgk := hG k
   rw [← hgu] at hgk
   obtain ⟨⟨codes, floor, done⟩, ga, gc, gmb, gck, gkvs⟩ := g
   have exf_ := Int.eq_ofNat_of_zero_le (show 0 ≤ floor from hgk.2.2.1)
   obtain ⟨fl, hfl⟩ := exf_
   subst hfl
   have hig : k < gs.length := by omega
   have hrow := drop_flatMap GX.row 3 (fun _ => rfl) gs _ _ hg
   have h := Big.open hg (h.fetch (Big (GOwn pool) gs))
   have ob_ := openG h
   obtain ⟨hok, h⟩ := ob_
   have h : On W0 (Own 1 (.slice ga codes.length gc) codes.length (cV codes) :: MapC gmb .u64 gkvs gck :: _) w := h
   refine W.block (W.seq (W.region (WL.val (run_indexArrN (size := 3) (i := k) (vs := [.slice ga codes.length gc, .int .u64 ((fl : Nat) : Int), .map (some gmb)]) underlying66 sizeOf65 isAgg65 rfl rfl hk7 hrow) rfl rfl (WL.eff (eff_alloc h zeroValue65 rfl) rfl rfl ?_))))
   rintro _ w ⟨b5, rfl, h⟩
   refine WL.eff (eff_storeW (vs := [.slice _ _ _, .int .u64 _, .map _]) h sizeOf65 rfl rfl rfl rfl rfl) rfl rfl ?_
   rintro _ w h
   refine WL.nil (W.region (WL.val run_move rfl rfl (WL.val (run_loadB (vs := [.slice _ _ _, .int .u64 _, .map _]) h isAgg65 sizeOf65 rfl rfl rfl) rfl rfl (WL.eff (eff_call call50 (gwriteA_ok (codes := codes) (fl := fl) (done := done) (ga := ga) (gc := gc) (mb := gmb) (ck := gck) (kvs := gkvs) (pool := pool) hok hgk (((h.fetch (Pool pool)).fetch (MapC gmb .u64 gkvs gck)).fetch (Own 1 (.slice ga codes.length gc) codes.length (cV codes))))) rfl rfl ?_))))
   rintro _ w ⟨a27, c27, os, hol, rfl, h⟩
   have hpl : (partB es os).length = es.length + 4 + os.length := by unfold partB; rw [List.length_append, List.length_append, be_length]
   refine WL.eff (eff_call call47 (upart_ok (bs := es) (vs := os) (by omega) (by omega) h (Gives.ownO (v := .slice ao es.length co)) (Gives.ownO (v := .slice a27 os.length c27)))) rfl rfl ?_
   rintro _ w ⟨a28, c28, rfl, h⟩
   refine WL.val run_assign rfl rfl (WL.nil (W.region (WL.val (run_incN rfl rfl (by omega)) rfl rfl (WL.val run_move rfl rfl (WL.nil ?_)))))
   have h := Big.close (y := (⟨⟨codes, ((fl : Nat) : Int), done⟩, ga, gc, gmb, gck, gkvs⟩ : GX)) hig (closeG (g := (⟨⟨codes, ((fl : Nat) : Int), done⟩, ga, gc, gmb, gck, gkvs⟩ : GX)) hok (((h.fetch (Big (GOwn pool) (gs.eraseIdx k))).fetch (MapC gmb .u64 gkvs gck)).fetch (Own 1 (.slice ga codes.length gc) codes.length (cV codes))))
   rw [set_same hg] at h
   exact ⟨k + 1, ⟨by omega, _, a28, c28, _, by rw [hpl]; omega, mkE_of ⟨rfl, rfl, rfl, trivial⟩, h.to⟩, by show 8 - (k + 1) < 8 - k; omega⟩
  refine W.exit (W.seq ?_)
  have ob_ : k = 8 := by omega
  obtain rfl := ob_
  refine W.region (WL.val run_move rfl rfl (WL.eff (eff_call call51 (clip_bytes h)) rfl rfl ?_))
  rintro _ w ⟨rfl, h⟩
  refine WL.val run_assign rfl rfl (WL.nil (W.ret (bodyQ.r1 (v := .slice _ _ _) results17 rfl ?_)))
  have h3 := closeU (bu := bu) (u := u) hm hl ((((h.fetch (Big (GOwn pool) gs)).fetch (blk bt u.t.cells 113)).fetch (SpP 105 bs u.s)).fetch (blk bu (ucells bs bt gs) 68))
  exact ⟨ao, es, rfl, h3.to⟩
end Go.Proofs.YtjbgiingimhnnaaGreat
/-
  A unit: a unit read: the contracts. Lines of walks printed by a program of the prover's.
-/
namespace Go.Proofs.YtjbgiingimhnnaaGreat
open Go.Proofs.Tryz
open Go Go.Sl Go.Sl.BitM Go.Sl.SpM Go.Sl.RsM Go.Sl.ByM Go.Sl.UnM
set_option linter.unusedVariables false
set_option linter.unusedSimpArgs false
set_option maxHeartbeats 1000000
set_option maxRecDepth 8000
variable {W0 w : World} {L F : List HProp}
theorem udecodeA_ok [tF : To L F] {cb0 : Nat} {ab0 : Option Addr} {b : List UInt8} (hb : b.length ≤ 10000) (h : On W0 L w) (C0 : Gives F (Bytes (.slice ab0 b.length cb0) b)) : Calls Tryz.prog 7 #[.slice ab0 b.length cb0] w (Ret fun v w' => (∃ u bu ms pool, (goodU u ∧ small 999000 u) ∧ v = .tuple #[.pointer (some ⟨bu, 0, none⟩), .int .i64 0] ∧ On W0 (UnP 68 105 113 bu pool ms u :: Pool pool :: L) w') ∨ (v = .tuple #[.pointer none, .int .i64 2] ∧ On W0 L w')) := by
  refine enter func7 rfl ntmps7 rfl ?_
  have hmx := maxLen_eq
  refine W.seq (W.region (WL.val run_assign rfl rfl (WL.val run_assign rfl rfl (WL.nil (W.scope (W.seq (W.region ?_)))))))
  refine WL.val run_move rfl rfl (WL.val (run_buildS (pl := [(0, 1), (1, 1)]) (out := [.slice _ _ _, .bool _]) underlying55 zeroValue55 (fun w => by kernel_rfl) rfl (⟨⟨_, _, rfl, rfl, by decide⟩, trivial⟩) rfl) rfl rfl (WL.eff (eff_box (v := .agg _) (l := [.slice ab0 b.length cb0, .bool false]) h rfl rfl) rfl rfl ?_))
  rintro _ w ⟨b14, rfl, h⟩
  have h : On W0 (blk b14 [.slice ab0 (b, false).1.length cb0, .bool (b, false).2] 55 :: L) w := h
  have C : Gives F (Bytes (.slice ab0 (b, false).1.length cb0) (b, false).1) := C0
  have q0 := rdP_len (s := (b, false))
  have q1 := rdP_len (s := (rdP (b, false)).2)
  have hb2 : (b, false).1.length ≤ 10000 := hb
  refine WL.val run_assign rfl rfl (WL.nil (W.seq (W.region (WL.val run_move rfl rfl (WL.eff (eff_call call20 (rprt_ok (F := F) (s := (b, false)) (h.fetch (blk b14 [.slice ab0 (b, false).1.length cb0, .bool (b, false).2] 55)) C)) rfl rfl ?_)))))
  rintro _ w ⟨a1, c1, ab, cb, C1, C, rfl, h⟩
  refine WL.eff (eff_call call19 (sdecode_ok (F := F) (b := (rdP (b, false)).1) (by omega) h C1)) rfl rfl ?_
  rintro _ w hv
  rcases hv with ⟨s, bs, hds, hcap, rfl, h⟩ | ⟨hds, rfl, h⟩
  ·
   refine WL.val run_move rfl rfl (WL.val (run_extract rfl rfl) rfl rfl (WL.val (run_extract rfl rfl) rfl rfl (WL.val run_assign rfl rfl (WL.val run_assign rfl rfl (WL.nil (W.seq (W.region ?_)))))))
   refine WL.val run_move rfl rfl (WL.eff (eff_call call20 (rprt_ok (F := F) (s := (rdP (b, false)).2) (h.fetch (blk b14 [.slice ab (rdP (b, false)).2.1.length cb, .bool (rdP (b, false)).2.2] 55)) C)) rfl rfl ?_)
   rintro _ w ⟨a1, c1, ab, cb, C1, C, rfl, h⟩
   refine WL.eff (eff_call call21 (rdecode_ok (F := F) (b := (rdP (rdP (b, false)).2).1) (by omega) h C1)) rfl rfl ?_
   rintro _ w hv
   rcases hv with ⟨t, bt, hdt, rfl, h⟩ | ⟨hdt, rfl, h⟩
   ·
    refine WL.val run_move rfl rfl (WL.val (run_extract rfl rfl) rfl rfl (WL.val (run_extract rfl rfl) rfl rfl (WL.val run_assign rfl rfl (WL.val run_assign rfl rfl (WL.nil (W.seq (W.seq ?_)))))))
    refine W.region (WL.val run_move rfl rfl (WL.val (run_neqF rfl rfl (by decide)) rfl rfl (WL.val run_move rfl rfl (WL.val run_move rfl rfl (WL.val (run_neqF rfl rfl (by decide)) rfl rfl (WL.val (run_pickF rfl) rfl rfl (WL.nil ?_)))))))
    refine W.condF rfl (W.skip (W.seq ?_))
    have hwf := On.wfS (h.fetch (SpP 105 bs s))
    refine W.region (WL.val run_move rfl rfl (WL.eff (eff_call call22 (blocks_ok (h.fetch (SpP 105 bs s)))) rfl rfl ?_))
    rintro _ w ⟨rfl, h⟩
    refine WL.eff (eff_call call10 (unewR_ok (pool := []) (n := (s.N : Int)) h)) rfl rfl ?_
    rintro _ w hv
    rcases hv with ⟨N, hN, h1N, hN2, bu, bs0, bt0, mbs, hml, rfl, h⟩ | ⟨hno, _, _⟩
    rotate_left
    · exact absurd (show _ by have := hwf.2.1; have := hwf.2.2.1; omega) hno
    have h := h.pool0
    refine WL.val run_move rfl rfl (WL.val (run_extract rfl rfl) rfl rfl (WL.val (run_extract rfl rfl) rfl rfl (WL.val run_assign rfl rfl (WL.val run_assign rfl rfl (WL.nil (W.seq (W.region ?_)))))))
    refine WL.val run_move rfl rfl (WL.val run_move rfl rfl (WL.val run_move rfl rfl (WL.val run_move rfl rfl (WL.val (run_nilCheck rfl) rfl rfl (WL.val (run_fieldAddr 0 underlying68 rfl sizeOf56 rfl rfl) rfl rfl (WL.eff (eff_store (v := .pointer _) h sizeOf56 rfl rfl rfl rfl rfl) rfl rfl ?_))))))
    rintro _ w h
    try simp only [Nat.zero_add, Nat.add_zero, List.set_cons_zero, List.set_cons_succ] at h
    refine WL.val (run_nilCheck rfl) rfl rfl (WL.val (run_fieldAddr 1 underlying68 rfl sizeOf59 rfl rfl) rfl rfl (WL.eff (eff_store (v := .pointer _) h sizeOf59 rfl rfl rfl rfl rfl) rfl rfl ?_))
    rintro _ w h
    try simp only [Nat.zero_add, Nat.add_zero, List.set_cons_zero, List.set_cons_succ] at h
    refine WL.nil (W.seq (W.label ?_))
    refine W.cut (fun env w => ∃ (j : Env) (gs : List GX) (pool : PoolL) (vr : Value) (r : Bool), gs.length = 8 ∧ ((r = true ∧ decU0 b = none) ∨ (r = false ∧ decU0 b = some ⟨s, t, gs.map (·.s)⟩)) ∧ env = mkE j [(0, .slice ab0 b.length cb0), (4, .pointer (some ⟨b14, 0, none⟩)), (9, .pointer (some ⟨bu, 0, none⟩))] ∧ On W0 (blk bu (ucells bs bt gs) 68 :: SpP 105 bs s :: blk bt t.cells 113 :: Big (GOwn pool) gs :: Pool pool :: blk b14 [vr, .bool r] 55 :: L) w) ?_ ?_
    ·
     refine W.seq (W.region (WL.val run_move rfl rfl (WL.nil (W.block ?_))))
     refine W.loop (fun (k : Nat) env w => k ≤ 8 ∧ ∃ (j : Env) (ab : Option Addr) (cb : Nat) (st : RS) (gl : List Gs) (gd : List GX) (pool : PoolL), gd.length = k ∧ gd.map (·.s) = gl ∧ Gives F (Bytes (.slice ab st.1.length cb) st.1) ∧ st.1.length ≤ 100000 ∧ rdGs (8 - k) st gl = rdGs 8 (rdP (rdP (b, false)).2).2 [] ∧ env = mkE j [(0, .slice ab0 b.length cb0), (4, .pointer (some ⟨b14, 0, none⟩)), (9, .pointer (some ⟨bu, 0, none⟩)), (47, .int .i64 (k : Int))] ∧ On W0 (blk bu (ucells bs bt (mix gd mbs k)) 68 :: SpP 105 bs s :: blk bt t.cells 113 :: Big (GOwn pool) (mix gd mbs k) :: Pool pool :: blk b14 [.slice ab st.1.length cb, .bool st.2] 55 :: L) w) (fun k => 8 - k) (0) ?_ ?_
     · have h : On W0 (blk bu (ucells bs bt (mix [] mbs 0)) 68 :: _) w := h.fetch (blk bu (ucells bs bt (mbs.map zG)) 68)
       have h : On W0 (Big (GOwn []) (mix [] mbs 0) :: _) w := h.fetch (Big (GOwn []) (mbs.map zG))
       exact ⟨Nat.zero_le _, _, ab, cb, (rdP (rdP (b, false)).2).2, [], [], [], rfl, rfl, C, by have := q1.2; have := q0.2; omega, rfl, mkE_of ⟨rfl, rfl, rfl, rfl, trivial⟩, h.to⟩
     clear h C
     rintro k env w ⟨hk8, j, ab, cb, st, gl, gd, pool, hgl, hgm, C, hsl, hX, rfl, h⟩
     refine W.seq (W.region (WL.val (run_lss rfl rfl) rfl rfl (WL.nil (W.seq ?_))))
     refine W.condIf rfl (fun c17 => ?_) (fun c17 => ?_)
     ·
      refine W.skip (W.seq ?_)
      have hk7 : k < 8 := by omega
      have ob_ : ∃ mb, mbs[k]? = some mb := ⟨mbs[k]'(by omega), by simp⟩
      obtain ⟨mb, hmb⟩ := ob_
      have hg := mix_get hgl hmb
      have hig : k < (mix gd mbs k).length := (List.getElem?_eq_some_iff.1 hg).1
      have h := Big.open hg (h.fetch (Big (GOwn pool) (mix gd mbs k)))
      have ob_ := openG h
      obtain ⟨_, h⟩ := ob_
      have h : On W0 (CodesO (zG mb) :: MapC mb .u64 [] 0 :: _) w := h
      have h8 : 8 - k = 8 - (k + 1) + 1 := by omega
      rw [h8] at hX
      refine W.block (W.seq (W.region (WL.val run_move rfl rfl (WL.val run_assign rfl rfl (WL.nil (W.seq ?_))))))
      refine W.draw Tryz.follows h (fun w h => ?_)
      refine WT.pure 0 rfl (by kernel_rfl) (fun w' => run_move) rfl rfl (WT.pure 1 rfl (by kernel_rfl) (fun w' => run_move) rfl rfl (WT.pure 2 rfl (by kernel_rfl) (fun w' => (run_nilCheck rfl)) rfl rfl (WT.pure 3 rfl (by kernel_rfl) (fun w' => (run_fieldAddr 2 underlying68 rfl sizeOf66 rfl rfl)) rfl rfl (WT.pure 4 rfl (by kernel_rfl) (fun w' => (run_indexAddrArr underlying66 sizeOf65 rfl rfl (by omega) (by omega))) rfl rfl (WT.pure 5 rfl (by kernel_rfl) (fun w' => run_move) rfl rfl (WT.eff 6 [] rfl (by kernel_rfl) (by kernel_rfl) (eff_call call20 (rprt_ok (F := F) (s := st) (h.fetch (blk b14 [.slice ab st.1.length cb, .bool st.2] 55)) C)) rfl rfl ?_))))))
      rintro _ w ⟨a1, c1, ab, cb, C1, C, rfl, h⟩
      refine ⟨trivial, ?_⟩
      refine WT.eff 7 [] rfl (by kernel_rfl) (by kernel_rfl) (eff_call call23 (gread_ok (F := F) (bu := bu) (bs := bs) (bt := bt) (i := k) (mb := mb) (gs := mix gd mbs k) (pool := pool) (b := (rdP st).1) hg (by have := (rdP_len (s := st)).1; omega) (((h.fetch (Pool pool)).fetch (blk bu (ucells bs bt (mix gd mbs k)) 68)).fetch (MapC mb .u64 [] 0)) C1)) rfl rfl ?_
      rintro _ w ⟨a, c, ck, kvs, pool2, hok2, hps, rfl, h⟩
      have h := (h.fetch (Big (GOwn pool) ((mix gd mbs k).eraseIdx k))).head (big_mono (fun x hh => GOwn_sub hps) _)
      have h := Big.close (y := (⟨(readG (rdP st).1).2, a, c, mb, ck, kvs⟩ : GX)) hig (closeG (g := (⟨(readG (rdP st).1).2, a, c, mb, ck, kvs⟩ : GX)) hok2 (((h.fetch (Big (GOwn pool2) ((mix gd mbs k).eraseIdx k))).fetch (MapC mb .u64 kvs ck)).fetch (Own 1 (.slice a (readG (rdP st).1).2.codes.length c) (readG (rdP st).1).2.codes.length (cV (readG (rdP st).1).2.codes))))
      rw [mix_set hgl hmb] at h
      refine ⟨trivial, ?_⟩
      refine WT.pure 8 rfl (by kernel_rfl) (fun w' => (run_not rfl)) rfl rfl (WT.done (by kernel_rfl) ?_)
      refine W.condB rfl (fun c23 => ?_) (fun c23 => ?_)
      ·
       refine W.seq (W.region (WL.val run_move rfl rfl (WL.val (run_nilCheck rfl) rfl rfl (WL.val (run_fieldAddr 1 underlying55 rfl sizeOf4 rfl rfl) rfl rfl (WL.eff (eff_store (v := .bool _) h sizeOf4 rfl rfl rfl rfl rfl) rfl rfl ?_)))))
       rintro _ w h
       try simp only [Nat.zero_add, Nat.add_zero, List.set_cons_zero, List.set_cons_succ] at h
       refine WL.nil (W.exit ?_)
       have hno : ¬ (readG (rdP st).1).1 = true := by intro e; rw [e] at c23; cases c23
       rw [rdGs_stop hno] at hX
       exact ⟨_, mix (gd ++ [⟨(readG (rdP st).1).2, a, c, mb, ck, kvs⟩]) mbs (k + 1), pool2, .slice ab (rdP st).2.1.length cb, true, by show (gd ++ [_] ++ (mbs.drop (k + 1)).map zG).length = 8; rw [List.length_append, List.length_append, List.length_map, List.length_drop, hgl, hml]; show k + 1 + _ = 8; omega, .inl ⟨rfl, decU0_none hds hdt hX⟩, mkE_of ⟨rfl, rfl, rfl, trivial⟩, h.to⟩
      refine W.skip (W.region (WL.val (run_add rfl rfl (by omega) (by omega)) rfl rfl (WL.val run_move rfl rfl (WL.nil ?_))))
      have hyes : (readG (rdP st).1).1 = true := by simpa using c23
      rw [rdGs_step hyes] at hX
      exact ⟨k + 1, ⟨by omega, _, ab, cb, _, _, gd ++ [⟨(readG (rdP st).1).2, a, c, mb, ck, kvs⟩], pool2, by rw [List.length_append, hgl]; rfl, by rw [List.map_append, hgm]; rfl, C, by have := (rdP_len (s := st)).2; omega, hX, mkE_of ⟨rfl, rfl, rfl, rfl, trivial⟩, h.to⟩, by show 8 - (k + 1) < 8 - k; omega⟩
     refine W.exit ?_
     have ob_ : k = 8 := by omega
     obtain rfl := ob_
     have e8 : mix gd mbs 8 = gd := by show gd ++ (mbs.drop 8).map zG = gd; rw [List.drop_eq_nil_of_le (by omega)]; exact List.append_nil _
     rw [e8] at h
     have hX8 : some (st, gl) = rdGs 8 (rdP (rdP (b, false)).2).2 [] := hX
     refine ⟨_, gd, pool, .slice ab st.1.length cb, st.2, hgl, ?_, mkE_of ⟨rfl, rfl, rfl, trivial⟩, h.to⟩
     have hd0 := decU0_some hds hdt hX8
     rw [hgm, hd0]
     cases st.2 with
     | true => exact .inl ⟨rfl, rfl⟩
     | false => exact .inr ⟨rfl, rfl⟩
    clear h C
    rintro env w ⟨j, gs, pool, vr, r, hgl, hcs, rfl, h⟩
    refine W.seq (W.seq (W.region (WL.val run_move rfl rfl (WL.val (run_nilCheck rfl) rfl rfl (WL.val (run_fieldAddr 1 underlying55 rfl sizeOf4 rfl rfl) rfl rfl ?_)))))
    refine WL.boolB (run_load1 isAgg4 rfl (h.cellB rfl)) rfl rfl (fun c66 => ?_) (fun c66 => ?_)
    ·
     refine WL.val run_move rfl rfl (WL.skip rfl rfl (WL.skip rfl rfl (WL.skip rfl rfl (WL.skip rfl rfl (WL.skip rfl rfl (WL.val (run_pickT rfl) rfl rfl (WL.nil ?_)))))))
     refine W.condT rfl (W.seq (W.region (WL.val run_assign rfl rfl (WL.val run_assign rfl rfl (WL.nil (W.ret (bodyQ.r2 (v1 := .pointer _) (v2 := .int .i64 _) results7 rfl rfl ?_)))))))
     exact .inr ⟨rfl, h.to⟩
    rcases hcs with ⟨hr, _⟩ | ⟨_, hdec⟩
    · rw [c66] at hr; cases hr
    have hes := decS_enc hds
    have hq := (rdP_len (s := (b, false))).1
    have hq : (rdP (b, false)).1.length ≤ b.length := hq
    have h0 : (SpM.encS (⟨s, t, gs.map (·.s)⟩ : Un).s).length ≤ 10000000000 := by show (SpM.encS s).length ≤ _; rw [hes]; omega
    have h := closeU (bu := bu) (u := ⟨s, t, gs.map (·.s)⟩) (ms := gs.map (·.mb)) ⟨rfl, rfl⟩ (by show (gs.map _).length = 8; rw [List.length_map]; exact hgl) h
    have obU_ : ∃ U0 : Un, U0 = ⟨s, t, gs.map (·.s)⟩ := ⟨_, rfl⟩
    obtain ⟨U0, hU0⟩ := obU_
    rw [← hU0] at h h0 hdec
    have hcapU : capS U0.s := by rw [hU0]; exact hcap
    have hokU : okT U0.t := by rw [hU0]; exact decT_ok hdt
    refine WL.val run_move rfl rfl (WL.val run_move rfl rfl (WL.eff (eff_call call17 (uencodeA_ok (bu := bu) (u := U0) (pool := pool) (ms := gs.map (·.mb)) hcapU hokU (decU0_ok hb hdec).2 h0 h)) rfl rfl ?_))
    rintro v69 w ⟨a69, E, hv69, h⟩
    subst hv69
    refine WL.val run_move rfl rfl (WL.eff (eff_call call24 (bequal_ok (bs := E) (cs := b) h (Gives.ownO (v := .slice a69 E.length E.length)) (Gives.to C0))) rfl rfl ?_)
    rintro _ w ⟨hv, h⟩
    have hcs := Bool.eq_false_or_eq_true (decide (E = b))
    rcases hcs with heq | heq <;> (rw [heq] at hv; subst hv)
    ·
     refine WL.val (run_not rfl) rfl rfl (WL.val (run_pickF rfl) rfl rfl (WL.nil (W.condF rfl (W.skip (W.seq (W.region (WL.val run_move rfl rfl ?_)))))))
     refine WL.val run_assign rfl rfl (WL.val run_assign rfl rfl (WL.nil (W.ret (bodyQ.r2 (v1 := .pointer _) (v2 := .int .i64 _) results7 rfl rfl ?_))))
     exact .inl ⟨U0, bu, gs.map (·.mb), pool, decU0_good hb hdec, rfl, h.to⟩
    refine WL.val (run_not rfl) rfl rfl (WL.val (run_pickF rfl) rfl rfl (WL.nil (W.condT rfl (W.seq (W.region (WL.val run_assign rfl rfl (WL.val run_assign rfl rfl ?_)))))))
    refine WL.nil (W.ret (bodyQ.r2 (v1 := .pointer _) (v2 := .int .i64 _) results7 rfl rfl ?_))
    exact .inr ⟨rfl, h.to⟩
   refine WL.val run_move rfl rfl (WL.val (run_extract rfl rfl) rfl rfl (WL.val (run_extract rfl rfl) rfl rfl (WL.val run_assign rfl rfl (WL.val run_assign rfl rfl (WL.nil (W.seq (W.seq ?_)))))))
   refine W.region (WL.val run_move rfl rfl (WL.val (run_neqF rfl rfl (by decide)) rfl rfl (WL.val run_move rfl rfl (WL.val run_move rfl rfl (WL.val (run_neqT rfl rfl (by decide)) rfl rfl (WL.val (run_pickF rfl) rfl rfl (WL.nil ?_)))))))
   refine W.condT rfl (W.seq (W.region (WL.val run_assign rfl rfl (WL.val run_assign rfl rfl (WL.nil (W.ret (bodyQ.r2 (v1 := .pointer _) (v2 := .int .i64 _) results7 rfl rfl ?_)))))))
   exact .inr ⟨rfl, h.to⟩
  refine WL.val run_move rfl rfl (WL.val (run_extract rfl rfl) rfl rfl (WL.val (run_extract rfl rfl) rfl rfl (WL.val run_assign rfl rfl (WL.val run_assign rfl rfl (WL.nil (W.seq (W.region ?_)))))))
  refine WL.val run_move rfl rfl (WL.eff (eff_call call20 (rprt_ok (F := F) (s := (rdP (b, false)).2) (h.fetch (blk b14 [.slice ab (rdP (b, false)).2.1.length cb, .bool (rdP (b, false)).2.2] 55)) C)) rfl rfl ?_)
  rintro _ w ⟨a1, c1, ab, cb, C1, C, rfl, h⟩
  refine WL.eff (eff_call call21 (rdecode_ok (F := F) (b := (rdP (rdP (b, false)).2).1) (by omega) h C1)) rfl rfl ?_
  rintro _ w hv
  rcases hv with ⟨t, bt, hdt, rfl, h⟩ | ⟨hdt, rfl, h⟩
  ·
   refine WL.val run_move rfl rfl (WL.val (run_extract rfl rfl) rfl rfl (WL.val (run_extract rfl rfl) rfl rfl (WL.val run_assign rfl rfl (WL.val run_assign rfl rfl (WL.nil (W.seq (W.seq ?_)))))))
   refine W.region (WL.val run_move rfl rfl (WL.val (run_neqT rfl rfl (by decide)) rfl rfl (WL.val run_move rfl rfl (WL.skip rfl rfl (WL.skip rfl rfl (WL.val (run_pickT rfl) rfl rfl (WL.nil ?_)))))))
   refine W.condT rfl (W.seq (W.region (WL.val run_assign rfl rfl (WL.val run_assign rfl rfl (WL.nil (W.ret (bodyQ.r2 (v1 := .pointer _) (v2 := .int .i64 _) results7 rfl rfl ?_)))))))
   exact .inr ⟨rfl, h.to⟩
  refine WL.val run_move rfl rfl (WL.val (run_extract rfl rfl) rfl rfl (WL.val (run_extract rfl rfl) rfl rfl (WL.val run_assign rfl rfl (WL.val run_assign rfl rfl (WL.nil (W.seq (W.seq ?_)))))))
  refine W.region (WL.val run_move rfl rfl (WL.val (run_neqT rfl rfl (by decide)) rfl rfl (WL.val run_move rfl rfl (WL.skip rfl rfl (WL.skip rfl rfl (WL.val (run_pickT rfl) rfl rfl (WL.nil ?_)))))))
  refine W.condT rfl (W.seq (W.region (WL.val run_assign rfl rfl (WL.val run_assign rfl rfl (WL.nil (W.ret (bodyQ.r2 (v1 := .pointer _) (v2 := .int .i64 _) results7 rfl rfl ?_)))))))
  exact .inr ⟨rfl, h.to⟩
end Go.Proofs.YtjbgiingimhnnaaGreat
/-
  A unit: a unit read: the contracts. Lines of walks printed by a program of the prover's.
-/
namespace Go.Proofs.YtjbgiingimhnnaaGreat
open Go.Proofs.Tryz
open Go Go.Sl Go.Sl.BitM Go.Sl.SpM Go.Sl.RsM Go.Sl.ByM Go.Sl.UnM
set_option linter.unusedVariables false
set_option linter.unusedSimpArgs false
set_option maxHeartbeats 1000000
set_option maxRecDepth 8000
variable {W0 w : World} {L F : List HProp}
theorem udecode_ok [tF : To L F] {cb0 : Nat} {ab0 : Option Addr} {b : List UInt8} (hb : b.length ≤ 100000) (hE : ∀ u, decU0 b = some u → ∀ i, i < 8 → okG (u.guest i) ∧ (u.guest i).done.length ≤ 1) (h : On W0 L w) (C0 : Gives F (Bytes (.slice ab0 b.length cb0) b)) : Calls Tryz.prog 7 #[.slice ab0 b.length cb0] w (Ret fun v w' => (∃ u bu ms pool, decU b = some u ∧ v = .tuple #[.pointer (some ⟨bu, 0, none⟩), .int .i64 0] ∧ On W0 (UnP 68 105 113 bu pool ms u :: Pool pool :: L) w') ∨ (decU b = none ∧ v = .tuple #[.pointer none, .int .i64 2] ∧ On W0 L w')) := by
  refine enter func7 rfl ntmps7 rfl ?_
  have hmx := maxLen_eq
  refine W.seq (W.region (WL.val run_assign rfl rfl (WL.val run_assign rfl rfl (WL.nil (W.scope (W.seq (W.region ?_)))))))
  refine WL.val run_move rfl rfl (WL.val (run_buildS (pl := [(0, 1), (1, 1)]) (out := [.slice _ _ _, .bool _]) underlying55 zeroValue55 (fun w => by kernel_rfl) rfl (⟨⟨_, _, rfl, rfl, by decide⟩, trivial⟩) rfl) rfl rfl (WL.eff (eff_box (v := .agg _) (l := [.slice ab0 b.length cb0, .bool false]) h rfl rfl) rfl rfl ?_))
  rintro _ w ⟨b14, rfl, h⟩
  have h : On W0 (blk b14 [.slice ab0 (b, false).1.length cb0, .bool (b, false).2] 55 :: L) w := h
  have C : Gives F (Bytes (.slice ab0 (b, false).1.length cb0) (b, false).1) := C0
  have q0 := rdP_len (s := (b, false))
  have q1 := rdP_len (s := (rdP (b, false)).2)
  have hb2 : (b, false).1.length ≤ 100000 := hb
  refine WL.val run_assign rfl rfl (WL.nil (W.seq (W.region (WL.val run_move rfl rfl (WL.eff (eff_call call20 (rprt_ok (F := F) (s := (b, false)) (h.fetch (blk b14 [.slice ab0 (b, false).1.length cb0, .bool (b, false).2] 55)) C)) rfl rfl ?_)))))
  rintro _ w ⟨a1, c1, ab, cb, C1, C, rfl, h⟩
  refine WL.eff (eff_call call19 (sdecode_ok (F := F) (b := (rdP (b, false)).1) (by omega) h C1)) rfl rfl ?_
  rintro _ w hv
  rcases hv with ⟨s, bs, hds, hcap, rfl, h⟩ | ⟨hds, rfl, h⟩
  ·
   refine WL.val run_move rfl rfl (WL.val (run_extract rfl rfl) rfl rfl (WL.val (run_extract rfl rfl) rfl rfl (WL.val run_assign rfl rfl (WL.val run_assign rfl rfl (WL.nil (W.seq (W.region ?_)))))))
   refine WL.val run_move rfl rfl (WL.eff (eff_call call20 (rprt_ok (F := F) (s := (rdP (b, false)).2) (h.fetch (blk b14 [.slice ab (rdP (b, false)).2.1.length cb, .bool (rdP (b, false)).2.2] 55)) C)) rfl rfl ?_)
   rintro _ w ⟨a1, c1, ab, cb, C1, C, rfl, h⟩
   refine WL.eff (eff_call call21 (rdecode_ok (F := F) (b := (rdP (rdP (b, false)).2).1) (by omega) h C1)) rfl rfl ?_
   rintro _ w hv
   rcases hv with ⟨t, bt, hdt, rfl, h⟩ | ⟨hdt, rfl, h⟩
   ·
    refine WL.val run_move rfl rfl (WL.val (run_extract rfl rfl) rfl rfl (WL.val (run_extract rfl rfl) rfl rfl (WL.val run_assign rfl rfl (WL.val run_assign rfl rfl (WL.nil (W.seq (W.seq ?_)))))))
    refine W.region (WL.val run_move rfl rfl (WL.val (run_neqF rfl rfl (by decide)) rfl rfl (WL.val run_move rfl rfl (WL.val run_move rfl rfl (WL.val (run_neqF rfl rfl (by decide)) rfl rfl (WL.val (run_pickF rfl) rfl rfl (WL.nil ?_)))))))
    refine W.condF rfl (W.skip (W.seq ?_))
    have hwf := On.wfS (h.fetch (SpP 105 bs s))
    refine W.region (WL.val run_move rfl rfl (WL.eff (eff_call call22 (blocks_ok (h.fetch (SpP 105 bs s)))) rfl rfl ?_))
    rintro _ w ⟨rfl, h⟩
    refine WL.eff (eff_call call10 (unewR_ok (pool := []) (n := (s.N : Int)) h)) rfl rfl ?_
    rintro _ w hv
    rcases hv with ⟨N, hN, h1N, hN2, bu, bs0, bt0, mbs, hml, rfl, h⟩ | ⟨hno, _, _⟩
    rotate_left
    · exact absurd (show _ by have := hwf.2.1; have := hwf.2.2.1; omega) hno
    have h := h.pool0
    refine WL.val run_move rfl rfl (WL.val (run_extract rfl rfl) rfl rfl (WL.val (run_extract rfl rfl) rfl rfl (WL.val run_assign rfl rfl (WL.val run_assign rfl rfl (WL.nil (W.seq (W.region ?_)))))))
    refine WL.val run_move rfl rfl (WL.val run_move rfl rfl (WL.val run_move rfl rfl (WL.val run_move rfl rfl (WL.val (run_nilCheck rfl) rfl rfl (WL.val (run_fieldAddr 0 underlying68 rfl sizeOf56 rfl rfl) rfl rfl (WL.eff (eff_store (v := .pointer _) h sizeOf56 rfl rfl rfl rfl rfl) rfl rfl ?_))))))
    rintro _ w h
    try simp only [Nat.zero_add, Nat.add_zero, List.set_cons_zero, List.set_cons_succ] at h
    refine WL.val (run_nilCheck rfl) rfl rfl (WL.val (run_fieldAddr 1 underlying68 rfl sizeOf59 rfl rfl) rfl rfl (WL.eff (eff_store (v := .pointer _) h sizeOf59 rfl rfl rfl rfl rfl) rfl rfl ?_))
    rintro _ w h
    try simp only [Nat.zero_add, Nat.add_zero, List.set_cons_zero, List.set_cons_succ] at h
    refine WL.nil (W.seq (W.label ?_))
    refine W.cut (fun env w => ∃ (j : Env) (gs : List GX) (pool : PoolL) (vr : Value) (r : Bool), gs.length = 8 ∧ ((r = true ∧ decU0 b = none) ∨ (r = false ∧ decU0 b = some ⟨s, t, gs.map (·.s)⟩)) ∧ env = mkE j [(0, .slice ab0 b.length cb0), (4, .pointer (some ⟨b14, 0, none⟩)), (9, .pointer (some ⟨bu, 0, none⟩))] ∧ On W0 (blk bu (ucells bs bt gs) 68 :: SpP 105 bs s :: blk bt t.cells 113 :: Big (GOwn pool) gs :: Pool pool :: blk b14 [vr, .bool r] 55 :: L) w) ?_ ?_
    ·
     refine W.seq (W.region (WL.val run_move rfl rfl (WL.nil (W.block ?_))))
     refine W.loop (fun (k : Nat) env w => k ≤ 8 ∧ ∃ (j : Env) (ab : Option Addr) (cb : Nat) (st : RS) (gl : List Gs) (gd : List GX) (pool : PoolL), gd.length = k ∧ gd.map (·.s) = gl ∧ Gives F (Bytes (.slice ab st.1.length cb) st.1) ∧ st.1.length ≤ 100000 ∧ rdGs (8 - k) st gl = rdGs 8 (rdP (rdP (b, false)).2).2 [] ∧ env = mkE j [(0, .slice ab0 b.length cb0), (4, .pointer (some ⟨b14, 0, none⟩)), (9, .pointer (some ⟨bu, 0, none⟩)), (47, .int .i64 (k : Int))] ∧ On W0 (blk bu (ucells bs bt (mix gd mbs k)) 68 :: SpP 105 bs s :: blk bt t.cells 113 :: Big (GOwn pool) (mix gd mbs k) :: Pool pool :: blk b14 [.slice ab st.1.length cb, .bool st.2] 55 :: L) w) (fun k => 8 - k) (0) ?_ ?_
     · have h : On W0 (blk bu (ucells bs bt (mix [] mbs 0)) 68 :: _) w := h.fetch (blk bu (ucells bs bt (mbs.map zG)) 68)
       have h : On W0 (Big (GOwn []) (mix [] mbs 0) :: _) w := h.fetch (Big (GOwn []) (mbs.map zG))
       exact ⟨Nat.zero_le _, _, ab, cb, (rdP (rdP (b, false)).2).2, [], [], [], rfl, rfl, C, by have := q1.2; have := q0.2; omega, rfl, mkE_of ⟨rfl, rfl, rfl, rfl, trivial⟩, h.to⟩
     clear h C
     rintro k env w ⟨hk8, j, ab, cb, st, gl, gd, pool, hgl, hgm, C, hsl, hX, rfl, h⟩
     refine W.seq (W.region (WL.val (run_lss rfl rfl) rfl rfl (WL.nil (W.seq ?_))))
     refine W.condIf rfl (fun c17 => ?_) (fun c17 => ?_)
     ·
      refine W.skip (W.seq ?_)
      have hk7 : k < 8 := by omega
      have ob_ : ∃ mb, mbs[k]? = some mb := ⟨mbs[k]'(by omega), by simp⟩
      obtain ⟨mb, hmb⟩ := ob_
      have hg := mix_get hgl hmb
      have hig : k < (mix gd mbs k).length := (List.getElem?_eq_some_iff.1 hg).1
      have h := Big.open hg (h.fetch (Big (GOwn pool) (mix gd mbs k)))
      have ob_ := openG h
      obtain ⟨_, h⟩ := ob_
      have h : On W0 (CodesO (zG mb) :: MapC mb .u64 [] 0 :: _) w := h
      have h8 : 8 - k = 8 - (k + 1) + 1 := by omega
      rw [h8] at hX
      refine W.block (W.seq (W.region (WL.val run_move rfl rfl (WL.val run_assign rfl rfl (WL.nil (W.seq ?_))))))
      refine W.draw Tryz.follows h (fun w h => ?_)
      refine WT.pure 0 rfl (by kernel_rfl) (fun w' => run_move) rfl rfl (WT.pure 1 rfl (by kernel_rfl) (fun w' => run_move) rfl rfl (WT.pure 2 rfl (by kernel_rfl) (fun w' => (run_nilCheck rfl)) rfl rfl (WT.pure 3 rfl (by kernel_rfl) (fun w' => (run_fieldAddr 2 underlying68 rfl sizeOf66 rfl rfl)) rfl rfl (WT.pure 4 rfl (by kernel_rfl) (fun w' => (run_indexAddrArr underlying66 sizeOf65 rfl rfl (by omega) (by omega))) rfl rfl (WT.pure 5 rfl (by kernel_rfl) (fun w' => run_move) rfl rfl (WT.eff 6 [] rfl (by kernel_rfl) (by kernel_rfl) (eff_call call20 (rprt_ok (F := F) (s := st) (h.fetch (blk b14 [.slice ab st.1.length cb, .bool st.2] 55)) C)) rfl rfl ?_))))))
      rintro _ w ⟨a1, c1, ab, cb, C1, C, rfl, h⟩
      refine ⟨trivial, ?_⟩
      refine WT.eff 7 [] rfl (by kernel_rfl) (by kernel_rfl) (eff_call call23 (gread_ok (F := F) (bu := bu) (bs := bs) (bt := bt) (i := k) (mb := mb) (gs := mix gd mbs k) (pool := pool) (b := (rdP st).1) hg (by have := (rdP_len (s := st)).1; omega) (((h.fetch (Pool pool)).fetch (blk bu (ucells bs bt (mix gd mbs k)) 68)).fetch (MapC mb .u64 [] 0)) C1)) rfl rfl ?_
      rintro _ w ⟨a, c, ck, kvs, pool2, hok2, hps, rfl, h⟩
      have h := (h.fetch (Big (GOwn pool) ((mix gd mbs k).eraseIdx k))).head (big_mono (fun x hh => GOwn_sub hps) _)
      have h := Big.close (y := (⟨(readG (rdP st).1).2, a, c, mb, ck, kvs⟩ : GX)) hig (closeG (g := (⟨(readG (rdP st).1).2, a, c, mb, ck, kvs⟩ : GX)) hok2 (((h.fetch (Big (GOwn pool2) ((mix gd mbs k).eraseIdx k))).fetch (MapC mb .u64 kvs ck)).fetch (Own 1 (.slice a (readG (rdP st).1).2.codes.length c) (readG (rdP st).1).2.codes.length (cV (readG (rdP st).1).2.codes))))
      rw [mix_set hgl hmb] at h
      refine ⟨trivial, ?_⟩
      refine WT.pure 8 rfl (by kernel_rfl) (fun w' => (run_not rfl)) rfl rfl (WT.done (by kernel_rfl) ?_)
      refine W.condB rfl (fun c23 => ?_) (fun c23 => ?_)
      ·
       refine W.seq (W.region (WL.val run_move rfl rfl (WL.val (run_nilCheck rfl) rfl rfl (WL.val (run_fieldAddr 1 underlying55 rfl sizeOf4 rfl rfl) rfl rfl (WL.eff (eff_store (v := .bool _) h sizeOf4 rfl rfl rfl rfl rfl) rfl rfl ?_)))))
       rintro _ w h
       try simp only [Nat.zero_add, Nat.add_zero, List.set_cons_zero, List.set_cons_succ] at h
       refine WL.nil (W.exit ?_)
       have hno : ¬ (readG (rdP st).1).1 = true := by intro e; rw [e] at c23; cases c23
       rw [rdGs_stop hno] at hX
       exact ⟨_, mix (gd ++ [⟨(readG (rdP st).1).2, a, c, mb, ck, kvs⟩]) mbs (k + 1), pool2, .slice ab (rdP st).2.1.length cb, true, by show (gd ++ [_] ++ (mbs.drop (k + 1)).map zG).length = 8; rw [List.length_append, List.length_append, List.length_map, List.length_drop, hgl, hml]; show k + 1 + _ = 8; omega, .inl ⟨rfl, decU0_none hds hdt hX⟩, mkE_of ⟨rfl, rfl, rfl, trivial⟩, h.to⟩
      refine W.skip (W.region (WL.val (run_add rfl rfl (by omega) (by omega)) rfl rfl (WL.val run_move rfl rfl (WL.nil ?_))))
      have hyes : (readG (rdP st).1).1 = true := by simpa using c23
      rw [rdGs_step hyes] at hX
      exact ⟨k + 1, ⟨by omega, _, ab, cb, _, _, gd ++ [⟨(readG (rdP st).1).2, a, c, mb, ck, kvs⟩], pool2, by rw [List.length_append, hgl]; rfl, by rw [List.map_append, hgm]; rfl, C, by have := (rdP_len (s := st)).2; omega, hX, mkE_of ⟨rfl, rfl, rfl, rfl, trivial⟩, h.to⟩, by show 8 - (k + 1) < 8 - k; omega⟩
     refine W.exit ?_
     have ob_ : k = 8 := by omega
     obtain rfl := ob_
     have e8 : mix gd mbs 8 = gd := by show gd ++ (mbs.drop 8).map zG = gd; rw [List.drop_eq_nil_of_le (by omega)]; exact List.append_nil _
     rw [e8] at h
     have hX8 : some (st, gl) = rdGs 8 (rdP (rdP (b, false)).2).2 [] := hX
     refine ⟨_, gd, pool, .slice ab st.1.length cb, st.2, hgl, ?_, mkE_of ⟨rfl, rfl, rfl, trivial⟩, h.to⟩
     have hd0 := decU0_some hds hdt hX8
     rw [hgm, hd0]
     cases st.2 with
     | true => exact .inl ⟨rfl, rfl⟩
     | false => exact .inr ⟨rfl, rfl⟩
    clear h C
    rintro env w ⟨j, gs, pool, vr, r, hgl, hcs, rfl, h⟩
    refine W.seq (W.seq (W.region (WL.val run_move rfl rfl (WL.val (run_nilCheck rfl) rfl rfl (WL.val (run_fieldAddr 1 underlying55 rfl sizeOf4 rfl rfl) rfl rfl ?_)))))
    refine WL.boolB (run_load1 isAgg4 rfl (h.cellB rfl)) rfl rfl (fun c66 => ?_) (fun c66 => ?_)
    ·
     refine WL.val run_move rfl rfl (WL.skip rfl rfl (WL.skip rfl rfl (WL.skip rfl rfl (WL.skip rfl rfl (WL.skip rfl rfl (WL.val (run_pickT rfl) rfl rfl (WL.nil ?_)))))))
     refine W.condT rfl (W.seq (W.region (WL.val run_assign rfl rfl (WL.val run_assign rfl rfl (WL.nil (W.ret (bodyQ.r2 (v1 := .pointer _) (v2 := .int .i64 _) results7 rfl rfl ?_)))))))
     rcases hcs with ⟨_, hn⟩ | ⟨hr, _⟩
     · exact .inr ⟨decU_no0 hn, rfl, h.to⟩
     · rw [c66] at hr; cases hr
    rcases hcs with ⟨hr, _⟩ | ⟨_, hdec⟩
    · rw [c66] at hr; cases hr
    have hes := decS_enc hds
    have hq := (rdP_len (s := (b, false))).1
    have hq : (rdP (b, false)).1.length ≤ b.length := hq
    have h0 : (SpM.encS (⟨s, t, gs.map (·.s)⟩ : Un).s).length ≤ 10000000000 := by show (SpM.encS s).length ≤ _; rw [hes]; omega
    have h := closeU (bu := bu) (u := ⟨s, t, gs.map (·.s)⟩) (ms := gs.map (·.mb)) ⟨rfl, rfl⟩ (by show (gs.map _).length = 8; rw [List.length_map]; exact hgl) h
    have obU_ : ∃ U0 : Un, U0 = ⟨s, t, gs.map (·.s)⟩ := ⟨_, rfl⟩
    obtain ⟨U0, hU0⟩ := obU_
    rw [← hU0] at h h0 hdec
    have hcapU : capS U0.s := by rw [hU0]; exact hcap
    have hokU : okT U0.t := by rw [hU0]; exact decT_ok hdt
    refine WL.val run_move rfl rfl (WL.val run_move rfl rfl (WL.eff (eff_call call17 (uencode_ok (bu := bu) (u := U0) (pool := pool) (ms := gs.map (·.mb)) hcapU hokU (hE _ hdec) h0 h)) rfl rfl ?_))
    rintro v69 w ⟨a69, hv69, h⟩
    have ob_ : ∃ E, E = encU U0 (SpM.encS U0.s) := ⟨_, rfl⟩
    obtain ⟨E, hEq⟩ := ob_
    rw [← hEq] at hv69 h
    subst hv69
    refine WL.val run_move rfl rfl (WL.eff (eff_call call24 (bequal_ok (bs := E) (cs := b) h (Gives.ownO (v := .slice a69 E.length E.length)) (Gives.to C0))) rfl rfl ?_)
    rintro _ w ⟨hv, h⟩
    have hcs := Bool.eq_false_or_eq_true (decide (E = b))
    rcases hcs with heq | heq <;> (rw [heq] at hv; subst hv)
    ·
     refine WL.val (run_not rfl) rfl rfl (WL.val (run_pickF rfl) rfl rfl (WL.nil (W.condF rfl (W.skip (W.seq (W.region (WL.val run_move rfl rfl ?_)))))))
     refine WL.val run_assign rfl rfl (WL.val run_assign rfl rfl (WL.nil (W.ret (bodyQ.r2 (v1 := .pointer _) (v2 := .int .i64 _) results7 rfl rfl ?_))))
     exact .inl ⟨U0, bu, gs.map (·.mb), pool, decU_ofE hdec hEq (of_decide_eq_true heq), rfl, h.to⟩
    refine WL.val (run_not rfl) rfl rfl (WL.val (run_pickF rfl) rfl rfl (WL.nil (W.condT rfl (W.seq (W.region (WL.val run_assign rfl rfl (WL.val run_assign rfl rfl ?_)))))))
    refine WL.nil (W.ret (bodyQ.r2 (v1 := .pointer _) (v2 := .int .i64 _) results7 rfl rfl ?_))
    exact .inr ⟨decU_noE hdec hEq (of_decide_eq_false heq), rfl, h.to⟩
   refine WL.val run_move rfl rfl (WL.val (run_extract rfl rfl) rfl rfl (WL.val (run_extract rfl rfl) rfl rfl (WL.val run_assign rfl rfl (WL.val run_assign rfl rfl (WL.nil (W.seq (W.seq ?_)))))))
   refine W.region (WL.val run_move rfl rfl (WL.val (run_neqF rfl rfl (by decide)) rfl rfl (WL.val run_move rfl rfl (WL.val run_move rfl rfl (WL.val (run_neqT rfl rfl (by decide)) rfl rfl (WL.val (run_pickF rfl) rfl rfl (WL.nil ?_)))))))
   refine W.condT rfl (W.seq (W.region (WL.val run_assign rfl rfl (WL.val run_assign rfl rfl (WL.nil (W.ret (bodyQ.r2 (v1 := .pointer _) (v2 := .int .i64 _) results7 rfl rfl ?_)))))))
   exact .inr ⟨by unfold decU decU0; rw [hds, hdt]; rfl, rfl, h.to⟩
  refine WL.val run_move rfl rfl (WL.val (run_extract rfl rfl) rfl rfl (WL.val (run_extract rfl rfl) rfl rfl (WL.val run_assign rfl rfl (WL.val run_assign rfl rfl (WL.nil (W.seq (W.region ?_)))))))
  refine WL.val run_move rfl rfl (WL.eff (eff_call call20 (rprt_ok (F := F) (s := (rdP (b, false)).2) (h.fetch (blk b14 [.slice ab (rdP (b, false)).2.1.length cb, .bool (rdP (b, false)).2.2] 55)) C)) rfl rfl ?_)
  rintro _ w ⟨a1, c1, ab, cb, C1, C, rfl, h⟩
  refine WL.eff (eff_call call21 (rdecode_ok (F := F) (b := (rdP (rdP (b, false)).2).1) (by omega) h C1)) rfl rfl ?_
  rintro _ w hv
  rcases hv with ⟨t, bt, hdt, rfl, h⟩ | ⟨hdt, rfl, h⟩
  ·
   refine WL.val run_move rfl rfl (WL.val (run_extract rfl rfl) rfl rfl (WL.val (run_extract rfl rfl) rfl rfl (WL.val run_assign rfl rfl (WL.val run_assign rfl rfl (WL.nil (W.seq (W.seq ?_)))))))
   refine W.region (WL.val run_move rfl rfl (WL.val (run_neqT rfl rfl (by decide)) rfl rfl (WL.val run_move rfl rfl (WL.skip rfl rfl (WL.skip rfl rfl (WL.val (run_pickT rfl) rfl rfl (WL.nil ?_)))))))
   refine W.condT rfl (W.seq (W.region (WL.val run_assign rfl rfl (WL.val run_assign rfl rfl (WL.nil (W.ret (bodyQ.r2 (v1 := .pointer _) (v2 := .int .i64 _) results7 rfl rfl ?_)))))))
   exact .inr ⟨by unfold decU decU0; rw [hds]; rfl, rfl, h.to⟩
  refine WL.val run_move rfl rfl (WL.val (run_extract rfl rfl) rfl rfl (WL.val (run_extract rfl rfl) rfl rfl (WL.val run_assign rfl rfl (WL.val run_assign rfl rfl (WL.nil (W.seq (W.seq ?_)))))))
  refine W.region (WL.val run_move rfl rfl (WL.val (run_neqT rfl rfl (by decide)) rfl rfl (WL.val run_move rfl rfl (WL.skip rfl rfl (WL.skip rfl rfl (WL.val (run_pickT rfl) rfl rfl (WL.nil ?_)))))))
  refine W.condT rfl (W.seq (W.region (WL.val run_assign rfl rfl (WL.val run_assign rfl rfl (WL.nil (W.ret (bodyQ.r2 (v1 := .pointer _) (v2 := .int .i64 _) results7 rfl rfl ?_)))))))
  exact .inr ⟨by unfold decU decU0; rw [hds]; rfl, rfl, h.to⟩
end Go.Proofs.YtjbgiingimhnnaaGreat
/-
  The contracts of reservations. Lines of walks printed by a program of the prover's.
-/
namespace Go.Proofs.YtjbgiingimhnnaaGreat
open Go.Proofs.Tryz
open Go Go.Sl Go.Sl.RsM Go.Sl.ByM Go.Sl.UnM
set_option linter.unusedVariables false
set_option linter.unusedSimpArgs false
set_option maxHeartbeats 1000000
set_option maxRecDepth 8000
variable {W0 w : World} {L F : List HProp}
theorem umay_ok {b i : Nat} {t : Tb} {key : Int} (hi : i < 8) (h : On W0 (blk b t.cells 113 :: L) w) : Calls Tryz.prog 116 #[.pointer (some ⟨b, 0, none⟩), .int .i64 (i : Int), .int .u64 key] w (Ret fun v w' => ((okKB t i key = true ∧ v = .tuple #[rep 0 0 0, .bool true]) ∨ (okKB t i key = false ∧ v = .tuple #[rep 24 0 0, .bool false])) ∧ On W0 (blk b t.cells 113 :: L) w') := by
  refine enter func116 rfl ntmps116 rfl (W.seq (W.region (WL.eff (eff_alloc h zeroValue36 rfl) rfl rfl ?_)))
  rintro _ w ⟨b6, rfl, h⟩
  refine WL.val run_assign rfl rfl (WL.nil (W.seq (W.block (W.seq (W.region (WL.val run_move rfl rfl (WL.eff (eff_call call61 (host_ok h)) rfl rfl ?_)))))))
  rintro _ w ⟨hv, h⟩
  rw [hostB_iff.2 ⟨by omega, by omega⟩] at hv
  subst hv
  refine WL.val (run_not rfl) rfl rfl (WL.val run_assign rfl rfl (WL.nil (W.condF rfl (W.seq (W.region (WL.val run_move rfl rfl (WL.val run_move rfl rfl ?_)))))))
  refine WL.val (run_nilCheck rfl) rfl rfl (WL.val (run_fieldAddr 0 underlying113 rfl sizeOf85 rfl rfl) rfl rfl (WL.val (run_indexAddrArr underlying85 sizeOf23 rfl rfl (by omega) (by omega)) rfl rfl (WL.val (run_load1 isAgg23 rfl (h.cellB (cells_at hi))) rfl rfl ?_)))
  refine WL.dec (run_eql rfl rfl) rfl rfl (fun c20 => ?_) (fun c20 => ?_)
  ·
   refine WL.val run_move rfl rfl (WL.skip rfl rfl (WL.skip rfl rfl (WL.skip rfl rfl (WL.skip rfl rfl (WL.skip rfl rfl (WL.skip rfl rfl (WL.skip rfl rfl ?_)))))))
   refine WL.skip rfl rfl (WL.val (run_pickT rfl) rfl rfl (WL.val run_assign rfl rfl (WL.nil (W.condT rfl (W.seq (W.region (WL.eff (eff_call call113 (conflict_ok h)) rfl rfl ?_)))))))
   rintro _ w ⟨rfl, h⟩
   refine WL.eff (eff_storeW (vs := [.int .i64 _, .int .i64 _, .int .i64 _, .slice _ _ _, .int .i64 _]) h sizeOf36 rfl rfl rfl rfl rfl) rfl rfl ?_
   rintro _ w h
   refine WL.val run_assign rfl rfl (WL.nil (W.ret (bodyQ.rctB (vs := [.int .i64 _, .int .i64 _, .int .i64 _, .slice _ _ _, .int .i64 _]) (v2 := .bool _) h results116 isAgg36 sizeOf36 rfl rfl rfl rfl ?_)))
   exact ⟨.inr ⟨by unfold okKB; simp only [decide_eq_true (show t.K i = 0 by omega)]; rfl, rfl⟩, h.to⟩
  refine WL.val run_move rfl rfl (WL.val run_move rfl rfl (WL.val run_move rfl rfl (WL.val (run_nilCheck rfl) rfl rfl (WL.val (run_fieldAddr 0 underlying113 rfl sizeOf85 rfl rfl) rfl rfl (WL.val (run_indexAddrArr underlying85 sizeOf23 rfl rfl (by omega) (by omega)) rfl rfl (WL.val (run_load1 isAgg23 rfl (h.cellB (cells_at hi))) rfl rfl (WL.val run_move rfl rfl ?_)))))))
  refine WL.val (run_neq rfl rfl) rfl rfl (WL.val (run_pickF rfl) rfl rfl (WL.val run_assign rfl rfl (WL.nil ?_)))
  refine W.condIf rfl (fun c7 => ?_) (fun c7 => ?_)
  ·
   refine W.seq (W.region (WL.eff (eff_call call113 (conflict_ok h)) rfl rfl ?_))
   rintro _ w ⟨rfl, h⟩
   refine WL.eff (eff_storeW (vs := [.int .i64 _, .int .i64 _, .int .i64 _, .slice _ _ _, .int .i64 _]) h sizeOf36 rfl rfl rfl rfl rfl) rfl rfl ?_
   rintro _ w h
   refine WL.val run_assign rfl rfl (WL.nil (W.ret (bodyQ.rctB (vs := [.int .i64 _, .int .i64 _, .int .i64 _, .slice _ _ _, .int .i64 _]) (v2 := .bool _) h results116 isAgg36 sizeOf36 rfl rfl rfl rfl ?_)))
   exact ⟨.inr ⟨by unfold okKB; rw [decide_eq_false (show ¬ t.K i = key by omega), Bool.and_false], rfl⟩, h.to⟩
  refine W.skip (W.seq (W.region (WL.eff (eff_call call115 (good_ok h)) rfl rfl ?_)))
  rintro _ w ⟨rfl, h⟩
  refine WL.eff (eff_storeW (vs := [.int .i64 _, .int .i64 _, .int .i64 _, .slice _ _ _, .int .i64 _]) h sizeOf36 rfl rfl rfl rfl rfl) rfl rfl ?_
  rintro _ w h
  refine WL.val run_assign rfl rfl (WL.nil (W.ret (bodyQ.rctB (vs := [.int .i64 _, .int .i64 _, .int .i64 _, .slice _ _ _, .int .i64 _]) (v2 := .bool _) h results116 isAgg36 sizeOf36 rfl rfl rfl rfl ?_)))
  exact ⟨.inl ⟨by unfold okKB; rw [decide_eq_false (show ¬ t.K i = 0 by omega), decide_eq_true (show t.K i = key by omega)]; rfl, rfl⟩, h.to⟩
theorem uregister_ok {b i : Nat} {t : Tb} {key fresh : Int} {ign : Bool} (hi : i < 8) (h : On W0 (blk b t.cells 113 :: L) w) : Calls Tryz.prog 66 #[.pointer (some ⟨b, 0, none⟩), .int .i64 (i : Int), .int .u64 key, .int .u64 fresh, .bool ign] w (Ret fun v w' => ∃ a c, v = .tuple #[(regF t i key fresh ign).r.val (.slice none 0 0), .slice a (regF t i key fresh ign).l.length c] ∧ On W0 (Own 2 (.slice a (regF t i key fresh ign).l.length c) (regF t i key fresh ign).l.length (notesV (regF t i key fresh ign).code ((regF t i key fresh ign).l)) :: blk b (regF t i key fresh ign).t.cells 113 :: L) w') := by
  refine enter func66 rfl ntmps66 rfl (W.seq (W.region (WL.eff (eff_alloc h zeroValue36 rfl) rfl rfl ?_)))
  rintro _ w ⟨b10, rfl, h⟩
  refine WL.val run_assign rfl rfl (WL.nil (W.seq (W.block (W.seq (W.region (WL.val run_move rfl rfl (WL.eff (eff_call call61 (host_ok h)) rfl rfl ?_)))))))
  rintro _ w ⟨hv, h⟩
  rw [hostB_iff.2 ⟨by omega, by omega⟩] at hv
  subst hv
  refine WL.val (run_not rfl) rfl rfl (WL.val run_assign rfl rfl (WL.nil (W.condF rfl (W.seq (W.region (WL.val run_move rfl rfl ?_))))))
  refine WL.boolB (run_not rfl) rfl rfl (fun c20 => ?_) (fun c20 => ?_)
  ·
   refine WL.val run_move rfl rfl (WL.val run_move rfl rfl (WL.val run_move rfl rfl (WL.val run_move rfl rfl (WL.val (run_nilCheck rfl) rfl rfl (WL.val (run_fieldAddr 0 underlying113 rfl sizeOf85 rfl rfl) rfl rfl (WL.val (run_indexAddrArr underlying85 sizeOf23 rfl rfl (by omega) (by omega)) rfl rfl (WL.val (run_load1 isAgg23 rfl (h.cellB (cells_at hi))) rfl rfl ?_)))))))
   refine WL.val (run_neq rfl rfl) rfl rfl (WL.val (run_pickT rfl) rfl rfl (WL.val run_assign rfl rfl (WL.nil ?_)))
   refine W.condIf rfl (fun c7 => ?_) (fun c7 => ?_)
   ·
    refine W.seq (W.region (WL.eff (eff_call call113 (conflict_ok h)) rfl rfl ?_))
    rintro _ w ⟨rfl, h⟩
    refine WL.eff (eff_storeW (vs := [.int .i64 _, .int .i64 _, .int .i64 _, .slice _ _ _, .int .i64 _]) h sizeOf36 rfl rfl rfl rfl rfl) rfl rfl ?_
    rintro _ w h
    refine WL.val run_assign rfl rfl (WL.nil (W.ret (bodyQ.rctB (vs := [.int .i64 _, .int .i64 _, .int .i64 _, .slice _ _ _, .int .i64 _]) (v2 := .slice _ _ _) h results66 isAgg36 sizeOf36 rfl rfl rfl rfl ?_)))
    have h : On W0 (Own 2 (.slice none 0 0) 0 (notesV 0 []) :: _) w := h.ownEmpty 2 none
    have e : regF t i key fresh ign = ⟨t, plain 24 0 0, [], 0⟩ := by unfold regF; rw [if_neg (by rintro (hx | hx); rw [hx] at c20; cases c20; exact c7 hx)]
    rw [e]
    dsimp only
    exact ⟨none, 0, rfl, h.to⟩
   refine W.skip (W.seq (W.region (WL.val run_move rfl rfl (WL.val (run_nilCheck rfl) rfl rfl (WL.val (run_fieldAddr 10 underlying113 rfl sizeOf111 rfl rfl) rfl rfl (WL.val (run_load1 isAgg111 rfl (h.cellB rfl)) rfl rfl (WL.val (run_addW rfl rfl) rfl rfl ?_)))))))
   refine WL.val (run_nilCheck rfl) rfl rfl (WL.val (run_fieldAddr 10 underlying113 rfl sizeOf111 rfl rfl) rfl rfl (WL.eff (eff_store (v := .int .u32 _) h sizeOf111 rfl rfl rfl rfl rfl) rfl rfl ?_))
   rintro _ w h
   try simp only [Nat.zero_add, Nat.add_zero, List.set_cons_zero, List.set_cons_succ] at h
   refine WL.nil (W.seq ?_)
   have h : On W0 (blk b10 _ 36 :: blk b t.inc.cells 113 :: L) w := h
   refine W.region (WL.val run_assign rfl rfl (WL.nil (W.seq (W.seq (W.region (WL.val run_move rfl rfl ?_))))))
   refine WL.dec (run_eql rfl rfl) rfl rfl (fun c40 => ?_) (fun c40 => ?_)
   ·
    refine WL.val run_move rfl rfl (WL.val run_move rfl rfl (WL.val (run_nilCheck rfl) rfl rfl (WL.val (run_fieldAddr 8 underlying113 rfl sizeOf3 rfl rfl) rfl rfl (WL.val (run_load1 isAgg3 rfl (h.cellB rfl)) rfl rfl (WL.val run_move rfl rfl (WL.val (run_eql rfl rfl) rfl rfl (WL.val (run_pickT rfl) rfl rfl ?_)))))))
    refine WL.nil ?_
    refine W.condIf rfl (fun c14 => ?_) (fun c14 => ?_)
    ·
     refine W.region (WL.val run_move rfl rfl (WL.val run_move rfl rfl (WL.eff (eff_call call114 (drop_ok (t := t.inc) (hh := (i : Int)) (h.fetch (blk b t.inc.cells 113)))) rfl rfl ?_)))
     rintro _ w ⟨ad, rfl, h⟩
     have h : On W0 (Own 2 (.slice ad (t.told i).length (t.told i).length) (t.told i).length (notesV 10756 (t.told i)) :: blk b t.inc.freed.cells 113 :: _) w := h
     refine WL.val run_assign rfl rfl (WL.nil (W.seq (W.region (WL.val run_move rfl rfl (WL.val run_move rfl rfl (WL.val run_move rfl rfl (WL.val (run_nilCheck rfl) rfl rfl ?_)))))))
     refine WL.val (run_fieldAddr 0 underlying113 rfl sizeOf85 rfl rfl) rfl rfl (WL.val (run_indexAddrArr underlying85 sizeOf23 rfl rfl (by omega) (by omega)) rfl rfl (WL.eff (eff_store (v := .int .u64 _) h sizeOf23 rfl rfl rfl (cells_lt hi) (free0 _)) rfl rfl ?_))
     rintro _ w h
     rw [cells_set hi] at h
     refine WL.nil (W.seq (W.region (WL.eff (eff_call call115 (good_ok h)) rfl rfl ?_)))
     rintro _ w ⟨rfl, h⟩
     refine WL.val run_move rfl rfl (WL.eff (eff_storeW (vs := [.int .i64 _, .int .i64 _, .int .i64 _, .slice _ _ _, .int .i64 _]) h sizeOf36 rfl rfl rfl rfl rfl) rfl rfl ?_)
     rintro _ w h
     refine WL.val run_assign rfl rfl (WL.nil (W.ret (bodyQ.rctB (vs := [.int .i64 _, .int .i64 _, .int .i64 _, .slice _ _ _, .int .i64 _]) (v2 := .slice _ _ _) h results66 isAgg36 sizeOf36 rfl rfl rfl rfl ?_)))
     have e1 : regO t i fresh = (t.told i, t.inc.freed.put i fresh) := by unfold regO; rw [if_pos ⟨by omega, c14⟩]
     have e : regF t i key fresh ign = ⟨t.inc.freed.put i fresh, plain 0 0 0, t.told i, 10756⟩ := by unfold regF; rw [if_pos (.inr (by omega)), e1]
     rw [e]
     dsimp only
     exact ⟨ad, (t.told i).length, rfl, h.to⟩
    refine W.skip (W.seq (W.region (WL.val run_move rfl rfl (WL.val run_move rfl rfl (WL.val run_move rfl rfl (WL.val (run_nilCheck rfl) rfl rfl (WL.val (run_fieldAddr 0 underlying113 rfl sizeOf85 rfl rfl) rfl rfl ?_)))))))
    refine WL.val (run_indexAddrArr underlying85 sizeOf23 rfl rfl (by omega) (by omega)) rfl rfl (WL.eff (eff_store (v := .int .u64 _) h sizeOf23 rfl rfl rfl (cells_lt hi) (free0 _)) rfl rfl ?_)
    rintro _ w h
    rw [cells_set hi] at h
    refine WL.nil (W.seq (W.region (WL.eff (eff_call call115 (good_ok h)) rfl rfl ?_)))
    rintro _ w ⟨rfl, h⟩
    refine WL.val run_move rfl rfl (WL.eff (eff_storeW (vs := [.int .i64 _, .int .i64 _, .int .i64 _, .slice _ _ _, .int .i64 _]) h sizeOf36 rfl rfl rfl rfl rfl) rfl rfl ?_)
    rintro _ w h
    refine WL.val run_assign rfl rfl (WL.nil (W.ret (bodyQ.rctB (vs := [.int .i64 _, .int .i64 _, .int .i64 _, .slice _ _ _, .int .i64 _]) (v2 := .slice _ _ _) h results66 isAgg36 sizeOf36 rfl rfl rfl rfl ?_)))
    have e1 : regO t i fresh = ([], t.inc.put i fresh) := by unfold regO; rw [if_neg (fun hh => c14 hh.2)]
    have h : On W0 (Own 2 (.slice none 0 0) 0 (notesV 10756 []) :: _) w := h.ownEmpty 2 none
    have e : regF t i key fresh ign = ⟨t.inc.put i fresh, plain 0 0 0, [], 10756⟩ := by unfold regF; rw [if_pos (.inr (by omega)), e1]
    rw [e]
    dsimp only
    exact ⟨none, 0, rfl, h.to⟩
   refine WL.val run_move rfl rfl (WL.skip rfl rfl (WL.skip rfl rfl (WL.skip rfl rfl (WL.skip rfl rfl (WL.skip rfl rfl (WL.skip rfl rfl (WL.val (run_pickF rfl) rfl rfl ?_)))))))
   refine WL.nil (W.condF rfl (W.skip (W.seq (W.region (WL.val run_move rfl rfl (WL.val run_move rfl rfl (WL.val run_move rfl rfl ?_)))))))
   refine WL.val (run_nilCheck rfl) rfl rfl (WL.val (run_fieldAddr 0 underlying113 rfl sizeOf85 rfl rfl) rfl rfl (WL.val (run_indexAddrArr underlying85 sizeOf23 rfl rfl (by omega) (by omega)) rfl rfl (WL.eff (eff_store (v := .int .u64 _) h sizeOf23 rfl rfl rfl (cells_lt hi) (free0 _)) rfl rfl ?_)))
   rintro _ w h
   rw [cells_set hi] at h
   refine WL.nil (W.seq (W.region (WL.eff (eff_call call115 (good_ok h)) rfl rfl ?_)))
   rintro _ w ⟨rfl, h⟩
   refine WL.val run_move rfl rfl (WL.eff (eff_storeW (vs := [.int .i64 _, .int .i64 _, .int .i64 _, .slice _ _ _, .int .i64 _]) h sizeOf36 rfl rfl rfl rfl rfl) rfl rfl ?_)
   rintro _ w h
   refine WL.val run_assign rfl rfl (WL.nil (W.ret (bodyQ.rctB (vs := [.int .i64 _, .int .i64 _, .int .i64 _, .slice _ _ _, .int .i64 _]) (v2 := .slice _ _ _) h results66 isAgg36 sizeOf36 rfl rfl rfl rfl ?_)))
   have e1 : regO t i fresh = ([], t.inc.put i fresh) := by unfold regO; rw [if_neg (fun hh => c40 hh.1)]
   have h : On W0 (Own 2 (.slice none 0 0) 0 (notesV 10756 []) :: _) w := h.ownEmpty 2 none
   have e : regF t i key fresh ign = ⟨t.inc.put i fresh, plain 0 0 0, [], 10756⟩ := by unfold regF; rw [if_pos (.inr (by omega)), e1]
   rw [e]
   dsimp only
   exact ⟨none, 0, rfl, h.to⟩
  refine WL.val run_move rfl rfl (WL.skip rfl rfl (WL.skip rfl rfl (WL.skip rfl rfl (WL.skip rfl rfl (WL.skip rfl rfl (WL.skip rfl rfl (WL.skip rfl rfl ?_)))))))
  refine WL.skip rfl rfl (WL.val (run_pickF rfl) rfl rfl (WL.val run_assign rfl rfl (WL.nil (W.condF rfl (W.skip (W.seq (W.region ?_)))))))
  refine WL.val run_move rfl rfl (WL.val (run_nilCheck rfl) rfl rfl (WL.val (run_fieldAddr 10 underlying113 rfl sizeOf111 rfl rfl) rfl rfl (WL.val (run_load1 isAgg111 rfl (h.cellB rfl)) rfl rfl (WL.val (run_addW rfl rfl) rfl rfl (WL.val (run_nilCheck rfl) rfl rfl (WL.val (run_fieldAddr 10 underlying113 rfl sizeOf111 rfl rfl) rfl rfl (WL.eff (eff_store (v := .int .u32 _) h sizeOf111 rfl rfl rfl rfl rfl) rfl rfl ?_)))))))
  rintro _ w h
  try simp only [Nat.zero_add, Nat.add_zero, List.set_cons_zero, List.set_cons_succ] at h
  refine WL.nil (W.seq ?_)
  have h : On W0 (blk b10 _ 36 :: blk b t.inc.cells 113 :: L) w := h
  refine W.region (WL.val run_assign rfl rfl (WL.nil (W.seq (W.seq (W.region (WL.val run_move rfl rfl ?_))))))
  refine WL.dec (run_eql rfl rfl) rfl rfl (fun c40 => ?_) (fun c40 => ?_)
  ·
   refine WL.val run_move rfl rfl (WL.val run_move rfl rfl (WL.val (run_nilCheck rfl) rfl rfl (WL.val (run_fieldAddr 8 underlying113 rfl sizeOf3 rfl rfl) rfl rfl (WL.val (run_load1 isAgg3 rfl (h.cellB rfl)) rfl rfl (WL.val run_move rfl rfl (WL.val (run_eql rfl rfl) rfl rfl (WL.val (run_pickT rfl) rfl rfl ?_)))))))
   refine WL.nil ?_
   refine W.condIf rfl (fun c14 => ?_) (fun c14 => ?_)
   ·
    refine W.region (WL.val run_move rfl rfl (WL.val run_move rfl rfl (WL.eff (eff_call call114 (drop_ok (t := t.inc) (hh := (i : Int)) (h.fetch (blk b t.inc.cells 113)))) rfl rfl ?_)))
    rintro _ w ⟨ad, rfl, h⟩
    have h : On W0 (Own 2 (.slice ad (t.told i).length (t.told i).length) (t.told i).length (notesV 10756 (t.told i)) :: blk b t.inc.freed.cells 113 :: _) w := h
    refine WL.val run_assign rfl rfl (WL.nil (W.seq (W.region (WL.val run_move rfl rfl (WL.val run_move rfl rfl (WL.val run_move rfl rfl (WL.val (run_nilCheck rfl) rfl rfl ?_)))))))
    refine WL.val (run_fieldAddr 0 underlying113 rfl sizeOf85 rfl rfl) rfl rfl (WL.val (run_indexAddrArr underlying85 sizeOf23 rfl rfl (by omega) (by omega)) rfl rfl (WL.eff (eff_store (v := .int .u64 _) h sizeOf23 rfl rfl rfl (cells_lt hi) (free0 _)) rfl rfl ?_))
    rintro _ w h
    rw [cells_set hi] at h
    refine WL.nil (W.seq (W.region (WL.eff (eff_call call115 (good_ok h)) rfl rfl ?_)))
    rintro _ w ⟨rfl, h⟩
    refine WL.val run_move rfl rfl (WL.eff (eff_storeW (vs := [.int .i64 _, .int .i64 _, .int .i64 _, .slice _ _ _, .int .i64 _]) h sizeOf36 rfl rfl rfl rfl rfl) rfl rfl ?_)
    rintro _ w h
    refine WL.val run_assign rfl rfl (WL.nil (W.ret (bodyQ.rctB (vs := [.int .i64 _, .int .i64 _, .int .i64 _, .slice _ _ _, .int .i64 _]) (v2 := .slice _ _ _) h results66 isAgg36 sizeOf36 rfl rfl rfl rfl ?_)))
    have e1 : regO t i fresh = (t.told i, t.inc.freed.put i fresh) := by unfold regO; rw [if_pos ⟨by omega, c14⟩]
    have e : regF t i key fresh ign = ⟨t.inc.freed.put i fresh, plain 0 0 0, t.told i, 10756⟩ := by unfold regF; rw [if_pos (.inl (by simpa using c20)), e1]
    rw [e]
    dsimp only
    exact ⟨ad, (t.told i).length, rfl, h.to⟩
   refine W.skip (W.seq (W.region (WL.val run_move rfl rfl (WL.val run_move rfl rfl (WL.val run_move rfl rfl (WL.val (run_nilCheck rfl) rfl rfl (WL.val (run_fieldAddr 0 underlying113 rfl sizeOf85 rfl rfl) rfl rfl ?_)))))))
   refine WL.val (run_indexAddrArr underlying85 sizeOf23 rfl rfl (by omega) (by omega)) rfl rfl (WL.eff (eff_store (v := .int .u64 _) h sizeOf23 rfl rfl rfl (cells_lt hi) (free0 _)) rfl rfl ?_)
   rintro _ w h
   rw [cells_set hi] at h
   refine WL.nil (W.seq (W.region (WL.eff (eff_call call115 (good_ok h)) rfl rfl ?_)))
   rintro _ w ⟨rfl, h⟩
   refine WL.val run_move rfl rfl (WL.eff (eff_storeW (vs := [.int .i64 _, .int .i64 _, .int .i64 _, .slice _ _ _, .int .i64 _]) h sizeOf36 rfl rfl rfl rfl rfl) rfl rfl ?_)
   rintro _ w h
   refine WL.val run_assign rfl rfl (WL.nil (W.ret (bodyQ.rctB (vs := [.int .i64 _, .int .i64 _, .int .i64 _, .slice _ _ _, .int .i64 _]) (v2 := .slice _ _ _) h results66 isAgg36 sizeOf36 rfl rfl rfl rfl ?_)))
   have e1 : regO t i fresh = ([], t.inc.put i fresh) := by unfold regO; rw [if_neg (fun hh => c14 hh.2)]
   have h : On W0 (Own 2 (.slice none 0 0) 0 (notesV 10756 []) :: _) w := h.ownEmpty 2 none
   have e : regF t i key fresh ign = ⟨t.inc.put i fresh, plain 0 0 0, [], 10756⟩ := by unfold regF; rw [if_pos (.inl (by simpa using c20)), e1]
   rw [e]
   dsimp only
   exact ⟨none, 0, rfl, h.to⟩
  refine WL.val run_move rfl rfl (WL.skip rfl rfl (WL.skip rfl rfl (WL.skip rfl rfl (WL.skip rfl rfl (WL.skip rfl rfl (WL.skip rfl rfl (WL.val (run_pickF rfl) rfl rfl ?_)))))))
  refine WL.nil (W.condF rfl (W.skip (W.seq (W.region (WL.val run_move rfl rfl (WL.val run_move rfl rfl (WL.val run_move rfl rfl ?_)))))))
  refine WL.val (run_nilCheck rfl) rfl rfl (WL.val (run_fieldAddr 0 underlying113 rfl sizeOf85 rfl rfl) rfl rfl (WL.val (run_indexAddrArr underlying85 sizeOf23 rfl rfl (by omega) (by omega)) rfl rfl (WL.eff (eff_store (v := .int .u64 _) h sizeOf23 rfl rfl rfl (cells_lt hi) (free0 _)) rfl rfl ?_)))
  rintro _ w h
  rw [cells_set hi] at h
  refine WL.nil (W.seq (W.region (WL.eff (eff_call call115 (good_ok h)) rfl rfl ?_)))
  rintro _ w ⟨rfl, h⟩
  refine WL.val run_move rfl rfl (WL.eff (eff_storeW (vs := [.int .i64 _, .int .i64 _, .int .i64 _, .slice _ _ _, .int .i64 _]) h sizeOf36 rfl rfl rfl rfl rfl) rfl rfl ?_)
  rintro _ w h
  refine WL.val run_assign rfl rfl (WL.nil (W.ret (bodyQ.rctB (vs := [.int .i64 _, .int .i64 _, .int .i64 _, .slice _ _ _, .int .i64 _]) (v2 := .slice _ _ _) h results66 isAgg36 sizeOf36 rfl rfl rfl rfl ?_)))
  have e1 : regO t i fresh = ([], t.inc.put i fresh) := by unfold regO; rw [if_neg (fun hh => c40 hh.1)]
  have h : On W0 (Own 2 (.slice none 0 0) 0 (notesV 10756 []) :: _) w := h.ownEmpty 2 none
  have e : regF t i key fresh ign = ⟨t.inc.put i fresh, plain 0 0 0, [], 10756⟩ := by unfold regF; rw [if_pos (.inl (by simpa using c20)), e1]
  rw [e]
  dsimp only
  exact ⟨none, 0, rfl, h.to⟩
theorem ureserve_ok {b i : Nat} {t : Tb} {key typ : Int} (hi : i < 8) (h : On W0 (blk b t.cells 113 :: L) w) : Calls Tryz.prog 67 #[.pointer (some ⟨b, 0, none⟩), .int .i64 (i : Int), .int .u64 key, .int .i64 typ] w (Ret fun v w' => v = (rsvF t i key typ).r.val (.slice none 0 0) ∧ On W0 (blk b (rsvF t i key typ).t.cells 113 :: L) w') := by
  refine enter func67 rfl ntmps67 rfl (W.seq (W.region (WL.eff (eff_alloc h zeroValue36 rfl) rfl rfl ?_)))
  rintro _ w ⟨b8, rfl, h⟩
  refine WL.nil (W.seq (W.seq (W.region (WL.val run_move rfl rfl (WL.val run_move rfl rfl (WL.val run_move rfl rfl (WL.eff (eff_call call116 (umay_ok hi (h.fetch (blk b t.cells 113)))) rfl rfl ?_)))))))
  rintro _ w ⟨hv, h⟩
  rcases hv with ⟨hok, rfl⟩ | ⟨hok, rfl⟩
  ·
   refine WL.val run_move rfl rfl (WL.val (run_extract rfl rfl) rfl rfl (WL.val (run_extract rfl rfl) rfl rfl (WL.eff (eff_alloc h zeroValue36 rfl) rfl rfl ?_)))
   rintro _ w ⟨b9, rfl, h⟩
   refine WL.eff (eff_storeW (vs := [.int .i64 _, .int .i64 _, .int .i64 _, .slice _ _ _, .int .i64 _]) h sizeOf36 rfl rfl rfl rfl rfl) rfl rfl ?_
   rintro _ w h
   refine WL.val run_assign rfl rfl (WL.nil (W.seq (W.region (WL.val run_move rfl rfl (WL.val (run_not rfl) rfl rfl (WL.nil (W.condF rfl ?_)))))))
   refine W.skip (W.seq (W.block (W.seq (W.region (WL.val run_move rfl rfl (WL.eff (eff_call call56 (typed_ok h)) rfl rfl ?_))))))
   rintro _ w ⟨hv, h⟩
   have hcs := Bool.eq_false_or_eq_true (typedB typ)
   rcases hcs with hty | hty <;> (rw [hty] at hv; subst hv)
   ·
    refine WL.val (run_not rfl) rfl rfl (WL.val run_assign rfl rfl (WL.nil (W.condF rfl (W.seq (W.region (WL.val run_move rfl rfl (WL.val (run_nilCheck rfl) rfl rfl ?_)))))))
    refine WL.val (run_fieldAddr 8 underlying113 rfl sizeOf3 rfl rfl) rfl rfl (WL.val (run_load1 isAgg3 rfl (h.cellB rfl)) rfl rfl (WL.val (run_eql rfl rfl) rfl rfl (WL.val run_assign rfl rfl (WL.nil ?_))))
    refine W.condIf rfl (fun c13 => ?_) (fun c13 => ?_)
    ·
     refine W.seq (W.region (WL.val run_move rfl rfl (WL.val run_move rfl rfl (WL.val run_move rfl rfl (WL.val run_move rfl rfl (WL.val (run_nilCheck rfl) rfl rfl (WL.val (run_fieldAddr 8 underlying113 rfl sizeOf3 rfl rfl) rfl rfl ?_)))))))
     refine WL.eff (eff_store (v := .int .i64 _) h sizeOf3 rfl rfl rfl rfl rfl) rfl rfl ?_
     rintro _ w h
     try simp only [Nat.zero_add, Nat.add_zero, List.set_cons_zero, List.set_cons_succ] at h
     refine WL.val (run_nilCheck rfl) rfl rfl (WL.val (run_fieldAddr 9 underlying113 rfl sizeOf3 rfl rfl) rfl rfl (WL.eff (eff_store (v := .int .i64 _) h sizeOf3 rfl rfl rfl rfl rfl) rfl rfl ?_))
     rintro _ w h
     try simp only [Nat.zero_add, Nat.add_zero, List.set_cons_zero, List.set_cons_succ] at h
     refine WL.nil (W.seq ?_)
     have h := h.fetch (blk b ((t.cells.set (0 + 8) (.int .i64 (i : Int))).set (0 + 9) (.int .i64 typ)) 113)
     have h : On W0 (blk b (t.take i typ).cells 113 :: _) w := h
     refine W.region (WL.eff (eff_call call115 (good_ok h)) rfl rfl ?_)
     rintro _ w ⟨rfl, h⟩
     refine WL.eff (eff_storeW (vs := [.int .i64 _, .int .i64 _, .int .i64 _, .slice _ _ _, .int .i64 _]) h sizeOf36 rfl rfl rfl rfl rfl) rfl rfl ?_
     rintro _ w h
     refine WL.nil (W.ret (bodyQ.rcB (vs := [.int .i64 _, .int .i64 _, .int .i64 _, .slice _ _ _, .int .i64 _]) h results67 isAgg36 sizeOf36 rfl rfl rfl ?_))
     have e : rsvF t i key typ = ⟨t.take i typ, plain 0 0 0, [], 0⟩ := by unfold rsvF; rw [if_neg (by rw [hok]; decide), if_neg (by rw [hty]; decide), if_pos c13]
     rw [e]
     dsimp only
     exact ⟨rfl, h.to⟩
    refine W.seq (W.region (WL.val run_move rfl rfl (WL.val (run_nilCheck rfl) rfl rfl (WL.val (run_fieldAddr 8 underlying113 rfl sizeOf3 rfl rfl) rfl rfl (WL.val (run_load1 isAgg3 rfl (h.cellB rfl)) rfl rfl (WL.val run_move rfl rfl ?_))))))
    refine WL.dec (run_eql rfl rfl) rfl rfl (fun c47 => ?_) (fun c47 => ?_)
    ·
     refine WL.val run_move rfl rfl (WL.val run_move rfl rfl (WL.val (run_nilCheck rfl) rfl rfl (WL.val (run_fieldAddr 9 underlying113 rfl sizeOf3 rfl rfl) rfl rfl (WL.val (run_load1 isAgg3 rfl (h.cellB rfl)) rfl rfl (WL.val run_move rfl rfl (WL.val (run_eql rfl rfl) rfl rfl (WL.val (run_pickT rfl) rfl rfl ?_)))))))
     refine WL.val run_assign rfl rfl (WL.nil ?_)
     refine W.condIf rfl (fun c18 => ?_) (fun c18 => ?_)
     ·
      refine W.seq (W.region (WL.eff (eff_call call115 (good_ok h)) rfl rfl ?_))
      rintro _ w ⟨rfl, h⟩
      refine WL.eff (eff_storeW (vs := [.int .i64 _, .int .i64 _, .int .i64 _, .slice _ _ _, .int .i64 _]) h sizeOf36 rfl rfl rfl rfl rfl) rfl rfl ?_
      rintro _ w h
      refine WL.nil (W.ret (bodyQ.rcB (vs := [.int .i64 _, .int .i64 _, .int .i64 _, .slice _ _ _, .int .i64 _]) h results67 isAgg36 sizeOf36 rfl rfl rfl ?_))
      have e : rsvF t i key typ = ⟨t, plain 0 0 0, [], 0⟩ := by unfold rsvF; rw [if_neg (by rw [hok]; decide), if_neg (by rw [hty]; decide), if_neg c13, if_pos ⟨by omega, by omega⟩]
      rw [e]
      dsimp only
      exact ⟨rfl, h.to⟩
     refine W.skip (W.seq (W.region (WL.eff (eff_call call113 (conflict_ok h)) rfl rfl ?_)))
     rintro _ w ⟨rfl, h⟩
     refine WL.eff (eff_storeW (vs := [.int .i64 _, .int .i64 _, .int .i64 _, .slice _ _ _, .int .i64 _]) h sizeOf36 rfl rfl rfl rfl rfl) rfl rfl ?_
     rintro _ w h
     refine WL.nil (W.ret (bodyQ.rcB (vs := [.int .i64 _, .int .i64 _, .int .i64 _, .slice _ _ _, .int .i64 _]) h results67 isAgg36 sizeOf36 rfl rfl rfl ?_))
     have e : rsvF t i key typ = ⟨t, plain 24 0 0, [], 0⟩ := by unfold rsvF; rw [if_neg (by rw [hok]; decide), if_neg (by rw [hty]; decide), if_neg c13, if_neg (by omega)]
     rw [e]
     dsimp only
     exact ⟨rfl, h.to⟩
    refine WL.val run_move rfl rfl (WL.skip rfl rfl (WL.skip rfl rfl (WL.skip rfl rfl (WL.skip rfl rfl (WL.skip rfl rfl (WL.skip rfl rfl (WL.val (run_pickF rfl) rfl rfl ?_)))))))
    refine WL.val run_assign rfl rfl (WL.nil (W.condF rfl (W.skip (W.seq (W.region (WL.eff (eff_call call113 (conflict_ok h)) rfl rfl ?_))))))
    rintro _ w ⟨rfl, h⟩
    refine WL.eff (eff_storeW (vs := [.int .i64 _, .int .i64 _, .int .i64 _, .slice _ _ _, .int .i64 _]) h sizeOf36 rfl rfl rfl rfl rfl) rfl rfl ?_
    rintro _ w h
    refine WL.nil (W.ret (bodyQ.rcB (vs := [.int .i64 _, .int .i64 _, .int .i64 _, .slice _ _ _, .int .i64 _]) h results67 isAgg36 sizeOf36 rfl rfl rfl ?_))
    have e : rsvF t i key typ = ⟨t, plain 24 0 0, [], 0⟩ := by unfold rsvF; rw [if_neg (by rw [hok]; decide), if_neg (by rw [hty]; decide), if_neg c13, if_neg (by omega)]
    rw [e]
    dsimp only
    exact ⟨rfl, h.to⟩
   refine WL.val (run_not rfl) rfl rfl (WL.val run_assign rfl rfl (WL.nil (W.condT rfl (W.seq (W.region (WL.eff (eff_call call112 (field_ok h)) rfl rfl ?_))))))
   rintro _ w ⟨rfl, h⟩
   refine WL.eff (eff_storeW (vs := [.int .i64 _, .int .i64 _, .int .i64 _, .slice _ _ _, .int .i64 _]) h sizeOf36 rfl rfl rfl rfl rfl) rfl rfl ?_
   rintro _ w h
   refine WL.nil (W.ret (bodyQ.rcB (vs := [.int .i64 _, .int .i64 _, .int .i64 _, .slice _ _ _, .int .i64 _]) h results67 isAgg36 sizeOf36 rfl rfl rfl ?_))
   have e : rsvF t i key typ = ⟨t, plain 2 5 9216, [], 0⟩ := by unfold rsvF; rw [if_neg (by rw [hok]; decide), if_pos hty]
   rw [e]
   dsimp only
   exact ⟨rfl, h.to⟩
  refine WL.val run_move rfl rfl (WL.val (run_extract rfl rfl) rfl rfl (WL.val (run_extract rfl rfl) rfl rfl (WL.eff (eff_alloc h zeroValue36 rfl) rfl rfl ?_)))
  rintro _ w ⟨b9, rfl, h⟩
  refine WL.eff (eff_storeW (vs := [.int .i64 _, .int .i64 _, .int .i64 _, .slice _ _ _, .int .i64 _]) h sizeOf36 rfl rfl rfl rfl rfl) rfl rfl ?_
  rintro _ w h
  refine WL.val run_assign rfl rfl (WL.nil (W.seq (W.region (WL.val run_move rfl rfl (WL.val (run_not rfl) rfl rfl (WL.nil (W.condT rfl ?_)))))))
  refine W.seq (W.region (WL.val (run_loadB (vs := [.int .i64 _, .int .i64 _, .int .i64 _, .slice _ _ _, .int .i64 _]) h isAgg36 sizeOf36 rfl rfl rfl) rfl rfl (WL.eff (eff_storeW (vs := [.int .i64 _, .int .i64 _, .int .i64 _, .slice _ _ _, .int .i64 _]) h sizeOf36 rfl rfl rfl rfl rfl) rfl rfl ?_)))
  rintro _ w h
  refine WL.nil (W.ret (bodyQ.rcB (vs := [.int .i64 _, .int .i64 _, .int .i64 _, .slice _ _ _, .int .i64 _]) h results67 isAgg36 sizeOf36 rfl rfl rfl ?_))
  have e : rsvF t i key typ = ⟨t, plain 24 0 0, [], 0⟩ := by unfold rsvF; rw [if_pos hok]
  rw [e]
  dsimp only
  exact ⟨rfl, h.to⟩
theorem urelease_ok {b i : Nat} {t : Tb} {key typ : Int} (hi : i < 8) (h : On W0 (blk b t.cells 113 :: L) w) : Calls Tryz.prog 68 #[.pointer (some ⟨b, 0, none⟩), .int .i64 (i : Int), .int .u64 key, .int .i64 typ] w (Ret fun v w' => ∃ a c, v = .tuple #[(relF t i key typ).r.val (.slice none 0 0), .slice a (relF t i key typ).l.length c] ∧ On W0 (Own 2 (.slice a (relF t i key typ).l.length c) (relF t i key typ).l.length (notesV (relF t i key typ).code ((relF t i key typ).l)) :: blk b (relF t i key typ).t.cells 113 :: L) w') := by
  refine enter func68 rfl ntmps68 rfl (W.seq (W.region (WL.eff (eff_alloc h zeroValue36 rfl) rfl rfl ?_)))
  rintro _ w ⟨b8, rfl, h⟩
  refine WL.val run_assign rfl rfl (WL.nil (W.seq (W.seq (W.region (WL.val run_move rfl rfl (WL.val run_move rfl rfl (WL.val run_move rfl rfl ?_)))))))
  refine WL.eff (eff_call call116 (umay_ok hi (h.fetch (blk b t.cells 113)))) rfl rfl ?_
  rintro _ w ⟨hv, h⟩
  rcases hv with ⟨hok, rfl⟩ | ⟨hok, rfl⟩
  ·
   refine WL.val run_move rfl rfl (WL.val (run_extract rfl rfl) rfl rfl (WL.val (run_extract rfl rfl) rfl rfl (WL.eff (eff_alloc h zeroValue36 rfl) rfl rfl ?_)))
   rintro _ w ⟨b10, rfl, h⟩
   refine WL.eff (eff_storeW (vs := [.int .i64 _, .int .i64 _, .int .i64 _, .slice _ _ _, .int .i64 _]) h sizeOf36 rfl rfl rfl rfl rfl) rfl rfl ?_
   rintro _ w h
   refine WL.val run_assign rfl rfl (WL.nil (W.seq (W.region (WL.val run_move rfl rfl (WL.val (run_not rfl) rfl rfl (WL.nil (W.condF rfl ?_)))))))
   refine W.skip (W.seq (W.block (W.seq (W.region (WL.val run_move rfl rfl (WL.eff (eff_call call56 (typed_ok h)) rfl rfl ?_))))))
   rintro _ w ⟨hv, h⟩
   have hcs := Bool.eq_false_or_eq_true (typedB typ)
   rcases hcs with hty | hty <;> (rw [hty] at hv; subst hv)
   ·
    refine WL.val (run_not rfl) rfl rfl (WL.val run_assign rfl rfl (WL.nil (W.condF rfl (W.seq (W.region (WL.val run_move rfl rfl (WL.val (run_nilCheck rfl) rfl rfl ?_)))))))
    refine WL.val (run_fieldAddr 8 underlying113 rfl sizeOf3 rfl rfl) rfl rfl (WL.val (run_load1 isAgg3 rfl (h.cellB rfl)) rfl rfl (WL.val run_move rfl rfl (WL.val (run_neq rfl rfl) rfl rfl (WL.val run_assign rfl rfl (WL.nil ?_)))))
    refine W.condIf rfl (fun c13 => ?_) (fun c13 => ?_)
    ·
     refine W.seq (W.region (WL.eff (eff_call call115 (good_ok h)) rfl rfl ?_))
     rintro _ w ⟨rfl, h⟩
     refine WL.eff (eff_storeW (vs := [.int .i64 _, .int .i64 _, .int .i64 _, .slice _ _ _, .int .i64 _]) h sizeOf36 rfl rfl rfl rfl rfl) rfl rfl ?_
     rintro _ w h
     refine WL.val run_assign rfl rfl (WL.nil (W.ret (bodyQ.rctB (vs := [.int .i64 _, .int .i64 _, .int .i64 _, .slice _ _ _, .int .i64 _]) (v2 := .slice _ _ _) h results68 isAgg36 sizeOf36 rfl rfl rfl rfl ?_)))
     have h : On W0 (Own 2 (.slice none 0 0) 0 (notesV 0 []) :: _) w := h.ownEmpty 2 none
     have e : relF t i key typ = ⟨t, plain 0 0 0, [], 0⟩ := by unfold relF; rw [if_neg (by rw [hok]; decide), if_neg (by rw [hty]; decide), if_pos (show t.hold ≠ i from c13)]
     rw [e]
     dsimp only
     exact ⟨none, 0, rfl, h.to⟩
    refine W.seq (W.region (WL.val run_move rfl rfl (WL.val (run_nilCheck rfl) rfl rfl (WL.val (run_fieldAddr 9 underlying113 rfl sizeOf3 rfl rfl) rfl rfl (WL.val (run_load1 isAgg3 rfl (h.cellB rfl)) rfl rfl (WL.val run_move rfl rfl (WL.val (run_neq rfl rfl) rfl rfl ?_)))))))
    refine WL.val run_assign rfl rfl (WL.nil ?_)
    refine W.condIf rfl (fun c17 => ?_) (fun c17 => ?_)
    ·
     refine W.seq (W.region (WL.eff (eff_call call26 (wrong_ok h)) rfl rfl ?_))
     rintro _ w ⟨rfl, h⟩
     refine WL.eff (eff_storeW (vs := [.int .i64 _, .int .i64 _, .int .i64 _, .slice _ _ _, .int .i64 _]) h sizeOf36 rfl rfl rfl rfl rfl) rfl rfl ?_
     rintro _ w h
     refine WL.val run_assign rfl rfl (WL.nil (W.ret (bodyQ.rctB (vs := [.int .i64 _, .int .i64 _, .int .i64 _, .slice _ _ _, .int .i64 _]) (v2 := .slice _ _ _) h results68 isAgg36 sizeOf36 rfl rfl rfl rfl ?_)))
     have h : On W0 (Own 2 (.slice none 0 0) 0 (notesV 0 []) :: _) w := h.ownEmpty 2 none
     have e : relF t i key typ = ⟨t, plain 2 5 9732, [], 0⟩ := by unfold relF; rw [if_neg (by rw [hok]; decide), if_neg (by rw [hty]; decide), if_neg (by omega), if_pos (show t.typ ≠ typ from c17)]
     rw [e]
     dsimp only
     exact ⟨none, 0, rfl, h.to⟩
    refine W.skip (W.seq (W.region (WL.eff (eff_call call115 (good_ok h)) rfl rfl ?_)))
    rintro _ w ⟨rfl, h⟩
    refine WL.val run_move rfl rfl (WL.val run_move rfl rfl (WL.eff (eff_call call114 (drop_ok (hh := (i : Int)) (h.fetch (blk b t.cells 113)))) rfl rfl ?_))
    rintro _ w ⟨ad, rfl, h⟩
    refine WL.eff (eff_storeW (vs := [.int .i64 _, .int .i64 _, .int .i64 _, .slice _ _ _, .int .i64 _]) h sizeOf36 rfl rfl rfl rfl rfl) rfl rfl ?_
    rintro _ w h
    refine WL.val run_assign rfl rfl (WL.nil (W.ret (bodyQ.rctB (vs := [.int .i64 _, .int .i64 _, .int .i64 _, .slice _ _ _, .int .i64 _]) (v2 := .slice _ _ _) h results68 isAgg36 sizeOf36 rfl rfl rfl rfl ?_)))
    have e : relF t i key typ = ⟨t.freed, plain 0 0 0, t.told i, 10756⟩ := by unfold relF; rw [if_neg (by rw [hok]; decide), if_neg (by rw [hty]; decide), if_neg (by omega), if_neg (by omega)]
    rw [e]
    dsimp only
    exact ⟨ad, (t.told i).length, rfl, h.to⟩
   refine WL.val (run_not rfl) rfl rfl (WL.val run_assign rfl rfl (WL.nil (W.condT rfl (W.seq (W.region (WL.eff (eff_call call112 (field_ok h)) rfl rfl ?_))))))
   rintro _ w ⟨rfl, h⟩
   refine WL.eff (eff_storeW (vs := [.int .i64 _, .int .i64 _, .int .i64 _, .slice _ _ _, .int .i64 _]) h sizeOf36 rfl rfl rfl rfl rfl) rfl rfl ?_
   rintro _ w h
   refine WL.val run_assign rfl rfl (WL.nil (W.ret (bodyQ.rctB (vs := [.int .i64 _, .int .i64 _, .int .i64 _, .slice _ _ _, .int .i64 _]) (v2 := .slice _ _ _) h results68 isAgg36 sizeOf36 rfl rfl rfl rfl ?_)))
   have h : On W0 (Own 2 (.slice none 0 0) 0 (notesV 0 []) :: _) w := h.ownEmpty 2 none
   have e : relF t i key typ = ⟨t, plain 2 5 9216, [], 0⟩ := by unfold relF; rw [if_neg (by rw [hok]; decide), if_pos hty]
   rw [e]
   dsimp only
   exact ⟨none, 0, rfl, h.to⟩
  refine WL.val run_move rfl rfl (WL.val (run_extract rfl rfl) rfl rfl (WL.val (run_extract rfl rfl) rfl rfl (WL.eff (eff_alloc h zeroValue36 rfl) rfl rfl ?_)))
  rintro _ w ⟨b10, rfl, h⟩
  refine WL.eff (eff_storeW (vs := [.int .i64 _, .int .i64 _, .int .i64 _, .slice _ _ _, .int .i64 _]) h sizeOf36 rfl rfl rfl rfl rfl) rfl rfl ?_
  rintro _ w h
  refine WL.val run_assign rfl rfl (WL.nil (W.seq (W.region (WL.val run_move rfl rfl (WL.val (run_not rfl) rfl rfl (WL.nil (W.condT rfl ?_)))))))
  refine W.seq (W.region (WL.val (run_loadB (vs := [.int .i64 _, .int .i64 _, .int .i64 _, .slice _ _ _, .int .i64 _]) h isAgg36 sizeOf36 rfl rfl rfl) rfl rfl (WL.eff (eff_storeW (vs := [.int .i64 _, .int .i64 _, .int .i64 _, .slice _ _ _, .int .i64 _]) h sizeOf36 rfl rfl rfl rfl rfl) rfl rfl ?_)))
  rintro _ w h
  refine WL.val run_assign rfl rfl (WL.nil (W.ret (bodyQ.rctB (vs := [.int .i64 _, .int .i64 _, .int .i64 _, .slice _ _ _, .int .i64 _]) (v2 := .slice _ _ _) h results68 isAgg36 sizeOf36 rfl rfl rfl rfl ?_)))
  have h : On W0 (Own 2 (.slice none 0 0) 0 (notesV 0 []) :: _) w := h.ownEmpty 2 none
  have e : relF t i key typ = ⟨t, plain 24 0 0, [], 0⟩ := by unfold relF; rw [if_pos hok]
  rw [e]
  dsimp only
  exact ⟨none, 0, rfl, h.to⟩
theorem uclear_ok {b i : Nat} {t : Tb} {key : Int} (hi : i < 8) (h : On W0 (blk b t.cells 113 :: L) w) : Calls Tryz.prog 69 #[.pointer (some ⟨b, 0, none⟩), .int .i64 (i : Int), .int .u64 key] w (Ret fun v w' => ∃ a c, v = .tuple #[(clrF t i key).r.val (.slice none 0 0), .slice a (clrF t i key).l.length c] ∧ On W0 (Own 2 (.slice a (clrF t i key).l.length c) (clrF t i key).l.length (notesV (clrF t i key).code ((clrF t i key).l)) :: blk b (clrF t i key).t.cells 113 :: L) w') := by
  refine enter func69 rfl ntmps69 rfl (W.seq (W.region (WL.eff (eff_alloc h zeroValue36 rfl) rfl rfl ?_)))
  rintro _ w ⟨b6, rfl, h⟩
  refine WL.val run_assign rfl rfl (WL.nil (W.seq (W.seq (W.region (WL.val run_move rfl rfl (WL.val run_move rfl rfl (WL.val run_move rfl rfl ?_)))))))
  refine WL.eff (eff_call call116 (umay_ok hi (h.fetch (blk b t.cells 113)))) rfl rfl ?_
  rintro _ w ⟨hv, h⟩
  rcases hv with ⟨hok, rfl⟩ | ⟨hok, rfl⟩
  ·
   refine WL.val run_move rfl rfl (WL.val (run_extract rfl rfl) rfl rfl (WL.val (run_extract rfl rfl) rfl rfl (WL.eff (eff_alloc h zeroValue36 rfl) rfl rfl ?_)))
   rintro _ w ⟨b8, rfl, h⟩
   refine WL.eff (eff_storeW (vs := [.int .i64 _, .int .i64 _, .int .i64 _, .slice _ _ _, .int .i64 _]) h sizeOf36 rfl rfl rfl rfl rfl) rfl rfl ?_
   rintro _ w h
   refine WL.val run_assign rfl rfl (WL.nil (W.seq (W.region (WL.val run_move rfl rfl (WL.val (run_not rfl) rfl rfl (WL.nil (W.condF rfl ?_)))))))
   refine W.skip (W.seq (W.region (WL.val run_move rfl rfl (WL.val run_move rfl rfl (WL.eff (eff_call call117 (others_ok (t := t) (b := b) (hh := (i : Int)) (code := 10755) (f := 118) (caps := #[]) (p := (fun _ => true)) (h.fetch (blk b t.cells 113)) call118 (fun k A w h => every_ok h))) rfl rfl ?_)))))
   rintro _ w ⟨ad, rfl, h⟩
   refine WL.val run_assign rfl rfl (WL.nil (W.seq (W.region (WL.val run_move rfl rfl (WL.val (run_nilCheck rfl) rfl rfl (WL.val (run_fieldAddr 10 underlying113 rfl sizeOf111 rfl rfl) rfl rfl (WL.val (run_load1 isAgg111 rfl (h.cellB rfl)) rfl rfl ?_)))))))
   refine WL.val (run_addW rfl rfl) rfl rfl (WL.val (run_nilCheck rfl) rfl rfl (WL.val (run_fieldAddr 10 underlying113 rfl sizeOf111 rfl rfl) rfl rfl (WL.eff (eff_store (v := .int .u32 _) h sizeOf111 rfl rfl rfl rfl rfl) rfl rfl ?_)))
   rintro _ w h
   try simp only [Nat.zero_add, Nat.add_zero, List.set_cons_zero, List.set_cons_succ] at h
   refine WL.nil (W.seq (W.region (WL.val run_move rfl rfl (WL.val run_move rfl rfl (WL.val run_move rfl rfl (WL.val (run_buildA (out := [.int .u64 _, .int .u64 _, .int .u64 _, .int .u64 _, .int .u64 _, .int .u64 _, .int .u64 _, .int .u64 _]) underlying85 sizeOf23 zeroValue85 rfl rfl (by simp) (trivial) rfl) rfl rfl (WL.val (run_nilCheck rfl) rfl rfl ?_)))))))
   refine WL.val (run_fieldAddr 0 underlying113 rfl sizeOf85 rfl rfl) rfl rfl (WL.eff (eff_storeN (vs := keysV fun _ => 0) h sizeOf85 rfl rfl rfl rfl rfl (fun k _ _ => free0 k)) rfl rfl ?_)
   rintro _ w h
   refine WL.val (run_nilCheck rfl) rfl rfl (WL.val (run_fieldAddr 8 underlying113 rfl sizeOf3 rfl rfl) rfl rfl (WL.eff (eff_store (v := .int .i64 _) h sizeOf3 rfl rfl rfl rfl rfl) rfl rfl ?_))
   rintro _ w h
   try simp only [Nat.zero_add, Nat.add_zero, List.set_cons_zero, List.set_cons_succ] at h
   refine WL.val (run_nilCheck rfl) rfl rfl (WL.val (run_fieldAddr 9 underlying113 rfl sizeOf3 rfl rfl) rfl rfl (WL.eff (eff_store (v := .int .i64 _) h sizeOf3 rfl rfl rfl rfl rfl) rfl rfl ?_))
   rintro _ w h
   try simp only [Nat.zero_add, Nat.add_zero, List.set_cons_zero, List.set_cons_succ] at h
   refine WL.nil (W.seq ?_)
   have h := h.fetch (blk b ((((t.cells.set (0 + 10) (.int .u32 (IntKind.u32.wrap (t.gen + 1)))) |> (splice · (0 + 0) (keysV fun _ => 0))).set (0 + 8) (.int .i64 (-1))).set (0 + 9) (.int .i64 0)) 113)
   have h : On W0 (blk b t.cleared.cells 113 :: _) w := h
   refine W.region (WL.eff (eff_call call115 (good_ok h)) rfl rfl ?_)
   rintro _ w ⟨rfl, h⟩
   refine WL.val run_move rfl rfl (WL.eff (eff_storeW (vs := [.int .i64 _, .int .i64 _, .int .i64 _, .slice _ _ _, .int .i64 _]) h sizeOf36 rfl rfl rfl rfl rfl) rfl rfl ?_)
   rintro _ w h
   refine WL.val run_assign rfl rfl (WL.nil (W.ret (bodyQ.rctB (vs := [.int .i64 _, .int .i64 _, .int .i64 _, .slice _ _ _, .int .i64 _]) (v2 := .slice _ _ _) h results69 isAgg36 sizeOf36 rfl rfl rfl rfl ?_)))
   have e : clrF t i key = ⟨t.cleared, plain 0 0 0, hostsN t.K i (fun _ => true) 8, 10755⟩ := by unfold clrF; rw [if_neg (by rw [hok]; decide)]
   rw [e]
   dsimp only
   exact ⟨ad, (hostsN t.K i (fun _ => true) 8).length, rfl, h.to⟩
  refine WL.val run_move rfl rfl (WL.val (run_extract rfl rfl) rfl rfl (WL.val (run_extract rfl rfl) rfl rfl (WL.eff (eff_alloc h zeroValue36 rfl) rfl rfl ?_)))
  rintro _ w ⟨b8, rfl, h⟩
  refine WL.eff (eff_storeW (vs := [.int .i64 _, .int .i64 _, .int .i64 _, .slice _ _ _, .int .i64 _]) h sizeOf36 rfl rfl rfl rfl rfl) rfl rfl ?_
  rintro _ w h
  refine WL.val run_assign rfl rfl (WL.nil (W.seq (W.region (WL.val run_move rfl rfl (WL.val (run_not rfl) rfl rfl (WL.nil (W.condT rfl ?_)))))))
  refine W.seq (W.region (WL.val (run_loadB (vs := [.int .i64 _, .int .i64 _, .int .i64 _, .slice _ _ _, .int .i64 _]) h isAgg36 sizeOf36 rfl rfl rfl) rfl rfl (WL.eff (eff_storeW (vs := [.int .i64 _, .int .i64 _, .int .i64 _, .slice _ _ _, .int .i64 _]) h sizeOf36 rfl rfl rfl rfl rfl) rfl rfl ?_)))
  rintro _ w h
  refine WL.val run_assign rfl rfl (WL.nil (W.ret (bodyQ.rctB (vs := [.int .i64 _, .int .i64 _, .int .i64 _, .slice _ _ _, .int .i64 _]) (v2 := .slice _ _ _) h results69 isAgg36 sizeOf36 rfl rfl rfl rfl ?_)))
  have h : On W0 (Own 2 (.slice none 0 0) 0 (notesV 0 []) :: _) w := h.ownEmpty 2 none
  have e : clrF t i key = ⟨t, plain 24 0 0, [], 0⟩ := by unfold clrF; rw [if_pos hok]
  rw [e]
  dsimp only
  exact ⟨none, 0, rfl, h.to⟩
theorem upreempt_ok {b ii : Nat} {t : Tb} {key other typ : Int} (hi : ii < 8) (hI : t.hold = -1 ∨ (0 ≤ t.hold ∧ t.hold < 8)) (h : On W0 (blk b t.cells 113 :: L) w) : Calls Tryz.prog 70 #[.pointer (some ⟨b, 0, none⟩), .int .i64 (ii : Int), .int .u64 key, .int .u64 other, .int .i64 typ] w (Ret fun v w' => ∃ a c, v = .tuple #[(preF t ii key other typ).r.val (.slice none 0 0), .slice a (preF t ii key other typ).l.length c] ∧ On W0 (Own 2 (.slice a (preF t ii key other typ).l.length c) (preF t ii key other typ).l.length (notesV (preF t ii key other typ).code ((preF t ii key other typ).l)) :: blk b (preF t ii key other typ).t.cells 113 :: L) w') := by
  refine enter func70 rfl ntmps70 rfl (W.seq (W.region (WL.eff (eff_box (v := .int .u64 _) (l := [.int .u64 _]) h rfl rfl) rfl rfl ?_)))
  rintro _ w ⟨b8, rfl, h⟩
  refine WL.eff (eff_alloc h zeroValue36 rfl) rfl rfl ?_
  rintro _ w ⟨b10, rfl, h⟩
  refine WL.val run_assign rfl rfl (WL.nil (W.seq (W.seq (W.region (WL.val run_move rfl rfl (WL.val run_move rfl rfl (WL.val run_move rfl rfl ?_)))))))
  refine WL.eff (eff_call call116 (umay_ok (i := ii) hi (h.fetch (blk b t.cells 113)))) rfl rfl ?_
  rintro _ w ⟨hv, h⟩
  rcases hv with ⟨hok, rfl⟩ | ⟨hok, rfl⟩
  ·
   refine WL.val run_move rfl rfl (WL.val (run_extract rfl rfl) rfl rfl (WL.val (run_extract rfl rfl) rfl rfl (WL.eff (eff_alloc h zeroValue36 rfl) rfl rfl ?_)))
   rintro _ w ⟨b12, rfl, h⟩
   refine WL.eff (eff_storeW (vs := [.int .i64 _, .int .i64 _, .int .i64 _, .slice _ _ _, .int .i64 _]) h sizeOf36 rfl rfl rfl rfl rfl) rfl rfl ?_
   rintro _ w h
   refine WL.val run_assign rfl rfl (WL.nil (W.seq (W.region (WL.val run_move rfl rfl (WL.val (run_not rfl) rfl rfl (WL.nil (W.condF rfl ?_)))))))
   refine W.skip (W.seq (W.seq (W.region (WL.val (run_load1 isAgg23 rfl (h.cellB rfl)) rfl rfl (WL.val (run_eql rfl rfl) rfl rfl (WL.nil ?_))))))
   refine W.condIf rfl (fun c8 => ?_) (fun c8 => ?_)
   ·
    refine W.seq (W.region (WL.eff (eff_call call26 (wrong_ok h)) rfl rfl ?_))
    rintro _ w ⟨rfl, h⟩
    refine WL.eff (eff_storeW (vs := [.int .i64 _, .int .i64 _, .int .i64 _, .slice _ _ _, .int .i64 _]) h sizeOf36 rfl rfl rfl rfl rfl) rfl rfl ?_
    rintro _ w h
    refine WL.val run_assign rfl rfl (WL.nil (W.ret (bodyQ.rctB (vs := [.int .i64 _, .int .i64 _, .int .i64 _, .slice _ _ _, .int .i64 _]) (v2 := .slice _ _ _) h results70 isAgg36 sizeOf36 rfl rfl rfl rfl ?_)))
    have h : On W0 (Own 2 (.slice none 0 0) 0 (notesV 0 []) :: _) w := h.ownEmpty 2 none
    have e : preF t ii key other typ = ⟨t, plain 2 5 9728, [], 0⟩ := by unfold preF; rw [if_neg (by rw [hok]; decide), if_pos c8]
    rw [e]
    dsimp only
    exact ⟨none, 0, rfl, h.to⟩
   refine W.skip (W.seq (W.region (WL.val run_move rfl rfl (WL.val run_move rfl rfl (WL.val run_makeFunc rfl rfl (WL.eff (eff_call call117 (others_ok (t := t) (b := b) (hh := (ii : Int)) (code := 10757) (f := 119) (caps := #[.pointer (some ⟨b8, 0, none⟩)]) (p := fun k => decide (k = other)) (h.fetch (blk b t.cells 113)) call119 (fun k A w h => preempt1_ok h))) rfl rfl ?_))))))
   rintro _ w ⟨a, hv, h⟩
   have hv2 : _ = Value.slice a (preL t ii other).length (preL t ii other).length := hv
   subst hv2
   have h : On W0 (Own 2 (.slice a (preL t ii other).length (preL t ii other).length) (preL t ii other).length (notesV 10757 (preL t ii other)) :: _) w := h
   have hlen : (preL t ii other).length ≤ 8 := hostsN_len ..
   refine WL.val run_assign rfl rfl (WL.nil (W.seq (W.seq (W.region (WL.val run_move rfl rfl (WL.val (run_lenSlice underlying120 rfl) rfl rfl (WL.val (run_eql rfl rfl) rfl rfl ?_)))))))
   refine WL.nil ?_
   refine W.condIf rfl (fun c14 => ?_) (fun c14 => ?_)
   ·
    refine W.seq (W.region (WL.eff (eff_call call113 (conflict_ok h)) rfl rfl ?_))
    rintro _ w ⟨rfl, h⟩
    refine WL.eff (eff_storeW (vs := [.int .i64 _, .int .i64 _, .int .i64 _, .slice _ _ _, .int .i64 _]) h sizeOf36 rfl rfl rfl rfl rfl) rfl rfl ?_
    rintro _ w h
    refine WL.val run_assign rfl rfl (WL.nil (W.ret (bodyQ.rctB (vs := [.int .i64 _, .int .i64 _, .int .i64 _, .slice _ _ _, .int .i64 _]) (v2 := .slice _ _ _) h results70 isAgg36 sizeOf36 rfl rfl rfl rfl ?_)))
    have h : On W0 (Own 2 (.slice none 0 0) 0 (notesV 0 []) :: _) w := h.ownEmpty 2 none
    have e : preF t ii key other typ = ⟨t, plain 24 0 0, [], 0⟩ := by unfold preF; rw [if_neg (by rw [hok]; decide), if_neg c8, if_pos (List.eq_nil_of_length_eq_zero (by omega))]
    rw [e]
    dsimp only
    exact ⟨none, 0, rfl, h.to⟩
   refine W.skip (W.seq (W.seq ?_))
   refine W.draw Tryz.follows h (fun w h => ?_)
   refine WT.pure 0 rfl (by kernel_rfl) (fun w' => run_move) rfl rfl (WT.pure 1 rfl (by kernel_rfl) (fun w' => (run_nilCheck rfl)) rfl rfl (WT.pure 2 rfl (by kernel_rfl) (fun w' => (run_fieldAddr 8 underlying113 rfl sizeOf3 rfl rfl)) rfl rfl (WT.load1 3 rfl (by kernel_rfl) isAgg3 rfl (h.cellB rfl) rfl rfl ?_)))
   refine WT.dec 4 rfl (by kernel_rfl) (fun w' => (run_neq rfl rfl)) rfl rfl (fun c42 => ?_) (fun c42 => ?_)
   ·
    refine WT.pure 5 rfl (by kernel_rfl) (fun w' => run_move) rfl rfl (WT.pure 6 rfl (by kernel_rfl) (fun w' => run_move) rfl rfl (WT.pure 7 rfl (by kernel_rfl) (fun w' => (run_nilCheck rfl)) rfl rfl (WT.pure 8 rfl (by kernel_rfl) (fun w' => (run_fieldAddr 8 underlying113 rfl sizeOf3 rfl rfl)) rfl rfl (WT.load1 9 rfl (by kernel_rfl) isAgg3 rfl (h.cellB rfl) rfl rfl (WT.pure 10 rfl (by kernel_rfl) (fun w' => run_move) rfl rfl ?_)))))
    refine WT.dec 11 rfl (by kernel_rfl) (fun w' => (run_neq rfl rfl)) rfl rfl (fun c49 => ?_) (fun c49 => ?_)
    ·
     refine WT.pure 12 rfl (by kernel_rfl) (fun w' => (run_pickT rfl)) rfl rfl (WT.pure 13 rfl (by kernel_rfl) (fun w' => run_move) rfl rfl (WT.pure 14 rfl (by kernel_rfl) (fun w' => run_move) rfl rfl (WT.pure 15 rfl (by kernel_rfl) (fun w' => run_move) rfl rfl (WT.pure 16 rfl (by kernel_rfl) (fun w' => (run_nilCheck rfl)) rfl rfl (WT.pure 17 rfl (by kernel_rfl) (fun w' => (run_fieldAddr 8 underlying113 rfl sizeOf3 rfl rfl)) rfl rfl (WT.load1 18 rfl (by kernel_rfl) isAgg3 rfl (h.cellB rfl) rfl rfl (WT.pure 19 rfl (by kernel_rfl) (fun w' => (run_nilCheck rfl)) rfl rfl ?_)))))))
     refine WT.pure 20 rfl (by kernel_rfl) (fun w' => (run_fieldAddr 0 underlying113 rfl sizeOf85 rfl rfl)) rfl rfl (WT.pure 21 rfl (by kernel_rfl) (fun w' => (run_indexAddrArr underlying85 sizeOf23 rfl rfl (by omega) (by omega))) rfl rfl (WT.load1 22 rfl (by kernel_rfl) isAgg23 rfl (h.cellB (cells_atI (by omega) (by omega))) rfl rfl (WT.load1 23 rfl (by kernel_rfl) isAgg23 rfl (h.cellB rfl) rfl rfl ?_)))
     refine WT.dec 24 rfl (by kernel_rfl) (fun w' => (run_eql rfl rfl)) rfl rfl (fun c62 => ?_) (fun c62 => ?_)
     ·
      refine WT.pure 25 rfl (by kernel_rfl) (fun w' => (run_pickT rfl)) rfl rfl (WT.done (by kernel_rfl) (W.condT rfl (W.seq (W.seq ?_))))
      have htk : takesP t ii other := ⟨c42, c49, c62⟩
      refine W.region (WL.val run_move rfl rfl (WL.eff (eff_call call56 (typed_ok h)) rfl rfl ?_))
      rintro _ w ⟨hv, h⟩
      have hcs := Bool.eq_false_or_eq_true (typedB typ)
      rcases hcs with hty | hty <;> (rw [hty] at hv; subst hv)
      ·
       refine WL.val (run_not rfl) rfl rfl (WL.nil (W.condF rfl (W.skip (W.region (WL.val run_move rfl rfl (WL.val run_move rfl rfl (WL.val run_move rfl rfl ?_)))))))
       refine WL.val run_move rfl rfl (WL.val (run_nilCheck rfl) rfl rfl (WL.val (run_fieldAddr 8 underlying113 rfl sizeOf3 rfl rfl) rfl rfl (WL.eff (eff_store (v := .int .i64 _) h sizeOf3 rfl rfl rfl rfl rfl) rfl rfl ?_)))
       rintro _ w h
       try simp only [Nat.zero_add, Nat.add_zero, List.set_cons_zero, List.set_cons_succ] at h
       refine WL.val (run_nilCheck rfl) rfl rfl (WL.val (run_fieldAddr 9 underlying113 rfl sizeOf3 rfl rfl) rfl rfl (WL.eff (eff_store (v := .int .i64 _) h sizeOf3 rfl rfl rfl rfl rfl) rfl rfl ?_))
       rintro _ w h
       try simp only [Nat.zero_add, Nat.add_zero, List.set_cons_zero, List.set_cons_succ] at h
       refine WL.nil (W.seq ?_)
       have h := h.fetch (blk b ((t.cells.set (0 + 8) (.int .i64 ii)).set (0 + 9) (.int .i64 typ)) 113)
       have h : On W0 (blk b (t.take ii typ).cells 113 :: _) w := h
       refine W.region (WL.val run_move rfl rfl (WL.val (run_nilCheck rfl) rfl rfl (WL.val (run_fieldAddr 10 underlying113 rfl sizeOf111 rfl rfl) rfl rfl (WL.val (run_load1 isAgg111 rfl (h.cellB rfl)) rfl rfl (WL.val (run_addW rfl rfl) rfl rfl (WL.val (run_nilCheck rfl) rfl rfl (WL.val (run_fieldAddr 10 underlying113 rfl sizeOf111 rfl rfl) rfl rfl ?_)))))))
       refine WL.eff (eff_store (v := .int .u32 _) h sizeOf111 rfl rfl rfl rfl rfl) rfl rfl ?_
       rintro _ w h
       try simp only [Nat.zero_add, Nat.add_zero, List.set_cons_zero, List.set_cons_succ] at h
       refine WL.nil (W.seq (W.seq ?_))
       have et0 : preT0 t ii other typ = (t.take ii typ).inc := by unfold preT0; rw [if_pos htk]
       have h := h.fetch (blk b ((t.take ii typ).cells.set (0 + 10) (.int .u32 (IntKind.u32.wrap ((t.take ii typ).gen + 1)))) 113)
       have h : On W0 (blk b (t.take ii typ).inc.cells 113 :: _) w := h
       rw [← et0, ← zer_nil (preT0 t ii other typ)] at h
       have h : On W0 (Own 2 (.slice a (preL t ii other).length (preL t ii other).length) (preL t ii other).length (notesV 10757 (preL t ii other)) :: blk b (zer (preT0 t ii other typ) []).cells 113 :: blk b10 [.int .i64 0, .int .i64 0, .int .i64 0, .slice none 0 0, .int .i64 0] 36 :: L) w := h.to
       refine W.region (WL.val run_move rfl rfl (WL.val (run_lenSlice underlying120 rfl) rfl rfl (WL.val run_move rfl rfl (WL.nil (W.block ?_)))))
       refine W.loop (fun (q : Nat) env w => ∃ j, env = mkE j [(0, .pointer (some ⟨b, 0, none⟩)), (1, .int .i64 (ii : Int)), (10, .pointer (some ⟨b10, 0, none⟩)), (14, .slice a (preL t ii other).length (preL t ii other).length), (83, .slice a (preL t ii other).length (preL t ii other).length), (84, .int .i64 (((preL t ii other).length : Nat) : Int)), (85, .int .i64 (q : Int))] ∧ q ≤ (preL t ii other).length ∧ On W0 (Own 2 (.slice a (preL t ii other).length (preL t ii other).length) (preL t ii other).length (notesV 10757 (preL t ii other)) :: blk b (zer (preT0 t ii other typ) ((preL t ii other).take q)).cells 113 :: blk b10 [.int .i64 0, .int .i64 0, .int .i64 0, .slice none 0 0, .int .i64 0] 36 :: L) w) (fun q => (preL t ii other).length - q) (0) ?_ ?_
       · exact ⟨_, mkE_of ⟨rfl, rfl, rfl, rfl, rfl, rfl, rfl, trivial⟩, Nat.zero_le _, h⟩
       rintro q env w ⟨j, rfl, hq, h⟩
       refine W.seq (W.region (WL.val (run_lss rfl rfl) rfl rfl (WL.nil (W.seq ?_))))
       refine W.condIf rfl (fun c32 => ?_) (fun c32 => ?_)
       ·
        refine W.skip (W.seq (W.block (W.seq ?_)))
        have hql : q < (preL t ii other).length := by omega
        have ob_ : ∃ i, (preL t ii other)[q]? = some i := ⟨(preL t ii other)[q], by simp⟩
        obtain ⟨i, hi⟩ := ob_
        have hi8 : i < 8 := (hostsN_mem.1 (List.mem_of_getElem? hi)).1
        have ob_ := Own.addr h (by omega)
        obtain ⟨bn, on, rfl⟩ := ob_
        refine W.region (WL.val (run_indexAddr underlying120 sizeOf165 rfl rfl (by omega) (by omega)) rfl rfl (WL.val (run_loadN isAgg165 sizeOf165 rfl rfl ((h.cellsO (v := .slice (some ⟨bn, on, none⟩) (preL t ii other).length (preL t ii other).length)).elem (i := q) (vs := noteV 10757 i) hql (drop_flatMap (noteV 10757) 2 (noteV_length 10757) (preL t ii other) _ _ hi))) rfl rfl (WL.eff (eff_alloc h zeroValue165 rfl) rfl rfl ?_)))
        rintro _ w ⟨b16, rfl, h⟩
        refine WL.eff (eff_storeW (vs := [.int .i64 _, .int .i64 _]) h sizeOf165 rfl rfl rfl rfl rfl) rfl rfl ?_
        rintro _ w h
        refine WL.nil ?_
        refine W.draw Tryz.follows h (fun w h => ?_)
        refine WT.pure 0 rfl (by kernel_rfl) (fun w' => run_move) rfl rfl (WT.pure 1 rfl (by kernel_rfl) (fun w' => (run_fieldAddr 0 underlying165 rfl sizeOf3 rfl rfl)) rfl rfl (WT.load1 2 rfl (by kernel_rfl) isAgg3 rfl (h.cellB rfl) rfl rfl (WT.pure 3 rfl (by kernel_rfl) (fun w' => (run_nilCheck rfl)) rfl rfl (WT.pure 4 rfl (by kernel_rfl) (fun w' => (run_fieldAddr 0 underlying113 rfl sizeOf85 rfl rfl)) rfl rfl (WT.pure 5 rfl (by kernel_rfl) (fun w' => (run_indexAddrArr underlying85 sizeOf23 rfl rfl (by omega) (by omega))) rfl rfl (WT.eff 6 [false] rfl (by kernel_rfl) (by kernel_rfl) (eff_store (v := .int .u64 _) h sizeOf23 rfl rfl rfl (cells_lt hi8) (free0 _)) rfl rfl ?_))))))
        rintro _ w h
        rw [cells_set hi8, ← zer_snoc, ← RsM.take_snoc hi] at h
        refine ⟨trivial, ?_⟩
        refine WT.done (by kernel_rfl) (W.region (WL.val (run_incN rfl rfl (by omega)) rfl rfl (WL.val run_move rfl rfl (WL.nil ?_))))
        exact ⟨q + 1, ⟨_, mkE_of ⟨rfl, rfl, rfl, rfl, rfl, rfl, rfl, trivial⟩, by omega, h.to⟩, by show (preL t ii other).length - (q + 1) < (preL t ii other).length - q; omega⟩
       refine W.exit (W.seq (W.region (WL.eff (eff_call call115 (good_ok h)) rfl rfl ?_)))
       rintro _ w ⟨rfl, h⟩
       refine WL.val run_move rfl rfl (WL.eff (eff_storeW (vs := [.int .i64 _, .int .i64 _, .int .i64 _, .slice _ _ _, .int .i64 _]) h sizeOf36 rfl rfl rfl rfl rfl) rfl rfl ?_)
       rintro _ w h
       refine WL.val run_assign rfl rfl (WL.nil (W.ret (bodyQ.rctB (vs := [.int .i64 _, .int .i64 _, .int .i64 _, .slice _ _ _, .int .i64 _]) (v2 := .slice _ _ _) h results70 isAgg36 sizeOf36 rfl rfl rfl rfl ?_)))
       have ob_ : q = (preL t ii other).length := by omega
       obtain rfl := ob_
       rw [List.take_length] at h
       have h : On W0 (Own 2 (.slice a (preL t ii other).length (preL t ii other).length) (preL t ii other).length (notesV 10757 (preL t ii other)) :: blk b (preT t ii other typ).cells 113 :: _) w := h
       have e : preF t ii key other typ = ⟨preT t ii other typ, plain 0 0 0, preL t ii other, 10757⟩ := by unfold preF; rw [if_neg (by rw [hok]; decide), if_neg c8, if_neg (fun e => c14 (by rw [e]; rfl)), if_neg (fun hx => by rw [hx.2] at hty; cases hty)]
       rw [e]
       dsimp only
       exact ⟨a, (preL t ii other).length, rfl, h.to⟩
      refine WL.val (run_not rfl) rfl rfl (WL.nil (W.condT rfl (W.seq (W.region (WL.eff (eff_call call112 (field_ok h)) rfl rfl ?_)))))
      rintro _ w ⟨rfl, h⟩
      refine WL.eff (eff_storeW (vs := [.int .i64 _, .int .i64 _, .int .i64 _, .slice _ _ _, .int .i64 _]) h sizeOf36 rfl rfl rfl rfl rfl) rfl rfl ?_
      rintro _ w h
      refine WL.val run_assign rfl rfl (WL.nil (W.ret (bodyQ.rctB (vs := [.int .i64 _, .int .i64 _, .int .i64 _, .slice _ _ _, .int .i64 _]) (v2 := .slice _ _ _) h results70 isAgg36 sizeOf36 rfl rfl rfl rfl ?_)))
      have h : On W0 (Own 2 (.slice none 0 0) 0 (notesV 0 []) :: _) w := h.ownEmpty 2 none
      have e : preF t ii key other typ = ⟨t, plain 2 5 9216, [], 0⟩ := by unfold preF; rw [if_neg (by rw [hok]; decide), if_neg c8, if_neg (fun e => c14 (by rw [e]; rfl)), if_pos ⟨htk, hty⟩]
      rw [e]
      dsimp only
      exact ⟨none, 0, rfl, h.to⟩
     refine WT.pure 25 rfl (by kernel_rfl) (fun w' => (run_pickT rfl)) rfl rfl (WT.done (by kernel_rfl) (W.condF rfl (W.skip (W.seq ?_))))
     have htk : ¬ takesP t ii other := fun hx => c62 hx.2.2
     refine W.region (WL.val run_move rfl rfl (WL.val (run_nilCheck rfl) rfl rfl (WL.val (run_fieldAddr 10 underlying113 rfl sizeOf111 rfl rfl) rfl rfl (WL.val (run_load1 isAgg111 rfl (h.cellB rfl)) rfl rfl (WL.val (run_addW rfl rfl) rfl rfl (WL.val (run_nilCheck rfl) rfl rfl (WL.val (run_fieldAddr 10 underlying113 rfl sizeOf111 rfl rfl) rfl rfl ?_)))))))
     refine WL.eff (eff_store (v := .int .u32 _) h sizeOf111 rfl rfl rfl rfl rfl) rfl rfl ?_
     rintro _ w h
     try simp only [Nat.zero_add, Nat.add_zero, List.set_cons_zero, List.set_cons_succ] at h
     refine WL.nil (W.seq (W.seq ?_))
     have et0 : preT0 t ii other typ = t.inc := by unfold preT0; rw [if_neg htk]
     have h := h.fetch (blk b (t.cells.set (0 + 10) (.int .u32 (IntKind.u32.wrap (t.gen + 1)))) 113)
     have h : On W0 (blk b t.inc.cells 113 :: _) w := h
     rw [← et0, ← zer_nil (preT0 t ii other typ)] at h
     have h : On W0 (Own 2 (.slice a (preL t ii other).length (preL t ii other).length) (preL t ii other).length (notesV 10757 (preL t ii other)) :: blk b (zer (preT0 t ii other typ) []).cells 113 :: blk b10 [.int .i64 0, .int .i64 0, .int .i64 0, .slice none 0 0, .int .i64 0] 36 :: L) w := h.to
     refine W.region (WL.val run_move rfl rfl (WL.val (run_lenSlice underlying120 rfl) rfl rfl (WL.val run_move rfl rfl (WL.nil (W.block ?_)))))
     refine W.loop (fun (q : Nat) env w => ∃ j, env = mkE j [(0, .pointer (some ⟨b, 0, none⟩)), (1, .int .i64 (ii : Int)), (10, .pointer (some ⟨b10, 0, none⟩)), (14, .slice a (preL t ii other).length (preL t ii other).length), (83, .slice a (preL t ii other).length (preL t ii other).length), (84, .int .i64 (((preL t ii other).length : Nat) : Int)), (85, .int .i64 (q : Int))] ∧ q ≤ (preL t ii other).length ∧ On W0 (Own 2 (.slice a (preL t ii other).length (preL t ii other).length) (preL t ii other).length (notesV 10757 (preL t ii other)) :: blk b (zer (preT0 t ii other typ) ((preL t ii other).take q)).cells 113 :: blk b10 [.int .i64 0, .int .i64 0, .int .i64 0, .slice none 0 0, .int .i64 0] 36 :: L) w) (fun q => (preL t ii other).length - q) (0) ?_ ?_
     · exact ⟨_, mkE_of ⟨rfl, rfl, rfl, rfl, rfl, rfl, rfl, trivial⟩, Nat.zero_le _, h⟩
     rintro q env w ⟨j, rfl, hq, h⟩
     refine W.seq (W.region (WL.val (run_lss rfl rfl) rfl rfl (WL.nil (W.seq ?_))))
     refine W.condIf rfl (fun c32 => ?_) (fun c32 => ?_)
     ·
      refine W.skip (W.seq (W.block (W.seq ?_)))
      have hql : q < (preL t ii other).length := by omega
      have ob_ : ∃ i, (preL t ii other)[q]? = some i := ⟨(preL t ii other)[q], by simp⟩
      obtain ⟨i, hi⟩ := ob_
      have hi8 : i < 8 := (hostsN_mem.1 (List.mem_of_getElem? hi)).1
      have ob_ := Own.addr h (by omega)
      obtain ⟨bn, on, rfl⟩ := ob_
      refine W.region (WL.val (run_indexAddr underlying120 sizeOf165 rfl rfl (by omega) (by omega)) rfl rfl (WL.val (run_loadN isAgg165 sizeOf165 rfl rfl ((h.cellsO (v := .slice (some ⟨bn, on, none⟩) (preL t ii other).length (preL t ii other).length)).elem (i := q) (vs := noteV 10757 i) hql (drop_flatMap (noteV 10757) 2 (noteV_length 10757) (preL t ii other) _ _ hi))) rfl rfl (WL.eff (eff_alloc h zeroValue165 rfl) rfl rfl ?_)))
      rintro _ w ⟨b16, rfl, h⟩
      refine WL.eff (eff_storeW (vs := [.int .i64 _, .int .i64 _]) h sizeOf165 rfl rfl rfl rfl rfl) rfl rfl ?_
      rintro _ w h
      refine WL.nil ?_
      refine W.draw Tryz.follows h (fun w h => ?_)
      refine WT.pure 0 rfl (by kernel_rfl) (fun w' => run_move) rfl rfl (WT.pure 1 rfl (by kernel_rfl) (fun w' => (run_fieldAddr 0 underlying165 rfl sizeOf3 rfl rfl)) rfl rfl (WT.load1 2 rfl (by kernel_rfl) isAgg3 rfl (h.cellB rfl) rfl rfl (WT.pure 3 rfl (by kernel_rfl) (fun w' => (run_nilCheck rfl)) rfl rfl (WT.pure 4 rfl (by kernel_rfl) (fun w' => (run_fieldAddr 0 underlying113 rfl sizeOf85 rfl rfl)) rfl rfl (WT.pure 5 rfl (by kernel_rfl) (fun w' => (run_indexAddrArr underlying85 sizeOf23 rfl rfl (by omega) (by omega))) rfl rfl (WT.eff 6 [false] rfl (by kernel_rfl) (by kernel_rfl) (eff_store (v := .int .u64 _) h sizeOf23 rfl rfl rfl (cells_lt hi8) (free0 _)) rfl rfl ?_))))))
      rintro _ w h
      rw [cells_set hi8, ← zer_snoc, ← RsM.take_snoc hi] at h
      refine ⟨trivial, ?_⟩
      refine WT.done (by kernel_rfl) (W.region (WL.val (run_incN rfl rfl (by omega)) rfl rfl (WL.val run_move rfl rfl (WL.nil ?_))))
      exact ⟨q + 1, ⟨_, mkE_of ⟨rfl, rfl, rfl, rfl, rfl, rfl, rfl, trivial⟩, by omega, h.to⟩, by show (preL t ii other).length - (q + 1) < (preL t ii other).length - q; omega⟩
     refine W.exit (W.seq (W.region (WL.eff (eff_call call115 (good_ok h)) rfl rfl ?_)))
     rintro _ w ⟨rfl, h⟩
     refine WL.val run_move rfl rfl (WL.eff (eff_storeW (vs := [.int .i64 _, .int .i64 _, .int .i64 _, .slice _ _ _, .int .i64 _]) h sizeOf36 rfl rfl rfl rfl rfl) rfl rfl ?_)
     rintro _ w h
     refine WL.val run_assign rfl rfl (WL.nil (W.ret (bodyQ.rctB (vs := [.int .i64 _, .int .i64 _, .int .i64 _, .slice _ _ _, .int .i64 _]) (v2 := .slice _ _ _) h results70 isAgg36 sizeOf36 rfl rfl rfl rfl ?_)))
     have ob_ : q = (preL t ii other).length := by omega
     obtain rfl := ob_
     rw [List.take_length] at h
     have h : On W0 (Own 2 (.slice a (preL t ii other).length (preL t ii other).length) (preL t ii other).length (notesV 10757 (preL t ii other)) :: blk b (preT t ii other typ).cells 113 :: _) w := h
     have e : preF t ii key other typ = ⟨preT t ii other typ, plain 0 0 0, preL t ii other, 10757⟩ := by unfold preF; rw [if_neg (by rw [hok]; decide), if_neg c8, if_neg (fun e => c14 (by rw [e]; rfl)), if_neg (fun hx => htk hx.1)]
     rw [e]
     dsimp only
     exact ⟨a, (preL t ii other).length, rfl, h.to⟩
    refine WT.pure 12 rfl (by kernel_rfl) (fun w' => (run_pickT rfl)) rfl rfl (WT.pure 13 rfl (by kernel_rfl) (fun w' => run_move) rfl rfl (WT.skip 14 rfl (by kernel_rfl) rfl rfl (WT.skip 15 rfl (by kernel_rfl) rfl rfl (WT.skip 16 rfl (by kernel_rfl) rfl rfl (WT.skip 17 rfl (by kernel_rfl) rfl rfl (WT.skip 18 rfl (by kernel_rfl) rfl rfl (WT.skip 19 rfl (by kernel_rfl) rfl rfl ?_)))))))
    refine WT.skip 20 rfl (by kernel_rfl) rfl rfl (WT.skip 21 rfl (by kernel_rfl) rfl rfl (WT.skip 22 rfl (by kernel_rfl) rfl rfl (WT.skip 23 rfl (by kernel_rfl) rfl rfl (WT.skip 24 rfl (by kernel_rfl) rfl rfl (WT.pure 25 rfl (by kernel_rfl) (fun w' => (run_pickF rfl)) rfl rfl (WT.done (by kernel_rfl) (W.condF rfl ?_)))))))
    refine W.skip (W.seq ?_)
    have htk : ¬ takesP t ii other := fun hx => c49 hx.2.1
    refine W.region (WL.val run_move rfl rfl (WL.val (run_nilCheck rfl) rfl rfl (WL.val (run_fieldAddr 10 underlying113 rfl sizeOf111 rfl rfl) rfl rfl (WL.val (run_load1 isAgg111 rfl (h.cellB rfl)) rfl rfl (WL.val (run_addW rfl rfl) rfl rfl (WL.val (run_nilCheck rfl) rfl rfl (WL.val (run_fieldAddr 10 underlying113 rfl sizeOf111 rfl rfl) rfl rfl ?_)))))))
    refine WL.eff (eff_store (v := .int .u32 _) h sizeOf111 rfl rfl rfl rfl rfl) rfl rfl ?_
    rintro _ w h
    try simp only [Nat.zero_add, Nat.add_zero, List.set_cons_zero, List.set_cons_succ] at h
    refine WL.nil (W.seq (W.seq ?_))
    have et0 : preT0 t ii other typ = t.inc := by unfold preT0; rw [if_neg htk]
    have h := h.fetch (blk b (t.cells.set (0 + 10) (.int .u32 (IntKind.u32.wrap (t.gen + 1)))) 113)
    have h : On W0 (blk b t.inc.cells 113 :: _) w := h
    rw [← et0, ← zer_nil (preT0 t ii other typ)] at h
    have h : On W0 (Own 2 (.slice a (preL t ii other).length (preL t ii other).length) (preL t ii other).length (notesV 10757 (preL t ii other)) :: blk b (zer (preT0 t ii other typ) []).cells 113 :: blk b10 [.int .i64 0, .int .i64 0, .int .i64 0, .slice none 0 0, .int .i64 0] 36 :: L) w := h.to
    refine W.region (WL.val run_move rfl rfl (WL.val (run_lenSlice underlying120 rfl) rfl rfl (WL.val run_move rfl rfl (WL.nil (W.block ?_)))))
    refine W.loop (fun (q : Nat) env w => ∃ j, env = mkE j [(0, .pointer (some ⟨b, 0, none⟩)), (1, .int .i64 (ii : Int)), (10, .pointer (some ⟨b10, 0, none⟩)), (14, .slice a (preL t ii other).length (preL t ii other).length), (83, .slice a (preL t ii other).length (preL t ii other).length), (84, .int .i64 (((preL t ii other).length : Nat) : Int)), (85, .int .i64 (q : Int))] ∧ q ≤ (preL t ii other).length ∧ On W0 (Own 2 (.slice a (preL t ii other).length (preL t ii other).length) (preL t ii other).length (notesV 10757 (preL t ii other)) :: blk b (zer (preT0 t ii other typ) ((preL t ii other).take q)).cells 113 :: blk b10 [.int .i64 0, .int .i64 0, .int .i64 0, .slice none 0 0, .int .i64 0] 36 :: L) w) (fun q => (preL t ii other).length - q) (0) ?_ ?_
    · exact ⟨_, mkE_of ⟨rfl, rfl, rfl, rfl, rfl, rfl, rfl, trivial⟩, Nat.zero_le _, h⟩
    rintro q env w ⟨j, rfl, hq, h⟩
    refine W.seq (W.region (WL.val (run_lss rfl rfl) rfl rfl (WL.nil (W.seq ?_))))
    refine W.condIf rfl (fun c32 => ?_) (fun c32 => ?_)
    ·
     refine W.skip (W.seq (W.block (W.seq ?_)))
     have hql : q < (preL t ii other).length := by omega
     have ob_ : ∃ i, (preL t ii other)[q]? = some i := ⟨(preL t ii other)[q], by simp⟩
     obtain ⟨i, hi⟩ := ob_
     have hi8 : i < 8 := (hostsN_mem.1 (List.mem_of_getElem? hi)).1
     have ob_ := Own.addr h (by omega)
     obtain ⟨bn, on, rfl⟩ := ob_
     refine W.region (WL.val (run_indexAddr underlying120 sizeOf165 rfl rfl (by omega) (by omega)) rfl rfl (WL.val (run_loadN isAgg165 sizeOf165 rfl rfl ((h.cellsO (v := .slice (some ⟨bn, on, none⟩) (preL t ii other).length (preL t ii other).length)).elem (i := q) (vs := noteV 10757 i) hql (drop_flatMap (noteV 10757) 2 (noteV_length 10757) (preL t ii other) _ _ hi))) rfl rfl (WL.eff (eff_alloc h zeroValue165 rfl) rfl rfl ?_)))
     rintro _ w ⟨b16, rfl, h⟩
     refine WL.eff (eff_storeW (vs := [.int .i64 _, .int .i64 _]) h sizeOf165 rfl rfl rfl rfl rfl) rfl rfl ?_
     rintro _ w h
     refine WL.nil ?_
     refine W.draw Tryz.follows h (fun w h => ?_)
     refine WT.pure 0 rfl (by kernel_rfl) (fun w' => run_move) rfl rfl (WT.pure 1 rfl (by kernel_rfl) (fun w' => (run_fieldAddr 0 underlying165 rfl sizeOf3 rfl rfl)) rfl rfl (WT.load1 2 rfl (by kernel_rfl) isAgg3 rfl (h.cellB rfl) rfl rfl (WT.pure 3 rfl (by kernel_rfl) (fun w' => (run_nilCheck rfl)) rfl rfl (WT.pure 4 rfl (by kernel_rfl) (fun w' => (run_fieldAddr 0 underlying113 rfl sizeOf85 rfl rfl)) rfl rfl (WT.pure 5 rfl (by kernel_rfl) (fun w' => (run_indexAddrArr underlying85 sizeOf23 rfl rfl (by omega) (by omega))) rfl rfl (WT.eff 6 [false] rfl (by kernel_rfl) (by kernel_rfl) (eff_store (v := .int .u64 _) h sizeOf23 rfl rfl rfl (cells_lt hi8) (free0 _)) rfl rfl ?_))))))
     rintro _ w h
     rw [cells_set hi8, ← zer_snoc, ← RsM.take_snoc hi] at h
     refine ⟨trivial, ?_⟩
     refine WT.done (by kernel_rfl) (W.region (WL.val (run_incN rfl rfl (by omega)) rfl rfl (WL.val run_move rfl rfl (WL.nil ?_))))
     exact ⟨q + 1, ⟨_, mkE_of ⟨rfl, rfl, rfl, rfl, rfl, rfl, rfl, trivial⟩, by omega, h.to⟩, by show (preL t ii other).length - (q + 1) < (preL t ii other).length - q; omega⟩
    refine W.exit (W.seq (W.region (WL.eff (eff_call call115 (good_ok h)) rfl rfl ?_)))
    rintro _ w ⟨rfl, h⟩
    refine WL.val run_move rfl rfl (WL.eff (eff_storeW (vs := [.int .i64 _, .int .i64 _, .int .i64 _, .slice _ _ _, .int .i64 _]) h sizeOf36 rfl rfl rfl rfl rfl) rfl rfl ?_)
    rintro _ w h
    refine WL.val run_assign rfl rfl (WL.nil (W.ret (bodyQ.rctB (vs := [.int .i64 _, .int .i64 _, .int .i64 _, .slice _ _ _, .int .i64 _]) (v2 := .slice _ _ _) h results70 isAgg36 sizeOf36 rfl rfl rfl rfl ?_)))
    have ob_ : q = (preL t ii other).length := by omega
    obtain rfl := ob_
    rw [List.take_length] at h
    have h : On W0 (Own 2 (.slice a (preL t ii other).length (preL t ii other).length) (preL t ii other).length (notesV 10757 (preL t ii other)) :: blk b (preT t ii other typ).cells 113 :: _) w := h
    have e : preF t ii key other typ = ⟨preT t ii other typ, plain 0 0 0, preL t ii other, 10757⟩ := by unfold preF; rw [if_neg (by rw [hok]; decide), if_neg c8, if_neg (fun e => c14 (by rw [e]; rfl)), if_neg (fun hx => htk hx.1)]
    rw [e]
    dsimp only
    exact ⟨a, (preL t ii other).length, rfl, h.to⟩
   refine WT.pure 5 rfl (by kernel_rfl) (fun w' => run_move) rfl rfl (WT.skip 6 rfl (by kernel_rfl) rfl rfl (WT.skip 7 rfl (by kernel_rfl) rfl rfl (WT.skip 8 rfl (by kernel_rfl) rfl rfl (WT.skip 9 rfl (by kernel_rfl) rfl rfl (WT.skip 10 rfl (by kernel_rfl) rfl rfl (WT.skip 11 rfl (by kernel_rfl) rfl rfl (WT.pure 12 rfl (by kernel_rfl) (fun w' => (run_pickF rfl)) rfl rfl ?_)))))))
   refine WT.pure 13 rfl (by kernel_rfl) (fun w' => run_move) rfl rfl (WT.skip 14 rfl (by kernel_rfl) rfl rfl (WT.skip 15 rfl (by kernel_rfl) rfl rfl (WT.skip 16 rfl (by kernel_rfl) rfl rfl (WT.skip 17 rfl (by kernel_rfl) rfl rfl (WT.skip 18 rfl (by kernel_rfl) rfl rfl (WT.skip 19 rfl (by kernel_rfl) rfl rfl (WT.skip 20 rfl (by kernel_rfl) rfl rfl ?_)))))))
   refine WT.skip 21 rfl (by kernel_rfl) rfl rfl (WT.skip 22 rfl (by kernel_rfl) rfl rfl (WT.skip 23 rfl (by kernel_rfl) rfl rfl (WT.skip 24 rfl (by kernel_rfl) rfl rfl (WT.pure 25 rfl (by kernel_rfl) (fun w' => (run_pickF rfl)) rfl rfl (WT.done (by kernel_rfl) (W.condF rfl (W.skip ?_)))))))
   refine W.seq ?_
   have htk : ¬ takesP t ii other := fun hx => c42 hx.1
   refine W.region (WL.val run_move rfl rfl (WL.val (run_nilCheck rfl) rfl rfl (WL.val (run_fieldAddr 10 underlying113 rfl sizeOf111 rfl rfl) rfl rfl (WL.val (run_load1 isAgg111 rfl (h.cellB rfl)) rfl rfl (WL.val (run_addW rfl rfl) rfl rfl (WL.val (run_nilCheck rfl) rfl rfl (WL.val (run_fieldAddr 10 underlying113 rfl sizeOf111 rfl rfl) rfl rfl ?_)))))))
   refine WL.eff (eff_store (v := .int .u32 _) h sizeOf111 rfl rfl rfl rfl rfl) rfl rfl ?_
   rintro _ w h
   try simp only [Nat.zero_add, Nat.add_zero, List.set_cons_zero, List.set_cons_succ] at h
   refine WL.nil (W.seq (W.seq ?_))
   have et0 : preT0 t ii other typ = t.inc := by unfold preT0; rw [if_neg htk]
   have h := h.fetch (blk b (t.cells.set (0 + 10) (.int .u32 (IntKind.u32.wrap (t.gen + 1)))) 113)
   have h : On W0 (blk b t.inc.cells 113 :: _) w := h
   rw [← et0, ← zer_nil (preT0 t ii other typ)] at h
   have h : On W0 (Own 2 (.slice a (preL t ii other).length (preL t ii other).length) (preL t ii other).length (notesV 10757 (preL t ii other)) :: blk b (zer (preT0 t ii other typ) []).cells 113 :: blk b10 [.int .i64 0, .int .i64 0, .int .i64 0, .slice none 0 0, .int .i64 0] 36 :: L) w := h.to
   refine W.region (WL.val run_move rfl rfl (WL.val (run_lenSlice underlying120 rfl) rfl rfl (WL.val run_move rfl rfl (WL.nil (W.block ?_)))))
   refine W.loop (fun (q : Nat) env w => ∃ j, env = mkE j [(0, .pointer (some ⟨b, 0, none⟩)), (1, .int .i64 (ii : Int)), (10, .pointer (some ⟨b10, 0, none⟩)), (14, .slice a (preL t ii other).length (preL t ii other).length), (83, .slice a (preL t ii other).length (preL t ii other).length), (84, .int .i64 (((preL t ii other).length : Nat) : Int)), (85, .int .i64 (q : Int))] ∧ q ≤ (preL t ii other).length ∧ On W0 (Own 2 (.slice a (preL t ii other).length (preL t ii other).length) (preL t ii other).length (notesV 10757 (preL t ii other)) :: blk b (zer (preT0 t ii other typ) ((preL t ii other).take q)).cells 113 :: blk b10 [.int .i64 0, .int .i64 0, .int .i64 0, .slice none 0 0, .int .i64 0] 36 :: L) w) (fun q => (preL t ii other).length - q) (0) ?_ ?_
   · exact ⟨_, mkE_of ⟨rfl, rfl, rfl, rfl, rfl, rfl, rfl, trivial⟩, Nat.zero_le _, h⟩
   rintro q env w ⟨j, rfl, hq, h⟩
   refine W.seq (W.region (WL.val (run_lss rfl rfl) rfl rfl (WL.nil (W.seq ?_))))
   refine W.condIf rfl (fun c32 => ?_) (fun c32 => ?_)
   ·
    refine W.skip (W.seq (W.block (W.seq ?_)))
    have hql : q < (preL t ii other).length := by omega
    have ob_ : ∃ i, (preL t ii other)[q]? = some i := ⟨(preL t ii other)[q], by simp⟩
    obtain ⟨i, hi⟩ := ob_
    have hi8 : i < 8 := (hostsN_mem.1 (List.mem_of_getElem? hi)).1
    have ob_ := Own.addr h (by omega)
    obtain ⟨bn, on, rfl⟩ := ob_
    refine W.region (WL.val (run_indexAddr underlying120 sizeOf165 rfl rfl (by omega) (by omega)) rfl rfl (WL.val (run_loadN isAgg165 sizeOf165 rfl rfl ((h.cellsO (v := .slice (some ⟨bn, on, none⟩) (preL t ii other).length (preL t ii other).length)).elem (i := q) (vs := noteV 10757 i) hql (drop_flatMap (noteV 10757) 2 (noteV_length 10757) (preL t ii other) _ _ hi))) rfl rfl (WL.eff (eff_alloc h zeroValue165 rfl) rfl rfl ?_)))
    rintro _ w ⟨b16, rfl, h⟩
    refine WL.eff (eff_storeW (vs := [.int .i64 _, .int .i64 _]) h sizeOf165 rfl rfl rfl rfl rfl) rfl rfl ?_
    rintro _ w h
    refine WL.nil ?_
    refine W.draw Tryz.follows h (fun w h => ?_)
    refine WT.pure 0 rfl (by kernel_rfl) (fun w' => run_move) rfl rfl (WT.pure 1 rfl (by kernel_rfl) (fun w' => (run_fieldAddr 0 underlying165 rfl sizeOf3 rfl rfl)) rfl rfl (WT.load1 2 rfl (by kernel_rfl) isAgg3 rfl (h.cellB rfl) rfl rfl (WT.pure 3 rfl (by kernel_rfl) (fun w' => (run_nilCheck rfl)) rfl rfl (WT.pure 4 rfl (by kernel_rfl) (fun w' => (run_fieldAddr 0 underlying113 rfl sizeOf85 rfl rfl)) rfl rfl (WT.pure 5 rfl (by kernel_rfl) (fun w' => (run_indexAddrArr underlying85 sizeOf23 rfl rfl (by omega) (by omega))) rfl rfl (WT.eff 6 [false] rfl (by kernel_rfl) (by kernel_rfl) (eff_store (v := .int .u64 _) h sizeOf23 rfl rfl rfl (cells_lt hi8) (free0 _)) rfl rfl ?_))))))
    rintro _ w h
    rw [cells_set hi8, ← zer_snoc, ← RsM.take_snoc hi] at h
    refine ⟨trivial, ?_⟩
    refine WT.done (by kernel_rfl) (W.region (WL.val (run_incN rfl rfl (by omega)) rfl rfl (WL.val run_move rfl rfl (WL.nil ?_))))
    exact ⟨q + 1, ⟨_, mkE_of ⟨rfl, rfl, rfl, rfl, rfl, rfl, rfl, trivial⟩, by omega, h.to⟩, by show (preL t ii other).length - (q + 1) < (preL t ii other).length - q; omega⟩
   refine W.exit (W.seq (W.region (WL.eff (eff_call call115 (good_ok h)) rfl rfl ?_)))
   rintro _ w ⟨rfl, h⟩
   refine WL.val run_move rfl rfl (WL.eff (eff_storeW (vs := [.int .i64 _, .int .i64 _, .int .i64 _, .slice _ _ _, .int .i64 _]) h sizeOf36 rfl rfl rfl rfl rfl) rfl rfl ?_)
   rintro _ w h
   refine WL.val run_assign rfl rfl (WL.nil (W.ret (bodyQ.rctB (vs := [.int .i64 _, .int .i64 _, .int .i64 _, .slice _ _ _, .int .i64 _]) (v2 := .slice _ _ _) h results70 isAgg36 sizeOf36 rfl rfl rfl rfl ?_)))
   have ob_ : q = (preL t ii other).length := by omega
   obtain rfl := ob_
   rw [List.take_length] at h
   have h : On W0 (Own 2 (.slice a (preL t ii other).length (preL t ii other).length) (preL t ii other).length (notesV 10757 (preL t ii other)) :: blk b (preT t ii other typ).cells 113 :: _) w := h
   have e : preF t ii key other typ = ⟨preT t ii other typ, plain 0 0 0, preL t ii other, 10757⟩ := by unfold preF; rw [if_neg (by rw [hok]; decide), if_neg c8, if_neg (fun e => c14 (by rw [e]; rfl)), if_neg (fun hx => htk hx.1)]
   rw [e]
   dsimp only
   exact ⟨a, (preL t ii other).length, rfl, h.to⟩
  refine WL.val run_move rfl rfl (WL.val (run_extract rfl rfl) rfl rfl (WL.val (run_extract rfl rfl) rfl rfl (WL.eff (eff_alloc h zeroValue36 rfl) rfl rfl ?_)))
  rintro _ w ⟨b12, rfl, h⟩
  refine WL.eff (eff_storeW (vs := [.int .i64 _, .int .i64 _, .int .i64 _, .slice _ _ _, .int .i64 _]) h sizeOf36 rfl rfl rfl rfl rfl) rfl rfl ?_
  rintro _ w h
  refine WL.val run_assign rfl rfl (WL.nil (W.seq (W.region (WL.val run_move rfl rfl (WL.val (run_not rfl) rfl rfl (WL.nil (W.condT rfl ?_)))))))
  refine W.seq (W.region (WL.val (run_loadB (vs := [.int .i64 _, .int .i64 _, .int .i64 _, .slice _ _ _, .int .i64 _]) h isAgg36 sizeOf36 rfl rfl rfl) rfl rfl (WL.eff (eff_storeW (vs := [.int .i64 _, .int .i64 _, .int .i64 _, .slice _ _ _, .int .i64 _]) h sizeOf36 rfl rfl rfl rfl rfl) rfl rfl ?_)))
  rintro _ w h
  refine WL.val run_assign rfl rfl (WL.nil (W.ret (bodyQ.rctB (vs := [.int .i64 _, .int .i64 _, .int .i64 _, .slice _ _ _, .int .i64 _]) (v2 := .slice _ _ _) h results70 isAgg36 sizeOf36 rfl rfl rfl rfl ?_)))
  have h : On W0 (Own 2 (.slice none 0 0) 0 (notesV 0 []) :: _) w := h.ownEmpty 2 none
  have e : preF t ii key other typ = ⟨t, plain 24 0 0, [], 0⟩ := by unfold preF; rw [if_pos hok]
  rw [e]
  dsimp only
  exact ⟨none, 0, rfl, h.to⟩
end Go.Proofs.YtjbgiingimhnnaaGreat
/-
  A unit: commands of all kinds: the contracts. Lines of walks printed by a program of the prover's.
-/
namespace Go.Proofs.YtjbgiingimhnnaaGreat
open Go.Proofs.Tryz
open Go Go.Sl Go.Sl.BitM Go.Sl.SpM Go.Sl.RsM Go.Sl.ByM Go.Sl.UnM
set_option linter.unusedVariables false
set_option linter.unusedSimpArgs false
set_option maxHeartbeats 1000000
set_option maxRecDepth 8000
variable {W0 w : World} {L F : List HProp}
theorem unoticed_ok {bu c : Nat} {code : Int} {u : Un} {pool : PoolL} {ms : List Nat} {l : List Nat} {a : Option Addr} {rv : Value} {z0 z1 z2 z4 : Int} (hl8 : l.length ≤ 8) (hlt : ∀ j ∈ l, j < 8) (hsm : small 999000 u) (hr : rv = .agg #[.int .i64 z0, .int .i64 z1, .int .i64 z2, .slice none 0 0, .int .i64 z4]) (h : On W0 (UnP 68 105 113 bu pool ms u :: Own 2 (.slice a l.length c) l.length (notesV code l) :: L) w) : Calls Tryz.prog 65 #[.pointer (some ⟨bu, 0, none⟩), rv, .slice a l.length c] w (Ret fun v w' => v = rv ∧ On W0 (UnP 68 105 113 bu pool ms (notM u code l) :: L) w') := by
  refine enter func65 rfl ntmps65 rfl ?_
  subst hr
  have hul := On.unLen h
  obtain ⟨hl_, hwf⟩ := hul
  refine W.seq (W.region (WL.eff (eff_box (v := .agg _) (l := [.int .i64 z0, .int .i64 z1, .int .i64 z2, .slice none 0 0, .int .i64 z4]) h rfl rfl) rfl rfl ?_))
  rintro _ w ⟨b4, rfl, h⟩
  refine WL.eff (eff_alloc h zeroValue36 rfl) rfl rfl ?_
  rintro _ w ⟨b6, rfl, h⟩
  refine WL.nil (W.seq (W.seq (W.region (WL.val run_move rfl rfl (WL.val (run_lenSlice underlying120 rfl) rfl rfl (WL.val run_move rfl rfl (WL.nil ?_)))))))
  refine W.block ?_
  refine W.loop (fun (k : Nat) env w => k ≤ l.length ∧ ∃ j, env = mkE j [(0, .pointer (some ⟨bu, 0, none⟩)), (4, .pointer (some ⟨b4, 0, none⟩)), (6, .pointer (some ⟨b6, 0, none⟩)), (9, .slice a l.length c), (10, .int .i64 (l.length : Int)), (11, .int .i64 (k : Int))] ∧ On W0 (UnP 68 105 113 bu pool ms (notM u code (l.take k)) :: Own 2 (.slice a l.length c) l.length (notesV code l) :: blk b6 [.int .i64 0, .int .i64 0, .int .i64 0, .slice none 0 0, .int .i64 0] 36 :: blk b4 [.int .i64 z0, .int .i64 z1, .int .i64 z2, .slice none 0 0, .int .i64 z4] 36 :: L) w) (fun k => l.length - k) (0) ?_ ?_
  · have h : On W0 (UnP 68 105 113 bu pool ms (notM u code (l.take 0)) :: _) w := h.fetch (UnP 68 105 113 bu pool ms u)
    exact ⟨Nat.zero_le _, _, mkE_of ⟨rfl, rfl, rfl, rfl, rfl, rfl, trivial⟩, h.to⟩
  rintro k env w ⟨hk, j, rfl, h⟩
  refine W.seq (W.region (WL.val (run_lss rfl rfl) rfl rfl (WL.nil (W.seq ?_))))
  refine W.condIf rfl (fun c5 => ?_) (fun c5 => ?_)
  ·
   refine W.skip (W.seq ?_)
   have hkl : k < l.length := by omega
   have ex_ : ∃ i, l[k]? = some i := ⟨l[k], by simp⟩
   obtain ⟨i, hq⟩ := ex_
   have hi8 : i < 8 := hlt i (List.mem_of_getElem? hq)
   have hrow := drop_flatMap (noteV code) 2 (noteV_length code) l _ _ hq
   have oa_ := Own.addr (h.own (.slice a l.length c)) (by omega)
   obtain ⟨bn, on, ha_⟩ := oa_
   subst ha_
   have hcl := notM_clen (code := code) hi8 (l.take k) (u := u) hl_
   have hcs := hsm i hi8
   have htl : (l.take k).length ≤ 8 := by rw [List.length_take]; omega
   refine W.block (W.seq (W.region (WL.val (run_indexAddr underlying120 sizeOf165 rfl rfl (by omega) (by omega)) rfl rfl (WL.val (run_loadN isAgg165 sizeOf165 rfl rfl ((h.cellsO (v := .slice (some ⟨bn, on, none⟩) l.length c)).elem (i := k) (vs := [.int .i64 (i : Int), .int .i64 code]) hkl hrow)) rfl rfl (WL.eff (eff_alloc h zeroValue165 rfl) rfl rfl ?_)))))
   rintro _ w ⟨b8, rfl, h⟩
   refine WL.eff (eff_storeW (vs := [.int .i64 _, .int .i64 _]) h sizeOf165 rfl rfl rfl rfl rfl) rfl rfl ?_
   rintro _ w h
   refine WL.nil (W.region (WL.val run_move rfl rfl (WL.val (run_fieldAddr 0 underlying165 rfl sizeOf3 rfl rfl) rfl rfl (WL.val (run_load1 isAgg3 rfl (h.cellB rfl)) rfl rfl (WL.val (run_fieldAddr 1 underlying165 rfl sizeOf3 rfl rfl) rfl rfl (WL.val (run_load1 isAgg3 rfl (h.cellB rfl)) rfl rfl (WL.eff (eff_call call77 (tell_ok (i := i) (x := code) hi8 (by omega) (h.fetch (UnP 68 105 113 bu pool ms (notM u code (l.take k)))))) rfl rfl ?_)))))))
   rintro _ w h
   rw [notM_take hq] at h
   refine WL.nil (W.region (WL.val (run_incN rfl rfl (by omega)) rfl rfl (WL.val run_move rfl rfl (WL.nil ?_))))
   exact ⟨k + 1, ⟨by omega, _, mkE_of ⟨rfl, rfl, rfl, rfl, rfl, rfl, trivial⟩, h.to⟩, by show l.length - (k + 1) < l.length - k; omega⟩
  refine W.exit (W.seq (W.region (WL.val (run_loadB (vs := [.int .i64 _, .int .i64 _, .int .i64 _, .slice _ _ _, .int .i64 _]) h isAgg36 sizeOf36 rfl rfl rfl) rfl rfl (WL.eff (eff_storeW (vs := [.int .i64 _, .int .i64 _, .int .i64 _, .slice _ _ _, .int .i64 _]) h sizeOf36 rfl rfl rfl rfl rfl) rfl rfl ?_))))
  rintro _ w h
  refine WL.nil (W.ret (bodyQ.rcB (vs := [.int .i64 _, .int .i64 _, .int .i64 _, .slice _ _ _, .int .i64 _]) h results65 isAgg36 sizeOf36 rfl rfl rfl ?_))
  have ob_ : k = l.length := by omega
  obtain rfl := ob_
  rw [List.take_length] at h
  exact ⟨rfl, h.to⟩
theorem ukeys_ok {b : Nat} {t : Tb} (h : On W0 (blk b t.cells 113 :: L) w) : Calls Tryz.prog 73 #[.pointer (some ⟨b, 0, none⟩)] w (Ret fun v w' => ∃ a, v = .slice a (keysN t.K 8).length (keysN t.K 8).length ∧ On W0 (Own 1 (.slice a (keysN t.K 8).length (keysN t.K 8).length) (keysN t.K 8).length (kV (keysN t.K 8)) :: blk b t.cells 113 :: L) w') := by
  refine enter func73 rfl ntmps73 rfl ?_
  have hmx := maxLen_eq
  refine W.seq (W.region (WL.val run_assign rfl rfl (WL.nil (W.seq (W.region (WL.val run_assign rfl rfl (WL.nil ?_)))))))
  refine W.seq (W.seq (W.region (WL.val run_move rfl rfl (WL.val (run_nilCheck rfl) rfl rfl (WL.val (run_fieldAddr 0 underlying113 rfl sizeOf85 rfl rfl) rfl rfl (WL.val (run_loadB (vs := [.int .u64 _, .int .u64 _, .int .u64 _, .int .u64 _, .int .u64 _, .int .u64 _, .int .u64 _, .int .u64 _]) h isAgg85 sizeOf85 rfl rfl rfl) rfl rfl (WL.val run_move rfl rfl ?_)))))))
  refine WL.nil (W.block ?_)
  refine W.loop (fun (i : Nat) env w => ∃ j a c, env = mkE j [(3, .slice a (keysN t.K i).length c), (9, .agg (keysV t.K).toArray), (10, .int .i64 (i : Int))] ∧ i ≤ 8 ∧ On W0 (Own 1 (.slice a (keysN t.K i).length c) (keysN t.K i).length (kV (keysN t.K i)) :: blk b t.cells 113 :: L) w) (fun i => 8 - i) (0) ?_ ?_
  · exact ⟨_, none, 0, mkE_of ⟨rfl, rfl, rfl, trivial⟩, Nat.zero_le _, h.ownEmpty 1 none⟩
  rintro i env w ⟨j, a, c, rfl, hi, h⟩
  have hkn := keysN_len t.K i
  refine W.seq (W.region (WL.val (run_lss rfl rfl) rfl rfl (WL.nil (W.seq ?_))))
  refine W.condIf rfl (fun c6 => ?_) (fun c6 => ?_)
  ·
   refine W.skip (W.seq (W.block (W.seq (W.region (WL.val (run_indexArr underlying85 sizeOf23 isAgg23 rfl rfl (by omega) (by omega) (keysV_key (i := i) (by omega))) rfl rfl (WL.val run_assign rfl rfl (WL.nil ?_)))))))
   refine W.seq (W.region (WL.val run_move rfl rfl (WL.val (run_neq rfl rfl) rfl rfl (WL.nil ?_))))
   refine W.condIf rfl (fun c12 => ?_) (fun c12 => ?_)
   ·
    refine W.region (WL.val run_move rfl rfl (WL.val run_move rfl rfl (WL.eff (eff_mkSlice (zl := [.int .u64 0]) (out := [.int .u64 _]) h underlying129 sizeOf23 zeroValue23 (by decide) (by kernel_rfl) rfl rfl (by simp) (⟨⟨_, _, rfl, rfl, by decide⟩, trivial⟩) rfl rfl (by simp [maxLen])) rfl rfl ?_)))
    rintro _ w ⟨b17, rfl, h⟩
    refine WL.eff (eff_app (c2 := 1) (bytes := 8) h rfl rfl (h.cellsO (v := .slice (some ⟨b17, 0, none⟩) 1 1)) underlying129 rfl rfl rfl rfl rfl (by omega) (by omega) (by simp [Value.oneCell'])) rfl rfl ?_
    rintro _ w ⟨a18, c18, rfl, h⟩
    have e1 : keysN t.K i ++ [t.K i] = keysN t.K (i + 1) := by
      show _ = keysN t.K i ++ if t.K i = 0 then [] else [t.K i]
      rw [if_neg (by omega)]
    have e2 : kV (keysN t.K i) ++ [Value.int .u64 (t.K i)] = kV (keysN t.K (i + 1)) := by rw [← e1, ← kV_app]; rfl
    have el : (keysN t.K i).length + 1 = (keysN t.K (i + 1)).length := by rw [← e1, List.length_append]; rfl
    have h : On W0 (Own 1 (.slice a18 ((keysN t.K i).length + 1) c18) ((keysN t.K i).length + 1) (kV (keysN t.K i) ++ [.int .u64 (t.K i)]) :: _) w := h
    rw [e2, el] at h
    refine WL.val run_assign rfl rfl (WL.nil (W.region (WL.val (run_incN rfl rfl (by omega)) rfl rfl (WL.val run_move rfl rfl (WL.nil ?_)))))
    exact ⟨i + 1, ⟨_, a18, c18, mkE_of ⟨congrArg (fun q => Value.slice a18 q c18) el, rfl, rfl, trivial⟩, by omega, h.to⟩, by show 8 - (i + 1) < 8 - i; omega⟩
   refine W.skip (W.region (WL.val (run_incN rfl rfl (by omega)) rfl rfl (WL.val run_move rfl rfl (WL.nil ?_))))
   have e1 : keysN t.K (i + 1) = keysN t.K i := by
     show keysN t.K i ++ (if t.K i = 0 then [] else [t.K i]) = _
     rw [if_pos (show t.K i = 0 by omega), List.append_nil]
   rw [← e1] at h
   exact ⟨i + 1, ⟨_, a, c, mkE_of ⟨congrArg (fun q : List Int => Value.slice a q.length c) e1.symm, rfl, rfl, trivial⟩, by omega, h.to⟩, by show 8 - (i + 1) < 8 - i; omega⟩
  refine W.exit (W.seq ?_)
  have ob_ : i = 8 := by omega
  obtain rfl := ob_
  refine W.region (WL.val run_move rfl rfl (WL.eff (eff_call call120 (clip_keys h)) rfl rfl ?_))
  rintro _ w ⟨rfl, h⟩
  refine WL.val run_assign rfl rfl (WL.nil (W.ret (bodyQ.r1 (v := .slice _ _ _) results73 rfl ?_)))
  exact ⟨a, rfl, h⟩
theorem pkeys_ok {g ck : Nat} {ak : Option Addr} {ks : List Int} (hg : g < 4294967296) (hk : ∀ x ∈ ks, 0 ≤ x ∧ x < 18446744073709551616) (hl : ks.length ≤ 8) (h : On W0 L w) (C : Gives L (Cells 1 (.slice ak ks.length ck) ks.length (kV ks))) : Calls Tryz.prog 71 #[.int .u32 (g : Int), .slice ak ks.length ck] w (Ret fun v w' => ∃ a, v = .slice a (keysP g (8 * ks.length) ks ks.length).length (keysP g (8 * ks.length) ks ks.length).length ∧ On W0 (OwnB (.slice a (keysP g (8 * ks.length) ks ks.length).length (keysP g (8 * ks.length) ks ks.length).length) (keysP g (8 * ks.length) ks ks.length) :: L) w') := by
  refine enter func71 rfl ntmps71 rfl ?_
  have hmx := maxLen_eq
  have hbd := (h.reads C).bounds
  obtain ⟨hc1, hc2⟩ := hbd
  have e0 : ([] ++ be g 4) ++ be (8 * ks.length) 4 = (keysP g (8 * ks.length) ks 0) := by rw [keysP_zero, List.nil_append]
  refine W.seq (W.region (WL.val run_assign rfl rfl (WL.nil (W.seq (W.region (WL.val run_move rfl rfl (WL.val run_move rfl rfl ?_)))))))
  refine WL.val (run_lenSlice underlying129 rfl) rfl rfl (WL.val (run_minN (m := ks.length) (n := 16) rfl rfl (Nat.min_eq_left (by omega))) rfl rfl (WL.val (run_cutH underlying129 sizeOf23 rfl rfl  (by omega)) rfl rfl (WL.val run_assign rfl rfl (WL.nil (W.seq (W.region (WL.val run_move rfl rfl ?_)))))))
  refine WL.val (run_convIn underlying111 underlying23 rfl (by show (0 : Int) ≤ _; omega) (by show _ ≤ (18446744073709551615 : Int); omega)) rfl rfl (WL.eff (eff_call call59 (bput_ok (ax := none) (cx := 0) (bs := []) (v := g) (n := 4) h Gives.nilB (by decide) (by decide) (by omega) (by decide))) rfl rfl ?_)
  rintro _ w ⟨a15, rfl, h⟩
  refine WL.val run_move rfl rfl (WL.val (run_lenSlice underlying129 rfl) rfl rfl (WL.val (run_mulN (m := 8) (n := ks.length) rfl rfl (by omega)) rfl rfl (WL.val (run_convIn underlying3 underlying23 rfl (by show (0 : Int) ≤ _; omega) (by show _ ≤ (18446744073709551615 : Int); omega)) rfl rfl (WL.eff (eff_call call59 (bput_ok (v := 8 * ks.length) (n := 4) h (Gives.ownO (v := .slice a15 ([] ++ be g 4).length ([] ++ be g 4).length)) (by decide) (by decide) (by omega) (by rw [List.nil_append, be_length]; decide))) rfl rfl ?_))))
  rintro v20 w ⟨a20, hv20, h⟩
  rw [e0] at hv20 h
  subst hv20
  refine WL.val run_assign rfl rfl (WL.nil (W.seq (W.seq (W.region (WL.val run_move rfl rfl (WL.val (run_lenSlice underlying129 rfl) rfl rfl (WL.val run_move rfl rfl ?_)))))))
  refine WL.nil (W.block ?_)
  refine W.loop (fun (k : Nat) env w => k ≤ ks.length ∧ ∃ (j : Env) (ao : Option Addr) (co : Nat), env = mkE j [(5, .slice ao (keysP g (8 * ks.length) ks k).length co), (21, .slice ak ks.length ck), (22, .int .i64 (ks.length : Int)), (23, .int .i64 (k : Int))] ∧ co = (keysP g (8 * ks.length) ks k).length ∧ On W0 (OwnB (.slice ao (keysP g (8 * ks.length) ks k).length co) (keysP g (8 * ks.length) ks k) :: L) w) (fun k => ks.length - k) (0) ?_ ?_
  · exact ⟨Nat.zero_le _, _, a20, _, mkE_of ⟨rfl, rfl, rfl, rfl, trivial⟩, rfl, h.to⟩
  rintro k env w ⟨hk8, j, ao, co, rfl, hco, h⟩
  have hlk := keysP_len (g := g) (n := 8 * ks.length) hk8
  refine W.seq (W.region (WL.val (run_lss rfl rfl) rfl rfl (WL.nil (W.seq ?_))))
  refine W.condIf rfl (fun c7 => ?_) (fun c7 => ?_)
  ·
   refine W.skip (W.seq ?_)
   have hkl : k < ks.length := by omega
   have ex_ : ∃ x, ks[k]? = some x := ⟨ks[k], by simp⟩
   obtain ⟨x, hx⟩ := ex_
   have hxk := hk x (List.mem_of_getElem? hx)
   have ekx : x = ((x.toNat : Nat) : Int) := by omega
   have adx := (h.readsTo C).addr (by omega)
   obtain ⟨bx, ox, hax⟩ := adx
   subst hax
   refine W.block (W.seq (W.region (WL.val (run_indexAddr underlying129 sizeOf23 rfl rfl (by omega) (by omega)) rfl rfl (WL.val (run_load1 isAgg23 rfl ((h.readsTo C).elem (i := k) (vs := [.int .u64 ((x.toNat : Nat) : Int)]) hkl ((kV_get hx).trans (congrArg (fun q => [Value.int .u64 q]) ekx)) 0 _ rfl)) rfl rfl (WL.val run_assign rfl rfl (WL.nil (W.region ?_)))))))
   refine WL.val run_move rfl rfl (WL.val run_move rfl rfl (WL.eff (eff_call call59 (bput_ok (v := x.toNat) (n := 8) (bs := (keysP g (8 * ks.length) ks k)) h (Gives.ownO (v := .slice ao (keysP g (8 * ks.length) ks k).length co)) (by decide) (by decide) (by omega) (by omega))) rfl rfl ?_))
   rintro _ w ⟨a29, rfl, h⟩
   refine WL.val run_assign rfl rfl (WL.nil (W.region (WL.val (run_incN rfl rfl (by omega)) rfl rfl (WL.val run_move rfl rfl (WL.nil ?_)))))
   rw [keysP_succ hx] at h
   exact ⟨k + 1, ⟨by omega, _, a29, _, mkE_of ⟨congrArg (fun q : List UInt8 => Value.slice a29 q.length q.length) (keysP_succ hx), rfl, rfl, rfl, trivial⟩, rfl, h.to⟩, by show ks.length - (k + 1) < ks.length - k; omega⟩
  refine W.exit (W.seq (W.region (WL.val run_move rfl rfl (WL.val run_assign rfl rfl (WL.nil (W.ret (bodyQ.r1 (v := .slice _ _ _) results71 rfl ?_)))))))
  have ob_ : k = ks.length := by omega
  obtain rfl := ob_
  subst hco
  exact ⟨ao, rfl, h⟩
def holdP (g key y : Nat) : List UInt8 := if y = 0 then be g 4 ++ be 0 4 else be g 4 ++ be 16 4 ++ be key 8 ++ be 0 4 ++ be y 2 ++ be 0 2
theorem and15 {y : Nat} (h : y < 16) : ((y &&& 15 : Nat) : Int) = (y : Int) := by
  have : y &&& 15 = y % 2 ^ 4 := Nat.and_two_pow_sub_one_eq_mod y 4
  rw [this, Nat.mod_eq_of_lt (by omega)]
theorem holdB_P {t : Tb} (h1 : 0 ≤ t.typ) : holdB t = holdP t.gen.toNat (holdK t).toNat t.typ.toNat := by
  unfold holdB holdP
  by_cases h : t.typ = 0
  · rw [if_pos h, if_pos (by omega)]
  · rw [if_neg h, if_neg (by omega)]
theorem pholder_ok {g key y : Nat} (hg : g < 4294967296) (hk : key < 18446744073709551616) (hy : y < 16) (h : On W0 L w) : Calls Tryz.prog 75 #[.int .u32 (g : Int), .int .u64 (key : Int), .int .i64 (y : Int)] w (Ret fun v w' => ∃ a, v = .slice a (holdP g key y).length (holdP g key y).length ∧ On W0 (OwnB (.slice a (holdP g key y).length (holdP g key y).length) (holdP g key y) :: L) w') := by
  refine enter func75 rfl ntmps75 rfl ?_
  have hmx := maxLen_eq
  refine W.seq (W.region (WL.val run_assign rfl rfl (WL.nil (W.seq (W.region (WL.val run_move rfl rfl (WL.val (run_convIn underlying111 underlying23 rfl (by show (0 : Int) ≤ _; omega) (by show _ ≤ (18446744073709551615 : Int); omega)) rfl rfl ?_)))))))
  refine WL.eff (eff_call call59 (bput_ok (ax := none) (cx := 0) (bs := []) (v := g) (n := 4) h Gives.nilB (by decide) (by decide) (by omega) (by decide))) rfl rfl ?_
  rintro _ w ⟨a10, rfl, h⟩
  refine WL.val run_assign rfl rfl (WL.nil (W.seq (W.seq (W.region (WL.val run_move rfl rfl (WL.val (run_andV (m := y) (n := 15) (and15 hy) rfl rfl (by show _ ≤ (9223372036854775807 : Int); omega) (by decide)) rfl rfl (WL.val (run_eql rfl rfl) rfl rfl ?_)))))))
  refine WL.nil ?_
  refine W.condIf rfl (fun c3 => ?_) (fun c3 => ?_)
  ·
   refine W.seq (W.region (WL.val run_move rfl rfl (WL.eff (eff_call call59 (bput_ok (v := 0) (n := 4) (bs := [] ++ be g 4) h (Gives.ownO (v := .slice a10 ([] ++ be g 4).length ([] ++ be g 4).length)) (by decide) (by decide) (by omega) (by simp only [List.length_append, List.length_nil, be_length]; omega))) rfl rfl ?_)))
   rintro _ w ⟨a15, rfl, h⟩
   refine WL.val run_assign rfl rfl (WL.nil (W.ret (bodyQ.r1 (v := .slice _ _ _) results75 rfl ?_)))
   have e : holdP g key y = [] ++ be g 4 ++ be 0 4 := by unfold holdP; rw [if_pos (by omega), List.nil_append]
   rw [e]
   exact ⟨a15, rfl, h.to⟩
  refine W.skip (W.seq (W.region (WL.val run_move rfl rfl (WL.eff (eff_call call59 (bput_ok (v := 16) (n := 4) (bs := [] ++ be g 4) h (Gives.ownO (v := .slice a10 ([] ++ be g 4).length ([] ++ be g 4).length)) (by decide) (by decide) (by omega) (by simp only [List.length_append, List.length_nil, be_length]; omega))) rfl rfl ?_))))
  rintro _ w ⟨a17, rfl, h⟩
  refine WL.val run_move rfl rfl (WL.eff (eff_call call59 (bput_ok (v := key) (n := 8) (bs := [] ++ be g 4 ++ be 16 4) h (Gives.ownO (v := .slice a17 ([] ++ be g 4 ++ be 16 4).length ([] ++ be g 4 ++ be 16 4).length)) (by decide) (by decide) (by omega) (by simp only [List.length_append, List.length_nil, be_length]; omega))) rfl rfl ?_)
  rintro _ w ⟨a19, rfl, h⟩
  refine WL.eff (eff_call call59 (bput_ok (v := 0) (n := 4) (bs := [] ++ be g 4 ++ be 16 4 ++ be key 8) h (Gives.ownO (v := .slice a19 ([] ++ be g 4 ++ be 16 4 ++ be key 8).length ([] ++ be g 4 ++ be 16 4 ++ be key 8).length)) (by decide) (by decide) (by omega) (by simp only [List.length_append, List.length_nil, be_length]; omega))) rfl rfl ?_
  rintro _ w ⟨a20, rfl, h⟩
  refine WL.val run_assign rfl rfl (WL.nil (W.seq (W.region (WL.val run_move rfl rfl (WL.val run_move rfl rfl (WL.val (run_andV (m := y) (n := 15) (and15 hy) rfl rfl (by show _ ≤ (9223372036854775807 : Int); omega) (by decide)) rfl rfl (WL.val (run_convIn underlying3 underlying23 rfl (by show (0 : Int) ≤ _; omega) (by show _ ≤ (18446744073709551615 : Int); omega)) rfl rfl ?_)))))))
  refine WL.eff (eff_call call59 (bput_ok (v := y) (n := 2) (bs := [] ++ be g 4 ++ be 16 4 ++ be key 8 ++ be 0 4) h (Gives.ownO (v := .slice a20 ([] ++ be g 4 ++ be 16 4 ++ be key 8 ++ be 0 4).length ([] ++ be g 4 ++ be 16 4 ++ be key 8 ++ be 0 4).length)) (by decide) (by decide) (by omega) (by simp only [List.length_append, List.length_nil, be_length]; omega))) rfl rfl ?_
  rintro _ w ⟨a25, rfl, h⟩
  refine WL.eff (eff_call call59 (bput_ok (v := 0) (n := 2) (bs := [] ++ be g 4 ++ be 16 4 ++ be key 8 ++ be 0 4 ++ be y 2) h (Gives.ownO (v := .slice a25 ([] ++ be g 4 ++ be 16 4 ++ be key 8 ++ be 0 4 ++ be y 2).length ([] ++ be g 4 ++ be 16 4 ++ be key 8 ++ be 0 4 ++ be y 2).length)) (by decide) (by decide) (by omega) (by simp only [List.length_append, List.length_nil, be_length]; omega))) rfl rfl ?_
  rintro _ w ⟨a26, rfl, h⟩
  refine WL.val run_assign rfl rfl (WL.nil (W.ret (bodyQ.r1 (v := .slice _ _ _) results75 rfl ?_)))
  have e : holdP g key y = [] ++ be g 4 ++ be 16 4 ++ be key 8 ++ be 0 4 ++ be y 2 ++ be 0 2 := by unfold holdP; rw [if_neg (by omega), List.nil_append]
  rw [e]
  exact ⟨a26, rfl, h.to⟩
end Go.Proofs.YtjbgiingimhnnaaGreat
/-
  A unit: commands of all kinds: the contracts. Lines of walks printed by a program of the prover's.
-/
namespace Go.Proofs.YtjbgiingimhnnaaGreat
open Go.Proofs.Tryz
open Go Go.Sl Go.Sl.BitM Go.Sl.SpM Go.Sl.RsM Go.Sl.ByM Go.Sl.UnM
set_option linter.unusedVariables false
set_option linter.unusedSimpArgs false
set_option maxHeartbeats 1000000
set_option maxRecDepth 8000
variable {W0 w : World} {L F : List HProp}
theorem ukey_ok {b : Nat} {t : Tb} {hh : Int} (h : On W0 (blk b t.cells 113 :: L) w) : Calls Tryz.prog 76 #[.pointer (some ⟨b, 0, none⟩), .int .i64 hh] w (Ret fun v w' => v = .int .u64 (if hostB hh = true then t.K hh.toNat else 0) ∧ On W0 (blk b t.cells 113 :: L) w') := by
  refine enter func76 rfl ntmps76 rfl (W.seq (W.region (WL.val run_assign rfl rfl (WL.nil (W.seq (W.seq (W.region ?_)))))))
  refine WL.val run_move rfl rfl (WL.eff (eff_call call61 (host_ok h)) rfl rfl ?_)
  rintro _ w ⟨hv, h⟩
  have hcs := Bool.eq_false_or_eq_true (hostB hh)
  rcases hcs with hb | hb <;> (rw [hb] at hv; subst hv)
  ·
   refine WL.val (run_not rfl) rfl rfl (WL.nil (W.condF rfl (W.skip (W.seq ?_))))
   have ob_ := hostB_iff.1 hb
   obtain ⟨hi0, hi8⟩ := ob_
   have ob_ := Int.eq_ofNat_of_zero_le hi0
   obtain ⟨i, rfl⟩ := ob_
   have hi : i < 8 := by omega
   refine W.region (WL.val run_move rfl rfl (WL.val run_move rfl rfl (WL.val (run_nilCheck rfl) rfl rfl (WL.val (run_fieldAddr 0 underlying113 rfl sizeOf85 rfl rfl) rfl rfl (WL.val (run_indexAddrArr underlying85 sizeOf23 rfl rfl (by omega) (by omega)) rfl rfl (WL.val (run_load1 isAgg23 rfl (h.cellB (cells_at hi))) rfl rfl (WL.val run_assign rfl rfl ?_)))))))
   refine WL.nil (W.ret (bodyQ.r1 (v := .int .u64 _) results76 rfl ?_))
   exact ⟨by rw [if_pos hb]; rfl, h⟩
  refine WL.val (run_not rfl) rfl rfl (WL.nil (W.condT rfl (W.seq (W.region (WL.val run_assign rfl rfl (WL.nil (W.ret ?_)))))))
  refine bodyQ.r1 (v := .int .u64 _) results76 rfl ?_
  exact ⟨by rw [hb]; rfl, h⟩
theorem uact_ok {bu i : Nat} {u : Un} {pool : PoolL} {ms : List Nat} {kind at_ n key new typ : Int} {force : Bool} {data : List UInt8} {ax : Option Addr} {cx : Nat} (hi : i < 8) (hk1 : 1 ≤ kind) (hk : kind ≤ 18) (hk9 : kind ≠ 9) (hsm : small 999000 u) (hgu_ : goodU u) (hcm : okCm (⟨kind, at_, n, data, key, new, typ, force⟩ : Cm)) (h : On W0 (UnP 68 105 113 bu pool ms u :: L) w) (C : Gives L (Bytes (.slice ax data.length cx) data)) (hd : data.length ≤ 1000000) : Calls Tryz.prog 31 #[.pointer (some ⟨bu, 0, none⟩), .int .i64 (i : Int), (⟨kind, at_, n, data, key, new, typ, force⟩ : Cm).val (.slice ax data.length cx)] w (Ret fun v w' => ∃ u' r dv, actM u i (⟨kind, at_, n, data, key, new, typ, force⟩ : Cm) = (u', r) ∧ v = r.val dv ∧ On W0 (OwnB dv r.data :: UnP 68 105 113 bu pool ms u' :: L) w') := by
  refine enter func31 rfl ntmps31 rfl ?_
  have hul := On.unLen h
  obtain ⟨hl8, hwf⟩ := hul
  have hgt := hgu_.1
  have hgok := hgt.1
  have egen : u.t.gen = ((u.t.gen.toNat : Nat) : Int) := by have := hgok.2; omega
  have hsm1 := small_le hsm (show 999000 ≤ 1000000 by decide)
  refine W.seq (W.region (WL.eff (eff_box (v := .agg _) (l := (⟨kind, at_, n, data, key, new, typ, force⟩ : Cm).cells (.slice ax data.length cx)) h rfl rfl) rfl rfl ?_))
  rintro _ w ⟨b5, rfl, h⟩
  have h : On W0 (blk b5 [.int .i64 kind, .int .i64 at_, .int .i64 n, .slice ax data.length cx, .int .u64 key, .int .u64 new, .int .i64 typ, .bool force] 25 :: _) w := h
  refine WL.eff (eff_alloc h zeroValue36 rfl) rfl rfl ?_
  rintro _ w ⟨b6, rfl, h⟩
  refine WL.nil (W.seq (W.seq (W.region (WL.val (run_fieldAddr 0 underlying25 rfl sizeOf3 rfl rfl) rfl rfl (WL.val (run_load1 isAgg3 rfl (h.cellB rfl)) rfl rfl (WL.nil (W.block ?_)))))))
  refine W.seq (W.block (W.seq (W.block (W.seq (W.block (W.seq (W.block ?_)))))))
  refine W.seq (W.block (W.seq (W.block (W.seq (W.block (W.block (W.seq ?_)))))))
  refine W.block (W.seq (W.block (W.seq (W.block (W.seq (W.block (W.seq ?_)))))))
  refine W.seq (W.seq (W.region (WL.val (run_eql rfl rfl) rfl rfl (WL.val run_assign rfl rfl (WL.nil ?_)))))
  refine W.condIf rfl (fun c16 => ?_) (fun c16 => ?_)
  ·
   refine W.exit (W.seq (W.seq (W.region (WL.val (run_buildS (pl := [(0, 1), (1, 1), (2, 1), (3, 1), (4, 1)]) (out := [.int .i64 _, .int .i64 _, .int .i64 _, .slice _ _ _, .int .i64 _]) underlying36 zeroValue36 (fun w => by kernel_rfl) rfl (trivial) rfl) rfl rfl (WL.eff (eff_storeW (vs := [.int .i64 _, .int .i64 _, .int .i64 _, .slice _ _ _, .int .i64 _]) h sizeOf36 rfl rfl rfl rfl rfl) rfl rfl ?_)))))
   rintro _ w h
   refine WL.nil (W.ret (bodyQ.rcB (vs := [.int .i64 _, .int .i64 _, .int .i64 _, .slice _ _ _, .int .i64 _]) h results31 isAgg36 sizeOf36 rfl rfl rfl ?_))
   have h : On W0 (OwnB (.slice none 0 0) (plain 0 0 0 : Rp).data :: _) w := h.ownEmpty 1 none
   exact ⟨u, plain 0 0 0, .slice none 0 0, (by unfold actM; rw [if_pos c16]), rfl, h.to⟩
  refine W.skip (W.seq (W.seq (W.region (WL.val (run_eql rfl rfl) rfl rfl (WL.val run_assign rfl rfl (WL.nil ?_))))))
  refine W.condIf rfl (fun c20 => ?_) (fun c20 => ?_)
  ·
   refine W.exit (W.seq (W.seq (W.region (WL.eff (eff_call call62 (inquiry_ok h)) rfl rfl ?_))))
   rintro _ w ⟨a41, rfl, h⟩
   refine WL.eff (eff_call call28 (sgood_ok (bs := inqB) h (Gives.ownO (v := .slice a41 inqB.length inqB.length)) (by decide))) rfl rfl ?_
   rintro _ w ⟨a42, rfl, h⟩
   refine WL.eff (eff_storeW (vs := [.int .i64 _, .int .i64 _, .int .i64 _, .slice _ _ _, .int .i64 _]) h sizeOf36 rfl rfl rfl rfl rfl) rfl rfl ?_
   rintro _ w h
   refine WL.nil (W.ret (bodyQ.rcB (vs := [.int .i64 _, .int .i64 _, .int .i64 _, .slice _ _ _, .int .i64 _]) h results31 isAgg36 sizeOf36 rfl rfl rfl ?_))
   have h : On W0 (OwnB (.slice a42 (inqB).length (inqB).length) (gave (inqB)).data :: _) w := h.fetch (OwnB (.slice a42 (inqB).length (inqB).length) (inqB))
   exact ⟨u, gave (inqB), .slice a42 (inqB).length (inqB).length, (by unfold actM; rw [if_neg c16, if_pos c20]), rfl, h.to⟩
  refine W.skip (W.seq (W.seq (W.region (WL.val (run_eql rfl rfl) rfl rfl (WL.val run_assign rfl rfl (WL.nil ?_))))))
  refine W.condIf rfl (fun c24 => ?_) (fun c24 => ?_)
  ·
   refine W.exit (W.seq (W.seq (W.region (WL.val run_move rfl rfl (WL.eff (eff_call call9 (ublocks_ok (h.fetch (UnP 68 105 113 bu pool ms u)))) rfl rfl ?_)))))
   rintro _ w ⟨rfl, h⟩
   refine WL.eff (eff_call call63 (capacity_ok (n := u.s.N) hwf.2.1 hwf.2.2.1 h)) rfl rfl ?_
   rintro _ w ⟨a45, rfl, h⟩
   refine WL.eff (eff_call call28 (sgood_ok (bs := capB u.s.N) h (Gives.ownO (v := .slice a45 (capB u.s.N).length (capB u.s.N).length)) (by unfold capB; rw [List.length_append, be_length, be_length]; decide))) rfl rfl ?_
   rintro _ w ⟨a46, rfl, h⟩
   refine WL.eff (eff_storeW (vs := [.int .i64 _, .int .i64 _, .int .i64 _, .slice _ _ _, .int .i64 _]) h sizeOf36 rfl rfl rfl rfl rfl) rfl rfl ?_
   rintro _ w h
   refine WL.nil (W.ret (bodyQ.rcB (vs := [.int .i64 _, .int .i64 _, .int .i64 _, .slice _ _ _, .int .i64 _]) h results31 isAgg36 sizeOf36 rfl rfl rfl ?_))
   have h : On W0 (OwnB (.slice a46 ((capB u.s.N)).length ((capB u.s.N)).length) (gave ((capB u.s.N))).data :: _) w := h.fetch (OwnB (.slice a46 ((capB u.s.N)).length ((capB u.s.N)).length) ((capB u.s.N)))
   exact ⟨u, gave ((capB u.s.N)), .slice a46 ((capB u.s.N)).length ((capB u.s.N)).length, (by unfold actM; rw [if_neg c16, if_neg c20, if_pos c24]), rfl, h.to⟩
  refine W.skip (W.seq (W.seq (W.seq (W.region (WL.val (run_eql rfl rfl) rfl rfl (WL.val run_assign rfl rfl (WL.nil ?_)))))))
  refine W.condIf rfl (fun c28 => ?_) (fun c28 => ?_)
  ·
   refine W.skip ?_
   refine W.condIf rfl (fun c40 => ?_) (fun c40 => ?_)
   ·
    refine W.exit (W.seq (W.seq (W.region (WL.val run_move rfl rfl (WL.val (run_loadB (vs := [.int .i64 _, .int .i64 _, .int .i64 _, .slice _ _ _, .int .u64 _, .int .u64 _, .int .i64 _, .bool _]) h isAgg25 sizeOf25 rfl rfl rfl) rfl rfl (WL.eff (eff_call call64 (urun_ok (u := u) (h.fetch (UnP 68 105 113 bu pool ms u)) (Gives.to C) hd)) rfl rfl ?_))))))
    rintro _ w ⟨s', r', dv', heq, rfl, h⟩
    have of_ := Own.form h
    obtain ⟨ad, cd, hdv, _⟩ := of_
    subst hdv
    refine WL.eff (eff_storeW (vs := [.int .i64 _, .int .i64 _, .int .i64 _, .slice _ _ _, .int .i64 _]) h sizeOf36 rfl rfl rfl rfl rfl) rfl rfl ?_
    rintro _ w h
    refine WL.nil (W.ret (bodyQ.rcB (vs := [.int .i64 _, .int .i64 _, .int .i64 _, .slice _ _ _, .int .i64 _]) h results31 isAgg36 sizeOf36 rfl rfl rfl ?_))
    have he : actM u i (⟨kind, at_, n, data, key, new, typ, force⟩ : Cm) = (u.setS s', r') := by rw [actM_run (by show 2 ≤ kind; omega) (by show kind ≤ 6; omega), heq]
    exact ⟨u.setS s', r', _, he, rfl, h.to⟩
   exact absurd c40 (not_not_intro (by omega))
  refine W.seq (W.region (WL.val (run_eql rfl rfl) rfl rfl (WL.val run_assign rfl rfl (WL.nil ?_))))
  refine W.condIf rfl (fun c31 => ?_) (fun c31 => ?_)
  ·
   refine W.skip ?_
   refine W.condIf rfl (fun c40 => ?_) (fun c40 => ?_)
   ·
    refine W.exit (W.seq (W.seq (W.region (WL.val run_move rfl rfl (WL.val (run_loadB (vs := [.int .i64 _, .int .i64 _, .int .i64 _, .slice _ _ _, .int .u64 _, .int .u64 _, .int .i64 _, .bool _]) h isAgg25 sizeOf25 rfl rfl rfl) rfl rfl (WL.eff (eff_call call64 (urun_ok (u := u) (h.fetch (UnP 68 105 113 bu pool ms u)) (Gives.to C) hd)) rfl rfl ?_))))))
    rintro _ w ⟨s', r', dv', heq, rfl, h⟩
    have of_ := Own.form h
    obtain ⟨ad, cd, hdv, _⟩ := of_
    subst hdv
    refine WL.eff (eff_storeW (vs := [.int .i64 _, .int .i64 _, .int .i64 _, .slice _ _ _, .int .i64 _]) h sizeOf36 rfl rfl rfl rfl rfl) rfl rfl ?_
    rintro _ w h
    refine WL.nil (W.ret (bodyQ.rcB (vs := [.int .i64 _, .int .i64 _, .int .i64 _, .slice _ _ _, .int .i64 _]) h results31 isAgg36 sizeOf36 rfl rfl rfl ?_))
    have he : actM u i (⟨kind, at_, n, data, key, new, typ, force⟩ : Cm) = (u.setS s', r') := by rw [actM_run (by show 2 ≤ kind; omega) (by show kind ≤ 6; omega), heq]
    exact ⟨u.setS s', r', _, he, rfl, h.to⟩
   exact absurd c40 (not_not_intro (by omega))
  refine W.seq (W.region (WL.val (run_eql rfl rfl) rfl rfl (WL.val run_assign rfl rfl (WL.nil ?_))))
  refine W.condIf rfl (fun c34 => ?_) (fun c34 => ?_)
  ·
   refine W.skip ?_
   refine W.condIf rfl (fun c40 => ?_) (fun c40 => ?_)
   ·
    refine W.exit (W.seq (W.seq (W.region (WL.val run_move rfl rfl (WL.val (run_loadB (vs := [.int .i64 _, .int .i64 _, .int .i64 _, .slice _ _ _, .int .u64 _, .int .u64 _, .int .i64 _, .bool _]) h isAgg25 sizeOf25 rfl rfl rfl) rfl rfl (WL.eff (eff_call call64 (urun_ok (u := u) (h.fetch (UnP 68 105 113 bu pool ms u)) (Gives.to C) hd)) rfl rfl ?_))))))
    rintro _ w ⟨s', r', dv', heq, rfl, h⟩
    have of_ := Own.form h
    obtain ⟨ad, cd, hdv, _⟩ := of_
    subst hdv
    refine WL.eff (eff_storeW (vs := [.int .i64 _, .int .i64 _, .int .i64 _, .slice _ _ _, .int .i64 _]) h sizeOf36 rfl rfl rfl rfl rfl) rfl rfl ?_
    rintro _ w h
    refine WL.nil (W.ret (bodyQ.rcB (vs := [.int .i64 _, .int .i64 _, .int .i64 _, .slice _ _ _, .int .i64 _]) h results31 isAgg36 sizeOf36 rfl rfl rfl ?_))
    have he : actM u i (⟨kind, at_, n, data, key, new, typ, force⟩ : Cm) = (u.setS s', r') := by rw [actM_run (by show 2 ≤ kind; omega) (by show kind ≤ 6; omega), heq]
    exact ⟨u.setS s', r', _, he, rfl, h.to⟩
   exact absurd c40 (not_not_intro (by omega))
  refine W.seq (W.region (WL.val (run_eql rfl rfl) rfl rfl (WL.val run_assign rfl rfl (WL.nil ?_))))
  refine W.condIf rfl (fun c37 => ?_) (fun c37 => ?_)
  ·
   refine W.skip ?_
   refine W.condIf rfl (fun c40 => ?_) (fun c40 => ?_)
   ·
    refine W.exit (W.seq (W.seq (W.region (WL.val run_move rfl rfl (WL.val (run_loadB (vs := [.int .i64 _, .int .i64 _, .int .i64 _, .slice _ _ _, .int .u64 _, .int .u64 _, .int .i64 _, .bool _]) h isAgg25 sizeOf25 rfl rfl rfl) rfl rfl (WL.eff (eff_call call64 (urun_ok (u := u) (h.fetch (UnP 68 105 113 bu pool ms u)) (Gives.to C) hd)) rfl rfl ?_))))))
    rintro _ w ⟨s', r', dv', heq, rfl, h⟩
    have of_ := Own.form h
    obtain ⟨ad, cd, hdv, _⟩ := of_
    subst hdv
    refine WL.eff (eff_storeW (vs := [.int .i64 _, .int .i64 _, .int .i64 _, .slice _ _ _, .int .i64 _]) h sizeOf36 rfl rfl rfl rfl rfl) rfl rfl ?_
    rintro _ w h
    refine WL.nil (W.ret (bodyQ.rcB (vs := [.int .i64 _, .int .i64 _, .int .i64 _, .slice _ _ _, .int .i64 _]) h results31 isAgg36 sizeOf36 rfl rfl rfl ?_))
    have he : actM u i (⟨kind, at_, n, data, key, new, typ, force⟩ : Cm) = (u.setS s', r') := by rw [actM_run (by show 2 ≤ kind; omega) (by show kind ≤ 6; omega), heq]
    exact ⟨u.setS s', r', _, he, rfl, h.to⟩
   exact absurd c40 (not_not_intro (by omega))
  refine W.region (WL.val (run_eql rfl rfl) rfl rfl (WL.val run_assign rfl rfl (WL.nil ?_)))
  refine W.condIf rfl (fun c40 => ?_) (fun c40 => ?_)
  ·
   refine W.exit (W.seq (W.seq (W.region (WL.val run_move rfl rfl (WL.val (run_loadB (vs := [.int .i64 _, .int .i64 _, .int .i64 _, .slice _ _ _, .int .u64 _, .int .u64 _, .int .i64 _, .bool _]) h isAgg25 sizeOf25 rfl rfl rfl) rfl rfl (WL.eff (eff_call call64 (urun_ok (u := u) (h.fetch (UnP 68 105 113 bu pool ms u)) (Gives.to C) hd)) rfl rfl ?_))))))
   rintro _ w ⟨s', r', dv', heq, rfl, h⟩
   have of_ := Own.form h
   obtain ⟨ad, cd, hdv, _⟩ := of_
   subst hdv
   refine WL.eff (eff_storeW (vs := [.int .i64 _, .int .i64 _, .int .i64 _, .slice _ _ _, .int .i64 _]) h sizeOf36 rfl rfl rfl rfl rfl) rfl rfl ?_
   rintro _ w h
   refine WL.nil (W.ret (bodyQ.rcB (vs := [.int .i64 _, .int .i64 _, .int .i64 _, .slice _ _ _, .int .i64 _]) h results31 isAgg36 sizeOf36 rfl rfl rfl ?_))
   have he : actM u i (⟨kind, at_, n, data, key, new, typ, force⟩ : Cm) = (u.setS s', r') := by rw [actM_run (by show 2 ≤ kind; omega) (by show kind ≤ 6; omega), heq]
   exact ⟨u.setS s', r', _, he, rfl, h.to⟩
  refine W.skip (W.seq (W.seq (W.region (WL.val (run_eql rfl rfl) rfl rfl (WL.val run_assign rfl rfl (WL.nil ?_))))))
  refine W.condIf rfl (fun c44 => ?_) (fun c44 => ?_)
  ·
   refine W.exit (W.seq (W.seq ?_))
   have ob_ := openU (h.fetch (UnP 68 105 113 bu pool ms u))
   obtain ⟨bs, bt, gs, hm, hl, h⟩ := ob_
   refine W.draw Tryz.follows h (fun w h => ?_)
   refine WT.pure 0 rfl (by kernel_rfl) (fun w' => run_move) rfl rfl (WT.pure 1 rfl (by kernel_rfl) (fun w' => run_move) rfl rfl (WT.pure 2 rfl (by kernel_rfl) (fun w' => (run_nilCheck rfl)) rfl rfl (WT.pure 3 rfl (by kernel_rfl) (fun w' => (run_fieldAddr 1 underlying68 rfl sizeOf59 rfl rfl)) rfl rfl (WT.load1 4 rfl (by kernel_rfl) isAgg59 rfl (h.cellB rfl) rfl rfl (WT.pure 5 rfl (by kernel_rfl) (fun w' => run_move) rfl rfl (WT.pure 6 rfl (by kernel_rfl) (fun w' => (run_fieldAddr 4 underlying25 rfl sizeOf23 rfl rfl)) rfl rfl (WT.load1 7 rfl (by kernel_rfl) isAgg23 rfl (h.cellB rfl) rfl rfl ?_)))))))
   refine WT.pure 8 rfl (by kernel_rfl) (fun w' => (run_fieldAddr 5 underlying25 rfl sizeOf23 rfl rfl)) rfl rfl (WT.load1 9 rfl (by kernel_rfl) isAgg23 rfl (h.cellB rfl) rfl rfl (WT.pure 10 rfl (by kernel_rfl) (fun w' => (run_fieldAddr 0 underlying25 rfl sizeOf3 rfl rfl)) rfl rfl (WT.load1 11 rfl (by kernel_rfl) isAgg3 rfl (h.cellB rfl) rfl rfl (WT.pure 12 rfl (by kernel_rfl) (fun w' => (run_eql rfl rfl)) rfl rfl (WT.eff 13 [false, false, false, false] rfl (by kernel_rfl) (by kernel_rfl) (eff_call call66 (uregister_ok (key := key) (fresh := new) (ign := decide (kind = 11)) (i := i) (t := u.t) hi (h.fetch (blk bt u.t.cells 113)))) rfl rfl ?_)))))
   rintro v63 w ⟨a63, c63, hv63, h⟩
   have hX := rvM_reg (t := u.t) (i := i) (c := (⟨kind, at_, n, data, key, new, typ, force⟩ : Cm)) (show kind = 10 ∨ kind = 11 by omega)
   rw [← hX] at hv63 h
   subst hv63
   have h := closeU (bu := bu) (u := u.setT (rvM u.t i (⟨kind, at_, n, data, key, new, typ, force⟩ : Cm)).t) hm hl ((((h.fetch (Big (GOwn pool) gs)).fetch (blk bt (rvM u.t i (⟨kind, at_, n, data, key, new, typ, force⟩ : Cm)).t.cells 113)).fetch (SpP 105 bs u.s)).fetch (blk bu (ucells bs bt gs) 68))
   refine ⟨trivial, ?_⟩
   refine WT.pure 14 rfl (by kernel_rfl) (fun w' => (run_extract rfl rfl)) rfl rfl (WT.pure 15 rfl (by kernel_rfl) (fun w' => (run_extract rfl rfl)) rfl rfl ?_)
   refine WT.eff 16 [] rfl (by kernel_rfl) (by kernel_rfl) (eff_call call65 (unoticed_ok (bu := bu) (u := u.setT (rvM u.t i (⟨kind, at_, n, data, key, new, typ, force⟩ : Cm)).t) (l := (rvM u.t i (⟨kind, at_, n, data, key, new, typ, force⟩ : Cm)).l) (code := (rvM u.t i (⟨kind, at_, n, data, key, new, typ, force⟩ : Cm)).code) (a := a63) (c := c63) (rv := (rvM u.t i (⟨kind, at_, n, data, key, new, typ, force⟩ : Cm)).r.val (.slice none 0 0)) (z0 := (rvM u.t i (⟨kind, at_, n, data, key, new, typ, force⟩ : Cm)).r.st) (z1 := (rvM u.t i (⟨kind, at_, n, data, key, new, typ, force⟩ : Cm)).r.key) (z2 := (rvM u.t i (⟨kind, at_, n, data, key, new, typ, force⟩ : Cm)).r.code) (z4 := (rvM u.t i (⟨kind, at_, n, data, key, new, typ, force⟩ : Cm)).r.info) rvM_l.2.2.2 rvM_l.2.1 hsm rfl ((h.fetch (Own 2 (.slice a63 (rvM u.t i (⟨kind, at_, n, data, key, new, typ, force⟩ : Cm)).l.length c63) (rvM u.t i (⟨kind, at_, n, data, key, new, typ, force⟩ : Cm)).l.length (notesV (rvM u.t i (⟨kind, at_, n, data, key, new, typ, force⟩ : Cm)).code (rvM u.t i (⟨kind, at_, n, data, key, new, typ, force⟩ : Cm)).l))).fetch (UnP 68 105 113 bu pool ms (u.setT (rvM u.t i (⟨kind, at_, n, data, key, new, typ, force⟩ : Cm)).t))))) rfl rfl ?_
   rintro _ w ⟨rfl, h⟩
   refine ⟨trivial, ?_⟩
   refine WT.eff 17 [] rfl (by kernel_rfl) (by kernel_rfl) (eff_storeW (vs := [.int .i64 _, .int .i64 _, .int .i64 _, .slice _ _ _, .int .i64 _]) h sizeOf36 rfl rfl rfl rfl rfl) rfl rfl ?_
   rintro _ w h
   refine ⟨trivial, ?_⟩
   refine WT.done (by kernel_rfl) (W.ret (bodyQ.rcB (vs := [.int .i64 _, .int .i64 _, .int .i64 _, .slice _ _ _, .int .i64 _]) h results31 isAgg36 sizeOf36 rfl rfl rfl ?_))
   have he := actM_rv (u := u) (i := i) (c := (⟨kind, at_, n, data, key, new, typ, force⟩ : Cm)) (by show 10 ≤ kind; omega) (by show kind ≤ 15; omega)
   have h := On.nilData (r := (rvM u.t i (⟨kind, at_, n, data, key, new, typ, force⟩ : Cm)).r) rvM_r h
   exact ⟨_, _, .slice none 0 0, he, rfl, h.to⟩
  refine W.skip (W.seq (W.seq (W.region (WL.val (run_eql rfl rfl) rfl rfl (WL.val run_assign rfl rfl (WL.nil ?_))))))
  refine W.condIf rfl (fun c48 => ?_) (fun c48 => ?_)
  ·
   refine W.exit (W.seq (W.seq ?_))
   have ob_ := openU (h.fetch (UnP 68 105 113 bu pool ms u))
   obtain ⟨bs, bt, gs, hm, hl, h⟩ := ob_
   refine W.draw Tryz.follows h (fun w h => ?_)
   refine WT.pure 0 rfl (by kernel_rfl) (fun w' => run_move) rfl rfl (WT.pure 1 rfl (by kernel_rfl) (fun w' => run_move) rfl rfl (WT.pure 2 rfl (by kernel_rfl) (fun w' => (run_nilCheck rfl)) rfl rfl (WT.pure 3 rfl (by kernel_rfl) (fun w' => (run_fieldAddr 1 underlying68 rfl sizeOf59 rfl rfl)) rfl rfl (WT.load1 4 rfl (by kernel_rfl) isAgg59 rfl (h.cellB rfl) rfl rfl (WT.pure 5 rfl (by kernel_rfl) (fun w' => run_move) rfl rfl (WT.pure 6 rfl (by kernel_rfl) (fun w' => (run_fieldAddr 4 underlying25 rfl sizeOf23 rfl rfl)) rfl rfl (WT.load1 7 rfl (by kernel_rfl) isAgg23 rfl (h.cellB rfl) rfl rfl ?_)))))))
   refine WT.pure 8 rfl (by kernel_rfl) (fun w' => (run_fieldAddr 5 underlying25 rfl sizeOf23 rfl rfl)) rfl rfl (WT.load1 9 rfl (by kernel_rfl) isAgg23 rfl (h.cellB rfl) rfl rfl (WT.pure 10 rfl (by kernel_rfl) (fun w' => (run_fieldAddr 0 underlying25 rfl sizeOf3 rfl rfl)) rfl rfl (WT.load1 11 rfl (by kernel_rfl) isAgg3 rfl (h.cellB rfl) rfl rfl (WT.pure 12 rfl (by kernel_rfl) (fun w' => (run_eql rfl rfl)) rfl rfl (WT.eff 13 [false, false, false, false] rfl (by kernel_rfl) (by kernel_rfl) (eff_call call66 (uregister_ok (key := key) (fresh := new) (ign := decide (kind = 11)) (i := i) (t := u.t) hi (h.fetch (blk bt u.t.cells 113)))) rfl rfl ?_)))))
   rintro v63 w ⟨a63, c63, hv63, h⟩
   have hX := rvM_reg (t := u.t) (i := i) (c := (⟨kind, at_, n, data, key, new, typ, force⟩ : Cm)) (show kind = 10 ∨ kind = 11 by omega)
   rw [← hX] at hv63 h
   subst hv63
   have h := closeU (bu := bu) (u := u.setT (rvM u.t i (⟨kind, at_, n, data, key, new, typ, force⟩ : Cm)).t) hm hl ((((h.fetch (Big (GOwn pool) gs)).fetch (blk bt (rvM u.t i (⟨kind, at_, n, data, key, new, typ, force⟩ : Cm)).t.cells 113)).fetch (SpP 105 bs u.s)).fetch (blk bu (ucells bs bt gs) 68))
   refine ⟨trivial, ?_⟩
   refine WT.pure 14 rfl (by kernel_rfl) (fun w' => (run_extract rfl rfl)) rfl rfl (WT.pure 15 rfl (by kernel_rfl) (fun w' => (run_extract rfl rfl)) rfl rfl ?_)
   refine WT.eff 16 [] rfl (by kernel_rfl) (by kernel_rfl) (eff_call call65 (unoticed_ok (bu := bu) (u := u.setT (rvM u.t i (⟨kind, at_, n, data, key, new, typ, force⟩ : Cm)).t) (l := (rvM u.t i (⟨kind, at_, n, data, key, new, typ, force⟩ : Cm)).l) (code := (rvM u.t i (⟨kind, at_, n, data, key, new, typ, force⟩ : Cm)).code) (a := a63) (c := c63) (rv := (rvM u.t i (⟨kind, at_, n, data, key, new, typ, force⟩ : Cm)).r.val (.slice none 0 0)) (z0 := (rvM u.t i (⟨kind, at_, n, data, key, new, typ, force⟩ : Cm)).r.st) (z1 := (rvM u.t i (⟨kind, at_, n, data, key, new, typ, force⟩ : Cm)).r.key) (z2 := (rvM u.t i (⟨kind, at_, n, data, key, new, typ, force⟩ : Cm)).r.code) (z4 := (rvM u.t i (⟨kind, at_, n, data, key, new, typ, force⟩ : Cm)).r.info) rvM_l.2.2.2 rvM_l.2.1 hsm rfl ((h.fetch (Own 2 (.slice a63 (rvM u.t i (⟨kind, at_, n, data, key, new, typ, force⟩ : Cm)).l.length c63) (rvM u.t i (⟨kind, at_, n, data, key, new, typ, force⟩ : Cm)).l.length (notesV (rvM u.t i (⟨kind, at_, n, data, key, new, typ, force⟩ : Cm)).code (rvM u.t i (⟨kind, at_, n, data, key, new, typ, force⟩ : Cm)).l))).fetch (UnP 68 105 113 bu pool ms (u.setT (rvM u.t i (⟨kind, at_, n, data, key, new, typ, force⟩ : Cm)).t))))) rfl rfl ?_
   rintro _ w ⟨rfl, h⟩
   refine ⟨trivial, ?_⟩
   refine WT.eff 17 [] rfl (by kernel_rfl) (by kernel_rfl) (eff_storeW (vs := [.int .i64 _, .int .i64 _, .int .i64 _, .slice _ _ _, .int .i64 _]) h sizeOf36 rfl rfl rfl rfl rfl) rfl rfl ?_
   rintro _ w h
   refine ⟨trivial, ?_⟩
   refine WT.done (by kernel_rfl) (W.ret (bodyQ.rcB (vs := [.int .i64 _, .int .i64 _, .int .i64 _, .slice _ _ _, .int .i64 _]) h results31 isAgg36 sizeOf36 rfl rfl rfl ?_))
   have he := actM_rv (u := u) (i := i) (c := (⟨kind, at_, n, data, key, new, typ, force⟩ : Cm)) (by show 10 ≤ kind; omega) (by show kind ≤ 15; omega)
   have h := On.nilData (r := (rvM u.t i (⟨kind, at_, n, data, key, new, typ, force⟩ : Cm)).r) rvM_r h
   exact ⟨_, _, .slice none 0 0, he, rfl, h.to⟩
  refine W.skip (W.seq (W.seq (W.region (WL.val (run_eql rfl rfl) rfl rfl (WL.val run_assign rfl rfl (WL.nil ?_))))))
  refine W.condIf rfl (fun c52 => ?_) (fun c52 => ?_)
  ·
   refine W.exit (W.seq (W.seq ?_))
   have ob_ := openU (h.fetch (UnP 68 105 113 bu pool ms u))
   obtain ⟨bs, bt, gs, hm, hl, h⟩ := ob_
   refine W.draw Tryz.follows h (fun w h => ?_)
   refine WT.pure 0 rfl (by kernel_rfl) (fun w' => run_move) rfl rfl (WT.pure 1 rfl (by kernel_rfl) (fun w' => (run_nilCheck rfl)) rfl rfl (WT.pure 2 rfl (by kernel_rfl) (fun w' => (run_fieldAddr 1 underlying68 rfl sizeOf59 rfl rfl)) rfl rfl (WT.load1 3 rfl (by kernel_rfl) isAgg59 rfl (h.cellB rfl) rfl rfl (WT.pure 4 rfl (by kernel_rfl) (fun w' => run_move) rfl rfl (WT.pure 5 rfl (by kernel_rfl) (fun w' => (run_fieldAddr 4 underlying25 rfl sizeOf23 rfl rfl)) rfl rfl (WT.load1 6 rfl (by kernel_rfl) isAgg23 rfl (h.cellB rfl) rfl rfl (WT.pure 7 rfl (by kernel_rfl) (fun w' => (run_fieldAddr 6 underlying25 rfl sizeOf3 rfl rfl)) rfl rfl ?_)))))))
   refine WT.load1 8 rfl (by kernel_rfl) isAgg3 rfl (h.cellB rfl) rfl rfl (WT.eff 9 [false, false, false] rfl (by kernel_rfl) (by kernel_rfl) (eff_call call67 (ureserve_ok (key := key) (typ := typ) (i := i) (t := u.t) hi (h.fetch (blk bt u.t.cells 113)))) rfl rfl ?_)
   rintro v76 w ⟨hv76, h⟩
   have hX := rvM_rsv (t := u.t) (i := i) (c := (⟨kind, at_, n, data, key, new, typ, force⟩ : Cm)) (show kind = 12 by omega)
   rw [← hX] at hv76 h
   subst hv76
   have h := closeU (bu := bu) (u := u.setT (rvM u.t i (⟨kind, at_, n, data, key, new, typ, force⟩ : Cm)).t) hm hl ((((h.fetch (Big (GOwn pool) gs)).fetch (blk bt (rvM u.t i (⟨kind, at_, n, data, key, new, typ, force⟩ : Cm)).t.cells 113)).fetch (SpP 105 bs u.s)).fetch (blk bu (ucells bs bt gs) 68))
   refine ⟨trivial, ?_⟩
   refine WT.eff 10 [] rfl (by kernel_rfl) (by kernel_rfl) (eff_storeW (vs := [.int .i64 _, .int .i64 _, .int .i64 _, .slice _ _ _, .int .i64 _]) h sizeOf36 rfl rfl rfl rfl rfl) rfl rfl ?_
   rintro _ w h
   refine ⟨trivial, ?_⟩
   refine WT.done (by kernel_rfl) (W.ret (bodyQ.rcB (vs := [.int .i64 _, .int .i64 _, .int .i64 _, .slice _ _ _, .int .i64 _]) h results31 isAgg36 sizeOf36 rfl rfl rfl ?_))
   have he := actM_rv (u := u) (i := i) (c := (⟨kind, at_, n, data, key, new, typ, force⟩ : Cm)) (by show 10 ≤ kind; omega) (by show kind ≤ 15; omega)
   have hX0 : (rvM u.t i (⟨kind, at_, n, data, key, new, typ, force⟩ : Cm)).l = [] := by rw [hX]; exact rsvF_l
   have he : actM u i (⟨kind, at_, n, data, key, new, typ, force⟩ : Cm) = (u.setT (rvM u.t i (⟨kind, at_, n, data, key, new, typ, force⟩ : Cm)).t, (rvM u.t i (⟨kind, at_, n, data, key, new, typ, force⟩ : Cm)).r) := by rw [he, hX0]; rfl
   have h := On.nilData (r := (rvM u.t i (⟨kind, at_, n, data, key, new, typ, force⟩ : Cm)).r) rvM_r h
   exact ⟨_, _, .slice none 0 0, he, rfl, h.to⟩
  refine W.skip (W.seq (W.seq (W.region (WL.val (run_eql rfl rfl) rfl rfl (WL.val run_assign rfl rfl (WL.nil ?_))))))
  refine W.condIf rfl (fun c56 => ?_) (fun c56 => ?_)
  ·
   refine W.exit (W.seq (W.seq ?_))
   have ob_ := openU (h.fetch (UnP 68 105 113 bu pool ms u))
   obtain ⟨bs, bt, gs, hm, hl, h⟩ := ob_
   refine W.draw Tryz.follows h (fun w h => ?_)
   refine WT.pure 0 rfl (by kernel_rfl) (fun w' => run_move) rfl rfl (WT.pure 1 rfl (by kernel_rfl) (fun w' => run_move) rfl rfl (WT.pure 2 rfl (by kernel_rfl) (fun w' => (run_nilCheck rfl)) rfl rfl (WT.pure 3 rfl (by kernel_rfl) (fun w' => (run_fieldAddr 1 underlying68 rfl sizeOf59 rfl rfl)) rfl rfl (WT.load1 4 rfl (by kernel_rfl) isAgg59 rfl (h.cellB rfl) rfl rfl (WT.pure 5 rfl (by kernel_rfl) (fun w' => run_move) rfl rfl (WT.pure 6 rfl (by kernel_rfl) (fun w' => (run_fieldAddr 4 underlying25 rfl sizeOf23 rfl rfl)) rfl rfl (WT.load1 7 rfl (by kernel_rfl) isAgg23 rfl (h.cellB rfl) rfl rfl ?_)))))))
   refine WT.pure 8 rfl (by kernel_rfl) (fun w' => (run_fieldAddr 6 underlying25 rfl sizeOf3 rfl rfl)) rfl rfl (WT.load1 9 rfl (by kernel_rfl) isAgg3 rfl (h.cellB rfl) rfl rfl (WT.eff 10 [false, false, false] rfl (by kernel_rfl) (by kernel_rfl) (eff_call call68 (urelease_ok (key := key) (typ := typ) (i := i) (t := u.t) hi (h.fetch (blk bt u.t.cells 113)))) rfl rfl ?_))
   rintro v87 w ⟨a87, c87, hv87, h⟩
   have hX := rvM_rel (t := u.t) (i := i) (c := (⟨kind, at_, n, data, key, new, typ, force⟩ : Cm)) (show kind = 13 by omega)
   rw [← hX] at hv87 h
   subst hv87
   have h := closeU (bu := bu) (u := u.setT (rvM u.t i (⟨kind, at_, n, data, key, new, typ, force⟩ : Cm)).t) hm hl ((((h.fetch (Big (GOwn pool) gs)).fetch (blk bt (rvM u.t i (⟨kind, at_, n, data, key, new, typ, force⟩ : Cm)).t.cells 113)).fetch (SpP 105 bs u.s)).fetch (blk bu (ucells bs bt gs) 68))
   refine ⟨trivial, ?_⟩
   refine WT.pure 11 rfl (by kernel_rfl) (fun w' => (run_extract rfl rfl)) rfl rfl (WT.pure 12 rfl (by kernel_rfl) (fun w' => (run_extract rfl rfl)) rfl rfl ?_)
   refine WT.eff 13 [] rfl (by kernel_rfl) (by kernel_rfl) (eff_call call65 (unoticed_ok (bu := bu) (u := u.setT (rvM u.t i (⟨kind, at_, n, data, key, new, typ, force⟩ : Cm)).t) (l := (rvM u.t i (⟨kind, at_, n, data, key, new, typ, force⟩ : Cm)).l) (code := (rvM u.t i (⟨kind, at_, n, data, key, new, typ, force⟩ : Cm)).code) (a := a87) (c := c87) (rv := (rvM u.t i (⟨kind, at_, n, data, key, new, typ, force⟩ : Cm)).r.val (.slice none 0 0)) (z0 := (rvM u.t i (⟨kind, at_, n, data, key, new, typ, force⟩ : Cm)).r.st) (z1 := (rvM u.t i (⟨kind, at_, n, data, key, new, typ, force⟩ : Cm)).r.key) (z2 := (rvM u.t i (⟨kind, at_, n, data, key, new, typ, force⟩ : Cm)).r.code) (z4 := (rvM u.t i (⟨kind, at_, n, data, key, new, typ, force⟩ : Cm)).r.info) rvM_l.2.2.2 rvM_l.2.1 hsm rfl ((h.fetch (Own 2 (.slice a87 (rvM u.t i (⟨kind, at_, n, data, key, new, typ, force⟩ : Cm)).l.length c87) (rvM u.t i (⟨kind, at_, n, data, key, new, typ, force⟩ : Cm)).l.length (notesV (rvM u.t i (⟨kind, at_, n, data, key, new, typ, force⟩ : Cm)).code (rvM u.t i (⟨kind, at_, n, data, key, new, typ, force⟩ : Cm)).l))).fetch (UnP 68 105 113 bu pool ms (u.setT (rvM u.t i (⟨kind, at_, n, data, key, new, typ, force⟩ : Cm)).t))))) rfl rfl ?_
   rintro _ w ⟨rfl, h⟩
   refine ⟨trivial, ?_⟩
   refine WT.eff 14 [] rfl (by kernel_rfl) (by kernel_rfl) (eff_storeW (vs := [.int .i64 _, .int .i64 _, .int .i64 _, .slice _ _ _, .int .i64 _]) h sizeOf36 rfl rfl rfl rfl rfl) rfl rfl ?_
   rintro _ w h
   refine ⟨trivial, ?_⟩
   refine WT.done (by kernel_rfl) (W.ret (bodyQ.rcB (vs := [.int .i64 _, .int .i64 _, .int .i64 _, .slice _ _ _, .int .i64 _]) h results31 isAgg36 sizeOf36 rfl rfl rfl ?_))
   have he := actM_rv (u := u) (i := i) (c := (⟨kind, at_, n, data, key, new, typ, force⟩ : Cm)) (by show 10 ≤ kind; omega) (by show kind ≤ 15; omega)
   have h := On.nilData (r := (rvM u.t i (⟨kind, at_, n, data, key, new, typ, force⟩ : Cm)).r) rvM_r h
   exact ⟨_, _, .slice none 0 0, he, rfl, h.to⟩
  refine W.skip (W.seq (W.seq (W.region (WL.val (run_eql rfl rfl) rfl rfl (WL.val run_assign rfl rfl (WL.nil ?_))))))
  refine W.condIf rfl (fun c60 => ?_) (fun c60 => ?_)
  ·
   refine W.exit (W.seq (W.seq ?_))
   have ob_ := openU (h.fetch (UnP 68 105 113 bu pool ms u))
   obtain ⟨bs, bt, gs, hm, hl, h⟩ := ob_
   refine W.draw Tryz.follows h (fun w h => ?_)
   refine WT.pure 0 rfl (by kernel_rfl) (fun w' => run_move) rfl rfl (WT.pure 1 rfl (by kernel_rfl) (fun w' => run_move) rfl rfl (WT.pure 2 rfl (by kernel_rfl) (fun w' => (run_nilCheck rfl)) rfl rfl (WT.pure 3 rfl (by kernel_rfl) (fun w' => (run_fieldAddr 1 underlying68 rfl sizeOf59 rfl rfl)) rfl rfl (WT.load1 4 rfl (by kernel_rfl) isAgg59 rfl (h.cellB rfl) rfl rfl (WT.pure 5 rfl (by kernel_rfl) (fun w' => run_move) rfl rfl (WT.pure 6 rfl (by kernel_rfl) (fun w' => (run_fieldAddr 4 underlying25 rfl sizeOf23 rfl rfl)) rfl rfl (WT.load1 7 rfl (by kernel_rfl) isAgg23 rfl (h.cellB rfl) rfl rfl ?_)))))))
   refine WT.eff 8 [false, false] rfl (by kernel_rfl) (by kernel_rfl) (eff_call call69 (uclear_ok (key := key) (i := i) (t := u.t) hi (h.fetch (blk bt u.t.cells 113)))) rfl rfl ?_
   rintro v99 w ⟨a99, c99, hv99, h⟩
   have hX := rvM_clr (t := u.t) (i := i) (c := (⟨kind, at_, n, data, key, new, typ, force⟩ : Cm)) (show kind = 14 by omega)
   rw [← hX] at hv99 h
   subst hv99
   have h := closeU (bu := bu) (u := u.setT (rvM u.t i (⟨kind, at_, n, data, key, new, typ, force⟩ : Cm)).t) hm hl ((((h.fetch (Big (GOwn pool) gs)).fetch (blk bt (rvM u.t i (⟨kind, at_, n, data, key, new, typ, force⟩ : Cm)).t.cells 113)).fetch (SpP 105 bs u.s)).fetch (blk bu (ucells bs bt gs) 68))
   refine ⟨trivial, ?_⟩
   refine WT.pure 9 rfl (by kernel_rfl) (fun w' => (run_extract rfl rfl)) rfl rfl (WT.pure 10 rfl (by kernel_rfl) (fun w' => (run_extract rfl rfl)) rfl rfl ?_)
   refine WT.eff 11 [] rfl (by kernel_rfl) (by kernel_rfl) (eff_call call65 (unoticed_ok (bu := bu) (u := u.setT (rvM u.t i (⟨kind, at_, n, data, key, new, typ, force⟩ : Cm)).t) (l := (rvM u.t i (⟨kind, at_, n, data, key, new, typ, force⟩ : Cm)).l) (code := (rvM u.t i (⟨kind, at_, n, data, key, new, typ, force⟩ : Cm)).code) (a := a99) (c := c99) (rv := (rvM u.t i (⟨kind, at_, n, data, key, new, typ, force⟩ : Cm)).r.val (.slice none 0 0)) (z0 := (rvM u.t i (⟨kind, at_, n, data, key, new, typ, force⟩ : Cm)).r.st) (z1 := (rvM u.t i (⟨kind, at_, n, data, key, new, typ, force⟩ : Cm)).r.key) (z2 := (rvM u.t i (⟨kind, at_, n, data, key, new, typ, force⟩ : Cm)).r.code) (z4 := (rvM u.t i (⟨kind, at_, n, data, key, new, typ, force⟩ : Cm)).r.info) rvM_l.2.2.2 rvM_l.2.1 hsm rfl ((h.fetch (Own 2 (.slice a99 (rvM u.t i (⟨kind, at_, n, data, key, new, typ, force⟩ : Cm)).l.length c99) (rvM u.t i (⟨kind, at_, n, data, key, new, typ, force⟩ : Cm)).l.length (notesV (rvM u.t i (⟨kind, at_, n, data, key, new, typ, force⟩ : Cm)).code (rvM u.t i (⟨kind, at_, n, data, key, new, typ, force⟩ : Cm)).l))).fetch (UnP 68 105 113 bu pool ms (u.setT (rvM u.t i (⟨kind, at_, n, data, key, new, typ, force⟩ : Cm)).t))))) rfl rfl ?_
   rintro _ w ⟨rfl, h⟩
   refine ⟨trivial, ?_⟩
   refine WT.eff 12 [] rfl (by kernel_rfl) (by kernel_rfl) (eff_storeW (vs := [.int .i64 _, .int .i64 _, .int .i64 _, .slice _ _ _, .int .i64 _]) h sizeOf36 rfl rfl rfl rfl rfl) rfl rfl ?_
   rintro _ w h
   refine ⟨trivial, ?_⟩
   refine WT.done (by kernel_rfl) (W.ret (bodyQ.rcB (vs := [.int .i64 _, .int .i64 _, .int .i64 _, .slice _ _ _, .int .i64 _]) h results31 isAgg36 sizeOf36 rfl rfl rfl ?_))
   have he := actM_rv (u := u) (i := i) (c := (⟨kind, at_, n, data, key, new, typ, force⟩ : Cm)) (by show 10 ≤ kind; omega) (by show kind ≤ 15; omega)
   have h := On.nilData (r := (rvM u.t i (⟨kind, at_, n, data, key, new, typ, force⟩ : Cm)).r) rvM_r h
   exact ⟨_, _, .slice none 0 0, he, rfl, h.to⟩
  refine W.skip (W.seq (W.seq (W.region (WL.val (run_eql rfl rfl) rfl rfl (WL.val run_assign rfl rfl (WL.nil ?_))))))
  refine W.condIf rfl (fun c64 => ?_) (fun c64 => ?_)
  ·
   refine W.exit (W.seq (W.seq ?_))
   have ob_ := openU (h.fetch (UnP 68 105 113 bu pool ms u))
   obtain ⟨bs, bt, gs, hm, hl, h⟩ := ob_
   refine W.draw Tryz.follows h (fun w h => ?_)
   refine WT.pure 0 rfl (by kernel_rfl) (fun w' => run_move) rfl rfl (WT.pure 1 rfl (by kernel_rfl) (fun w' => run_move) rfl rfl (WT.pure 2 rfl (by kernel_rfl) (fun w' => (run_nilCheck rfl)) rfl rfl (WT.pure 3 rfl (by kernel_rfl) (fun w' => (run_fieldAddr 1 underlying68 rfl sizeOf59 rfl rfl)) rfl rfl (WT.load1 4 rfl (by kernel_rfl) isAgg59 rfl (h.cellB rfl) rfl rfl (WT.pure 5 rfl (by kernel_rfl) (fun w' => run_move) rfl rfl (WT.pure 6 rfl (by kernel_rfl) (fun w' => (run_fieldAddr 4 underlying25 rfl sizeOf23 rfl rfl)) rfl rfl (WT.load1 7 rfl (by kernel_rfl) isAgg23 rfl (h.cellB rfl) rfl rfl ?_)))))))
   refine WT.pure 8 rfl (by kernel_rfl) (fun w' => (run_fieldAddr 5 underlying25 rfl sizeOf23 rfl rfl)) rfl rfl (WT.load1 9 rfl (by kernel_rfl) isAgg23 rfl (h.cellB rfl) rfl rfl (WT.pure 10 rfl (by kernel_rfl) (fun w' => (run_fieldAddr 6 underlying25 rfl sizeOf3 rfl rfl)) rfl rfl (WT.load1 11 rfl (by kernel_rfl) isAgg3 rfl (h.cellB rfl) rfl rfl (WT.eff 12 [false, false, false, false] rfl (by kernel_rfl) (by kernel_rfl) (eff_call call70 (upreempt_ok (key := key) (other := new) (typ := typ) (ii := i) (t := u.t) hi (goodT_hold hgu_.1) (h.fetch (blk bt u.t.cells 113)))) rfl rfl ?_))))
   rintro v115 w ⟨a115, c115, hv115, h⟩
   have hX := rvM_pre (t := u.t) (i := i) (c := (⟨kind, at_, n, data, key, new, typ, force⟩ : Cm)) (show kind = 15 by omega)
   rw [← hX] at hv115 h
   subst hv115
   have h := closeU (bu := bu) (u := u.setT (rvM u.t i (⟨kind, at_, n, data, key, new, typ, force⟩ : Cm)).t) hm hl ((((h.fetch (Big (GOwn pool) gs)).fetch (blk bt (rvM u.t i (⟨kind, at_, n, data, key, new, typ, force⟩ : Cm)).t.cells 113)).fetch (SpP 105 bs u.s)).fetch (blk bu (ucells bs bt gs) 68))
   refine ⟨trivial, ?_⟩
   refine WT.pure 13 rfl (by kernel_rfl) (fun w' => (run_extract rfl rfl)) rfl rfl (WT.pure 14 rfl (by kernel_rfl) (fun w' => (run_extract rfl rfl)) rfl rfl ?_)
   refine WT.eff 15 [] rfl (by kernel_rfl) (by kernel_rfl) (eff_call call65 (unoticed_ok (bu := bu) (u := u.setT (rvM u.t i (⟨kind, at_, n, data, key, new, typ, force⟩ : Cm)).t) (l := (rvM u.t i (⟨kind, at_, n, data, key, new, typ, force⟩ : Cm)).l) (code := (rvM u.t i (⟨kind, at_, n, data, key, new, typ, force⟩ : Cm)).code) (a := a115) (c := c115) (rv := (rvM u.t i (⟨kind, at_, n, data, key, new, typ, force⟩ : Cm)).r.val (.slice none 0 0)) (z0 := (rvM u.t i (⟨kind, at_, n, data, key, new, typ, force⟩ : Cm)).r.st) (z1 := (rvM u.t i (⟨kind, at_, n, data, key, new, typ, force⟩ : Cm)).r.key) (z2 := (rvM u.t i (⟨kind, at_, n, data, key, new, typ, force⟩ : Cm)).r.code) (z4 := (rvM u.t i (⟨kind, at_, n, data, key, new, typ, force⟩ : Cm)).r.info) rvM_l.2.2.2 rvM_l.2.1 hsm rfl ((h.fetch (Own 2 (.slice a115 (rvM u.t i (⟨kind, at_, n, data, key, new, typ, force⟩ : Cm)).l.length c115) (rvM u.t i (⟨kind, at_, n, data, key, new, typ, force⟩ : Cm)).l.length (notesV (rvM u.t i (⟨kind, at_, n, data, key, new, typ, force⟩ : Cm)).code (rvM u.t i (⟨kind, at_, n, data, key, new, typ, force⟩ : Cm)).l))).fetch (UnP 68 105 113 bu pool ms (u.setT (rvM u.t i (⟨kind, at_, n, data, key, new, typ, force⟩ : Cm)).t))))) rfl rfl ?_
   rintro _ w ⟨rfl, h⟩
   refine ⟨trivial, ?_⟩
   refine WT.eff 16 [] rfl (by kernel_rfl) (by kernel_rfl) (eff_storeW (vs := [.int .i64 _, .int .i64 _, .int .i64 _, .slice _ _ _, .int .i64 _]) h sizeOf36 rfl rfl rfl rfl rfl) rfl rfl ?_
   rintro _ w h
   refine ⟨trivial, ?_⟩
   refine WT.done (by kernel_rfl) (W.ret (bodyQ.rcB (vs := [.int .i64 _, .int .i64 _, .int .i64 _, .slice _ _ _, .int .i64 _]) h results31 isAgg36 sizeOf36 rfl rfl rfl ?_))
   have he := actM_rv (u := u) (i := i) (c := (⟨kind, at_, n, data, key, new, typ, force⟩ : Cm)) (by show 10 ≤ kind; omega) (by show kind ≤ 15; omega)
   have h := On.nilData (r := (rvM u.t i (⟨kind, at_, n, data, key, new, typ, force⟩ : Cm)).r) rvM_r h
   exact ⟨_, _, .slice none 0 0, he, rfl, h.to⟩
  refine W.skip (W.seq (W.seq (W.region (WL.val (run_eql rfl rfl) rfl rfl (WL.val run_assign rfl rfl (WL.nil ?_))))))
  refine W.condIf rfl (fun c68 => ?_) (fun c68 => ?_)
  ·
   refine W.exit (W.seq (W.seq ?_))
   have ob_ := openU (h.fetch (UnP 68 105 113 bu pool ms u))
   obtain ⟨bs, bt, gs, hm, hl, h⟩ := ob_
   refine W.draw Tryz.follows h (fun w h => ?_)
   refine WT.pure 0 rfl (by kernel_rfl) (fun w' => run_move) rfl rfl (WT.pure 1 rfl (by kernel_rfl) (fun w' => (run_nilCheck rfl)) rfl rfl (WT.pure 2 rfl (by kernel_rfl) (fun w' => (run_fieldAddr 1 underlying68 rfl sizeOf59 rfl rfl)) rfl rfl (WT.load1 3 rfl (by kernel_rfl) isAgg59 rfl (h.cellB rfl) rfl rfl (WT.pure 5 rfl (by kernel_rfl) (fun w' => run_move) rfl rfl (WT.pure 6 rfl (by kernel_rfl) (fun w' => (run_nilCheck rfl)) rfl rfl (WT.pure 7 rfl (by kernel_rfl) (fun w' => (run_fieldAddr 1 underlying68 rfl sizeOf59 rfl rfl)) rfl rfl (WT.load1 8 rfl (by kernel_rfl) isAgg59 rfl (h.cellB rfl) rfl rfl ?_)))))))
   refine WT.eff 4 [true, false] rfl (by kernel_rfl) (by kernel_rfl) (eff_call call72 (generation_ok (t := u.t) (h.fetch (blk bt u.t.cells 113)))) rfl rfl ?_
   rintro v123 w ⟨hv123, h⟩
   rw [egen] at hv123
   subst hv123
   refine ⟨⟨h.cellB rfl, trivial⟩, ?_⟩
   refine WT.eff 9 [false] rfl (by kernel_rfl) (by kernel_rfl) (eff_call call73 (ukeys_ok (t := u.t) (b := bt) (h.fetch (blk bt u.t.cells 113)))) rfl rfl ?_
   rintro _ w ⟨a128, rfl, h⟩
   refine ⟨trivial, ?_⟩
   refine WT.eff 10 [] rfl (by kernel_rfl) (by kernel_rfl) (eff_call call71 (pkeys_ok (g := u.t.gen.toNat) (ks := keysN u.t.K 8) (ak := a128) (ck := (keysN u.t.K 8).length) (by have := hgok.2; omega) (fun x hx => by have hm := keysN_mem hx; obtain ⟨q, hq, e⟩ := hm; rw [e]; exact hgok.1 q hq) (keysN_len ..) h (Gives.ownO (v := .slice a128 (keysN u.t.K 8).length (keysN u.t.K 8).length)))) rfl rfl ?_
   rintro v129 w ⟨a129, hv129, h⟩
   rw [keysP_all] at hv129 h
   subst hv129
   refine ⟨trivial, ?_⟩
   refine WT.eff 11 [] rfl (by kernel_rfl) (by kernel_rfl) (eff_call call28 (sgood_ok (bs := keysB u.t) h (Gives.ownO (v := .slice a129 (keysB u.t).length (keysB u.t).length)) (by have := keysN_len u.t.K 8; rw [keysB_len]; omega))) rfl rfl ?_
   rintro _ w ⟨a130, rfl, h⟩
   have h := closeU (bu := bu) (u := u) hm hl ((((h.fetch (Big (GOwn pool) gs)).fetch (blk bt u.t.cells 113)).fetch (SpP 105 bs u.s)).fetch (blk bu (ucells bs bt gs) 68))
   refine ⟨trivial, ?_⟩
   refine WT.eff 12 [] rfl (by kernel_rfl) (by kernel_rfl) (eff_storeW (vs := [.int .i64 _, .int .i64 _, .int .i64 _, .slice _ _ _, .int .i64 _]) h sizeOf36 rfl rfl rfl rfl rfl) rfl rfl ?_
   rintro _ w h
   refine ⟨trivial, ?_⟩
   refine WT.done (by kernel_rfl) (W.ret (bodyQ.rcB (vs := [.int .i64 _, .int .i64 _, .int .i64 _, .slice _ _ _, .int .i64 _]) h results31 isAgg36 sizeOf36 rfl rfl rfl ?_))
   have h : On W0 (OwnB (.slice a130 ((keysB u.t)).length ((keysB u.t)).length) (gave ((keysB u.t))).data :: _) w := h.fetch (OwnB (.slice a130 ((keysB u.t)).length ((keysB u.t)).length) ((keysB u.t)))
   exact ⟨u, gave ((keysB u.t)), .slice a130 ((keysB u.t)).length ((keysB u.t)).length, (actM_keys (show kind = 16 by omega)), rfl, h.to⟩
  refine W.skip (W.seq (W.region (WL.val (run_eql rfl rfl) rfl rfl (WL.val run_assign rfl rfl (WL.nil ?_)))))
  refine W.condIf rfl (fun c72 => ?_) (fun c72 => ?_)
  ·
   refine W.exit (W.seq (W.seq ?_))
   have ob_ := openU (h.fetch (UnP 68 105 113 bu pool ms u))
   obtain ⟨bs, bt, gs, hm, hl, h⟩ := ob_
   refine W.region (WL.val run_move rfl rfl (WL.val (run_nilCheck rfl) rfl rfl (WL.val (run_fieldAddr 1 underlying68 rfl sizeOf59 rfl rfl) rfl rfl (WL.val (run_load1 isAgg59 rfl (h.cellB rfl)) rfl rfl (WL.eff (eff_call call74 (holder_ok (t := u.t) (b := bt) (h.fetch (blk bt u.t.cells 113)))) rfl rfl ?_)))))
   rintro v136 w ⟨hv136, h⟩
   have htyp := goodT_typ hgt
   have etyp : u.t.typ = ((u.t.typ.toNat : Nat) : Int) := by omega
   rw [etyp] at hv136
   subst hv136
   refine WL.val run_move rfl rfl (WL.val (run_extract rfl rfl) rfl rfl (WL.val (run_extract rfl rfl) rfl rfl (WL.val run_assign rfl rfl (WL.val run_assign rfl rfl (WL.nil (W.seq ?_))))))
   refine W.draw Tryz.follows h (fun w h => ?_)
   refine WT.pure 0 rfl (by kernel_rfl) (fun w' => run_move) rfl rfl (WT.pure 1 rfl (by kernel_rfl) (fun w' => (run_nilCheck rfl)) rfl rfl (WT.pure 2 rfl (by kernel_rfl) (fun w' => (run_fieldAddr 1 underlying68 rfl sizeOf59 rfl rfl)) rfl rfl (WT.load1 3 rfl (by kernel_rfl) isAgg59 rfl (h.cellB rfl) rfl rfl (WT.pure 5 rfl (by kernel_rfl) (fun w' => run_move) rfl rfl (WT.pure 6 rfl (by kernel_rfl) (fun w' => (run_nilCheck rfl)) rfl rfl (WT.pure 7 rfl (by kernel_rfl) (fun w' => (run_fieldAddr 1 underlying68 rfl sizeOf59 rfl rfl)) rfl rfl (WT.load1 8 rfl (by kernel_rfl) isAgg59 rfl (h.cellB rfl) rfl rfl ?_)))))))
   refine WT.pure 9 rfl (by kernel_rfl) (fun w' => run_move) rfl rfl (WT.pure 11 rfl (by kernel_rfl) (fun w' => run_move) rfl rfl (WT.eff 4 [true, false] rfl (by kernel_rfl) (by kernel_rfl) (eff_call call72 (generation_ok (t := u.t) (h.fetch (blk bt u.t.cells 113)))) rfl rfl ?_))
   rintro v143 w ⟨hv143, h⟩
   rw [egen] at hv143
   subst hv143
   refine ⟨⟨h.cellB rfl, trivial⟩, ?_⟩
   refine WT.eff 10 [false] rfl (by kernel_rfl) (by kernel_rfl) (eff_call call76 (ukey_ok (t := u.t) (b := bt) (hh := u.t.hold) (h.fetch (blk bt u.t.cells 113)))) rfl rfl ?_
   rintro v149 w ⟨hv149, h⟩
   have hv149 : v149 = .int .u64 (holdK u.t) := hv149
   have hkk : 0 ≤ holdK u.t ∧ holdK u.t < 18446744073709551616 := by
     unfold holdK
     split
     · rename_i hb
       have hb := hostB_iff.1 hb
       exact hgok.1 _ (by omega)
     · exact ⟨Int.le_refl 0, by decide⟩
   have ekk : holdK u.t = (((holdK u.t).toNat : Nat) : Int) := by omega
   rw [ekk] at hv149
   subst hv149
   refine ⟨trivial, ?_⟩
   refine WT.eff 12 [] rfl (by kernel_rfl) (by kernel_rfl) (eff_call call75 (pholder_ok (g := u.t.gen.toNat) (key := (holdK u.t).toNat) (y := u.t.typ.toNat) (by have := hgok.2; omega) (by omega) (by omega) h)) rfl rfl ?_
   rintro v151 w ⟨a151, hv151, h⟩
   rw [← holdB_P htyp.1] at hv151 h
   subst hv151
   refine ⟨trivial, ?_⟩
   refine WT.eff 13 [] rfl (by kernel_rfl) (by kernel_rfl) (eff_call call28 (sgood_ok (bs := holdB u.t) h (Gives.ownO (v := .slice a151 (holdB u.t).length (holdB u.t).length)) (by have := holdB_len u.t; omega))) rfl rfl ?_
   rintro _ w ⟨a152, rfl, h⟩
   have h := closeU (bu := bu) (u := u) hm hl ((((h.fetch (Big (GOwn pool) gs)).fetch (blk bt u.t.cells 113)).fetch (SpP 105 bs u.s)).fetch (blk bu (ucells bs bt gs) 68))
   refine ⟨trivial, ?_⟩
   refine WT.eff 14 [] rfl (by kernel_rfl) (by kernel_rfl) (eff_storeW (vs := [.int .i64 _, .int .i64 _, .int .i64 _, .slice _ _ _, .int .i64 _]) h sizeOf36 rfl rfl rfl rfl rfl) rfl rfl ?_
   rintro _ w h
   refine ⟨trivial, ?_⟩
   refine WT.done (by kernel_rfl) (W.ret (bodyQ.rcB (vs := [.int .i64 _, .int .i64 _, .int .i64 _, .slice _ _ _, .int .i64 _]) h results31 isAgg36 sizeOf36 rfl rfl rfl ?_))
   have h : On W0 (OwnB (.slice a152 ((holdB u.t)).length ((holdB u.t)).length) (gave ((holdB u.t))).data :: _) w := h.fetch (OwnB (.slice a152 ((holdB u.t)).length ((holdB u.t)).length) ((holdB u.t)))
   exact ⟨u, gave ((holdB u.t)), .slice a152 ((holdB u.t)).length ((holdB u.t)).length, (actM_hold (show kind = 17 by omega)), rfl, h.to⟩
  refine W.skip (W.exit (W.seq (W.seq (W.region (WL.val run_move rfl rfl (WL.nil (W.block ?_)))))))
  refine W.loop (fun (k : Nat) env w => k ≤ 8 ∧ ∃ j, env = mkE j [(0, .pointer (some ⟨bu, 0, none⟩)), (153, .int .i64 (k : Int)), (6, .pointer (some ⟨b6, 0, none⟩))] ∧ On W0 (UnP 68 105 113 bu pool ms (resetN u k) :: blk b6 [.int .i64 0, .int .i64 0, .int .i64 0, .slice none 0 0, .int .i64 0] 36 :: L) w) (fun k => 8 - k) (0) ?_ ?_
  · have h : On W0 (UnP 68 105 113 bu pool ms (resetN u 0) :: _) w := h.fetch (UnP 68 105 113 bu pool ms u)
    exact ⟨Nat.zero_le _, _, mkE_of ⟨rfl, rfl, rfl, trivial⟩, h.to⟩
  rintro k env w ⟨hk8, j, rfl, h⟩
  refine W.seq (W.region (WL.val (run_lss rfl rfl) rfl rfl (WL.nil (W.seq ?_))))
  refine W.condIf rfl (fun c114 => ?_) (fun c114 => ?_)
  ·
   refine W.skip (W.seq ?_)
   have hk7 : k < 8 := by omega
   have hsk : ((resetN u k).guest k).codes.length ≤ 1000000 := by rw [resetN_guest k (Nat.le_refl _)]; exact hsm1 k hk7
   refine W.block (W.seq (W.region (WL.val run_move rfl rfl (WL.val run_assign rfl rfl (WL.nil (W.region (WL.val run_move rfl rfl ?_)))))))
   refine WL.val run_move rfl rfl (WL.eff (eff_call call77 (tell_ok (i := k) hk7 hsk h)) rfl rfl ?_)
   rintro _ w h
   have h : On W0 (UnP 68 105 113 bu pool ms (resetN u (k + 1)) :: _) w := h
   refine WL.nil (W.region (WL.val (run_incN rfl rfl (by omega)) rfl rfl (WL.val run_move rfl rfl (WL.nil ?_))))
   exact ⟨k + 1, ⟨by omega, _, mkE_of ⟨rfl, rfl, rfl, trivial⟩, h⟩, by show 8 - (k + 1) < 8 - k; omega⟩
  refine W.exit (W.seq (W.region (WL.val (run_buildS (pl := [(0, 1), (1, 1), (2, 1), (3, 1), (4, 1)]) (out := [.int .i64 _, .int .i64 _, .int .i64 _, .slice _ _ _, .int .i64 _]) underlying36 zeroValue36 (fun w => by kernel_rfl) rfl (trivial) rfl) rfl rfl (WL.eff (eff_storeW (vs := [.int .i64 _, .int .i64 _, .int .i64 _, .slice _ _ _, .int .i64 _]) h sizeOf36 rfl rfl rfl rfl rfl) rfl rfl ?_))))
  rintro _ w h
  refine WL.nil (W.ret (bodyQ.rcB (vs := [.int .i64 _, .int .i64 _, .int .i64 _, .slice _ _ _, .int .i64 _]) h results31 isAgg36 sizeOf36 rfl rfl rfl ?_))
  have ob_ : k = 8 := by omega
  obtain rfl := ob_
  have h : On W0 (OwnB (.slice none 0 0) (plain 0 0 0 : Rp).data :: _) w := h.ownEmpty 1 none
  exact ⟨(resetN u 8), plain 0 0 0, .slice none 0 0, (actM_reset (by show kind = 18; omega)), rfl, h.to⟩
theorem udo_ok {bu : Nat} {hh : Int} {u : Un} {pool : PoolL} {ms : List Nat} {kind at_ n key new typ : Int} {force : Bool} {data : List UInt8} {ax : Option Addr} {cx : Nat} (hsm : small 999000 u) (hgu_ : goodU u) (hcm : okCm (⟨kind, at_, n, data, key, new, typ, force⟩ : Cm)) (h : On W0 (UnP 68 105 113 bu pool ms u :: L) w) (C : Gives L (Bytes (.slice ax data.length cx) data)) (hd : data.length ≤ 1000000) : Calls Tryz.prog 8 #[.pointer (some ⟨bu, 0, none⟩), .int .i64 hh, (⟨kind, at_, n, data, key, new, typ, force⟩ : Cm).val (.slice ax data.length cx)] w (Ret fun v w' => ∃ u' r dv, doM u hh (⟨kind, at_, n, data, key, new, typ, force⟩ : Cm) = (u', r) ∧ v = r.val dv ∧ On W0 (OwnB dv r.data :: UnP 68 105 113 bu pool ms u' :: L) w') := by
  refine enter func8 rfl ntmps8 rfl (W.seq (W.region (WL.eff (eff_box (v := .agg _) (l := (⟨kind, at_, n, data, key, new, typ, force⟩ : Cm).cells (.slice ax data.length cx)) h rfl rfl) rfl rfl ?_)))
  rintro _ w ⟨b5, rfl, h⟩
  have h : On W0 (blk b5 [.int .i64 kind, .int .i64 at_, .int .i64 n, .slice ax data.length cx, .int .u64 key, .int .u64 new, .int .i64 typ, .bool force] 25 :: _) w := h
  refine WL.eff (eff_alloc h zeroValue36 rfl) rfl rfl ?_
  rintro _ w ⟨b6, rfl, h⟩
  refine WL.nil (W.seq (W.seq (W.region (WL.val run_move rfl rfl (WL.eff (eff_call call25 (uhost_ok h)) rfl rfl ?_)))))
  rintro _ w ⟨hv, h⟩
  have hcs := Bool.eq_false_or_eq_true (hostB hh)
  rcases hcs with hb | hb <;> (rw [hb] at hv; subst hv)
  ·
   refine WL.val (run_not rfl) rfl rfl (WL.val run_move rfl rfl (WL.val (run_fieldAddr 0 underlying25 rfl sizeOf3 rfl rfl) rfl rfl (WL.val (run_load1 isAgg3 rfl (h.cellB rfl)) rfl rfl ?_)))
   refine WL.dec (run_lss rfl rfl) rfl rfl (fun c17 => ?_) (fun c17 => ?_)
   ·
    refine WL.val (run_pickF rfl) rfl rfl (WL.val run_move rfl rfl (WL.skip rfl rfl (WL.skip rfl rfl (WL.skip rfl rfl (WL.val (run_pickT rfl) rfl rfl (WL.nil (W.condT rfl ?_)))))))
    refine W.seq (W.region (WL.eff (eff_call call26 (wrong_ok h)) rfl rfl ?_))
    rintro _ w ⟨rfl, h⟩
    refine WL.eff (eff_storeW (vs := [.int .i64 _, .int .i64 _, .int .i64 _, .slice _ _ _, .int .i64 _]) h sizeOf36 rfl rfl rfl rfl rfl) rfl rfl ?_
    rintro _ w h
    refine WL.nil (W.ret (bodyQ.rcB (vs := [.int .i64 _, .int .i64 _, .int .i64 _, .slice _ _ _, .int .i64 _]) h results8 isAgg36 sizeOf36 rfl rfl rfl ?_))
    have h : On W0 (OwnB (.slice none 0 0) (plain 2 5 8192 : Rp).data :: _) w := h.ownEmpty 1 none
    exact ⟨u, plain 2 5 8192, .slice none 0 0, (doM_bad (.inr (.inl c17))), rfl, h.to⟩
   refine WL.val (run_pickF rfl) rfl rfl (WL.val run_move rfl rfl (WL.val (run_fieldAddr 0 underlying25 rfl sizeOf3 rfl rfl) rfl rfl (WL.val (run_load1 isAgg3 rfl (h.cellB rfl)) rfl rfl (WL.val (run_gtr rfl rfl) rfl rfl (WL.val (run_pickF rfl) rfl rfl (WL.nil ?_))))))
   refine W.condIf rfl (fun c2 => ?_) (fun c2 => ?_)
   ·
    refine W.seq (W.region (WL.eff (eff_call call26 (wrong_ok h)) rfl rfl ?_))
    rintro _ w ⟨rfl, h⟩
    refine WL.eff (eff_storeW (vs := [.int .i64 _, .int .i64 _, .int .i64 _, .slice _ _ _, .int .i64 _]) h sizeOf36 rfl rfl rfl rfl rfl) rfl rfl ?_
    rintro _ w h
    refine WL.nil (W.ret (bodyQ.rcB (vs := [.int .i64 _, .int .i64 _, .int .i64 _, .slice _ _ _, .int .i64 _]) h results8 isAgg36 sizeOf36 rfl rfl rfl ?_))
    have h : On W0 (OwnB (.slice none 0 0) (plain 2 5 8192 : Rp).data :: _) w := h.ownEmpty 1 none
    exact ⟨u, plain 2 5 8192, .slice none 0 0, (doM_bad (.inr (.inr (by show 18 < kind; omega)))), rfl, h.to⟩
   refine W.skip (W.seq (W.seq ?_))
   have hb2 := hostB_iff.1 hb
   have ob_ := Int.eq_ofNat_of_zero_le hb2.1
   obtain ⟨i, hhi⟩ := ob_
   subst hhi
   have hi : i < 8 := by omega
   refine W.region (WL.val (run_fieldAddr 0 underlying25 rfl sizeOf3 rfl rfl) rfl rfl (WL.val (run_load1 isAgg3 rfl (h.cellB rfl)) rfl rfl (WL.nil (W.block (W.seq (W.region (WL.val (run_eql rfl rfl) rfl rfl ?_)))))))
   refine WL.val run_assign rfl rfl (WL.nil ?_)
   refine W.condIf rfl (fun c9 => ?_) (fun c9 => ?_)
   ·
    refine W.seq (W.region (WL.val run_move rfl rfl (WL.val run_move rfl rfl (WL.eff (eff_call call27 (told_ok hi (small_le hsm (by decide) i hi) (h.fetch (UnP 68 105 113 bu pool ms u)))) rfl rfl ?_))))
    rintro _ w hv
    rcases hv with ⟨x, l, hxl, rfl, h⟩ | ⟨hnil, rfl, h⟩
    ·
     have hx0 := hgu_.2 i hi x (by rw [hxl]; exact List.mem_cons_self ..)
     have ob_ := Int.eq_ofNat_of_zero_le hx0.1
     obtain ⟨x, hx1⟩ := ob_
     subst hx1
     refine WL.val run_move rfl rfl (WL.val (run_extract rfl rfl) rfl rfl (WL.val (run_extract rfl rfl) rfl rfl (WL.eff (eff_alloc h zeroValue36 rfl) rfl rfl ?_)))
     rintro _ w ⟨b7, rfl, h⟩
     refine WL.eff (eff_storeW (vs := [.int .i64 _, .int .i64 _, .int .i64 _, .slice _ _ _, .int .i64 _]) h sizeOf36 rfl rfl rfl rfl rfl) rfl rfl ?_
     rintro _ w h
     refine WL.val run_assign rfl rfl (WL.nil (W.seq (W.region (WL.val (run_loadB (vs := [.int .i64 _, .int .i64 _, .int .i64 _, .slice _ _ _, .int .i64 _]) h isAgg36 sizeOf36 rfl rfl rfl) rfl rfl (WL.eff (eff_call call29 (senc_ok (s := 2) (k := 6) (c := x) (by decide) (by omega) h)) rfl rfl ?_)))))
     rintro _ w ⟨a44, rfl, h⟩
     refine WL.eff (eff_call call28 (sgood_ok (bs := senseB 6 x) h (Gives.ownO (v := .slice a44 (senseB 6 x).length (senseB 6 x).length)) (by rw [senseB_len]; decide))) rfl rfl ?_
     rintro _ w ⟨a45, rfl, h⟩
     refine WL.eff (eff_storeW (vs := [.int .i64 _, .int .i64 _, .int .i64 _, .slice _ _ _, .int .i64 _]) h sizeOf36 rfl rfl rfl rfl rfl) rfl rfl ?_
     rintro _ w h
     refine WL.nil (W.ret (bodyQ.rcB (vs := [.int .i64 _, .int .i64 _, .int .i64 _, .slice _ _ _, .int .i64 _]) h results8 isAgg36 sizeOf36 rfl rfl rfl ?_))
     have h : On W0 (OwnB (.slice a45 ((senseB 6 x)).length ((senseB 6 x)).length) (gave ((senseB 6 x))).data :: _) w := h.fetch (OwnB (.slice a45 ((senseB 6 x)).length ((senseB 6 x)).length) ((senseB 6 x)))
     exact ⟨(u.putG i (u.guest i).pop), gave ((senseB 6 x)), .slice a45 ((senseB 6 x)).length ((senseB 6 x)).length, (by rw [doM_sense1 hi c9 hxl]; rfl), rfl, h.to⟩
    refine WL.val run_move rfl rfl (WL.val (run_extract rfl rfl) rfl rfl (WL.val (run_extract rfl rfl) rfl rfl (WL.eff (eff_alloc h zeroValue36 rfl) rfl rfl ?_)))
    rintro _ w ⟨b7, rfl, h⟩
    refine WL.eff (eff_storeW (vs := [.int .i64 _, .int .i64 _, .int .i64 _, .slice _ _ _, .int .i64 _]) h sizeOf36 rfl rfl rfl rfl rfl) rfl rfl ?_
    rintro _ w h
    refine WL.val run_assign rfl rfl (WL.nil (W.seq (W.region (WL.val (run_loadB (vs := [.int .i64 _, .int .i64 _, .int .i64 _, .slice _ _ _, .int .i64 _]) h isAgg36 sizeOf36 rfl rfl rfl) rfl rfl (WL.eff (eff_call call29 (senc_ok (s := 0) (k := 0) (c := 0) (by decide) (by decide) h)) rfl rfl ?_)))))
    rintro _ w ⟨a44, rfl, h⟩
    refine WL.eff (eff_call call28 (sgood_ok (bs := senseB 0 0) h (Gives.ownO (v := .slice a44 (senseB 0 0).length (senseB 0 0).length)) (by rw [senseB_len]; decide))) rfl rfl ?_
    rintro _ w ⟨a45, rfl, h⟩
    refine WL.eff (eff_storeW (vs := [.int .i64 _, .int .i64 _, .int .i64 _, .slice _ _ _, .int .i64 _]) h sizeOf36 rfl rfl rfl rfl rfl) rfl rfl ?_
    rintro _ w h
    refine WL.nil (W.ret (bodyQ.rcB (vs := [.int .i64 _, .int .i64 _, .int .i64 _, .slice _ _ _, .int .i64 _]) h results8 isAgg36 sizeOf36 rfl rfl rfl ?_))
    have h : On W0 (OwnB (.slice a45 ((senseB 0 0)).length ((senseB 0 0)).length) (gave ((senseB 0 0))).data :: _) w := h.fetch (OwnB (.slice a45 ((senseB 0 0)).length ((senseB 0 0)).length) ((senseB 0 0)))
    exact ⟨u, gave ((senseB 0 0)), .slice a45 ((senseB 0 0)).length ((senseB 0 0)).length, (doM_sense0 hi c9 hnil), rfl, h.to⟩
   refine W.seq (W.region (WL.val (run_eql rfl rfl) rfl rfl (WL.val run_assign rfl rfl (WL.nil ?_))))
   refine W.condIf rfl (fun c14 => ?_) (fun c14 => ?_)
   ·
    refine W.skip (W.seq (W.seq ?_))
    have ob_ := openU (h.fetch (UnP 68 105 113 bu pool ms u))
    obtain ⟨bs, bt, gs, hm, hl, h⟩ := ob_
    refine W.draw Tryz.follows h (fun w h => ?_)
    refine WT.pure 0 rfl (by kernel_rfl) (fun w' => run_move) rfl rfl (WT.pure 1 rfl (by kernel_rfl) (fun w' => (run_nilCheck rfl)) rfl rfl (WT.pure 2 rfl (by kernel_rfl) (fun w' => (run_fieldAddr 1 underlying68 rfl sizeOf59 rfl rfl)) rfl rfl (WT.load1 3 rfl (by kernel_rfl) isAgg59 rfl (h.cellB rfl) rfl rfl (WT.pure 4 rfl (by kernel_rfl) (fun w' => run_move) rfl rfl (WT.pure 5 rfl (by kernel_rfl) (fun w' => (run_fieldAddr 0 underlying25 rfl sizeOf3 rfl rfl)) rfl rfl (WT.load1 6 rfl (by kernel_rfl) isAgg3 rfl (h.cellB rfl) rfl rfl (WT.eff 7 [false, false] rfl (by kernel_rfl) (by kernel_rfl) (eff_call call30 (allows_ok (b := bt) (t := u.t) (h.fetch (blk bt u.t.cells 113)))) rfl rfl ?_)))))))
    rintro _ w ⟨⟨r, rfl, hr⟩, h⟩
    have hcs := Bool.eq_false_or_eq_true r
    rcases hcs with hr2 | hr2 <;> (subst hr2)
    all_goals (refine ⟨trivial, ?_⟩)
    ·
     refine WT.pure 8 rfl (by kernel_rfl) (fun w' => (run_not rfl)) rfl rfl (WT.done (by kernel_rfl) ?_)
     have h := closeU (bu := bu) (u := u) hm hl ((((h.fetch (Big (GOwn pool) gs)).fetch (blk bt u.t.cells 113)).fetch (SpP 105 bs u.s)).fetch (blk bu (ucells bs bt gs) 68))
     refine W.condF rfl (W.skip (W.seq (W.region (WL.val run_move rfl rfl (WL.val run_move rfl rfl (WL.val (run_loadB (vs := [.int .i64 _, .int .i64 _, .int .i64 _, .slice _ _ _, .int .u64 _, .int .u64 _, .int .i64 _, .bool _]) h isAgg25 sizeOf25 rfl rfl rfl) rfl rfl (WL.eff (eff_call call31 (uact_ok (u := u) (i := i) hi (by omega) (by omega) c9 hsm hgu_ hcm (h.fetch (UnP 68 105 113 bu pool ms u)) (Gives.to C) hd)) rfl rfl ?_)))))))
     rintro _ w ⟨u', r', dv', heq, rfl, h⟩
     have of_ := Own.form h
     obtain ⟨ad, cd, hdv, _⟩ := of_
     subst hdv
     refine WL.eff (eff_storeW (vs := [.int .i64 _, .int .i64 _, .int .i64 _, .slice _ _ _, .int .i64 _]) h sizeOf36 rfl rfl rfl rfl rfl) rfl rfl ?_
     rintro _ w h
     refine WL.nil (W.ret (bodyQ.rcB (vs := [.int .i64 _, .int .i64 _, .int .i64 _, .slice _ _ _, .int .i64 _]) h results8 isAgg36 sizeOf36 rfl rfl rfl ?_))
     have he : doM u i (⟨kind, at_, n, data, key, new, typ, force⟩ : Cm) = (u', r') := by rw [doM_go hi (by show 1 ≤ kind; omega) (by show kind ≤ 18; omega) c9 (.inl c14) (hr.1 rfl), heq]
     exact ⟨u', r', _, he, rfl, h.to⟩
    refine WT.pure 8 rfl (by kernel_rfl) (fun w' => (run_not rfl)) rfl rfl (WT.done (by kernel_rfl) ?_)
    have h := closeU (bu := bu) (u := u) hm hl ((((h.fetch (Big (GOwn pool) gs)).fetch (blk bt u.t.cells 113)).fetch (SpP 105 bs u.s)).fetch (blk bu (ucells bs bt gs) 68))
    refine W.condT rfl (W.seq (W.region (WL.val (run_buildS (pl := [(0, 1), (1, 1), (2, 1), (3, 1), (4, 1)]) (out := [.int .i64 _, .int .i64 _, .int .i64 _, .slice _ _ _, .int .i64 _]) underlying36 zeroValue36 (fun w => by kernel_rfl) rfl (⟨⟨_, _, rfl, rfl, by decide⟩, trivial⟩) rfl) rfl rfl (WL.eff (eff_storeW (vs := [.int .i64 _, .int .i64 _, .int .i64 _, .slice _ _ _, .int .i64 _]) h sizeOf36 rfl rfl rfl rfl rfl) rfl rfl ?_))))
    rintro _ w h
    refine WL.nil (W.ret (bodyQ.rcB (vs := [.int .i64 _, .int .i64 _, .int .i64 _, .slice _ _ _, .int .i64 _]) h results8 isAgg36 sizeOf36 rfl rfl rfl ?_))
    have h : On W0 (OwnB (.slice none 0 0) (plain 24 0 0 : Rp).data :: _) w := h.ownEmpty 1 none
    exact ⟨u, plain 24 0 0, .slice none 0 0, (doM_no hi (by show 1 ≤ kind; omega) (by show kind ≤ 18; omega) c9 (.inl c14) (fun ha => by cases hr.2 ha)), rfl, h.to⟩
   refine W.seq (W.region (WL.val run_move rfl rfl (WL.val run_move rfl rfl (WL.eff (eff_call call27 (told_ok hi (small_le hsm (by decide) i hi) (h.fetch (UnP 68 105 113 bu pool ms u)))) rfl rfl ?_))))
   rintro _ w hv
   rcases hv with ⟨x, l, hxl, rfl, h⟩ | ⟨hnil, rfl, h⟩
   ·
    refine WL.val run_move rfl rfl (WL.val (run_extract rfl rfl) rfl rfl (WL.val (run_extract rfl rfl) rfl rfl (WL.eff (eff_alloc h zeroValue36 rfl) rfl rfl ?_)))
    rintro _ w ⟨b9, rfl, h⟩
    refine WL.eff (eff_storeW (vs := [.int .i64 _, .int .i64 _, .int .i64 _, .slice _ _ _, .int .i64 _]) h sizeOf36 rfl rfl rfl rfl rfl) rfl rfl ?_
    rintro _ w h
    refine WL.val run_assign rfl rfl (WL.nil (W.seq (W.region (WL.val run_move rfl rfl (WL.nil (W.condT rfl (W.seq ?_)))))))
    refine W.region (WL.val (run_loadB (vs := [.int .i64 _, .int .i64 _, .int .i64 _, .slice _ _ _, .int .i64 _]) h isAgg36 sizeOf36 rfl rfl rfl) rfl rfl (WL.eff (eff_storeW (vs := [.int .i64 _, .int .i64 _, .int .i64 _, .slice _ _ _, .int .i64 _]) h sizeOf36 rfl rfl rfl rfl rfl) rfl rfl ?_))
    rintro _ w h
    refine WL.nil (W.ret (bodyQ.rcB (vs := [.int .i64 _, .int .i64 _, .int .i64 _, .slice _ _ _, .int .i64 _]) h results8 isAgg36 sizeOf36 rfl rfl rfl ?_))
    have h : On W0 (OwnB (.slice none 0 0) (plain 2 6 x : Rp).data :: _) w := h.ownEmpty 1 none
    exact ⟨(u.putG i (u.guest i).pop), plain 2 6 x, .slice none 0 0, (doM_pop hi (by show 1 ≤ kind; omega) (by show kind ≤ 18; omega) c9 c14 hxl), rfl, h.to⟩
   refine WL.val run_move rfl rfl (WL.val (run_extract rfl rfl) rfl rfl (WL.val (run_extract rfl rfl) rfl rfl (WL.eff (eff_alloc h zeroValue36 rfl) rfl rfl ?_)))
   rintro _ w ⟨b9, rfl, h⟩
   refine WL.eff (eff_storeW (vs := [.int .i64 _, .int .i64 _, .int .i64 _, .slice _ _ _, .int .i64 _]) h sizeOf36 rfl rfl rfl rfl rfl) rfl rfl ?_
   rintro _ w h
   refine WL.val run_assign rfl rfl (WL.nil (W.seq (W.region (WL.val run_move rfl rfl (WL.nil (W.condF rfl (W.skip ?_)))))))
   refine W.seq (W.seq ?_)
   have ob_ := openU (h.fetch (UnP 68 105 113 bu pool ms u))
   obtain ⟨bs, bt, gs, hm, hl, h⟩ := ob_
   refine W.draw Tryz.follows h (fun w h => ?_)
   refine WT.pure 0 rfl (by kernel_rfl) (fun w' => run_move) rfl rfl (WT.pure 1 rfl (by kernel_rfl) (fun w' => (run_nilCheck rfl)) rfl rfl (WT.pure 2 rfl (by kernel_rfl) (fun w' => (run_fieldAddr 1 underlying68 rfl sizeOf59 rfl rfl)) rfl rfl (WT.load1 3 rfl (by kernel_rfl) isAgg59 rfl (h.cellB rfl) rfl rfl (WT.pure 4 rfl (by kernel_rfl) (fun w' => run_move) rfl rfl (WT.pure 5 rfl (by kernel_rfl) (fun w' => (run_fieldAddr 0 underlying25 rfl sizeOf3 rfl rfl)) rfl rfl (WT.load1 6 rfl (by kernel_rfl) isAgg3 rfl (h.cellB rfl) rfl rfl (WT.eff 7 [false, false] rfl (by kernel_rfl) (by kernel_rfl) (eff_call call30 (allows_ok (b := bt) (t := u.t) (h.fetch (blk bt u.t.cells 113)))) rfl rfl ?_)))))))
   rintro _ w ⟨⟨r, rfl, hr⟩, h⟩
   have hcs := Bool.eq_false_or_eq_true r
   rcases hcs with hr2 | hr2 <;> (subst hr2)
   all_goals (refine ⟨trivial, ?_⟩)
   ·
    refine WT.pure 8 rfl (by kernel_rfl) (fun w' => (run_not rfl)) rfl rfl (WT.done (by kernel_rfl) ?_)
    have h := closeU (bu := bu) (u := u) hm hl ((((h.fetch (Big (GOwn pool) gs)).fetch (blk bt u.t.cells 113)).fetch (SpP 105 bs u.s)).fetch (blk bu (ucells bs bt gs) 68))
    refine W.condF rfl (W.skip (W.seq (W.region (WL.val run_move rfl rfl (WL.val run_move rfl rfl (WL.val (run_loadB (vs := [.int .i64 _, .int .i64 _, .int .i64 _, .slice _ _ _, .int .u64 _, .int .u64 _, .int .i64 _, .bool _]) h isAgg25 sizeOf25 rfl rfl rfl) rfl rfl (WL.eff (eff_call call31 (uact_ok (u := u) (i := i) hi (by omega) (by omega) c9 hsm hgu_ hcm (h.fetch (UnP 68 105 113 bu pool ms u)) (Gives.to C) hd)) rfl rfl ?_)))))))
    rintro _ w ⟨u', r', dv', heq, rfl, h⟩
    have of_ := Own.form h
    obtain ⟨ad, cd, hdv, _⟩ := of_
    subst hdv
    refine WL.eff (eff_storeW (vs := [.int .i64 _, .int .i64 _, .int .i64 _, .slice _ _ _, .int .i64 _]) h sizeOf36 rfl rfl rfl rfl rfl) rfl rfl ?_
    rintro _ w h
    refine WL.nil (W.ret (bodyQ.rcB (vs := [.int .i64 _, .int .i64 _, .int .i64 _, .slice _ _ _, .int .i64 _]) h results8 isAgg36 sizeOf36 rfl rfl rfl ?_))
    have he : doM u i (⟨kind, at_, n, data, key, new, typ, force⟩ : Cm) = (u', r') := by rw [doM_go hi (by show 1 ≤ kind; omega) (by show kind ≤ 18; omega) c9 (.inr hnil) (hr.1 rfl), heq]
    exact ⟨u', r', _, he, rfl, h.to⟩
   refine WT.pure 8 rfl (by kernel_rfl) (fun w' => (run_not rfl)) rfl rfl (WT.done (by kernel_rfl) ?_)
   have h := closeU (bu := bu) (u := u) hm hl ((((h.fetch (Big (GOwn pool) gs)).fetch (blk bt u.t.cells 113)).fetch (SpP 105 bs u.s)).fetch (blk bu (ucells bs bt gs) 68))
   refine W.condT rfl (W.seq (W.region (WL.val (run_buildS (pl := [(0, 1), (1, 1), (2, 1), (3, 1), (4, 1)]) (out := [.int .i64 _, .int .i64 _, .int .i64 _, .slice _ _ _, .int .i64 _]) underlying36 zeroValue36 (fun w => by kernel_rfl) rfl (⟨⟨_, _, rfl, rfl, by decide⟩, trivial⟩) rfl) rfl rfl (WL.eff (eff_storeW (vs := [.int .i64 _, .int .i64 _, .int .i64 _, .slice _ _ _, .int .i64 _]) h sizeOf36 rfl rfl rfl rfl rfl) rfl rfl ?_))))
   rintro _ w h
   refine WL.nil (W.ret (bodyQ.rcB (vs := [.int .i64 _, .int .i64 _, .int .i64 _, .slice _ _ _, .int .i64 _]) h results8 isAgg36 sizeOf36 rfl rfl rfl ?_))
   have h : On W0 (OwnB (.slice none 0 0) (plain 24 0 0 : Rp).data :: _) w := h.ownEmpty 1 none
   exact ⟨u, plain 24 0 0, .slice none 0 0, (doM_no hi (by show 1 ≤ kind; omega) (by show kind ≤ 18; omega) c9 (.inr hnil) (fun ha => by cases hr.2 ha)), rfl, h.to⟩
  refine WL.val (run_not rfl) rfl rfl (WL.val run_move rfl rfl (WL.skip rfl rfl (WL.skip rfl rfl (WL.skip rfl rfl (WL.val (run_pickT rfl) rfl rfl (WL.val run_move rfl rfl (WL.skip rfl rfl ?_)))))))
  refine WL.skip rfl rfl (WL.skip rfl rfl (WL.val (run_pickT rfl) rfl rfl (WL.nil (W.condT rfl (W.seq (W.region (WL.eff (eff_call call26 (wrong_ok h)) rfl rfl ?_)))))))
  rintro _ w ⟨rfl, h⟩
  refine WL.eff (eff_storeW (vs := [.int .i64 _, .int .i64 _, .int .i64 _, .slice _ _ _, .int .i64 _]) h sizeOf36 rfl rfl rfl rfl rfl) rfl rfl ?_
  rintro _ w h
  refine WL.nil (W.ret (bodyQ.rcB (vs := [.int .i64 _, .int .i64 _, .int .i64 _, .slice _ _ _, .int .i64 _]) h results8 isAgg36 sizeOf36 rfl rfl rfl ?_))
  have h : On W0 (OwnB (.slice none 0 0) (plain 2 5 8192 : Rp).data :: _) w := h.ownEmpty 1 none
  exact ⟨u, plain 2 5 8192, .slice none 0 0, (doM_bad (.inl hb)), rfl, h.to⟩
end Go.Proofs.YtjbgiingimhnnaaGreat
