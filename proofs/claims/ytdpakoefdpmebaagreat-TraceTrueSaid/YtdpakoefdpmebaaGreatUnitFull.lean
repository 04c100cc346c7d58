/-
  A unit's commands, all kinds: what stays true of the table, of what waits. No program is named here.
-/
import Derived.Test.YtdpakoefdpmebaaGreatUnitMore
namespace Go.Sl.UnM
open Go Go.Sl Go.Sl.BitM Go.Sl.SpM Go.Sl.RsM Go.Sl.ByM
set_option linter.unusedVariables false
def kV (l : List Int) : List Value := l.map (Value.int .u64)
theorem kV_one {l : List Int} : ∀ x ∈ kV l, x.oneCell' = true := fun x hx => by obtain ⟨y, _, rfl⟩ := List.mem_map.1 hx; rfl
theorem kV_get {l : List Int} {k : Nat} {x : Int} (h : l[k]? = some x) : ((kV l).drop (k * 1)).take 1 = [.int .u64 x] := by
  have hlt := (List.getElem?_eq_some_iff.1 h).1
  have he := (List.getElem?_eq_some_iff.1 h).2
  unfold kV
  rw [Nat.mul_one, ← List.map_drop, ← List.map_take, List.drop_eq_getElem_cons hlt, List.take_succ_cons, List.take_zero, he]
  rfl
theorem kV_app (l m : List Int) : kV l ++ kV m = kV (l ++ m) := by unfold kV; rw [List.map_append]
def keysP (g n : Nat) (l : List Int) (k : Nat) : List UInt8 := be g 4 ++ be n 4 ++ (l.take k).flatMap fun k => be k.toNat 8
theorem keysP_len {g n : Nat} {l : List Int} {k : Nat} (h : k ≤ l.length) : (keysP g n l k).length = 8 + 8 * k := by
  unfold keysP; rw [List.length_append, List.length_append, be_length, be_length, flat8_len, List.length_take]; omega
theorem keysP_succ {g n : Nat} {l : List Int} {k : Nat} {x : Int} (h : l[k]? = some x) : keysP g n l k ++ be x.toNat 8 = keysP g n l (k + 1) := by
  unfold keysP; rw [List.take_add_one, h, List.flatMap_append, List.append_assoc]; simp
theorem keysP_zero {g n : Nat} {l : List Int} : keysP g n l 0 = be g 4 ++ be n 4 := by unfold keysP; simp
theorem keysP_all (t : Tb) : keysP t.gen.toNat (8 * (keysN t.K 8).length) (keysN t.K 8) (keysN t.K 8).length = keysB t := by
  unfold keysP keysB; rw [List.take_length]
theorem keysN_mem {K : Nat → Int} {x : Int} : ∀ {n : Nat}, x ∈ keysN K n → ∃ i, i < n ∧ x = K i
  | 0, h => by cases h
  | n + 1, h => by
    unfold keysN at h
    rcases List.mem_append.1 h with h | h
    · obtain ⟨i, hi, e⟩ := keysN_mem h
      exact ⟨i, by omega, e⟩
    · split at h
      · cases h
      · rw [List.mem_singleton] at h
        exact ⟨n, by omega, h⟩
theorem notM_snoc {u : Un} {code : Int} {l : List Nat} {i : Nat} : notM u code (l ++ [i]) = (notM u code l).tell i code := by unfold notM; rw [List.foldl_append]; rfl
theorem notM_take {u : Un} {code : Int} {l : List Nat} {k i : Nat} (h : l[k]? = some i) : (notM u code (l.take k)).tell i code = notM u code (l.take (k + 1)) := by
  rw [List.take_add_one, h, Option.toList_some, notM_snoc]
theorem tell_clen {u : Un} {n : Nat} {x : Int} {j : Nat} (h8 : u.g.length = 8) (hj : j < 8) : ((u.tell n x).guest j).codes.length ≤ (u.guest j).codes.length + 1 := by
  unfold Un.tell
  by_cases e : n = j
  · subst e; rw [guest_put h8 hj]; exact tellM_len _ _
  · rw [guest_other e]; omega
theorem notM_clen {code : Int} {j : Nat} (hj : j < 8) : ∀ (l : List Nat) {u : Un}, u.g.length = 8 → ((notM u code l).guest j).codes.length ≤ (u.guest j).codes.length + l.length
  | [], u, _ => Nat.le_refl _
  | n :: l, u, h8 => by
    have h1 := notM_clen (code := code) hj l (u := u.tell n code) (tell_len h8)
    have h2 := tell_clen (n := n) (x := code) h8 hj
    rw [List.length_cons]
    exact Nat.le_trans h1 (by omega)
/-! ### What stays true of a table -/
def goodT (t : Tb) : Prop := okT t ∧ RsM.inv t
def okCm (c : Cm) : Prop := (0 ≤ c.key ∧ c.key < 18446744073709551616) ∧ 0 ≤ c.new ∧ c.new < 18446744073709551616
theorem okT_inc {t : Tb} (h : okT t) : okT t.inc := by
  obtain ⟨h1, h2, h3⟩ := h
  refine ⟨h1, ?_⟩
  show 0 ≤ IntKind.u32.wrap (t.gen + 1) ∧ IntKind.u32.wrap (t.gen + 1) < 4294967296
  have e : IntKind.wrap .u32 (t.gen + 1) = (t.gen + 1) % 4294967296 := by simp [IntKind.wrap, IntKind.signed, IntKind.bits]
  rw [e]
  omega
theorem okT_put {t : Tb} {i : Nat} {x : Int} (h : okT t) (hx : 0 ≤ x ∧ x < 18446744073709551616) : okT (t.put i x) := by
  obtain ⟨h1, h2⟩ := h
  refine ⟨fun j hj => ?_, h2⟩
  show 0 ≤ (if j = i then x else t.K j) ∧ (if j = i then x else t.K j) < _
  split
  · exact hx
  · exact h1 j hj
theorem okT_freed {t : Tb} (h : okT t) : okT t.freed := h
theorem okT_take {t : Tb} {h_ y : Int} (h : okT t) : okT (t.take h_ y) := h
theorem okT_cleared {t : Tb} (h : okT t) : okT t.cleared := ⟨fun i hi => ⟨Int.le_refl 0, by show (0 : Int) < _; decide⟩, (okT_inc h).2⟩
theorem okT_zer {t : Tb} {l : List Nat} (h : okT t) : okT (zer t l) := by
  obtain ⟨h1, h2⟩ := h
  refine ⟨fun j hj => ?_, h2⟩
  show 0 ≤ (if j ∈ l then (0 : Int) else t.K j) ∧ (if j ∈ l then (0 : Int) else t.K j) < _
  split
  · exact ⟨Int.le_refl 0, by decide⟩
  · exact h1 j hj
theorem okKB_ok {t : Tb} {i : Nat} {key : Int} (hi : i < 8) (h : okKB t i key = true) : okM t i key := by
  unfold okKB at h
  rw [Bool.and_eq_true, Bool.not_eq_true', decide_eq_false_iff_not, decide_eq_true_eq] at h
  exact ⟨i, rfl, hi, h.1, h.2⟩
theorem goodT_reg {t : Tb} {i : Nat} {key fresh : Int} {ign : Bool} (hi : i < 8) (h : goodT t) (hf : 0 ≤ fresh ∧ fresh < 18446744073709551616) : goodT (regF t i key fresh ign).t := by
  unfold regF
  split
  · refine ⟨?_, inv_reg h.2 hi⟩
    show okT (regO t i fresh).2
    unfold regO
    split
    · exact okT_put (okT_freed (okT_inc h.1)) hf
    · exact okT_put (okT_inc h.1) hf
  · exact h
theorem goodT_rv {t : Tb} {i : Nat} {c : Cm} (hi : i < 8) (h : goodT t) (hc : okCm c) : goodT (rvM t i c).t := by
  unfold rvM
  split
  · exact goodT_reg hi h hc.2
  split
  · exact goodT_reg hi h hc.2
  split
  · unfold rsvF
    split
    · exact h
    · rename_i ho
      split
      · exact h
      · rename_i hty
        split
        · exact ⟨okT_take h.1, inv_take (okKB_ok hi (by simpa using ho)) (by simpa using hty)⟩
        · split <;> exact h
  split
  · unfold relF
    repeat' split
    all_goals first
      | exact h
      | exact ⟨okT_freed h.1, inv_freed⟩
  split
  · unfold clrF
    split
    · exact h
    · exact ⟨okT_cleared h.1, inv_cleared⟩
  · unfold preF
    split
    · exact h
    · rename_i ho
      split
      · exact h
      · rename_i h0
        split
        · exact h
        · rename_i hl
          split
          · exact h
          · rename_i hty
            refine ⟨?_, inv_pre h.2 ⟨okKB_ok hi (by simpa using ho), h0, hl, fun htk => ?_⟩⟩
            · show okT (zer (preT0 t i c.new c.typ) _)
              refine okT_zer ?_
              unfold preT0
              split
              · exact okT_inc (okT_take h.1)
              · exact okT_inc h.1
            · cases hb : typedB c.typ with
              | true => rfl
              | false => exact absurd ⟨htk, hb⟩ hty
theorem goodT_typ {t : Tb} (h : goodT t) : 0 ≤ t.typ ∧ t.typ < 16 := by
  rcases h.2 with ⟨_, h2⟩ | ⟨_, _, _, h2⟩
  · omega
  · have := typedB_iff.1 h2; omega
theorem goodT_hold {t : Tb} (h : goodT t) : t.hold = -1 ∨ (0 ≤ t.hold ∧ t.hold < 8) := inv_hold h.2
/-! ### What stays true of a unit -/
def goodU (u : Un) : Prop := goodT u.t ∧ okC u
theorem okC_tell {u : Un} {n : Nat} {x : Int} (h8 : u.g.length = 8) (h : okC u) (hx : 0 ≤ x ∧ x < 65536) : okC (u.tell n x) := fun j hj c hc => by
  unfold Un.tell at hc
  by_cases e : n = j
  · subst e
    rw [guest_put h8 hj] at hc
    have hc : c ∈ tellM (u.guest n).codes x := hc
    unfold tellM at hc
    split at hc
    · exact h n hj c hc
    · rcases List.mem_append.1 hc with hc | hc
      · exact h n hj c hc
      · rw [List.mem_singleton] at hc; subst hc; exact hx
  · rw [guest_other e] at hc
    exact h j hj c hc
theorem okC_not {code : Int} : ∀ (l : List Nat) {u : Un}, u.g.length = 8 → okC u → (l ≠ [] → 0 ≤ code ∧ code < 65536) → okC (notM u code l)
  | [], u, _, h, _ => h
  | n :: l, u, h8, h, hx => okC_not l (u := u.tell n code) (tell_len h8) (okC_tell h8 h (hx (by simp))) (fun _ => hx (by simp))
theorem okC_reset {u : Un} (h8 : u.g.length = 8) (h : okC u) : ∀ n, okC (resetN u n)
  | 0 => h
  | n + 1 => okC_tell (resetN_len h8 n) (okC_reset h8 h n) (by decide)
theorem okC_pop {u : Un} {i : Nat} (h8 : u.g.length = 8) (h : okC u) : okC (u.putG i (u.guest i).pop) := fun j hj c hc => by
  by_cases e : i = j
  · subst e
    rw [guest_put h8 hj] at hc
    exact h i hj c (List.mem_of_mem_drop hc)
  · rw [guest_other e] at hc
    exact h j hj c hc
theorem resetN_ts (u : Un) : ∀ n, (resetN u n).t = u.t ∧ (resetN u n).s = u.s
  | 0 => ⟨rfl, rfl⟩
  | n + 1 => resetN_ts u n
theorem goodU_act {u : Un} {i : Nat} {c : Cm} (h8 : u.g.length = 8) (hi : i < 8) (h : goodU u) (hc : okCm c) : goodU (actM u i c).1 := by
  unfold actM
  split
  · exact h
  split
  · exact h
  split
  · exact h
  split
  · exact h
  split
  · refine ⟨?_, okC_reset h8 h.2 8⟩
    show goodT (resetN u 8).t
    rw [(resetN_ts u 8).1]; exact h.1
  · unfold resM
    split
    · exact h
    split
    · exact h
    refine ⟨?_, okC_not _ (u := u.setT (rvM u.t i c).t) h8 h.2 rvM_l.2.2.1⟩
    show goodT (notM _ _ _).t
    rw [(notM_s _).2]
    exact goodT_rv hi h.1 hc
theorem goodU_do {u : Un} {hh : Int} {c : Cm} (h8 : u.g.length = 8) (h : goodU u) (hc : okCm c) : goodU (doM u hh c).1 := by
  unfold doM
  split
  · exact h
  · rename_i hn
    have hh8 : hh.toNat < 8 := by
      cases hb : hostB hh with
      | false => exact absurd (.inl hb) hn
      | true => have := hostB_iff.1 hb; omega
    split
    · split
      · exact h
      · exact ⟨h.1, okC_pop h8 h.2⟩
    · split
      · exact ⟨h.1, okC_pop h8 h.2⟩
      · split
        · exact h
        · exact goodU_act h8 hh8 h hc
theorem goodU_new (n : Nat) : goodU (newU n) := by
  refine ⟨⟨⟨fun i hi => ⟨Int.le_refl 0, by show (0 : Int) < _; decide⟩, (by show (0 : Int) ≤ 0; decide), (by show (0 : Int) < 4294967296; decide)⟩, inv_new⟩, fun i hi c hc => ?_⟩
  have e : ((newU n).guest i).codes = [] := by
    unfold Un.guest newU
    simp only []
    rw [List.getD_eq_getElem?_getD, List.getElem?_replicate, if_pos hi]; rfl
  rw [e] at hc; cases hc
theorem new_small (n : Nat) : small 0 (newU n) := fun i hi => by
  have e : ((newU n).guest i).codes = [] := by
    unfold Un.guest newU
    simp only []
    rw [List.getD_eq_getElem?_getD, List.getElem?_replicate, if_pos hi]; rfl
  rw [e]; exact Nat.le_refl _
theorem actM_rv {u : Un} {i : Nat} {c : Cm} (h1 : 10 ≤ c.kind) (h2 : c.kind ≤ 15) : actM u i c = (notM (u.setT (rvM u.t i c).t) (rvM u.t i c).code (rvM u.t i c).l, (rvM u.t i c).r) := by
  unfold actM resM
  rw [if_neg (by omega), if_neg (by omega), if_neg (by omega), if_neg (by omega), if_neg (by omega), if_neg (by omega), if_neg (by omega)]
theorem actM_keys {u : Un} {i : Nat} {c : Cm} (h : c.kind = 16) : actM u i c = (u, gave (keysB u.t)) := by
  unfold actM resM
  rw [if_neg (by omega), if_neg (by omega), if_neg (by omega), if_neg (by omega), if_neg (by omega), if_pos h]
theorem actM_hold {u : Un} {i : Nat} {c : Cm} (h : c.kind = 17) : actM u i c = (u, gave (holdB u.t)) := by
  unfold actM resM
  rw [if_neg (by omega), if_neg (by omega), if_neg (by omega), if_neg (by omega), if_neg (by omega), if_neg (by omega), if_pos h]
theorem rvM_reg {t : Tb} {i : Nat} {c : Cm} (h : c.kind = 10 ∨ c.kind = 11) : rvM t i c = regF t i c.key c.new (decide (c.kind = 11)) := by
  unfold rvM
  rcases h with h | h
  · rw [if_pos h, decide_eq_false (by omega)]
  · rw [if_neg (by omega), if_pos h, decide_eq_true h]
theorem rvM_rsv {t : Tb} {i : Nat} {c : Cm} (h : c.kind = 12) : rvM t i c = rsvF t i c.key c.typ := by unfold rvM; rw [if_neg (by omega), if_neg (by omega), if_pos h]
theorem rvM_rel {t : Tb} {i : Nat} {c : Cm} (h : c.kind = 13) : rvM t i c = relF t i c.key c.typ := by unfold rvM; rw [if_neg (by omega), if_neg (by omega), if_neg (by omega), if_pos h]
theorem rvM_clr {t : Tb} {i : Nat} {c : Cm} (h : c.kind = 14) : rvM t i c = clrF t i c.key := by unfold rvM; rw [if_neg (by omega), if_neg (by omega), if_neg (by omega), if_neg (by omega), if_pos h]
theorem rvM_pre {t : Tb} {i : Nat} {c : Cm} (h : c.kind = 15) : rvM t i c = preF t i c.key c.new c.typ := by unfold rvM; rw [if_neg (by omega), if_neg (by omega), if_neg (by omega), if_neg (by omega), if_neg (by omega)]
theorem rsvF_l {t : Tb} {i : Nat} {key typ : Int} : (rsvF t i key typ).l = [] := by
  unfold rsvF
  repeat' split
  all_goals rfl
theorem small_setT {u : Un} {t : Tb} {k : Nat} (h : small k u) : small k (u.setT t) := h
section
variable {W0 w : World} {L : List HProp}
theorem On.nilData {r : Rp} (hd : r.data = []) (h : On W0 L w) : On W0 (OwnB (.slice none 0 0) r.data :: L) w := by rw [hd]; exact h.ownEmpty 1 none
end
end Go.Sl.UnM
