/-
  One thing turned of what one unit did: where it shows. No program is named here.
-/
import Derived.Test.YtdpakoefdpmebaaGreatTraceRun
namespace Go.Sl.TrM
open Go Go.Sl Go.Sl.BitM Go.Sl.SpM Go.Sl.RsM Go.Sl.ByM Go.Sl.UnM
set_option linter.unusedVariables false
set_option linter.unusedSectionVars false
section
variable {l : List CmX} {H A B C : Nat → Int} {n k i : Nat} {ins : List InX} {row : List CoX} {out : List OuX} {o o' : OuX}
def named (H C : Nat → Int) (k : Nat) (out : List OuX) : Prop := ∀ i, i < k → ∃ o, out[i]? = some o ∧ o.h = H i ∧ o.id = ((i + 1 : Nat) : Int) ∧ o.at_ = C i
theorem named_of (hO : isOut l H C n out) (hk : k ≤ n) : named H C k out := fun i hi => by
  obtain ⟨o, ho, e1, e2, e3, _⟩ := hO.2 i (by omega)
  exact ⟨o, ho, e1, e2, e3⟩
theorem named_set (hN : named H C k out) : named H C k (out.set k o') := fun i hi => by
  obtain ⟨o, ho, h⟩ := hN i hi
  exact ⟨o, by rw [List.getElem?_set, if_neg (by omega)]; exact ho, h⟩
theorem okO_nam (hR : isRow H B n row) (hN : named H C k out) (hi : i < k) (hin : i < n) (hBC : B i ≤ C i) (ho : out[i]? = some o) : okO row (out.take i) o = 0 := by
  obtain ⟨o2, ho', e1, e2, e3⟩ := hN i hi
  rw [ho] at ho'
  cases ho'
  refine okO_good (row_find hR hin (by unfold OuX.nm; rw [e1, e2])) ?_
  rintro (h | h)
  · refine not_mem_take (fun j y hj hy e => ?_) h
    obtain ⟨y', hy', f1, f2, _⟩ := hN j (by omega)
    rw [hy] at hy'
    cases hy'
    have h5 : y.id = o.id := (Prod.mk.inj e).2
    omega
  · exact absurd h (by show ¬ o.at_ < B i; omega)
theorem outN_run (hR : isRow H B n row) (hN : named H C k out) (hkn : k ≤ n) (hBC : ∀ j, j < n → B j ≤ C j) : outM row out [] = outM row (out.drop k) (out.take k) :=
  outM_run fun i hi => by
    obtain ⟨o, ho, _⟩ := hN i hi
    exact ⟨o, ho, okO_nam hR hN hi (by omega) (hBC i (by omega)) ho⟩
variable (hI : isIns l H A n ins) (hR : isRow H B n row) (hO : isOut l H C n out) (hB : ∀ j, j + 1 < n → B j ≤ B (j + 1)) (hAB : ∀ j, j < n → A j ≤ B j) (hBC : ∀ j, j < n → B j ≤ C j) (hk : k < n)
include hI hR hB hAB in
theorem order_row {out : List OuX} {x : Nat × Int} (h : outM row out [] = x) : orderM ins row out = x := by
  unfold orderM
  rw [row_run hI hR (Nat.le_refl _) hB hAB, if_pos rfl, h]
theorem check_bad {x : Nat × Int} (h : orderM ins row out = x) (hx : x.2 ≠ 0) : checkM 16 ins row out = x := by
  unfold checkM
  rw [h, if_neg hx]
include hI hR hO hB hAB hBC hk in
theorem turn_rp (ho : out[k]? = some o) (e1 : o'.h = o.h) (e2 : o'.id = o.id) (e3 : o'.at_ = o.at_) (e4 : o'.rp ≠ o.rp) : checkM 16 ins row (out.set k o') = (k, 4) := by
  have hol := hO.1
  have hN : named H C n (out.set k o') := fun i hi => by
    obtain ⟨o2, ho2, f1, f2, f3, _⟩ := hO.2 i hi
    by_cases e : i = k
    · subst e
      rw [ho] at ho2
      cases ho2
      exact ⟨o', by rw [List.getElem?_set, if_pos rfl, if_pos (by omega)], by rw [e1, f1], by rw [e2, f2], by rw [e3, f3]⟩
    · exact ⟨o2, by rw [List.getElem?_set, if_neg (by omega)]; exact ho2, f1, f2, f3⟩
  have h2 : outM row (out.set k o') [] = (0, 0) := by rw [outN_run hR hN (Nat.le_refl _) hBC, outM_end (by rw [List.length_set, hol])]
  have h3 := order_row hI hR hB hAB h2
  obtain ⟨o2, ho2, f1, f2, _, f4⟩ := hO.2 k hk
  rw [ho] at ho2
  cases ho2
  unfold checkM
  rw [h3, if_pos rfl, sameM_run (r := k) fun i hi => by
    obtain ⟨o2, ho2, g1, g2, _, g4⟩ := hO.2 i (by omega)
    have h5 := same_at hI hR (Nat.le_refl _) (i := i) (by omega) (p := o2.nm) (by unfold OuX.nm; rw [g1, g2])
    exact ⟨o2, by rw [List.getElem?_set, if_neg (by omega)]; exact ho2, by rw [h5, g4]⟩]
  have h5 := same_at hI hR (Nat.le_refl _) (i := k) hk (p := o'.nm) (by unfold OuX.nm; rw [e1, e2, f1, f2])
  exact sameM_stop (o := o') (by rw [List.getElem?_set, if_pos rfl, if_pos (by omega)]) (by rw [h5, ← f4]; exact e4)
include hI hR hO hB hAB hBC hk in
theorem turn_twice (ho : out[k]? = some o) : checkM 16 ins row (out ++ [o]) = (n, 2) := by
  have hol := hO.1
  have hN : named H C n (out ++ [o]) := fun i hi => by
    obtain ⟨o2, ho2, f1, f2, f3, _⟩ := hO.2 i hi
    exact ⟨o2, by rw [List.getElem?_append_left (by omega)]; exact ho2, f1, f2, f3⟩
  obtain ⟨o2, ho2, f1, f2, f3, _⟩ := hO.2 k hk
  rw [ho] at ho2
  cases ho2
  have hx : (out ++ [o])[n]? = some o := by rw [List.getElem?_append_right (by omega), hol, Nat.sub_self]; rfl
  have hb : okO row ((out ++ [o]).take n) o = 2 := okO_bad (row_find hR hk (by unfold OuX.nm; rw [f1, f2])) (.inl (by
    rw [← hol, List.take_left]
    exact List.mem_map.2 ⟨o, List.mem_of_getElem? ho, rfl⟩))
  refine check_bad (order_row hI hR hB hAB ?_) (show (2 : Int) ≠ 0 by decide)
  rw [outN_run hR hN (Nat.le_refl _) hBC, outM_stop hx (by rw [hb]; decide), hb]
include hI hR hO hB hAB hBC hk in
theorem turn_outAt (ho : out[k]? = some o) (e1 : o'.h = o.h) (e2 : o'.id = o.id) (e3 : o'.at_ < B k) : checkM 16 ins row (out.set k o') = (k, 2) := by
  have hol := hO.1
  obtain ⟨o2, ho2, f1, f2, f3, _⟩ := hO.2 k hk
  rw [ho] at ho2
  cases ho2
  have hN : named H C k (out.set k o') := named_set (named_of hO (by omega))
  have hx : (out.set k o')[k]? = some o' := by rw [List.getElem?_set, if_pos rfl, if_pos (by omega)]
  have hb : okO row ((out.set k o').take k) o' = 2 := okO_bad (row_find hR hk (by unfold OuX.nm; rw [e1, e2, f1, f2])) (.inr e3)
  refine check_bad (order_row hI hR hB hAB ?_) (show (2 : Int) ≠ 0 by decide)
  rw [outN_run hR hN (by omega) hBC, outM_stop hx (by rw [hb]; decide), hb]
include hI hR hO hB hAB hBC hk in
theorem turn_outId (ho : out[k]? = some o) (e2 : o'.id = 1000) (hn : n ≤ 900) : checkM 16 ins row (out.set k o') = (k, 6) := by
  have hol := hO.1
  have hN : named H C k (out.set k o') := named_set (named_of hO (by omega))
  have hx : (out.set k o')[k]? = some o' := by rw [List.getElem?_set, if_pos rfl, if_pos (by omega)]
  have hb : okO row ((out.set k o').take k) o' = 6 := okO_none (not_mem_nm fun j y hy e => by
    have hj : j < n := by rw [← hR.1]; exact get_lt hy
    have h2 := hR.2 j hj
    rw [hy] at h2
    cases h2
    have h5 : ((j + 1 : Nat) : Int) = o'.id := (Prod.mk.inj e).2
    omega)
  refine check_bad (order_row hI hR hB hAB ?_) (show (6 : Int) ≠ 0 by decide)
  rw [outN_run hR hN (by omega) hBC, outM_stop hx (by rw [hb]; decide), hb]
/-- The rows ahead of a place are fine, whatever lies there. -/
theorem rowK_run {row' : List CoX} (hI : isIns l H A n ins) (hR : isRow H B n row) (hB : ∀ j, j + 1 < n → B j ≤ B (j + 1)) (hAB : ∀ j, j < n → A j ≤ B j) (hk : k ≤ n) (he : row'.take k = row.take k) : rowM ins row' [] = rowM ins (row'.drop k) (row'.take k) := by
  have hget : ∀ i, i < k → row'[i]? = row[i]? := fun i hi => by
    have h1 : (row'.take k)[i]? = row'[i]? := by rw [List.getElem?_take, if_pos hi]
    have h2 : (row.take k)[i]? = row[i]? := by rw [List.getElem?_take, if_pos hi]
    rw [← h1, he, h2]
  have htk : ∀ i, i < k → row'.take i = row.take i := fun i hi => by
    have h1 : (row'.take k).take i = row'.take i := by rw [List.take_take, Nat.min_eq_left (by omega)]
    have h2 : (row.take k).take i = row.take i := by rw [List.take_take, Nat.min_eq_left (by omega)]
    rw [← h1, he, h2]
  exact rowM_run fun i hi => ⟨_, (hget i hi).trans (hR.2 i (by omega)), by rw [htk i hi]; exact okC_at hI hR (by omega) (Nat.le_refl _) hB hAB⟩
include hI hR hB hAB hk in
theorem turn_rowAt {c' : CoX} (e : c' = ⟨H k, ((k + 1 : Nat) : Int), A k - 1⟩) : checkM 16 ins (row.set k c') out = (k, 2) := by
  subst e
  have hrl := hR.1
  have hx : (row.set k ⟨H k, ((k + 1 : Nat) : Int), A k - 1⟩)[k]? = some ⟨H k, ((k + 1 : Nat) : Int), A k - 1⟩ := by rw [List.getElem?_set, if_pos rfl, if_pos (by omega)]
  have hb : okC ins ((row.set k ⟨H k, ((k + 1 : Nat) : Int), A k - 1⟩).take k) ⟨H k, ((k + 1 : Nat) : Int), A k - 1⟩ = 2 := okC_bad (ins_find hI (i := k) hk rfl) (.inr (.inr (by show A k - 1 < A k; omega)))
  have h1 : rowM ins (row.set k ⟨H k, ((k + 1 : Nat) : Int), A k - 1⟩) [] = (k, 2) := by
    rw [rowK_run hI hR hB hAB (k := k) (by omega) (List.take_set_of_le (Nat.le_refl _)), rowM_stop hx (by rw [hb]; decide), hb]
  refine check_bad ?_ (show (2 : Int) ≠ 0 by decide)
  unfold orderM
  rw [h1, if_neg (show ¬ (2 : Int) = 0 by decide)]
include hI hR hB hAB hk in
theorem turn_rowTwice {z : Int} : checkM 16 ins (row ++ [(⟨H k, ((k + 1 : Nat) : Int), z⟩ : CoX)]) out = (n, 2) := by
  have hrl := hR.1
  have hx : (row ++ [(⟨H k, ((k + 1 : Nat) : Int), z⟩ : CoX)])[n]? = some (⟨H k, ((k + 1 : Nat) : Int), z⟩ : CoX) := by rw [List.getElem?_append_right (by omega), hrl, Nat.sub_self]; rfl
  have he : (row ++ [(⟨H k, ((k + 1 : Nat) : Int), z⟩ : CoX)]).take n = row.take n := by rw [List.take_append_of_le_length (by omega)]
  have hb : okC ins ((row ++ [(⟨H k, ((k + 1 : Nat) : Int), z⟩ : CoX)]).take n) (⟨H k, ((k + 1 : Nat) : Int), z⟩ : CoX) = 2 := okC_bad (ins_find hI (i := k) hk rfl) (.inl (by
    rw [he, ← hrl, List.take_length]
    exact List.mem_map.2 ⟨_, List.mem_of_getElem? (hR.2 k hk), rfl⟩))
  have h1 : rowM ins (row ++ [(⟨H k, ((k + 1 : Nat) : Int), z⟩ : CoX)]) [] = (n, 2) := by
    rw [rowK_run hI hR hB hAB (k := n) (Nat.le_refl _) he, rowM_stop hx (by rw [hb]; decide), hb]
  refine check_bad ?_ (show (2 : Int) ≠ 0 by decide)
  unfold orderM
  rw [h1, if_neg (show ¬ (2 : Int) = 0 by decide)]
include hI hR hB hAB hk in
theorem turn_insId {x' : InX} (e2 : x'.id = 1000) (hn : n ≤ 900) : ((ins.set k x').map InX.nm).Nodup ∧ checkM 16 (ins.set k x') row out = (k, 6) := by
  have hil := hI.1
  have hget : ∀ j, j < n → j ≠ k → (ins.set k x')[j]? = some ⟨H j, ((j + 1 : Nat) : Int), cmX l j, A j⟩ := fun j hj hjk => by rw [List.getElem?_set, if_neg (by omega)]; exact hI.2 j hj
  have hgk : (ins.set k x')[k]? = some x' := by rw [List.getElem?_set, if_pos rfl, if_pos (by omega)]
  have hid : ∀ j y, (ins.set k x')[j]? = some y → j < n ∧ y.id = if j = k then 1000 else ((j + 1 : Nat) : Int) := fun j y hy => by
    have hj : j < n := by have := get_lt hy; rw [List.length_set] at this; omega
    refine ⟨hj, ?_⟩
    by_cases e : j = k
    · subst e; rw [hgk] at hy; cases hy; rw [if_pos rfl]; exact e2
    · rw [hget j hj e] at hy; cases hy; rw [if_neg e]
  refine ⟨nodup_at fun i j x y hi hj e => ?_, ?_⟩
  · have h1 := hid i x hi
    have h2 := hid j y hj
    have h5 : x.id = y.id := (Prod.mk.inj e).2
    rw [h1.2, h2.2] at h5
    split at h5 <;> split at h5 <;> omega
  · have hok : ∀ i, i < k → okC (ins.set k x') (row.take i) ⟨H i, ((i + 1 : Nat) : Int), B i⟩ = 0 := fun i hi => by
      have h0 := okC_at hI hR (i := i) (by omega) (Nat.le_refl _) hB hAB
      have hf1 := ins_find hI (i := i) (by omega) (c := ⟨H i, ((i + 1 : Nat) : Int), B i⟩) rfl
      have hf2 : findN InX.nm (ins.set k x') (CoX.nm ⟨H i, ((i + 1 : Nat) : Int), B i⟩) = some ⟨H i, ((i + 1 : Nat) : Int), cmX l i, A i⟩ := findN_at (hget i (by omega) (by omega)) rfl fun j y hj hy e => by
        have h1 := hid j y hy
        have h5 : y.id = ((i + 1 : Nat) : Int) := (Prod.mk.inj e).2
        rw [h1.2, if_neg (by omega)] at h5
        omega
      unfold okC at h0 ⊢
      rw [hf1] at h0
      rw [hf2]
      exact h0
    have hb : okC (ins.set k x') (row.take k) ⟨H k, ((k + 1 : Nat) : Int), B k⟩ = 6 := okC_none (not_mem_nm fun j y hy e => by
      have h1 := hid j y hy
      have h5 : y.id = ((k + 1 : Nat) : Int) := (Prod.mk.inj e).2
      rw [h1.2] at h5
      split at h5 <;> omega)
    have h1 : rowM (ins.set k x') row [] = (k, 6) := by
      rw [rowM_run (r := k) fun i hi => ⟨_, hR.2 i (by omega), hok i hi⟩, rowM_stop (hR.2 k hk) (by rw [hb]; decide), hb]
    refine check_bad ?_ (show (6 : Int) ≠ 0 by decide)
    unfold orderM
    rw [h1, if_neg (show ¬ (6 : Int) = 0 by decide)]
end
/-! ### A bit turned -/
theorem xor_one {b : BitVec 64} : b ^^^ 1#64 ≠ b := fun h => by
  have := congrArg (fun x => x.getLsbD 0) h
  simp at this
theorem wrap64 (z : Int) : IntKind.i64.wrap z = if z % 18446744073709551616 ≥ 9223372036854775808 then z % 18446744073709551616 - 18446744073709551616 else z % 18446744073709551616 := by
  simp [IntKind.wrap, IntKind.signed, IntKind.bits]
theorem wrap_bv (x : BitVec 64) : BitVec.ofInt 64 (IntKind.i64.wrap (x.toNat : Int)) = x := by
  apply BitVec.eq_of_toInt_eq
  rw [BitVec.toInt_ofInt, BitVec.toInt_eq_toNat_bmod, wrap64]
  have hx : x.toNat < 18446744073709551616 := x.isLt
  rw [show (2 : Nat) ^ 64 = 18446744073709551616 from rfl]
  unfold Int.bmod
  dsimp only
  split <;> split <;> split <;> omega
theorem xor1_ne (m : Int) : IntKind.i64.wrap (BitVec.ofInt IntKind.i64.bits m ^^^ BitVec.ofInt IntKind.i64.bits 1).toNat ≠ m := fun h => by
  have h2 := congrArg (BitVec.ofInt 64) h
  have h3 := wrap_bv (BitVec.ofInt 64 m ^^^ BitVec.ofInt 64 1)
  rw [show BitVec.ofInt 64 (IntKind.i64.wrap (BitVec.ofInt IntKind.i64.bits m ^^^ BitVec.ofInt IntKind.i64.bits 1).toNat) = BitVec.ofInt 64 m ^^^ BitVec.ofInt 64 1 from h3] at h2
  exact xor_one h2
end Go.Sl.TrM
