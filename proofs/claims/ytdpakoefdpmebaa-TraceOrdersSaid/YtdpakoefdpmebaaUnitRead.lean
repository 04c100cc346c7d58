/-
  Bytes read as a guest, as plain data. No program is named here.
-/
import Derived.Test.YtdpakoefdpmebaaUnitMore
import Derived.Test.YtdpakoefdpmebaaSpaceEncM
namespace Go.Sl.UnM
open Go Go.Sl Go.Sl.BitM Go.Sl.SpM Go.Sl.RsM Go.Sl.ByM
set_option linter.unusedVariables false
set_option linter.unusedSimpArgs false
/-- What is left to be read, and whether there was a fault. -/
abbrev RS := List UInt8 × Bool
def rdN (n : Nat) (s : RS) : Nat × RS := if n ≤ s.1.length then (beV (s.1.take n), (s.1.drop n, s.2)) else (0, ([], true))
def rdP (s : RS) : List UInt8 × RS :=
  if 4 ≤ s.1.length ∧ beV (s.1.take 4) ≤ (s.1.drop 4).length then ((s.1.drop 4).take (beV (s.1.take 4)), ((s.1.drop 4).drop (beV (s.1.take 4)), s.2)) else ([], ([], true))
def rdCodes : Nat → RS → List Int → List Int × RS
  | 0, s, l => (l, s)
  | n + 1, s, l => if s.2 then (l, s) else rdCodes n (rdN 2 s).2 (l ++ [((rdN 2 s).1 : Int)])
def putD (D : List (Int × Rp)) (id : Int) (r : Rp) : List (Int × Rp) := if id ∈ D.map (·.1) then D.map fun x => if x.1 = id then (id, r) else x else D ++ [(id, r)]
def rdOne (s : RS) : (Int × Rp) × RS :=
  let a := rdN 8 s
  let b := rdN 1 a.2
  let c := rdN 1 b.2
  let d := rdN 2 c.2
  let e := rdN 4 d.2
  let p := rdP e.2
  (((a.1 : Int), ⟨(b.1 : Int), (c.1 : Int), (d.1 : Int), p.1, (e.1 : Int)⟩), p.2)
def rdDone : Nat → RS → List (Int × Rp) → List (Int × Rp) × RS
  | 0, s, D => (D, s)
  | n + 1, s, D => if s.2 then (D, s) else rdDone n (rdOne s).2 (putD D (rdOne s).1.1 (rdOne s).1.2)
def readG (b : List UInt8) : Bool × Gs :=
  let a := rdN 2 (b, false)
  let c := rdCodes a.1 a.2 []
  let f := rdN 8 c.2
  let n := rdN 2 f.2
  let d := rdDone n.1 n.2 []
  (!d.2.2 && decide (d.2.1 = []), ⟨c.1, (f.1 : Int), d.1⟩)
theorem rdN_lt {n : Nat} {s : RS} : (rdN n s).1 < 256 ^ n := by
  unfold rdN
  split
  · have h1 := beV_lt (s.1.take n)
    exact Nat.lt_of_lt_of_le h1 (Nat.pow_le_pow_right (by decide) (by rw [List.length_take]; omega))
  · exact Nat.pow_pos (by decide)
theorem rdN_len {n : Nat} {s : RS} : (rdN n s).2.1.length ≤ s.1.length := by
  unfold rdN
  split
  · show (s.1.drop n).length ≤ _; rw [List.length_drop]; omega
  · exact Nat.zero_le _
theorem rdP_len {s : RS} : (rdP s).1.length ≤ s.1.length ∧ (rdP s).2.1.length ≤ s.1.length := by
  unfold rdP
  split
  · refine ⟨?_, ?_⟩
    · show ((s.1.drop 4).take _).length ≤ _; rw [List.length_take, List.length_drop]; omega
    · show ((s.1.drop 4).drop _).length ≤ _; rw [List.length_drop, List.length_drop]; omega
  · exact ⟨Nat.zero_le _, Nat.zero_le _⟩
section
variable {pool : PoolL} {D : List (Int × Rp)} {kvs : List KV} {id : Int} {r : Rp} {dv : Value} {ck : Nat}
theorem putD_keys_in (h : id ∈ D.map (·.1)) : (putD D id r).map (·.1) = D.map (·.1) := by
  unfold putD
  rw [if_pos h, List.map_map]
  refine List.map_congr_left fun x _ => ?_
  show (if x.1 = id then (id, r) else x).1 = x.1
  split
  · rename_i e; exact e.symm
  · rfl
theorem putM_keys_in {v : Value} (h : kvs.any (fun x => x.1 == id) = true) : (putM kvs id v ck).map (·.1) = kvs.map (·.1) := by
  unfold putM
  rw [if_pos h, List.map_map]
  refine List.map_congr_left fun x _ => ?_
  show (if x.1 = id then (id, v, x.2.2) else x).1 = x.1
  split
  · rename_i e; exact e.symm
  · rfl
/-- A value stored, there or not. -/
theorem okD_set (h : okD pool D kvs) (hp : (dv, r.data) ∈ pool) : okD pool (putD D id r) (putM kvs id (r.val dv) ck) := by
  by_cases hin : id ∈ D.map (·.1)
  · obtain ⟨h1, h2, h3⟩ := h
    have hany : kvs.any (fun x => x.1 == id) = true := by
      obtain ⟨x, hx, e⟩ := List.mem_map.1 (h1.mem_iff.2 hin)
      exact List.any_eq_true.2 ⟨x, hx, by simp [e]⟩
    refine ⟨by rw [putD_keys_in hin, putM_keys_in hany]; exact h1, by rw [putD_keys_in hin]; exact h2, fun x hx => ?_⟩
    rcases mem_putM hx with ⟨e1, e2⟩ | ⟨hx, hne⟩
    · refine ⟨r, dv, ?_, e2, hp⟩
      rw [e1]
      obtain ⟨y, hy, e⟩ := List.mem_map.1 hin
      unfold putD
      rw [if_pos hin]
      exact List.mem_map.2 ⟨y, hy, by rw [if_pos e]⟩
    · obtain ⟨r', dv', hr1, hr2, hr3⟩ := h3 x hx
      refine ⟨r', dv', ?_, hr2, hr3⟩
      unfold putD
      rw [if_pos hin]
      exact List.mem_map.2 ⟨_, hr1, by rw [if_neg hne]⟩
  · have e : putD D id r = D ++ [(id, r)] := by unfold putD; rw [if_neg hin]
    rw [e]
    exact okD_putIn h hp hin
end
theorem rdCodes_bad {n : Nat} {s : RS} {l : List Int} (h : s.2 = true) : rdCodes n s l = (l, s) := by
  cases n with
  | zero => rfl
  | succ n => unfold rdCodes; rw [if_pos h]
theorem rdDone_bad {n : Nat} {s : RS} {D : List (Int × Rp)} (h : s.2 = true) : rdDone n s D = (D, s) := by
  cases n with
  | zero => rfl
  | succ n => unfold rdDone; rw [if_pos h]
theorem rdCodes_len : ∀ (n : Nat) (s : RS) (l : List Int), (rdCodes n s l).2.1.length ≤ s.1.length
  | 0, s, l => Nat.le_refl _
  | n + 1, s, l => by
    unfold rdCodes
    split
    · exact Nat.le_refl _
    · exact Nat.le_trans (rdCodes_len n _ _) rdN_len
theorem rdDone_step {m : Nat} {s : RS} {D : List (Int × Rp)} (h : s.2 = false) : rdDone (m + 1) s D = rdDone m (rdP (rdN 4 (rdN 2 (rdN 1 (rdN 1 (rdN 8 s).2).2).2).2).2).2 (putD D ((rdN 8 s).1 : Int) (⟨((rdN 1 (rdN 8 s).2).1 : Int), ((rdN 1 (rdN 1 (rdN 8 s).2).2).1 : Int), ((rdN 2 (rdN 1 (rdN 1 (rdN 8 s).2).2).2).1 : Int), (rdP (rdN 4 (rdN 2 (rdN 1 (rdN 1 (rdN 8 s).2).2).2).2).2).1, ((rdN 4 (rdN 2 (rdN 1 (rdN 1 (rdN 8 s).2).2).2).2).1 : Int)⟩ : Rp)) := by
  rw [rdDone, if_neg (by rw [h]; decide)]
  simp only [rdOne]
theorem readG_eq (b : List UInt8) : readG b = (!(rdDone (rdN 2 (rdN 8 (rdCodes (rdN 2 (b, false)).1 (rdN 2 (b, false)).2 []).2).2).1 (rdN 2 (rdN 8 (rdCodes (rdN 2 (b, false)).1 (rdN 2 (b, false)).2 []).2).2).2 []).2.2 && decide ((rdDone (rdN 2 (rdN 8 (rdCodes (rdN 2 (b, false)).1 (rdN 2 (b, false)).2 []).2).2).1 (rdN 2 (rdN 8 (rdCodes (rdN 2 (b, false)).1 (rdN 2 (b, false)).2 []).2).2).2 []).2.1 = []), ⟨(rdCodes (rdN 2 (b, false)).1 (rdN 2 (b, false)).2 []).1, ((rdN 8 (rdCodes (rdN 2 (b, false)).1 (rdN 2 (b, false)).2 []).2).1 : Int), (rdDone (rdN 2 (rdN 8 (rdCodes (rdN 2 (b, false)).1 (rdN 2 (b, false)).2 []).2).2).1 (rdN 2 (rdN 8 (rdCodes (rdN 2 (b, false)).1 (rdN 2 (b, false)).2 []).2).2).2 []).1⟩) := by
  simp only [readG]
/-! ### A table read -/
def kAt (b : List UInt8) (i : Nat) : Int := (beV ((b.drop (4 + 8 * i)).take 8) : Nat)
def tK (b : List UInt8) (k : Nat) : Tb := ⟨fun j => if j < k then kAt b j else 0, -1, 0, ((beV (b.take 4) : Nat) : Int)⟩
def decT0 (b : List UInt8) : Tb := if (b.getD 68 0).toNat < 8 ∧ (tK b 8).K (b.getD 68 0).toNat ≠ 0 ∧ typedB ((b.getD 69 0).toNat : Int) = true then (tK b 8).take ((b.getD 68 0).toNat : Int) ((b.getD 69 0).toNat : Int) else tK b 8
def decT (b : List UInt8) : Option Tb := if b.length = 70 ∧ encT (decT0 b) = b then some (decT0 b) else none
theorem kAt_lt (b : List UInt8) (i : Nat) : 0 ≤ kAt b i ∧ kAt b i < 18446744073709551616 := by
  have h1 := beV_lt ((b.drop (4 + 8 * i)).take 8)
  have h2 : 256 ^ ((b.drop (4 + 8 * i)).take 8).length ≤ 256 ^ 8 := Nat.pow_le_pow_right (by decide) (by rw [List.length_take]; omega)
  have h3 : (256 : Nat) ^ 8 = 18446744073709551616 := by decide
  unfold kAt
  omega
theorem gen_lt (b : List UInt8) : beV (b.take 4) < 4294967296 := by
  have h1 := beV_lt (b.take 4)
  have h2 : 256 ^ (b.take 4).length ≤ 256 ^ 4 := Nat.pow_le_pow_right (by decide) (by rw [List.length_take]; omega)
  have h3 : (256 : Nat) ^ 4 = 4294967296 := by decide
  omega
theorem tK_put (b : List UInt8) (k : Nat) : (tK b k).put k (kAt b k) = tK b (k + 1) := by
  unfold tK Tb.put
  congr 1
  funext j
  show (if j = k then kAt b k else if j < k then kAt b j else 0) = if j < k + 1 then kAt b j else 0
  by_cases h : j = k
  · subst h; rw [if_pos rfl, if_pos (by omega)]
  · rw [if_neg h]
    by_cases h2 : j < k
    · rw [if_pos h2, if_pos (by omega)]
    · rw [if_neg h2, if_neg (by omega)]
theorem tK_ok (b : List UInt8) : okT (tK b 8) := by
  refine ⟨fun i hi => ?_, Int.natCast_nonneg _, by have := gen_lt b; show ((beV (b.take 4) : Nat) : Int) < _; omega⟩
  show 0 ≤ (if i < 8 then kAt b i else 0) ∧ (if i < 8 then kAt b i else 0) < _
  rw [if_pos hi]
  exact kAt_lt b i
theorem decT0_ok (b : List UInt8) : okT (decT0 b) := by
  unfold decT0
  split
  · exact tK_ok b
  · exact tK_ok b
/-! ### Blocks read -/
def decRows : List (Nat × Nat) → Sp → List UInt8 → Option Sp
  | [], s, _ => some s
  | r :: l, s, rest => if s.N < r.1 + r.2 ∨ rest.length < 8 * r.2 then none else decRows l ⟨s.N, over s.d (8 * r.1) (rest.take (8 * r.2)), s.m⟩ (rest.drop (8 * r.2))
def nB (b : List UInt8) : Nat := if 2 ≤ b.length then beV (b.take 2) else 0
def mB (b : List UInt8) : List UInt8 := (b.drop 2).take ((nB b + 7) / 8)
def decS0 (b : List UInt8) : Option Sp :=
  if (1 ≤ nB b ∧ nB b ≤ 1024) ∧ 2 + (nB b + 7) / 8 ≤ b.length then decRows (rowsOf (mB b)) ⟨nB b, List.replicate (8 * nB b) 0, mB b⟩ (b.drop (2 + (nB b + 7) / 8)) else none
def decS (b : List UInt8) : Option Sp := (decS0 b).bind fun s => if SpM.encS s = b then some s else none
theorem nB_lt (b : List UInt8) : nB b < 65536 := by
  unfold nB
  split
  · have h1 := beV_lt (b.take 2)
    have h2 : 256 ^ (b.take 2).length ≤ 256 ^ 2 := Nat.pow_le_pow_right (by decide) (by rw [List.length_take]; omega)
    have h3 : (256 : Nat) ^ 2 = 65536 := by decide
    omega
  · decide
theorem mB_len {b : List UInt8} (h : 2 + (nB b + 7) / 8 ≤ b.length) : (mB b).length = (nB b + 7) / 8 := by unfold mB; rw [List.length_take, List.length_drop]; omega
theorem capS_rows {s : Sp} {R : List (Nat × Nat)} (hR : BitM.Rows s.m R) (h : ∀ r ∈ R, r.1 + r.2 ≤ s.N) : capS s := fun j hj => by
  obtain ⟨r, hr, h1, h2⟩ := (hR.cover j).1 hj
  have := h r hr
  omega
theorem decRows_step {l : List (Nat × Nat)} {r : Nat × Nat} {s : Sp} {rest : List UInt8} {k : Nat} (h : l[k]? = some r) (hn : ¬ (s.N < r.1 + r.2 ∨ rest.length < 8 * r.2)) :
    decRows (l.drop k) s rest = decRows (l.drop (k + 1)) ⟨s.N, over s.d (8 * r.1) (rest.take (8 * r.2)), s.m⟩ (rest.drop (8 * r.2)) := by
  have hlt := (List.getElem?_eq_some_iff.1 h).1
  have he := (List.getElem?_eq_some_iff.1 h).2
  rw [List.drop_eq_getElem_cons hlt, he]
  show (if _ then _ else _) = _
  rw [if_neg hn]
theorem decRows_stop {l : List (Nat × Nat)} {r : Nat × Nat} {s : Sp} {rest : List UInt8} {k : Nat} (h : l[k]? = some r) (hn : s.N < r.1 + r.2 ∨ rest.length < 8 * r.2) : decRows (l.drop k) s rest = none := by
  have hlt := (List.getElem?_eq_some_iff.1 h).1
  have he := (List.getElem?_eq_some_iff.1 h).2
  rw [List.drop_eq_getElem_cons hlt, he]
  show (if _ then _ else _) = _
  rw [if_pos hn]
/-! ### A unit read -/
def rdGs : Nat → RS → List Gs → Option (RS × List Gs)
  | 0, s, l => some (s, l)
  | n + 1, s, l => if (readG (rdP s).1).1 = true then rdGs n (rdP s).2 (l ++ [(readG (rdP s).1).2]) else none
def decU0 (b : List UInt8) : Option Un :=
  (decS (rdP (b, false)).1).bind fun s => (decT (rdP (rdP (b, false)).2).1).bind fun t => (rdGs 8 (rdP (rdP (b, false)).2).2 []).bind fun p => if p.1.2 = true then none else some ⟨s, t, p.2⟩
def decU (b : List UInt8) : Option Un := (decU0 b).bind fun u => if encU u (SpM.encS u.s) = b then some u else none
end Go.Sl.UnM
