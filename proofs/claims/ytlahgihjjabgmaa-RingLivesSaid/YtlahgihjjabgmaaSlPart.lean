/-
  Parts of a row that is owned: where they lie, cleared.
-/
import Derived.Test.YtlahgihjjabgmaaSlMake
namespace Go.Sl
open Go
set_option linter.unusedVariables false
section
variable {P : Program} {W0 w : World} {L : List HProp} {ρ : Operand → Value} {d : Option Nat} {ty : TypeId} {pos : String} {af : Array Edge} {g : Option (Nat × Bool)}
/-- A part of a row of cells, by its place. -/
theorem sliced_part {b o lo hi c : Nat} (h1 : lo ≤ hi) (h2 : hi ≤ c) : ∃ lo', sliced (some ⟨b, o, none⟩) lo hi c 1 = .slice (some ⟨b, o + lo', none⟩) (hi - lo) (c - lo) ∧ (lo' = lo ∨ (hi - lo = 0 ∧ lo' = 0)) := by
  unfold sliced
  by_cases h : c = lo
  · exact ⟨0, by simp [h], .inr ⟨by omega, rfl⟩⟩
  · exact ⟨lo, by simp [h, Addr.add_mk], .inl rfl⟩
/-- A cut whose value is known by another name. -/
theorem run_cutLV {t e size n c l : Nat} {kl : IntKind} {x y : Operand} {a : Option Addr} {v : Value} (hU : P.underlying t = some (.slice e)) (hS : ∀ w, (sizeOf e).run P w = .ok size w) (hx : ρ x = .slice a n c) (hy : ρ y = .int kl l) (h1 : l ≤ n) (hv : sliced a l n c size = v) :
    (execOp ρ ⟨d, .slice t x (some y) none none, ty, pos, af, g⟩).run P w = .ok (.value v) w := by rw [← hv]; exact run_cutL hU hS hx hy h1
theorem run_cutLHV {t e size n c l h : Nat} {kl kh : IntKind} {x y z : Operand} {a : Option Addr} {v : Value} (hU : P.underlying t = some (.slice e)) (hS : ∀ w, (sizeOf e).run P w = .ok size w) (hx : ρ x = .slice a n c) (hy : ρ y = .int kl l) (hz : ρ z = .int kh h) (h1 : l ≤ h) (h2 : h ≤ c) (hv : sliced a l h c size = v) :
    (execOp ρ ⟨d, .slice t x (some y) (some z) none, ty, pos, af, g⟩).run P w = .ok (.value v) w := by rw [← hv]; exact run_cutLH hU hS hx hy hz h1 h2
theorem run_andV {t yt : TypeId} {x y : Operand} {k : IntKind} {m n : Nat} {v : Int} (hv : ((m &&& n : Nat) : Int) = v) (hx : ρ x = .int k (m : Int)) (hy : ρ y = .int k (n : Int)) (hm : (m : Int) ≤ k.max) (hn : (n : Int) ≤ k.max) :
    (execOp ρ ⟨d, .binOp .and t x y yt, ty, pos, af, g⟩).run P w = .ok (.value (.int k v)) w := by rw [← hv]; exact run_andN hx hy hm hn
theorem zeroOne (z : Value) (n : Nat) : (Builtin.zeroCells #[z] n).toList = List.replicate n z := by
  apply List.ext_getElem
  · simp [Builtin.zeroCells]
  · intro i h1 h2; simp [Builtin.zeroCells, Nat.mod_one]
/-- clear of a part of a slice that is owned. -/
theorem eff_clearIn {t e lo m n c c' : Nat} {b o : Nat} {z : Value} {xs : List Value} {sx : Operand} {tys : Array TypeId} (H : On W0 (Own 1 (.slice (some ⟨b, o, none⟩) n c) n xs :: L) w) (hs : ρ sx = .slice (some ⟨b, o + lo, none⟩) m c')
    (ht : tys[0]? = some t) (hU : P.underlying t = some (.slice e)) (hZ : ∀ w, (zeroValue e).run P w = .ok z w) (hz : z.cells = #[z]) (hz1 : z.oneCell' = true) (hlo : lo + m ≤ n) :
    Eff P ρ ⟨d, .call { callee := .builtin .clear, args := #[sx], argTypes := tys }, ty, pos, af, g⟩ w (fun v w' => On W0 (Own 1 (.slice (some ⟨b, o, none⟩) n c) n (splice xs lo (List.replicate m z)) :: L) w') := by
  obtain ⟨hxl, hO⟩ := Own.openOn H
  rw [Nat.mul_one] at hxl
  rcases hO with ⟨rfl, ao, hv'⟩ | ⟨gb, off, cap, cur, e', fr, hv', hnc, hcm, hfit, htake, hfree, Hb⟩
  · obtain rfl : m = 0 := by omega
    obtain rfl : lo = 0 := by omega
    have hx0 : xs = [] := List.eq_nil_of_length_eq_zero hxl
    subst hx0
    refine .inl ⟨.tuple #[], w, ?_, by simpa [splice] using H⟩
    simp [execOp, resolve, invoke, builtin, hs, Builtin.clear_, ht, run_underlying hU]
  · simp only [Value.slice.injEq, Option.some.injEq, Addr.mk.injEq] at hv'
    obtain ⟨⟨rfl, rfl, _⟩, _, rfl⟩ := hv'
    rw [Nat.mul_one] at hfit htake
    have hlt : (List.replicate m z).length = m := by simp
    obtain ⟨w', hst, hO'⟩ := Hb.storeCells (P := P) 0 rfl (o + lo) (List.replicate m z) (by omega) (fun u hu => by rw [(List.mem_replicate.1 hu).2]; exact hz1) (fun q h1 h2 => free_ok hfree (by omega))
    have hcl : On W0 (Own 1 (.slice (some ⟨b, o, none⟩) n c) n (splice xs lo (List.replicate m z)) :: L) w' := by
      refine Own.closeOn (e := e') (fr := fr) hO' ?_ hnc hcm (by rw [splice_length (by omega), Nat.mul_one]; exact hfit) ?_ (by rw [splice_length (by omega)]; exact hfree)
      · rw [splice_length (by omega), Nat.mul_one]; exact hxl
      · rw [Nat.mul_one, drop_splice_take (by omega) (by omega), htake]
    by_cases hm0 : m = 0
    · subst hm0
      refine .inl ⟨.tuple #[], w, ?_, ?_⟩
      · simp [execOp, resolve, invoke, builtin, hs, Builtin.clear_, ht, run_underlying hU]
      · have : splice xs lo (List.replicate 0 z) = xs := by simp [splice]
        rw [this]; exact H
    · refine .inl ⟨.tuple #[], w', ?_, hcl⟩
      obtain ⟨q, rfl⟩ : ∃ q, m = q + 1 := ⟨m - 1, by omega⟩
      have hzc : (Builtin.zeroCells z.cells (q + 1)).toList = List.replicate (q + 1) z := by rw [hz, zeroOne]
      rw [← hzc] at hst
      simp [execOp, resolve, invoke, builtin, hs, Builtin.clear_, ht, run_underlying hU, hZ, hst]
end
end Go.Sl
