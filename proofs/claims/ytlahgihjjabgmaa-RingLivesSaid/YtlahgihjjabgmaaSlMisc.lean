/-
  []byte of a text; what is given by an owned slice anywhere; strings compared that are one.
-/
import Derived.Test.YtlahgihjjabgmaaSlFind
namespace Go.Sl
open Go
set_option linter.unusedVariables false

theorem Gives.ownO {L L' : List HProp} {v : Value} {size n : Nat} {xs : List Value} [p : OwnIn L v size n xs L'] : Gives L (Cells size v n xs) := fun h H => by
  obtain ⟨h1, s, a⟩ := (p.out h H).fact
  exact Cells_mono _ _ _ _ _ _ s a.cells
theorem Bytes_nil (h : Hp) : Bytes (.slice none 0 0) [] h := ⟨rfl, none, 0, rfl, Nat.le_refl _, by simp, fun _ => rfl, fun h => absurd h (by simp)⟩
theorem Gives.nilB {L : List HProp} : Gives L (Bytes (.slice none 0 0) []) := fun h _ => Bytes_nil h

section
variable {P : Program} {W0 w : World} {L L' : List HProp} {ρ : Operand → Value} {d : Option Nat} {ty : TypeId} {pos : String} {af : Array Edge} {g : Option (Nat × Bool)}

/-- A block's mark that a string was made of it. -/
theorem On.mark {b : Nat} {l : List Value} {e : Nat} {fr : Nat × Nat} (H : On W0 (blk b l e fr :: L) w) : On W0 (blk b l e (if fr.1 == fr.2 then (l.length, l.length + 1) else (min fr.1 l.length, max fr.2 (l.length + 1))) :: L) (w.freeze ⟨b, l.length, none⟩ 1) := by
  have hb := H.block 0 rfl
  refine H.set (w' := w.freeze ⟨b, l.length, none⟩ 1) 0 rfl rfl rfl rfl (by simp [World.freeze]) ?_ ?_
  · simp [World.freeze, Array.getElem?_modify, hb]
  · intro k hk
    simp [World.freeze, Array.getElem?_modify, Ne.symm hk]

theorem eff_ofString {t te n c : Nat} {a : Option Addr} {xs : List Value} {x : Operand} (H : On W0 L w) (hx : ρ x = .slice a n c) [p : OwnIn L (.slice a n c) 1 n xs L'] (hn : 0 < n)
    (hU : P.underlying t = some (.slice te)) (hE : P.underlying te = some (.int .u8)) :
    Eff P ρ ⟨d, .convert t t x, ty, pos, af, g⟩ w (fun v w' => v = .slice a n c ∧ On W0 (Own 1 (.slice a n c) n xs :: L') w') := by
  have H' := H.imp p.out
  obtain ⟨hxl, ho⟩ := Own.openOn H'
  rcases ho with ⟨h0, _⟩ | ⟨gb, off, cap, cur, e', fr, hv, h1, h2, h3, h4, h5, Hb⟩
  · omega
  · simp only [Value.slice.injEq] at hv
    obtain ⟨rfl, _, rfl⟩ := hv
    have hb := Hb.block 0 rfl
    have hsh : w.shape? gb = some (e', cur.length) := by simp [World.shape?, hb]
    refine .inl ⟨.slice (some ⟨gb, off, none⟩) n c, w.freeze ⟨gb, cur.length, none⟩ 1, ?_, rfl, ?_⟩
    · simp [execOp, convert, run_underlying hU, run_underlying hE, hx, markStringish, hsh]
    · refine Own.closeOn (On.mark Hb) hxl h1 h2 h3 h4 ?_
      split
      · exact .inr (Nat.le_refl _)
      · rename_i hne
        have : ¬ fr.1 = fr.2 := by simpa using hne
        right
        show cur.length ≤ min fr.1 cur.length
        omega
end
end Go.Sl
namespace Go.Sl
open Go
/-- What is read where the call begins is read in whatever heap still has the blocks of then. -/
theorem Gives.old {W : World} {size n : Nat} {v : Value} {xs : List Value} (C : Cells size v n xs (hp W)) : Gives [old W] (Cells size v n xs) := fun h H => by
  obtain ⟨h1, s, o⟩ := H.fact
  obtain ⟨hl, ao, cap, hv, a1, a2, a3, a4⟩ := C
  refine ⟨hl, ao, cap, hv, a1, a2, a3, fun hn => ?_⟩
  obtain ⟨b, off, he, r⟩ := a4 hn
  refine ⟨b, off, he, fun j u hj => ?_⟩
  have := r j u hj
  refine cellH_mono s ?_
  unfold cellH at this ⊢
  have hlt : b < W.heap.size := by
    rcases Nat.lt_or_ge b W.heap.size with h' | h'
    · exact h'
    · exfalso
      have hb : hp W b = none := by simp [hp, Array.getElem?_eq_none h']
      rw [hb] at this; cases this
  rw [o b hlt]
  exact this
theorem On.old0 (W : World) : On W [old W] W := On.start W
end Go.Sl
