/-
  Bytes as cells; what is shared and only read; the small steps of lists of assertions.
-/
import Derived.Test.YtlahgihjjabgmaaSlCut
namespace Go.Sl
open Go
set_option linter.unusedVariables false

abbrev byteV (c : UInt8) : Value := .int .u8 c.toNat
abbrev bytesV (bs : List UInt8) : List Value := bs.map byteV
theorem bytes_one {bs : List UInt8} : ∀ u ∈ bytesV bs, u.oneCell' = true := by
  intro u hu; obtain ⟨c, _, rfl⟩ := List.mem_map.1 hu; rfl
/-- A slice of bytes that reads so. -/
abbrev Bytes (v : Value) (bs : List UInt8) : HProp := Cells 1 v bs.length (bytesV bs)
abbrev OwnB (v : Value) (bs : List UInt8) : HProp := Own 1 v bs.length (bytesV bs)
theorem Bytes_mono (v : Value) (bs : List UInt8) : Mono (Bytes v bs) := Cells_mono _ _ _ _

theorem Gives.b {L : List HProp} {B : HProp} {v : Value} {bs : List UInt8} (g : Gives L (Bytes v bs)) : Gives (B :: L) (Bytes v bs) := g.cons (Bytes_mono _ _)

section
variable {P : Program} {W0 w : World} {L : List HProp} {A B : HProp}
theorem On.new (H : On W0 L w) (a : ∀ h, A h) : On W0 (A :: L) w := H.imp fun h s => ⟨fun _ => none, h, (fun _ _ _ e _ => by cases e), (fun _ _ e => by cases e), Sub.refl _, a _, s⟩
theorem On.ownEmpty (H : On W0 L w) (size : Nat) (a : Option Addr) : On W0 (Own size (.slice a 0 0) 0 [] :: L) w := H.new fun _ => ⟨by simp, .inl ⟨rfl, a, rfl⟩⟩
theorem On.reads {A : HProp} (H : On W0 L w) (g : Gives L A) : A (hp w) := g _ H.sat
/-- Two parts as one, where both only say what a bigger heap keeps. -/
theorem On.merge {C : HProp} (H : On W0 (A :: B :: L) w) (i : ∀ h k l, Sub h l → Sub k l → A h → B k → C l) : On W0 (C :: L) w := H.imp fun h s => by
  obtain ⟨h1, h2, d, s1, s2, a, k1, k2, d', t1, t2, b, r⟩ := s
  refine ⟨union h1 k1, k2, dis_union (d.mono (Sub.refl _) t2) d', union_sub s1 (t1.trans s2), t2.trans s2, i h1 k1 _ (union_left _ _) (union_right (d.mono (Sub.refl _) t1)) a b, r⟩

/-- Slices of bytes that nobody writes any more: they may be shared. -/
def Pool (ps : List (Value × List UInt8)) : HProp := fun h => ∀ p ∈ ps, Bytes p.1 p.2 h
theorem Pool_mono (ps : List (Value × List UInt8)) : Mono (Pool ps) := fun h k s H p hp => Bytes_mono _ _ h k s (H p hp)
theorem On.pool0 (H : On W0 L w) : On W0 (Pool [] :: L) w := H.new fun _ _ h => by cases h
/-- What was just made goes to the pool. -/
theorem On.toPool {v : Value} {bs : List UInt8} {ps : List (Value × List UInt8)} (H : On W0 (OwnB v bs :: Pool ps :: L) w) : On W0 (Pool ((v, bs) :: ps) :: L) w :=
  H.merge fun h k l s1 s2 a b p hp => by
    rcases List.mem_cons.1 hp with rfl | hp
    · exact Bytes_mono _ _ _ _ s1 a.cells
    · exact Bytes_mono _ _ _ _ s2 (b p hp)
theorem Gives.pool {ps : List (Value × List UInt8)} {v : Value} {bs : List UInt8} (h : (v, bs) ∈ ps) : Gives (Pool ps :: L) (Bytes v bs) := Gives.head (Bytes_mono _ _) fun _ H => H _ h

theorem Cells.form {size n : Nat} {v : Value} {xs : List Value} {h : Hp} (C : Cells size v n xs h) : ∃ a c, v = .slice a n c ∧ n ≤ c ∧ c ≤ maxLen ∧ (a = none → c = 0) := by
  obtain ⟨_, ao, cap, hv, h1, h2, h3, _⟩ := C
  exact ⟨ao, cap, hv, h1, h2, h3⟩
theorem Own.form {size n : Nat} {v : Value} {xs : List Value} (H : On W0 (Own size v n xs :: L) w) : ∃ a c, v = .slice a n c ∧ n ≤ c ∧ c ≤ maxLen ∧ (a = none → c = 0) := by
  obtain ⟨h1, s, a⟩ := H.sat.fact
  exact a.cells.form
/-- Its capacity is cut down to its length. -/
theorem Own.clip {size n c : Nat} {a : Option Addr} {xs : List Value} (H : On W0 (Own size (.slice a n c) n xs :: L) w) : On W0 (Own size (.slice a n n) n xs :: L) w := H.head fun h ⟨hl, o⟩ => by
  refine ⟨hl, ?_⟩
  rcases o with ⟨rfl, ao, hv⟩ | ⟨g, off, cap, cur, e, fr, hv, h1, h2, h3, h4, h5, h6⟩
  · exact .inl ⟨rfl, a, rfl⟩
  · simp only [Value.slice.injEq] at hv
    obtain ⟨rfl, _, rfl⟩ := hv
    have : n * size ≤ c * size := Nat.mul_le_mul_right _ h1
    exact .inr ⟨g, off, n, cur, e, fr, rfl, Nat.le_refl _, by omega, by omega, h4, h5, h6⟩
theorem maxLen_eq : maxLen = 9223372036854775807 := rfl
end
end Go.Sl
