/-
  The search in lists of assertions, by type classes: an assertion to the front; a list out of another one; an owned slice by its value.
-/
import Derived.Test.YtlahgihjjabgmaaSlMore
namespace Go.Sl
open Go
set_option linter.unusedVariables false

class Pull (L : List HProp) (A : HProp) (L' : outParam (List HProp)) : Prop where
  out : ∀ h, Sat L h → Sat (A :: L') h
instance Pull.here {A : HProp} {L : List HProp} : Pull (A :: L) A L := ⟨fun _ H => H⟩
instance (priority := low) Pull.there {A B : HProp} {L L' : List HProp} [p : Pull L A L'] : Pull (B :: L) A (B :: L') := ⟨fun h H => (H.tailImp p.out).swap⟩

class To (L T : List HProp) : Prop where
  out : ∀ h, Sat L h → Sat T h
instance (priority := high) To.refl {L : List HProp} : To L L := ⟨fun _ H => H⟩
instance (priority := high) To.nil {L : List HProp} : To L [] := ⟨fun _ _ => trivial⟩
instance To.cons {L L' T : List HProp} {A : HProp} [p : Pull L A L'] [t : To L' T] : To L (A :: T) := ⟨fun h H => (p.out h H).tailImp t.out⟩
instance (priority := low) To.drop {A : HProp} {L T : List HProp} [t : To L T] : To (A :: L) T := ⟨fun h H => t.out h H.tail⟩

class OwnIn (L : List HProp) (v : Value) (size : outParam Nat) (n : outParam Nat) (xs : outParam (List Value)) (L' : outParam (List HProp)) : Prop where
  out : ∀ h, Sat L h → Sat (Own size v n xs :: L') h
instance OwnIn.here {L : List HProp} {v : Value} {size n : Nat} {xs : List Value} : OwnIn (Own size v n xs :: L) v size n xs L := ⟨fun _ H => H⟩
instance (priority := low) OwnIn.there {B : HProp} {L L' : List HProp} {v : Value} {size n : Nat} {xs : List Value} [p : OwnIn L v size n xs L'] : OwnIn (B :: L) v size n xs (B :: L') := ⟨fun h H => (H.tailImp p.out).swap⟩

theorem Own.bounds {W0 w : World} {L : List HProp} {size n c : Nat} {a : Option Addr} {xs : List Value} (H : On W0 (Own size (.slice a n c) n xs :: L) w) : n ≤ c ∧ c ≤ maxLen := by
  obtain ⟨_, _, hv, h1, h2, _⟩ := Own.form H
  simp only [Value.slice.injEq] at hv
  obtain ⟨_, _, rfl⟩ := hv
  exact ⟨h1, h2⟩
theorem Cells.bounds {size n c : Nat} {a : Option Addr} {xs : List Value} {h : Hp} (C : Cells size (.slice a n c) n xs h) : n ≤ c ∧ c ≤ maxLen := by
  obtain ⟨_, _, hv, h1, h2, _⟩ := C.form
  simp only [Value.slice.injEq] at hv
  obtain ⟨_, _, rfl⟩ := hv
  exact ⟨h1, h2⟩

theorem Cells.addr {size n c : Nat} {a : Option Addr} {xs : List Value} {h : Hp} (C : Cells size (.slice a n c) n xs h) (hn : 0 < n) : ∃ b o, a = some ⟨b, o, none⟩ := by
  obtain ⟨_, ao, cap, hv, _, _, _, h4⟩ := C
  obtain ⟨b, o, rfl, _⟩ := h4 hn
  simp only [Value.slice.injEq] at hv
  exact ⟨b, o, hv.1⟩
theorem Cells.front {size n k c : Nat} {a : Option Addr} {xs : List Value} {h : Hp} (C : Cells size (.slice a n c) n xs h) (hk : k ≤ n) : Cells size (.slice a k c) k (xs.take (k * size)) h := by
  obtain ⟨hl, ao, cap, hv, h1, h2, h3, h4⟩ := C
  simp only [Value.slice.injEq] at hv
  obtain ⟨rfl, _, rfl⟩ := hv
  have hks : k * size ≤ n * size := Nat.mul_le_mul_right _ hk
  refine ⟨by rw [List.length_take]; omega, a, c, rfl, by omega, h2, h3, fun hp => ?_⟩
  obtain ⟨b, o, rfl, r⟩ := h4 (by omega)
  refine ⟨b, o, rfl, fun j u hj => ?_⟩
  rw [List.getElem?_take] at hj
  split at hj
  · exact r j u hj
  · cases hj

section
variable {P : Program} {W0 w : World} {L L' : List HProp} {ρ : Operand → Value} {d : Option Nat} {ty : TypeId} {pos : String} {af : Array Edge} {g : Option (Nat × Bool)}

theorem On.fetch (H : On W0 L w) (A : HProp) [p : Pull L A L'] : On W0 (A :: L') w := H.imp p.out
theorem On.to {T : List HProp} (H : On W0 L w) [t : To L T] : On W0 T w := H.imp t.out
theorem On.own (H : On W0 L w) (v : Value) {size n : Nat} {xs : List Value} [p : OwnIn L v size n xs L'] : On W0 (Own size v n xs :: L') w := H.imp p.out
theorem On.cellsO (H : On W0 L w) {v : Value} {size n : Nat} {xs : List Value} [p : OwnIn L v size n xs L'] : Cells size v n xs (hp w) := (H.imp p.out).cells 0 rfl
theorem On.readsTo {A : HProp} {T : List HProp} (H : On W0 L w) [t : To L T] (g : Gives T A) : A (hp w) := g _ (t.out _ H.sat)
theorem Gives.to {A : HProp} {T : List HProp} [t : To L T] (g : Gives T A) : Gives L A := fun h H => g h (t.out h H)

/-- append(s, y...), s found by its value; y is read. -/
theorem eff_app {t e size n m bytes c1 c2 : Nat} {a1 a2 : Option Addr} {z : Value} {xs ys : List Value} {i : TypeInfo} {sx sy : Operand} (H : On W0 L w) (hs : ρ sx = .slice a1 n c1) (hy : ρ sy = .slice a2 m c2) [p : OwnIn L (.slice a1 n c1) size n xs L'] (C : Cells size (.slice a2 m c2) m ys (hp w))
    (hU : P.underlying t = some (.slice e)) (hI : P.info? e = some i) (hsz : i.size = size) (hby : i.bytes = bytes) (hz : i.zero = some z) (hzs : z.cells.size = size)
    (h63 : n + m ≤ maxLen) (hb : (n + m) * bytes ≤ 140737488355328) (h1c : ∀ u ∈ ys, u.oneCell' = true) :
    Eff P ρ ⟨d, .call { callee := .builtin .append, args := #[sx, sy], argTypes := #[t, t] }, ty, pos, af, g⟩ w (Grown size (n + m) (xs ++ ys) W0 L') :=
  eff_append (H.imp p.out) C hs hy hU hI hsz hby hz hzs h63 hb h1c

/-- append([]T{}, y...). -/
theorem eff_app0 {t e size m bytes c1 c2 : Nat} {a1 a2 : Option Addr} {z : Value} {xs ys : List Value} {i : TypeInfo} {sx sy : Operand} (H : On W0 L w) (hs : ρ sx = .slice a1 0 c1) (hy : ρ sy = .slice a2 m c2) [p : OwnIn L (.slice a1 0 c1) size 0 xs L'] (C : Cells size (.slice a2 m c2) m ys (hp w))
    (hU : P.underlying t = some (.slice e)) (hI : P.info? e = some i) (hsz : i.size = size) (hby : i.bytes = bytes) (hz : i.zero = some z) (hzs : z.cells.size = size)
    (h63 : m ≤ maxLen) (hb : m * bytes ≤ 140737488355328) (h1c : ∀ u ∈ ys, u.oneCell' = true) :
    Eff P ρ ⟨d, .call { callee := .builtin .append, args := #[sx, sy], argTypes := #[t, t] }, ty, pos, af, g⟩ w (Grown size m ys W0 L') := by
  have H' := H.imp p.out
  have hx : xs = [] := List.eq_nil_of_length_eq_zero (by simpa using (Own.openOn H').1)
  have := eff_append (P := P) (ρ := ρ) (d := d) (ty := ty) (pos := pos) (af := af) (g := g) H' C hs hy hU hI hsz hby hz hzs (by omega) (by rw [Nat.zero_add]; exact hb) h1c
  rw [Nat.zero_add, hx, List.nil_append] at this
  exact this

/-- '[]T{..}': new, and owned. -/
theorem eff_mkSlice {t n e size : Nat} {ps : List (Nat × Operand)} {z : Value} {zl : List Value} {pl : List (Nat × Nat)} {vs : List (Nat × Value)} {out : List Value} (H : On W0 L w)
    (hU : P.underlying t = some (.slice e)) (hS : ∀ w, (sizeOf e).run P w = .ok size w) (hZ : ∀ w, (zeroValue e).run P w = .ok z w) (hsmall : n * size ≤ 16777216) (hzl : ((Array.range (n * size)).map fun i => (if n * size = 0 then #[] else z.cells)[i % (if n * size = 0 then #[] else z.cells).size]!) = zl.toArray)
    (hpl : pl = (List.range n).map fun i => (i * size, size))
    (hv : ps.map (fun p => (p.1, ρ p.2)) = vs) (hlt : ∀ p ∈ vs, p.1 < n) (hf : fits pl zl.length vs) (ho : placed pl zl vs = out) (hol : out.length = n * size) (hn : n ≤ maxLen) :
    Eff P ρ ⟨d, .buildSlice t n ps.toArray, ty, pos, af, g⟩ w (fun v w' => ∃ b, v = .slice (some ⟨b, 0, none⟩) n n ∧ On W0 (Own size (.slice (some ⟨b, 0, none⟩) n n) n out :: L) w') := by
  rcases eff_buildSlice (P := P) (ρ := ρ) (d := d) (ty := ty) (pos := pos) (af := af) (g := g) H hU hS hZ hsmall hzl hpl hv hlt hf ho with ⟨v, w', h, b, hv', hO⟩ | ⟨w', h, b, hv', hO⟩ | ⟨f, args, w1, h, hc⟩
  · exact .inl ⟨v, w', h, b, hv', Own.ofBlk hO hol hn⟩
  · exact .inr (.inl ⟨w', h, b, hv', Own.ofBlk hO hol hn⟩)
  · exact .inr (.inr ⟨f, args, w1, h, Calls.mono hc (by rintro e w' ⟨v, he, b, hv', hO⟩; exact ⟨v, he, b, hv', Own.ofBlk hO hol hn⟩)⟩)

/-- string(b). -/
theorem foldl_push (bs : List UInt8) : ∀ (s : ByteArray), bs.foldl (fun r c => r.push c) s = ⟨s.data ++ bs.toArray⟩ := by
  induction bs with
  | nil => intro s; simp
  | cons c bs ih =>
    intro s
    rw [List.foldl_cons, ih]
    simp [ByteArray.push]
theorem run_bytesStr {src dst e n c : Nat} {a : Option Addr} {x : Operand} {bs : List UInt8} (hs : P.underlying src = some (.slice e)) (he : P.underlying e = some (.int .u8)) (hd : P.underlying dst = some .string) (hx : ρ x = .slice a n c) (C0 : Cells 1 (.slice a n c) n (bytesV bs) (hp w)) :
    (execOp ρ ⟨d, .convert src dst x, ty, pos, af, g⟩).run P w = .ok (.value (.string ⟨bs.toArray⟩)) w := by
  have hnl : n = bs.length := by have := C0.1; simpa using this.symm
  subst hnl
  have C : Bytes (.slice a bs.length c) bs (hp w) := C0
  have hf := run_firstCells_C (P := P) C
  obtain ⟨hl, ao, cap, hv, h1, h2, h3, h4⟩ := C
  rw [hv] at hf hx
  clear hv
  simp only [Builtin.firstCells, Nat.mul_one] at hf
  have key : ∀ (bs : List UInt8) (s : ByteArray) (w : World), (Sem.run P (forIn (bytesV bs).toArray s fun c s => do
      let .int .u8 n := c | stuck "bytesToString: byte expected"
      pure (ForInStep.yield (s.push (UInt8.ofNat n.toNat)))) w) = .ok (bs.foldl (fun r c => r.push c) s) w := by
    intro bs
    induction bs with
    | nil => intro s w; simp
    | cons c bs ih =>
      intro s w
      have := ih (s.push c) w
      simp only [List.forIn_toArray] at this ⊢
      simp only [bytesV, List.map_cons, List.forIn_cons, List.foldl_cons]
      simp only [Sem.run_bind]
      simp
  have hconv : (convert src dst (.slice ao bs.length cap)).run P w = .ok (.string ⟨bs.toArray⟩) w := by
    cases ao with
    | none =>
      have hz : bs.length = 0 := by have := h3 rfl; omega
      have hb : bs = [] := List.eq_nil_of_length_eq_zero hz
      subst hb
      simp [convert, run_underlying hs, run_underlying hd, run_underlying he, Conv.bytesToString]
      rfl
    | some a =>
      simp only at hf
      have := key bs ByteArray.empty w
      rw [foldl_push] at this
      simp [convert, run_underlying hs, run_underlying hd, run_underlying he, Conv.bytesToString, hf]
      simpa using this
  simp [execOp, hx, hconv]
end
end Go.Sl
