/-
  A small separation logic over the model's worlds: partial heaps, lists of separated assertions, the states of a walk. Nothing of any program is named here.
-/
import Derived.WalkKit
namespace Go.Sl
open Go

/-! ### Partial heaps -/
abbrev Hp := Nat → Option Obj
abbrev HProp := Hp → Prop
def Sub (h k : Hp) : Prop := ∀ b o, h b = some o → k b = some o
def Dis (h k : Hp) : Prop := ∀ b o o', h b = some o → k b = some o' → False

theorem Sub.refl (h : Hp) : Sub h h := fun _ _ e => e
theorem Sub.trans {h k l : Hp} (a : Sub h k) (b : Sub k l) : Sub h l := fun x o e => b x o (a x o e)
theorem Dis.symm {h k : Hp} (d : Dis h k) : Dis k h := fun b o o' e e' => d b o' o e' e
theorem Dis.mono {h h' k k' : Hp} (d : Dis h k) (a : Sub h' h) (b : Sub k' k) : Dis h' k' := fun x o o' e e' => d x o o' (a x o e) (b x o' e')

def union (h k : Hp) : Hp := fun b => match h b with | some o => some o | none => k b
theorem union_left (h k : Hp) : Sub h (union h k) := fun b o e => by simp [union, e]
theorem union_right {h k : Hp} (d : Dis h k) : Sub k (union h k) := fun b o e => by
  unfold union
  cases hb : h b with
  | none => exact e
  | some o' => exact (d b o' o hb e).elim
theorem union_sub {h k l : Hp} (a : Sub h l) (b : Sub k l) : Sub (union h k) l := fun x o e => by
  unfold union at e
  cases hx : h x with
  | none => rw [hx] at e; exact b x o e
  | some o' => rw [hx] at e; cases e; exact a x o hx
theorem dis_union {h k l : Hp} (a : Dis h l) (b : Dis k l) : Dis (union h k) l := fun x o o' e e' => by
  unfold union at e
  cases hx : h x with
  | none => rw [hx] at e; exact b x o o' e e'
  | some o'' => exact a x o'' o' hx e'

/-- The assertions of a list hold of parts of the heap that do not meet. What is left over is nobody's. -/
def Sat : List HProp → Hp → Prop
  | [], _ => True
  | A :: L, h => ∃ h1 h2, Dis h1 h2 ∧ Sub h1 h ∧ Sub h2 h ∧ A h1 ∧ Sat L h2

theorem Sat.mono {L : List HProp} {h k : Hp} (s : Sub h k) (H : Sat L h) : Sat L k := by
  cases L with
  | nil => trivial
  | cons A L =>
    obtain ⟨h1, h2, d, s1, s2, a, r⟩ := H
    exact ⟨h1, h2, d, s1.trans s, s2.trans s, a, r⟩

theorem Sat.cons {A : HProp} {L : List HProp} {h1 h2 h : Hp} (d : Dis h1 h2) (s1 : Sub h1 h) (s2 : Sub h2 h) (a : A h1) (r : Sat L h2) : Sat (A :: L) h := ⟨h1, h2, d, s1, s2, a, r⟩

theorem Sat.tail {A : HProp} {L : List HProp} {h : Hp} (H : Sat (A :: L) h) : Sat L h := by
  obtain ⟨h1, h2, d, s1, s2, a, r⟩ := H
  exact r.mono s2

theorem Sat.swap {A B : HProp} {L : List HProp} {h : Hp} (H : Sat (A :: B :: L) h) : Sat (B :: A :: L) h := by
  obtain ⟨h1, h2, d, s1, s2, a, k1, k2, d', t1, t2, b, r⟩ := H
  refine ⟨k1, union h1 k2, ?_, t1.trans s2, union_sub s1 (t2.trans s2), b, h1, k2, d.mono (Sub.refl _) t2, union_left _ _, union_right (d.mono (Sub.refl _) t2), a, r⟩
  exact (dis_union (d.mono (Sub.refl _) t1) d'.symm).symm

theorem Sat.imp {A B : HProp} {L : List HProp} {h : Hp} (i : ∀ h, A h → B h) (H : Sat (A :: L) h) : Sat (B :: L) h := by
  obtain ⟨h1, h2, d, s1, s2, a, r⟩ := H
  exact ⟨h1, h2, d, s1, s2, i _ a, r⟩

theorem Sat.tailImp {A : HProp} {L L' : List HProp} {h : Hp} (i : ∀ h, Sat L h → Sat L' h) (H : Sat (A :: L) h) : Sat (A :: L') h := by
  obtain ⟨h1, h2, d, s1, s2, a, r⟩ := H
  exact ⟨h1, h2, d, s1, s2, a, i _ r⟩

theorem Sat.perm {L L' : List HProp} (p : L.Perm L') : ∀ {h : Hp}, Sat L h → Sat L' h := by
  induction p with
  | nil => exact fun H => H
  | cons A _ ih => exact fun H => H.tailImp fun _ => ih
  | swap A B L => exact fun H => H.swap
  | trans _ _ ih1 ih2 => exact fun H => ih2 (ih1 H)

theorem Sat.append {L M : List HProp} : ∀ {h : Hp}, Sat (L ++ M) h → ∃ h1 h2, Dis h1 h2 ∧ Sub h1 h ∧ Sub h2 h ∧ Sat L h1 ∧ Sat M h2 := by
  induction L with
  | nil => exact fun {h} H => ⟨fun _ => none, h, (fun _ _ _ e _ => by cases e), (fun _ _ e => by cases e), Sub.refl _, trivial, H⟩
  | cons A L ih =>
    intro h H
    obtain ⟨h1, h2, d, s1, s2, a, r⟩ := H
    obtain ⟨k1, k2, d', t1, t2, l, m⟩ := ih r
    refine ⟨union h1 k1, k2, dis_union (d.mono (Sub.refl _) t2) d', union_sub s1 (t1.trans s2), t2.trans s2, ⟨h1, k1, d.mono (Sub.refl _) t1, union_left _ _, union_right (d.mono (Sub.refl _) t1), a, l⟩, m⟩

theorem Sat.unappend {L M : List HProp} : ∀ {h h1 h2 : Hp}, Dis h1 h2 → Sub h1 h → Sub h2 h → Sat L h1 → Sat M h2 → Sat (L ++ M) h := by
  induction L with
  | nil => exact fun d s1 s2 _ m => m.mono s2
  | cons A L ih =>
    intro h h1 h2 d s1 s2 l m
    obtain ⟨k1, k2, d', t1, t2, a, r⟩ := l
    refine ⟨k1, union k2 h2, (dis_union d'.symm (d.symm.mono (Sub.refl _) t1)).symm, t1.trans s1, union_sub (t2.trans s1) s2, a, ?_⟩
    exact ih (d.mono t2 (Sub.refl _)) (union_left _ _) (union_right (d.mono t2 (Sub.refl _))) r m

/-- Several assertions as one. -/
def star (L : List HProp) : HProp := Sat L
theorem Sat.unstar {L M : List HProp} {h : Hp} (H : Sat (star L :: M) h) : Sat (L ++ M) h := by
  obtain ⟨h1, h2, d, s1, s2, a, r⟩ := H
  exact Sat.unappend d s1 s2 a r
theorem Sat.toStar {L M : List HProp} {h : Hp} (H : Sat (L ++ M) h) : Sat (star L :: M) h := by
  obtain ⟨h1, h2, d, s1, s2, a, r⟩ := Sat.append H
  exact ⟨h1, h2, d, s1, s2, a, r⟩

/-- A fact on plain data in the midst. -/
theorem Sat.fact {A : HProp} {L : List HProp} {h : Hp} (H : Sat (A :: L) h) : ∃ h1, Sub h1 h ∧ A h1 := by
  obtain ⟨h1, h2, d, s1, s2, a, r⟩ := H
  exact ⟨h1, s1, a⟩

/-! ### Atoms -/
/-- Block b is this object. -/
def pts (b : Nat) (o : Obj) : HProp := fun h => h b = some o

/-- What 'A' says, as a fact that each bigger heap keeps. -/
def Mono (A : HProp) : Prop := ∀ h k, Sub h k → A h → A k
theorem pts_mono (b : Nat) (o : Obj) : Mono (pts b o) := fun _ _ s e => s b o e

/-- 'L' gives the fact 'A' (that a bigger heap keeps): it is only read. -/
def Gives (L : List HProp) (A : HProp) : Prop := ∀ h, Sat L h → A h
theorem Gives.cons {L : List HProp} {A B : HProp} (m : Mono A) (g : Gives L A) : Gives (B :: L) A := fun h H => by
  obtain ⟨h1, h2, d, s1, s2, a, r⟩ := H
  exact m _ _ s2 (g _ r)
theorem Gives.head {L : List HProp} {A B : HProp} (m : Mono A) (i : ∀ h, B h → A h) : Gives (B :: L) A := fun h H => by
  obtain ⟨h1, h2, d, s1, s2, a, r⟩ := H
  exact m _ _ s1 (i _ a)

/-! ### Lists: to the front -/
theorem perm_pull {L : List HProp} : ∀ (i : Nat) {A : HProp}, L[i]? = some A → L.Perm (A :: L.eraseIdx i) := by
  induction L with
  | nil => intro i A h; simp at h
  | cons B L ih =>
    intro i A h
    cases i with
    | zero => simp at h; subst h; exact List.Perm.refl _
    | succ i =>
      simp at h
      refine ((ih i h).cons B).trans ?_
      exact List.Perm.swap A B _

theorem Sat.pull {L : List HProp} {h : Hp} (i : Nat) {A : HProp} (hi : L[i]? = some A) (H : Sat L h) : Sat (A :: L.eraseIdx i) h := H.perm (perm_pull i hi)

theorem Sat.get {L : List HProp} {h : Hp} (i : Nat) {A : HProp} (hi : L[i]? = some A) (m : Mono A) (H : Sat L h) : A h := by
  obtain ⟨h1, s, a⟩ := (H.pull i hi).fact
  exact m _ _ s a

theorem Sat.set {L : List HProp} : ∀ {h : Hp} (i : Nat) {b : Nat} {o o' : Obj}, L[i]? = some (pts b o) → Sat L h → Sat (L.set i (pts b o')) (fun x => if x = b then some o' else h x) := by
  induction L with
  | nil => intro h i b o o' hi; simp at hi
  | cons A L ih =>
    intro h i b o o' hi H
    obtain ⟨h1, h2, d, s1, s2, a, r⟩ := H
    cases i with
    | zero =>
      simp at hi
      subst hi
      refine ⟨fun x => if x = b then some o' else none, h2, ?_, ?_, ?_, by simp [pts], r⟩
      · intro x u u' e e'
        by_cases hx : x = b
        · subst hx; exact d x o u' a e'
        · simp [hx] at e
      · intro x u e
        by_cases hx : x = b
        · simp [hx] at e ⊢; exact e
        · simp [hx] at e
      · intro x u e
        by_cases hx : x = b
        · subst hx; exact (d x o u a e).elim
        · simp [hx]; exact s2 x u e
    | succ i =>
      simp at hi
      have hb : h2 b = some o := r.get i hi (pts_mono b o)
      refine ⟨h1, fun x => if x = b then some o' else h2 x, ?_, ?_, ?_, a, ih i hi r⟩
      · intro x u u' e e'
        by_cases hx : x = b
        · subst hx; exact d x u o e hb
        · simp [hx] at e'; exact d x u u' e e'
      · intro x u e
        by_cases hx : x = b
        · subst hx; exact (d x u o e hb).elim
        · simp [hx]; exact s1 x u e
      · intro x u e
        by_cases hx : x = b
        · simp [hx] at e ⊢; exact e
        · simp [hx] at e ⊢; exact s2 x u e

theorem Sat.new {L : List HProp} {h : Hp} {b : Nat} {o : Obj} (hb : h b = none) (H : Sat L h) : Sat (pts b o :: L) (fun x => if x = b then some o else h x) := by
  refine ⟨fun x => if x = b then some o else none, h, ?_, ?_, ?_, by simp [pts], H⟩
  · intro x u u' e e'
    by_cases hx : x = b
    · subst hx; rw [hb] at e'; cases e'
    · simp [hx] at e
  · intro x u e
    by_cases hx : x = b
    · simp [hx] at e ⊢; exact e
    · simp [hx] at e
  · intro x u e
    by_cases hx : x = b
    · subst hx; rw [hb] at e; cases e
    · simp [hx]; exact e

/-! ### Worlds -/
def hp (w : World) : Hp := fun b => w.heap[b]?

/-- A world that meets the list; beside its memory it is as 'W0'. -/
structure On (W0 : World) (L : List HProp) (w : World) : Prop where
  os : w.os = W0.os
  output : w.output = W0.output
  tape : w.tape = W0.tape
  size : W0.heap.size ≤ w.heap.size
  sat : Sat L (hp w)

section
variable {W0 w : World} {L L' : List HProp}

theorem On.imp (H : On W0 L w) (i : ∀ h, Sat L h → Sat L' h) : On W0 L' w := ⟨H.os, H.output, H.tape, H.size, i _ H.sat⟩
theorem On.perm (H : On W0 L w) (p : L.Perm L') : On W0 L' w := H.imp fun _ => Sat.perm p
theorem On.pull (H : On W0 L w) (i : Nat) {A : HProp} (hi : L[i]? = some A) : On W0 (A :: L.eraseIdx i) w := H.perm (perm_pull i hi)
theorem On.drew (H : On W0 L w) : On W0 L w.drew := ⟨H.os, H.output, H.tape, H.size, H.sat⟩
theorem On.unstar {M : List HProp} (H : On W0 (star L :: M) w) : On W0 (L ++ M) w := H.imp fun _ => Sat.unstar
theorem On.toStar {M : List HProp} (H : On W0 (L ++ M) w) : On W0 (star L :: M) w := H.imp fun _ => Sat.toStar
theorem On.tail {A : HProp} (H : On W0 (A :: L) w) : On W0 L w := H.imp fun _ => Sat.tail

theorem On.block (H : On W0 L w) (i : Nat) {b : Nat} {o : Obj} (hi : L[i]? = some (pts b o)) : w.heap[b]? = some o := H.sat.get i hi (pts_mono b o)
theorem On.get (H : On W0 L w) (i : Nat) {A : HProp} (hi : L[i]? = some A) (m : Mono A) : A (hp w) := H.sat.get i hi m
theorem On.gives {A : HProp} (H : On W0 L w) (g : Gives L A) : A (hp w) := g _ H.sat

/-- One block is another object now. -/
theorem On.set {w' : World} (H : On W0 L w) (i : Nat) {b : Nat} {o o' : Obj} (hi : L[i]? = some (pts b o))
    (h1 : w'.os = w.os) (h2 : w'.output = w.output) (h3 : w'.tape = w.tape) (h4 : w'.heap.size = w.heap.size)
    (h5 : w'.heap[b]? = some o') (h6 : ∀ k, k ≠ b → w'.heap[k]? = w.heap[k]?) : On W0 (L.set i (pts b o')) w' := by
  refine ⟨h1.trans H.os, h2.trans H.output, h3.trans H.tape, by rw [h4]; exact H.size, ?_⟩
  have : hp w' = fun x => if x = b then some o' else hp w x := by
    funext x
    by_cases hx : x = b
    · subst hx; simp [hp, h5]
    · simp [hp, hx, h6 x hx]
  rw [this]
  exact Sat.set i hi H.sat

theorem On.setCell (H : On W0 L w) (i : Nat) {b : Nat} {cs : Array Value} {e : TypeId} {fr : Nat × Nat} (hi : L[i]? = some (pts b (.cells cs e fr))) (off : Nat) (v : Value) :
    On W0 (L.set i (pts b (.cells (cs.setIfInBounds off v) e fr))) (w.setCell ⟨b, off, none⟩ v) := by
  have hb := H.block i hi
  have hlt : b < w.heap.size := (Array.getElem?_eq_some_iff.1 hb).1
  refine H.set i hi rfl rfl rfl (by simp [World.setCell]) ?_ (fun k hk => heap_setCell_other w _ k v hk)
  simp [World.setCell, Array.getElem?_modify, hb]

theorem On.alloc (H : On W0 L w) (o : Obj) : On W0 (pts w.heap.size o :: L) (w.alloc o) := by
  refine ⟨H.os, H.output, H.tape, by simp; have := H.size; omega, ?_⟩
  have : hp (w.alloc o) = fun x => if x = w.heap.size then some o else hp w x := by
    funext x
    by_cases hx : x = w.heap.size
    · subst hx; show (w.alloc o).heap[w.heap.size]? = _; rw [heap_alloc_new]; simp
    · show (w.heap.push o)[x]? = _
      rw [Array.getElem?_push]
      simp [hp, hx]
  rw [this]
  exact Sat.new (by simp [hp]) H.sat

theorem On.setRow (H : On W0 L w) (i : Nat) {b : Nat} {cs cs' : Array Value} {e : TypeId} {fr : Nat × Nat} (hi : L[i]? = some (pts b (.cells cs e fr))) :
    On W0 (L.set i (pts b (.cells cs' e fr))) (w.setRow b cs') := by
  have hb := H.block i hi
  refine H.set i hi rfl rfl rfl (size_setRow _ _ _) ?_ (fun k hk => setRow_other w b k _ hk)
  exact setRow_heap w b cs cs' e fr hb

/-- A cell of a block of the list. -/
theorem On.cell (H : On W0 L w) (i : Nat) {b : Nat} {cs : Array Value} {e : TypeId} {fr : Nat × Nat} {off : Nat} {v : Value} (hi : L[i]? = some (pts b (.cells cs e fr))) (hv : cs[off]? = some v) :
    w.cell? ⟨b, off, none⟩ = some v := by rw [cell_of_row w b off cs e fr (H.block i hi)]; exact hv
end

/-- The blocks of a world as they were: to be read, not to be written. -/
def old (W0 : World) : HProp := fun h => ∀ b, b < W0.heap.size → h b = W0.heap[b]?
theorem old_mono (W0 : World) : Mono (old W0) := fun h k s H b hb => by
  obtain ⟨o, ho⟩ : ∃ o, W0.heap[b]? = some o := ⟨_, Array.getElem?_eq_getElem hb⟩
  rw [ho]
  exact s b o ((H b hb).trans ho)
theorem On.start (W : World) : On W [old W] W := ⟨rfl, rfl, rfl, Nat.le_refl _, ⟨hp W, fun _ => none, (fun _ _ _ _ e => by cases e), Sub.refl _, (fun _ _ e => by cases e), fun _ _ => rfl, trivial⟩⟩
theorem On.below {W0 w : World} {L : List HProp} (H : On W0 L w) (g : Gives L (old W0)) : RowKit.Below W0.heap.size W0 w := by
  have h := H.gives g
  exact ⟨H.os, H.tape, H.output, H.size, fun k hk => h k hk⟩
end Go.Sl
