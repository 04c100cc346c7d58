/-
  SlA: several texts of mine as one. Nothing of any program is named here.
-/
import Derived.WalkKit
import Derived.OrdersHeld
import Derived.Scope
import Derived.Deep.Slices
import Derived.ChangeArms
/-
  A small separation logic over the model's worlds: partial heaps, lists of separated assertions, the states of a walk. Nothing of any program is named here.
-/
namespace Go.Sl
open Go

/-! ### Partial heaps -/
abbrev Hp := Nat → Option Obj
abbrev HProp := Hp → Prop
def Sub (h k : Hp) : Prop := ∀ b o, h b = some o → k b = some o
def Dis (h k : Hp) : Prop := ∀ b o o', h b = some o → k b = some o' → False

theorem Sub.refl (h : Hp) : Sub h h := fun _ _ e => e
theorem Sub.trans {h k l : Hp} (a : Sub h k) (b : Sub k l) : Sub h l := fun x o e => b x o (a x o e)
theorem Dis.symm {h k : Hp} (d : Dis h k) : Dis k h := fun b o o' e e' => d b o' o e' e
theorem Dis.mono {h h' k k' : Hp} (d : Dis h k) (a : Sub h' h) (b : Sub k' k) : Dis h' k' := fun x o o' e e' => d x o o' (a x o e) (b x o' e')

def union (h k : Hp) : Hp := fun b => match h b with | some o => some o | none => k b
theorem union_left (h k : Hp) : Sub h (union h k) := fun b o e => by simp [union, e]
theorem union_right {h k : Hp} (d : Dis h k) : Sub k (union h k) := fun b o e => by
  unfold union
  cases hb : h b with
  | none => exact e
  | some o' => exact (d b o' o hb e).elim
theorem union_sub {h k l : Hp} (a : Sub h l) (b : Sub k l) : Sub (union h k) l := fun x o e => by
  unfold union at e
  cases hx : h x with
  | none => rw [hx] at e; exact b x o e
  | some o' => rw [hx] at e; cases e; exact a x o hx
theorem dis_union {h k l : Hp} (a : Dis h l) (b : Dis k l) : Dis (union h k) l := fun x o o' e e' => by
  unfold union at e
  cases hx : h x with
  | none => rw [hx] at e; exact b x o o' e e'
  | some o'' => exact a x o'' o' hx e'

/-- The assertions of a list hold of parts of the heap that do not meet. What is left over is nobody's. -/
def Sat : List HProp → Hp → Prop
  | [], _ => True
  | A :: L, h => ∃ h1 h2, Dis h1 h2 ∧ Sub h1 h ∧ Sub h2 h ∧ A h1 ∧ Sat L h2

theorem Sat.mono {L : List HProp} {h k : Hp} (s : Sub h k) (H : Sat L h) : Sat L k := by
  cases L with
  | nil => trivial
  | cons A L =>
    obtain ⟨h1, h2, d, s1, s2, a, r⟩ := H
    exact ⟨h1, h2, d, s1.trans s, s2.trans s, a, r⟩

theorem Sat.cons {A : HProp} {L : List HProp} {h1 h2 h : Hp} (d : Dis h1 h2) (s1 : Sub h1 h) (s2 : Sub h2 h) (a : A h1) (r : Sat L h2) : Sat (A :: L) h := ⟨h1, h2, d, s1, s2, a, r⟩

theorem Sat.tail {A : HProp} {L : List HProp} {h : Hp} (H : Sat (A :: L) h) : Sat L h := by
  obtain ⟨h1, h2, d, s1, s2, a, r⟩ := H
  exact r.mono s2

theorem Sat.swap {A B : HProp} {L : List HProp} {h : Hp} (H : Sat (A :: B :: L) h) : Sat (B :: A :: L) h := by
  obtain ⟨h1, h2, d, s1, s2, a, k1, k2, d', t1, t2, b, r⟩ := H
  refine ⟨k1, union h1 k2, ?_, t1.trans s2, union_sub s1 (t2.trans s2), b, h1, k2, d.mono (Sub.refl _) t2, union_left _ _, union_right (d.mono (Sub.refl _) t2), a, r⟩
  exact (dis_union (d.mono (Sub.refl _) t1) d'.symm).symm

theorem Sat.imp {A B : HProp} {L : List HProp} {h : Hp} (i : ∀ h, A h → B h) (H : Sat (A :: L) h) : Sat (B :: L) h := by
  obtain ⟨h1, h2, d, s1, s2, a, r⟩ := H
  exact ⟨h1, h2, d, s1, s2, i _ a, r⟩

theorem Sat.tailImp {A : HProp} {L L' : List HProp} {h : Hp} (i : ∀ h, Sat L h → Sat L' h) (H : Sat (A :: L) h) : Sat (A :: L') h := by
  obtain ⟨h1, h2, d, s1, s2, a, r⟩ := H
  exact ⟨h1, h2, d, s1, s2, a, i _ r⟩

theorem Sat.perm {L L' : List HProp} (p : L.Perm L') : ∀ {h : Hp}, Sat L h → Sat L' h := by
  induction p with
  | nil => exact fun H => H
  | cons A _ ih => exact fun H => H.tailImp fun _ => ih
  | swap A B L => exact fun H => H.swap
  | trans _ _ ih1 ih2 => exact fun H => ih2 (ih1 H)

theorem Sat.append {L M : List HProp} : ∀ {h : Hp}, Sat (L ++ M) h → ∃ h1 h2, Dis h1 h2 ∧ Sub h1 h ∧ Sub h2 h ∧ Sat L h1 ∧ Sat M h2 := by
  induction L with
  | nil => exact fun {h} H => ⟨fun _ => none, h, (fun _ _ _ e _ => by cases e), (fun _ _ e => by cases e), Sub.refl _, trivial, H⟩
  | cons A L ih =>
    intro h H
    obtain ⟨h1, h2, d, s1, s2, a, r⟩ := H
    obtain ⟨k1, k2, d', t1, t2, l, m⟩ := ih r
    refine ⟨union h1 k1, k2, dis_union (d.mono (Sub.refl _) t2) d', union_sub s1 (t1.trans s2), t2.trans s2, ⟨h1, k1, d.mono (Sub.refl _) t1, union_left _ _, union_right (d.mono (Sub.refl _) t1), a, l⟩, m⟩

theorem Sat.unappend {L M : List HProp} : ∀ {h h1 h2 : Hp}, Dis h1 h2 → Sub h1 h → Sub h2 h → Sat L h1 → Sat M h2 → Sat (L ++ M) h := by
  induction L with
  | nil => exact fun d s1 s2 _ m => m.mono s2
  | cons A L ih =>
    intro h h1 h2 d s1 s2 l m
    obtain ⟨k1, k2, d', t1, t2, a, r⟩ := l
    refine ⟨k1, union k2 h2, (dis_union d'.symm (d.symm.mono (Sub.refl _) t1)).symm, t1.trans s1, union_sub (t2.trans s1) s2, a, ?_⟩
    exact ih (d.mono t2 (Sub.refl _)) (union_left _ _) (union_right (d.mono t2 (Sub.refl _))) r m

/-- Several assertions as one. -/
def star (L : List HProp) : HProp := Sat L
theorem Sat.unstar {L M : List HProp} {h : Hp} (H : Sat (star L :: M) h) : Sat (L ++ M) h := by
  obtain ⟨h1, h2, d, s1, s2, a, r⟩ := H
  exact Sat.unappend d s1 s2 a r
theorem Sat.toStar {L M : List HProp} {h : Hp} (H : Sat (L ++ M) h) : Sat (star L :: M) h := by
  obtain ⟨h1, h2, d, s1, s2, a, r⟩ := Sat.append H
  exact ⟨h1, h2, d, s1, s2, a, r⟩

/-- A fact on plain data in the midst. -/
theorem Sat.fact {A : HProp} {L : List HProp} {h : Hp} (H : Sat (A :: L) h) : ∃ h1, Sub h1 h ∧ A h1 := by
  obtain ⟨h1, h2, d, s1, s2, a, r⟩ := H
  exact ⟨h1, s1, a⟩

/-! ### Atoms -/
/-- Block b is this object. -/
def pts (b : Nat) (o : Obj) : HProp := fun h => h b = some o

/-- What 'A' says, as a fact that each bigger heap keeps. -/
def Mono (A : HProp) : Prop := ∀ h k, Sub h k → A h → A k
theorem pts_mono (b : Nat) (o : Obj) : Mono (pts b o) := fun _ _ s e => s b o e

/-- 'L' gives the fact 'A' (that a bigger heap keeps): it is only read. -/
def Gives (L : List HProp) (A : HProp) : Prop := ∀ h, Sat L h → A h
theorem Gives.cons {L : List HProp} {A B : HProp} (m : Mono A) (g : Gives L A) : Gives (B :: L) A := fun h H => by
  obtain ⟨h1, h2, d, s1, s2, a, r⟩ := H
  exact m _ _ s2 (g _ r)
theorem Gives.head {L : List HProp} {A B : HProp} (m : Mono A) (i : ∀ h, B h → A h) : Gives (B :: L) A := fun h H => by
  obtain ⟨h1, h2, d, s1, s2, a, r⟩ := H
  exact m _ _ s1 (i _ a)

/-! ### Lists: to the front -/
theorem perm_pull {L : List HProp} : ∀ (i : Nat) {A : HProp}, L[i]? = some A → L.Perm (A :: L.eraseIdx i) := by
  induction L with
  | nil => intro i A h; simp at h
  | cons B L ih =>
    intro i A h
    cases i with
    | zero => simp at h; subst h; exact List.Perm.refl _
    | succ i =>
      simp at h
      refine ((ih i h).cons B).trans ?_
      exact List.Perm.swap A B _

theorem Sat.pull {L : List HProp} {h : Hp} (i : Nat) {A : HProp} (hi : L[i]? = some A) (H : Sat L h) : Sat (A :: L.eraseIdx i) h := H.perm (perm_pull i hi)

theorem Sat.get {L : List HProp} {h : Hp} (i : Nat) {A : HProp} (hi : L[i]? = some A) (m : Mono A) (H : Sat L h) : A h := by
  obtain ⟨h1, s, a⟩ := (H.pull i hi).fact
  exact m _ _ s a

theorem Sat.set {L : List HProp} : ∀ {h : Hp} (i : Nat) {b : Nat} {o o' : Obj}, L[i]? = some (pts b o) → Sat L h → Sat (L.set i (pts b o')) (fun x => if x = b then some o' else h x) := by
  induction L with
  | nil => intro h i b o o' hi; simp at hi
  | cons A L ih =>
    intro h i b o o' hi H
    obtain ⟨h1, h2, d, s1, s2, a, r⟩ := H
    cases i with
    | zero =>
      simp at hi
      subst hi
      refine ⟨fun x => if x = b then some o' else none, h2, ?_, ?_, ?_, by simp [pts], r⟩
      · intro x u u' e e'
        by_cases hx : x = b
        · subst hx; exact d x o u' a e'
        · simp [hx] at e
      · intro x u e
        by_cases hx : x = b
        · simp [hx] at e ⊢; exact e
        · simp [hx] at e
      · intro x u e
        by_cases hx : x = b
        · subst hx; exact (d x o u a e).elim
        · simp [hx]; exact s2 x u e
    | succ i =>
      simp at hi
      have hb : h2 b = some o := r.get i hi (pts_mono b o)
      refine ⟨h1, fun x => if x = b then some o' else h2 x, ?_, ?_, ?_, a, ih i hi r⟩
      · intro x u u' e e'
        by_cases hx : x = b
        · subst hx; exact d x u o e hb
        · simp [hx] at e'; exact d x u u' e e'
      · intro x u e
        by_cases hx : x = b
        · subst hx; exact (d x u o e hb).elim
        · simp [hx]; exact s1 x u e
      · intro x u e
        by_cases hx : x = b
        · simp [hx] at e ⊢; exact e
        · simp [hx] at e ⊢; exact s2 x u e

theorem Sat.new {L : List HProp} {h : Hp} {b : Nat} {o : Obj} (hb : h b = none) (H : Sat L h) : Sat (pts b o :: L) (fun x => if x = b then some o else h x) := by
  refine ⟨fun x => if x = b then some o else none, h, ?_, ?_, ?_, by simp [pts], H⟩
  · intro x u u' e e'
    by_cases hx : x = b
    · subst hx; rw [hb] at e'; cases e'
    · simp [hx] at e
  · intro x u e
    by_cases hx : x = b
    · simp [hx] at e ⊢; exact e
    · simp [hx] at e
  · intro x u e
    by_cases hx : x = b
    · subst hx; rw [hb] at e; cases e
    · simp [hx]; exact e

/-! ### Worlds -/
def hp (w : World) : Hp := fun b => w.heap[b]?

/-- A world that meets the list; beside its memory it is as 'W0'. -/
structure On (W0 : World) (L : List HProp) (w : World) : Prop where
  os : w.os = W0.os
  output : w.output = W0.output
  tape : w.tape = W0.tape
  size : W0.heap.size ≤ w.heap.size
  sat : Sat L (hp w)

section
variable {W0 w : World} {L L' : List HProp}

theorem On.imp (H : On W0 L w) (i : ∀ h, Sat L h → Sat L' h) : On W0 L' w := ⟨H.os, H.output, H.tape, H.size, i _ H.sat⟩
theorem On.perm (H : On W0 L w) (p : L.Perm L') : On W0 L' w := H.imp fun _ => Sat.perm p
theorem On.pull (H : On W0 L w) (i : Nat) {A : HProp} (hi : L[i]? = some A) : On W0 (A :: L.eraseIdx i) w := H.perm (perm_pull i hi)
theorem On.drew (H : On W0 L w) : On W0 L w.drew := ⟨H.os, H.output, H.tape, H.size, H.sat⟩
theorem On.unstar {M : List HProp} (H : On W0 (star L :: M) w) : On W0 (L ++ M) w := H.imp fun _ => Sat.unstar
theorem On.toStar {M : List HProp} (H : On W0 (L ++ M) w) : On W0 (star L :: M) w := H.imp fun _ => Sat.toStar
theorem On.tail {A : HProp} (H : On W0 (A :: L) w) : On W0 L w := H.imp fun _ => Sat.tail

theorem On.block (H : On W0 L w) (i : Nat) {b : Nat} {o : Obj} (hi : L[i]? = some (pts b o)) : w.heap[b]? = some o := H.sat.get i hi (pts_mono b o)
theorem On.get (H : On W0 L w) (i : Nat) {A : HProp} (hi : L[i]? = some A) (m : Mono A) : A (hp w) := H.sat.get i hi m
theorem On.gives {A : HProp} (H : On W0 L w) (g : Gives L A) : A (hp w) := g _ H.sat

/-- One block is another object now. -/
theorem On.set {w' : World} (H : On W0 L w) (i : Nat) {b : Nat} {o o' : Obj} (hi : L[i]? = some (pts b o))
    (h1 : w'.os = w.os) (h2 : w'.output = w.output) (h3 : w'.tape = w.tape) (h4 : w'.heap.size = w.heap.size)
    (h5 : w'.heap[b]? = some o') (h6 : ∀ k, k ≠ b → w'.heap[k]? = w.heap[k]?) : On W0 (L.set i (pts b o')) w' := by
  refine ⟨h1.trans H.os, h2.trans H.output, h3.trans H.tape, by rw [h4]; exact H.size, ?_⟩
  have : hp w' = fun x => if x = b then some o' else hp w x := by
    funext x
    by_cases hx : x = b
    · subst hx; simp [hp, h5]
    · simp [hp, hx, h6 x hx]
  rw [this]
  exact Sat.set i hi H.sat

theorem On.setCell (H : On W0 L w) (i : Nat) {b : Nat} {cs : Array Value} {e : TypeId} {fr : Nat × Nat} (hi : L[i]? = some (pts b (.cells cs e fr))) (off : Nat) (v : Value) :
    On W0 (L.set i (pts b (.cells (cs.setIfInBounds off v) e fr))) (w.setCell ⟨b, off, none⟩ v) := by
  have hb := H.block i hi
  have hlt : b < w.heap.size := (Array.getElem?_eq_some_iff.1 hb).1
  refine H.set i hi rfl rfl rfl (by simp [World.setCell]) ?_ (fun k hk => heap_setCell_other w _ k v hk)
  simp [World.setCell, Array.getElem?_modify, hb]

theorem On.alloc (H : On W0 L w) (o : Obj) : On W0 (pts w.heap.size o :: L) (w.alloc o) := by
  refine ⟨H.os, H.output, H.tape, by simp; have := H.size; omega, ?_⟩
  have : hp (w.alloc o) = fun x => if x = w.heap.size then some o else hp w x := by
    funext x
    by_cases hx : x = w.heap.size
    · subst hx; show (w.alloc o).heap[w.heap.size]? = _; rw [heap_alloc_new]; simp
    · show (w.heap.push o)[x]? = _
      rw [Array.getElem?_push]
      simp [hp, hx]
  rw [this]
  exact Sat.new (by simp [hp]) H.sat

theorem On.setRow (H : On W0 L w) (i : Nat) {b : Nat} {cs cs' : Array Value} {e : TypeId} {fr : Nat × Nat} (hi : L[i]? = some (pts b (.cells cs e fr))) :
    On W0 (L.set i (pts b (.cells cs' e fr))) (w.setRow b cs') := by
  have hb := H.block i hi
  refine H.set i hi rfl rfl rfl (size_setRow _ _ _) ?_ (fun k hk => setRow_other w b k _ hk)
  exact setRow_heap w b cs cs' e fr hb

/-- A cell of a block of the list. -/
theorem On.cell (H : On W0 L w) (i : Nat) {b : Nat} {cs : Array Value} {e : TypeId} {fr : Nat × Nat} {off : Nat} {v : Value} (hi : L[i]? = some (pts b (.cells cs e fr))) (hv : cs[off]? = some v) :
    w.cell? ⟨b, off, none⟩ = some v := by rw [cell_of_row w b off cs e fr (H.block i hi)]; exact hv
end

/-- The blocks of a world as they were: to be read, not to be written. -/
def old (W0 : World) : HProp := fun h => ∀ b, b < W0.heap.size → h b = W0.heap[b]?
theorem old_mono (W0 : World) : Mono (old W0) := fun h k s H b hb => by
  obtain ⟨o, ho⟩ : ∃ o, W0.heap[b]? = some o := ⟨_, Array.getElem?_eq_getElem hb⟩
  rw [ho]
  exact s b o ((H b hb).trans ho)
theorem On.start (W : World) : On W [old W] W := ⟨rfl, rfl, rfl, Nat.le_refl _, ⟨hp W, fun _ => none, (fun _ _ _ _ e => by cases e), Sub.refl _, (fun _ _ e => by cases e), fun _ _ => rfl, trivial⟩⟩
theorem On.below {W0 w : World} {L : List HProp} (H : On W0 L w) (g : Gives L (old W0)) : RowKit.Below W0.heap.size W0 w := by
  have h := H.gives g
  exact ⟨H.os, H.tape, H.output, H.size, fun k hk => h k hk⟩
end Go.Sl
/-
  The walk's rules over states written as functions from slots to values: code, regions in the order of the text, regions that draw their order, calls.
-/
namespace Go.Sl
open Go

set_option linter.unusedVariables false

abbrev Env := Nat → Value
def upd (env : Env) (d : Nat) (v : Value) : Env := fun t => match Nat.beq t d with | true => v | false => env t
def updo (env : Env) (d : Option Nat) (v : Value) : Env := match d with | some d => upd env d v | none => env
def evo (env : Env) : Operand → Value
  | .tmp t => env t
  | .const v => v
  | .global g => .pointer (some ⟨g, 0, none⟩)
  | .func f => .func (.func f) #[] #[]
def nthV : List Value → Nat → Value
  | [], _ => undef
  | v :: _, 0 => v
  | _ :: l, n + 1 => nthV l n

/-- A state of which some slots are known. -/
def mkE (junk : Env) : List (Nat × Value) → Env
  | [], t => junk t
  | (d, v) :: l, t => match Nat.beq t d with | true => v | false => mkE junk l t
def AllE (env : Env) : List (Nat × Value) → Prop
  | [] => True
  | (d, v) :: l => env d = v ∧ AllE env l
theorem mkE_of {env : Env} : ∀ {l : List (Nat × Value)}, AllE env l → env = mkE env l := by
  intro l
  induction l with
  | nil => intro _; funext t; rfl
  | cons p l ih =>
    obtain ⟨d, v⟩ := p
    intro h
    obtain ⟨h1, h2⟩ := h
    funext t
    unfold mkE
    cases hb : Nat.beq t d with
    | true => have := Nat.eq_of_beq_eq_true hb; subst this; exact h1
    | false => exact congrFun (ih h2) t

/-- The slots of a frame are what the function says. -/
structure Rel (N : Nat) (a : Act) (env : Env) : Prop where
  size : a.tmps.size = N
  get : ∀ t, a.tmps.getD t undef = env t
  defers : a.defers = []

theorem upd_same (env : Env) (d : Nat) (v : Value) : upd env d v d = v := by simp [upd]
theorem upd_other (env : Env) {d t : Nat} (v : Value) (h : t ≠ d) : upd env d v t = env t := by
  unfold upd
  have : Nat.beq t d = false := by rw [← Bool.not_eq_true]; intro e; exact h (Nat.eq_of_beq_eq_true e)
  rw [this]

theorem Rel.eval {N : Nat} {a : Act} {env : Env} (r : Rel N a env) : a.eval = evo env := by
  funext x
  cases x with
  | tmp t => exact r.get t
  | _ => rfl

theorem Rel.put {N : Nat} {a : Act} {env : Env} (r : Rel N a env) {d : Nat} (hd : Nat.ble (d + 1) N = true) (v : Value) : Rel N (a.put (some d) v) (upd env d v) := by
  have hlt : d < a.tmps.size := by rw [r.size]; exact Nat.le_of_ble_eq_true hd
  refine ⟨by simp [Act.put, r.size], fun t => ?_, r.defers⟩
  by_cases h : t = d
  · subst h; rw [upd_same]; simp [Act.put, hlt]
  · rw [upd_other _ _ h, ← r.get t]
    simp [Act.put, Array.getElem?_setIfInBounds_ne (Ne.symm h)]

/-- Is the slot that an operation writes there? -/
def inN (N : Nat) : Option Nat → Bool
  | none => true
  | some d => Nat.ble (d + 1) N

theorem Rel.puto {N : Nat} {a : Act} {env : Env} (r : Rel N a env) {d : Option Nat} (hd : inN N d = true) (v : Value) : Rel N (a.put d v) (updo env d v) := by
  cases d with
  | none => exact r
  | some d => exact r.put hd v

def yieldedE (ops : Array Oper) (env : Env) (j : Nat) : Option Bool :=
  match (ops[j]?).bind (·.dst) with
  | some t => (match env t with | .bool b => some b | _ => none)
  | none => none

theorem Rel.yielded {N : Nat} {a : Act} {env : Env} (r : Rel N a env) (ops : Array Oper) (j : Nat) : yielded ops a.tmps j = yieldedE ops env j := by
  unfold Go.yielded yieldedE
  cases h : (ops[j]?).bind (·.dst) with
  | none => rfl
  | some t =>
    simp only [Option.bind_some]
    have g := r.get t
    cases ht : a.tmps[t]? with
    | none =>
      have : env t = undef := by rw [← g]; simp [ht]
      rw [this]; rfl
    | some v =>
      have : env t = v := by rw [← g]; simp [ht]
      rw [this]
      cases v <;> rfl

def Ret (R : Value → World → Prop) : Ending → World → Prop := fun e w' => ∃ v, e = .returned v ∧ R v w'

/-- What an operation comes to: a value, nothing, or a call by its contract. -/
def Eff (P : Program) (ρ : Operand → Value) (o : Oper) (w : World) (R : Value → World → Prop) : Prop :=
  (∃ v w', (execOp ρ o).run P w = .ok (.value v) w' ∧ R v w') ∨ (∃ w', (execOp ρ o).run P w = .ok .skip w' ∧ R undef w') ∨
  (∃ f args w1, (execOp ρ o).run P w = .ok (.enter f args) w1 ∧ Calls P f args w1 (Ret R))

/-! ### Lists of operations, in the order of the text -/
section
variable {P : Program} {N : Nat} {ops : Array Oper} {K : Env → World → Prop} {env : Env} {w : World} {rest : List Oper} {o : Oper}

/-- The post of a list: it comes to its end, in a state that K takes. -/
def liftK (N : Nat) (K : Env → World → Prop) : Exit → Act → World → Prop := fun e a w => e = .normal ∧ ∃ env, Rel N a env ∧ K env w

def WL (P : Program) (N : Nat) (ops : Array Oper) (K : Env → World → Prop) (l : List Oper) (env : Env) (w : World) : Prop :=
  ∀ a, Rel N a env → wpList P ops (liftK N K) l a w

theorem WL.nil (h : K env w) : WL P N ops K [] env w := fun a r => ⟨rfl, env, r, h⟩

theorem WL.val {v : Value} {w' : World} (hr : (execOp (evo env) o).run P w = .ok (.value v) w') (hw : Region.wanted o (yieldedE ops env) = true) (hd : inN N o.dst = true)
    (k : WL P N ops K rest (updo env o.dst v) w') : WL P N ops K (o :: rest) env w := fun a r => by
  unfold wpList
  have hy : yielded ops a.tmps = yieldedE ops env := funext fun j => r.yielded ops j
  rw [hy, if_pos hw]
  refine .inl ?_
  unfold Oper.wp
  rw [r.eval, hr]
  exact k _ (r.puto hd v)

theorem WL.unit {w' : World} (hr : (execOp (evo env) o).run P w = .ok .skip w') (hw : Region.wanted o (yieldedE ops env) = true) (hd : inN N o.dst = true)
    (k : WL P N ops K rest (updo env o.dst undef) w') : WL P N ops K (o :: rest) env w := fun a r => by
  unfold wpList
  have hy : yielded ops a.tmps = yieldedE ops env := funext fun j => r.yielded ops j
  rw [hy, if_pos hw]
  refine .inl ?_
  unfold Oper.wp
  rw [r.eval, hr]
  exact k _ (r.puto hd undef)

theorem WL.skip (hw : Region.wanted o (yieldedE ops env) = false) (hd : inN N o.dst = true)
    (k : WL P N ops K rest (updo env o.dst undef) w) : WL P N ops K (o :: rest) env w := fun a r => by
  unfold wpList
  have hy : yielded ops a.tmps = yieldedE ops env := funext fun j => r.yielded ops j
  rw [hy, hw]
  exact k _ (r.puto hd undef)

theorem Eff.wp {R : Value → World → Prop} {a : Act} {K' : Act → World → Prop} {Q' : Exit → Act → World → Prop} (he : Eff P (evo env) o w R) (r : Rel N a env)
    (k : ∀ v w', R v w' → K' (a.put o.dst v) w') : o.wp P a w K' Q' := by
  unfold Oper.wp
  rw [r.eval]
  rcases he with ⟨v, w', hr, hR⟩ | ⟨w', hr, hR⟩ | ⟨f, args, w1, hr, hc⟩
  · rw [hr]; exact k v w' hR
  · rw [hr]; exact k undef w' hR
  · rw [hr]
    refine Calls.mono hc ?_
    rintro e w' ⟨v, rfl, hR⟩
    exact k v w' hR

theorem WL.eff {R : Value → World → Prop} (he : Eff P (evo env) o w R) (hw : Region.wanted o (yieldedE ops env) = true) (hd : inN N o.dst = true)
    (k : ∀ v w', R v w' → WL P N ops K rest (updo env o.dst v) w') : WL P N ops K (o :: rest) env w := fun a r => by
  unfold wpList
  have hy : yielded ops a.tmps = yieldedE ops env := funext fun j => r.yielded ops j
  rw [hy, if_pos hw]
  exact .inl (he.wp r fun v w' hR => k v w' hR _ (r.puto hd v))

theorem WL.cases {p : Prop} (h : p → WL P N ops K (o :: rest) env w) (h' : ¬ p → WL P N ops K (o :: rest) env w) : WL P N ops K (o :: rest) env w :=
  (Classical.em p).elim h h'
end

/-! ### Code -/
section
variable {P : Program} {N : Nat} {env : Env} {w : World}

def liftQ (N : Nat) (Q : Exit → Env → World → Prop) : Exit → Act → World → Prop := fun e a w => ∃ env, Rel N a env ∧ Q e env w

def W (P : Program) (N : Nat) (c : Code) (Q : Exit → Env → World → Prop) (env : Env) (w : World) : Prop :=
  ∀ a, Rel N a env → c.wp P (liftQ N Q) a w

@[reducible] def thenQ (P : Program) (N : Nat) (b : Code) (Q : Exit → Env → World → Prop) : Exit → Env → World → Prop
  | .normal, env, w => W P N b Q env w
  | e, env, w => Q e env w
@[reducible] def blockQ (id : Nat) (Q : Exit → Env → World → Prop) : Exit → Env → World → Prop
  | .exit i, env, w => match Nat.beq i id with | true => Q .normal env w | false => Q (.exit i) env w
  | e, env, w => Q e env w

variable {Q Q' : Exit → Env → World → Prop}

theorem W.mono {c : Code} (h : W P N c Q env w) (i : ∀ e env w, Q e env w → Q' e env w) : W P N c Q' env w := fun a r =>
  wp_mono (h a r) fun e a' w' ⟨env', r', q⟩ => ⟨env', r', i _ _ _ q⟩

theorem W.seq {x y : Code} (h : W P N x (thenQ P N y Q) env w) : W P N (.seq x y) Q env w := fun a r => by
  refine wp_seq (wp_mono (h a r) ?_)
  rintro e a' w' ⟨env', r', q⟩
  cases e with
  | normal => exact q a' r'
  | _ => exact ⟨env', r', q⟩

theorem W.skip (h : Q .normal env w) : W P N .skip Q env w := fun _ r => wp_skip ⟨env, r, h⟩
theorem W.label {l : Nat} (h : Q .normal env w) : W P N (.label l) Q env w := fun _ r => wp_label ⟨env, r, h⟩
theorem W.exit {id : Nat} (h : Q (.exit id) env w) : W P N (.exit id) Q env w := fun _ r => wp_exit ⟨env, r, h⟩
theorem W.goto {l : Nat} (h : Q (.goto l) env w) : W P N (.goto l) Q env w := fun _ r => wp_goto ⟨env, r, h⟩
theorem W.ret (h : Q .ret env w) : W P N .ret Q env w := fun _ r => wp_ret ⟨env, r, h⟩

theorem W.block {id : Nat} {c : Code} (h : W P N c (blockQ id Q) env w) : W P N (.block id c) Q env w := fun a r => by
  refine wp_block (wp_mono (h a r) ?_)
  rintro e a' w' ⟨env', r', q⟩
  cases e with
  | exit i =>
    simp only [Exit.inBlock]
    by_cases hi : i = id
    · subst hi; simp only [blockQ, Nat.beq_refl] at q; rw [if_pos rfl]; exact ⟨env', r', q⟩
    · have hb : Nat.beq i id = false := by rw [← Bool.not_eq_true]; intro e; exact hi (Nat.eq_of_beq_eq_true e)
      simp only [blockQ, hb] at q; rw [if_neg hi]; exact ⟨env', r', q⟩
  | _ => exact ⟨env', r', q⟩

theorem W.cond {c : Operand} {x y : Code} (b : Bool) (hc : evo env c = .bool b) (h : W P N (if b then x else y) Q env w) : W P N (.cond c x y) Q env w := fun a r =>
  wp_cond (by rw [r.eval]; exact hc) (h a r)
theorem W.condT {c : Operand} {x y : Code} (hc : evo env c = .bool true) (h : W P N x Q env w) : W P N (.cond c x y) Q env w := W.cond true hc h
theorem W.condF {c : Operand} {x y : Code} (hc : evo env c = .bool false) (h : W P N y Q env w) : W P N (.cond c x y) Q env w := W.cond false hc h
theorem W.condIf {c : Operand} {x y : Code} {p : Prop} [Decidable p] (hc : evo env c = .bool (decide p)) (ht : p → W P N x Q env w) (hf : ¬ p → W P N y Q env w) : W P N (.cond c x y) Q env w := by
  by_cases h : p
  · exact W.condT (by rw [hc]; simp [h]) (ht h)
  · exact W.condF (by rw [hc]; simp [h]) (hf h)
theorem W.condB {c : Operand} {x y : Code} {b : Bool} (hc : evo env c = .bool b) (ht : b = true → W P N x Q env w) (hf : b = false → W P N y Q env w) : W P N (.cond c x y) Q env w := by
  cases b
  · exact W.condF hc (hf rfl)
  · exact W.condT hc (ht rfl)

theorem W.region {id : Nat} {l : List Oper} (h : WL P N l.toArray (fun env' w' => Q .normal env' w') l env w) : W P N (.region id l.toArray false) Q env w := fun a r => by
  refine wp_region_lit ?_
  have := h a r
  refine wpList_weaken ?_ l a w this
  rintro e a' w' ⟨rfl, env', r', k⟩
  exact ⟨env', r', k⟩
where
  wpList_weaken {P : Program} {ops : Array Oper} {Q Q' : Exit → Act → World → Prop} (i : ∀ e a w, Q e a w → Q' e a w) : ∀ (l : List Oper) (a : Act) (w : World), wpList P ops Q l a w → wpList P ops Q' l a w := by
    intro l
    induction l with
    | nil => exact fun a w h => i _ _ _ h
    | cons o rest ih =>
      intro a w h
      unfold wpList at h ⊢
      split
      · rename_i hw
        rw [if_pos hw] at h
        refine h.imp (fun h => ?_) (fun ⟨h1, a', w', h2⟩ => ⟨h1, a', w', i _ _ _ h2⟩)
        unfold Oper.wp at h ⊢
        generalize (execOp a.eval o).run P w = r at h ⊢
        cases r with
        | ok n w' =>
          cases n <;> simp only [Oper.upon] at h ⊢ <;>
            first
              | exact ih _ _ h
              | exact Calls.mono h (fun e w'' he => by
                  cases e
                  · exact ih _ _ he
                  · exact i _ _ _ he
                  · exact ⟨he.choose, he.choose_spec.choose, i _ _ _ he.choose_spec.choose_spec⟩)
              | exact Rows.mono h (fun _ _ he => ih _ _ he)
        | halt x w' =>
          cases x <;> simp only [Oper.upon] at h ⊢
          exact i _ _ _ h
      · rename_i hw
        rw [if_neg hw] at h
        exact ih _ _ h

@[reducible] def thenM (M : Env → World → Prop) (Q : Exit → Env → World → Prop) : Exit → Env → World → Prop
  | .normal, env, w => M env w
  | e, env, w => Q e env w

/-- A cut: what stands behind needs a part of the state alone. -/
theorem W.cut {x y : Code} (M : Env → World → Prop) (h : W P N x (thenM M Q) env w) (k : ∀ env w, M env w → W P N y Q env w) : W P N (.seq x y) Q env w :=
  W.seq (W.mono h fun e env w q => by
    cases e with
    | normal => exact k _ _ q
    | _ => exact q)

@[reducible] def loopQ {σ : Type} (I : σ → Env → World → Prop) (m : σ → Nat) (s : σ) (Q : Exit → Env → World → Prop) : Exit → Env → World → Prop
  | .normal, env, w => ∃ s', I s' env w ∧ m s' < m s
  | e, env, w => Q e env w

/-- A loop, its relation over a state of one's own. -/
theorem W.loop {σ : Type} {c : Code} (I : σ → Env → World → Prop) (m : σ → Nat) (s0 : σ) (h0 : I s0 env w)
    (step : ∀ s env w, I s env w → W P N c (loopQ I m s Q) env w) : W P N (.loop c) Q env w := fun a r => by
  refine wp_loop_ghost s0 (fun s a w => ∃ env, Rel N a env ∧ I s env w) m ⟨env, r, h0⟩ ?_
  rintro s a w ⟨env, r, hi⟩
  refine wp_mono (step s env w hi a r) ?_
  rintro e a' w' ⟨env', r', q⟩
  cases e with
  | normal => obtain ⟨s', hi', hm⟩ := q; exact ⟨s', ⟨env', r', hi'⟩, hm⟩
  | _ => exact ⟨env', r', q⟩
where
  wp_loop_ghost {P : Program} {c : Code} {Q : Exit → Act → World → Prop} {a : Act} {w : World} {σ : Type} (s0 : σ) (I : σ → Act → World → Prop) (m : σ → Nat) (h0 : I s0 a w)
      (step : ∀ s a w, I s a w → c.wp P (fun e a' w' => match e with | .normal => ∃ s', I s' a' w' ∧ m s' < m s | e => Q e a' w') a w) : (Code.loop c).wp P Q a w := by
    let good : Nat → Act → World → Prop := fun n a w => ∃ s, I s a w ∧ m s = n
    have key : ∀ n a w, (∃ s, I s a w ∧ m s = n) → ∀ (b : Frame) (k : List Item) (cs : List Frame), ∃ e a' w', Q e a' w' ∧ Arrives P (lone (b.at a (.inLoop c :: k)) cs w) b k cs e a' w' := by
      intro n
      induction n using Nat.strongRecOn with
      | ind n ih =>
        rintro a w ⟨s, hi, hm⟩ b k cs
        obtain ⟨e, a', w', q, arr⟩ := step s a w hi b (.inLoop c :: k) cs
        cases e with
        | normal =>
          obtain ⟨s', hi', hlt⟩ := q
          obtain ⟨e2, a2, w2, q2, arr2⟩ := ih (m s') (by omega) a' w' ⟨s', hi', rfl⟩ b k cs
          exact ⟨e2, a2, w2, q2, .of_steps (.head step_inLoop arr) arr2⟩
        | exit id => exact ⟨_, a', w', q, .of_steps (.one step_inLoop) (.pass (x := .inLoop c) rfl (fun _ _ => .inl (by simp)) arr)⟩
        | goto l => exact ⟨_, a', w', q, .of_steps (.one step_inLoop) (.pass (x := .inLoop c) rfl (fun _ _ => .inl (by simp)) arr)⟩
        | ret => exact ⟨_, a', w', q, .of_steps (.one step_inLoop) (.pass (x := .inLoop c) rfl (fun _ _ => .inl (by simp)) arr)⟩
        | panic ch => exact ⟨_, a', w', q, .of_steps (.one step_inLoop) (.pass (x := .inLoop c) rfl (fun _ _ => .inl (by simp)) arr)⟩
        | outgrown => exact ⟨_, a', w', q, .of_steps (.one step_inLoop) (.pass (x := .inLoop c) rfl (fun _ _ => .inl (by simp)) arr)⟩
    intro b k cs
    obtain ⟨e, a', w', q, arr⟩ := step s0 a w h0 b (.inLoop c :: k) cs
    cases e with
    | normal =>
      obtain ⟨s', hi', hlt⟩ := q
      obtain ⟨e2, a2, w2, q2, arr2⟩ := key (m s') a' w' ⟨s', hi', rfl⟩ b k cs
      exact ⟨e2, a2, w2, q2, .of_steps (.head step_loop arr) arr2⟩
    | exit id => exact ⟨_, a', w', q, .of_steps (.one step_loop) (.pass (x := .inLoop c) rfl (fun _ _ => .inl (by simp)) arr)⟩
    | goto l => exact ⟨_, a', w', q, .of_steps (.one step_loop) (.pass (x := .inLoop c) rfl (fun _ _ => .inl (by simp)) arr)⟩
    | ret => exact ⟨_, a', w', q, .of_steps (.one step_loop) (.pass (x := .inLoop c) rfl (fun _ _ => .inl (by simp)) arr)⟩
    | panic ch => exact ⟨_, a', w', q, .of_steps (.one step_loop) (.pass (x := .inLoop c) rfl (fun _ _ => .inl (by simp)) arr)⟩
    | outgrown => exact ⟨_, a', w', q, .of_steps (.one step_loop) (.pass (x := .inLoop c) rfl (fun _ _ => .inl (by simp)) arr)⟩

/-! ### Functions -/
/-- A body's post: it ends, and what it hands back is R's. -/
def bodyQ (P : Program) (fn : Func) (R : Value → World → Prop) : Exit → Env → World → Prop
  | .normal, env, w | .ret, env, w => ∃ v, (∀ tmps : Array Value, (∀ t, tmps.getD t undef = env t) → (results fn tmps).run P w = .ok v w) ∧ R v w
  | _, _, _ => False

theorem bodyQ.r0 {fn : Func} {R : Value → World → Prop} (h : fn.results = #[]) (hR : R (.tuple #[]) w) : bodyQ P fn R .ret env w :=
  ⟨_, fun tmps _ => results_none h tmps P w, hR⟩
theorem bodyQ.r1 {fn : Func} {R : Value → World → Prop} {t : Nat} {v : Value} (h : fn.results = #[.tmp t]) (hv : env t = v) (hR : R v w) : bodyQ P fn R .ret env w :=
  ⟨_, fun tmps hg => by rw [results_tmp h tmps P w, hg, hv], hR⟩
theorem bodyQ.r2 {fn : Func} {R : Value → World → Prop} {t u : Nat} {v1 v2 : Value} (h : fn.results = #[.tmp t, .tmp u]) (h1 : env t = v1) (h2 : env u = v2) (hR : R (.tuple #[v1, v2]) w) : bodyQ P fn R .ret env w :=
  ⟨_, fun tmps hg => by rw [results_tmp2 h tmps P w, hg, hg, h1, h2], hR⟩
theorem bodyQ.r3 {fn : Func} {R : Value → World → Prop} {t u x : Nat} {v1 v2 v3 : Value} (h : fn.results = #[.tmp t, .tmp u, .tmp x]) (h1 : env t = v1) (h2 : env u = v2) (h3 : env x = v3) (hR : R (.tuple #[v1, v2, v3]) w) : bodyQ P fn R .ret env w :=
  ⟨_, fun tmps hg => by rw [results_tmp3 h tmps P w, hg, hg, hg, h1, h2, h3], hR⟩
theorem bodyQ.fall {fn : Func} {R : Value → World → Prop} (h : bodyQ P fn R .ret env w) : bodyQ P fn R .normal env w := h

theorem enter {f : FuncId} {fn : Func} {c : Code} {args : List Value} {R : Value → World → Prop} (hf : P.funcs[f]? = some fn) (hb : fn.body = some c) (hn : fn.ntmps = N) (hl : Nat.ble args.length N = true)
    (h : W P N c (bodyQ P fn R) (nthV args) w) : Calls P f args.toArray w (Ret R) := by
  refine calls_of_wp hf hb ?_
  have hle : args.length ≤ N := Nat.le_of_ble_eq_true hl
  have r : Rel N { tmps := args.toArray ++ Array.replicate (fn.ntmps - args.toArray.size) undef, defers := [] } (nthV args) := by
    refine ⟨?_, fun t => ?_, rfl⟩
    · simp [hn]; omega
    · have nth : ∀ (l : List Value) (t : Nat), nthV l t = l.getD t undef := by
        intro l
        induction l with
        | nil => intro t; simp [nthV]
        | cons v l ih => intro t; cases t with
          | zero => simp [nthV]
          | succ t => simp [nthV, ih]
      rw [nth]
      simp only [Array.getD_eq_getD_getElem?, List.getD_eq_getElem?_getD]
      rw [Array.getElem?_append]
      split
      · simp
      · rename_i hge
        simp at hge
        rw [List.getElem?_eq_none hge, Array.getElem?_replicate]
        split <;> rfl
  refine wp_mono (h _ r) ?_
  rintro e a' w' ⟨env', r', q⟩
  cases e with
  | normal => obtain ⟨v, hv, hR⟩ := q; exact ⟨r'.defers, v, hv a'.tmps r'.get, v, rfl, hR⟩
  | ret => obtain ⟨v, hv, hR⟩ := q; exact ⟨r'.defers, v, hv a'.tmps r'.get, v, rfl, hR⟩
  | exit _ => exact q.elim
  | goto _ => exact q.elim
  | panic _ => exact q.elim
  | outgrown => exact q.elim
end
end Go.Sl
/-
  A region that draws its order: an operation whose value hangs on a condition on the world may be taken first; the condition is owed behind each operation that may come ahead of it, and behind no other.
-/
namespace Go.Sl
open Go
set_option linter.unusedVariables false

/-- Does operation j wait for operation i, directly or through others? -/
def waits (ops : Array Oper) (j i : Nat) : Bool := ((Region.before ops).getD j 0).testBit i

/-- Whoever is listed has all listed that he waits for. -/
def Closed (ops : Array Oper) (listed : Array Bool) : Prop :=
  ∀ k o, listed.getD k false = true → ops[k]? = some o → ∀ e ∈ o.after, Region.binds .any e = true → listed.getD e.on false = true
def closedB (ops : Array Oper) (listed : Array Bool) : Bool :=
  (List.range ops.size).all fun k => !listed.getD k false || match ops[k]? with
    | some o => o.after.all fun e => !Region.binds .any e || listed.getD e.on false
    | none => true
theorem closed_of {ops : Array Oper} {listed : Array Bool} (h : closedB ops listed = true) : Closed ops listed := fun k o hk ho e he hb => by
  have hlt : k < ops.size := (Array.getElem?_eq_some_iff.1 ho).1
  have h1 := List.all_eq_true.1 h k (List.mem_range.2 hlt)
  simp only [hk, ho, Bool.not_true, Bool.false_or] at h1
  have h2 := Array.all_eq_true_iff_forall_mem.1 h1 e he
  simpa [hb] using h2

theorem before_ok (ops : Array Oper) {listed : Array Bool} (hc : Closed ops listed) :
    ∀ k o, ops[k]? = some o → (∀ e ∈ o.after, Region.binds .any e = true → listed.getD e.on false = true) → ∀ i, waits ops k i = true → listed.getD i false = true := by
  -- a fact of every front of the list of bits
  have key : ∀ (l : List Oper) (pre : List Oper) (acc : Array Nat), ops.toList = pre ++ l → acc.size = pre.length →
      (∀ k o, ops[k]? = some o → (∀ e ∈ o.after, Region.binds .any e = true → listed.getD e.on false = true) → ∀ i, (acc.getD k 0).testBit i = true → listed.getD i false = true) →
      (∀ k o, ops[k]? = some o → (∀ e ∈ o.after, Region.binds .any e = true → listed.getD e.on false = true) → ∀ i, ((l.foldl (fun acc o => acc.push (o.after.foldl (fun s e => if Region.binds .any e then s ||| 2 ^ e.on ||| acc.getD e.on 0 else s) 0)) acc).getD k 0).testBit i = true → listed.getD i false = true) := by
    intro l
    induction l with
    | nil => intro pre acc _ _ h; exact h
    | cons x l ih =>
      intro pre acc hops hsz h
      simp only [List.foldl_cons]
      refine ih (pre ++ [x]) _ (by simp [hops]) (by simp [hsz]) ?_
      intro k o hk hall i hi
      by_cases hks : k = acc.size
      · subst hks
        have hx : o = x := by
          have : ops[acc.size]? = some x := by rw [← Array.getElem?_toList, hops, hsz]; simp
          rw [this] at hk; exact (Option.some.inj hk).symm
        subst hx
        simp only [Array.getD_eq_getD_getElem?, Array.getElem?_push_size, Option.getD_some] at hi
        -- the fold over the edges
        have fold : ∀ (es : List Edge) (s : Nat), (∀ e ∈ es, e ∈ o.after) → (s.testBit i = true → listed.getD i false = true) →
            (es.foldl (fun s e => if Region.binds .any e then s ||| 2 ^ e.on ||| acc.getD e.on 0 else s) s).testBit i = true → listed.getD i false = true := by
          intro es
          induction es with
          | nil => intro s _ hs h; exact hs h
          | cons e es ihe =>
            intro s hm hs hf
            simp only [List.foldl_cons] at hf
            refine ihe _ (fun e' he' => hm e' (List.mem_cons_of_mem _ he')) ?_ hf
            intro hb
            by_cases hbind : Region.binds .any e = true
            · rw [if_pos hbind] at hb
              simp only [Nat.testBit_or, Bool.or_eq_true] at hb
              have hlist : listed.getD e.on false = true := hall e (hm e (List.mem_cons_self ..)) hbind
              rcases hb with (hb | hb) | hb
              · exact hs hb
              · rw [Nat.testBit_two_pow] at hb
                have : e.on = i := by simpa using hb
                rw [← this]; exact hlist
              · cases hoe : ops[e.on]? with
                | none =>
                  have hge : acc.size ≤ e.on := by
                    have h1 : ops.size ≤ e.on := Array.getElem?_eq_none_iff.1 hoe
                    have h2 : acc.size < ops.size := (Array.getElem?_eq_some_iff.1 hk).1
                    omega
                  simp [Array.getElem?_eq_none hge] at hb
                | some oe => exact h e.on oe hoe (fun e' he' hb' => hc e.on oe hlist hoe e' he' hb') i hb
            · rw [if_neg hbind] at hb; exact hs hb
        rw [← Array.foldl_toList] at hi
        simp only [← Array.getD_eq_getD_getElem?] at hi
        exact fold o.after.toList 0 (fun e he => by simpa using he) (by simp) hi
      · rw [Array.getD_eq_getD_getElem?, Array.getElem?_push, if_neg hks, ← Array.getD_eq_getD_getElem?] at hi
        exact h k o hk hall i hi
  intro k o hk hall i hi
  unfold waits Region.before at hi
  rw [← Array.foldl_toList] at hi
  exact key ops.toList [] #[] (by simp) rfl (by intro k o _ _ i hi; simp at hi) k o hk hall i hi

abbrev Owed := List (Nat × (World → Prop))
def owedBy (ops : Array Oper) (j : Nat) (T : Owed) : Owed := T.filter fun p => !waits ops j p.1
/-- All that is owed behind operation j. -/
def paid (ops : Array Oper) (j : Nat) : Owed → World → Prop
  | [], _ => True
  | (i, S) :: T, w => (match waits ops j i with | true => True | false => S w) ∧ paid ops j T w

section
variable {P : Program} {ops : Array Oper} {Q : Exit → Act → World → Prop}

def wpAnyT (P : Program) (ops : Array Oper) (Q : Exit → Act → World → Prop) : Nat → Owed → Array Bool → Act → World → Prop
  | 0, _, listed, a, w => Region.ready .any ops listed = [] ∧ Q .normal a w
  | fuel + 1, T, listed, a, w =>
    (Region.ready .any ops listed = [] → Q .normal a w) ∧
    ∀ i ∈ Region.ready .any ops listed, wpOp P ops Q i (fun a' w' => paid ops i T w' ∧ wpAnyT P ops Q fuel (owedBy ops i T) (listed.setIfInBounds i true) a' w') a w

theorem wpAny_of_T : ∀ (fuel : Nat) (T : Owed) (listed : Array Bool) (a : Act) (w : World), wpAnyT P ops Q fuel T listed a w → wpAny P .any ops Q fuel listed a w
  | 0, _, _, _, _, h => h
  | fuel + 1, _, _, _, _, h => ⟨h.1, fun i hi => wpOp_mono (fun a' w' h' => wpAny_of_T fuel _ _ a' w' h'.2) (h.2 i hi)⟩

theorem wpAnyT_drop : ∀ (fuel : Nat) (T : Owed) (f : Nat × (World → Prop) → Bool) (listed : Array Bool) (a : Act) (w : World), wpAnyT P ops Q fuel T listed a w → wpAnyT P ops Q fuel (T.filter f) listed a w := by
  intro fuel
  induction fuel with
  | zero => exact fun T f listed a w h => h
  | succ fuel ih =>
    intro T f listed a w h
    refine ⟨h.1, fun j hj => wpOp_mono (fun a' w' h' => ?_) (h.2 j hj)⟩
    obtain ⟨h1, h2⟩ := h'
    refine ⟨?_, ?_⟩
    · clear h2 h
      induction T with
      | nil => trivial
      | cons p T ihT =>
        rw [List.filter_cons]
        split
        · exact ⟨h1.1, ihT h1.2⟩
        · exact ihT h1.2
    · have e : owedBy ops j (T.filter f) = (owedBy ops j T).filter f := by
        unfold owedBy; rw [List.filter_filter, List.filter_filter]; congr 1; funext p; rw [Bool.and_comm]
      rw [e]
      exact ih _ _ _ _ _ h2

theorem wpAnyT_first {i : Nat} {oi : Oper} {v : Value} {S : World → Prop} (hi : ops[i]? = some oi) (hsel : ∀ (j : Nat) (o : Oper) cs b, ops[j]? = some o → o.op ≠ .select cs b)
    (hQ : ∀ c a w, Q (.panic c) (a.put oi.dst v) w → Q (.panic c) a w) :
    ∀ (fuel : Nat) (T : Owed) (listed : Array Bool) (a : Act) (w : World),
      (∀ j oj, ops[j]? = some oj → j ≠ i → listed.getD j true = false → (∀ e ∈ oj.after, Region.binds .any e = true → e.on ≠ i) → oi.apart ops oj = true) →
      Closed ops listed → i ∈ Region.ready .any ops listed → YieldsIf P ops S oi v a → S w → paid ops i T w →
      wpAnyT P ops Q fuel ((i, S) :: T) (listed.setIfInBounds i true) (a.put oi.dst v) w → wpAnyT P ops Q (fuel + 1) T listed a w := by
  have here : ∀ (fuel : Nat) (T : Owed) (listed : Array Bool) (a : Act) (w : World), YieldsIf P ops S oi v a → S w → paid ops i T w →
      wpAnyT P ops Q fuel ((i, S) :: T) (listed.setIfInBounds i true) (a.put oi.dst v) w →
      wpOp P ops Q i (fun a' w' => paid ops i T w' ∧ wpAnyT P ops Q fuel (owedBy ops i T) (listed.setIfInBounds i true) a' w') a w := by
    intro fuel T listed a w hy hS hp H
    refine hy.wpOp hi hS ⟨hp, ?_⟩
    by_cases hii : waits ops i i = true
    · have e : owedBy ops i T = ((i, S) :: T).filter (fun p => !waits ops i p.1) := by unfold owedBy; rw [List.filter_cons]; simp [hii]
      rw [e]; exact wpAnyT_drop _ _ _ _ _ _ H
    · have h2 := wpAnyT_drop _ _ (fun p => !waits ops i p.1) _ _ _ H
      rw [List.filter_cons] at h2
      simp only [hii, Bool.not_false, if_true] at h2
      have tailOf : ∀ (fuel : Nat) (x : Nat × (World → Prop)) (T : Owed) (listed : Array Bool) (a : Act) (w : World), wpAnyT P ops Q fuel (x :: T) listed a w → wpAnyT P ops Q fuel T listed a w := by
        intro fuel
        induction fuel with
        | zero => exact fun x T listed a w h => h
        | succ fuel ih =>
          intro x T listed a w h
          refine ⟨h.1, fun j hj => wpOp_mono (fun a' w' h' => ?_) (h.2 j hj)⟩
          obtain ⟨h1, h2⟩ := h'
          refine ⟨h1.2, ?_⟩
          unfold owedBy at h2 ⊢
          rw [List.filter_cons] at h2
          split at h2
          · exact ih _ _ _ _ _ h2
          · exact h2
      exact tailOf _ _ _ _ _ _ h2
  intro fuel
  induction fuel with
  | zero =>
    intro T listed a w _ _ hr hy hS hp H
    refine ⟨fun h => (by rw [h] at hr; cases hr), fun j hj => ?_⟩
    by_cases hji : j = i
    · subst hji; exact here 0 T listed a w hy hS hp H
    · have := ready_mono hj hji
      rw [H.1] at this
      cases this
  | succ fuel ih =>
    intro T listed a w hfree hc hr hy hS hp H
    refine ⟨fun h => (by rw [h] at hr; cases hr), fun j hj => ?_⟩
    by_cases hji : j = i
    · subst hji; exact here (fuel + 1) T listed a w hy hS hp H
    · have h1 := H.2 j (ready_mono hj hji)
      obtain ⟨hjun, oj, hoj, hall⟩ := mem_ready.1 hj
      have hiun : listed.getD i false = false := by
        have h0 := (mem_ready.1 hr).1
        rcases Nat.lt_or_ge i listed.size with h' | h'
        · simp [h'] at h0 ⊢; exact h0
        · simp [Array.getElem?_eq_none h'] at h0
      have hnot : ∀ e ∈ oj.after, Region.binds .any e = true → e.on ≠ i := fun e he hb heq => by
        have h1 := hall e he hb
        rw [heq, hiun] at h1
        cases h1
      have hw : waits ops j i = false := by
        rw [← Bool.not_eq_true]
        intro hwt
        have := before_ok ops hc j oj hoj hall i hwt
        rw [hiun] at this
        cases this
      have h2 := wpOp_putIf hoj (hfree j oj hoj hji hjun hnot) (fun cs b => hsel i oi cs b hi) (fun cs b => hsel j oj cs b hoj) hQ hy h1
      have hfree' : ∀ k ok, ops[k]? = some ok → k ≠ i → (listed.setIfInBounds j true).getD k true = false →
          (∀ e ∈ ok.after, Region.binds .any e = true → e.on ≠ i) → oi.apart ops ok = true := fun k ok hk hki hun hno => by
        refine hfree k ok hk hki ?_ hno
        by_cases hjk : j = k
        · subst hjk; exact hjun
        · rw [getD_set_ne true hjk] at hun; exact hun
      have hc' : Closed ops (listed.setIfInBounds j true) := fun k o hk ho e he hb => by
        refine getD_set_true ?_
        by_cases hjk : j = k
        · subst hjk; rw [hoj] at ho; cases ho; exact hall e he hb
        · rw [getD_set_ne false hjk] at hk; exact hc k o hk ho e he hb
      refine wpOp_mono (fun a' w' h3 => ?_) h2
      obtain ⟨hy', hpaid, hrest⟩ := h3
      have hpd : S w' ∧ paid ops j T w' := by
        have := hpaid
        simp only [paid, hw] at this
        exact this
      refine ⟨hpd.2, ih (owedBy ops j T) (listed.setIfInBounds j true) a' w' hfree' hc' (ready_mono hr (Ne.symm hji)) hy' hpd.1 ?_ ?_⟩
      · have sub : ∀ (T : Owed), paid ops j T w' → paid ops i (owedBy ops j T) w' := by
          intro T
          induction T with
          | nil => intro _; trivial
          | cons p T ihT =>
            intro hp
            unfold owedBy
            rw [List.filter_cons]
            split
            · rename_i hpj
              refine ⟨?_, ihT hp.2⟩
              have h0 := hp.1
              have : waits ops j p.1 = false := by simpa using hpj
              rw [this] at h0
              split
              · trivial
              · exact h0
            · exact ihT hp.2
        exact sub T hpd.2
      · have e : owedBy ops j ((i, S) :: T) = (i, S) :: owedBy ops j T := by
          unfold owedBy; rw [List.filter_cons]; simp [hw]
        rw [e] at hrest
        rw [Array.setIfInBounds_comm _ _ hji]
        exact hrest
end

section
variable {P : Program} {N : Nat} {ops : Array Oper} {K : Env → World → Prop} {env : Env} {w : World} {T : Owed} {fuel : Nat} {listed : Array Bool}

/-- Those that a mask leaves. -/
@[reducible] def keepM : List Bool → Owed → Owed
  | true :: bs, p :: T => p :: keepM bs T
  | false :: bs, _ :: T => keepM bs T
  | _, _ => []
/-- All that is owed holds now. -/
@[reducible] def AllOwed : Owed → World → Prop
  | [], _ => True
  | (_, S) :: T, w => S w ∧ AllOwed T w
theorem paid_of : ∀ {T : Owed} {i : Nat}, AllOwed (owedBy ops i T) w → paid ops i T w := by
  intro T
  induction T with
  | nil => intro i _; trivial
  | cons p T ih =>
    intro i h
    unfold owedBy at h
    rw [List.filter_cons] at h
    split at h
    · rename_i hp
      refine ⟨?_, ih h.2⟩
      split
      · trivial
      · exact h.1
    · rename_i hp
      refine ⟨?_, ih h⟩
      have : waits ops i p.1 = true := by simpa using hp
      rw [this]; trivial
theorem AllOwed.filter {f : Nat × (World → Prop) → Bool} : ∀ {T : Owed}, AllOwed T w → AllOwed (T.filter f) w := by
  intro T
  induction T with
  | nil => exact fun h => h
  | cons p T ih =>
    intro h
    rw [List.filter_cons]
    split
    · exact ⟨h.1, ih h.2⟩
    · exact ih h.2

/-- A drawn region's state. -/
def WT (P : Program) (N : Nat) (ops : Array Oper) (K : Env → World → Prop) (fuel : Nat) (T : Owed) (listed : Array Bool) (env : Env) (w : World) : Prop :=
  AllOwed T w → ∀ a, Rel N a env → wpAnyT P ops (liftK N K) fuel T listed a w

theorem W.draw {Q : Exit → Env → World → Prop} {id : Nat} {l : List Oper} {W0 : World} {L : List HProp} (hm : P.follows .mixedOrders = true) (hO : On W0 L w)
    (h : ∀ w', On W0 L w' → WT P N l.toArray (fun env' w' => Q .normal env' w') l.length [] (Array.replicate l.length false) env w') : W P N (.region id l.toArray true) Q env w := fun a r => by
  refine wp_region_any hm ?_
  have := h w.drew hO.drew trivial a r
  have h2 := wpAny_of_T _ _ _ _ _ this
  have e : l.toArray.size = l.length := by simp
  rw [e]
  refine weaken ?_ _ _ _ _ h2
  rintro e a' w' ⟨rfl, env', r', k⟩
  exact ⟨env', r', k⟩
where
  weaken {P : Program} {ops : Array Oper} {Q Q' : Exit → Act → World → Prop} (i : ∀ e a w, Q e a w → Q' e a w) : ∀ (fuel : Nat) (listed : Array Bool) (a : Act) (w : World), wpAny P .any ops Q fuel listed a w → wpAny P .any ops Q' fuel listed a w := by
    intro fuel
    induction fuel with
    | zero => exact fun listed a w h => ⟨h.1, i _ _ _ h.2⟩
    | succ fuel ih =>
      intro listed a w h
      refine ⟨fun e => i _ _ _ (h.1 e), fun j hj => ?_⟩
      have := h.2 j hj
      unfold wpOp at this ⊢
      cases ho : ops[j]? with
      | none => rw [ho] at this; exact ih _ _ _ this
      | some o =>
        simp only [ho] at this ⊢
        split
        · rename_i hw
          rw [if_pos hw] at this
          refine this.imp (fun h => ?_) (fun ⟨h1, a', w', h2⟩ => ⟨h1, a', w', i _ _ _ h2⟩)
          unfold Oper.wp at h ⊢
          generalize (execOp a.eval o).run P w = r at h ⊢
          cases r with
          | ok n w' =>
            cases n <;> simp only [Oper.upon] at h ⊢ <;>
              first
                | exact ih _ _ _ h
                | exact Calls.mono h (fun e w'' he => by
                    cases e
                    · exact ih _ _ _ he
                    · exact i _ _ _ he
                    · exact ⟨he.choose, he.choose_spec.choose, i _ _ _ he.choose_spec.choose_spec⟩)
                | exact Rows.mono h (fun _ _ he => ih _ _ _ he)
          | halt x w' =>
            cases x <;> simp only [Oper.upon] at h ⊢
            exact i _ _ _ h
        · rename_i hw
          rw [if_neg hw] at this
          exact ih _ _ _ this

theorem WT.done (hr : Region.ready .any ops listed = []) (h : K env w) : WT P N ops K fuel T listed env w := fun _ a r => by
  cases fuel with
  | zero => exact ⟨hr, rfl, env, r, h⟩
  | succ f => exact ⟨fun _ => ⟨rfl, env, r, h⟩, by rw [hr]; exact fun i hi => by cases hi⟩

/-- The closed facts of a take, as one Bool. -/
def takes (ops : Array Oper) (listed : Array Bool) (i : Nat) : Bool := Region.noSelect ops && Region.free .any ops listed i && (Region.ready .any ops listed).contains i && closedB ops listed

/-- An operation whose value hangs on S alone is taken first. -/
theorem WT.take (i : Nat) {oi : Oper} {v : Value} (S : World → Prop) (hi : ops[i]? = some oi) (hb : takes ops listed i = true)
    (hw : Region.wanted oi (yieldedE ops env) = true) (hd : inN N oi.dst = true) (hS : S w) (hv : ∀ w', S w' → (execOp (evo env) oi).run P w' = .ok (.value v) w')
    (k : WT P N ops K fuel ((i, S) :: T) (listed.setIfInBounds i true) (updo env oi.dst v) w) : WT P N ops K (fuel + 1) T listed env w := fun hp a r => by
  simp only [takes, Bool.and_eq_true] at hb
  refine wpAnyT_first (S := S) hi (Region.noSelect_spec hb.1.1.1) (by rintro c a w ⟨h, _⟩; cases h) fuel T listed a w (Region.free_spec hi hb.1.1.2) (closed_of hb.2) (by simpa using hb.1.2) (Or.inl ⟨?_, ?_⟩) hS (paid_of hp.filter) (k ⟨hS, hp⟩ _ (r.puto hd v))
  · have hy : yielded ops a.tmps = yieldedE ops env := funext fun j => r.yielded ops j
    rw [hy]; exact hw
  · rw [r.eval]; exact hv

theorem wpAnyT_true (i : Nat) {P : Program} {ops : Array Oper} {Q : Exit → Act → World → Prop} : ∀ (fuel : Nat) (T : Owed) (listed : Array Bool) (a : Act) (w : World), wpAnyT P ops Q fuel T listed a w → wpAnyT P ops Q fuel ((i, fun _ => True) :: T) listed a w := by
  intro fuel
  induction fuel with
  | zero => exact fun T listed a w h => h
  | succ fuel ih =>
    intro T listed a w h
    refine ⟨h.1, fun j hj => wpOp_mono (fun a' w' h' => ?_) (h.2 j hj)⟩
    obtain ⟨h1, h2⟩ := h'
    refine ⟨⟨by split <;> trivial, h1⟩, ?_⟩
    unfold owedBy at h2 ⊢
    rw [List.filter_cons]
    split
    · exact ih _ _ _ _ h2
    · exact h2

/-- As above, of a value that hangs on no world at all: nothing is owed for it. -/
theorem WT.pure (i : Nat) {oi : Oper} {v : Value} (hi : ops[i]? = some oi) (hb : takes ops listed i = true)
    (hv : ∀ w', (execOp (evo env) oi).run P w' = .ok (.value v) w') (hw : Region.wanted oi (yieldedE ops env) = true) (hd : inN N oi.dst = true)
    (k : WT P N ops K fuel T (listed.setIfInBounds i true) (updo env oi.dst v) w) : WT P N ops K (fuel + 1) T listed env w := by
  refine WT.take i (fun _ => True) hi hb hw hd trivial (fun w' _ => hv w') fun hp a r => ?_
  exact wpAnyT_true i fuel T _ a w (k hp.2 a r)

/-- An operation that its guard leaves out. -/
theorem WT.skip (i : Nat) {oi : Oper} (hi : ops[i]? = some oi) (hb : takes ops listed i = true)
    (hw : Region.wanted oi (yieldedE ops env) = false) (hd : inN N oi.dst = true)
    (k : WT P N ops K fuel T (listed.setIfInBounds i true) (updo env oi.dst undef) w) : WT P N ops K (fuel + 1) T listed env w := fun hp a r => by
  simp only [takes, Bool.and_eq_true] at hb
  refine wpAnyT_first (S := fun _ => True) hi (Region.noSelect_spec hb.1.1.1) (by rintro c a w ⟨h, _⟩; cases h) fuel T listed a w (Region.free_spec hi hb.1.1.2) (closed_of hb.2) (by simpa using hb.1.2) (Or.inr ⟨?_, rfl⟩) trivial (paid_of hp.filter) ?_
  · have hy : yielded ops a.tmps = yieldedE ops env := funext fun j => r.yielded ops j
    rw [hy]; exact hw
  · exact wpAnyT_true i fuel T _ _ w (k hp _ (r.puto hd undef))

/-- A load of one cell, of a row of cells. -/
theorem WT.load1 (i : Nat) {t : TypeId} {x : Operand} {d : Option Nat} {ty : TypeId} {pos : String} {af : Array Edge} {g : Option (Nat × Bool)} {ad : Addr} {v : Value} (hi : ops[i]? = some ⟨d, .load t x, ty, pos, af, g⟩) (hb : takes ops listed i = true)
    (hA : ∀ w, (isAgg t).run P w = .ok false w) (h : evo env x = .pointer (some ad)) (hc : w.cell? ad = some v)
    (hw : Region.wanted ⟨d, .load t x, ty, pos, af, g⟩ (yieldedE ops env) = true) (hd : inN N d = true)
    (k : WT P N ops K fuel ((i, fun w => w.cell? ad = some v) :: T) (listed.setIfInBounds i true) (updo env d v) w) : WT P N ops K (fuel + 1) T listed env w :=
  WT.take i (fun w => w.cell? ad = some v) hi hb hw hd hc (fun w' hc' => by simp [execOp, Instr.loadAt, h, Instr.sureAddr, loadVar, hA, hc']) k

theorem WT.loadN (i : Nat) {t n b o : Nat} {x : Operand} {d : Option Nat} {ty : TypeId} {pos : String} {af : Array Edge} {g : Option (Nat × Bool)} {vs : List Value} (hi : ops[i]? = some ⟨d, .load t x, ty, pos, af, g⟩) (hb : takes ops listed i = true)
    (hA : ∀ w, (isAgg t).run P w = .ok true w) (hS : ∀ w, (sizeOf t).run P w = .ok n w) (h : evo env x = .pointer (some ⟨b, o, none⟩)) (hl : vs.length = n) (hc : ∀ j u, vs[j]? = some u → w.cell? ⟨b, o + j, none⟩ = some u)
    (hw : Region.wanted ⟨d, .load t x, ty, pos, af, g⟩ (yieldedE ops env) = true) (hd : inN N d = true)
    (k : WT P N ops K fuel ((i, fun w => ∀ j u, vs[j]? = some u → w.cell? ⟨b, o + j, none⟩ = some u) :: T) (listed.setIfInBounds i true) (updo env d (.agg vs.toArray)) w) : WT P N ops K (fuel + 1) T listed env w :=
  WT.take i (fun w => ∀ j u, vs[j]? = some u → w.cell? ⟨b, o + j, none⟩ = some u) hi hb hw hd hc (fun w' hc' => by
    have := run_loadCells_list (P := P) w' ⟨b, o, none⟩ vs (fun j v hv => by
      have := hc' j v hv
      unfold Addr.add; split
      · rename_i h0; subst h0; simpa using this
      · exact this)
    rw [hl] at this
    simp [execOp, Instr.loadAt, h, Instr.sureAddr, loadVar, hA, hS, this]) k

/-- The one operation that may come up. -/
theorem WT.eff (i : Nat) {oi : Oper} {R : Value → World → Prop} (mask : List Bool) (hi : ops[i]? = some oi) (hr : Region.ready .any ops listed = [i]) (hT : owedBy ops i T = keepM mask T) (he : Eff P (evo env) oi w R)
    (hw : Region.wanted oi (yieldedE ops env) = true) (hd : inN N oi.dst = true)
    (k : ∀ v w', R v w' → AllOwed (keepM mask T) w' ∧ WT P N ops K fuel (keepM mask T) (listed.setIfInBounds i true) (updo env oi.dst v) w') : WT P N ops K (fuel + 1) T listed env w := fun hp a r => by
  rw [← hT] at k
  refine ⟨fun e => absurd (hr ▸ e) (by simp), ?_⟩
  rw [hr]
  intro j hj
  rw [List.mem_singleton] at hj
  subst hj
  unfold wpOp
  have hy : yielded ops a.tmps = yieldedE ops env := funext fun j => r.yielded ops j
  simp only [hi]
  rw [hy, if_pos hw]
  exact .inl (he.wp r fun v w' hR => ⟨paid_of (k v w' hR).1, (k v w' hR).2 (k v w' hR).1 _ (r.puto hd v)⟩)

/-- Two may come up, in either order. -/
theorem WT.two (i j : Nat) (hr : Region.ready .any ops listed = [i, j])
    (h1 : ∀ a, Rel N a env → AllOwed T w → wpOp P ops (liftK N K) i (fun a' w' => paid ops i T w' ∧ wpAnyT P ops (liftK N K) fuel (owedBy ops i T) (listed.setIfInBounds i true) a' w') a w)
    (h2 : ∀ a, Rel N a env → AllOwed T w → wpOp P ops (liftK N K) j (fun a' w' => paid ops j T w' ∧ wpAnyT P ops (liftK N K) fuel (owedBy ops j T) (listed.setIfInBounds j true) a' w') a w) : WT P N ops K (fuel + 1) T listed env w := fun hp a r => by
  refine ⟨fun e => absurd (hr ▸ e) (by simp), ?_⟩
  rw [hr]
  intro x hx
  rcases List.mem_cons.1 hx with rfl | hx
  · exact h1 a r hp
  · rw [List.mem_singleton] at hx; subst hx; exact h2 a r hp
theorem WT.opOf (i : Nat) {oi : Oper} {R : Value → World → Prop} (mask : List Bool) (hi : ops[i]? = some oi) (hT : owedBy ops i T = keepM mask T) (he : Eff P (evo env) oi w R)
    (hw : Region.wanted oi (yieldedE ops env) = true) (hd : inN N oi.dst = true)
    (k : ∀ v w', R v w' → AllOwed (keepM mask T) w' ∧ WT P N ops K fuel (keepM mask T) (listed.setIfInBounds i true) (updo env oi.dst v) w') :
    ∀ a, Rel N a env → AllOwed T w → wpOp P ops (liftK N K) i (fun a' w' => paid ops i T w' ∧ wpAnyT P ops (liftK N K) fuel (owedBy ops i T) (listed.setIfInBounds i true) a' w') a w := fun a r hp => by
  rw [← hT] at k
  unfold wpOp
  have hy : yielded ops a.tmps = yieldedE ops env := funext fun j => r.yielded ops j
  simp only [hi]
  rw [hy, if_pos hw]
  exact .inl (he.wp r fun v w' hR => ⟨paid_of (k v w' hR).1, (k v w' hR).2 (k v w' hR).1 _ (r.puto hd v)⟩)
end
end Go.Sl
/-
  Memory: blocks as lists of cells, loads and stores, slices that are read, slices that are owned.
-/
namespace Go.Sl
open Go
set_option linter.unusedVariables false

abbrev obj (l : List Value) (e : Nat) (fr : Nat × Nat := (0, 0)) : Obj := .cells l.toArray e fr
/-- Block b is this row of cells. -/
abbrev blk (b : Nat) (l : List Value) (e : Nat) (fr : Nat × Nat := (0, 0)) : HProp := pts b (obj l e fr)

def free (fr : Nat × Nat) (off : Nat) : Bool := !(Nat.ble fr.1 off && Nat.ble (off + 1) fr.2)

theorem Addr.add_mk (b o n : Nat) : (⟨b, o, none⟩ : Addr).add n = ⟨b, o + n, none⟩ := by unfold Addr.add; split <;> simp_all

section
variable {P : Program} {W0 w : World} {L : List HProp}

theorem On.cellL (H : On W0 L w) (i : Nat) {b : Nat} {l : List Value} {e : Nat} {fr : Nat × Nat} (hi : L[i]? = some (blk b l e fr)) (off : Nat) {v : Value} (hv : l[off]? = some v) :
    w.cell? ⟨b, off, none⟩ = some v := H.cell i hi (by simpa using hv)

theorem frozen_of {w : World} {b : Nat} {l : List Value} {e : Nat} {fr : Nat × Nat} (hb : w.heap[b]? = some (obj l e fr)) {off : Nat} (hf : free fr off = true) : w.frozen? ⟨b, off, none⟩ = false := by
  unfold World.frozen?
  rw [hb]
  simp only [free, Bool.not_eq_true', Bool.and_eq_false_imp, Nat.ble_eq] at hf
  show (decide (fr.1 ≤ off) && decide (off < fr.2)) = false
  rw [Bool.and_eq_false_imp]
  intro h
  have := hf (by simpa using h)
  rw [← Bool.not_eq_true] at this
  rw [Nat.ble_eq] at this
  simp; omega

/-- A store of one cell. -/
theorem run_store1 {b off : Nat} {l : List Value} {e : Nat} {fr : Nat × Nat} (hb : w.heap[b]? = some (obj l e fr)) (hlt : off < l.length) (hf : free fr off = true) {v : Value} (hv : v.oneCell' = true) :
    (store ⟨b, off, none⟩ v).run P w = .ok () (w.setCell ⟨b, off, none⟩ v) := by
  rw [run_store P w _ v _ hv]
  have hc : w.cell? ⟨b, off, none⟩ = some l[off] := by rw [cell_of_row w b off _ _ _ hb]; simp [hlt]
  rw [hc, frozen_of hb hf]
  rfl

theorem run_storeCells_fr (g o : Nat) (t : TypeId) (fr : Nat × Nat) : ∀ (vs : List Value) (i : Nat) (cur : Array Value) (w : World), w.heap[g]? = some (.cells cur t fr) → o + i + vs.length ≤ cur.size → (∀ v ∈ vs, v.oneCell' = true) →
    (∀ k, o + i ≤ k → k < o + i + vs.length → free fr k = true) →
    (storeCells ⟨g, o, none⟩ vs i).run P w = .ok () (w.setRow g (cur.toList.take (o + i) ++ vs ++ cur.toList.drop (o + i + vs.length)).toArray)
  | [], i, cur, w, hg, _, _, _ => by
    simp only [storeCells, List.append_nil, List.length_nil, Nat.add_zero, List.take_append_drop, Array.toArray_toList]
    rw [setRow_self w g cur t fr hg]
    rfl
  | v :: rest, i, cur, w, hg, hl, h1, hfr => by
    have hi : o + i < cur.size := by simp at hl; omega
    have hadd : (⟨g, o, none⟩ : Addr).add i = ⟨g, o + i, none⟩ := by unfold Addr.add; split <;> simp_all
    have hcell : w.cell? ⟨g, o + i, none⟩ = some cur[o + i] := by simp [World.cell?, hg, hi]
    have hfro : w.frozen? ⟨g, o + i, none⟩ = false := frozen_of (l := cur.toList) (by simpa [obj] using hg) (hfr (o + i) (Nat.le_refl _) (by simp))
    have hst : (store ((⟨g, o, none⟩ : Addr).add i) v).run P w = .ok () (w.setRow g (cur.setIfInBounds (o + i) v)) := by
      rw [hadd, run_store P w _ v _ (h1 v (by simp)), hcell]
      simp [hfro, setCell_eq_setRow w g (o + i) cur t fr v hg]
    have ih := run_storeCells_fr g o t fr rest (i + 1) (cur.setIfInBounds (o + i) v) (w.setRow g (cur.setIfInBounds (o + i) v)) (setRow_heap w g cur _ t _ hg) (by simp at hl ⊢; omega) (fun x hx => h1 x (by simp [hx])) (fun k h1 h2 => hfr k (by omega) (by simp; omega))
    simp only [storeCells, Sem.run_bind, hst, Result.andThen_ok, ih, setRow_setRow]
    congr 3
    have e := list_seg_step cur.toList (o + i) v rest (by simp at hl ⊢; omega)
    simpa [Array.toList_setIfInBounds, Nat.add_assoc] using e

/-- A stretch of a list, written over. -/
def splice (l : List Value) (o : Nat) (vs : List Value) : List Value := l.take o ++ vs ++ l.drop (o + vs.length)
theorem splice_length {l : List Value} {o : Nat} {vs : List Value} (h : o + vs.length ≤ l.length) : (splice l o vs).length = l.length := by
  simp only [splice, List.length_append, List.length_take, List.length_drop]; omega

theorem On.setCellL (H : On W0 L w) (i : Nat) {b : Nat} {l : List Value} {e : Nat} {fr : Nat × Nat} (hi : L[i]? = some (blk b l e fr)) (off : Nat) (v : Value) :
    On W0 (L.set i (blk b (l.set off v) e fr)) (w.setCell ⟨b, off, none⟩ v) := by
  have := H.setCell i hi off v
  simpa [blk, obj, List.setIfInBounds_toArray] using this

theorem On.storeCells (H : On W0 L w) (i : Nat) {b : Nat} {l : List Value} {e : Nat} {fr : Nat × Nat} (hi : L[i]? = some (blk b l e fr)) (o : Nat) (vs : List Value) (hl : o + vs.length ≤ l.length) (h1 : ∀ v ∈ vs, v.oneCell' = true)
    (hfr : ∀ k, o ≤ k → k < o + vs.length → free fr k = true) : ∃ w', (storeCells ⟨b, o, none⟩ vs).run P w = .ok () w' ∧ On W0 (L.set i (blk b (splice l o vs) e fr)) w' := by
  have hst := run_storeCells_fr (P := P) b o e fr vs 0 l.toArray w (H.block i hi) (by simpa using hl) h1 (by simpa using hfr)
  refine ⟨_, hst, ?_⟩
  have := H.setRow (cs' := (splice l o vs).toArray) i hi
  simpa [splice] using this
end

/-! ### Reading -/
def cellH (h : Hp) (b i : Nat) : Option Value := match h b with
  | some (.cells c _ _) => c[i]?
  | _ => none
theorem cellH_mono {h k : Hp} (s : Sub h k) {b i : Nat} {v : Value} (e : cellH h b i = some v) : cellH k b i = some v := by
  unfold cellH at e ⊢
  cases hb : h b with
  | none => rw [hb] at e; cases e
  | some o => rw [s b o hb]; rw [hb] at e; exact e
theorem cellH_hp (w : World) (b i : Nat) : cellH (hp w) b i = w.cell? ⟨b, i, none⟩ := by
  unfold cellH hp World.cell?
  split <;> simp_all

/-- A row of cells from a place on. -/
def rowAt (b o : Nat) (xs : List Value) : HProp := fun h => ∀ j u, xs[j]? = some u → cellH h b (o + j) = some u
theorem rowAt_mono (b o : Nat) (xs : List Value) : Mono (rowAt b o xs) := fun h k s H j u e => cellH_mono s (H j u e)

/-- A slice that reads as these cells (n elements of 'size' cells each). -/
def Cells (size : Nat) (v : Value) (n : Nat) (xs : List Value) : HProp := fun h =>
  xs.length = n * size ∧ ∃ ao cap, v = .slice ao n cap ∧ n ≤ cap ∧ cap ≤ maxLen ∧ (ao = none → cap = 0) ∧ (0 < n → ∃ b o, ao = some ⟨b, o, none⟩ ∧ rowAt b o xs h)
theorem Cells_mono (size : Nat) (v : Value) (n : Nat) (xs : List Value) : Mono (Cells size v n xs) := fun h k s ⟨hl, ao, cap, hv, h1, h2, h3, h4⟩ =>
  ⟨hl, ao, cap, hv, h1, h2, h3, fun hn => let ⟨b, o, e, r⟩ := h4 hn; ⟨b, o, e, rowAt_mono _ _ _ _ _ s r⟩⟩

/-- A slice that is owned: its block is nobody else's. -/
def Own (size : Nat) (v : Value) (n : Nat) (xs : List Value) : HProp := fun h =>
  xs.length = n * size ∧ ((n = 0 ∧ ∃ ao, v = .slice ao 0 0) ∨
    ∃ g off cap cur e fr, v = .slice (some ⟨g, off, none⟩) n cap ∧ n ≤ cap ∧ cap ≤ maxLen ∧ off + cap * size ≤ cur.length ∧ (cur.drop off).take (n * size) = xs ∧
      (fr.1 = fr.2 ∨ cur.length ≤ fr.1) ∧ h g = some (obj cur e fr))
theorem free_ok {fr : Nat × Nat} {n : Nat} (h : fr.1 = fr.2 ∨ n ≤ fr.1) {k : Nat} (hk : k < n) : free fr k = true := by
  unfold free
  simp only [Bool.not_eq_true', Bool.and_eq_false_imp, Nat.ble_eq]
  intro hle
  rw [← Bool.not_eq_true, Nat.ble_eq]
  omega
theorem Own_mono (size : Nat) (v : Value) (n : Nat) (xs : List Value) : Mono (Own size v n xs) := fun h k s ⟨hl, H⟩ =>
  ⟨hl, H.imp id fun ⟨g, off, cap, cur, e, fr, h1, h2, h3, h4, h5, h6, h7⟩ => ⟨g, off, cap, cur, e, fr, h1, h2, h3, h4, h5, h6, s _ _ h7⟩⟩

theorem Own.nil (size : Nat) (h : Hp) : Own size (.slice none 0 0) 0 [] h := ⟨by simp, .inl ⟨rfl, none, rfl⟩⟩

theorem Own.cells {size : Nat} {v : Value} {n : Nat} {xs : List Value} {h : Hp} (H : Own size v n xs h) : Cells size v n xs h := by
  obtain ⟨hl, H⟩ := H
  rcases H with ⟨rfl, ao, rfl⟩ | ⟨g, off, cap, cur, e, fr, rfl, h1, h2, h3, h4, h5, h6⟩
  · exact ⟨hl, ao, 0, rfl, Nat.le_refl _, by simp, fun _ => rfl, fun h => absurd h (Nat.lt_irrefl _)⟩
  · refine ⟨hl, _, cap, rfl, h1, h2, fun h => (by cases h), fun _ => ⟨g, off, rfl, ?_⟩⟩
    intro j u hj
    unfold cellH
    rw [h6]
    simp only [List.getElem?_toArray]
    rw [← h4] at hj
    rw [List.getElem?_take] at hj
    split at hj
    · rw [List.getElem?_drop] at hj; exact hj
    · cases hj

theorem On.cells {W0 w : World} {L : List HProp} (H : On W0 L w) (i : Nat) {size : Nat} {v : Value} {n : Nat} {xs : List Value} (hi : L[i]? = some (Own size v n xs)) : Cells size v n xs (hp w) :=
  (H.get i hi (Own_mono _ _ _ _)).cells

theorem Gives.own {L : List HProp} {size : Nat} {v : Value} {n : Nat} {xs : List Value} : Gives (Own size v n xs :: L) (Cells size v n xs) := Gives.head (Cells_mono _ _ _ _) fun _ => Own.cells
/-- What an assertion anywhere in a list gives. -/
theorem Gives.at {L : List HProp} {A B : HProp} (i : Nat) (hi : L[i]? = some B) (m : Mono A) (f : ∀ h, B h → A h) : Gives L A := fun h H => by
  obtain ⟨h1, s, b⟩ := (H.pull i hi).fact
  exact m _ _ s (f _ b)
theorem Gives.ownAt {L : List HProp} (i : Nat) {size : Nat} {v : Value} {n : Nat} {xs : List Value} (hi : L[i]? = some (Own size v n xs)) : Gives L (Cells size v n xs) := Gives.at i hi (Cells_mono _ _ _ _) fun _ => Own.cells

/-- A cell of a slice that is read. -/
theorem Cells.cell {w : World} {size : Nat} {v : Value} {n : Nat} {xs : List Value} (H : Cells size v n xs (hp w)) {b o c : Nat} (hv : v = .slice (some ⟨b, o, none⟩) n c) (hn : 0 < n) {j : Nat} {u : Value} (hj : xs[j]? = some u) :
    w.cell? ⟨b, o + j, none⟩ = some u := by
  obtain ⟨hl, ao, cap, hv', h1, h2, h3, h4⟩ := H
  obtain ⟨b', o', rfl, r⟩ := h4 hn
  rw [hv] at hv'
  simp only [Value.slice.injEq, Option.some.injEq, Addr.mk.injEq] at hv'
  obtain ⟨⟨rfl, rfl, _⟩, _, _⟩ := hv'
  rw [← cellH_hp]
  exact r j u hj
end Go.Sl
/-
  What each operation does, as an equation on its run; of those that change memory: what becomes of the list.
-/
namespace Go.Sl
open Go
set_option linter.unusedVariables false

section
variable {P : Program} {W0 w : World} {L : List HProp} {ρ : Operand → Value} {d : Option Nat} {ty : TypeId} {pos : String} {af : Array Edge} {g : Option (Nat × Bool)}

theorem run_move {x : Operand} : (execOp ρ ⟨d, .move x, ty, pos, af, g⟩).run P w = .ok (.value (ρ x)) w := rfl
theorem run_assign {x : Operand} : (execOp ρ ⟨d, .assign x, ty, pos, af, g⟩).run P w = .ok (.value (ρ x)) w := rfl
theorem run_pickT {c a b : Operand} (h : ρ c = .bool true) : (execOp ρ ⟨d, .pick c a b, ty, pos, af, g⟩).run P w = .ok (.value (ρ a)) w := by
  simp [execOp, h, asBool]
theorem run_pickF {c a b : Operand} (h : ρ c = .bool false) : (execOp ρ ⟨d, .pick c a b, ty, pos, af, g⟩).run P w = .ok (.value (ρ b)) w := by
  simp [execOp, h, asBool]
/-- 'a && b', undecided: its value. -/
theorem run_pickAnd {c a : Operand} {k : Value} {p q : Bool} (h : ρ c = .bool p) (ha : ρ a = .bool q) (h' : p = true) : (execOp ρ ⟨d, .pick c a (.const k), ty, pos, af, g⟩).run P w = .ok (.value (.bool q)) w := by
  simp [execOp, h, asBool, h', ha]
theorem run_nilCheck {x : Operand} {a : Addr} (h : ρ x = .pointer (some a)) : (execOp ρ ⟨d, .nilCheck x, ty, pos, af, g⟩).run P w = .ok (.value (.pointer (some a))) w := by
  simp [execOp, h]
theorem run_nilCheckF {x : Operand} {f : FuncId} {a c : Array Value} (h : ρ x = .func (.func f) a c) : (execOp ρ ⟨d, .nilCheck x, ty, pos, af, g⟩).run P w = .ok (.value (.func (.func f) a c)) w := by
  simp [execOp, h]
theorem run_extract {x : Operand} {i : Nat} {vs : List Value} {v : Value} (h : ρ x = .tuple vs.toArray) (hv : vs[i]? = some v) : (execOp ρ ⟨d, .extract x i, ty, pos, af, g⟩).run P w = .ok (.value v) w := by
  simp [execOp, h, Instr.extract, hv]
theorem run_not {x : Operand} {t : TypeId} {b : Bool} (h : ρ x = .bool b) : (execOp ρ ⟨d, .unOp .not t x, ty, pos, af, g⟩).run P w = .ok (.value (.bool !b)) w := by
  simp [execOp, h, Op.unary]

/-! ### Addresses -/
theorem run_fieldAddr {s fi n b o : Nat} (off : Nat) {x : Operand} {fs : Array Field} {f : Field} (hU : P.underlying s = some (.struct fs)) (hf : fs[fi]? = some f) (hS : ∀ w, (sizeOf f.type).run P w = .ok (n + 1) w) (h : ρ x = .pointer (some ⟨b, o, none⟩)) (ho : f.offset = off) :
    (execOp ρ ⟨d, .fieldAddr s x fi, ty, pos, af, g⟩).run P w = .ok (.value (.pointer (some ⟨b, o + off, none⟩))) w := by
  subst ho
  simp [execOp, Instr.fieldAt, run_underlying hU, hf, h, Instr.sureAddr, fieldPlace, hS, Addr.add_mk]
theorem run_indexAddr {t e size n c b o : Nat} {x y : Operand} {k : IntKind} {i : Int} (hU : P.underlying t = some (.slice e)) (hS : ∀ w, (sizeOf e).run P w = .ok size w)
    (hx : ρ x = .slice (some ⟨b, o, none⟩) n c) (hy : ρ y = .int k i) (h0 : 0 ≤ i) (h1 : i < n) :
    (execOp ρ ⟨d, .indexAddr t x y, ty, pos, af, g⟩).run P w = .ok (.value (.pointer (some ⟨b, o + i.toNat * size, none⟩))) w := by
  simp [execOp, Instr.indexAt, run_underlying hU, hx, hy, asIntOf, hS, h0, h1, Addr.add_mk]
theorem run_indexAddrArr {t e size n b o : Nat} {x y : Operand} {k : IntKind} {i : Int} (hU : P.underlying t = some (.array n e)) (hS : ∀ w, (sizeOf e).run P w = .ok size w)
    (hx : ρ x = .pointer (some ⟨b, o, none⟩)) (hy : ρ y = .int k i) (h0 : 0 ≤ i) (h1 : i < n) :
    (execOp ρ ⟨d, .indexAddr t x y, ty, pos, af, g⟩).run P w = .ok (.value (.pointer (some ⟨b, o + i.toNat * size, none⟩))) w := by
  simp [execOp, Instr.indexAt, run_underlying hU, hx, hy, asIntOf, hS, h0, h1, Addr.add_mk, Instr.sureAddr]

/-! ### Loads and stores -/
theorem run_load1 {t : TypeId} {x : Operand} {a : Addr} {v : Value} (hA : ∀ w, (isAgg t).run P w = .ok false w) (h : ρ x = .pointer (some a)) (hc : w.cell? a = some v) :
    (execOp ρ ⟨d, .load t x, ty, pos, af, g⟩).run P w = .ok (.value v) w := by
  simp [execOp, Instr.loadAt, h, Instr.sureAddr, loadVar, hA, hc]
theorem run_loadN {t n b o : Nat} {x : Operand} {vs : List Value} (hA : ∀ w, (isAgg t).run P w = .ok true w) (hS : ∀ w, (sizeOf t).run P w = .ok n w) (h : ρ x = .pointer (some ⟨b, o, none⟩)) (hl : vs.length = n)
    (hc : ∀ j u, vs[j]? = some u → w.cell? ⟨b, o + j, none⟩ = some u) :
    (execOp ρ ⟨d, .load t x, ty, pos, af, g⟩).run P w = .ok (.value (.agg vs.toArray)) w := by
  have := run_loadCells_list (P := P) w ⟨b, o, none⟩ vs (fun j v hv => by rw [Addr.add_mk]; exact hc j v hv)
  rw [hl] at this
  simp [execOp, Instr.loadAt, h, Instr.sureAddr, loadVar, hA, hS, this]

theorem cells_one {v : Value} (h : v.oneCell' = true) : v.cells = #[v] := by cases v <;> simp_all [Value.oneCell', Value.cells]

theorem run_storeOne {t b o : Nat} {x y : Operand} {v : Value} {l : List Value} {e : Nat} {fr : Nat × Nat} (hS : ∀ w, (sizeOf t).run P w = .ok 1 w) (h : ρ x = .pointer (some ⟨b, o, none⟩)) (hy : ρ y = v) (hv : v.oneCell' = true)
    (hb : w.heap[b]? = some (obj l e fr)) (hlt : Nat.ble (o + 1) l.length = true) (hf : free fr o = true) :
    (execOp ρ ⟨d, .store t x y, ty, pos, af, g⟩).run P w = .ok .skip (w.setCell ⟨b, o, none⟩ v) := by
  have hst := run_store1 (P := P) hb (Nat.le_of_ble_eq_true hlt) hf hv
  simp [execOp, Instr.storeAt, h, hy, Instr.sureAddr, storeVar, hS, cells_one hv, storeCells, Addr.add_mk, hst]

theorem run_storeN {t n b o i : Nat} {x y : Operand} {vs : List Value} {l : List Value} {e : Nat} {fr : Nat × Nat} (H : On W0 L w) (hi : L[i]? = some (blk b l e fr)) (hS : ∀ w, (sizeOf t).run P w = .ok n w) (h : ρ x = .pointer (some ⟨b, o, none⟩)) (hy : ρ y = .agg vs.toArray) (hn : vs.length = n)
    (hv : ∀ v ∈ vs, v.oneCell' = true) (hlt : o + n ≤ l.length) (hf : ∀ k, o ≤ k → k < o + n → free fr k = true) :
    ∃ w', (execOp ρ ⟨d, .store t x y, ty, pos, af, g⟩).run P w = .ok .skip w' ∧ On W0 (L.set i (blk b (splice l o vs) e fr)) w' := by
  obtain ⟨w', hst, hO⟩ := H.storeCells (P := P) i hi o vs (by omega) hv (by rw [hn]; exact hf)
  refine ⟨w', ?_, hO⟩
  simp [execOp, Instr.storeAt, h, hy, Instr.sureAddr, storeVar, hS, Value.cells, hn, hst]

/-! ### New memory -/
theorem run_alloc {t : Nat} {z : Value} (hZ : ∀ w, (zeroValue t).run P w = .ok z w) :
    (execOp ρ ⟨d, .alloc t, ty, pos, af, g⟩).run P w = .ok (.value (.pointer (some ⟨w.heap.size, 0, none⟩))) (w.alloc (.cells z.cells t)) := by
  simp [execOp, Instr.alloc, hZ, newVar, newRow]
theorem run_box {t : Nat} {x : Operand} {v : Value} (h : ρ x = v) :
    (execOp ρ ⟨d, .box t x, ty, pos, af, g⟩).run P w = .ok (.value (.pointer (some ⟨w.heap.size, 0, none⟩))) (w.alloc (.cells v.cells t)) := by
  simp [execOp, Instr.box, h, newVar, newRow]
theorem run_build {t : Nat} {ps : Array (Nat × Operand)} {v : Value} (h : ∀ w, (Instr.build t (ps.map fun (i, x) => (i, ρ x))).run P w = .ok v w) :
    (execOp ρ ⟨d, .build t ps, ty, pos, af, g⟩).run P w = .ok (.value v) w := by
  simp [execOp, h]

/-! ### Numbers -/
theorem wrap_in (k : IntKind) {n : Int} (h : k.min ≤ n) (h' : n ≤ k.max) : k.wrap n = n := by
  cases k <;> simp only [IntKind.min, IntKind.max, IntKind.signed, IntKind.bits] at h h' <;> simp at h h'
  · exact IntWalk.i8_in n ⟨by omega, by omega⟩
  · exact IntWalk.i16_in n ⟨by omega, by omega⟩
  · exact IntWalk.i32_in n ⟨by omega, by omega⟩
  · exact IntWalk.i64_in n ⟨by omega, by omega⟩
  · exact IntWalk.u8_in n ⟨by omega, by omega⟩
  · exact IntWalk.u16_in n ⟨by omega, by omega⟩
  · exact IntWalk.u32_in n ⟨by omega, by omega⟩
  · exact IntWalk.u64_in n ⟨by omega, by omega⟩

section
variable {t yt : TypeId} {x y : Operand} {k : IntKind} {m n : Int}
theorem run_addW (hx : ρ x = .int k m) (hy : ρ y = .int k n) : (execOp ρ ⟨d, .binOp .add t x y yt, ty, pos, af, g⟩).run P w = .ok (.value (.int k (k.wrap (m + n)))) w := by
  simp [execOp, eqGuard, hx, hy, binOp, Op.intArith]
theorem run_subW (hx : ρ x = .int k m) (hy : ρ y = .int k n) : (execOp ρ ⟨d, .binOp .sub t x y yt, ty, pos, af, g⟩).run P w = .ok (.value (.int k (k.wrap (m - n)))) w := by
  simp [execOp, eqGuard, hx, hy, binOp, Op.intArith]
theorem run_mulW (hx : ρ x = .int k m) (hy : ρ y = .int k n) : (execOp ρ ⟨d, .binOp .mul t x y yt, ty, pos, af, g⟩).run P w = .ok (.value (.int k (k.wrap (m * n)))) w := by
  simp [execOp, eqGuard, hx, hy, binOp, Op.intArith]
theorem run_add (hx : ρ x = .int .i64 m) (hy : ρ y = .int .i64 n) (h : -9223372036854775808 ≤ m + n) (h' : m + n ≤ 9223372036854775807) : (execOp ρ ⟨d, .binOp .add t x y yt, ty, pos, af, g⟩).run P w = .ok (.value (.int .i64 (m + n))) w := by
  rw [run_addW hx hy, IntWalk.i64_in _ ⟨h, h'⟩]
theorem run_sub (hx : ρ x = .int .i64 m) (hy : ρ y = .int .i64 n) (h : -9223372036854775808 ≤ m - n) (h' : m - n ≤ 9223372036854775807) : (execOp ρ ⟨d, .binOp .sub t x y yt, ty, pos, af, g⟩).run P w = .ok (.value (.int .i64 (m - n))) w := by
  rw [run_subW hx hy, IntWalk.i64_in _ ⟨h, h'⟩]
theorem run_addN {m n : Nat} (hx : ρ x = .int .i64 (m : Int)) (hy : ρ y = .int .i64 (n : Int)) (h : m + n ≤ 9223372036854775807) : (execOp ρ ⟨d, .binOp .add t x y yt, ty, pos, af, g⟩).run P w = .ok (.value (.int .i64 ((m + n : Nat) : Int))) w := by
  rw [run_add hx hy (by omega) (by omega)]; rfl
theorem run_incN {m : Nat} (hx : ρ x = .int .i64 (m : Int)) (hy : ρ y = .int .i64 1) (h : m + 1 ≤ 9223372036854775807) : (execOp ρ ⟨d, .binOp .add t x y yt, ty, pos, af, g⟩).run P w = .ok (.value (.int .i64 ((m + 1 : Nat) : Int))) w := by
  rw [run_add hx hy (by omega) (by omega)]; rfl
theorem run_subN {m n : Nat} (hx : ρ x = .int .i64 (m : Int)) (hy : ρ y = .int .i64 (n : Int)) (h : n ≤ m) (h' : m ≤ 9223372036854775807) : (execOp ρ ⟨d, .binOp .sub t x y yt, ty, pos, af, g⟩).run P w = .ok (.value (.int .i64 ((m - n : Nat) : Int))) w := by
  rw [run_sub hx hy (by omega) (by omega), Int.ofNat_sub h]
theorem run_mulN {m n : Nat} (hx : ρ x = .int .i64 (m : Int)) (hy : ρ y = .int .i64 (n : Int)) (h : m * n ≤ 9223372036854775807) : (execOp ρ ⟨d, .binOp .mul t x y yt, ty, pos, af, g⟩).run P w = .ok (.value (.int .i64 ((m * n : Nat) : Int))) w := by
  rw [run_mulW hx hy, IntWalk.i64_in _ (by constructor <;> (rw [← Int.natCast_mul]; omega))]; rfl
theorem run_mul (hx : ρ x = .int .i64 m) (hy : ρ y = .int .i64 n) (h : -9223372036854775808 ≤ m * n) (h' : m * n ≤ 9223372036854775807) : (execOp ρ ⟨d, .binOp .mul t x y yt, ty, pos, af, g⟩).run P w = .ok (.value (.int .i64 (m * n))) w := by
  rw [run_mulW hx hy, IntWalk.i64_in _ ⟨h, h'⟩]
theorem run_quo (hx : ρ x = .int .i64 m) (hy : ρ y = .int .i64 n) (h : 0 ≤ m) (h2 : m ≤ 9223372036854775807) (h' : 1 ≤ n) : (execOp ρ ⟨d, .binOp .quo t x y yt, ty, pos, af, g⟩).run P w = .ok (.value (.int .i64 (m / n))) w := by
  have hn : n ≠ 0 := by omega
  simp [execOp, eqGuard, hx, hy, binOp, Op.intDiv, hn, IntWalk.i64_quo m n ⟨h, h2, h'⟩]
theorem run_rem (hx : ρ x = .int k m) (hy : ρ y = .int k n) (h : 0 ≤ m) (h' : n ≠ 0) : (execOp ρ ⟨d, .binOp .rem t x y yt, ty, pos, af, g⟩).run P w = .ok (.value (.int k (m % n))) w := by
  simp [execOp, eqGuard, hx, hy, binOp, Op.intDiv, h', Int.tmod_eq_emod_of_nonneg h]
theorem run_remT (hx : ρ x = .int k m) (hy : ρ y = .int k n) (h' : n ≠ 0) : (execOp ρ ⟨d, .binOp .rem t x y yt, ty, pos, af, g⟩).run P w = .ok (.value (.int k (m.tmod n))) w := by
  simp [execOp, eqGuard, hx, hy, binOp, Op.intDiv, h']
theorem run_and (hx : ρ x = .int k m) (hy : ρ y = .int k n) : (execOp ρ ⟨d, .binOp .and t x y yt, ty, pos, af, g⟩).run P w = .ok (.value (.int k (k.wrap (BitVec.ofInt k.bits m &&& BitVec.ofInt k.bits n).toNat))) w := by
  simp [execOp, eqGuard, hx, hy, binOp, Op.intBits]
theorem run_or (hx : ρ x = .int k m) (hy : ρ y = .int k n) : (execOp ρ ⟨d, .binOp .or t x y yt, ty, pos, af, g⟩).run P w = .ok (.value (.int k (k.wrap (BitVec.ofInt k.bits m ||| BitVec.ofInt k.bits n).toNat))) w := by
  simp [execOp, eqGuard, hx, hy, binOp, Op.intBits]
theorem run_xor (hx : ρ x = .int k m) (hy : ρ y = .int k n) : (execOp ρ ⟨d, .binOp .xor t x y yt, ty, pos, af, g⟩).run P w = .ok (.value (.int k (k.wrap (BitVec.ofInt k.bits m ^^^ BitVec.ofInt k.bits n).toNat))) w := by
  simp [execOp, eqGuard, hx, hy, binOp, Op.intBits]
theorem run_andNot (hx : ρ x = .int k m) (hy : ρ y = .int k n) : (execOp ρ ⟨d, .binOp .andNot t x y yt, ty, pos, af, g⟩).run P w = .ok (.value (.int k (k.wrap (BitVec.ofInt k.bits m &&& ~~~BitVec.ofInt k.bits n).toNat))) w := by
  simp [execOp, eqGuard, hx, hy, binOp, Op.intBits]
theorem run_shl {ky : IntKind} (hx : ρ x = .int k m) (hy : ρ y = .int ky n) (h : 0 ≤ n) : (execOp ρ ⟨d, .binOp .shl t x y yt, ty, pos, af, g⟩).run P w = .ok (.value (.int k (k.wrap (m * 2 ^ (min n.toNat k.bits))))) w := by
  have : ¬ n < 0 := by omega
  simp [execOp, eqGuard, hx, hy, binOp, Op.shift, this]
theorem run_shr {ky : IntKind} (hx : ρ x = .int k m) (hy : ρ y = .int ky n) (h : 0 ≤ n) : (execOp ρ ⟨d, .binOp .shr t x y yt, ty, pos, af, g⟩).run P w = .ok (.value (.int k (m.fdiv (2 ^ (min n.toNat k.bits))))) w := by
  have : ¬ n < 0 := by omega
  simp [execOp, eqGuard, hx, hy, binOp, Op.shift, this]

theorem run_lss (hx : ρ x = .int k m) (hy : ρ y = .int k n) : (execOp ρ ⟨d, .binOp .lss t x y yt, ty, pos, af, g⟩).run P w = .ok (.value (.bool (decide (m < n)))) w := by
  simp [execOp, eqGuard, hx, hy, binOp, Op.intCmp]
theorem run_leq (hx : ρ x = .int k m) (hy : ρ y = .int k n) : (execOp ρ ⟨d, .binOp .leq t x y yt, ty, pos, af, g⟩).run P w = .ok (.value (.bool (decide (m ≤ n)))) w := by
  simp [execOp, eqGuard, hx, hy, binOp, Op.intCmp]
theorem run_gtr (hx : ρ x = .int k m) (hy : ρ y = .int k n) : (execOp ρ ⟨d, .binOp .gtr t x y yt, ty, pos, af, g⟩).run P w = .ok (.value (.bool (decide (n < m)))) w := by
  simp [execOp, eqGuard, hx, hy, binOp, Op.intCmp]
theorem run_geq (hx : ρ x = .int k m) (hy : ρ y = .int k n) : (execOp ρ ⟨d, .binOp .geq t x y yt, ty, pos, af, g⟩).run P w = .ok (.value (.bool (decide (n ≤ m)))) w := by
  simp [execOp, eqGuard, hx, hy, binOp, Op.intCmp]
theorem run_eql (hx : ρ x = .int k m) (hy : ρ y = .int k n) : (execOp ρ ⟨d, .binOp .eql t x y yt, ty, pos, af, g⟩).run P w = .ok (.value (.bool (decide (m = n)))) w := by
  simp [execOp, eqGuard, hx, hy, binOp, Op.intCmp]
  rfl
theorem run_neq (hx : ρ x = .int k m) (hy : ρ y = .int k n) : (execOp ρ ⟨d, .binOp .neq t x y yt, ty, pos, af, g⟩).run P w = .ok (.value (.bool (decide (m ≠ n)))) w := by
  simp [execOp, eqGuard, hx, hy, binOp, Op.intCmp, bne]
  rfl
-- decided
theorem run_lssT (hx : ρ x = .int k m) (hy : ρ y = .int k n) (h : m < n) : (execOp ρ ⟨d, .binOp .lss t x y yt, ty, pos, af, g⟩).run P w = .ok (.value (.bool true)) w := by rw [run_lss hx hy]; simp [h]
theorem run_lssF (hx : ρ x = .int k m) (hy : ρ y = .int k n) (h : ¬ m < n) : (execOp ρ ⟨d, .binOp .lss t x y yt, ty, pos, af, g⟩).run P w = .ok (.value (.bool false)) w := by rw [run_lss hx hy]; simp [h]
theorem run_leqT (hx : ρ x = .int k m) (hy : ρ y = .int k n) (h : m ≤ n) : (execOp ρ ⟨d, .binOp .leq t x y yt, ty, pos, af, g⟩).run P w = .ok (.value (.bool true)) w := by rw [run_leq hx hy]; simp [h]
theorem run_leqF (hx : ρ x = .int k m) (hy : ρ y = .int k n) (h : ¬ m ≤ n) : (execOp ρ ⟨d, .binOp .leq t x y yt, ty, pos, af, g⟩).run P w = .ok (.value (.bool false)) w := by rw [run_leq hx hy]; simp [h]
theorem run_gtrT (hx : ρ x = .int k m) (hy : ρ y = .int k n) (h : n < m) : (execOp ρ ⟨d, .binOp .gtr t x y yt, ty, pos, af, g⟩).run P w = .ok (.value (.bool true)) w := by rw [run_gtr hx hy]; simp [h]
theorem run_gtrF (hx : ρ x = .int k m) (hy : ρ y = .int k n) (h : ¬ n < m) : (execOp ρ ⟨d, .binOp .gtr t x y yt, ty, pos, af, g⟩).run P w = .ok (.value (.bool false)) w := by rw [run_gtr hx hy]; simp [h]
theorem run_geqT (hx : ρ x = .int k m) (hy : ρ y = .int k n) (h : n ≤ m) : (execOp ρ ⟨d, .binOp .geq t x y yt, ty, pos, af, g⟩).run P w = .ok (.value (.bool true)) w := by rw [run_geq hx hy]; simp [h]
theorem run_geqF (hx : ρ x = .int k m) (hy : ρ y = .int k n) (h : ¬ n ≤ m) : (execOp ρ ⟨d, .binOp .geq t x y yt, ty, pos, af, g⟩).run P w = .ok (.value (.bool false)) w := by rw [run_geq hx hy]; simp [h]
theorem run_eqlT (hx : ρ x = .int k m) (hy : ρ y = .int k n) (h : m = n) : (execOp ρ ⟨d, .binOp .eql t x y yt, ty, pos, af, g⟩).run P w = .ok (.value (.bool true)) w := by rw [run_eql hx hy]; simp [h]
theorem run_eqlF (hx : ρ x = .int k m) (hy : ρ y = .int k n) (h : ¬ m = n) : (execOp ρ ⟨d, .binOp .eql t x y yt, ty, pos, af, g⟩).run P w = .ok (.value (.bool false)) w := by rw [run_eql hx hy]; simp [h]
theorem run_neqT (hx : ρ x = .int k m) (hy : ρ y = .int k n) (h : ¬ m = n) : (execOp ρ ⟨d, .binOp .neq t x y yt, ty, pos, af, g⟩).run P w = .ok (.value (.bool true)) w := by rw [run_neq hx hy]; simp [h]
theorem run_neqF (hx : ρ x = .int k m) (hy : ρ y = .int k n) (h : m = n) : (execOp ρ ⟨d, .binOp .neq t x y yt, ty, pos, af, g⟩).run P w = .ok (.value (.bool false)) w := by rw [run_neq hx hy]; simp [h]
end

/-! ### Conversions of numbers; bools compared; strings compared -/
theorem run_convInt {s t : TypeId} {x : Operand} {k j : IntKind} {n : Int} {ds : TypeDesc} (hs : P.underlying s = some ds) (ht : P.underlying t = some (.int k)) (hx : ρ x = .int j n) :
    (execOp ρ ⟨d, .convert s t x, ty, pos, af, g⟩).run P w = .ok (.value (.int k (k.wrap n))) w := by
  simp [execOp, convert, run_underlying hs, run_underlying ht, hx, Conv.intToInt]
theorem run_convInt64 {s t : TypeId} {x : Operand} {j : IntKind} {n : Int} {ds : TypeDesc} (hs : P.underlying s = some ds) (ht : P.underlying t = some (.int .i64)) (hx : ρ x = .int j n) (h : -9223372036854775808 ≤ n) (h' : n ≤ 9223372036854775807) :
    (execOp ρ ⟨d, .convert s t x, ty, pos, af, g⟩).run P w = .ok (.value (.int .i64 n)) w := by
  rw [run_convInt hs ht hx, IntWalk.i64_in _ ⟨h, h'⟩]

theorem eqIn_bool {t : TypeId} {a b : Bool} (hU : P.underlying t = some .bool) (n : Nat) : (Op.equalIn (n + 1) t (.bool a) (.bool b)).run P w = .ok (a == b) w := by
  simp [Op.equalIn, run_underlying hU]
theorem eqIn_ptrNil {t e : TypeId} {a : Option Addr} (hU : P.underlying t = some (.pointer e)) (n : Nat) : (Op.equalIn (n + 1) t (.pointer a) (.pointer none)).run P w = .ok a.isNone w := by
  cases a <;> simp [Op.equalIn, run_underlying hU]
theorem eqIn_sliceNil {t e : TypeId} {a : Option Addr} {l c : Nat} (hU : P.underlying t = some (.slice e)) (n : Nat) : (Op.equalIn (n + 1) t (.slice a l c) (.slice none 0 0)).run P w = .ok a.isNone w := by
  cases a <;> simp [Op.equalIn, run_underlying hU]
theorem run_eqlBool {t yt : TypeId} {x y : Operand} {a b : Bool} (hU : P.underlying t = some .bool) (hx : ρ x = .bool a) (hy : ρ y = .bool b) : (execOp ρ ⟨d, .binOp .eql t x y yt, ty, pos, af, g⟩).run P w = .ok (.value (.bool (a == b))) w := by
  have := eqIn_bool (P := P) (w := w) (a := a) (b := b) hU 9999
  simp [execOp, eqGuard, hx, hy, binOp, Op.equal, Op.maxDepth, this]
theorem run_neqBool {t yt : TypeId} {x y : Operand} {a b : Bool} (hU : P.underlying t = some .bool) (hx : ρ x = .bool a) (hy : ρ y = .bool b) : (execOp ρ ⟨d, .binOp .neq t x y yt, ty, pos, af, g⟩).run P w = .ok (.value (.bool (!(a == b)))) w := by
  have := eqIn_bool (P := P) (w := w) (a := a) (b := b) hU 9999
  simp [execOp, eqGuard, hx, hy, binOp, Op.equal, Op.maxDepth, this]
theorem list_beq_dec {α : Type} [BEq α] [LawfulBEq α] [DecidableEq α] (a b : List α) : (a == b) = decide (a = b) := by
  rw [Bool.eq_iff_iff]; simp
theorem run_eqlStr {t yt : TypeId} {x y : Operand} {a b : ByteArray} (hx : ρ x = .string a) (hy : ρ y = .string b) : (execOp ρ ⟨d, .binOp .eql t x y yt, ty, pos, af, g⟩).run P w = .ok (.value (.bool (decide (a.toList = b.toList)))) w := by
  simp [execOp, eqGuard, hx, hy, binOp, Op.stringOp, list_beq_dec]
theorem run_neqStr {t yt : TypeId} {x y : Operand} {a b : ByteArray} (hx : ρ x = .string a) (hy : ρ y = .string b) : (execOp ρ ⟨d, .binOp .neq t x y yt, ty, pos, af, g⟩).run P w = .ok (.value (.bool (!decide (a.toList = b.toList)))) w := by
  simp [execOp, eqGuard, hx, hy, binOp, Op.stringOp, list_beq_dec]
theorem run_eqlStrT {t yt : TypeId} {x y : Operand} {a b : ByteArray} (hx : ρ x = .string a) (hy : ρ y = .string b) (h : a.toList = b.toList) : (execOp ρ ⟨d, .binOp .eql t x y yt, ty, pos, af, g⟩).run P w = .ok (.value (.bool true)) w := by rw [run_eqlStr hx hy]; simp [h]
theorem run_eqlStrF {t yt : TypeId} {x y : Operand} {a b : ByteArray} (hx : ρ x = .string a) (hy : ρ y = .string b) (h : ¬ a.toList = b.toList) : (execOp ρ ⟨d, .binOp .eql t x y yt, ty, pos, af, g⟩).run P w = .ok (.value (.bool false)) w := by rw [run_eqlStr hx hy]; simp [h]
theorem run_eqlPtrNil {t yt e : TypeId} {x y : Operand} {a : Option Addr} (hU : P.underlying t = some (.pointer e)) (hx : ρ x = .pointer a) (hy : ρ y = .pointer none) : (execOp ρ ⟨d, .binOp .eql t x y yt, ty, pos, af, g⟩).run P w = .ok (.value (.bool a.isNone)) w := by
  have := eqIn_ptrNil (P := P) (w := w) (a := a) hU 9999
  simp [execOp, eqGuard, hx, hy, binOp, Op.equal, Op.maxDepth, this]
theorem run_neqPtrNil {t yt e : TypeId} {x y : Operand} {a : Option Addr} (hU : P.underlying t = some (.pointer e)) (hx : ρ x = .pointer a) (hy : ρ y = .pointer none) : (execOp ρ ⟨d, .binOp .neq t x y yt, ty, pos, af, g⟩).run P w = .ok (.value (.bool (!a.isNone))) w := by
  have := eqIn_ptrNil (P := P) (w := w) (a := a) hU 9999
  simp [execOp, eqGuard, hx, hy, binOp, Op.equal, Op.maxDepth, this]
theorem run_eqlSliceNil {t yt e : TypeId} {x y : Operand} {a : Option Addr} {l c : Nat} (hU : P.underlying t = some (.slice e)) (hx : ρ x = .slice a l c) (hy : ρ y = .slice none 0 0) : (execOp ρ ⟨d, .binOp .eql t x y yt, ty, pos, af, g⟩).run P w = .ok (.value (.bool a.isNone)) w := by
  have := eqIn_sliceNil (P := P) (w := w) (a := a) (l := l) (c := c) hU 9999
  simp [execOp, eqGuard, hx, hy, binOp, Op.equal, Op.maxDepth, this]
theorem run_neqSliceNil {t yt e : TypeId} {x y : Operand} {a : Option Addr} {l c : Nat} (hU : P.underlying t = some (.slice e)) (hx : ρ x = .slice a l c) (hy : ρ y = .slice none 0 0) : (execOp ρ ⟨d, .binOp .neq t x y yt, ty, pos, af, g⟩).run P w = .ok (.value (.bool (!a.isNone))) w := by
  have := eqIn_sliceNil (P := P) (w := w) (a := a) (l := l) (c := c) hU 9999
  simp [execOp, eqGuard, hx, hy, binOp, Op.equal, Op.maxDepth, this]

/-! ### len -/
theorem run_lenSlice {t n c : Nat} {x : Operand} {e : TypeId} {a : Option Addr} (hU : P.underlying t = some (.slice e)) (hx : ρ x = .slice a n c) :
    (execOp ρ ⟨d, .call { callee := .builtin .len, args := #[x], argTypes := #[t] }, ty, pos, af, g⟩).run P w = .ok (.value (.int .i64 n)) w := by
  simp [execOp, resolve, invoke, builtin, Builtin.len_, run_underlying hU, hx, goInt]
theorem run_lenStr {t : Nat} {x : Operand} {s : ByteArray} (hU : P.underlying t = some .string) (hx : ρ x = .string s) :
    (execOp ρ ⟨d, .call { callee := .builtin .len, args := #[x], argTypes := #[t] }, ty, pos, af, g⟩).run P w = .ok (.value (.int .i64 s.size)) w := by
  simp [execOp, resolve, invoke, builtin, Builtin.len_, run_underlying hU, hx, goInt]

/-! ### Calls -/
theorem run_call {f : FuncId} {xs : List Operand} {tys : Array TypeId} (h : ∀ args w, (callFunc f args).run P w = .ok (.enter f args) w) :
    (execOp ρ ⟨d, .call { callee := .value (.func f), args := xs.toArray, argTypes := tys }, ty, pos, af, g⟩).run P w = .ok (.enter f (xs.map ρ).toArray) w ∨ ρ (.func f) ≠ .func (.func f) #[] #[] := by
  by_cases hf : ρ (.func f) = .func (.func f) #[] #[]
  · left
    simp [execOp, resolve, hf, Deferred.ofValue, invoke, h]
  · exact .inr hf
theorem run_callE {env : Env} {f : FuncId} {xs : List Operand} {tys : Array TypeId} (h : ∀ args w, (callFunc f args).run P w = .ok (.enter f args) w) :
    (execOp (evo env) ⟨d, .call { callee := .value (.func f), args := xs.toArray, argTypes := tys }, ty, pos, af, g⟩).run P w = .ok (.enter f (xs.map (evo env)).toArray) w :=
  (run_call h).resolve_right (fun hn => hn rfl)
theorem run_callV {env : Env} {x : Operand} {f : FuncId} {first captured : Array Value} {xs : List Operand} {tys : Array TypeId} (hx : evo env x = .func (.func f) first captured) (h : ∀ args w, (callFunc f args).run P w = .ok (.enter f args) w) :
    (execOp (evo env) ⟨d, .call { callee := .value x, args := xs.toArray, argTypes := tys }, ty, pos, af, g⟩).run P w = .ok (.enter f (first ++ (xs.map (evo env)).toArray ++ captured)) w := by
  simp [execOp, resolve, hx, Deferred.ofValue, invoke, h]
end
end Go.Sl
/-
  Operations that change memory, as effects on a list of assertions; the search for a block in a list.
-/
namespace Go.Sl
open Go
set_option linter.unusedVariables false

/-! ### Where a block stands in a list -/
class HasBlk (L : List HProp) (b : Nat) (l : outParam (List Value)) (e : outParam Nat) (fr : outParam (Nat × Nat)) : Prop where
  out : ∀ h, Sat L h → h b = some (obj l e fr)
instance HasBlk.here {L : List HProp} {b : Nat} {l : List Value} {e : Nat} {fr : Nat × Nat} : HasBlk (blk b l e fr :: L) b l e fr := ⟨fun h H => by
  obtain ⟨h1, s, a⟩ := H.fact; exact s _ _ a⟩
instance (priority := low) HasBlk.there {A : HProp} {L : List HProp} {b : Nat} {l : List Value} {e : Nat} {fr : Nat × Nat} [i : HasBlk L b l e fr] : HasBlk (A :: L) b l e fr := ⟨fun h H => i.out _ H.tail⟩

class Upd (L : List HProp) (b : Nat) (l : outParam (List Value)) (e : outParam Nat) (fr : outParam (Nat × Nat)) (l' : List Value) (L' : outParam (List HProp)) : Prop where
  i : ∃ i, L[i]? = some (blk b l e fr) ∧ L' = L.set i (blk b l' e fr)
instance Upd.here {L : List HProp} {b : Nat} {l l' : List Value} {e : Nat} {fr : Nat × Nat} : Upd (blk b l e fr :: L) b l e fr l' (blk b l' e fr :: L) := ⟨0, rfl, rfl⟩
instance (priority := low) Upd.there {A : HProp} {L L' : List HProp} {b : Nat} {l l' : List Value} {e : Nat} {fr : Nat × Nat} [u : Upd L b l e fr l' L'] : Upd (A :: L) b l e fr l' (A :: L') := ⟨by
  obtain ⟨i, h1, h2⟩ := u.i
  exact ⟨i + 1, by simpa using h1, by rw [h2]; rfl⟩⟩

section
variable {P : Program} {W0 w : World} {L : List HProp} {ρ : Operand → Value} {d : Option Nat} {ty : TypeId} {pos : String} {af : Array Edge} {g : Option (Nat × Bool)}

theorem On.blkB (H : On W0 L w) {b : Nat} {l : List Value} {e : Nat} {fr : Nat × Nat} [i : HasBlk L b l e fr] : w.heap[b]? = some (obj l e fr) := i.out _ H.sat
theorem On.cellB (H : On W0 L w) {b off : Nat} {l : List Value} {e : Nat} {fr : Nat × Nat} {v : Value} [i : HasBlk L b l e fr] (hv : l[off]? = some v) : w.cell? ⟨b, off, none⟩ = some v := by
  rw [cell_of_row w b off _ _ _ (H.blkB (i := i))]; simpa using hv
theorem On.rowB (H : On W0 L w) {b o n : Nat} {l : List Value} {e : Nat} {fr : Nat × Nat} [i : HasBlk L b l e fr] : ∀ j u, ((l.drop o).take n)[j]? = some u → w.cell? ⟨b, o + j, none⟩ = some u := by
  intro j u hj
  rw [List.getElem?_take] at hj
  split at hj
  · rw [List.getElem?_drop] at hj; exact H.cellB (i := i) hj
  · cases hj

theorem On.rowV (H : On W0 L w) {b o n : Nat} {l vs : List Value} {e : Nat} {fr : Nat × Nat} [i : HasBlk L b l e fr] (hv : (l.drop o).take n = vs) : ∀ j u, vs[j]? = some u → w.cell? ⟨b, o + j, none⟩ = some u := fun j u hj => H.rowB (i := i) (n := n) j u (by rw [hv]; exact hj)
/-- A struct that lies in a block of the list. -/
theorem run_loadB {t n b o : Nat} {x : Operand} {l vs : List Value} {e : Nat} {fr : Nat × Nat} (H : On W0 L w) (hA : ∀ w, (isAgg t).run P w = .ok true w) (hS : ∀ w, (sizeOf t).run P w = .ok n w) (h : ρ x = .pointer (some ⟨b, o, none⟩)) [i : HasBlk L b l e fr]
    (hv : (l.drop o).take n = vs) (hl : vs.length = n) : (execOp ρ ⟨d, .load t x, ty, pos, af, g⟩).run P w = .ok (.value (.agg vs.toArray)) w :=
  run_loadN hA hS h hl (fun j u hj => H.rowB (i := i) (n := n) j u (by rw [hv]; exact hj))

/-! ### To the front, by hand -/
variable {A B C D E F : HProp}
theorem On.p1 (H : On W0 (A :: B :: L) w) : On W0 (B :: A :: L) w := H.imp fun _ h => h.swap
theorem On.p2 (H : On W0 (A :: B :: C :: L) w) : On W0 (C :: A :: B :: L) w := H.pull 2 rfl
theorem On.p3 (H : On W0 (A :: B :: C :: D :: L) w) : On W0 (D :: A :: B :: C :: L) w := H.pull 3 rfl
theorem On.p4 (H : On W0 (A :: B :: C :: D :: E :: L) w) : On W0 (E :: A :: B :: C :: D :: L) w := H.pull 4 rfl
theorem On.p5 (H : On W0 (A :: B :: C :: D :: E :: F :: L) w) : On W0 (F :: A :: B :: C :: D :: E :: L) w := H.pull 5 rfl
/-- the first behind the second, third .. -/
theorem On.q2 (H : On W0 (A :: B :: C :: L) w) : On W0 (B :: C :: A :: L) w := H.p2.p2
theorem On.d1 (H : On W0 (A :: B :: L) w) : On W0 (A :: L) w := H.p1.tail
theorem On.d2 (H : On W0 (A :: B :: C :: L) w) : On W0 (A :: B :: L) w := H.p2.tail
theorem On.d3 (H : On W0 (A :: B :: C :: D :: L) w) : On W0 (A :: B :: C :: L) w := H.p3.tail
theorem On.d4 (H : On W0 (A :: B :: C :: D :: E :: L) w) : On W0 (A :: B :: C :: D :: L) w := H.p4.tail
theorem On.head (H : On W0 (A :: L) w) (i : ∀ h, A h → B h) : On W0 (B :: L) w := H.imp fun _ h => h.imp i
theorem On.unexists {ι : Type} {G : ι → HProp} (H : On W0 ((fun h => ∃ x, G x h) :: L) w) : ∃ x, On W0 (G x :: L) w := by
  obtain ⟨h1, h2, d, s1, s2, ⟨x, a⟩, r⟩ := H.sat
  exact ⟨x, H.os, H.output, H.tape, H.size, ⟨h1, h2, d, s1, s2, a, r⟩⟩
/-- A plain fact that the head says. -/
theorem On.headFact {p : Prop} (H : On W0 (A :: L) w) (i : ∀ h, A h → p) : p := by
  obtain ⟨h1, _, a⟩ := H.sat.fact
  exact i _ a

/-! ### Effects -/
theorem eff_val {o : Oper} {R : Value → World → Prop} {v : Value} {w' : World} (h : (execOp ρ o).run P w = .ok (.value v) w') (hR : R v w') : Eff P ρ o w R := .inl ⟨v, w', h, hR⟩

theorem eff_store {t b o : Nat} {x y : Operand} {v : Value} {l : List Value} {e : Nat} {fr : Nat × Nat} {L' : List HProp} (H : On W0 L w) (hS : ∀ w, (sizeOf t).run P w = .ok 1 w) (h : ρ x = .pointer (some ⟨b, o, none⟩)) (hy : ρ y = v) (hv : v.oneCell' = true)
    [u : Upd L b l e fr (l.set o v) L'] (hlt : Nat.ble (o + 1) l.length = true) (hf : free fr o = true) :
    Eff P ρ ⟨d, .store t x y, ty, pos, af, g⟩ w (fun _ w' => On W0 L' w') := by
  obtain ⟨i, h1, h2⟩ := u.i
  refine .inr (.inl ⟨_, run_storeOne hS h hy hv (H.block i h1) hlt hf, ?_⟩)
  rw [h2]
  exact H.setCellL i h1 o v

theorem eff_storeN {t n b o : Nat} {x y : Operand} {vs : List Value} {l : List Value} {e : Nat} {fr : Nat × Nat} {L' : List HProp} (H : On W0 L w) (hS : ∀ w, (sizeOf t).run P w = .ok n w) (h : ρ x = .pointer (some ⟨b, o, none⟩)) (hy : ρ y = .agg vs.toArray) (hn : vs.length = n)
    (hv : vs.all (·.oneCell') = true) [u : Upd L b l e fr (splice l o vs) L'] (hlt : Nat.ble (o + n) l.length = true) (hf : ∀ k, o ≤ k → k < o + n → free fr k = true) :
    Eff P ρ ⟨d, .store t x y, ty, pos, af, g⟩ w (fun _ w' => On W0 L' w') := by
  obtain ⟨i, h1, h2⟩ := u.i
  obtain ⟨w', hr, hO⟩ := run_storeN (P := P) (ρ := ρ) (d := d) (ty := ty) (pos := pos) (af := af) (g := g) H h1 hS h hy hn (by simpa using hv) (Nat.le_of_ble_eq_true hlt) hf
  exact .inr (.inl ⟨w', hr, h2 ▸ hO⟩)

/-- The whole of a block that was just made. -/
theorem eff_storeW {t n b : Nat} {x y : Operand} {vs : List Value} {l : List Value} {e : Nat} {L' : List HProp} (H : On W0 L w) (hS : ∀ w, (sizeOf t).run P w = .ok n w) (h : ρ x = .pointer (some ⟨b, 0, none⟩)) (hy : ρ y = .agg vs.toArray) (hn : vs.length = n)
    (hv : vs.all (·.oneCell') = true) [u : Upd L b l e (0, 0) vs L'] (hl : Nat.beq l.length n = true) :
    Eff P ρ ⟨d, .store t x y, ty, pos, af, g⟩ w (fun _ w' => On W0 L' w') := by
  have hl : l.length = vs.length := by rw [hn]; exact Nat.eq_of_beq_eq_true hl
  have hsp : splice l 0 vs = vs := by simp [splice, hl]
  have u' : Upd L b l e (0, 0) (splice l 0 vs) L' := by rw [hsp]; exact u
  exact eff_storeN (u := u') H hS h hy hn hv (by rw [Nat.ble_eq]; omega) (fun k _ _ => by unfold free; rw [Bool.not_eq_true', Bool.and_eq_false_imp]; intro _; rw [← Bool.not_eq_true, Nat.ble_eq]; show ¬ (k + 1 ≤ 0); omega)
theorem eff_alloc {t : Nat} {z : Value} {l : List Value} (H : On W0 L w) (hZ : ∀ w, (zeroValue t).run P w = .ok z w) (hz : z.cells = l.toArray) :
    Eff P ρ ⟨d, .alloc t, ty, pos, af, g⟩ w (fun v w' => ∃ b, v = .pointer (some ⟨b, 0, none⟩) ∧ On W0 (blk b l t :: L) w') :=
  .inl ⟨_, _, run_alloc hZ, _, rfl, by rw [hz]; exact H.alloc _⟩
theorem eff_box {t : Nat} {x : Operand} {v : Value} {l : List Value} (H : On W0 L w) (h : ρ x = v) (hz : v.cells = l.toArray) :
    Eff P ρ ⟨d, .box t x, ty, pos, af, g⟩ w (fun v w' => ∃ b, v = .pointer (some ⟨b, 0, none⟩) ∧ On W0 (blk b l t :: L) w') :=
  .inl ⟨_, _, run_box h, _, rfl, by rw [hz]; exact H.alloc _⟩

theorem eff_call {env : Env} {f : FuncId} {xs : List Operand} {tys : Array TypeId} {R : Value → World → Prop} (hf : ∀ args w, (callFunc f args).run P w = .ok (.enter f args) w) (hc : Calls P f (xs.map (evo env)).toArray w (Ret R)) :
    Eff P (evo env) ⟨d, .call { callee := .value (.func f), args := xs.toArray, argTypes := tys }, ty, pos, af, g⟩ w R :=
  .inr (.inr ⟨f, _, w, run_callE hf, hc⟩)

/-! ### Composite values -/
/-- The parts laid into the zero value's cells. -/
def placed (pl : List (Nat × Nat)) : List Value → List (Nat × Value) → List Value
  | z, [] => z
  | z, (i, v) :: ps => placed pl (splice z ((pl[i]?.getD (0, 0)).1) v.cells.toList) ps
def fits (pl : List (Nat × Nat)) (n : Nat) : List (Nat × Value) → Prop
  | [] => True
  | (i, v) :: ps => (∃ off size, pl[i]? = some (off, size) ∧ v.cells.size = size ∧ off + size ≤ n) ∧ fits pl n ps

theorem foldl_splice (z : List Value) (off : Nat) (vs : List Value) : ∀ (k : Nat), off + k + vs.length ≤ z.length →
    (vs.zipIdx k).foldl (fun cs (c, j) => cs.setIfInBounds (off + j) c) z.toArray = (splice z (off + k) vs).toArray := by
  induction vs generalizing z with
  | nil => intro k h; simp [splice]
  | cons v vs ih =>
    intro k h
    simp at h
    simp only [List.zipIdx_cons, List.foldl_cons, List.setIfInBounds_toArray]
    rw [ih (z.set (off + k) v) (k + 1) (by simp; omega)]
    congr 1
    unfold splice
    have := list_seg_step z (off + k) v vs (by omega)
    simpa [Nat.add_assoc] using this

theorem fill_placed (place : Nat → Option (Nat × Nat)) (pl : List (Nat × Nat)) (hp : ∀ i, place i = pl[i]?) : ∀ (ps : List (Nat × Value)) (z : List Value), fits pl z.length ps → Instr.fill place z.toArray ps = some (placed pl z ps).toArray := by
  intro ps
  induction ps with
  | nil => intro z _; rfl
  | cons p ps ih =>
    obtain ⟨i, v⟩ := p
    intro z h
    obtain ⟨⟨off, size, h1, h2, h3⟩, h4⟩ := h
    unfold Instr.fill
    rw [hp, h1]
    have hle : v.cells.toList.length = size := by simpa using h2
    have c : ¬ (v.cells.size ≠ size ∨ off + v.cells.size > z.toArray.size) := by simp [h2]; omega
    simp only [Bool.or_eq_true, decide_eq_true_eq]
    rw [if_neg (by simpa using c)]
    have hf := foldl_splice z off v.cells.toList 0 (by simp at hle ⊢; omega)
    have e : (v.cells.zipIdx.foldl (fun cs (x : Value × Nat) => cs.setIfInBounds (off + x.2) x.1) z.toArray) = (splice z off v.cells.toList).toArray := by
      rw [← Array.foldl_toList]
      simpa using hf
    rw [e, ih _ (by rw [splice_length (by omega)]; exact h4)]
    simp [placed, h1]

theorem run_buildS {t : Nat} {ps : List (Nat × Operand)} {fs : Array Field} {z : List Value} {pl : List (Nat × Nat)} {vs : List (Nat × Value)} {out : List Value}
    (hU : P.underlying t = some (.struct fs)) (hZ : ∀ w, (zeroValue t).run P w = .ok (.agg z.toArray) w) (hP : ∀ w, ((fs.mapM fun f => do pure (f.offset, ← sizeOf f.type) : Sem (Array (Nat × Nat)))).run P w = .ok pl.toArray w)
    (hv : ps.map (fun p => (p.1, ρ p.2)) = vs) (hf : fits pl z.length vs) (ho : placed pl z vs = out) :
    (execOp ρ ⟨d, .build t ps.toArray, ty, pos, af, g⟩).run P w = .ok (.value (.agg out.toArray)) w := by
  have h : ∀ w, (Instr.build t (ps.toArray.map fun (i, x) => (i, ρ x))).run P w = .ok (.agg out.toArray) w := by
    intro w
    have hm : (ps.toArray.map fun (x : Nat × Operand) => (x.1, ρ x.2)).toList = vs := by rw [← hv]; simp
    unfold Instr.build
    simp only [Sem.run_bind, hZ, Result.andThen_ok, run_underlying hU]
    rw [hP]
    simp only [Result.andThen_ok, Value.cells]
    have := fill_placed (fun i => pl.toArray[i]?) pl (by simp) vs z hf
    rw [hm, this, ho]
    rfl
  exact run_build h

theorem eff_buildSlice {t n e size : Nat} {ps : List (Nat × Operand)} {z : Value} {zl : List Value} {pl : List (Nat × Nat)} {vs : List (Nat × Value)} {out : List Value} (H : On W0 L w)
    (hU : P.underlying t = some (.slice e)) (hS : ∀ w, (sizeOf e).run P w = .ok size w) (hZ : ∀ w, (zeroValue e).run P w = .ok z w) (hsmall : n * size ≤ 16777216) (hzl : ((Array.range (n * size)).map fun i => (if n * size = 0 then #[] else z.cells)[i % (if n * size = 0 then #[] else z.cells).size]!) = zl.toArray)
    (hpl : pl = (List.range n).map fun i => (i * size, size))
    (hv : ps.map (fun p => (p.1, ρ p.2)) = vs) (hlt : ∀ p ∈ vs, p.1 < n) (hf : fits pl zl.length vs) (ho : placed pl zl vs = out) :
    Eff P ρ ⟨d, .buildSlice t n ps.toArray, ty, pos, af, g⟩ w (fun v w' => ∃ b, v = .slice (some ⟨b, 0, none⟩) n n ∧ On W0 (blk b out e :: L) w') := by
  refine .inl ⟨.slice (some ⟨w.heap.size, 0, none⟩) n n, w.alloc (obj out e), ?_, _, rfl, H.alloc _⟩
  have hm : (ps.toArray.map fun (x : Nat × Operand) => (x.1, ρ x.2)).toList = vs := by rw [← hv]; simp
  have hsm : ¬ (n * size > 2 ^ 24) := by omega
  have key : ∀ (vs : List (Nat × Value)) (zl : List Value), (∀ p ∈ vs, p.1 < n) → fits pl zl.length vs → Instr.fill (fun i => some (i * size, size)) zl.toArray vs = some (placed pl zl vs).toArray := by
    intro vs
    induction vs with
    | nil => intro zl _ _; rfl
    | cons p ps ih =>
      obtain ⟨i, v⟩ := p
      intro zl hlt h
      obtain ⟨⟨off, size', h1, h2, h3⟩, h4⟩ := h
      have hi : i < n := hlt (i, v) (by simp)
      have hpi : pl[i]? = some (i * size, size) := by rw [hpl]; simp [hi]
      rw [hpi] at h1
      cases h1
      have := fill_placed (fun j => if j = i then some (i * size, size) else none) [] 
      unfold Instr.fill
      have hle : v.cells.toList.length = size := by simpa using h2
      have c : ¬ (v.cells.size ≠ size ∨ i * size + v.cells.size > zl.toArray.size) := by simp [h2]; omega
      simp only [Bool.or_eq_true, decide_eq_true_eq]
      rw [if_neg (by simpa using c)]
      have hf := foldl_splice zl (i * size) v.cells.toList 0 (by simp at hle ⊢; omega)
      have e : (v.cells.zipIdx.foldl (fun cs (x : Value × Nat) => cs.setIfInBounds (i * size + x.2) x.1) zl.toArray) = (splice zl (i * size) v.cells.toList).toArray := by
        rw [← Array.foldl_toList]
        simpa using hf
      rw [e, ih _ (fun q hq => hlt q (List.mem_cons_of_mem _ hq)) (by rw [splice_length (by omega)]; exact h4)]
      simp [placed, hpi]
  have hfill := key vs zl hlt hf
  rw [ho] at hfill
  simp only [execOp, Instr.buildSlice, Sem.run_bind, run_underlying hU, Result.andThen_ok, hS, if_neg hsm]
  by_cases h0 : n * size = 0
  · simp only [h0, if_true] at hzl ⊢
    rw [hm]
    simp only [Sem.run_bind, Sem.run_pure, Result.andThen_ok, hzl, hfill]
    rfl
  · simp only [h0, if_false] at hzl ⊢
    rw [hm]
    simp only [Sem.run_bind, Sem.run_pure, Result.andThen_ok, hZ, hzl, hfill]
    rfl
end
end Go.Sl
/-
  Slices: append, copy, clear, make, cuts.
-/
namespace Go.Sl
open Go
set_option linter.unusedVariables false

section
variable {P : Program} {W0 w : World} {L : List HProp} {ρ : Operand → Value} {d : Option Nat} {ty : TypeId} {pos : String} {af : Array Edge} {g : Option (Nat × Bool)}

theorem run_firstCells_C {size m : Nat} {y : Value} {ys : List Value} (C : Cells size y m ys (hp w)) : (Builtin.firstCells size m y).run P w = .ok ys.toArray w := by
  obtain ⟨hl, ao, cap, rfl, h1, h2, h3, h4⟩ := C
  by_cases hm : m = 0
  · subst hm
    have : ys = [] := List.eq_nil_of_length_eq_zero (by simpa using hl)
    subst this
    cases ao <;> simp [Builtin.firstCells, loadCells, loadCellsFrom]
  · obtain ⟨b, o, rfl, r⟩ := h4 (by omega)
    exact run_firstCells_some (P := P) w size m ⟨b, o, none⟩ m cap ys hl (fun j v hv => by rw [Addr.add_mk, ← cellH_hp]; exact r j v hv)

theorem lenOf_C {size m : Nat} {y : Value} {ys : List Value} {h : Hp} (C : Cells size y m ys h) : (Builtin.lenOf y).run P w = .ok m w := by
  obtain ⟨hl, ao, cap, rfl, _⟩ := C
  simp [Builtin.lenOf]

theorem free0 (k : Nat) : free (0, 0) k = true := by
  unfold free
  rw [show Nat.ble (k + 1) (0, 0).2 = false from rfl, Bool.and_false]
  rfl

/-- What a slice that has come out of an append is. -/
def Grown (size : Nat) (n : Nat) (xs : List Value) (W0 : World) (L : List HProp) (v : Value) (w' : World) : Prop :=
  ∃ a c, v = .slice a n c ∧ On W0 (Own size (.slice a n c) n xs :: L) w'

theorem take_splice {l : List Value} {o : Nat} {xs ys : List Value} {k m : Nat} (hk : (l.drop o).take k = xs) (hx : xs.length = k) (hl : o + k + ys.length ≤ l.length) (hm : m = k + ys.length) :
    ((splice l (o + k) ys).drop o).take m = xs ++ ys := by
  subst hm
  unfold splice
  have e1 : l.take (o + k) = l.take o ++ xs := by
    rw [← hk, List.take_add]
  have hlo : (l.take o).length = o := by rw [List.length_take]; omega
  rw [e1]
  simp only [List.append_assoc]
  conv => lhs; arg 2; arg 1; rw [← hlo]
  rw [List.drop_left]
  rw [← List.append_assoc]
  have : k + ys.length = (xs ++ ys).length := by simp [hx]
  rw [this]
  exact List.take_left

/-- An owned slice is an empty one that owns nothing, or lies in a block of its own. -/
theorem Own.openOn {size n : Nat} {v : Value} {xs : List Value} (H : On W0 (Own size v n xs :: L) w) : xs.length = n * size ∧
    ((n = 0 ∧ ∃ ao, v = .slice ao 0 0) ∨ ∃ gb off cap cur e fr, v = .slice (some ⟨gb, off, none⟩) n cap ∧ n ≤ cap ∧ cap ≤ maxLen ∧ off + cap * size ≤ cur.length ∧ (cur.drop off).take (n * size) = xs ∧
      (fr.1 = fr.2 ∨ cur.length ≤ fr.1) ∧ On W0 (blk gb cur e fr :: L) w) := by
  obtain ⟨h1, h2, dd, s1, s2, ⟨hl, a⟩, r⟩ := H.sat
  refine ⟨hl, a.imp id ?_⟩
  rintro ⟨gb, off, cap, cur, e, fr, h3, h4, h5, h6, h7, h8, h9⟩
  exact ⟨gb, off, cap, cur, e, fr, h3, h4, h5, h6, h7, h8, H.os, H.output, H.tape, H.size, h1, h2, dd, s1, s2, h9, r⟩
theorem Own.closeOn {size n : Nat} {gb off cap : Nat} {cur xs : List Value} {e : Nat} {fr : Nat × Nat} (H : On W0 (blk gb cur e fr :: L) w) (hx : xs.length = n * size) (h1 : n ≤ cap) (h2 : cap ≤ maxLen) (h3 : off + cap * size ≤ cur.length)
    (h4 : (cur.drop off).take (n * size) = xs) (h5 : fr.1 = fr.2 ∨ cur.length ≤ fr.1) : On W0 (Own size (.slice (some ⟨gb, off, none⟩) n cap) n xs :: L) w :=
  H.head fun h hb => ⟨hx, .inr ⟨gb, off, cap, cur, e, fr, rfl, h1, h2, h3, h4, h5, hb⟩⟩

/-- append(s, y...): s is owned, y is read (it may lie in s's own block). -/
theorem append_own {t e size n m bytes : Nat} {v y z : Value} {xs ys : List Value} {i : TypeInfo} {ty : TypeId} (H : On W0 (Own size v n xs :: L) w) (C : Cells size y m ys (hp w))
    (hU : P.underlying t = some (.slice e)) (hI : P.info? e = some i) (hsz : i.size = size) (hby : i.bytes = bytes) (hz : i.zero = some z) (hzs : z.cells.size = size)
    (h63 : n + m ≤ maxLen) (hb : (n + m) * bytes ≤ 140737488355328) (h1c : ∀ u ∈ ys, u.oneCell' = true) :
    ∃ v' w', (Builtin.append_ #[t, t] ty #[v, y]).run P w = .ok v' w' ∧ Grown size (n + m) (xs ++ ys) W0 L v' w' := by
  subst hsz
  subst hby
  have hf := run_firstCells_C (P := P) C
  have hly := lenOf_C (P := P) (w := w) C
  have hylen : ys.length = m * i.size := C.1
  have hO := H.get 0 rfl (Own_mono _ _ _ _)
  have Cx := hO.cells
  have hxlen : xs.length = n * i.size := hO.1
  have hm63 : ((n + m : Nat) : Int) ≤ 9223372036854775807 := by simp only [maxLen] at h63; omega
  -- a new row
  have grow : ∀ (ao : Option Addr) (cap : Nat), v = .slice ao n cap → cap < n + m → ∃ v' w', (Builtin.append_ #[t, t] ty #[v, y]).run P w = .ok v' w' ∧ Grown i.size (n + m) (xs ++ ys) W0 L v' w' := by
    intro ao cap hv hcap
    have hne : ¬ (n + m ≤ cap) := by omega
    have h63' : ¬ (9223372036854775807 < ((n : Int) + (m : Int))) := by omega
    have h48' : ¬ (281474976710656 < Builtin.nextslicecap (n + m) cap * i.bytes) := by
      have := growslice_fits (old := cap) (by omega) hb; omega
    have Cd : Cells i.size y m ys (hp w.drew) := C
    have Cxd : Cells i.size v n xs (hp w.drew) := Cx
    have hfd := run_firstCells_C (P := P) Cd
    have hfx := run_firstCells_C (P := P) Cxd
    subst hv
    refine ⟨.slice (some ⟨w.heap.size, 0, none⟩) (n + m) (grownCap w (n + m) cap e), w.drew.alloc (.cells (xs.toArray ++ ys.toArray ++ Builtin.zeroCells z.cells (grownCap w (n + m) cap e - (n + m))) e), ?_, ?_⟩
    · simp [Builtin.append_, run_underlying hU, sizeOf, typeInfo, zeroValue, hI, hz, hly, hne, h63', h48', Question.forced, hfd, hfx, newRow, grownCap]
      congr 2
      apply Array.ext'
      simp [List.append_assoc]
    · refine ⟨_, _, rfl, ?_⟩
      have hge := grownCap_ge w (n + m) cap e
      have hcm : grownCap w (n + m) cap e ≤ maxLen := grownCap_le_maxLen w (n + m) cap e h63
      have hA := (H.tail.drew).alloc (.cells (xs.toArray ++ ys.toArray ++ Builtin.zeroCells z.cells (grownCap w (n + m) cap e - (n + m))) e)
      refine hA.head fun h hh => ⟨by simp [hxlen, hylen, Nat.add_mul], .inr ⟨w.heap.size, 0, grownCap w (n + m) cap e, xs ++ ys ++ (Builtin.zeroCells z.cells (grownCap w (n + m) cap e - (n + m))).toList, e, (0, 0), rfl, hge, hcm, ?_, ?_, ?_, ?_⟩⟩
      · simp only [List.length_append, hxlen, hylen, Array.length_toList, size_zeroCells, hzs, ← Nat.add_mul]
        rw [Nat.zero_add]
        apply Nat.le_of_eq; congr 1; omega
      · rw [List.drop_zero]
        have : (n + m) * i.size = (xs ++ ys).length := by simp [hxlen, hylen, Nat.add_mul]
        rw [this]
        exact List.take_left
      · exact .inl rfl
      · have hh' : h w.drew.heap.size = _ := hh
        rw [show w.drew.heap.size = w.heap.size from rfl] at hh'
        rw [hh']
        simp [obj]
  rcases (Own.openOn H).2 with ⟨rfl, ao, rfl⟩ | ⟨gb, off, cap, cur, e', fr, rfl, hnc, hcm, hfit, htake, hfree, Hb⟩
  · by_cases hm : m = 0
    · subst hm
      have hy0 : ys = [] := List.eq_nil_of_length_eq_zero (by simpa using hylen)
      have hx0 : xs = [] := List.eq_nil_of_length_eq_zero (by simpa using hxlen)
      subst hy0; subst hx0
      refine ⟨.slice ao 0 0, w, ?_, ⟨ao, 0, rfl, H⟩⟩
      cases ao <;> simp [Builtin.append_, run_underlying hU, sizeOf, typeInfo, hI, hly, hf, storeCells]
    · exact grow ao 0 rfl (by omega)
  · by_cases hroom : n + m ≤ cap
    · have hfit' : off + n * i.size + ys.length ≤ cur.length := by
        rw [hylen]
        have : (n + m) * i.size ≤ cap * i.size := Nat.mul_le_mul_right _ hroom
        rw [Nat.add_mul] at this
        omega
      have hcapm : off + n * i.size + ys.length ≤ off + cap * i.size := by
        rw [hylen]
        have : (n + m) * i.size ≤ cap * i.size := Nat.mul_le_mul_right _ hroom
        rw [Nat.add_mul] at this
        omega
      obtain ⟨w', hst, hO'⟩ := Hb.storeCells (P := P) 0 rfl (off + n * i.size) ys hfit' h1c (fun k h1 h2 => free_ok hfree (by omega))
      refine ⟨.slice (some ⟨gb, off, none⟩) (n + m) cap, w', ?_, _, _, rfl, ?_⟩
      · simp [Builtin.append_, run_underlying hU, sizeOf, typeInfo, hI, hly, hroom, hf, Addr.add_mk, hst]
      · have e1 := take_splice (m := (n + m) * i.size) htake hxlen hfit' (by rw [hylen, Nat.add_mul])
        exact Own.closeOn (e := e') (fr := fr) hO' (by simp [hxlen, hylen, Nat.add_mul]) hroom hcm (by rw [splice_length hfit']; exact hfit) e1 (by rw [splice_length hfit']; exact hfree)
    · exact grow (some ⟨gb, off, none⟩) cap rfl (by omega)

/-- 'x = append(s, y...)' as an effect. -/
theorem eff_append {t e size n m bytes : Nat} {v y z : Value} {xs ys : List Value} {i : TypeInfo} {sx sy : Operand} (H : On W0 (Own size v n xs :: L) w) (C : Cells size y m ys (hp w)) (hs : ρ sx = v) (hy : ρ sy = y)
    (hU : P.underlying t = some (.slice e)) (hI : P.info? e = some i) (hsz : i.size = size) (hby : i.bytes = bytes) (hz : i.zero = some z) (hzs : z.cells.size = size)
    (h63 : n + m ≤ maxLen) (hb : (n + m) * bytes ≤ 140737488355328) (h1c : ∀ u ∈ ys, u.oneCell' = true) :
    Eff P ρ ⟨d, .call { callee := .builtin .append, args := #[sx, sy], argTypes := #[t, t] }, ty, pos, af, g⟩ w (Grown size (n + m) (xs ++ ys) W0 L) := by
  obtain ⟨v', w', hr, hG⟩ := append_own (ty := ty) H C hU hI hsz hby hz hzs h63 hb h1c
  refine .inl ⟨v', w', ?_, hG⟩
  simp [execOp, resolve, invoke, builtin, hs, hy, hr]
end
end Go.Sl
/-
  Cuts of slices, parts of structs, results that lie in memory, tests that part the walk.
-/
namespace Go.Sl
open Go
set_option linter.unusedVariables false

section
variable {P : Program} {W0 w : World} {L : List HProp} {ρ : Operand → Value} {d : Option Nat} {ty : TypeId} {pos : String} {af : Array Edge} {g : Option (Nat × Bool)}

theorem run_notDec {x : Operand} {t : TypeId} {p : Prop} [Decidable p] (h : ρ x = .bool (decide p)) : (execOp ρ ⟨d, .unOp .not t x, ty, pos, af, g⟩).run P w = .ok (.value (.bool (decide (¬ p)))) w := by
  simp [execOp, h, Op.unary]

/-! ### Parts -/
theorem run_field1 {t fi : Nat} {x : Operand} {fs : Array Field} {f : Field} {cs : List Value} {v : Value} (hU : P.underlying t = some (.struct fs)) (hf : fs[fi]? = some f) (hA : ∀ w, (isAgg f.type).run P w = .ok false w)
    (hx : ρ x = .agg cs.toArray) (hv : cs[f.offset]? = some v) : (execOp ρ ⟨d, .field t x fi, ty, pos, af, g⟩).run P w = .ok (.value v) w := by
  simp [execOp, Instr.field, run_underlying hU, hf, hx, asAgg, part, hA, hv]
theorem run_fieldN {t fi n : Nat} {x : Operand} {fs : Array Field} {f : Field} {cs vs : List Value} (hU : P.underlying t = some (.struct fs)) (hf : fs[fi]? = some f) (hA : ∀ w, (isAgg f.type).run P w = .ok true w) (hS : ∀ w, (sizeOf f.type).run P w = .ok n w)
    (hx : ρ x = .agg cs.toArray) (hv : (cs.drop f.offset).take n = vs) : (execOp ρ ⟨d, .field t x fi, ty, pos, af, g⟩).run P w = .ok (.value (.agg vs.toArray)) w := by
  simp [execOp, Instr.field, run_underlying hU, hf, hx, asAgg, part, hA, hS, hv]

/-! ### Cuts -/
theorem run_cutH {t e size n c h : Nat} {kh : IntKind} {x y : Operand} {a : Option Addr} (hU : P.underlying t = some (.slice e)) (hS : ∀ w, (sizeOf e).run P w = .ok size w) (hx : ρ x = .slice a n c) (hy : ρ y = .int kh h) (h1 : h ≤ c) :
    (execOp ρ ⟨d, .slice t x none (some y) none, ty, pos, af, g⟩).run P w = .ok (.value (.slice a h c)) w := by
  have e0 : (if c = 0 then a else Option.map (fun x : Addr => x.add 0) a) = a := by split <;> cases a <;> simp [Addr.add]
  have c1 : (0 : Int) ≤ (h : Int) ∧ (h : Int) ≤ (c : Int) := ⟨by omega, by omega⟩
  simp [execOp, Instr.sliceAt, Instr.slice, run_underlying hU, hx, hy, Instr.sliceBounds, Instr.sliceBound, asIntOf, h1, hS, e0]
theorem run_cutHM {t e size n c h m : Nat} {kh km : IntKind} {x y z : Operand} {a : Option Addr} (hU : P.underlying t = some (.slice e)) (hS : ∀ w, (sizeOf e).run P w = .ok size w) (hx : ρ x = .slice a n c) (hy : ρ y = .int kh h) (hz : ρ z = .int km m) (h1 : h ≤ m) (h2 : m ≤ c) :
    (execOp ρ ⟨d, .slice t x none (some y) (some z), ty, pos, af, g⟩).run P w = .ok (.value (.slice a h m)) w := by
  have e0 : (if m = 0 then a else Option.map (fun x : Addr => x.add 0) a) = a := by split <;> cases a <;> simp [Addr.add]
  simp [execOp, Instr.sliceAt, Instr.slice, run_underlying hU, hx, hy, hz, Instr.sliceBounds, Instr.sliceBound, asIntOf, h1, h2, hS, e0]
theorem run_cutLH {t e size n c l h : Nat} {kl kh : IntKind} {x y z : Operand} {a : Option Addr} (hU : P.underlying t = some (.slice e)) (hS : ∀ w, (sizeOf e).run P w = .ok size w) (hx : ρ x = .slice a n c) (hy : ρ y = .int kl l) (hz : ρ z = .int kh h) (h1 : l ≤ h) (h2 : h ≤ c) :
    (execOp ρ ⟨d, .slice t x (some y) (some z) none, ty, pos, af, g⟩).run P w = .ok (.value (sliced a l h c size)) w := by
  simp [execOp, Instr.sliceAt, Instr.slice, run_underlying hU, hx, hy, hz, Instr.sliceBounds, Instr.sliceBound, asIntOf, h1, h2, hS, sliced]
theorem run_cutL {t e size n c l : Nat} {kl : IntKind} {x y : Operand} {a : Option Addr} (hU : P.underlying t = some (.slice e)) (hS : ∀ w, (sizeOf e).run P w = .ok size w) (hx : ρ x = .slice a n c) (hy : ρ y = .int kl l) (h1 : l ≤ n) :
    (execOp ρ ⟨d, .slice t x (some y) none none, ty, pos, af, g⟩).run P w = .ok (.value (sliced a l n c size)) w := by
  simp [execOp, Instr.sliceAt, Instr.slice, run_underlying hU, hx, hy, Instr.sliceBounds, Instr.sliceBound, asIntOf, h1, hS, sliced]
theorem run_cutLHM {t e size n c l h m : Nat} {kl kh km : IntKind} {x y z u : Operand} {a : Option Addr} (hU : P.underlying t = some (.slice e)) (hS : ∀ w, (sizeOf e).run P w = .ok size w) (hx : ρ x = .slice a n c) (hy : ρ y = .int kl l) (hz : ρ z = .int kh h) (hm : ρ u = .int km m) (h1 : l ≤ h) (h2 : h ≤ m) (h3 : m ≤ c) :
    (execOp ρ ⟨d, .slice t x (some y) (some z) (some u), ty, pos, af, g⟩).run P w = .ok (.value (sliced a l h m size)) w := by
  simp [execOp, Instr.sliceAt, Instr.slice, run_underlying hU, hx, hy, hz, hm, Instr.sliceBounds, Instr.sliceBound, asIntOf, h1, h2, h3, hS, sliced]

/-- What a cut of a slice reads as. -/
theorem Cells.cut {size n : Nat} {a : Option Addr} {c l h m : Nat} {xs : List Value} {hh : Hp} (C : Cells size (.slice a n c) n xs hh) (h1 : l ≤ h) (h2 : h ≤ n) (h3 : h ≤ m) (h4 : m ≤ c) :
    Cells size (sliced a l h m size) (h - l) ((xs.drop (l * size)).take ((h - l) * size)) hh := by
  obtain ⟨hl, ao, cap, hv, hc1, hc2, hc3, hc4⟩ := C
  simp only [Value.slice.injEq] at hv
  obtain ⟨rfl, _, rfl⟩ := hv
  refine ⟨?_, (if m = l then a else a.map (·.add (l * size))), m - l, rfl, by omega, by omega, ?_, ?_⟩
  · rw [List.length_take, List.length_drop, hl]
    have : (h - l) * size ≤ n * size - l * size := by rw [← Nat.sub_mul]; exact Nat.mul_le_mul_right _ (by omega)
    omega
  · intro hn
    split at hn
    · omega
    · cases a with
      | none => have := hc3 rfl; omega
      | some a => cases hn
  · intro hp
    obtain ⟨b, o, rfl, r⟩ := hc4 (by omega)
    have hne : ¬ m = l := by omega
    refine ⟨b, o + l * size, ?_, ?_⟩
    · simp [hne, Addr.add_mk]
    · intro j u hj
      rw [List.getElem?_take] at hj
      split at hj
      · rw [List.getElem?_drop] at hj
        have := r _ _ hj
        rw [← Nat.add_assoc] at this
        exact this
      · cases hj

/-! ### Results that lie in memory -/
theorem bodyQ.rc {N : Nat} {env : Env} {fn : Func} {R : Value → World → Prop} {t rt b n : Nat} {vs : List Value} (h : fn.results = #[.cell t rt]) (hA : ∀ w, (isAgg rt).run P w = .ok true w) (hS : ∀ w, (sizeOf rt).run P w = .ok n w)
    (he : env t = .pointer (some ⟨b, 0, none⟩)) (hl : vs.length = n) (hc : ∀ j u, vs[j]? = some u → w.cell? ⟨b, 0 + j, none⟩ = some u) (hR : R (.agg vs.toArray) w) :
    bodyQ P fn R .ret env w := by
  refine ⟨.agg vs.toArray, fun tmps hg => ?_, hR⟩
  have hp : tmps.getD t undef = .pointer (some ⟨b, 0, none⟩) := by rw [hg, he]
  have hp' : tmps[t]?.getD undef = .pointer (some ⟨b, 0, none⟩) := by simpa using hp
  have := run_loadCells_list (P := P) w ⟨b, 0, none⟩ vs (fun j v hv => by rw [Addr.add_mk]; exact hc j v hv)
  rw [hl] at this
  simp [results, h, hp', asAddr, loadVar, hA, hS, this]
theorem bodyQ.rct {N : Nat} {env : Env} {fn : Func} {R : Value → World → Prop} {t u rt b n : Nat} {vs : List Value} {v2 : Value} (h : fn.results = #[.cell t rt, .tmp u]) (hA : ∀ w, (isAgg rt).run P w = .ok true w) (hS : ∀ w, (sizeOf rt).run P w = .ok n w)
    (he : env t = .pointer (some ⟨b, 0, none⟩)) (hl : vs.length = n) (hc : ∀ j u, vs[j]? = some u → w.cell? ⟨b, 0 + j, none⟩ = some u) (h2 : env u = v2) (hR : R (.tuple #[.agg vs.toArray, v2]) w) :
    bodyQ P fn R .ret env w := by
  refine ⟨.tuple #[.agg vs.toArray, v2], fun tmps hg => ?_, hR⟩
  have hp : tmps.getD t undef = .pointer (some ⟨b, 0, none⟩) := by rw [hg, he]
  have hp' : tmps[t]?.getD undef = .pointer (some ⟨b, 0, none⟩) := by simpa using hp
  have := run_loadCells_list (P := P) w ⟨b, 0, none⟩ vs (fun j v hv => by rw [Addr.add_mk]; exact hc j v hv)
  rw [hl] at this
  rw [results_cell_tmp h, hp]
  simp only [asAddr, Sem.run_pure, Result.andThen_ok]
  simp [loadVar, hA, hS, this, ← h2, ← hg u]
/-- As above, the cells out of a block of the list. -/
theorem bodyQ.rcB {W0 : World} {L : List HProp} {env : Env} {fn : Func} {R : Value → World → Prop} {t rt b n : Nat} {l vs : List Value} {e : Nat} {fr : Nat × Nat} (H : On W0 L w) (h : fn.results = #[.cell t rt]) (hA : ∀ w, (isAgg rt).run P w = .ok true w) (hS : ∀ w, (sizeOf rt).run P w = .ok n w)
    (he : env t = .pointer (some ⟨b, 0, none⟩)) [i : HasBlk L b l e fr] (hv : l = vs) (hl : vs.length = n) (hR : R (.agg vs.toArray) w) : bodyQ P fn R .ret env w :=
  bodyQ.rc (N := 0) h hA hS he hl (fun j u hj => by rw [Nat.zero_add]; exact H.cellB (i := i) (by rw [hv]; exact hj)) hR
theorem bodyQ.rctB {W0 : World} {L : List HProp} {env : Env} {fn : Func} {R : Value → World → Prop} {t u rt b n : Nat} {l vs : List Value} {v2 : Value} {e : Nat} {fr : Nat × Nat} (H : On W0 L w) (h : fn.results = #[.cell t rt, .tmp u]) (hA : ∀ w, (isAgg rt).run P w = .ok true w) (hS : ∀ w, (sizeOf rt).run P w = .ok n w)
    (he : env t = .pointer (some ⟨b, 0, none⟩)) [i : HasBlk L b l e fr] (hv : l = vs) (hl : vs.length = n) (h2 : env u = v2) (hR : R (.tuple #[.agg vs.toArray, v2]) w) : bodyQ P fn R .ret env w :=
  bodyQ.rct (N := 0) h hA hS he hl (fun j u hj => by rw [Nat.zero_add]; exact H.cellB (i := i) (by rw [hv]; exact hj)) h2 hR
end

section
variable {P : Program} {N : Nat} {ops : Array Oper} {K : Env → World → Prop} {env : Env} {w : World} {rest : List Oper} {o : Oper}
/-- A test that parts the walk. -/
theorem WL.dec {p : Prop} [Decidable p] (hr : (execOp (evo env) o).run P w = .ok (.value (.bool (decide p))) w) (hw : Region.wanted o (yieldedE ops env) = true) (hd : inN N o.dst = true)
    (kT : p → WL P N ops K rest (updo env o.dst (.bool true)) w) (kF : ¬ p → WL P N ops K rest (updo env o.dst (.bool false)) w) : WL P N ops K (o :: rest) env w := by
  by_cases h : p
  · exact WL.val (by rw [hr]; simp [h]) hw hd (kT h)
  · exact WL.val (by rw [hr]; simp [h]) hw hd (kF h)
theorem WL.boolB {b : Bool} (hr : (execOp (evo env) o).run P w = .ok (.value (.bool b)) w) (hw : Region.wanted o (yieldedE ops env) = true) (hd : inN N o.dst = true)
    (kT : b = true → WL P N ops K rest (updo env o.dst (.bool true)) w) (kF : b = false → WL P N ops K rest (updo env o.dst (.bool false)) w) : WL P N ops K (o :: rest) env w := by
  cases b
  · exact WL.val hr hw hd (kF rfl)
  · exact WL.val hr hw hd (kT rfl)
variable {T : Owed} {fuel : Nat} {listed : Array Bool}
theorem WT.dec (i : Nat) {oi : Oper} {p : Prop} [Decidable p] (hi : ops[i]? = some oi) (hb : takes ops listed i = true)
    (hv : ∀ w', (execOp (evo env) oi).run P w' = .ok (.value (.bool (decide p))) w') (hw : Region.wanted oi (yieldedE ops env) = true) (hd : inN N oi.dst = true)
    (kT : p → WT P N ops K fuel T (listed.setIfInBounds i true) (updo env oi.dst (.bool true)) w) (kF : ¬ p → WT P N ops K fuel T (listed.setIfInBounds i true) (updo env oi.dst (.bool false)) w) : WT P N ops K (fuel + 1) T listed env w := by
  by_cases h : p
  · exact WT.pure i hi hb (fun w' => by rw [hv w']; simp [h]) hw hd (kT h)
  · exact WT.pure i hi hb (fun w' => by rw [hv w']; simp [h]) hw hd (kF h)
end
end Go.Sl
/-
  Bytes as cells; what is shared and only read; the small steps of lists of assertions.
-/
namespace Go.Sl
open Go
set_option linter.unusedVariables false

abbrev byteV (c : UInt8) : Value := .int .u8 c.toNat
abbrev bytesV (bs : List UInt8) : List Value := bs.map byteV
theorem bytes_one {bs : List UInt8} : ∀ u ∈ bytesV bs, u.oneCell' = true := by
  intro u hu; obtain ⟨c, _, rfl⟩ := List.mem_map.1 hu; rfl
/-- A slice of bytes that reads so. -/
abbrev Bytes (v : Value) (bs : List UInt8) : HProp := Cells 1 v bs.length (bytesV bs)
abbrev OwnB (v : Value) (bs : List UInt8) : HProp := Own 1 v bs.length (bytesV bs)
theorem Bytes_mono (v : Value) (bs : List UInt8) : Mono (Bytes v bs) := Cells_mono _ _ _ _

theorem Gives.b {L : List HProp} {B : HProp} {v : Value} {bs : List UInt8} (g : Gives L (Bytes v bs)) : Gives (B :: L) (Bytes v bs) := g.cons (Bytes_mono _ _)

section
variable {P : Program} {W0 w : World} {L : List HProp} {A B : HProp}
theorem On.new (H : On W0 L w) (a : ∀ h, A h) : On W0 (A :: L) w := H.imp fun h s => ⟨fun _ => none, h, (fun _ _ _ e _ => by cases e), (fun _ _ e => by cases e), Sub.refl _, a _, s⟩
theorem On.ownEmpty (H : On W0 L w) (size : Nat) (a : Option Addr) : On W0 (Own size (.slice a 0 0) 0 [] :: L) w := H.new fun _ => ⟨by simp, .inl ⟨rfl, a, rfl⟩⟩
theorem On.reads {A : HProp} (H : On W0 L w) (g : Gives L A) : A (hp w) := g _ H.sat
/-- Two parts as one, where both only say what a bigger heap keeps. -/
theorem On.merge {C : HProp} (H : On W0 (A :: B :: L) w) (i : ∀ h k l, Sub h l → Sub k l → A h → B k → C l) : On W0 (C :: L) w := H.imp fun h s => by
  obtain ⟨h1, h2, d, s1, s2, a, k1, k2, d', t1, t2, b, r⟩ := s
  refine ⟨union h1 k1, k2, dis_union (d.mono (Sub.refl _) t2) d', union_sub s1 (t1.trans s2), t2.trans s2, i h1 k1 _ (union_left _ _) (union_right (d.mono (Sub.refl _) t1)) a b, r⟩

/-- Slices of bytes that nobody writes any more: they may be shared. -/
def Pool (ps : List (Value × List UInt8)) : HProp := fun h => ∀ p ∈ ps, Bytes p.1 p.2 h
theorem Pool_mono (ps : List (Value × List UInt8)) : Mono (Pool ps) := fun h k s H p hp => Bytes_mono _ _ h k s (H p hp)
theorem On.pool0 (H : On W0 L w) : On W0 (Pool [] :: L) w := H.new fun _ _ h => by cases h
/-- What was just made goes to the pool. -/
theorem On.toPool {v : Value} {bs : List UInt8} {ps : List (Value × List UInt8)} (H : On W0 (OwnB v bs :: Pool ps :: L) w) : On W0 (Pool ((v, bs) :: ps) :: L) w :=
  H.merge fun h k l s1 s2 a b p hp => by
    rcases List.mem_cons.1 hp with rfl | hp
    · exact Bytes_mono _ _ _ _ s1 a.cells
    · exact Bytes_mono _ _ _ _ s2 (b p hp)
theorem Gives.pool {ps : List (Value × List UInt8)} {v : Value} {bs : List UInt8} (h : (v, bs) ∈ ps) : Gives (Pool ps :: L) (Bytes v bs) := Gives.head (Bytes_mono _ _) fun _ H => H _ h

theorem Cells.form {size n : Nat} {v : Value} {xs : List Value} {h : Hp} (C : Cells size v n xs h) : ∃ a c, v = .slice a n c ∧ n ≤ c ∧ c ≤ maxLen ∧ (a = none → c = 0) := by
  obtain ⟨_, ao, cap, hv, h1, h2, h3, _⟩ := C
  exact ⟨ao, cap, hv, h1, h2, h3⟩
theorem Own.form {size n : Nat} {v : Value} {xs : List Value} (H : On W0 (Own size v n xs :: L) w) : ∃ a c, v = .slice a n c ∧ n ≤ c ∧ c ≤ maxLen ∧ (a = none → c = 0) := by
  obtain ⟨h1, s, a⟩ := H.sat.fact
  exact a.cells.form
/-- Its capacity is cut down to its length. -/
theorem Own.clip {size n c : Nat} {a : Option Addr} {xs : List Value} (H : On W0 (Own size (.slice a n c) n xs :: L) w) : On W0 (Own size (.slice a n n) n xs :: L) w := H.head fun h ⟨hl, o⟩ => by
  refine ⟨hl, ?_⟩
  rcases o with ⟨rfl, ao, hv⟩ | ⟨g, off, cap, cur, e, fr, hv, h1, h2, h3, h4, h5, h6⟩
  · exact .inl ⟨rfl, a, rfl⟩
  · simp only [Value.slice.injEq] at hv
    obtain ⟨rfl, _, rfl⟩ := hv
    have : n * size ≤ c * size := Nat.mul_le_mul_right _ h1
    exact .inr ⟨g, off, n, cur, e, fr, rfl, Nat.le_refl _, by omega, by omega, h4, h5, h6⟩
theorem maxLen_eq : maxLen = 9223372036854775807 := rfl
end
end Go.Sl
/-
  Scopes; append within the capacity; a front of an owned slice; clear behind its end; elements of rows of structs; assertions that hide what they own.
-/
namespace Go.Sl
open Go
set_option linter.unusedVariables false

@[reducible] def scopeQ (Q : Exit → Env → World → Prop) : Exit → Env → World → Prop
  | .goto _, _, _ => False
  | e, env, w => Q e env w
theorem W.scope {P : Program} {N : Nat} {env : Env} {w : World} {Q : Exit → Env → World → Prop} {c : Code} (h : W P N c (scopeQ Q) env w) : W P N (.scope c) Q env w := fun a r => by
  refine wp_scope_straight (wp_mono (h a r) ?_)
  rintro e a' w' ⟨env', r', q⟩
  cases e with
  | goto l => exact q.elim
  | _ => exact ⟨env', r', q⟩

section
variable {P : Program} {W0 w : World} {L : List HProp} {ρ : Operand → Value} {d : Option Nat} {ty : TypeId} {pos : String} {af : Array Edge} {g : Option (Nat × Bool)}

theorem Own.addr {size n c : Nat} {a : Option Addr} {xs : List Value} (H : On W0 (Own size (.slice a n c) n xs :: L) w) (hn : 0 < n) : ∃ b o, a = some ⟨b, o, none⟩ := by
  rcases (Own.openOn H).2 with ⟨h0, _⟩ | ⟨gb, off, cap, cur, e, fr, hv, _⟩
  · omega
  · simp only [Value.slice.injEq] at hv
    exact ⟨gb, off, hv.1⟩

/-- A front of an owned slice, with the whole capacity. -/
theorem Own.front {size n c k : Nat} {a : Option Addr} {xs : List Value} (H : On W0 (Own size (.slice a n c) n xs :: L) w) (hk : k ≤ n) : On W0 (Own size (.slice a k c) k (xs.take (k * size)) :: L) w := H.head fun h ⟨hl, o⟩ => by
  have hks : k * size ≤ n * size := Nat.mul_le_mul_right _ hk
  refine ⟨by rw [List.length_take]; omega, ?_⟩
  rcases o with ⟨rfl, ao, hv⟩ | ⟨g, off, cap, cur, e, fr, hv, h1, h2, h3, h4, h5, h6⟩
  · simp only [Value.slice.injEq] at hv
    obtain ⟨rfl, _, rfl⟩ := hv
    have : k = 0 := by omega
    subst this
    exact .inl ⟨rfl, _, rfl⟩
  · simp only [Value.slice.injEq] at hv
    obtain ⟨rfl, _, rfl⟩ := hv
    refine .inr ⟨g, off, c, cur, e, fr, rfl, by omega, h2, h3, ?_, h5, h6⟩
    rw [← h4, List.take_take, Nat.min_eq_left hks]

/-- append within the capacity: where it lies is known. -/
theorem eff_appendFits {t e size n m cap : Nat} {y : Value} {a : Option Addr} {xs ys : List Value} {sx sy : Operand} (H : On W0 (Own size (.slice a n cap) n xs :: L) w) (C : Cells size y m ys (hp w)) (hs : ρ sx = .slice a n cap) (hy : ρ sy = y)
    (hU : P.underlying t = some (.slice e)) (hS : ∀ w, (sizeOf e).run P w = .ok size w) (hroom : n + m ≤ cap) (h1c : ∀ u ∈ ys, u.oneCell' = true) :
    Eff P ρ ⟨d, .call { callee := .builtin .append, args := #[sx, sy], argTypes := #[t, t] }, ty, pos, af, g⟩ w (fun v w' => v = .slice a (n + m) cap ∧ On W0 (Own size (.slice a (n + m) cap) (n + m) (xs ++ ys) :: L) w') := by
  have hf := run_firstCells_C (P := P) C
  have hly := lenOf_C (P := P) (w := w) C
  have hylen : ys.length = m * size := C.1
  obtain ⟨hxlen, hO⟩ := Own.openOn H
  rcases hO with ⟨rfl, ao, hv⟩ | ⟨gb, off, cap', cur, e', fr, hv, hnc, hcm, hfit, htake, hfree, Hb⟩
  · simp only [Value.slice.injEq] at hv
    obtain ⟨rfl, _, rfl⟩ := hv
    have hm : m = 0 := by omega
    subst hm
    have hy0 : ys = [] := List.eq_nil_of_length_eq_zero (by simpa using hylen)
    have hx0 : xs = [] := List.eq_nil_of_length_eq_zero (by simpa using hxlen)
    subst hy0; subst hx0
    refine .inl ⟨.slice a 0 0, w, ?_, rfl, H⟩
    cases a <;> simp [execOp, resolve, invoke, builtin, hs, hy, Builtin.append_, run_underlying hU, hS, hly, hf, storeCells]
  · simp only [Value.slice.injEq] at hv
    obtain ⟨rfl, _, rfl⟩ := hv
    have hle : (n + m) * size ≤ cap * size := Nat.mul_le_mul_right _ hroom
    rw [Nat.add_mul] at hle
    have hfit' : off + n * size + ys.length ≤ cur.length := by rw [hylen]; omega
    obtain ⟨w', hst, hO'⟩ := Hb.storeCells (P := P) 0 rfl (off + n * size) ys hfit' h1c (fun k h1 h2 => free_ok hfree (by omega))
    refine .inl ⟨.slice (some ⟨gb, off, none⟩) (n + m) cap, w', ?_, rfl, ?_⟩
    · simp [execOp, resolve, invoke, builtin, hs, hy, Builtin.append_, run_underlying hU, hS, hly, hroom, hf, Addr.add_mk, hst]
    · have e1 := take_splice (m := (n + m) * size) htake hxlen hfit' (by rw [hylen, Nat.add_mul])
      exact Own.closeOn (e := e') (fr := fr) hO' (by simp [hxlen, hylen, Nat.add_mul]) hroom hcm (by rw [splice_length hfit']; exact hfit) e1 (by rw [splice_length hfit']; exact hfree)

theorem take_splice_behind {l : List Value} {o k : Nat} {ys : List Value} {m : Nat} (hm : o + m ≤ k) (hk : k ≤ l.length) : ((splice l k ys).drop o).take m = (l.drop o).take m := by
  apply List.ext_getElem?
  intro j
  simp only [List.getElem?_take]
  by_cases hj : j < m
  · rw [if_pos hj, if_pos hj, List.getElem?_drop, List.getElem?_drop]
    unfold splice
    rw [List.append_assoc, List.getElem?_append_left (by rw [List.length_take]; omega), List.getElem?_take, if_pos (by omega)]
  · rw [if_neg hj, if_neg hj]

/-- clear of what lies between a slice's end and its capacity. -/
theorem eff_clearBehind {t e size n c m : Nat} {a : Option Addr} {xs : List Value} {z : Value} {sx : Operand} (H : On W0 (Own size (.slice a n c) n xs :: L) w) (h1 : n ≤ m) (h2 : m ≤ c) (hs : ρ sx = sliced a n m c size)
    (hU : P.underlying t = some (.slice e)) (hZ : ∀ w, (zeroValue e).run P w = .ok z w) (hz : z.cells.size = size) (hz1 : ∀ v ∈ z.cells.toList, v.oneCell' = true) :
    Eff P ρ ⟨d, .call { callee := .builtin .clear, args := #[sx], argTypes := #[t] }, ty, pos, af, g⟩ w (fun v w' => On W0 (Own size (.slice a n c) n xs :: L) w') := by
  obtain ⟨hxlen, hO⟩ := Own.openOn H
  rcases hO with ⟨rfl, ao, hv⟩ | ⟨gb, off, cap', cur, e', fr, hv, hnc, hcm, hfit, htake, hfree, Hb⟩
  · simp only [Value.slice.injEq] at hv
    obtain ⟨rfl, _, rfl⟩ := hv
    have hm : m = 0 := by omega
    subst hm
    refine .inl ⟨.tuple #[], w, ?_, H⟩
    cases a <;> simp [execOp, resolve, invoke, builtin, hs, sliced, Builtin.clear_, run_underlying hU]
  · simp only [Value.slice.injEq] at hv
    obtain ⟨rfl, _, rfl⟩ := hv
    by_cases hnm : m = n
    · subst hnm
      refine .inl ⟨.tuple #[], w, ?_, H⟩
      by_cases hcm' : c = m <;> simp [execOp, resolve, invoke, builtin, hs, sliced, Builtin.clear_, run_underlying hU, hcm']
    · have hcn : ¬ c = n := by omega
      have hlen : (Builtin.zeroCells z.cells (m - n)).toList.length = (m - n) * size := by simp [size_zeroCells, hz]
      have hms : n * size + (m - n) * size = m * size := by rw [← Nat.add_mul]; congr 1; omega
      have hmc : m * size ≤ c * size := Nat.mul_le_mul_right _ h2
      have hone : ∀ v ∈ (Builtin.zeroCells z.cells (m - n)).toList, v.oneCell' = true := by
        intro v hv
        unfold Builtin.zeroCells at hv
        simp only [Array.toList_map, List.mem_map] at hv
        obtain ⟨i, hi, rfl⟩ := hv
        simp at hi
        by_cases hzs : z.cells.size = 0
        · rw [hzs] at hi; simp at hi
        · have hlt : i % z.cells.size < z.cells.size := Nat.mod_lt _ (by omega)
          rw [getElem!_pos z.cells _ hlt]
          exact hz1 _ (by simp)
      obtain ⟨w', hst, hO'⟩ := Hb.storeCells (P := P) 0 rfl (off + n * size) (Builtin.zeroCells z.cells (m - n)).toList (by rw [hlen]; omega) hone (fun k k1 k2 => free_ok hfree (by rw [hlen] at k2; omega))
      refine .inl ⟨.tuple #[], w', ?_, ?_⟩
      · obtain ⟨q, hq⟩ : ∃ q, m - n = q + 1 := ⟨m - n - 1, by omega⟩
        rw [hq] at hst
        simp [execOp, resolve, invoke, builtin, hs, sliced, hcn, Builtin.clear_, run_underlying hU, Addr.add_mk, hq, hZ, hst]
      · refine Own.closeOn (e := e') (fr := fr) hO' hxlen hnc hcm (by rw [splice_length (by rw [hlen]; omega)]; exact hfit) ?_ (by rw [splice_length (by rw [hlen]; omega)]; exact hfree)
        rw [take_splice_behind (Nat.le_refl _) (by omega)]
        exact htake

/-- An element of a row, by its cells. -/
theorem Cells.elem {size n c b o i : Nat} {xs vs : List Value} (C : Cells size (.slice (some ⟨b, o, none⟩) n c) n xs (hp w)) (hi : i < n) (hv : (xs.drop (i * size)).take size = vs) : ∀ j u, vs[j]? = some u → w.cell? ⟨b, o + i * size + j, none⟩ = some u := by
  intro j u hj
  subst hv
  rw [List.getElem?_take] at hj
  split at hj
  · rw [List.getElem?_drop] at hj
    rw [Nat.add_assoc]
    exact C.cell rfl (by omega) hj
  · cases hj

theorem drop_flatMap {α : Type} (f : α → List Value) (size : Nat) (hf : ∀ x, (f x).length = size) : ∀ (l : List α) (i : Nat) (x : α), l[i]? = some x → ((l.flatMap f).drop (i * size)).take size = f x := by
  intro l
  induction l with
  | nil => intro i x h; simp at h
  | cons y l ih =>
    intro i x h
    rw [List.flatMap_cons]
    cases i with
    | zero => simp at h; subst h; rw [Nat.zero_mul, List.drop_zero, ← hf y]; exact List.take_left
    | succ i =>
      simp at h
      rw [Nat.succ_mul, Nat.add_comm, ← List.drop_drop]
      have : ((f y ++ l.flatMap f).drop size) = l.flatMap f := by rw [← hf y]; exact List.drop_left
      rw [this]
      exact ih i x h
theorem flatMap_length {α : Type} (f : α → List Value) (size : Nat) (hf : ∀ x, (f x).length = size) (l : List α) : (l.flatMap f).length = l.length * size := by
  induction l with
  | nil => simp
  | cons y l ih => rw [List.flatMap_cons, List.length_append, ih, hf, List.length_cons, Nat.succ_mul, Nat.add_comm]
theorem take_flatMap {α : Type} (f : α → List Value) (size : Nat) (hf : ∀ x, (f x).length = size) : ∀ (l : List α) (i : Nat), (l.flatMap f).take (i * size) = (l.take i).flatMap f := by
  intro l
  induction l with
  | nil => intro i; simp
  | cons y l ih =>
    intro i
    cases i with
    | zero => simp
    | succ i =>
      rw [List.take_succ_cons, List.flatMap_cons, List.flatMap_cons, Nat.succ_mul, Nat.add_comm, List.take_add, ← ih]
      have e1 : (f y ++ l.flatMap f).take size = f y := by rw [← hf y]; exact List.take_left
      have e2 : (f y ++ l.flatMap f).drop size = l.flatMap f := by rw [← hf y]; exact List.drop_left
      rw [e1, e2]
theorem dropAll_flatMap {α : Type} (f : α → List Value) (size : Nat) (hf : ∀ x, (f x).length = size) : ∀ (l : List α) (i : Nat), (l.flatMap f).drop (i * size) = (l.drop i).flatMap f := by
  intro l
  induction l with
  | nil => intro i; simp
  | cons y l ih =>
    intro i
    cases i with
    | zero => simp
    | succ i =>
      rw [List.drop_succ_cons, List.flatMap_cons, Nat.succ_mul, Nat.add_comm, ← List.drop_drop]
      have e2 : (f y ++ l.flatMap f).drop size = l.flatMap f := by rw [← hf y]; exact List.drop_left
      rw [e2]
      exact ih i

/-- A new block as an owned slice. -/
theorem Own.ofBlk {b e n size : Nat} {l : List Value} (H : On W0 (blk b l e :: L) w) (hl : l.length = n * size) (hm : n ≤ maxLen) : On W0 (Own size (.slice (some ⟨b, 0, none⟩) n n) n l :: L) w :=
  Own.closeOn H hl (Nat.le_refl _) hm (by omega) (by rw [List.drop_zero, List.take_of_length_le (by omega)]) (.inl rfl)
theorem Cells.ofBlk {b e n size : Nat} {l : List Value} {h : Hp} (H : h b = some (obj l e)) (hl : l.length = n * size) (hm : n ≤ maxLen) : Cells size (.slice (some ⟨b, 0, none⟩) n n) n l h :=
  ⟨hl, _, n, rfl, Nat.le_refl _, hm, fun h => (by cases h), fun _ => ⟨b, 0, rfl, fun j u hj => by unfold cellH; rw [H]; simpa using hj⟩⟩
theorem On.cellsB {b e n size : Nat} {l : List Value} (H : On W0 L w) [i : HasBlk L b l e (0, 0)] (hl : l.length = n * size) (hm : n ≤ maxLen) : Cells size (.slice (some ⟨b, 0, none⟩) n n) n l (hp w) := Cells.ofBlk (i.out _ H.sat) hl hm

/-! ### What hides: an existential, a fact, a list -/
def Ex {ι : Type} (G : ι → HProp) : HProp := fun h => ∃ x, G x h
def Fact (p : Prop) : HProp := fun _ => p
theorem On.ex {ι : Type} {G : ι → HProp} (H : On W0 (Ex G :: L) w) : ∃ x, On W0 (G x :: L) w := H.unexists
theorem On.exI {ι : Type} {G : ι → HProp} (x : ι) (H : On W0 (G x :: L) w) : On W0 (Ex G :: L) w := H.head fun _ h => ⟨x, h⟩
/-- A fact and a list of parts as one assertion. -/
def Pack (p : Prop) (M : List HProp) : HProp := fun h => p ∧ Sat M h
theorem On.unpack {p : Prop} {M : List HProp} (H : On W0 (Pack p M :: L) w) : p ∧ On W0 (M ++ L) w := by
  obtain ⟨h1, h2, d, s1, s2, ⟨hp, a⟩, r⟩ := H.sat
  exact ⟨hp, H.os, H.output, H.tape, H.size, Sat.unappend d s1 s2 a r⟩
theorem On.pack {p : Prop} {M : List HProp} (hp : p) (H : On W0 (M ++ L) w) : On W0 (Pack p M :: L) w := by
  obtain ⟨h1, h2, d, s1, s2, a, r⟩ := Sat.append H.sat
  exact ⟨H.os, H.output, H.tape, H.size, h1, h2, d, s1, s2, ⟨hp, a⟩, r⟩
end
end Go.Sl
/-
  The search in lists of assertions, by type classes: an assertion to the front; a list out of another one; an owned slice by its value.
-/
namespace Go.Sl
open Go
set_option linter.unusedVariables false

class Pull (L : List HProp) (A : HProp) (L' : outParam (List HProp)) : Prop where
  out : ∀ h, Sat L h → Sat (A :: L') h
instance Pull.here {A : HProp} {L : List HProp} : Pull (A :: L) A L := ⟨fun _ H => H⟩
instance (priority := low) Pull.there {A B : HProp} {L L' : List HProp} [p : Pull L A L'] : Pull (B :: L) A (B :: L') := ⟨fun h H => (H.tailImp p.out).swap⟩

class To (L T : List HProp) : Prop where
  out : ∀ h, Sat L h → Sat T h
instance (priority := high) To.refl {L : List HProp} : To L L := ⟨fun _ H => H⟩
instance (priority := high) To.nil {L : List HProp} : To L [] := ⟨fun _ _ => trivial⟩
instance To.cons {L L' T : List HProp} {A : HProp} [p : Pull L A L'] [t : To L' T] : To L (A :: T) := ⟨fun h H => (p.out h H).tailImp t.out⟩
instance (priority := low) To.drop {A : HProp} {L T : List HProp} [t : To L T] : To (A :: L) T := ⟨fun h H => t.out h H.tail⟩

class OwnIn (L : List HProp) (v : Value) (size : outParam Nat) (n : outParam Nat) (xs : outParam (List Value)) (L' : outParam (List HProp)) : Prop where
  out : ∀ h, Sat L h → Sat (Own size v n xs :: L') h
instance OwnIn.here {L : List HProp} {v : Value} {size n : Nat} {xs : List Value} : OwnIn (Own size v n xs :: L) v size n xs L := ⟨fun _ H => H⟩
instance (priority := low) OwnIn.there {B : HProp} {L L' : List HProp} {v : Value} {size n : Nat} {xs : List Value} [p : OwnIn L v size n xs L'] : OwnIn (B :: L) v size n xs (B :: L') := ⟨fun h H => (H.tailImp p.out).swap⟩

theorem Own.bounds {W0 w : World} {L : List HProp} {size n c : Nat} {a : Option Addr} {xs : List Value} (H : On W0 (Own size (.slice a n c) n xs :: L) w) : n ≤ c ∧ c ≤ maxLen := by
  obtain ⟨_, _, hv, h1, h2, _⟩ := Own.form H
  simp only [Value.slice.injEq] at hv
  obtain ⟨_, _, rfl⟩ := hv
  exact ⟨h1, h2⟩
theorem Cells.bounds {size n c : Nat} {a : Option Addr} {xs : List Value} {h : Hp} (C : Cells size (.slice a n c) n xs h) : n ≤ c ∧ c ≤ maxLen := by
  obtain ⟨_, _, hv, h1, h2, _⟩ := C.form
  simp only [Value.slice.injEq] at hv
  obtain ⟨_, _, rfl⟩ := hv
  exact ⟨h1, h2⟩

theorem Cells.addr {size n c : Nat} {a : Option Addr} {xs : List Value} {h : Hp} (C : Cells size (.slice a n c) n xs h) (hn : 0 < n) : ∃ b o, a = some ⟨b, o, none⟩ := by
  obtain ⟨_, ao, cap, hv, _, _, _, h4⟩ := C
  obtain ⟨b, o, rfl, _⟩ := h4 hn
  simp only [Value.slice.injEq] at hv
  exact ⟨b, o, hv.1⟩
theorem Cells.front {size n k c : Nat} {a : Option Addr} {xs : List Value} {h : Hp} (C : Cells size (.slice a n c) n xs h) (hk : k ≤ n) : Cells size (.slice a k c) k (xs.take (k * size)) h := by
  obtain ⟨hl, ao, cap, hv, h1, h2, h3, h4⟩ := C
  simp only [Value.slice.injEq] at hv
  obtain ⟨rfl, _, rfl⟩ := hv
  have hks : k * size ≤ n * size := Nat.mul_le_mul_right _ hk
  refine ⟨by rw [List.length_take]; omega, a, c, rfl, by omega, h2, h3, fun hp => ?_⟩
  obtain ⟨b, o, rfl, r⟩ := h4 (by omega)
  refine ⟨b, o, rfl, fun j u hj => ?_⟩
  rw [List.getElem?_take] at hj
  split at hj
  · exact r j u hj
  · cases hj

section
variable {P : Program} {W0 w : World} {L L' : List HProp} {ρ : Operand → Value} {d : Option Nat} {ty : TypeId} {pos : String} {af : Array Edge} {g : Option (Nat × Bool)}

theorem On.fetch (H : On W0 L w) (A : HProp) [p : Pull L A L'] : On W0 (A :: L') w := H.imp p.out
theorem On.to {T : List HProp} (H : On W0 L w) [t : To L T] : On W0 T w := H.imp t.out
theorem On.own (H : On W0 L w) (v : Value) {size n : Nat} {xs : List Value} [p : OwnIn L v size n xs L'] : On W0 (Own size v n xs :: L') w := H.imp p.out
theorem On.cellsO (H : On W0 L w) {v : Value} {size n : Nat} {xs : List Value} [p : OwnIn L v size n xs L'] : Cells size v n xs (hp w) := (H.imp p.out).cells 0 rfl
theorem On.readsTo {A : HProp} {T : List HProp} (H : On W0 L w) [t : To L T] (g : Gives T A) : A (hp w) := g _ (t.out _ H.sat)
theorem Gives.to {A : HProp} {T : List HProp} [t : To L T] (g : Gives T A) : Gives L A := fun h H => g h (t.out h H)

/-- append(s, y...), s found by its value; y is read. -/
theorem eff_app {t e size n m bytes c1 c2 : Nat} {a1 a2 : Option Addr} {z : Value} {xs ys : List Value} {i : TypeInfo} {sx sy : Operand} (H : On W0 L w) (hs : ρ sx = .slice a1 n c1) (hy : ρ sy = .slice a2 m c2) [p : OwnIn L (.slice a1 n c1) size n xs L'] (C : Cells size (.slice a2 m c2) m ys (hp w))
    (hU : P.underlying t = some (.slice e)) (hI : P.info? e = some i) (hsz : i.size = size) (hby : i.bytes = bytes) (hz : i.zero = some z) (hzs : z.cells.size = size)
    (h63 : n + m ≤ maxLen) (hb : (n + m) * bytes ≤ 140737488355328) (h1c : ∀ u ∈ ys, u.oneCell' = true) :
    Eff P ρ ⟨d, .call { callee := .builtin .append, args := #[sx, sy], argTypes := #[t, t] }, ty, pos, af, g⟩ w (Grown size (n + m) (xs ++ ys) W0 L') :=
  eff_append (H.imp p.out) C hs hy hU hI hsz hby hz hzs h63 hb h1c

/-- append([]T{}, y...). -/
theorem eff_app0 {t e size m bytes c1 c2 : Nat} {a1 a2 : Option Addr} {z : Value} {xs ys : List Value} {i : TypeInfo} {sx sy : Operand} (H : On W0 L w) (hs : ρ sx = .slice a1 0 c1) (hy : ρ sy = .slice a2 m c2) [p : OwnIn L (.slice a1 0 c1) size 0 xs L'] (C : Cells size (.slice a2 m c2) m ys (hp w))
    (hU : P.underlying t = some (.slice e)) (hI : P.info? e = some i) (hsz : i.size = size) (hby : i.bytes = bytes) (hz : i.zero = some z) (hzs : z.cells.size = size)
    (h63 : m ≤ maxLen) (hb : m * bytes ≤ 140737488355328) (h1c : ∀ u ∈ ys, u.oneCell' = true) :
    Eff P ρ ⟨d, .call { callee := .builtin .append, args := #[sx, sy], argTypes := #[t, t] }, ty, pos, af, g⟩ w (Grown size m ys W0 L') := by
  have H' := H.imp p.out
  have hx : xs = [] := List.eq_nil_of_length_eq_zero (by simpa using (Own.openOn H').1)
  have := eff_append (P := P) (ρ := ρ) (d := d) (ty := ty) (pos := pos) (af := af) (g := g) H' C hs hy hU hI hsz hby hz hzs (by omega) (by rw [Nat.zero_add]; exact hb) h1c
  rw [Nat.zero_add, hx, List.nil_append] at this
  exact this

/-- '[]T{..}': new, and owned. -/
theorem eff_mkSlice {t n e size : Nat} {ps : List (Nat × Operand)} {z : Value} {zl : List Value} {pl : List (Nat × Nat)} {vs : List (Nat × Value)} {out : List Value} (H : On W0 L w)
    (hU : P.underlying t = some (.slice e)) (hS : ∀ w, (sizeOf e).run P w = .ok size w) (hZ : ∀ w, (zeroValue e).run P w = .ok z w) (hsmall : n * size ≤ 16777216) (hzl : ((Array.range (n * size)).map fun i => (if n * size = 0 then #[] else z.cells)[i % (if n * size = 0 then #[] else z.cells).size]!) = zl.toArray)
    (hpl : pl = (List.range n).map fun i => (i * size, size))
    (hv : ps.map (fun p => (p.1, ρ p.2)) = vs) (hlt : ∀ p ∈ vs, p.1 < n) (hf : fits pl zl.length vs) (ho : placed pl zl vs = out) (hol : out.length = n * size) (hn : n ≤ maxLen) :
    Eff P ρ ⟨d, .buildSlice t n ps.toArray, ty, pos, af, g⟩ w (fun v w' => ∃ b, v = .slice (some ⟨b, 0, none⟩) n n ∧ On W0 (Own size (.slice (some ⟨b, 0, none⟩) n n) n out :: L) w') := by
  rcases eff_buildSlice (P := P) (ρ := ρ) (d := d) (ty := ty) (pos := pos) (af := af) (g := g) H hU hS hZ hsmall hzl hpl hv hlt hf ho with ⟨v, w', h, b, hv', hO⟩ | ⟨w', h, b, hv', hO⟩ | ⟨f, args, w1, h, hc⟩
  · exact .inl ⟨v, w', h, b, hv', Own.ofBlk hO hol hn⟩
  · exact .inr (.inl ⟨w', h, b, hv', Own.ofBlk hO hol hn⟩)
  · exact .inr (.inr ⟨f, args, w1, h, Calls.mono hc (by rintro e w' ⟨v, he, b, hv', hO⟩; exact ⟨v, he, b, hv', Own.ofBlk hO hol hn⟩)⟩)

/-- string(b). -/
theorem foldl_push (bs : List UInt8) : ∀ (s : ByteArray), bs.foldl (fun r c => r.push c) s = ⟨s.data ++ bs.toArray⟩ := by
  induction bs with
  | nil => intro s; simp
  | cons c bs ih =>
    intro s
    rw [List.foldl_cons, ih]
    simp [ByteArray.push]
theorem run_bytesStr {src dst e n c : Nat} {a : Option Addr} {x : Operand} {bs : List UInt8} (hs : P.underlying src = some (.slice e)) (he : P.underlying e = some (.int .u8)) (hd : P.underlying dst = some .string) (hx : ρ x = .slice a n c) (C0 : Cells 1 (.slice a n c) n (bytesV bs) (hp w)) :
    (execOp ρ ⟨d, .convert src dst x, ty, pos, af, g⟩).run P w = .ok (.value (.string ⟨bs.toArray⟩)) w := by
  have hnl : n = bs.length := by have := C0.1; simpa using this.symm
  subst hnl
  have C : Bytes (.slice a bs.length c) bs (hp w) := C0
  have hf := run_firstCells_C (P := P) C
  obtain ⟨hl, ao, cap, hv, h1, h2, h3, h4⟩ := C
  rw [hv] at hf hx
  clear hv
  simp only [Builtin.firstCells, Nat.mul_one] at hf
  have key : ∀ (bs : List UInt8) (s : ByteArray) (w : World), (Sem.run P (forIn (bytesV bs).toArray s fun c s => do
      let .int .u8 n := c | stuck "bytesToString: byte expected"
      pure (ForInStep.yield (s.push (UInt8.ofNat n.toNat)))) w) = .ok (bs.foldl (fun r c => r.push c) s) w := by
    intro bs
    induction bs with
    | nil => intro s w; simp
    | cons c bs ih =>
      intro s w
      have := ih (s.push c) w
      simp only [List.forIn_toArray] at this ⊢
      simp only [bytesV, List.map_cons, List.forIn_cons, List.foldl_cons]
      simp only [Sem.run_bind]
      simp
  have hconv : (convert src dst (.slice ao bs.length cap)).run P w = .ok (.string ⟨bs.toArray⟩) w := by
    cases ao with
    | none =>
      have hz : bs.length = 0 := by have := h3 rfl; omega
      have hb : bs = [] := List.eq_nil_of_length_eq_zero hz
      subst hb
      simp [convert, run_underlying hs, run_underlying hd, run_underlying he, Conv.bytesToString]
      rfl
    | some a =>
      simp only at hf
      have := key bs ByteArray.empty w
      rw [foldl_push] at this
      simp [convert, run_underlying hs, run_underlying hd, run_underlying he, Conv.bytesToString, hf]
      simpa using this
  simp [execOp, hx, hconv]
end
end Go.Sl
/-
  []byte of a text; what is given by an owned slice anywhere; strings compared that are one.
-/
namespace Go.Sl
open Go
set_option linter.unusedVariables false

theorem Gives.ownO {L L' : List HProp} {v : Value} {size n : Nat} {xs : List Value} [p : OwnIn L v size n xs L'] : Gives L (Cells size v n xs) := fun h H => by
  obtain ⟨h1, s, a⟩ := (p.out h H).fact
  exact Cells_mono _ _ _ _ _ _ s a.cells
theorem Bytes_nil (h : Hp) : Bytes (.slice none 0 0) [] h := ⟨rfl, none, 0, rfl, Nat.le_refl _, by simp, fun _ => rfl, fun h => absurd h (by simp)⟩
theorem Gives.nilB {L : List HProp} : Gives L (Bytes (.slice none 0 0) []) := fun h _ => Bytes_nil h

section
variable {P : Program} {W0 w : World} {L L' : List HProp} {ρ : Operand → Value} {d : Option Nat} {ty : TypeId} {pos : String} {af : Array Edge} {g : Option (Nat × Bool)}

/-- A block's mark that a string was made of it. -/
theorem On.mark {b : Nat} {l : List Value} {e : Nat} {fr : Nat × Nat} (H : On W0 (blk b l e fr :: L) w) : On W0 (blk b l e (if fr.1 == fr.2 then (l.length, l.length + 1) else (min fr.1 l.length, max fr.2 (l.length + 1))) :: L) (w.freeze ⟨b, l.length, none⟩ 1) := by
  have hb := H.block 0 rfl
  refine H.set (w' := w.freeze ⟨b, l.length, none⟩ 1) 0 rfl rfl rfl rfl (by simp [World.freeze]) ?_ ?_
  · simp [World.freeze, Array.getElem?_modify, hb]
  · intro k hk
    simp [World.freeze, Array.getElem?_modify, Ne.symm hk]

theorem eff_ofString {t te n c : Nat} {a : Option Addr} {xs : List Value} {x : Operand} (H : On W0 L w) (hx : ρ x = .slice a n c) [p : OwnIn L (.slice a n c) 1 n xs L'] (hn : 0 < n)
    (hU : P.underlying t = some (.slice te)) (hE : P.underlying te = some (.int .u8)) :
    Eff P ρ ⟨d, .convert t t x, ty, pos, af, g⟩ w (fun v w' => v = .slice a n c ∧ On W0 (Own 1 (.slice a n c) n xs :: L') w') := by
  have H' := H.imp p.out
  obtain ⟨hxl, ho⟩ := Own.openOn H'
  rcases ho with ⟨h0, _⟩ | ⟨gb, off, cap, cur, e', fr, hv, h1, h2, h3, h4, h5, Hb⟩
  · omega
  · simp only [Value.slice.injEq] at hv
    obtain ⟨rfl, _, rfl⟩ := hv
    have hb := Hb.block 0 rfl
    have hsh : w.shape? gb = some (e', cur.length) := by simp [World.shape?, hb]
    refine .inl ⟨.slice (some ⟨gb, off, none⟩) n c, w.freeze ⟨gb, cur.length, none⟩ 1, ?_, rfl, ?_⟩
    · simp [execOp, convert, run_underlying hU, run_underlying hE, hx, markStringish, hsh]
    · refine Own.closeOn (On.mark Hb) hxl h1 h2 h3 h4 ?_
      split
      · exact .inr (Nat.le_refl _)
      · rename_i hne
        have : ¬ fr.1 = fr.2 := by simpa using hne
        right
        show cur.length ≤ min fr.1 cur.length
        omega
end
end Go.Sl
namespace Go.Sl
open Go
/-- What is read where the call begins is read in whatever heap still has the blocks of then. -/
theorem Gives.old {W : World} {size n : Nat} {v : Value} {xs : List Value} (C : Cells size v n xs (hp W)) : Gives [old W] (Cells size v n xs) := fun h H => by
  obtain ⟨h1, s, o⟩ := H.fact
  obtain ⟨hl, ao, cap, hv, a1, a2, a3, a4⟩ := C
  refine ⟨hl, ao, cap, hv, a1, a2, a3, fun hn => ?_⟩
  obtain ⟨b, off, he, r⟩ := a4 hn
  refine ⟨b, off, he, fun j u hj => ?_⟩
  have := r j u hj
  refine cellH_mono s ?_
  unfold cellH at this ⊢
  have hlt : b < W.heap.size := by
    rcases Nat.lt_or_ge b W.heap.size with h' | h'
    · exact h'
    · exfalso
      have hb : hp W b = none := by simp [hp, Array.getElem?_eq_none h']
      rw [hb] at this; cases this
  rw [o b hlt]
  exact this
theorem On.old0 (W : World) : On W [old W] W := On.start W
end Go.Sl
/-
  What a call's arguments read as where it begins: of whatever type, out of the reading that the statement gives.
-/
namespace Go.Sl
open Go
variable {P : Program} {W : World}

/-- Whatever of type 'e' is read begins with cells of this kind. -/
def Rd (P : Program) (W : World) (e : TypeId) (R : List Value → Prop) : Prop :=
  ∀ (H : Type) (enc : TypeId × Value → H) (n : Nat) (cs : List Value) (x : DataW H × List MemPlace), DataW.trod enc P W 0 (fun _ => true) true n e cs = some x → R cs
theorem Rd.mono {e : TypeId} {R R' : List Value → Prop} (h : Rd P W e R) (i : ∀ cs, R cs → R' cs) : Rd P W e R' := fun H enc n cs x t => i _ (h H enc n cs x t)
theorem Rd.use {e : TypeId} {R : List Value → Prop} (h : Rd P W e R) {H : Type} {enc : TypeId × Value → H} {v : Value} {d : DataW H} {ps : List MemPlace}
    (t : DataW.Trod enc P W 0 (fun _ => true) true e v d ps) : R v.cells.toList := by
  obtain ⟨n, t⟩ := t
  exact h H enc n _ _ t
theorem rd_int {t : TypeId} {k : IntKind} (ht : P.underlying t = some (.int k)) : Rd P W t (fun cs => ∃ z, cs = [.int k z] ∧ (Lit.int k z).wf = true) := fun H enc n cs x h => by
  obtain ⟨z, h1, _, h2⟩ := DataW.trod_int ht h
  exact ⟨z, h1, h2⟩
theorem rd_bool {t : TypeId} (ht : P.underlying t = some .bool) : Rd P W t (fun cs => ∃ b, cs = [.bool b]) := fun H enc n cs x h => by
  obtain ⟨z, h1, _⟩ := DataW.trod_bool ht h
  exact ⟨z, h1⟩
theorem rd_string {t : TypeId} (ht : P.underlying t = some .string) : Rd P W t (fun cs => ∃ s : ByteArray, cs = [.string s] ∧ s.size ≤ maxLen) := fun H enc n cs x h => by
  obtain ⟨z, h1, _, h2⟩ := DataW.trod_string ht h
  exact ⟨z, h1, h2⟩
theorem flatten_get {s : Nat} {rows : List (List Value)} (hr : ∀ r ∈ rows, r.length = s) (j : Nat) (u : Value) (h : rows.flatten[j]? = some u) :
    ∃ i k r, j = i * s + k ∧ k < s ∧ rows[i]? = some r ∧ r[k]? = some u := by
  induction rows generalizing j with
  | nil => simp at h
  | cons r rows ih =>
    have hl : r.length = s := hr r (by simp)
    rw [List.flatten_cons] at h
    rcases Nat.lt_or_ge j s with hj | hj
    · rw [List.getElem?_append_left (by omega)] at h
      exact ⟨0, j, r, by omega, hj, rfl, h⟩
    · rw [List.getElem?_append_right (by omega), hl] at h
      obtain ⟨i, k, q, h1, h2, h3, h4⟩ := ih (fun r m => hr r (by simp [m])) (j - s) h
      exact ⟨i + 1, k, q, by rw [Nat.add_mul]; omega, h2, by simpa using h3, h4⟩
theorem flatten_length {s : Nat} {rows : List (List Value)} (hr : ∀ r ∈ rows, r.length = s) : rows.flatten.length = rows.length * s := by
  induction rows with
  | nil => simp
  | cons r rows ih =>
    rw [List.flatten_cons, List.length_append, ih (fun r m => hr r (by simp [m])), hr r (by simp), List.length_cons, Nat.add_mul]; omega
theorem rd_slice {t e : TypeId} {s : Nat} {R : List Value → Prop} (ht : P.underlying t = some (.slice e)) (hc : P.cellsOf e = s) (hs : 0 < s) (he : Rd P W e R) :
    Rd P W t (fun cs => ∃ a c, ∃ rows : List (List Value), cs = [.slice a rows.length c] ∧ (∀ r ∈ rows, r.length = s ∧ R r) ∧ Cells s (.slice a rows.length c) rows.length rows.flatten (hp W)) := fun H enc n cs x h => by
  rcases Deep.open_slice ht h with ⟨rfl, _⟩ | ⟨a, len, cap, m, n, D, Pl, rfl, hb, hl, hm, hmm, _, hx⟩
  · exact ⟨none, 0, [], rfl, by simp, by simp, none, 0, rfl, by simp, by simp [maxLen], fun _ => rfl, by simp⟩
  · rw [hc] at hx
    have hlm : len ≤ m := by simp at hmm; omega
    obtain ⟨f, hf⟩ := Deep.choose_lt (n := len) (p := fun i cs' => W.cells? 0 (a.add (i * s)) s = some cs' ∧ DataW.trod enc P W 0 (fun _ => true) true n e cs' = some (D i, Pl i)) (fun i hi => hx i (by omega))
    have hrow : ∀ r ∈ (List.range len).map f, r.length = s ∧ R r := by
      intro r hr
      obtain ⟨i, hi, rfl⟩ := List.mem_map.1 hr
      have := hf i (by simpa using hi)
      exact ⟨(World.cells?_some this.1).2.1, he H enc n _ _ this.2⟩
    have hlen : ((List.range len).map f).length = len := by simp
    refine ⟨some a, cap, (List.range len).map f, by rw [hlen], hrow, ?_⟩
    rw [hlen]
    refine ⟨by rw [flatten_length (fun r h => (hrow r h).1), hlen], some a, cap, rfl, hl, hm, by simp, fun hpos => ?_⟩
    obtain ⟨b, o, spot⟩ := a
    have h0 := World.cells?_some (hf 0 hpos).1
    have hc0 := h0.2.2 0 hs
    obtain ⟨v0, hv0⟩ : ∃ v, (f 0)[0]? = some v := ⟨(f 0)[0]'(by omega), by simp⟩
    rw [hv0] at hc0
    have hspot : spot = none := by
      have := World.cell?_spot hc0
      simpa [Addr.add] using this
    subst hspot
    refine ⟨b, o, rfl, fun j u hj => ?_⟩
    obtain ⟨i, k, r, rfl, hk, hri, hrk⟩ := flatten_get (fun r h => (hrow r h).1) j u hj
    have hi : i < len := by
      have := (List.getElem?_eq_some_iff.1 hri).1
      simpa using this
    have hri' : f i = r := by
      rw [List.getElem?_map, List.getElem?_range hi] at hri
      simpa using hri
    subst hri'
    have h2 := (World.cells?_some (hf i hi).1).2.2 k hk
    rw [hrk, Deep.add_add] at h2
    rw [cellH_hp]
    rw [← h2]
    congr 1
    unfold Addr.add
    split <;> simp_all
theorem exists_map {α : Type} {Q : α → Prop} {f : α → List Value} {R : List Value → Prop} {rows : List (List Value)} (h : ∀ r ∈ rows, R r) (i : ∀ r, R r → ∃ a, r = f a ∧ Q a) : ∃ l : List α, rows = l.map f ∧ ∀ a ∈ l, Q a := by
  induction rows with
  | nil => exact ⟨[], rfl, by simp⟩
  | cons r rows ih =>
    obtain ⟨l, rfl, hl⟩ := ih (fun r m => h r (by simp [m]))
    obtain ⟨a, rfl, ha⟩ := i r (h r (by simp))
    exact ⟨a :: l, rfl, by simpa using ⟨ha, hl⟩⟩
/-- A slice whose elements have a form. -/
theorem rd_sliceOf {α : Type} {t e : TypeId} {s : Nat} {Q : α → Prop} {f : α → List Value} (ht : P.underlying t = some (.slice e)) (hc : P.cellsOf e = s) (hs : 0 < s) (he : Rd P W e (fun cs => ∃ a, cs = f a ∧ Q a)) :
    Rd P W t (fun cs => ∃ a c, ∃ l : List α, cs = [.slice a l.length c] ∧ (∀ x ∈ l, Q x) ∧ Cells s (.slice a l.length c) l.length (l.flatMap f) (hp W)) :=
  (rd_slice ht hc hs he).mono fun cs ⟨a, c, rows, hcs, hr, hC⟩ => by
    obtain ⟨l, rfl, hl⟩ := exists_map (Q := Q) (f := f) (R := fun r => r.length = s ∧ ∃ a, r = f a ∧ Q a) hr (fun r ⟨_, h⟩ => h)
    exact ⟨a, c, l, by simpa using hcs, hl, by simpa [List.flatMap_def] using hC⟩
theorem flatMap_single {α : Type} (g : α → Value) (l : List α) : (l.flatMap fun a => [g a]) = l.map g := by
  induction l with
  | nil => rfl
  | cons x l ih => simp [List.flatMap_cons, ih]
theorem rd_bytes {t e : TypeId} (ht : P.underlying t = some (.slice e)) (he : P.underlying e = some (.int .u8)) (hc : P.cellsOf e = 1) :
    Rd P W t (fun cs => ∃ a c, ∃ bs : List UInt8, cs = [.slice a bs.length c] ∧ Bytes (.slice a bs.length c) bs (hp W)) :=
  (rd_sliceOf (α := UInt8) (Q := fun _ => True) (f := fun b => [.int .u8 (b.toNat : Int)]) ht hc (by omega) ((rd_int he).mono fun cs ⟨z, h1, h2⟩ => by
    have h3 : 0 ≤ z ∧ z < 256 := by simp [Lit.wf] at h2; have e1 : IntKind.u8.min = 0 := rfl; have e2 : IntKind.u8.max = 255 := rfl; omega
    refine ⟨UInt8.ofNat z.toNat, ?_, trivial⟩
    rw [h1]
    have : (UInt8.ofNat z.toNat).toNat = z.toNat := by simp [UInt8.toNat_ofNat']; omega
    rw [this, Int.toNat_of_nonneg h3.1])).mono fun cs ⟨a, c, l, h1, _, h3⟩ => ⟨a, c, l, h1, by rw [flatMap_single] at h3; exact h3⟩
/-- A struct's fields, by their places. -/
theorem rd_struct {t : TypeId} {fs : Array Field} (ht : P.underlying t = some (.struct fs)) {R : Field → List Value → Prop} (hR : ∀ f ∈ fs.toList, Rd P W f.type (R f)) :
    Rd P W t (fun cs => cs.length = P.cellsOf t ∧ ∀ f ∈ fs.toList, R f ((cs.drop f.offset).take (P.cellsOf f.type))) := fun H enc n cs x h => by
  obtain ⟨xs, n, _, _, h1, h2, h3⟩ := DataW.trod_struct ht h
  refine ⟨h1, fun f hf => ?_⟩
  obtain ⟨i, hi⟩ := List.getElem?_of_mem hf
  have hi' : fs[i]? = some f := by simpa using hi
  have := h3 i f hi'
  have hlt : i < xs.length := by
    have := (Array.getElem?_eq_some_iff.1 hi').1
    omega
  rw [List.getElem?_eq_getElem hlt] at this
  exact hR f hf H enc n _ _ this
/-- Fields and what each reads as. -/
def RdAll (P : Program) (W : World) : List Field → List (List Value → Prop) → Prop
  | [], [] => True
  | f :: fs, R :: Rs => Rd P W f.type R ∧ RdAll P W fs Rs
  | _, _ => False
def AtAll (P : Program) (cs : List Value) : List Field → List (List Value → Prop) → Prop
  | f :: fs, R :: Rs => R ((cs.drop f.offset).take (P.cellsOf f.type)) ∧ AtAll P cs fs Rs
  | _, _ => True
theorem rd_fields {t : TypeId} {fs : Array Field} {Rs : List (List Value → Prop)} (ht : P.underlying t = some (.struct fs)) (hR : RdAll P W fs.toList Rs) :
    Rd P W t (fun cs => cs.length = P.cellsOf t ∧ AtAll P cs fs.toList Rs) := fun H enc n cs x h => by
  obtain ⟨xs, n, _, _, h1, h2, h3⟩ := DataW.trod_struct ht h
  refine ⟨h1, ?_⟩
  have key : ∀ f ∈ fs.toList, ∃ y, DataW.trod enc P W 0 (fun _ => true) true n f.type ((cs.drop f.offset).take (P.cellsOf f.type)) = some y := by
    intro f hf
    obtain ⟨i, hi⟩ := List.getElem?_of_mem hf
    have hi' : fs[i]? = some f := by simpa using hi
    have := h3 i f hi'
    have hlt : i < xs.length := by
      have := (Array.getElem?_eq_some_iff.1 hi').1
      omega
    rw [List.getElem?_eq_getElem hlt] at this
    exact ⟨_, this⟩
  generalize fs.toList = l at hR key
  clear h3 h2 ht h
  induction l generalizing Rs with
  | nil => cases Rs <;> trivial
  | cons f l ih =>
    cases Rs with
    | nil => trivial
    | cons R Rs =>
      obtain ⟨y, hy⟩ := key f (by simp)
      exact ⟨hR.1 H enc n _ y hy, ih hR.2 (fun f hf => key f (by simp [hf]))⟩
end Go.Sl
