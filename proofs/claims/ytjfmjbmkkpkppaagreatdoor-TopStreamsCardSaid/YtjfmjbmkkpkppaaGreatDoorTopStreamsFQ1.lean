/-
  Texts of a proof as one.
-/
import Derived.WalkKit
import Derived.OrdersHeld
import Derived.Scope
import Derived.Deep.Slices
import Derived.ChangeArms
import Derived.Laws.MakeOwn
import Derived.Laws.Small
import Derived.Maps.RangeRun
import Derived.Laws.Concat
import Derived.Lib.Overlaps
import Derived.Laws.Externs
import Derived.Test.YtjfmjbmkkpkppaaGreatDoorChecked
set_option linter.unusedVariables false
set_option linter.unusedSimpArgs false
namespace Go.Sl
open Go
abbrev Hp := Nat → Option Obj
abbrev HProp := Hp → Prop
def Sub (h k : Hp) : Prop := ∀ b o, h b = some o → k b = some o
def Dis (h k : Hp) : Prop := ∀ b o o', h b = some o → k b = some o' → False
theorem Sub.refl (h : Hp) : Sub h h := fun _ _ e => e
theorem Sub.trans {h k l : Hp} (a : Sub h k) (b : Sub k l) : Sub h l := fun x o e => b x o (a x o e)
theorem Dis.symm {h k : Hp} (d : Dis h k) : Dis k h := fun b o o' e e' => d b o' o e' e
theorem Dis.mono {h h' k k' : Hp} (d : Dis h k) (a : Sub h' h) (b : Sub k' k) : Dis h' k' := fun x o o' e e' => d x o o' (a x o e) (b x o' e')
def union (h k : Hp) : Hp := fun b => match h b with | some o => some o | none => k b
theorem union_left (h k : Hp) : Sub h (union h k) := fun b o e => by simp [union, e]
theorem union_right {h k : Hp} (d : Dis h k) : Sub k (union h k) := fun b o e => by
 unfold union
 cases hb : h b with
 | none => exact e
 | some o' => exact (d b o' o hb e).elim
theorem union_sub {h k l : Hp} (a : Sub h l) (b : Sub k l) : Sub (union h k) l := fun x o e => by
 unfold union at e
 cases hx : h x with
 | none => rw [hx] at e; exact b x o e
 | some o' => rw [hx] at e; cases e; exact a x o hx
theorem dis_union {h k l : Hp} (a : Dis h l) (b : Dis k l) : Dis (union h k) l := fun x o o' e e' => by
 unfold union at e
 cases hx : h x with
 | none => rw [hx] at e; exact b x o o' e e'
 | some o'' => exact a x o'' o' hx e'
def Sat : List HProp → Hp → Prop
 | [], _ => True
 | A :: L, h => ∃ h1 h2, Dis h1 h2 ∧ Sub h1 h ∧ Sub h2 h ∧ A h1 ∧ Sat L h2
theorem Sat.mono {L : List HProp} {h k : Hp} (s : Sub h k) (H : Sat L h) : Sat L k := by
 cases L with
 | nil => trivial
 | cons A L =>
   obtain ⟨h1, h2, d, s1, s2, a, r⟩ := H
   exact ⟨h1, h2, d, s1.trans s, s2.trans s, a, r⟩
theorem Sat.tail {A : HProp} {L : List HProp} {h : Hp} (H : Sat (A :: L) h) : Sat L h := by
 obtain ⟨h1, h2, d, s1, s2, a, r⟩ := H
 exact r.mono s2
theorem Sat.swap {A B : HProp} {L : List HProp} {h : Hp} (H : Sat (A :: B :: L) h) : Sat (B :: A :: L) h := by
 obtain ⟨h1, h2, d, s1, s2, a, k1, k2, d', t1, t2, b, r⟩ := H
 refine ⟨k1, union h1 k2, ?_, t1.trans s2, union_sub s1 (t2.trans s2), b, h1, k2, d.mono (Sub.refl _) t2, union_left _ _, union_right (d.mono (Sub.refl _) t2), a, r⟩
 exact (dis_union (d.mono (Sub.refl _) t1) d'.symm).symm
theorem Sat.imp {A B : HProp} {L : List HProp} {h : Hp} (i : ∀ h, A h → B h) (H : Sat (A :: L) h) : Sat (B :: L) h := by
 obtain ⟨h1, h2, d, s1, s2, a, r⟩ := H
 exact ⟨h1, h2, d, s1, s2, i _ a, r⟩
theorem Sat.tailImp {A : HProp} {L L' : List HProp} {h : Hp} (i : ∀ h, Sat L h → Sat L' h) (H : Sat (A :: L) h) : Sat (A :: L') h := by
 obtain ⟨h1, h2, d, s1, s2, a, r⟩ := H
 exact ⟨h1, h2, d, s1, s2, a, i _ r⟩
theorem Sat.perm {L L' : List HProp} (p : L.Perm L') : ∀ {h : Hp}, Sat L h → Sat L' h := by
 induction p with
 | nil => exact fun H => H
 | cons A _ ih => exact fun H => H.tailImp fun _ => ih
 | swap A B L => exact fun H => H.swap
 | trans _ _ ih1 ih2 => exact fun H => ih2 (ih1 H)
theorem Sat.append {L M : List HProp} : ∀ {h : Hp}, Sat (L ++ M) h → ∃ h1 h2, Dis h1 h2 ∧ Sub h1 h ∧ Sub h2 h ∧ Sat L h1 ∧ Sat M h2 := by
 induction L with
 | nil => exact fun {h} H => ⟨fun _ => none, h, (fun _ _ _ e _ => by cases e), (fun _ _ e => by cases e), Sub.refl _, trivial, H⟩
 | cons A L ih =>
   intro h H
   obtain ⟨h1, h2, d, s1, s2, a, r⟩ := H
   obtain ⟨k1, k2, d', t1, t2, l, m⟩ := ih r
   refine ⟨union h1 k1, k2, dis_union (d.mono (Sub.refl _) t2) d', union_sub s1 (t1.trans s2), t2.trans s2, ⟨h1, k1, d.mono (Sub.refl _) t1, union_left _ _, union_right (d.mono (Sub.refl _) t1), a, l⟩, m⟩
theorem Sat.unappend {L M : List HProp} : ∀ {h h1 h2 : Hp}, Dis h1 h2 → Sub h1 h → Sub h2 h → Sat L h1 → Sat M h2 → Sat (L ++ M) h := by
 induction L with
 | nil => exact fun d s1 s2 _ m => m.mono s2
 | cons A L ih =>
   intro h h1 h2 d s1 s2 l m
   obtain ⟨k1, k2, d', t1, t2, a, r⟩ := l
   refine ⟨k1, union k2 h2, (dis_union d'.symm (d.symm.mono (Sub.refl _) t1)).symm, t1.trans s1, union_sub (t2.trans s1) s2, a, ?_⟩
   exact ih (d.mono t2 (Sub.refl _)) (union_left _ _) (union_right (d.mono t2 (Sub.refl _))) r m
def star (L : List HProp) : HProp := Sat L
theorem Sat.unstar {L M : List HProp} {h : Hp} (H : Sat (star L :: M) h) : Sat (L ++ M) h := by
 obtain ⟨h1, h2, d, s1, s2, a, r⟩ := H
 exact Sat.unappend d s1 s2 a r
theorem Sat.toStar {L M : List HProp} {h : Hp} (H : Sat (L ++ M) h) : Sat (star L :: M) h := by
 obtain ⟨h1, h2, d, s1, s2, a, r⟩ := Sat.append H
 exact ⟨h1, h2, d, s1, s2, a, r⟩
theorem Sat.fact {A : HProp} {L : List HProp} {h : Hp} (H : Sat (A :: L) h) : ∃ h1, Sub h1 h ∧ A h1 := by
 obtain ⟨h1, h2, d, s1, s2, a, r⟩ := H
 exact ⟨h1, s1, a⟩
def pts (b : Nat) (o : Obj) : HProp := fun h => h b = some o
def Mono (A : HProp) : Prop := ∀ h k, Sub h k → A h → A k
theorem pts_mono (b : Nat) (o : Obj) : Mono (pts b o) := fun _ _ s e => s b o e
def Gives (L : List HProp) (A : HProp) : Prop := ∀ h, Sat L h → A h
theorem Gives.head {L : List HProp} {A B : HProp} (m : Mono A) (i : ∀ h, B h → A h) : Gives (B :: L) A := fun h H => by
 obtain ⟨h1, h2, d, s1, s2, a, r⟩ := H
 exact m _ _ s1 (i _ a)
theorem perm_pull {L : List HProp} : ∀ (i : Nat) {A : HProp}, L[i]? = some A → L.Perm (A :: L.eraseIdx i) := by
 induction L with
 | nil => intro i A h; simp at h
 | cons B L ih =>
   intro i A h
   cases i with
   | zero => simp at h; subst h; exact List.Perm.refl _
   | succ i =>
     simp at h
     refine ((ih i h).cons B).trans ?_
     exact List.Perm.swap A B _
theorem Sat.pull {L : List HProp} {h : Hp} (i : Nat) {A : HProp} (hi : L[i]? = some A) (H : Sat L h) : Sat (A :: L.eraseIdx i) h := H.perm (perm_pull i hi)
theorem Sat.get {L : List HProp} {h : Hp} (i : Nat) {A : HProp} (hi : L[i]? = some A) (m : Mono A) (H : Sat L h) : A h := by
 obtain ⟨h1, s, a⟩ := (H.pull i hi).fact
 exact m _ _ s a
theorem Sat.set {L : List HProp} : ∀ {h : Hp} (i : Nat) {b : Nat} {o o' : Obj}, L[i]? = some (pts b o) → Sat L h → Sat (L.set i (pts b o')) (fun x => if x = b then some o' else h x) := by
 induction L with
 | nil => intro h i b o o' hi; simp at hi
 | cons A L ih =>
   intro h i b o o' hi H
   obtain ⟨h1, h2, d, s1, s2, a, r⟩ := H
   cases i with
   | zero =>
     simp at hi
     subst hi
     refine ⟨fun x => if x = b then some o' else none, h2, ?_, ?_, ?_, by simp [pts], r⟩
     · intro x u u' e e'
       by_cases hx : x = b
       · subst hx; exact d x o u' a e'
       simp [hx] at e
     · intro x u e
       by_cases hx : x = b
       · simp [hx] at e ⊢; exact e
       simp [hx] at e
     intro x u e
     by_cases hx : x = b
     · subst hx; exact (d x o u a e).elim
     simp [hx]; exact s2 x u e
   | succ i =>
     simp at hi
     have hb : h2 b = some o := r.get i hi (pts_mono b o)
     refine ⟨h1, fun x => if x = b then some o' else h2 x, ?_, ?_, ?_, a, ih i hi r⟩
     · intro x u u' e e'
       by_cases hx : x = b
       · subst hx; exact d x u o e hb
       simp [hx] at e'; exact d x u u' e e'
     · intro x u e
       by_cases hx : x = b
       · subst hx; exact (d x u o e hb).elim
       simp [hx]; exact s1 x u e
     intro x u e
     by_cases hx : x = b
     · simp [hx] at e ⊢; exact e
     simp [hx] at e ⊢; exact s2 x u e
theorem Sat.new {L : List HProp} {h : Hp} {b : Nat} {o : Obj} (hb : h b = none) (H : Sat L h) : Sat (pts b o :: L) (fun x => if x = b then some o else h x) := by
 refine ⟨fun x => if x = b then some o else none, h, ?_, ?_, ?_, by simp [pts], H⟩
 · intro x u u' e e'
   by_cases hx : x = b
   · subst hx; rw [hb] at e'; cases e'
   simp [hx] at e
 · intro x u e
   by_cases hx : x = b
   · simp [hx] at e ⊢; exact e
   simp [hx] at e
 intro x u e
 by_cases hx : x = b
 · subst hx; rw [hb] at e; cases e
 simp [hx]; exact e
def hp (w : World) : Hp := fun b => w.heap[b]?
structure On (W0 : World) (L : List HProp) (w : World) : Prop where
 os : w.os = W0.os
 output : w.output = W0.output
 tape : w.tape = W0.tape
 size : W0.heap.size ≤ w.heap.size
 sat : Sat L (hp w)
section
variable {W0 w : World} {L L' : List HProp}
theorem On.imp (H : On W0 L w) (i : ∀ h, Sat L h → Sat L' h) : On W0 L' w := ⟨H.os, H.output, H.tape, H.size, i _ H.sat⟩
theorem On.perm (H : On W0 L w) (p : L.Perm L') : On W0 L' w := H.imp fun _ => Sat.perm p
theorem On.pull (H : On W0 L w) (i : Nat) {A : HProp} (hi : L[i]? = some A) : On W0 (A :: L.eraseIdx i) w := H.perm (perm_pull i hi)
theorem On.drew (H : On W0 L w) : On W0 L w.drew := ⟨H.os, H.output, H.tape, H.size, H.sat⟩
theorem On.unstar {M : List HProp} (H : On W0 (star L :: M) w) : On W0 (L ++ M) w := H.imp fun _ => Sat.unstar
theorem On.toStar {M : List HProp} (H : On W0 (L ++ M) w) : On W0 (star L :: M) w := H.imp fun _ => Sat.toStar
theorem On.tail {A : HProp} (H : On W0 (A :: L) w) : On W0 L w := H.imp fun _ => Sat.tail
theorem On.block (H : On W0 L w) (i : Nat) {b : Nat} {o : Obj} (hi : L[i]? = some (pts b o)) : w.heap[b]? = some o := H.sat.get i hi (pts_mono b o)
theorem On.get (H : On W0 L w) (i : Nat) {A : HProp} (hi : L[i]? = some A) (m : Mono A) : A (hp w) := H.sat.get i hi m
theorem On.gives {A : HProp} (H : On W0 L w) (g : Gives L A) : A (hp w) := g _ H.sat
theorem On.set {w' : World} (H : On W0 L w) (i : Nat) {b : Nat} {o o' : Obj} (hi : L[i]? = some (pts b o))
   (h1 : w'.os = w.os) (h2 : w'.output = w.output) (h3 : w'.tape = w.tape) (h4 : w'.heap.size = w.heap.size)
   (h5 : w'.heap[b]? = some o') (h6 : ∀ k, k ≠ b → w'.heap[k]? = w.heap[k]?) : On W0 (L.set i (pts b o')) w' := by
 refine ⟨h1.trans H.os, h2.trans H.output, h3.trans H.tape, by rw [h4]; exact H.size, ?_⟩
 have : hp w' = fun x => if x = b then some o' else hp w x := by
   funext x
   by_cases hx : x = b
   · subst hx; simp [hp, h5]
   simp [hp, hx, h6 x hx]
 rw [this]
 exact Sat.set i hi H.sat
theorem On.setCell (H : On W0 L w) (i : Nat) {b : Nat} {cs : Array Value} {e : TypeId} {fr : Nat × Nat} (hi : L[i]? = some (pts b (.cells cs e fr))) (off : Nat) (v : Value) :
   On W0 (L.set i (pts b (.cells (cs.setIfInBounds off v) e fr))) (w.setCell ⟨b, off, none⟩ v) := by
 have hb := H.block i hi
 have hlt : b < w.heap.size := (Array.getElem?_eq_some_iff.1 hb).1
 refine H.set i hi rfl rfl rfl (by simp [World.setCell]) ?_ (fun k hk => heap_setCell_other w _ k v hk)
 simp [World.setCell, Array.getElem?_modify, hb]
theorem On.alloc (H : On W0 L w) (o : Obj) : On W0 (pts w.heap.size o :: L) (w.alloc o) := by
 refine ⟨H.os, H.output, H.tape, by simp; have := H.size; omega, ?_⟩
 have : hp (w.alloc o) = fun x => if x = w.heap.size then some o else hp w x := by
   funext x
   by_cases hx : x = w.heap.size
   · subst hx; show (w.alloc o).heap[w.heap.size]? = _; rw [heap_alloc_new]; simp
   show (w.heap.push o)[x]? = _
   rw [Array.getElem?_push]
   simp [hp, hx]
 rw [this]
 exact Sat.new (by simp [hp]) H.sat
theorem On.setRow (H : On W0 L w) (i : Nat) {b : Nat} {cs cs' : Array Value} {e : TypeId} {fr : Nat × Nat} (hi : L[i]? = some (pts b (.cells cs e fr))) :
   On W0 (L.set i (pts b (.cells cs' e fr))) (w.setRow b cs') := by
 have hb := H.block i hi
 refine H.set i hi rfl rfl rfl (size_setRow _ _ _) ?_ (fun k hk => setRow_other w b k _ hk)
 exact setRow_heap w b cs cs' e fr hb
end
def old (W0 : World) : HProp := fun h => ∀ b, b < W0.heap.size → h b = W0.heap[b]?
theorem old_mono (W0 : World) : Mono (old W0) := fun h k s H b hb => by
 obtain ⟨o, ho⟩ : ∃ o, W0.heap[b]? = some o := ⟨_, Array.getElem?_eq_getElem hb⟩
 rw [ho]
 exact s b o ((H b hb).trans ho)
theorem On.start (W : World) : On W [old W] W := ⟨rfl, rfl, rfl, Nat.le_refl _, ⟨hp W, fun _ => none, (fun _ _ _ _ e => by cases e), Sub.refl _, (fun _ _ e => by cases e), fun _ _ => rfl, trivial⟩⟩
theorem On.below {W0 w : World} {L : List HProp} (H : On W0 L w) (g : Gives L (old W0)) : RowKit.Below W0.heap.size W0 w := by
 have h := H.gives g
 exact ⟨H.os, H.tape, H.output, H.size, fun k hk => h k hk⟩
end Go.Sl
namespace Go.Sl
open Go
abbrev Env := Nat → Value
def upd (env : Env) (d : Nat) (v : Value) : Env := fun t => match Nat.beq t d with | true => v | false => env t
def updo (env : Env) (d : Option Nat) (v : Value) : Env := match d with | some d => upd env d v | none => env
def evo (env : Env) : Operand → Value
 | .tmp t => env t
 | .const v => v
 | .global g => .pointer (some ⟨g, 0, none⟩)
 | .func f => .func (.func f) #[] #[]
def nthV : List Value → Nat → Value
 | [], _ => undef
 | v :: _, 0 => v
 | _ :: l, n + 1 => nthV l n
def mkE (junk : Env) : List (Nat × Value) → Env
 | [], t => junk t
 | (d, v) :: l, t => match Nat.beq t d with | true => v | false => mkE junk l t
def AllE (env : Env) : List (Nat × Value) → Prop
 | [] => True
 | (d, v) :: l => env d = v ∧ AllE env l
theorem mkE_of {env : Env} : ∀ {l : List (Nat × Value)}, AllE env l → env = mkE env l := by
 intro l
 induction l with
 | nil => intro _; funext t; rfl
 | cons p l ih =>
   obtain ⟨d, v⟩ := p
   intro h
   obtain ⟨h1, h2⟩ := h
   funext t
   unfold mkE
   cases hb : Nat.beq t d with
   | true => have := Nat.eq_of_beq_eq_true hb; subst this; exact h1
   | false => exact congrFun (ih h2) t
structure Rel (N : Nat) (a : Act) (env : Env) : Prop where
 size : a.tmps.size = N
 get : ∀ t, a.tmps.getD t undef = env t
 defers : a.defers = []
theorem upd_same (env : Env) (d : Nat) (v : Value) : upd env d v d = v := by simp [upd]
theorem upd_other (env : Env) {d t : Nat} (v : Value) (h : t ≠ d) : upd env d v t = env t := by
 unfold upd
 have : Nat.beq t d = false := by rw [← Bool.not_eq_true]; intro e; exact h (Nat.eq_of_beq_eq_true e)
 rw [this]
theorem Rel.eval {N : Nat} {a : Act} {env : Env} (r : Rel N a env) : a.eval = evo env := by
 funext x
 cases x with
 | tmp t => exact r.get t
 | _ => rfl
theorem Rel.put {N : Nat} {a : Act} {env : Env} (r : Rel N a env) {d : Nat} (hd : Nat.ble (d + 1) N = true) (v : Value) : Rel N (a.put (some d) v) (upd env d v) := by
 have hlt : d < a.tmps.size := by rw [r.size]; exact Nat.le_of_ble_eq_true hd
 refine ⟨by simp [Act.put, r.size], fun t => ?_, r.defers⟩
 by_cases h : t = d
 · subst h; rw [upd_same]; simp [Act.put, hlt]
 rw [upd_other _ _ h, ← r.get t]
 simp [Act.put, Array.getElem?_setIfInBounds_ne (Ne.symm h)]
def inN (N : Nat) : Option Nat → Bool
 | none => true
 | some d => Nat.ble (d + 1) N
theorem Rel.puto {N : Nat} {a : Act} {env : Env} (r : Rel N a env) {d : Option Nat} (hd : inN N d = true) (v : Value) : Rel N (a.put d v) (updo env d v) := by
 cases d with
 | none => exact r
 | some d => exact r.put hd v
def yieldedE (ops : Array Oper) (env : Env) (j : Nat) : Option Bool :=
 match (ops[j]?).bind (·.dst) with
 | some t => (match env t with | .bool b => some b | _ => none)
 | none => none
theorem Rel.yielded {N : Nat} {a : Act} {env : Env} (r : Rel N a env) (ops : Array Oper) (j : Nat) : yielded ops a.tmps j = yieldedE ops env j := by
 unfold Go.yielded yieldedE
 cases h : (ops[j]?).bind (·.dst) with
 | none => rfl
 | some t =>
   simp only [Option.bind_some]
   have g := r.get t
   cases ht : a.tmps[t]? with
   | none =>
     have : env t = undef := by rw [← g]; simp [ht]
     rw [this]; rfl
   | some v =>
     have : env t = v := by rw [← g]; simp [ht]
     rw [this]
     cases v <;> rfl
def Ret (R : Value → World → Prop) : Ending → World → Prop := fun e w' => ∃ v, e = .returned v ∧ R v w'
def Eff (P : Program) (ρ : Operand → Value) (o : Oper) (w : World) (R : Value → World → Prop) : Prop :=
 (∃ v w', (execOp ρ o).run P w = .ok (.value v) w' ∧ R v w') ∨ (∃ w', (execOp ρ o).run P w = .ok .skip w' ∧ R undef w') ∨
 (∃ f args w1, (execOp ρ o).run P w = .ok (.enter f args) w1 ∧ Calls P f args w1 (Ret R))
section
variable {P : Program} {N : Nat} {ops : Array Oper} {K : Env → World → Prop} {env : Env} {w : World} {rest : List Oper} {o : Oper}
def liftK (N : Nat) (K : Env → World → Prop) : Exit → Act → World → Prop := fun e a w => e = .normal ∧ ∃ env, Rel N a env ∧ K env w
def WL (P : Program) (N : Nat) (ops : Array Oper) (K : Env → World → Prop) (l : List Oper) (env : Env) (w : World) : Prop :=
 ∀ a, Rel N a env → wpList P ops (liftK N K) l a w
theorem WL.nil (h : K env w) : WL P N ops K [] env w := fun a r => ⟨rfl, env, r, h⟩
theorem WL.val {v : Value} {w' : World} (hr : (execOp (evo env) o).run P w = .ok (.value v) w') (hw : Region.wanted o (yieldedE ops env) = true) (hd : inN N o.dst = true)
   (k : WL P N ops K rest (updo env o.dst v) w') : WL P N ops K (o :: rest) env w := fun a r => by
 unfold wpList
 have hy : yielded ops a.tmps = yieldedE ops env := funext fun j => r.yielded ops j
 rw [hy, if_pos hw]
 refine .inl ?_
 unfold Oper.wp
 rw [r.eval, hr]
 exact k _ (r.puto hd v)
theorem WL.skip (hw : Region.wanted o (yieldedE ops env) = false) (hd : inN N o.dst = true)
   (k : WL P N ops K rest (updo env o.dst undef) w) : WL P N ops K (o :: rest) env w := fun a r => by
 unfold wpList
 have hy : yielded ops a.tmps = yieldedE ops env := funext fun j => r.yielded ops j
 rw [hy, hw]
 exact k _ (r.puto hd undef)
theorem Eff.wp {R : Value → World → Prop} {a : Act} {K' : Act → World → Prop} {Q' : Exit → Act → World → Prop} (he : Eff P (evo env) o w R) (r : Rel N a env)
   (k : ∀ v w', R v w' → K' (a.put o.dst v) w') : o.wp P a w K' Q' := by
 unfold Oper.wp
 rw [r.eval]
 rcases he with ⟨v, w', hr, hR⟩ | ⟨w', hr, hR⟩ | ⟨f, args, w1, hr, hc⟩
 · rw [hr]; exact k v w' hR
 · rw [hr]; exact k undef w' hR
 rw [hr]
 refine Calls.mono hc ?_
 rintro e w' ⟨v, rfl, hR⟩
 exact k v w' hR
theorem WL.eff {R : Value → World → Prop} (he : Eff P (evo env) o w R) (hw : Region.wanted o (yieldedE ops env) = true) (hd : inN N o.dst = true)
   (k : ∀ v w', R v w' → WL P N ops K rest (updo env o.dst v) w') : WL P N ops K (o :: rest) env w := fun a r => by
 unfold wpList
 have hy : yielded ops a.tmps = yieldedE ops env := funext fun j => r.yielded ops j
 rw [hy, if_pos hw]
 exact .inl (he.wp r fun v w' hR => k v w' hR _ (r.puto hd v))
end
section
variable {P : Program} {N : Nat} {env : Env} {w : World}
def liftQ (N : Nat) (Q : Exit → Env → World → Prop) : Exit → Act → World → Prop := fun e a w => ∃ env, Rel N a env ∧ Q e env w
def W (P : Program) (N : Nat) (c : Code) (Q : Exit → Env → World → Prop) (env : Env) (w : World) : Prop :=
 ∀ a, Rel N a env → c.wp P (liftQ N Q) a w
@[reducible] def thenQ (P : Program) (N : Nat) (b : Code) (Q : Exit → Env → World → Prop) : Exit → Env → World → Prop
 | .normal, env, w => W P N b Q env w
 | e, env, w => Q e env w
@[reducible] def blockQ (id : Nat) (Q : Exit → Env → World → Prop) : Exit → Env → World → Prop
 | .exit i, env, w => match Nat.beq i id with | true => Q .normal env w | false => Q (.exit i) env w
 | e, env, w => Q e env w
variable {Q Q' : Exit → Env → World → Prop}
theorem W.mono {c : Code} (h : W P N c Q env w) (i : ∀ e env w, Q e env w → Q' e env w) : W P N c Q' env w := fun a r =>
 wp_mono (h a r) fun e a' w' ⟨env', r', q⟩ => ⟨env', r', i _ _ _ q⟩
theorem W.seq {x y : Code} (h : W P N x (thenQ P N y Q) env w) : W P N (.seq x y) Q env w := fun a r => by
 refine wp_seq (wp_mono (h a r) ?_)
 rintro e a' w' ⟨env', r', q⟩
 cases e with
 | normal => exact q a' r'
 | _ => exact ⟨env', r', q⟩
theorem W.skip (h : Q .normal env w) : W P N .skip Q env w := fun _ r => wp_skip ⟨env, r, h⟩
theorem W.label {l : Nat} (h : Q .normal env w) : W P N (.label l) Q env w := fun _ r => wp_label ⟨env, r, h⟩
theorem W.exit {id : Nat} (h : Q (.exit id) env w) : W P N (.exit id) Q env w := fun _ r => wp_exit ⟨env, r, h⟩
theorem W.ret (h : Q .ret env w) : W P N .ret Q env w := fun _ r => wp_ret ⟨env, r, h⟩
theorem W.block {id : Nat} {c : Code} (h : W P N c (blockQ id Q) env w) : W P N (.block id c) Q env w := fun a r => by
 refine wp_block (wp_mono (h a r) ?_)
 rintro e a' w' ⟨env', r', q⟩
 cases e with
 | exit i =>
   simp only [Exit.inBlock]
   by_cases hi : i = id
   · subst hi; simp only [blockQ, Nat.beq_refl] at q; rw [if_pos rfl]; exact ⟨env', r', q⟩
   have hb : Nat.beq i id = false := by rw [← Bool.not_eq_true]; intro e; exact hi (Nat.eq_of_beq_eq_true e)
   simp only [blockQ, hb] at q; rw [if_neg hi]; exact ⟨env', r', q⟩
 | _ => exact ⟨env', r', q⟩
theorem W.cond {c : Operand} {x y : Code} (b : Bool) (hc : evo env c = .bool b) (h : W P N (if b then x else y) Q env w) : W P N (.cond c x y) Q env w := fun a r =>
 wp_cond (by rw [r.eval]; exact hc) (h a r)
theorem W.condT {c : Operand} {x y : Code} (hc : evo env c = .bool true) (h : W P N x Q env w) : W P N (.cond c x y) Q env w := W.cond true hc h
theorem W.condF {c : Operand} {x y : Code} (hc : evo env c = .bool false) (h : W P N y Q env w) : W P N (.cond c x y) Q env w := W.cond false hc h
theorem W.condIf {c : Operand} {x y : Code} {p : Prop} [Decidable p] (hc : evo env c = .bool (decide p)) (ht : p → W P N x Q env w) (hf : ¬ p → W P N y Q env w) : W P N (.cond c x y) Q env w := by
 by_cases h : p
 · exact W.condT (by rw [hc]; simp [h]) (ht h)
 exact W.condF (by rw [hc]; simp [h]) (hf h)
theorem W.condB {c : Operand} {x y : Code} {b : Bool} (hc : evo env c = .bool b) (ht : b = true → W P N x Q env w) (hf : b = false → W P N y Q env w) : W P N (.cond c x y) Q env w := by
 cases b
 · exact W.condF hc (hf rfl)
 exact W.condT hc (ht rfl)
theorem W.region {id : Nat} {l : List Oper} (h : WL P N l.toArray (fun env' w' => Q .normal env' w') l env w) : W P N (.region id l.toArray false) Q env w := fun a r => by
 refine wp_region_lit ?_
 have := h a r
 refine wpList_weaken ?_ l a w this
 rintro e a' w' ⟨rfl, env', r', k⟩
 exact ⟨env', r', k⟩
where
 wpList_weaken {P : Program} {ops : Array Oper} {Q Q' : Exit → Act → World → Prop} (i : ∀ e a w, Q e a w → Q' e a w) : ∀ (l : List Oper) (a : Act) (w : World), wpList P ops Q l a w → wpList P ops Q' l a w := by
   intro l
   induction l with
   | nil => exact fun a w h => i _ _ _ h
   | cons o rest ih =>
     intro a w h
     unfold wpList at h ⊢
     split
     · rename_i hw
       rw [if_pos hw] at h
       refine h.imp (fun h => ?_) (fun ⟨h1, a', w', h2⟩ => ⟨h1, a', w', i _ _ _ h2⟩)
       unfold Oper.wp at h ⊢
       generalize (execOp a.eval o).run P w = r at h ⊢
       cases r with
       | ok n w' =>
         cases n <;> simp only [Oper.upon] at h ⊢ <;>
           first
             | exact ih _ _ h
             | exact Calls.mono h (fun e w'' he => by
                 cases e
                 · exact ih _ _ he
                 · exact i _ _ _ he
                 exact ⟨he.choose, he.choose_spec.choose, i _ _ _ he.choose_spec.choose_spec⟩)
             | exact Rows.mono h (fun _ _ he => ih _ _ he)
       | halt x w' =>
         cases x <;> simp only [Oper.upon] at h ⊢
         exact i _ _ _ h
     rename_i hw
     rw [if_neg hw] at h
     exact ih _ _ h
@[reducible] def thenM (M : Env → World → Prop) (Q : Exit → Env → World → Prop) : Exit → Env → World → Prop
 | .normal, env, w => M env w
 | e, env, w => Q e env w
theorem W.cut {x y : Code} (M : Env → World → Prop) (h : W P N x (thenM M Q) env w) (k : ∀ env w, M env w → W P N y Q env w) : W P N (.seq x y) Q env w :=
 W.seq (W.mono h fun e env w q => by
   cases e with
   | normal => exact k _ _ q
   | _ => exact q)
@[reducible] def loopQ {σ : Type} (I : σ → Env → World → Prop) (m : σ → Nat) (s : σ) (Q : Exit → Env → World → Prop) : Exit → Env → World → Prop
 | .normal, env, w => ∃ s', I s' env w ∧ m s' < m s
 | e, env, w => Q e env w
theorem W.loop {σ : Type} {c : Code} (I : σ → Env → World → Prop) (m : σ → Nat) (s0 : σ) (h0 : I s0 env w)
   (step : ∀ s env w, I s env w → W P N c (loopQ I m s Q) env w) : W P N (.loop c) Q env w := fun a r => by
 refine wp_loop_ghost s0 (fun s a w => ∃ env, Rel N a env ∧ I s env w) m ⟨env, r, h0⟩ ?_
 rintro s a w ⟨env, r, hi⟩
 refine wp_mono (step s env w hi a r) ?_
 rintro e a' w' ⟨env', r', q⟩
 cases e with
 | normal => obtain ⟨s', hi', hm⟩ := q; exact ⟨s', ⟨env', r', hi'⟩, hm⟩
 | _ => exact ⟨env', r', q⟩
where
 wp_loop_ghost {P : Program} {c : Code} {Q : Exit → Act → World → Prop} {a : Act} {w : World} {σ : Type} (s0 : σ) (I : σ → Act → World → Prop) (m : σ → Nat) (h0 : I s0 a w)
     (step : ∀ s a w, I s a w → c.wp P (fun e a' w' => match e with | .normal => ∃ s', I s' a' w' ∧ m s' < m s | e => Q e a' w') a w) : (Code.loop c).wp P Q a w := by
   let good : Nat → Act → World → Prop := fun n a w => ∃ s, I s a w ∧ m s = n
   have key : ∀ n a w, (∃ s, I s a w ∧ m s = n) → ∀ (b : Frame) (k : List Item) (cs : List Frame), ∃ e a' w', Q e a' w' ∧ Arrives P (lone (b.at a (.inLoop c :: k)) cs w) b k cs e a' w' := by
     intro n
     induction n using Nat.strongRecOn with
     | ind n ih =>
       rintro a w ⟨s, hi, hm⟩ b k cs
       obtain ⟨e, a', w', q, arr⟩ := step s a w hi b (.inLoop c :: k) cs
       cases e with
       | normal =>
         obtain ⟨s', hi', hlt⟩ := q
         obtain ⟨e2, a2, w2, q2, arr2⟩ := ih (m s') (by omega) a' w' ⟨s', hi', rfl⟩ b k cs
         exact ⟨e2, a2, w2, q2, .of_steps (.head step_inLoop arr) arr2⟩
       | exit id => exact ⟨_, a', w', q, .of_steps (.one step_inLoop) (.pass (x := .inLoop c) rfl (fun _ _ => .inl (by simp)) arr)⟩
       | goto l => exact ⟨_, a', w', q, .of_steps (.one step_inLoop) (.pass (x := .inLoop c) rfl (fun _ _ => .inl (by simp)) arr)⟩
       | ret => exact ⟨_, a', w', q, .of_steps (.one step_inLoop) (.pass (x := .inLoop c) rfl (fun _ _ => .inl (by simp)) arr)⟩
       | panic ch => exact ⟨_, a', w', q, .of_steps (.one step_inLoop) (.pass (x := .inLoop c) rfl (fun _ _ => .inl (by simp)) arr)⟩
       | outgrown => exact ⟨_, a', w', q, .of_steps (.one step_inLoop) (.pass (x := .inLoop c) rfl (fun _ _ => .inl (by simp)) arr)⟩
   intro b k cs
   obtain ⟨e, a', w', q, arr⟩ := step s0 a w h0 b (.inLoop c :: k) cs
   cases e with
   | normal =>
     obtain ⟨s', hi', hlt⟩ := q
     obtain ⟨e2, a2, w2, q2, arr2⟩ := key (m s') a' w' ⟨s', hi', rfl⟩ b k cs
     exact ⟨e2, a2, w2, q2, .of_steps (.head step_loop arr) arr2⟩
   | exit id => exact ⟨_, a', w', q, .of_steps (.one step_loop) (.pass (x := .inLoop c) rfl (fun _ _ => .inl (by simp)) arr)⟩
   | goto l => exact ⟨_, a', w', q, .of_steps (.one step_loop) (.pass (x := .inLoop c) rfl (fun _ _ => .inl (by simp)) arr)⟩
   | ret => exact ⟨_, a', w', q, .of_steps (.one step_loop) (.pass (x := .inLoop c) rfl (fun _ _ => .inl (by simp)) arr)⟩
   | panic ch => exact ⟨_, a', w', q, .of_steps (.one step_loop) (.pass (x := .inLoop c) rfl (fun _ _ => .inl (by simp)) arr)⟩
   | outgrown => exact ⟨_, a', w', q, .of_steps (.one step_loop) (.pass (x := .inLoop c) rfl (fun _ _ => .inl (by simp)) arr)⟩
def bodyQ (P : Program) (fn : Func) (R : Value → World → Prop) : Exit → Env → World → Prop
 | .normal, env, w | .ret, env, w => ∃ v, (∀ tmps : Array Value, (∀ t, tmps.getD t undef = env t) → (results fn tmps).run P w = .ok v w) ∧ R v w
 | _, _, _ => False
theorem bodyQ.r0 {fn : Func} {R : Value → World → Prop} (h : fn.results = #[]) (hR : R (.tuple #[]) w) : bodyQ P fn R .ret env w :=
 ⟨_, fun tmps _ => results_none h tmps P w, hR⟩
theorem bodyQ.r1 {fn : Func} {R : Value → World → Prop} {t : Nat} {v : Value} (h : fn.results = #[.tmp t]) (hv : env t = v) (hR : R v w) : bodyQ P fn R .ret env w :=
 ⟨_, fun tmps hg => by rw [results_tmp h tmps P w, hg, hv], hR⟩
theorem bodyQ.r2 {fn : Func} {R : Value → World → Prop} {t u : Nat} {v1 v2 : Value} (h : fn.results = #[.tmp t, .tmp u]) (h1 : env t = v1) (h2 : env u = v2) (hR : R (.tuple #[v1, v2]) w) : bodyQ P fn R .ret env w :=
 ⟨_, fun tmps hg => by rw [results_tmp2 h tmps P w, hg, hg, h1, h2], hR⟩
theorem bodyQ.r3 {fn : Func} {R : Value → World → Prop} {t u x : Nat} {v1 v2 v3 : Value} (h : fn.results = #[.tmp t, .tmp u, .tmp x]) (h1 : env t = v1) (h2 : env u = v2) (h3 : env x = v3) (hR : R (.tuple #[v1, v2, v3]) w) : bodyQ P fn R .ret env w :=
 ⟨_, fun tmps hg => by rw [results_tmp3 h tmps P w, hg, hg, hg, h1, h2, h3], hR⟩
theorem bodyQ.fall {fn : Func} {R : Value → World → Prop} (h : bodyQ P fn R .ret env w) : bodyQ P fn R .normal env w := h
theorem enter {f : FuncId} {fn : Func} {c : Code} {args : List Value} {R : Value → World → Prop} (hf : P.funcs[f]? = some fn) (hb : fn.body = some c) (hn : fn.ntmps = N) (hl : Nat.ble args.length N = true)
   (h : W P N c (bodyQ P fn R) (nthV args) w) : Calls P f args.toArray w (Ret R) := by
 refine calls_of_wp hf hb ?_
 have hle : args.length ≤ N := Nat.le_of_ble_eq_true hl
 have r : Rel N { tmps := args.toArray ++ Array.replicate (fn.ntmps - args.toArray.size) undef, defers := [] } (nthV args) := by
   refine ⟨?_, fun t => ?_, rfl⟩
   · simp [hn]; omega
   have nth : ∀ (l : List Value) (t : Nat), nthV l t = l.getD t undef := by
     intro l
     induction l with
     | nil => intro t; simp [nthV]
     | cons v l ih => intro t; cases t with
       | zero => simp [nthV]
       | succ t => simp [nthV, ih]
   rw [nth]
   simp only [Array.getD_eq_getD_getElem?, List.getD_eq_getElem?_getD]
   rw [Array.getElem?_append]
   split
   · simp
   rename_i hge
   simp at hge
   rw [List.getElem?_eq_none hge, Array.getElem?_replicate]
   split <;> rfl
 refine wp_mono (h _ r) ?_
 rintro e a' w' ⟨env', r', q⟩
 cases e with
 | normal => obtain ⟨v, hv, hR⟩ := q; exact ⟨r'.defers, v, hv a'.tmps r'.get, v, rfl, hR⟩
 | ret => obtain ⟨v, hv, hR⟩ := q; exact ⟨r'.defers, v, hv a'.tmps r'.get, v, rfl, hR⟩
 | exit _ => exact q.elim
 | goto _ => exact q.elim
 | panic _ => exact q.elim
 | outgrown => exact q.elim
end
end Go.Sl
namespace Go.Sl
open Go
def waits (ops : Array Oper) (j i : Nat) : Bool := ((Region.before ops).getD j 0).testBit i
def Closed (ops : Array Oper) (listed : Array Bool) : Prop :=
 ∀ k o, listed.getD k false = true → ops[k]? = some o → ∀ e ∈ o.after, Region.binds .any e = true → listed.getD e.on false = true
def closedB (ops : Array Oper) (listed : Array Bool) : Bool :=
 (List.range ops.size).all fun k => !listed.getD k false || match ops[k]? with
   | some o => o.after.all fun e => !Region.binds .any e || listed.getD e.on false
   | none => true
theorem closed_of {ops : Array Oper} {listed : Array Bool} (h : closedB ops listed = true) : Closed ops listed := fun k o hk ho e he hb => by
 have hlt : k < ops.size := (Array.getElem?_eq_some_iff.1 ho).1
 have h1 := List.all_eq_true.1 h k (List.mem_range.2 hlt)
 simp only [hk, ho, Bool.not_true, Bool.false_or] at h1
 have h2 := Array.all_eq_true_iff_forall_mem.1 h1 e he
 simpa [hb] using h2
theorem before_ok (ops : Array Oper) {listed : Array Bool} (hc : Closed ops listed) :
   ∀ k o, ops[k]? = some o → (∀ e ∈ o.after, Region.binds .any e = true → listed.getD e.on false = true) → ∀ i, waits ops k i = true → listed.getD i false = true := by
 have key : ∀ (l : List Oper) (pre : List Oper) (acc : Array Nat), ops.toList = pre ++ l → acc.size = pre.length →
     (∀ k o, ops[k]? = some o → (∀ e ∈ o.after, Region.binds .any e = true → listed.getD e.on false = true) → ∀ i, (acc.getD k 0).testBit i = true → listed.getD i false = true) →
     (∀ k o, ops[k]? = some o → (∀ e ∈ o.after, Region.binds .any e = true → listed.getD e.on false = true) → ∀ i, ((l.foldl (fun acc o => acc.push (o.after.foldl (fun s e => if Region.binds .any e then s ||| 2 ^ e.on ||| acc.getD e.on 0 else s) 0)) acc).getD k 0).testBit i = true → listed.getD i false = true) := by
   intro l
   induction l with
   | nil => intro pre acc _ _ h; exact h
   | cons x l ih =>
     intro pre acc hops hsz h
     simp only [List.foldl_cons]
     refine ih (pre ++ [x]) _ (by simp [hops]) (by simp [hsz]) ?_
     intro k o hk hall i hi
     by_cases hks : k = acc.size
     · subst hks
       have hx : o = x := by
         have : ops[acc.size]? = some x := by rw [← Array.getElem?_toList, hops, hsz]; simp
         rw [this] at hk; exact (Option.some.inj hk).symm
       subst hx
       simp only [Array.getD_eq_getD_getElem?, Array.getElem?_push_size, Option.getD_some] at hi
       have fold : ∀ (es : List Edge) (s : Nat), (∀ e ∈ es, e ∈ o.after) → (s.testBit i = true → listed.getD i false = true) →
           (es.foldl (fun s e => if Region.binds .any e then s ||| 2 ^ e.on ||| acc.getD e.on 0 else s) s).testBit i = true → listed.getD i false = true := by
         intro es
         induction es with
         | nil => intro s _ hs h; exact hs h
         | cons e es ihe =>
           intro s hm hs hf
           simp only [List.foldl_cons] at hf
           refine ihe _ (fun e' he' => hm e' (List.mem_cons_of_mem _ he')) ?_ hf
           intro hb
           by_cases hbind : Region.binds .any e = true
           · rw [if_pos hbind] at hb
             simp only [Nat.testBit_or, Bool.or_eq_true] at hb
             have hlist : listed.getD e.on false = true := hall e (hm e (List.mem_cons_self ..)) hbind
             rcases hb with (hb | hb) | hb
             · exact hs hb
             · rw [Nat.testBit_two_pow] at hb
               have : e.on = i := by simpa using hb
               rw [← this]; exact hlist
             cases hoe : ops[e.on]? with
             | none =>
               have hge : acc.size ≤ e.on := by
                 have h1 : ops.size ≤ e.on := Array.getElem?_eq_none_iff.1 hoe
                 have h2 : acc.size < ops.size := (Array.getElem?_eq_some_iff.1 hk).1
                 omega
               simp [Array.getElem?_eq_none hge] at hb
             | some oe => exact h e.on oe hoe (fun e' he' hb' => hc e.on oe hlist hoe e' he' hb') i hb
           rw [if_neg hbind] at hb; exact hs hb
       rw [← Array.foldl_toList] at hi
       simp only [← Array.getD_eq_getD_getElem?] at hi
       exact fold o.after.toList 0 (fun e he => by simpa using he) (by simp) hi
     rw [Array.getD_eq_getD_getElem?, Array.getElem?_push, if_neg hks, ← Array.getD_eq_getD_getElem?] at hi
     exact h k o hk hall i hi
 intro k o hk hall i hi
 unfold waits Region.before at hi
 rw [← Array.foldl_toList] at hi
 exact key ops.toList [] #[] (by simp) rfl (by intro k o _ _ i hi; simp at hi) k o hk hall i hi
abbrev Owed := List (Nat × (World → Prop))
def owedBy (ops : Array Oper) (j : Nat) (T : Owed) : Owed := T.filter fun p => !waits ops j p.1
def paid (ops : Array Oper) (j : Nat) : Owed → World → Prop
 | [], _ => True
 | (i, S) :: T, w => (match waits ops j i with | true => True | false => S w) ∧ paid ops j T w
section
variable {P : Program} {ops : Array Oper} {Q : Exit → Act → World → Prop}
def wpAnyT (P : Program) (ops : Array Oper) (Q : Exit → Act → World → Prop) : Nat → Owed → Array Bool → Act → World → Prop
 | 0, _, listed, a, w => Region.ready .any ops listed = [] ∧ Q .normal a w
 | fuel + 1, T, listed, a, w =>
   (Region.ready .any ops listed = [] → Q .normal a w) ∧
   ∀ i ∈ Region.ready .any ops listed, wpOp P ops Q i (fun a' w' => paid ops i T w' ∧ wpAnyT P ops Q fuel (owedBy ops i T) (listed.setIfInBounds i true) a' w') a w
theorem wpAny_of_T : ∀ (fuel : Nat) (T : Owed) (listed : Array Bool) (a : Act) (w : World), wpAnyT P ops Q fuel T listed a w → wpAny P .any ops Q fuel listed a w
 | 0, _, _, _, _, h => h
 | fuel + 1, _, _, _, _, h => ⟨h.1, fun i hi => wpOp_mono (fun a' w' h' => wpAny_of_T fuel _ _ a' w' h'.2) (h.2 i hi)⟩
theorem wpAnyT_drop : ∀ (fuel : Nat) (T : Owed) (f : Nat × (World → Prop) → Bool) (listed : Array Bool) (a : Act) (w : World), wpAnyT P ops Q fuel T listed a w → wpAnyT P ops Q fuel (T.filter f) listed a w := by
 intro fuel
 induction fuel with
 | zero => exact fun T f listed a w h => h
 | succ fuel ih =>
   intro T f listed a w h
   refine ⟨h.1, fun j hj => wpOp_mono (fun a' w' h' => ?_) (h.2 j hj)⟩
   obtain ⟨h1, h2⟩ := h'
   refine ⟨?_, ?_⟩
   · clear h2 h
     induction T with
     | nil => trivial
     | cons p T ihT =>
       rw [List.filter_cons]
       split
       · exact ⟨h1.1, ihT h1.2⟩
       exact ihT h1.2
   have e : owedBy ops j (T.filter f) = (owedBy ops j T).filter f := by
     unfold owedBy; rw [List.filter_filter, List.filter_filter]; congr 1; funext p; rw [Bool.and_comm]
   rw [e]
   exact ih _ _ _ _ _ h2
theorem wpAnyT_first {i : Nat} {oi : Oper} {v : Value} {S : World → Prop} (hi : ops[i]? = some oi) (hsel : ∀ (j : Nat) (o : Oper) cs b, ops[j]? = some o → o.op ≠ .select cs b)
   (hQ : ∀ c a w, Q (.panic c) (a.put oi.dst v) w → Q (.panic c) a w) :
   ∀ (fuel : Nat) (T : Owed) (listed : Array Bool) (a : Act) (w : World),
     (∀ j oj, ops[j]? = some oj → j ≠ i → listed.getD j true = false → (∀ e ∈ oj.after, Region.binds .any e = true → e.on ≠ i) → oi.apart ops oj = true) →
     Closed ops listed → i ∈ Region.ready .any ops listed → YieldsIf P ops S oi v a → S w → paid ops i T w →
     wpAnyT P ops Q fuel ((i, S) :: T) (listed.setIfInBounds i true) (a.put oi.dst v) w → wpAnyT P ops Q (fuel + 1) T listed a w := by
 have here : ∀ (fuel : Nat) (T : Owed) (listed : Array Bool) (a : Act) (w : World), YieldsIf P ops S oi v a → S w → paid ops i T w →
     wpAnyT P ops Q fuel ((i, S) :: T) (listed.setIfInBounds i true) (a.put oi.dst v) w →
     wpOp P ops Q i (fun a' w' => paid ops i T w' ∧ wpAnyT P ops Q fuel (owedBy ops i T) (listed.setIfInBounds i true) a' w') a w := by
   intro fuel T listed a w hy hS hp H
   refine hy.wpOp hi hS ⟨hp, ?_⟩
   by_cases hii : waits ops i i = true
   · have e : owedBy ops i T = ((i, S) :: T).filter (fun p => !waits ops i p.1) := by unfold owedBy; rw [List.filter_cons]; simp [hii]
     rw [e]; exact wpAnyT_drop _ _ _ _ _ _ H
   have h2 := wpAnyT_drop _ _ (fun p => !waits ops i p.1) _ _ _ H
   rw [List.filter_cons] at h2
   simp only [hii, Bool.not_false, if_true] at h2
   have tailOf : ∀ (fuel : Nat) (x : Nat × (World → Prop)) (T : Owed) (listed : Array Bool) (a : Act) (w : World), wpAnyT P ops Q fuel (x :: T) listed a w → wpAnyT P ops Q fuel T listed a w := by
     intro fuel
     induction fuel with
     | zero => exact fun x T listed a w h => h
     | succ fuel ih =>
       intro x T listed a w h
       refine ⟨h.1, fun j hj => wpOp_mono (fun a' w' h' => ?_) (h.2 j hj)⟩
       obtain ⟨h1, h2⟩ := h'
       refine ⟨h1.2, ?_⟩
       unfold owedBy at h2 ⊢
       rw [List.filter_cons] at h2
       split at h2
       · exact ih _ _ _ _ _ h2
       exact h2
   exact tailOf _ _ _ _ _ _ h2
 intro fuel
 induction fuel with
 | zero =>
   intro T listed a w _ _ hr hy hS hp H
   refine ⟨fun h => (by rw [h] at hr; cases hr), fun j hj => ?_⟩
   by_cases hji : j = i
   · subst hji; exact here 0 T listed a w hy hS hp H
   have := ready_mono hj hji
   rw [H.1] at this
   cases this
 | succ fuel ih =>
   intro T listed a w hfree hc hr hy hS hp H
   refine ⟨fun h => (by rw [h] at hr; cases hr), fun j hj => ?_⟩
   by_cases hji : j = i
   · subst hji; exact here (fuel + 1) T listed a w hy hS hp H
   have h1 := H.2 j (ready_mono hj hji)
   obtain ⟨hjun, oj, hoj, hall⟩ := mem_ready.1 hj
   have hiun : listed.getD i false = false := by
     have h0 := (mem_ready.1 hr).1
     rcases Nat.lt_or_ge i listed.size with h' | h'
     · simp [h'] at h0 ⊢; exact h0
     simp [Array.getElem?_eq_none h'] at h0
   have hnot : ∀ e ∈ oj.after, Region.binds .any e = true → e.on ≠ i := fun e he hb heq => by
     have h1 := hall e he hb
     rw [heq, hiun] at h1
     cases h1
   have hw : waits ops j i = false := by
     rw [← Bool.not_eq_true]
     intro hwt
     have := before_ok ops hc j oj hoj hall i hwt
     rw [hiun] at this
     cases this
   have h2 := wpOp_putIf hoj (hfree j oj hoj hji hjun hnot) (fun cs b => hsel i oi cs b hi) (fun cs b => hsel j oj cs b hoj) hQ hy h1
   have hfree' : ∀ k ok, ops[k]? = some ok → k ≠ i → (listed.setIfInBounds j true).getD k true = false →
       (∀ e ∈ ok.after, Region.binds .any e = true → e.on ≠ i) → oi.apart ops ok = true := fun k ok hk hki hun hno => by
     refine hfree k ok hk hki ?_ hno
     by_cases hjk : j = k
     · subst hjk; exact hjun
     rw [getD_set_ne true hjk] at hun; exact hun
   have hc' : Closed ops (listed.setIfInBounds j true) := fun k o hk ho e he hb => by
     refine getD_set_true ?_
     by_cases hjk : j = k
     · subst hjk; rw [hoj] at ho; cases ho; exact hall e he hb
     rw [getD_set_ne false hjk] at hk; exact hc k o hk ho e he hb
   refine wpOp_mono (fun a' w' h3 => ?_) h2
   obtain ⟨hy', hpaid, hrest⟩ := h3
   have hpd : S w' ∧ paid ops j T w' := by
     have := hpaid
     simp only [paid, hw] at this
     exact this
   refine ⟨hpd.2, ih (owedBy ops j T) (listed.setIfInBounds j true) a' w' hfree' hc' (ready_mono hr (Ne.symm hji)) hy' hpd.1 ?_ ?_⟩
   · have sub : ∀ (T : Owed), paid ops j T w' → paid ops i (owedBy ops j T) w' := by
       intro T
       induction T with
       | nil => intro _; trivial
       | cons p T ihT =>
         intro hp
         unfold owedBy
         rw [List.filter_cons]
         split
         · rename_i hpj
           refine ⟨?_, ihT hp.2⟩
           have h0 := hp.1
           have : waits ops j p.1 = false := by simpa using hpj
           rw [this] at h0
           split
           · trivial
           exact h0
         exact ihT hp.2
     exact sub T hpd.2
   have e : owedBy ops j ((i, S) :: T) = (i, S) :: owedBy ops j T := by
     unfold owedBy; rw [List.filter_cons]; simp [hw]
   rw [e] at hrest
   rw [Array.setIfInBounds_comm _ _ hji]
   exact hrest
end
section
variable {P : Program} {N : Nat} {ops : Array Oper} {K : Env → World → Prop} {env : Env} {w : World} {T : Owed} {fuel : Nat} {listed : Array Bool}
@[reducible] def keepM : List Bool → Owed → Owed
 | true :: bs, p :: T => p :: keepM bs T
 | false :: bs, _ :: T => keepM bs T
 | _, _ => []
@[reducible] def AllOwed : Owed → World → Prop
 | [], _ => True
 | (_, S) :: T, w => S w ∧ AllOwed T w
theorem paid_of : ∀ {T : Owed} {i : Nat}, AllOwed (owedBy ops i T) w → paid ops i T w := by
 intro T
 induction T with
 | nil => intro i _; trivial
 | cons p T ih =>
   intro i h
   unfold owedBy at h
   rw [List.filter_cons] at h
   split at h
   · rename_i hp
     refine ⟨?_, ih h.2⟩
     split
     · trivial
     exact h.1
   rename_i hp
   refine ⟨?_, ih h⟩
   have : waits ops i p.1 = true := by simpa using hp
   rw [this]; trivial
theorem AllOwed.filter {f : Nat × (World → Prop) → Bool} : ∀ {T : Owed}, AllOwed T w → AllOwed (T.filter f) w := by
 intro T
 induction T with
 | nil => exact fun h => h
 | cons p T ih =>
   intro h
   rw [List.filter_cons]
   split
   · exact ⟨h.1, ih h.2⟩
   exact ih h.2
def WT (P : Program) (N : Nat) (ops : Array Oper) (K : Env → World → Prop) (fuel : Nat) (T : Owed) (listed : Array Bool) (env : Env) (w : World) : Prop :=
 AllOwed T w → ∀ a, Rel N a env → wpAnyT P ops (liftK N K) fuel T listed a w
theorem W.draw {Q : Exit → Env → World → Prop} {id : Nat} {l : List Oper} {W0 : World} {L : List HProp} (hm : P.follows .mixedOrders = true) (hO : On W0 L w)
   (h : ∀ w', On W0 L w' → WT P N l.toArray (fun env' w' => Q .normal env' w') l.length [] (Array.replicate l.length false) env w') : W P N (.region id l.toArray true) Q env w := fun a r => by
 refine wp_region_any hm ?_
 have := h w.drew hO.drew trivial a r
 have h2 := wpAny_of_T _ _ _ _ _ this
 have e : l.toArray.size = l.length := by simp
 rw [e]
 refine weaken ?_ _ _ _ _ h2
 rintro e a' w' ⟨rfl, env', r', k⟩
 exact ⟨env', r', k⟩
where
 weaken {P : Program} {ops : Array Oper} {Q Q' : Exit → Act → World → Prop} (i : ∀ e a w, Q e a w → Q' e a w) : ∀ (fuel : Nat) (listed : Array Bool) (a : Act) (w : World), wpAny P .any ops Q fuel listed a w → wpAny P .any ops Q' fuel listed a w := by
   intro fuel
   induction fuel with
   | zero => exact fun listed a w h => ⟨h.1, i _ _ _ h.2⟩
   | succ fuel ih =>
     intro listed a w h
     refine ⟨fun e => i _ _ _ (h.1 e), fun j hj => ?_⟩
     have := h.2 j hj
     unfold wpOp at this ⊢
     cases ho : ops[j]? with
     | none => rw [ho] at this; exact ih _ _ _ this
     | some o =>
       simp only [ho] at this ⊢
       split
       · rename_i hw
         rw [if_pos hw] at this
         refine this.imp (fun h => ?_) (fun ⟨h1, a', w', h2⟩ => ⟨h1, a', w', i _ _ _ h2⟩)
         unfold Oper.wp at h ⊢
         generalize (execOp a.eval o).run P w = r at h ⊢
         cases r with
         | ok n w' =>
           cases n <;> simp only [Oper.upon] at h ⊢ <;>
             first
               | exact ih _ _ _ h
               | exact Calls.mono h (fun e w'' he => by
                   cases e
                   · exact ih _ _ _ he
                   · exact i _ _ _ he
                   exact ⟨he.choose, he.choose_spec.choose, i _ _ _ he.choose_spec.choose_spec⟩)
               | exact Rows.mono h (fun _ _ he => ih _ _ _ he)
         | halt x w' =>
           cases x <;> simp only [Oper.upon] at h ⊢
           exact i _ _ _ h
       rename_i hw
       rw [if_neg hw] at this
       exact ih _ _ _ this
theorem WT.done (hr : Region.ready .any ops listed = []) (h : K env w) : WT P N ops K fuel T listed env w := fun _ a r => by
 cases fuel with
 | zero => exact ⟨hr, rfl, env, r, h⟩
 | succ f => exact ⟨fun _ => ⟨rfl, env, r, h⟩, by rw [hr]; exact fun i hi => by cases hi⟩
def takes (ops : Array Oper) (listed : Array Bool) (i : Nat) : Bool := Region.noSelect ops && Region.free .any ops listed i && (Region.ready .any ops listed).contains i && closedB ops listed
theorem WT.take (i : Nat) {oi : Oper} {v : Value} (S : World → Prop) (hi : ops[i]? = some oi) (hb : takes ops listed i = true)
   (hw : Region.wanted oi (yieldedE ops env) = true) (hd : inN N oi.dst = true) (hS : S w) (hv : ∀ w', S w' → (execOp (evo env) oi).run P w' = .ok (.value v) w')
   (k : WT P N ops K fuel ((i, S) :: T) (listed.setIfInBounds i true) (updo env oi.dst v) w) : WT P N ops K (fuel + 1) T listed env w := fun hp a r => by
 simp only [takes, Bool.and_eq_true] at hb
 refine wpAnyT_first (S := S) hi (Region.noSelect_spec hb.1.1.1) (by rintro c a w ⟨h, _⟩; cases h) fuel T listed a w (Region.free_spec hi hb.1.1.2) (closed_of hb.2) (by simpa using hb.1.2) (Or.inl ⟨?_, ?_⟩) hS (paid_of hp.filter) (k ⟨hS, hp⟩ _ (r.puto hd v))
 · have hy : yielded ops a.tmps = yieldedE ops env := funext fun j => r.yielded ops j
   rw [hy]; exact hw
 rw [r.eval]; exact hv
theorem wpAnyT_true (i : Nat) {P : Program} {ops : Array Oper} {Q : Exit → Act → World → Prop} : ∀ (fuel : Nat) (T : Owed) (listed : Array Bool) (a : Act) (w : World), wpAnyT P ops Q fuel T listed a w → wpAnyT P ops Q fuel ((i, fun _ => True) :: T) listed a w := by
 intro fuel
 induction fuel with
 | zero => exact fun T listed a w h => h
 | succ fuel ih =>
   intro T listed a w h
   refine ⟨h.1, fun j hj => wpOp_mono (fun a' w' h' => ?_) (h.2 j hj)⟩
   obtain ⟨h1, h2⟩ := h'
   refine ⟨⟨by split <;> trivial, h1⟩, ?_⟩
   unfold owedBy at h2 ⊢
   rw [List.filter_cons]
   split
   · exact ih _ _ _ _ h2
   exact h2
theorem WT.pure (i : Nat) {oi : Oper} {v : Value} (hi : ops[i]? = some oi) (hb : takes ops listed i = true)
   (hv : ∀ w', (execOp (evo env) oi).run P w' = .ok (.value v) w') (hw : Region.wanted oi (yieldedE ops env) = true) (hd : inN N oi.dst = true)
   (k : WT P N ops K fuel T (listed.setIfInBounds i true) (updo env oi.dst v) w) : WT P N ops K (fuel + 1) T listed env w := by
 refine WT.take i (fun _ => True) hi hb hw hd trivial (fun w' _ => hv w') fun hp a r => ?_
 exact wpAnyT_true i fuel T _ a w (k hp.2 a r)
theorem WT.skip (i : Nat) {oi : Oper} (hi : ops[i]? = some oi) (hb : takes ops listed i = true)
   (hw : Region.wanted oi (yieldedE ops env) = false) (hd : inN N oi.dst = true)
   (k : WT P N ops K fuel T (listed.setIfInBounds i true) (updo env oi.dst undef) w) : WT P N ops K (fuel + 1) T listed env w := fun hp a r => by
 simp only [takes, Bool.and_eq_true] at hb
 refine wpAnyT_first (S := fun _ => True) hi (Region.noSelect_spec hb.1.1.1) (by rintro c a w ⟨h, _⟩; cases h) fuel T listed a w (Region.free_spec hi hb.1.1.2) (closed_of hb.2) (by simpa using hb.1.2) (Or.inr ⟨?_, rfl⟩) trivial (paid_of hp.filter) ?_
 · have hy : yielded ops a.tmps = yieldedE ops env := funext fun j => r.yielded ops j
   rw [hy]; exact hw
 exact wpAnyT_true i fuel T _ _ w (k hp _ (r.puto hd undef))
theorem WT.load1 (i : Nat) {t : TypeId} {x : Operand} {d : Option Nat} {ty : TypeId} {pos : String} {af : Array Edge} {g : Option (Nat × Bool)} {ad : Addr} {v : Value} (hi : ops[i]? = some ⟨d, .load t x, ty, pos, af, g⟩) (hb : takes ops listed i = true)
   (hA : ∀ w, (isAgg t).run P w = .ok false w) (h : evo env x = .pointer (some ad)) (hc : w.cell? ad = some v)
   (hw : Region.wanted ⟨d, .load t x, ty, pos, af, g⟩ (yieldedE ops env) = true) (hd : inN N d = true)
   (k : WT P N ops K fuel ((i, fun w => w.cell? ad = some v) :: T) (listed.setIfInBounds i true) (updo env d v) w) : WT P N ops K (fuel + 1) T listed env w :=
 WT.take i (fun w => w.cell? ad = some v) hi hb hw hd hc (fun w' hc' => by simp [execOp, Instr.loadAt, h, Instr.sureAddr, loadVar, hA, hc']) k
theorem WT.loadN (i : Nat) {t n b o : Nat} {x : Operand} {d : Option Nat} {ty : TypeId} {pos : String} {af : Array Edge} {g : Option (Nat × Bool)} {vs : List Value} (hi : ops[i]? = some ⟨d, .load t x, ty, pos, af, g⟩) (hb : takes ops listed i = true)
   (hA : ∀ w, (isAgg t).run P w = .ok true w) (hS : ∀ w, (sizeOf t).run P w = .ok n w) (h : evo env x = .pointer (some ⟨b, o, none⟩)) (hl : vs.length = n) (hc : ∀ j u, vs[j]? = some u → w.cell? ⟨b, o + j, none⟩ = some u)
   (hw : Region.wanted ⟨d, .load t x, ty, pos, af, g⟩ (yieldedE ops env) = true) (hd : inN N d = true)
   (k : WT P N ops K fuel ((i, fun w => ∀ j u, vs[j]? = some u → w.cell? ⟨b, o + j, none⟩ = some u) :: T) (listed.setIfInBounds i true) (updo env d (.agg vs.toArray)) w) : WT P N ops K (fuel + 1) T listed env w :=
 WT.take i (fun w => ∀ j u, vs[j]? = some u → w.cell? ⟨b, o + j, none⟩ = some u) hi hb hw hd hc (fun w' hc' => by
   have := run_loadCells_list (P := P) w' ⟨b, o, none⟩ vs (fun j v hv => by
     have := hc' j v hv
     unfold Addr.add; split
     · rename_i h0; subst h0; simpa using this
     exact this)
   rw [hl] at this
   simp [execOp, Instr.loadAt, h, Instr.sureAddr, loadVar, hA, hS, this]) k
theorem WT.eff (i : Nat) {oi : Oper} {R : Value → World → Prop} (mask : List Bool) (hi : ops[i]? = some oi) (hr : Region.ready .any ops listed = [i]) (hT : owedBy ops i T = keepM mask T) (he : Eff P (evo env) oi w R)
   (hw : Region.wanted oi (yieldedE ops env) = true) (hd : inN N oi.dst = true)
   (k : ∀ v w', R v w' → AllOwed (keepM mask T) w' ∧ WT P N ops K fuel (keepM mask T) (listed.setIfInBounds i true) (updo env oi.dst v) w') : WT P N ops K (fuel + 1) T listed env w := fun hp a r => by
 rw [← hT] at k
 refine ⟨fun e => absurd (hr ▸ e) (by simp), ?_⟩
 rw [hr]
 intro j hj
 rw [List.mem_singleton] at hj
 subst hj
 unfold wpOp
 have hy : yielded ops a.tmps = yieldedE ops env := funext fun j => r.yielded ops j
 simp only [hi]
 rw [hy, if_pos hw]
 exact .inl (he.wp r fun v w' hR => ⟨paid_of (k v w' hR).1, (k v w' hR).2 (k v w' hR).1 _ (r.puto hd v)⟩)
theorem WT.two (i j : Nat) (hr : Region.ready .any ops listed = [i, j])
   (h1 : ∀ a, Rel N a env → AllOwed T w → wpOp P ops (liftK N K) i (fun a' w' => paid ops i T w' ∧ wpAnyT P ops (liftK N K) fuel (owedBy ops i T) (listed.setIfInBounds i true) a' w') a w)
   (h2 : ∀ a, Rel N a env → AllOwed T w → wpOp P ops (liftK N K) j (fun a' w' => paid ops j T w' ∧ wpAnyT P ops (liftK N K) fuel (owedBy ops j T) (listed.setIfInBounds j true) a' w') a w) : WT P N ops K (fuel + 1) T listed env w := fun hp a r => by
 refine ⟨fun e => absurd (hr ▸ e) (by simp), ?_⟩
 rw [hr]
 intro x hx
 rcases List.mem_cons.1 hx with rfl | hx
 · exact h1 a r hp
 rw [List.mem_singleton] at hx; subst hx; exact h2 a r hp
theorem WT.opOf (i : Nat) {oi : Oper} {R : Value → World → Prop} (mask : List Bool) (hi : ops[i]? = some oi) (hT : owedBy ops i T = keepM mask T) (he : Eff P (evo env) oi w R)
   (hw : Region.wanted oi (yieldedE ops env) = true) (hd : inN N oi.dst = true)
   (k : ∀ v w', R v w' → AllOwed (keepM mask T) w' ∧ WT P N ops K fuel (keepM mask T) (listed.setIfInBounds i true) (updo env oi.dst v) w') :
   ∀ a, Rel N a env → AllOwed T w → wpOp P ops (liftK N K) i (fun a' w' => paid ops i T w' ∧ wpAnyT P ops (liftK N K) fuel (owedBy ops i T) (listed.setIfInBounds i true) a' w') a w := fun a r hp => by
 rw [← hT] at k
 unfold wpOp
 have hy : yielded ops a.tmps = yieldedE ops env := funext fun j => r.yielded ops j
 simp only [hi]
 rw [hy, if_pos hw]
 exact .inl (he.wp r fun v w' hR => ⟨paid_of (k v w' hR).1, (k v w' hR).2 (k v w' hR).1 _ (r.puto hd v)⟩)
end
end Go.Sl
namespace Go.Sl
open Go
abbrev obj (l : List Value) (e : Nat) (fr : Nat × Nat := (0, 0)) : Obj := .cells l.toArray e fr
abbrev blk (b : Nat) (l : List Value) (e : Nat) (fr : Nat × Nat := (0, 0)) : HProp := pts b (obj l e fr)
def free (fr : Nat × Nat) (off : Nat) : Bool := !(Nat.ble fr.1 off && Nat.ble (off + 1) fr.2)
theorem Addr.add_mk (b o n : Nat) : (⟨b, o, none⟩ : Addr).add n = ⟨b, o + n, none⟩ := by unfold Addr.add; split <;> simp_all
section
variable {P : Program} {W0 w : World} {L : List HProp}
theorem frozen_of {w : World} {b : Nat} {l : List Value} {e : Nat} {fr : Nat × Nat} (hb : w.heap[b]? = some (obj l e fr)) {off : Nat} (hf : free fr off = true) : w.frozen? ⟨b, off, none⟩ = false := by
 unfold World.frozen?
 rw [hb]
 simp only [free, Bool.not_eq_true', Bool.and_eq_false_imp, Nat.ble_eq] at hf
 show (decide (fr.1 ≤ off) && decide (off < fr.2)) = false
 rw [Bool.and_eq_false_imp]
 intro h
 have := hf (by simpa using h)
 rw [← Bool.not_eq_true] at this
 rw [Nat.ble_eq] at this
 simp; omega
theorem run_store1 {b off : Nat} {l : List Value} {e : Nat} {fr : Nat × Nat} (hb : w.heap[b]? = some (obj l e fr)) (hlt : off < l.length) (hf : free fr off = true) {v : Value} (hv : v.oneCell' = true) :
   (store ⟨b, off, none⟩ v).run P w = .ok () (w.setCell ⟨b, off, none⟩ v) := by
 rw [run_store P w _ v _ hv]
 have hc : w.cell? ⟨b, off, none⟩ = some l[off] := by rw [cell_of_row w b off _ _ _ hb]; simp [hlt]
 rw [hc, frozen_of hb hf]
 rfl
theorem run_storeCells_fr (g o : Nat) (t : TypeId) (fr : Nat × Nat) : ∀ (vs : List Value) (i : Nat) (cur : Array Value) (w : World), w.heap[g]? = some (.cells cur t fr) → o + i + vs.length ≤ cur.size → (∀ v ∈ vs, v.oneCell' = true) →
   (∀ k, o + i ≤ k → k < o + i + vs.length → free fr k = true) →
   (storeCells ⟨g, o, none⟩ vs i).run P w = .ok () (w.setRow g (cur.toList.take (o + i) ++ vs ++ cur.toList.drop (o + i + vs.length)).toArray)
 | [], i, cur, w, hg, _, _, _ => by
   simp only [storeCells, List.append_nil, List.length_nil, Nat.add_zero, List.take_append_drop, Array.toArray_toList]
   rw [setRow_self w g cur t fr hg]
   rfl
 | v :: rest, i, cur, w, hg, hl, h1, hfr => by
   have hi : o + i < cur.size := by simp at hl; omega
   have hadd : (⟨g, o, none⟩ : Addr).add i = ⟨g, o + i, none⟩ := by unfold Addr.add; split <;> simp_all
   have hcell : w.cell? ⟨g, o + i, none⟩ = some cur[o + i] := by simp [World.cell?, hg, hi]
   have hfro : w.frozen? ⟨g, o + i, none⟩ = false := frozen_of (l := cur.toList) (by simpa [obj] using hg) (hfr (o + i) (Nat.le_refl _) (by simp))
   have hst : (store ((⟨g, o, none⟩ : Addr).add i) v).run P w = .ok () (w.setRow g (cur.setIfInBounds (o + i) v)) := by
     rw [hadd, run_store P w _ v _ (h1 v (by simp)), hcell]
     simp [hfro, setCell_eq_setRow w g (o + i) cur t fr v hg]
   have ih := run_storeCells_fr g o t fr rest (i + 1) (cur.setIfInBounds (o + i) v) (w.setRow g (cur.setIfInBounds (o + i) v)) (setRow_heap w g cur _ t _ hg) (by simp at hl ⊢; omega) (fun x hx => h1 x (by simp [hx])) (fun k h1 h2 => hfr k (by omega) (by simp; omega))
   simp only [storeCells, Sem.run_bind, hst, Result.andThen_ok, ih, setRow_setRow]
   congr 3
   have e := list_seg_step cur.toList (o + i) v rest (by simp at hl ⊢; omega)
   simpa [Array.toList_setIfInBounds, Nat.add_assoc] using e
def splice (l : List Value) (o : Nat) (vs : List Value) : List Value := l.take o ++ vs ++ l.drop (o + vs.length)
theorem splice_length {l : List Value} {o : Nat} {vs : List Value} (h : o + vs.length ≤ l.length) : (splice l o vs).length = l.length := by
 simp only [splice, List.length_append, List.length_take, List.length_drop]; omega
theorem On.setCellL (H : On W0 L w) (i : Nat) {b : Nat} {l : List Value} {e : Nat} {fr : Nat × Nat} (hi : L[i]? = some (blk b l e fr)) (off : Nat) (v : Value) :
   On W0 (L.set i (blk b (l.set off v) e fr)) (w.setCell ⟨b, off, none⟩ v) := by
 have := H.setCell i hi off v
 simpa [blk, obj, List.setIfInBounds_toArray] using this
theorem On.storeCells (H : On W0 L w) (i : Nat) {b : Nat} {l : List Value} {e : Nat} {fr : Nat × Nat} (hi : L[i]? = some (blk b l e fr)) (o : Nat) (vs : List Value) (hl : o + vs.length ≤ l.length) (h1 : ∀ v ∈ vs, v.oneCell' = true)
   (hfr : ∀ k, o ≤ k → k < o + vs.length → free fr k = true) : ∃ w', (storeCells ⟨b, o, none⟩ vs).run P w = .ok () w' ∧ On W0 (L.set i (blk b (splice l o vs) e fr)) w' := by
 have hst := run_storeCells_fr (P := P) b o e fr vs 0 l.toArray w (H.block i hi) (by simpa using hl) h1 (by simpa using hfr)
 refine ⟨_, hst, ?_⟩
 have := H.setRow (cs' := (splice l o vs).toArray) i hi
 simpa [splice] using this
end
def cellH (h : Hp) (b i : Nat) : Option Value := match h b with
 | some (.cells c _ _) => c[i]?
 | _ => none
theorem cellH_mono {h k : Hp} (s : Sub h k) {b i : Nat} {v : Value} (e : cellH h b i = some v) : cellH k b i = some v := by
 unfold cellH at e ⊢
 cases hb : h b with
 | none => rw [hb] at e; cases e
 | some o => rw [s b o hb]; rw [hb] at e; exact e
theorem cellH_hp (w : World) (b i : Nat) : cellH (hp w) b i = w.cell? ⟨b, i, none⟩ := by
 unfold cellH hp World.cell?
 split <;> simp_all
def rowAt (b o : Nat) (xs : List Value) : HProp := fun h => ∀ j u, xs[j]? = some u → cellH h b (o + j) = some u
theorem rowAt_mono (b o : Nat) (xs : List Value) : Mono (rowAt b o xs) := fun h k s H j u e => cellH_mono s (H j u e)
def Cells (size : Nat) (v : Value) (n : Nat) (xs : List Value) : HProp := fun h =>
 xs.length = n * size ∧ ∃ ao cap, v = .slice ao n cap ∧ n ≤ cap ∧ cap ≤ maxLen ∧ (ao = none → cap = 0) ∧ (0 < n → ∃ b o, ao = some ⟨b, o, none⟩ ∧ rowAt b o xs h)
theorem Cells_mono (size : Nat) (v : Value) (n : Nat) (xs : List Value) : Mono (Cells size v n xs) := fun h k s ⟨hl, ao, cap, hv, h1, h2, h3, h4⟩ =>
 ⟨hl, ao, cap, hv, h1, h2, h3, fun hn => let ⟨b, o, e, r⟩ := h4 hn; ⟨b, o, e, rowAt_mono _ _ _ _ _ s r⟩⟩
def Own (size : Nat) (v : Value) (n : Nat) (xs : List Value) : HProp := fun h =>
 xs.length = n * size ∧ ((n = 0 ∧ ∃ ao, v = .slice ao 0 0) ∨
   ∃ g off cap cur e fr, v = .slice (some ⟨g, off, none⟩) n cap ∧ n ≤ cap ∧ cap ≤ maxLen ∧ off + cap * size ≤ cur.length ∧ (cur.drop off).take (n * size) = xs ∧
     (fr.1 = fr.2 ∨ cur.length ≤ fr.1) ∧ h g = some (obj cur e fr))
theorem free_ok {fr : Nat × Nat} {n : Nat} (h : fr.1 = fr.2 ∨ n ≤ fr.1) {k : Nat} (hk : k < n) : free fr k = true := by
 unfold free
 simp only [Bool.not_eq_true', Bool.and_eq_false_imp, Nat.ble_eq]
 intro hle
 rw [← Bool.not_eq_true, Nat.ble_eq]
 omega
theorem Own_mono (size : Nat) (v : Value) (n : Nat) (xs : List Value) : Mono (Own size v n xs) := fun h k s ⟨hl, H⟩ =>
 ⟨hl, H.imp id fun ⟨g, off, cap, cur, e, fr, h1, h2, h3, h4, h5, h6, h7⟩ => ⟨g, off, cap, cur, e, fr, h1, h2, h3, h4, h5, h6, s _ _ h7⟩⟩
theorem Own.cells {size : Nat} {v : Value} {n : Nat} {xs : List Value} {h : Hp} (H : Own size v n xs h) : Cells size v n xs h := by
 obtain ⟨hl, H⟩ := H
 rcases H with ⟨rfl, ao, rfl⟩ | ⟨g, off, cap, cur, e, fr, rfl, h1, h2, h3, h4, h5, h6⟩
 · exact ⟨hl, ao, 0, rfl, Nat.le_refl _, by simp, fun _ => rfl, fun h => absurd h (Nat.lt_irrefl _)⟩
 refine ⟨hl, _, cap, rfl, h1, h2, fun h => (by cases h), fun _ => ⟨g, off, rfl, ?_⟩⟩
 intro j u hj
 unfold cellH
 rw [h6]
 simp only [List.getElem?_toArray]
 rw [← h4] at hj
 rw [List.getElem?_take] at hj
 split at hj
 · rw [List.getElem?_drop] at hj; exact hj
 cases hj
theorem On.cells {W0 w : World} {L : List HProp} (H : On W0 L w) (i : Nat) {size : Nat} {v : Value} {n : Nat} {xs : List Value} (hi : L[i]? = some (Own size v n xs)) : Cells size v n xs (hp w) :=
 (H.get i hi (Own_mono _ _ _ _)).cells
theorem Cells.cell {w : World} {size : Nat} {v : Value} {n : Nat} {xs : List Value} (H : Cells size v n xs (hp w)) {b o c : Nat} (hv : v = .slice (some ⟨b, o, none⟩) n c) (hn : 0 < n) {j : Nat} {u : Value} (hj : xs[j]? = some u) :
   w.cell? ⟨b, o + j, none⟩ = some u := by
 obtain ⟨hl, ao, cap, hv', h1, h2, h3, h4⟩ := H
 obtain ⟨b', o', rfl, r⟩ := h4 hn
 rw [hv] at hv'
 simp only [Value.slice.injEq, Option.some.injEq, Addr.mk.injEq] at hv'
 obtain ⟨⟨rfl, rfl, _⟩, _, _⟩ := hv'
 rw [← cellH_hp]
 exact r j u hj
end Go.Sl
namespace Go.Sl
open Go
section
variable {P : Program} {W0 w : World} {L : List HProp} {ρ : Operand → Value} {d : Option Nat} {ty : TypeId} {pos : String} {af : Array Edge} {g : Option (Nat × Bool)}
theorem run_move {x : Operand} : (execOp ρ ⟨d, .move x, ty, pos, af, g⟩).run P w = .ok (.value (ρ x)) w := rfl
theorem run_assign {x : Operand} : (execOp ρ ⟨d, .assign x, ty, pos, af, g⟩).run P w = .ok (.value (ρ x)) w := rfl
theorem run_pickT {c a b : Operand} (h : ρ c = .bool true) : (execOp ρ ⟨d, .pick c a b, ty, pos, af, g⟩).run P w = .ok (.value (ρ a)) w := by
 simp [execOp, h, asBool]
theorem run_pickF {c a b : Operand} (h : ρ c = .bool false) : (execOp ρ ⟨d, .pick c a b, ty, pos, af, g⟩).run P w = .ok (.value (ρ b)) w := by
 simp [execOp, h, asBool]
theorem run_nilCheck {x : Operand} {a : Addr} (h : ρ x = .pointer (some a)) : (execOp ρ ⟨d, .nilCheck x, ty, pos, af, g⟩).run P w = .ok (.value (.pointer (some a))) w := by
 simp [execOp, h]
theorem run_extract {x : Operand} {i : Nat} {vs : List Value} {v : Value} (h : ρ x = .tuple vs.toArray) (hv : vs[i]? = some v) : (execOp ρ ⟨d, .extract x i, ty, pos, af, g⟩).run P w = .ok (.value v) w := by
 simp [execOp, h, Instr.extract, hv]
theorem run_not {x : Operand} {t : TypeId} {b : Bool} (h : ρ x = .bool b) : (execOp ρ ⟨d, .unOp .not t x, ty, pos, af, g⟩).run P w = .ok (.value (.bool !b)) w := by
 simp [execOp, h, Op.unary]
theorem run_fieldAddr {s fi n b o : Nat} (off : Nat) {x : Operand} {fs : Array Field} {f : Field} (hU : P.underlying s = some (.struct fs)) (hf : fs[fi]? = some f) (hS : ∀ w, (sizeOf f.type).run P w = .ok (n + 1) w) (h : ρ x = .pointer (some ⟨b, o, none⟩)) (ho : f.offset = off) :
   (execOp ρ ⟨d, .fieldAddr s x fi, ty, pos, af, g⟩).run P w = .ok (.value (.pointer (some ⟨b, o + off, none⟩))) w := by
 subst ho
 simp [execOp, Instr.fieldAt, run_underlying hU, hf, h, Instr.sureAddr, fieldPlace, hS, Addr.add_mk]
theorem run_indexAddr {t e size n c b o : Nat} {x y : Operand} {k : IntKind} {i : Int} (hU : P.underlying t = some (.slice e)) (hS : ∀ w, (sizeOf e).run P w = .ok size w)
   (hx : ρ x = .slice (some ⟨b, o, none⟩) n c) (hy : ρ y = .int k i) (h0 : 0 ≤ i) (h1 : i < n) :
   (execOp ρ ⟨d, .indexAddr t x y, ty, pos, af, g⟩).run P w = .ok (.value (.pointer (some ⟨b, o + i.toNat * size, none⟩))) w := by
 simp [execOp, Instr.indexAt, run_underlying hU, hx, hy, asIntOf, hS, h0, h1, Addr.add_mk]
theorem run_indexAddrArr {t e size n b o : Nat} {x y : Operand} {k : IntKind} {i : Int} (hU : P.underlying t = some (.array n e)) (hS : ∀ w, (sizeOf e).run P w = .ok size w)
   (hx : ρ x = .pointer (some ⟨b, o, none⟩)) (hy : ρ y = .int k i) (h0 : 0 ≤ i) (h1 : i < n) :
   (execOp ρ ⟨d, .indexAddr t x y, ty, pos, af, g⟩).run P w = .ok (.value (.pointer (some ⟨b, o + i.toNat * size, none⟩))) w := by
 simp [execOp, Instr.indexAt, run_underlying hU, hx, hy, asIntOf, hS, h0, h1, Addr.add_mk, Instr.sureAddr]
theorem run_load1 {t : TypeId} {x : Operand} {a : Addr} {v : Value} (hA : ∀ w, (isAgg t).run P w = .ok false w) (h : ρ x = .pointer (some a)) (hc : w.cell? a = some v) :
   (execOp ρ ⟨d, .load t x, ty, pos, af, g⟩).run P w = .ok (.value v) w := by
 simp [execOp, Instr.loadAt, h, Instr.sureAddr, loadVar, hA, hc]
theorem run_loadN {t n b o : Nat} {x : Operand} {vs : List Value} (hA : ∀ w, (isAgg t).run P w = .ok true w) (hS : ∀ w, (sizeOf t).run P w = .ok n w) (h : ρ x = .pointer (some ⟨b, o, none⟩)) (hl : vs.length = n)
   (hc : ∀ j u, vs[j]? = some u → w.cell? ⟨b, o + j, none⟩ = some u) :
   (execOp ρ ⟨d, .load t x, ty, pos, af, g⟩).run P w = .ok (.value (.agg vs.toArray)) w := by
 have := run_loadCells_list (P := P) w ⟨b, o, none⟩ vs (fun j v hv => by rw [Addr.add_mk]; exact hc j v hv)
 rw [hl] at this
 simp [execOp, Instr.loadAt, h, Instr.sureAddr, loadVar, hA, hS, this]
theorem cells_one {v : Value} (h : v.oneCell' = true) : v.cells = #[v] := by cases v <;> simp_all [Value.oneCell', Value.cells]
theorem run_storeOne {t b o : Nat} {x y : Operand} {v : Value} {l : List Value} {e : Nat} {fr : Nat × Nat} (hS : ∀ w, (sizeOf t).run P w = .ok 1 w) (h : ρ x = .pointer (some ⟨b, o, none⟩)) (hy : ρ y = v) (hv : v.oneCell' = true)
   (hb : w.heap[b]? = some (obj l e fr)) (hlt : Nat.ble (o + 1) l.length = true) (hf : free fr o = true) :
   (execOp ρ ⟨d, .store t x y, ty, pos, af, g⟩).run P w = .ok .skip (w.setCell ⟨b, o, none⟩ v) := by
 have hst := run_store1 (P := P) hb (Nat.le_of_ble_eq_true hlt) hf hv
 simp [execOp, Instr.storeAt, h, hy, Instr.sureAddr, storeVar, hS, cells_one hv, storeCells, Addr.add_mk, hst]
theorem run_storeN {t n b o i : Nat} {x y : Operand} {vs : List Value} {l : List Value} {e : Nat} {fr : Nat × Nat} (H : On W0 L w) (hi : L[i]? = some (blk b l e fr)) (hS : ∀ w, (sizeOf t).run P w = .ok n w) (h : ρ x = .pointer (some ⟨b, o, none⟩)) (hy : ρ y = .agg vs.toArray) (hn : vs.length = n)
   (hv : ∀ v ∈ vs, v.oneCell' = true) (hlt : o + n ≤ l.length) (hf : ∀ k, o ≤ k → k < o + n → free fr k = true) :
   ∃ w', (execOp ρ ⟨d, .store t x y, ty, pos, af, g⟩).run P w = .ok .skip w' ∧ On W0 (L.set i (blk b (splice l o vs) e fr)) w' := by
 obtain ⟨w', hst, hO⟩ := H.storeCells (P := P) i hi o vs (by omega) hv (by rw [hn]; exact hf)
 refine ⟨w', ?_, hO⟩
 simp [execOp, Instr.storeAt, h, hy, Instr.sureAddr, storeVar, hS, Value.cells, hn, hst]
theorem run_alloc {t : Nat} {z : Value} (hZ : ∀ w, (zeroValue t).run P w = .ok z w) :
   (execOp ρ ⟨d, .alloc t, ty, pos, af, g⟩).run P w = .ok (.value (.pointer (some ⟨w.heap.size, 0, none⟩))) (w.alloc (.cells z.cells t)) := by
 simp [execOp, Instr.alloc, hZ, newVar, newRow]
theorem run_box {t : Nat} {x : Operand} {v : Value} (h : ρ x = v) :
   (execOp ρ ⟨d, .box t x, ty, pos, af, g⟩).run P w = .ok (.value (.pointer (some ⟨w.heap.size, 0, none⟩))) (w.alloc (.cells v.cells t)) := by
 simp [execOp, Instr.box, h, newVar, newRow]
theorem run_build {t : Nat} {ps : Array (Nat × Operand)} {v : Value} (h : ∀ w, (Instr.build t (ps.map fun (i, x) => (i, ρ x))).run P w = .ok v w) :
   (execOp ρ ⟨d, .build t ps, ty, pos, af, g⟩).run P w = .ok (.value v) w := by
 simp [execOp, h]
theorem wrap_in (k : IntKind) {n : Int} (h : k.min ≤ n) (h' : n ≤ k.max) : k.wrap n = n := by
 cases k <;> simp only [IntKind.min, IntKind.max, IntKind.signed, IntKind.bits] at h h' <;> simp at h h'
 · exact IntWalk.i8_in n ⟨by omega, by omega⟩
 · exact IntWalk.i16_in n ⟨by omega, by omega⟩
 · exact IntWalk.i32_in n ⟨by omega, by omega⟩
 · exact IntWalk.i64_in n ⟨by omega, by omega⟩
 · exact IntWalk.u8_in n ⟨by omega, by omega⟩
 · exact IntWalk.u16_in n ⟨by omega, by omega⟩
 · exact IntWalk.u32_in n ⟨by omega, by omega⟩
 exact IntWalk.u64_in n ⟨by omega, by omega⟩
section
variable {t yt : TypeId} {x y : Operand} {k : IntKind} {m n : Int}
theorem run_addW (hx : ρ x = .int k m) (hy : ρ y = .int k n) : (execOp ρ ⟨d, .binOp .add t x y yt, ty, pos, af, g⟩).run P w = .ok (.value (.int k (k.wrap (m + n)))) w := by
 simp [execOp, eqGuard, hx, hy, binOp, Op.intArith]
theorem run_subW (hx : ρ x = .int k m) (hy : ρ y = .int k n) : (execOp ρ ⟨d, .binOp .sub t x y yt, ty, pos, af, g⟩).run P w = .ok (.value (.int k (k.wrap (m - n)))) w := by
 simp [execOp, eqGuard, hx, hy, binOp, Op.intArith]
theorem run_mulW (hx : ρ x = .int k m) (hy : ρ y = .int k n) : (execOp ρ ⟨d, .binOp .mul t x y yt, ty, pos, af, g⟩).run P w = .ok (.value (.int k (k.wrap (m * n)))) w := by
 simp [execOp, eqGuard, hx, hy, binOp, Op.intArith]
theorem run_add (hx : ρ x = .int .i64 m) (hy : ρ y = .int .i64 n) (h : -9223372036854775808 ≤ m + n) (h' : m + n ≤ 9223372036854775807) : (execOp ρ ⟨d, .binOp .add t x y yt, ty, pos, af, g⟩).run P w = .ok (.value (.int .i64 (m + n))) w := by
 rw [run_addW hx hy, IntWalk.i64_in _ ⟨h, h'⟩]
theorem run_sub (hx : ρ x = .int .i64 m) (hy : ρ y = .int .i64 n) (h : -9223372036854775808 ≤ m - n) (h' : m - n ≤ 9223372036854775807) : (execOp ρ ⟨d, .binOp .sub t x y yt, ty, pos, af, g⟩).run P w = .ok (.value (.int .i64 (m - n))) w := by
 rw [run_subW hx hy, IntWalk.i64_in _ ⟨h, h'⟩]
theorem run_addN {m n : Nat} (hx : ρ x = .int .i64 (m : Int)) (hy : ρ y = .int .i64 (n : Int)) (h : m + n ≤ 9223372036854775807) : (execOp ρ ⟨d, .binOp .add t x y yt, ty, pos, af, g⟩).run P w = .ok (.value (.int .i64 ((m + n : Nat) : Int))) w := by
 rw [run_add hx hy (by omega) (by omega)]; rfl
theorem run_incN {m : Nat} (hx : ρ x = .int .i64 (m : Int)) (hy : ρ y = .int .i64 1) (h : m + 1 ≤ 9223372036854775807) : (execOp ρ ⟨d, .binOp .add t x y yt, ty, pos, af, g⟩).run P w = .ok (.value (.int .i64 ((m + 1 : Nat) : Int))) w := by
 rw [run_add hx hy (by omega) (by omega)]; rfl
theorem run_subN {m n : Nat} (hx : ρ x = .int .i64 (m : Int)) (hy : ρ y = .int .i64 (n : Int)) (h : n ≤ m) (h' : m ≤ 9223372036854775807) : (execOp ρ ⟨d, .binOp .sub t x y yt, ty, pos, af, g⟩).run P w = .ok (.value (.int .i64 ((m - n : Nat) : Int))) w := by
 rw [run_sub hx hy (by omega) (by omega), Int.ofNat_sub h]
theorem run_mulN {m n : Nat} (hx : ρ x = .int .i64 (m : Int)) (hy : ρ y = .int .i64 (n : Int)) (h : m * n ≤ 9223372036854775807) : (execOp ρ ⟨d, .binOp .mul t x y yt, ty, pos, af, g⟩).run P w = .ok (.value (.int .i64 ((m * n : Nat) : Int))) w := by
 rw [run_mulW hx hy, IntWalk.i64_in _ (by constructor <;> (rw [← Int.natCast_mul]; omega))]; rfl
theorem run_mul (hx : ρ x = .int .i64 m) (hy : ρ y = .int .i64 n) (h : -9223372036854775808 ≤ m * n) (h' : m * n ≤ 9223372036854775807) : (execOp ρ ⟨d, .binOp .mul t x y yt, ty, pos, af, g⟩).run P w = .ok (.value (.int .i64 (m * n))) w := by
 rw [run_mulW hx hy, IntWalk.i64_in _ ⟨h, h'⟩]
theorem run_quo (hx : ρ x = .int .i64 m) (hy : ρ y = .int .i64 n) (h : 0 ≤ m) (h2 : m ≤ 9223372036854775807) (h' : 1 ≤ n) : (execOp ρ ⟨d, .binOp .quo t x y yt, ty, pos, af, g⟩).run P w = .ok (.value (.int .i64 (m / n))) w := by
 have hn : n ≠ 0 := by omega
 simp [execOp, eqGuard, hx, hy, binOp, Op.intDiv, hn, IntWalk.i64_quo m n ⟨h, h2, h'⟩]
theorem run_rem (hx : ρ x = .int k m) (hy : ρ y = .int k n) (h : 0 ≤ m) (h' : n ≠ 0) : (execOp ρ ⟨d, .binOp .rem t x y yt, ty, pos, af, g⟩).run P w = .ok (.value (.int k (m % n))) w := by
 simp [execOp, eqGuard, hx, hy, binOp, Op.intDiv, h', Int.tmod_eq_emod_of_nonneg h]
theorem run_and (hx : ρ x = .int k m) (hy : ρ y = .int k n) : (execOp ρ ⟨d, .binOp .and t x y yt, ty, pos, af, g⟩).run P w = .ok (.value (.int k (k.wrap (BitVec.ofInt k.bits m &&& BitVec.ofInt k.bits n).toNat))) w := by
 simp [execOp, eqGuard, hx, hy, binOp, Op.intBits]
theorem run_or (hx : ρ x = .int k m) (hy : ρ y = .int k n) : (execOp ρ ⟨d, .binOp .or t x y yt, ty, pos, af, g⟩).run P w = .ok (.value (.int k (k.wrap (BitVec.ofInt k.bits m ||| BitVec.ofInt k.bits n).toNat))) w := by
 simp [execOp, eqGuard, hx, hy, binOp, Op.intBits]
theorem run_xor (hx : ρ x = .int k m) (hy : ρ y = .int k n) : (execOp ρ ⟨d, .binOp .xor t x y yt, ty, pos, af, g⟩).run P w = .ok (.value (.int k (k.wrap (BitVec.ofInt k.bits m ^^^ BitVec.ofInt k.bits n).toNat))) w := by
 simp [execOp, eqGuard, hx, hy, binOp, Op.intBits]
theorem run_andNot (hx : ρ x = .int k m) (hy : ρ y = .int k n) : (execOp ρ ⟨d, .binOp .andNot t x y yt, ty, pos, af, g⟩).run P w = .ok (.value (.int k (k.wrap (BitVec.ofInt k.bits m &&& ~~~BitVec.ofInt k.bits n).toNat))) w := by
 simp [execOp, eqGuard, hx, hy, binOp, Op.intBits]
theorem run_shl {ky : IntKind} (hx : ρ x = .int k m) (hy : ρ y = .int ky n) (h : 0 ≤ n) : (execOp ρ ⟨d, .binOp .shl t x y yt, ty, pos, af, g⟩).run P w = .ok (.value (.int k (k.wrap (m * 2 ^ (min n.toNat k.bits))))) w := by
 have : ¬ n < 0 := by omega
 simp [execOp, eqGuard, hx, hy, binOp, Op.shift, this]
theorem run_shr {ky : IntKind} (hx : ρ x = .int k m) (hy : ρ y = .int ky n) (h : 0 ≤ n) : (execOp ρ ⟨d, .binOp .shr t x y yt, ty, pos, af, g⟩).run P w = .ok (.value (.int k (m.fdiv (2 ^ (min n.toNat k.bits))))) w := by
 have : ¬ n < 0 := by omega
 simp [execOp, eqGuard, hx, hy, binOp, Op.shift, this]
theorem run_lss (hx : ρ x = .int k m) (hy : ρ y = .int k n) : (execOp ρ ⟨d, .binOp .lss t x y yt, ty, pos, af, g⟩).run P w = .ok (.value (.bool (decide (m < n)))) w := by
 simp [execOp, eqGuard, hx, hy, binOp, Op.intCmp]
theorem run_leq (hx : ρ x = .int k m) (hy : ρ y = .int k n) : (execOp ρ ⟨d, .binOp .leq t x y yt, ty, pos, af, g⟩).run P w = .ok (.value (.bool (decide (m ≤ n)))) w := by
 simp [execOp, eqGuard, hx, hy, binOp, Op.intCmp]
theorem run_gtr (hx : ρ x = .int k m) (hy : ρ y = .int k n) : (execOp ρ ⟨d, .binOp .gtr t x y yt, ty, pos, af, g⟩).run P w = .ok (.value (.bool (decide (n < m)))) w := by
 simp [execOp, eqGuard, hx, hy, binOp, Op.intCmp]
theorem run_geq (hx : ρ x = .int k m) (hy : ρ y = .int k n) : (execOp ρ ⟨d, .binOp .geq t x y yt, ty, pos, af, g⟩).run P w = .ok (.value (.bool (decide (n ≤ m)))) w := by
 simp [execOp, eqGuard, hx, hy, binOp, Op.intCmp]
theorem run_eql (hx : ρ x = .int k m) (hy : ρ y = .int k n) : (execOp ρ ⟨d, .binOp .eql t x y yt, ty, pos, af, g⟩).run P w = .ok (.value (.bool (decide (m = n)))) w := by
 simp [execOp, eqGuard, hx, hy, binOp, Op.intCmp]
 rfl
theorem run_neq (hx : ρ x = .int k m) (hy : ρ y = .int k n) : (execOp ρ ⟨d, .binOp .neq t x y yt, ty, pos, af, g⟩).run P w = .ok (.value (.bool (decide (m ≠ n)))) w := by
 simp [execOp, eqGuard, hx, hy, binOp, Op.intCmp, bne]
 rfl
theorem run_lssT (hx : ρ x = .int k m) (hy : ρ y = .int k n) (h : m < n) : (execOp ρ ⟨d, .binOp .lss t x y yt, ty, pos, af, g⟩).run P w = .ok (.value (.bool true)) w := by rw [run_lss hx hy]; simp [h]
theorem run_lssF (hx : ρ x = .int k m) (hy : ρ y = .int k n) (h : ¬ m < n) : (execOp ρ ⟨d, .binOp .lss t x y yt, ty, pos, af, g⟩).run P w = .ok (.value (.bool false)) w := by rw [run_lss hx hy]; simp [h]
theorem run_leqT (hx : ρ x = .int k m) (hy : ρ y = .int k n) (h : m ≤ n) : (execOp ρ ⟨d, .binOp .leq t x y yt, ty, pos, af, g⟩).run P w = .ok (.value (.bool true)) w := by rw [run_leq hx hy]; simp [h]
theorem run_gtrT (hx : ρ x = .int k m) (hy : ρ y = .int k n) (h : n < m) : (execOp ρ ⟨d, .binOp .gtr t x y yt, ty, pos, af, g⟩).run P w = .ok (.value (.bool true)) w := by rw [run_gtr hx hy]; simp [h]
theorem run_gtrF (hx : ρ x = .int k m) (hy : ρ y = .int k n) (h : ¬ n < m) : (execOp ρ ⟨d, .binOp .gtr t x y yt, ty, pos, af, g⟩).run P w = .ok (.value (.bool false)) w := by rw [run_gtr hx hy]; simp [h]
theorem run_geqT (hx : ρ x = .int k m) (hy : ρ y = .int k n) (h : n ≤ m) : (execOp ρ ⟨d, .binOp .geq t x y yt, ty, pos, af, g⟩).run P w = .ok (.value (.bool true)) w := by rw [run_geq hx hy]; simp [h]
theorem run_geqF (hx : ρ x = .int k m) (hy : ρ y = .int k n) (h : ¬ n ≤ m) : (execOp ρ ⟨d, .binOp .geq t x y yt, ty, pos, af, g⟩).run P w = .ok (.value (.bool false)) w := by rw [run_geq hx hy]; simp [h]
theorem run_eqlT (hx : ρ x = .int k m) (hy : ρ y = .int k n) (h : m = n) : (execOp ρ ⟨d, .binOp .eql t x y yt, ty, pos, af, g⟩).run P w = .ok (.value (.bool true)) w := by rw [run_eql hx hy]; simp [h]
theorem run_eqlF (hx : ρ x = .int k m) (hy : ρ y = .int k n) (h : ¬ m = n) : (execOp ρ ⟨d, .binOp .eql t x y yt, ty, pos, af, g⟩).run P w = .ok (.value (.bool false)) w := by rw [run_eql hx hy]; simp [h]
theorem run_neqT (hx : ρ x = .int k m) (hy : ρ y = .int k n) (h : ¬ m = n) : (execOp ρ ⟨d, .binOp .neq t x y yt, ty, pos, af, g⟩).run P w = .ok (.value (.bool true)) w := by rw [run_neq hx hy]; simp [h]
theorem run_neqF (hx : ρ x = .int k m) (hy : ρ y = .int k n) (h : m = n) : (execOp ρ ⟨d, .binOp .neq t x y yt, ty, pos, af, g⟩).run P w = .ok (.value (.bool false)) w := by rw [run_neq hx hy]; simp [h]
end
theorem run_convInt {s t : TypeId} {x : Operand} {k j : IntKind} {n : Int} {ds : TypeDesc} (hs : P.underlying s = some ds) (ht : P.underlying t = some (.int k)) (hx : ρ x = .int j n) :
   (execOp ρ ⟨d, .convert s t x, ty, pos, af, g⟩).run P w = .ok (.value (.int k (k.wrap n))) w := by
 simp [execOp, convert, run_underlying hs, run_underlying ht, hx, Conv.intToInt]
theorem run_convInt64 {s t : TypeId} {x : Operand} {j : IntKind} {n : Int} {ds : TypeDesc} (hs : P.underlying s = some ds) (ht : P.underlying t = some (.int .i64)) (hx : ρ x = .int j n) (h : -9223372036854775808 ≤ n) (h' : n ≤ 9223372036854775807) :
   (execOp ρ ⟨d, .convert s t x, ty, pos, af, g⟩).run P w = .ok (.value (.int .i64 n)) w := by
 rw [run_convInt hs ht hx, IntWalk.i64_in _ ⟨h, h'⟩]
theorem eqIn_bool {t : TypeId} {a b : Bool} (hU : P.underlying t = some .bool) (n : Nat) : (Op.equalIn (n + 1) t (.bool a) (.bool b)).run P w = .ok (a == b) w := by
 simp [Op.equalIn, run_underlying hU]
theorem eqIn_ptrNil {t e : TypeId} {a : Option Addr} (hU : P.underlying t = some (.pointer e)) (n : Nat) : (Op.equalIn (n + 1) t (.pointer a) (.pointer none)).run P w = .ok a.isNone w := by
 cases a <;> simp [Op.equalIn, run_underlying hU]
theorem eqIn_sliceNil {t e : TypeId} {a : Option Addr} {l c : Nat} (hU : P.underlying t = some (.slice e)) (n : Nat) : (Op.equalIn (n + 1) t (.slice a l c) (.slice none 0 0)).run P w = .ok a.isNone w := by
 cases a <;> simp [Op.equalIn, run_underlying hU]
theorem run_neqBool {t yt : TypeId} {x y : Operand} {a b : Bool} (hU : P.underlying t = some .bool) (hx : ρ x = .bool a) (hy : ρ y = .bool b) : (execOp ρ ⟨d, .binOp .neq t x y yt, ty, pos, af, g⟩).run P w = .ok (.value (.bool (!(a == b)))) w := by
 have := eqIn_bool (P := P) (w := w) (a := a) (b := b) hU 9999
 simp [execOp, eqGuard, hx, hy, binOp, Op.equal, Op.maxDepth, this]
theorem list_beq_dec {α : Type} [BEq α] [LawfulBEq α] [DecidableEq α] (a b : List α) : (a == b) = decide (a = b) := by
 rw [Bool.eq_iff_iff]; simp
theorem run_eqlStr {t yt : TypeId} {x y : Operand} {a b : ByteArray} (hx : ρ x = .string a) (hy : ρ y = .string b) : (execOp ρ ⟨d, .binOp .eql t x y yt, ty, pos, af, g⟩).run P w = .ok (.value (.bool (decide (a.toList = b.toList)))) w := by
 simp [execOp, eqGuard, hx, hy, binOp, Op.stringOp, list_beq_dec]
theorem run_neqStr {t yt : TypeId} {x y : Operand} {a b : ByteArray} (hx : ρ x = .string a) (hy : ρ y = .string b) : (execOp ρ ⟨d, .binOp .neq t x y yt, ty, pos, af, g⟩).run P w = .ok (.value (.bool (!decide (a.toList = b.toList)))) w := by
 simp [execOp, eqGuard, hx, hy, binOp, Op.stringOp, list_beq_dec]
theorem run_eqlStrT {t yt : TypeId} {x y : Operand} {a b : ByteArray} (hx : ρ x = .string a) (hy : ρ y = .string b) (h : a.toList = b.toList) : (execOp ρ ⟨d, .binOp .eql t x y yt, ty, pos, af, g⟩).run P w = .ok (.value (.bool true)) w := by rw [run_eqlStr hx hy]; simp [h]
theorem run_eqlPtrNil {t yt e : TypeId} {x y : Operand} {a : Option Addr} (hU : P.underlying t = some (.pointer e)) (hx : ρ x = .pointer a) (hy : ρ y = .pointer none) : (execOp ρ ⟨d, .binOp .eql t x y yt, ty, pos, af, g⟩).run P w = .ok (.value (.bool a.isNone)) w := by
 have := eqIn_ptrNil (P := P) (w := w) (a := a) hU 9999
 simp [execOp, eqGuard, hx, hy, binOp, Op.equal, Op.maxDepth, this]
theorem run_eqlSliceNil {t yt e : TypeId} {x y : Operand} {a : Option Addr} {l c : Nat} (hU : P.underlying t = some (.slice e)) (hx : ρ x = .slice a l c) (hy : ρ y = .slice none 0 0) : (execOp ρ ⟨d, .binOp .eql t x y yt, ty, pos, af, g⟩).run P w = .ok (.value (.bool a.isNone)) w := by
 have := eqIn_sliceNil (P := P) (w := w) (a := a) (l := l) (c := c) hU 9999
 simp [execOp, eqGuard, hx, hy, binOp, Op.equal, Op.maxDepth, this]
theorem run_lenSlice {t n c : Nat} {x : Operand} {e : TypeId} {a : Option Addr} (hU : P.underlying t = some (.slice e)) (hx : ρ x = .slice a n c) :
   (execOp ρ ⟨d, .call { callee := .builtin .len, args := #[x], argTypes := #[t] }, ty, pos, af, g⟩).run P w = .ok (.value (.int .i64 n)) w := by
 simp [execOp, resolve, invoke, builtin, Builtin.len_, run_underlying hU, hx, goInt]
theorem run_lenStr {t : Nat} {x : Operand} {s : ByteArray} (hU : P.underlying t = some .string) (hx : ρ x = .string s) :
   (execOp ρ ⟨d, .call { callee := .builtin .len, args := #[x], argTypes := #[t] }, ty, pos, af, g⟩).run P w = .ok (.value (.int .i64 s.size)) w := by
 simp [execOp, resolve, invoke, builtin, Builtin.len_, run_underlying hU, hx, goInt]
theorem run_call {f : FuncId} {xs : List Operand} {tys : Array TypeId} (h : ∀ args w, (callFunc f args).run P w = .ok (.enter f args) w) :
   (execOp ρ ⟨d, .call { callee := .value (.func f), args := xs.toArray, argTypes := tys }, ty, pos, af, g⟩).run P w = .ok (.enter f (xs.map ρ).toArray) w ∨ ρ (.func f) ≠ .func (.func f) #[] #[] := by
 by_cases hf : ρ (.func f) = .func (.func f) #[] #[]
 · left
   simp [execOp, resolve, hf, Deferred.ofValue, invoke, h]
 exact .inr hf
theorem run_callE {env : Env} {f : FuncId} {xs : List Operand} {tys : Array TypeId} (h : ∀ args w, (callFunc f args).run P w = .ok (.enter f args) w) :
   (execOp (evo env) ⟨d, .call { callee := .value (.func f), args := xs.toArray, argTypes := tys }, ty, pos, af, g⟩).run P w = .ok (.enter f (xs.map (evo env)).toArray) w :=
 (run_call h).resolve_right (fun hn => hn rfl)
theorem run_callV {env : Env} {x : Operand} {f : FuncId} {first captured : Array Value} {xs : List Operand} {tys : Array TypeId} (hx : evo env x = .func (.func f) first captured) (h : ∀ args w, (callFunc f args).run P w = .ok (.enter f args) w) :
   (execOp (evo env) ⟨d, .call { callee := .value x, args := xs.toArray, argTypes := tys }, ty, pos, af, g⟩).run P w = .ok (.enter f (first ++ (xs.map (evo env)).toArray ++ captured)) w := by
 simp [execOp, resolve, hx, Deferred.ofValue, invoke, h]
end
end Go.Sl
namespace Go.Sl
open Go
class HasBlk (L : List HProp) (b : Nat) (l : outParam (List Value)) (e : outParam Nat) (fr : outParam (Nat × Nat)) : Prop where
 out : ∀ h, Sat L h → h b = some (obj l e fr)
instance HasBlk.here {L : List HProp} {b : Nat} {l : List Value} {e : Nat} {fr : Nat × Nat} : HasBlk (blk b l e fr :: L) b l e fr := ⟨fun h H => by
 obtain ⟨h1, s, a⟩ := H.fact; exact s _ _ a⟩
instance (priority := low) HasBlk.there {A : HProp} {L : List HProp} {b : Nat} {l : List Value} {e : Nat} {fr : Nat × Nat} [i : HasBlk L b l e fr] : HasBlk (A :: L) b l e fr := ⟨fun h H => i.out _ H.tail⟩
class Upd (L : List HProp) (b : Nat) (l : outParam (List Value)) (e : outParam Nat) (fr : outParam (Nat × Nat)) (l' : List Value) (L' : outParam (List HProp)) : Prop where
 i : ∃ i, L[i]? = some (blk b l e fr) ∧ L' = L.set i (blk b l' e fr)
instance Upd.here {L : List HProp} {b : Nat} {l l' : List Value} {e : Nat} {fr : Nat × Nat} : Upd (blk b l e fr :: L) b l e fr l' (blk b l' e fr :: L) := ⟨0, rfl, rfl⟩
instance (priority := low) Upd.there {A : HProp} {L L' : List HProp} {b : Nat} {l l' : List Value} {e : Nat} {fr : Nat × Nat} [u : Upd L b l e fr l' L'] : Upd (A :: L) b l e fr l' (A :: L') := ⟨by
 obtain ⟨i, h1, h2⟩ := u.i
 exact ⟨i + 1, by simpa using h1, by rw [h2]; rfl⟩⟩
section
variable {P : Program} {W0 w : World} {L : List HProp} {ρ : Operand → Value} {d : Option Nat} {ty : TypeId} {pos : String} {af : Array Edge} {g : Option (Nat × Bool)}
theorem On.blkB (H : On W0 L w) {b : Nat} {l : List Value} {e : Nat} {fr : Nat × Nat} [i : HasBlk L b l e fr] : w.heap[b]? = some (obj l e fr) := i.out _ H.sat
theorem On.cellB (H : On W0 L w) {b off : Nat} {l : List Value} {e : Nat} {fr : Nat × Nat} {v : Value} [i : HasBlk L b l e fr] (hv : l[off]? = some v) : w.cell? ⟨b, off, none⟩ = some v := by
 rw [cell_of_row w b off _ _ _ (H.blkB (i := i))]; simpa using hv
theorem On.rowB (H : On W0 L w) {b o n : Nat} {l : List Value} {e : Nat} {fr : Nat × Nat} [i : HasBlk L b l e fr] : ∀ j u, ((l.drop o).take n)[j]? = some u → w.cell? ⟨b, o + j, none⟩ = some u := by
 intro j u hj
 rw [List.getElem?_take] at hj
 split at hj
 · rw [List.getElem?_drop] at hj; exact H.cellB (i := i) hj
 cases hj
theorem On.rowV (H : On W0 L w) {b o n : Nat} {l vs : List Value} {e : Nat} {fr : Nat × Nat} [i : HasBlk L b l e fr] (hv : (l.drop o).take n = vs) : ∀ j u, vs[j]? = some u → w.cell? ⟨b, o + j, none⟩ = some u := fun j u hj => H.rowB (i := i) (n := n) j u (by rw [hv]; exact hj)
theorem run_loadB {t n b o : Nat} {x : Operand} {l vs : List Value} {e : Nat} {fr : Nat × Nat} (H : On W0 L w) (hA : ∀ w, (isAgg t).run P w = .ok true w) (hS : ∀ w, (sizeOf t).run P w = .ok n w) (h : ρ x = .pointer (some ⟨b, o, none⟩)) [i : HasBlk L b l e fr]
   (hv : (l.drop o).take n = vs) (hl : vs.length = n) : (execOp ρ ⟨d, .load t x, ty, pos, af, g⟩).run P w = .ok (.value (.agg vs.toArray)) w :=
 run_loadN hA hS h hl (fun j u hj => H.rowB (i := i) (n := n) j u (by rw [hv]; exact hj))
variable {A B C D E F : HProp}
theorem On.p1 (H : On W0 (A :: B :: L) w) : On W0 (B :: A :: L) w := H.imp fun _ h => h.swap
theorem On.p2 (H : On W0 (A :: B :: C :: L) w) : On W0 (C :: A :: B :: L) w := H.pull 2 rfl
theorem On.p3 (H : On W0 (A :: B :: C :: D :: L) w) : On W0 (D :: A :: B :: C :: L) w := H.pull 3 rfl
theorem On.d1 (H : On W0 (A :: B :: L) w) : On W0 (A :: L) w := H.p1.tail
theorem On.head (H : On W0 (A :: L) w) (i : ∀ h, A h → B h) : On W0 (B :: L) w := H.imp fun _ h => h.imp i
theorem On.unexists {ι : Type} {G : ι → HProp} (H : On W0 ((fun h => ∃ x, G x h) :: L) w) : ∃ x, On W0 (G x :: L) w := by
 obtain ⟨h1, h2, d, s1, s2, ⟨x, a⟩, r⟩ := H.sat
 exact ⟨x, H.os, H.output, H.tape, H.size, ⟨h1, h2, d, s1, s2, a, r⟩⟩
theorem eff_store {t b o : Nat} {x y : Operand} {v : Value} {l : List Value} {e : Nat} {fr : Nat × Nat} {L' : List HProp} (H : On W0 L w) (hS : ∀ w, (sizeOf t).run P w = .ok 1 w) (h : ρ x = .pointer (some ⟨b, o, none⟩)) (hy : ρ y = v) (hv : v.oneCell' = true)
   [u : Upd L b l e fr (l.set o v) L'] (hlt : Nat.ble (o + 1) l.length = true) (hf : free fr o = true) :
   Eff P ρ ⟨d, .store t x y, ty, pos, af, g⟩ w (fun _ w' => On W0 L' w') := by
 obtain ⟨i, h1, h2⟩ := u.i
 refine .inr (.inl ⟨_, run_storeOne hS h hy hv (H.block i h1) hlt hf, ?_⟩)
 rw [h2]
 exact H.setCellL i h1 o v
theorem eff_storeN {t n b o : Nat} {x y : Operand} {vs : List Value} {l : List Value} {e : Nat} {fr : Nat × Nat} {L' : List HProp} (H : On W0 L w) (hS : ∀ w, (sizeOf t).run P w = .ok n w) (h : ρ x = .pointer (some ⟨b, o, none⟩)) (hy : ρ y = .agg vs.toArray) (hn : vs.length = n)
   (hv : vs.all (·.oneCell') = true) [u : Upd L b l e fr (splice l o vs) L'] (hlt : Nat.ble (o + n) l.length = true) (hf : ∀ k, o ≤ k → k < o + n → free fr k = true) :
   Eff P ρ ⟨d, .store t x y, ty, pos, af, g⟩ w (fun _ w' => On W0 L' w') := by
 obtain ⟨i, h1, h2⟩ := u.i
 obtain ⟨w', hr, hO⟩ := run_storeN (P := P) (ρ := ρ) (d := d) (ty := ty) (pos := pos) (af := af) (g := g) H h1 hS h hy hn (by simpa using hv) (Nat.le_of_ble_eq_true hlt) hf
 exact .inr (.inl ⟨w', hr, h2 ▸ hO⟩)
theorem eff_storeW {t n b : Nat} {x y : Operand} {vs : List Value} {l : List Value} {e : Nat} {L' : List HProp} (H : On W0 L w) (hS : ∀ w, (sizeOf t).run P w = .ok n w) (h : ρ x = .pointer (some ⟨b, 0, none⟩)) (hy : ρ y = .agg vs.toArray) (hn : vs.length = n)
   (hv : vs.all (·.oneCell') = true) [u : Upd L b l e (0, 0) vs L'] (hl : Nat.beq l.length n = true) :
   Eff P ρ ⟨d, .store t x y, ty, pos, af, g⟩ w (fun _ w' => On W0 L' w') := by
 have hl : l.length = vs.length := by rw [hn]; exact Nat.eq_of_beq_eq_true hl
 have hsp : splice l 0 vs = vs := by simp [splice, hl]
 have u' : Upd L b l e (0, 0) (splice l 0 vs) L' := by rw [hsp]; exact u
 exact eff_storeN (u := u') H hS h hy hn hv (by rw [Nat.ble_eq]; omega) (fun k _ _ => by unfold free; rw [Bool.not_eq_true', Bool.and_eq_false_imp]; intro _; rw [← Bool.not_eq_true, Nat.ble_eq]; show ¬ (k + 1 ≤ 0); omega)
theorem eff_alloc {t : Nat} {z : Value} {l : List Value} (H : On W0 L w) (hZ : ∀ w, (zeroValue t).run P w = .ok z w) (hz : z.cells = l.toArray) :
   Eff P ρ ⟨d, .alloc t, ty, pos, af, g⟩ w (fun v w' => ∃ b, v = .pointer (some ⟨b, 0, none⟩) ∧ On W0 (blk b l t :: L) w') :=
 .inl ⟨_, _, run_alloc hZ, _, rfl, by rw [hz]; exact H.alloc _⟩
theorem eff_box {t : Nat} {x : Operand} {v : Value} {l : List Value} (H : On W0 L w) (h : ρ x = v) (hz : v.cells = l.toArray) :
   Eff P ρ ⟨d, .box t x, ty, pos, af, g⟩ w (fun v w' => ∃ b, v = .pointer (some ⟨b, 0, none⟩) ∧ On W0 (blk b l t :: L) w') :=
 .inl ⟨_, _, run_box h, _, rfl, by rw [hz]; exact H.alloc _⟩
theorem eff_call {env : Env} {f : FuncId} {xs : List Operand} {tys : Array TypeId} {R : Value → World → Prop} (hf : ∀ args w, (callFunc f args).run P w = .ok (.enter f args) w) (hc : Calls P f (xs.map (evo env)).toArray w (Ret R)) :
   Eff P (evo env) ⟨d, .call { callee := .value (.func f), args := xs.toArray, argTypes := tys }, ty, pos, af, g⟩ w R :=
 .inr (.inr ⟨f, _, w, run_callE hf, hc⟩)
def placed (pl : List (Nat × Nat)) : List Value → List (Nat × Value) → List Value
 | z, [] => z
 | z, (i, v) :: ps => placed pl (splice z ((pl[i]?.getD (0, 0)).1) v.cells.toList) ps
def fits (pl : List (Nat × Nat)) (n : Nat) : List (Nat × Value) → Prop
 | [] => True
 | (i, v) :: ps => (∃ off size, pl[i]? = some (off, size) ∧ v.cells.size = size ∧ off + size ≤ n) ∧ fits pl n ps
theorem foldl_splice (z : List Value) (off : Nat) (vs : List Value) : ∀ (k : Nat), off + k + vs.length ≤ z.length →
   (vs.zipIdx k).foldl (fun cs (c, j) => cs.setIfInBounds (off + j) c) z.toArray = (splice z (off + k) vs).toArray := by
 induction vs generalizing z with
 | nil => intro k h; simp [splice]
 | cons v vs ih =>
   intro k h
   simp at h
   simp only [List.zipIdx_cons, List.foldl_cons, List.setIfInBounds_toArray]
   rw [ih (z.set (off + k) v) (k + 1) (by simp; omega)]
   congr 1
   unfold splice
   have := list_seg_step z (off + k) v vs (by omega)
   simpa [Nat.add_assoc] using this
theorem fill_placed (place : Nat → Option (Nat × Nat)) (pl : List (Nat × Nat)) (hp : ∀ i, place i = pl[i]?) : ∀ (ps : List (Nat × Value)) (z : List Value), fits pl z.length ps → Instr.fill place z.toArray ps = some (placed pl z ps).toArray := by
 intro ps
 induction ps with
 | nil => intro z _; rfl
 | cons p ps ih =>
   obtain ⟨i, v⟩ := p
   intro z h
   obtain ⟨⟨off, size, h1, h2, h3⟩, h4⟩ := h
   unfold Instr.fill
   rw [hp, h1]
   have hle : v.cells.toList.length = size := by simpa using h2
   have c : ¬ (v.cells.size ≠ size ∨ off + v.cells.size > z.toArray.size) := by simp [h2]; omega
   simp only [Bool.or_eq_true, decide_eq_true_eq]
   rw [if_neg (by simpa using c)]
   have hf := foldl_splice z off v.cells.toList 0 (by simp at hle ⊢; omega)
   have e : (v.cells.zipIdx.foldl (fun cs (x : Value × Nat) => cs.setIfInBounds (off + x.2) x.1) z.toArray) = (splice z off v.cells.toList).toArray := by
     rw [← Array.foldl_toList]
     simpa using hf
   rw [e, ih _ (by rw [splice_length (by omega)]; exact h4)]
   simp [placed, h1]
theorem run_buildS {t : Nat} {ps : List (Nat × Operand)} {fs : Array Field} {z : List Value} {pl : List (Nat × Nat)} {vs : List (Nat × Value)} {out : List Value}
   (hU : P.underlying t = some (.struct fs)) (hZ : ∀ w, (zeroValue t).run P w = .ok (.agg z.toArray) w) (hP : ∀ w, ((fs.mapM fun f => do pure (f.offset, ← sizeOf f.type) : Sem (Array (Nat × Nat)))).run P w = .ok pl.toArray w)
   (hv : ps.map (fun p => (p.1, ρ p.2)) = vs) (hf : fits pl z.length vs) (ho : placed pl z vs = out) :
   (execOp ρ ⟨d, .build t ps.toArray, ty, pos, af, g⟩).run P w = .ok (.value (.agg out.toArray)) w := by
 have h : ∀ w, (Instr.build t (ps.toArray.map fun (i, x) => (i, ρ x))).run P w = .ok (.agg out.toArray) w := by
   intro w
   have hm : (ps.toArray.map fun (x : Nat × Operand) => (x.1, ρ x.2)).toList = vs := by rw [← hv]; simp
   unfold Instr.build
   simp only [Sem.run_bind, hZ, Result.andThen_ok, run_underlying hU]
   rw [hP]
   simp only [Result.andThen_ok, Value.cells]
   have := fill_placed (fun i => pl.toArray[i]?) pl (by simp) vs z hf
   rw [hm, this, ho]
   rfl
 exact run_build h
theorem eff_buildSlice {t n e size : Nat} {ps : List (Nat × Operand)} {z : Value} {zl : List Value} {pl : List (Nat × Nat)} {vs : List (Nat × Value)} {out : List Value} (H : On W0 L w)
   (hU : P.underlying t = some (.slice e)) (hS : ∀ w, (sizeOf e).run P w = .ok size w) (hZ : ∀ w, (zeroValue e).run P w = .ok z w) (hsmall : n * size ≤ 16777216) (hzl : ((Array.range (n * size)).map fun i => (if n * size = 0 then #[] else z.cells)[i % (if n * size = 0 then #[] else z.cells).size]!) = zl.toArray)
   (hpl : pl = (List.range n).map fun i => (i * size, size))
   (hv : ps.map (fun p => (p.1, ρ p.2)) = vs) (hlt : ∀ p ∈ vs, p.1 < n) (hf : fits pl zl.length vs) (ho : placed pl zl vs = out) :
   Eff P ρ ⟨d, .buildSlice t n ps.toArray, ty, pos, af, g⟩ w (fun v w' => ∃ b, v = .slice (some ⟨b, 0, none⟩) n n ∧ On W0 (blk b out e :: L) w') := by
 refine .inl ⟨.slice (some ⟨w.heap.size, 0, none⟩) n n, w.alloc (obj out e), ?_, _, rfl, H.alloc _⟩
 have hm : (ps.toArray.map fun (x : Nat × Operand) => (x.1, ρ x.2)).toList = vs := by rw [← hv]; simp
 have hsm : ¬ (n * size > 2 ^ 24) := by omega
 have key : ∀ (vs : List (Nat × Value)) (zl : List Value), (∀ p ∈ vs, p.1 < n) → fits pl zl.length vs → Instr.fill (fun i => some (i * size, size)) zl.toArray vs = some (placed pl zl vs).toArray := by
   intro vs
   induction vs with
   | nil => intro zl _ _; rfl
   | cons p ps ih =>
     obtain ⟨i, v⟩ := p
     intro zl hlt h
     obtain ⟨⟨off, size', h1, h2, h3⟩, h4⟩ := h
     have hi : i < n := hlt (i, v) (by simp)
     have hpi : pl[i]? = some (i * size, size) := by rw [hpl]; simp [hi]
     rw [hpi] at h1
     cases h1
     have := fill_placed (fun j => if j = i then some (i * size, size) else none) [] 
     unfold Instr.fill
     have hle : v.cells.toList.length = size := by simpa using h2
     have c : ¬ (v.cells.size ≠ size ∨ i * size + v.cells.size > zl.toArray.size) := by simp [h2]; omega
     simp only [Bool.or_eq_true, decide_eq_true_eq]
     rw [if_neg (by simpa using c)]
     have hf := foldl_splice zl (i * size) v.cells.toList 0 (by simp at hle ⊢; omega)
     have e : (v.cells.zipIdx.foldl (fun cs (x : Value × Nat) => cs.setIfInBounds (i * size + x.2) x.1) zl.toArray) = (splice zl (i * size) v.cells.toList).toArray := by
       rw [← Array.foldl_toList]
       simpa using hf
     rw [e, ih _ (fun q hq => hlt q (List.mem_cons_of_mem _ hq)) (by rw [splice_length (by omega)]; exact h4)]
     simp [placed, hpi]
 have hfill := key vs zl hlt hf
 rw [ho] at hfill
 simp only [execOp, Instr.buildSlice, Sem.run_bind, run_underlying hU, Result.andThen_ok, hS, if_neg hsm]
 by_cases h0 : n * size = 0
 · simp only [h0, if_true] at hzl ⊢
   rw [hm]
   simp only [Sem.run_bind, Sem.run_pure, Result.andThen_ok, hzl, hfill]
   rfl
 simp only [h0, if_false] at hzl ⊢
 rw [hm]
 simp only [Sem.run_bind, Sem.run_pure, Result.andThen_ok, hZ, hzl, hfill]
 rfl
end
end Go.Sl
namespace Go.Sl
open Go
section
variable {P : Program} {W0 w : World} {L : List HProp} {ρ : Operand → Value} {d : Option Nat} {ty : TypeId} {pos : String} {af : Array Edge} {g : Option (Nat × Bool)}
theorem run_firstCells_C {size m : Nat} {y : Value} {ys : List Value} (C : Cells size y m ys (hp w)) : (Builtin.firstCells size m y).run P w = .ok ys.toArray w := by
 obtain ⟨hl, ao, cap, rfl, h1, h2, h3, h4⟩ := C
 by_cases hm : m = 0
 · subst hm
   have : ys = [] := List.eq_nil_of_length_eq_zero (by simpa using hl)
   subst this
   cases ao <;> simp [Builtin.firstCells, loadCells, loadCellsFrom]
 obtain ⟨b, o, rfl, r⟩ := h4 (by omega)
 exact run_firstCells_some (P := P) w size m ⟨b, o, none⟩ m cap ys hl (fun j v hv => by rw [Addr.add_mk, ← cellH_hp]; exact r j v hv)
theorem lenOf_C {size m : Nat} {y : Value} {ys : List Value} {h : Hp} (C : Cells size y m ys h) : (Builtin.lenOf y).run P w = .ok m w := by
 obtain ⟨hl, ao, cap, rfl, _⟩ := C
 simp [Builtin.lenOf]
theorem free0 (k : Nat) : free (0, 0) k = true := by
 unfold free
 rw [show Nat.ble (k + 1) (0, 0).2 = false from rfl, Bool.and_false]
 rfl
def Grown (size : Nat) (n : Nat) (xs : List Value) (W0 : World) (L : List HProp) (v : Value) (w' : World) : Prop :=
 ∃ a c, v = .slice a n c ∧ On W0 (Own size (.slice a n c) n xs :: L) w'
theorem take_splice {l : List Value} {o : Nat} {xs ys : List Value} {k m : Nat} (hk : (l.drop o).take k = xs) (hx : xs.length = k) (hl : o + k + ys.length ≤ l.length) (hm : m = k + ys.length) :
   ((splice l (o + k) ys).drop o).take m = xs ++ ys := by
 subst hm
 unfold splice
 have e1 : l.take (o + k) = l.take o ++ xs := by
   rw [← hk, List.take_add]
 have hlo : (l.take o).length = o := by rw [List.length_take]; omega
 rw [e1]
 simp only [List.append_assoc]
 conv => lhs; arg 2; arg 1; rw [← hlo]
 rw [List.drop_left]
 rw [← List.append_assoc]
 have : k + ys.length = (xs ++ ys).length := by simp [hx]
 rw [this]
 exact List.take_left
theorem Own.openOn {size n : Nat} {v : Value} {xs : List Value} (H : On W0 (Own size v n xs :: L) w) : xs.length = n * size ∧
   ((n = 0 ∧ ∃ ao, v = .slice ao 0 0) ∨ ∃ gb off cap cur e fr, v = .slice (some ⟨gb, off, none⟩) n cap ∧ n ≤ cap ∧ cap ≤ maxLen ∧ off + cap * size ≤ cur.length ∧ (cur.drop off).take (n * size) = xs ∧
     (fr.1 = fr.2 ∨ cur.length ≤ fr.1) ∧ On W0 (blk gb cur e fr :: L) w) := by
 obtain ⟨h1, h2, dd, s1, s2, ⟨hl, a⟩, r⟩ := H.sat
 refine ⟨hl, a.imp id ?_⟩
 rintro ⟨gb, off, cap, cur, e, fr, h3, h4, h5, h6, h7, h8, h9⟩
 exact ⟨gb, off, cap, cur, e, fr, h3, h4, h5, h6, h7, h8, H.os, H.output, H.tape, H.size, h1, h2, dd, s1, s2, h9, r⟩
theorem Own.closeOn {size n : Nat} {gb off cap : Nat} {cur xs : List Value} {e : Nat} {fr : Nat × Nat} (H : On W0 (blk gb cur e fr :: L) w) (hx : xs.length = n * size) (h1 : n ≤ cap) (h2 : cap ≤ maxLen) (h3 : off + cap * size ≤ cur.length)
   (h4 : (cur.drop off).take (n * size) = xs) (h5 : fr.1 = fr.2 ∨ cur.length ≤ fr.1) : On W0 (Own size (.slice (some ⟨gb, off, none⟩) n cap) n xs :: L) w :=
 H.head fun h hb => ⟨hx, .inr ⟨gb, off, cap, cur, e, fr, rfl, h1, h2, h3, h4, h5, hb⟩⟩
theorem append_own {t e size n m bytes : Nat} {v y z : Value} {xs ys : List Value} {i : TypeInfo} {ty : TypeId} (H : On W0 (Own size v n xs :: L) w) (C : Cells size y m ys (hp w))
   (hU : P.underlying t = some (.slice e)) (hI : P.info? e = some i) (hsz : i.size = size) (hby : i.bytes = bytes) (hz : i.zero = some z) (hzs : z.cells.size = size)
   (h63 : n + m ≤ maxLen) (hb : (n + m) * bytes ≤ 140737488355328) (h1c : ∀ u ∈ ys, u.oneCell' = true) :
   ∃ v' w', (Builtin.append_ #[t, t] ty #[v, y]).run P w = .ok v' w' ∧ Grown size (n + m) (xs ++ ys) W0 L v' w' := by
 subst hsz
 subst hby
 have hf := run_firstCells_C (P := P) C
 have hly := lenOf_C (P := P) (w := w) C
 have hylen : ys.length = m * i.size := C.1
 have hO := H.get 0 rfl (Own_mono _ _ _ _)
 have Cx := hO.cells
 have hxlen : xs.length = n * i.size := hO.1
 have hm63 : ((n + m : Nat) : Int) ≤ 9223372036854775807 := by simp only [maxLen] at h63; omega
 have grow : ∀ (ao : Option Addr) (cap : Nat), v = .slice ao n cap → cap < n + m → ∃ v' w', (Builtin.append_ #[t, t] ty #[v, y]).run P w = .ok v' w' ∧ Grown i.size (n + m) (xs ++ ys) W0 L v' w' := by
   intro ao cap hv hcap
   have hne : ¬ (n + m ≤ cap) := by omega
   have h63' : ¬ (9223372036854775807 < ((n : Int) + (m : Int))) := by omega
   have h48' : ¬ (281474976710656 < Builtin.nextslicecap (n + m) cap * i.bytes) := by
     have := growslice_fits (old := cap) (by omega) hb; omega
   have Cd : Cells i.size y m ys (hp w.drew) := C
   have Cxd : Cells i.size v n xs (hp w.drew) := Cx
   have hfd := run_firstCells_C (P := P) Cd
   have hfx := run_firstCells_C (P := P) Cxd
   subst hv
   refine ⟨.slice (some ⟨w.heap.size, 0, none⟩) (n + m) (grownCap w (n + m) cap e), w.drew.alloc (.cells (xs.toArray ++ ys.toArray ++ Builtin.zeroCells z.cells (grownCap w (n + m) cap e - (n + m))) e), ?_, ?_⟩
   · simp [Builtin.append_, run_underlying hU, sizeOf, typeInfo, zeroValue, hI, hz, hly, hne, h63', h48', Question.forced, hfd, hfx, newRow, grownCap]
     congr 2
     apply Array.ext'
     simp [List.append_assoc]
   refine ⟨_, _, rfl, ?_⟩
   have hge := grownCap_ge w (n + m) cap e
   have hcm : grownCap w (n + m) cap e ≤ maxLen := grownCap_le_maxLen w (n + m) cap e h63
   have hA := (H.tail.drew).alloc (.cells (xs.toArray ++ ys.toArray ++ Builtin.zeroCells z.cells (grownCap w (n + m) cap e - (n + m))) e)
   refine hA.head fun h hh => ⟨by simp [hxlen, hylen, Nat.add_mul], .inr ⟨w.heap.size, 0, grownCap w (n + m) cap e, xs ++ ys ++ (Builtin.zeroCells z.cells (grownCap w (n + m) cap e - (n + m))).toList, e, (0, 0), rfl, hge, hcm, ?_, ?_, ?_, ?_⟩⟩
   · simp only [List.length_append, hxlen, hylen, Array.length_toList, size_zeroCells, hzs, ← Nat.add_mul]
     rw [Nat.zero_add]
     apply Nat.le_of_eq; congr 1; omega
   · rw [List.drop_zero]
     have : (n + m) * i.size = (xs ++ ys).length := by simp [hxlen, hylen, Nat.add_mul]
     rw [this]
     exact List.take_left
   · exact .inl rfl
   have hh' : h w.drew.heap.size = _ := hh
   rw [show w.drew.heap.size = w.heap.size from rfl] at hh'
   rw [hh']
   simp [obj]
 rcases (Own.openOn H).2 with ⟨rfl, ao, rfl⟩ | ⟨gb, off, cap, cur, e', fr, rfl, hnc, hcm, hfit, htake, hfree, Hb⟩
 · by_cases hm : m = 0
   · subst hm
     have hy0 : ys = [] := List.eq_nil_of_length_eq_zero (by simpa using hylen)
     have hx0 : xs = [] := List.eq_nil_of_length_eq_zero (by simpa using hxlen)
     subst hy0; subst hx0
     refine ⟨.slice ao 0 0, w, ?_, ⟨ao, 0, rfl, H⟩⟩
     cases ao <;> simp [Builtin.append_, run_underlying hU, sizeOf, typeInfo, hI, hly, hf, storeCells]
   exact grow ao 0 rfl (by omega)
 by_cases hroom : n + m ≤ cap
 · have hfit' : off + n * i.size + ys.length ≤ cur.length := by
     rw [hylen]
     have : (n + m) * i.size ≤ cap * i.size := Nat.mul_le_mul_right _ hroom
     rw [Nat.add_mul] at this
     omega
   have hcapm : off + n * i.size + ys.length ≤ off + cap * i.size := by
     rw [hylen]
     have : (n + m) * i.size ≤ cap * i.size := Nat.mul_le_mul_right _ hroom
     rw [Nat.add_mul] at this
     omega
   obtain ⟨w', hst, hO'⟩ := Hb.storeCells (P := P) 0 rfl (off + n * i.size) ys hfit' h1c (fun k h1 h2 => free_ok hfree (by omega))
   refine ⟨.slice (some ⟨gb, off, none⟩) (n + m) cap, w', ?_, _, _, rfl, ?_⟩
   · simp [Builtin.append_, run_underlying hU, sizeOf, typeInfo, hI, hly, hroom, hf, Addr.add_mk, hst]
   have e1 := take_splice (m := (n + m) * i.size) htake hxlen hfit' (by rw [hylen, Nat.add_mul])
   exact Own.closeOn (e := e') (fr := fr) hO' (by simp [hxlen, hylen, Nat.add_mul]) hroom hcm (by rw [splice_length hfit']; exact hfit) e1 (by rw [splice_length hfit']; exact hfree)
 exact grow (some ⟨gb, off, none⟩) cap rfl (by omega)
theorem eff_append {t e size n m bytes : Nat} {v y z : Value} {xs ys : List Value} {i : TypeInfo} {sx sy : Operand} (H : On W0 (Own size v n xs :: L) w) (C : Cells size y m ys (hp w)) (hs : ρ sx = v) (hy : ρ sy = y)
   (hU : P.underlying t = some (.slice e)) (hI : P.info? e = some i) (hsz : i.size = size) (hby : i.bytes = bytes) (hz : i.zero = some z) (hzs : z.cells.size = size)
   (h63 : n + m ≤ maxLen) (hb : (n + m) * bytes ≤ 140737488355328) (h1c : ∀ u ∈ ys, u.oneCell' = true) :
   Eff P ρ ⟨d, .call { callee := .builtin .append, args := #[sx, sy], argTypes := #[t, t] }, ty, pos, af, g⟩ w (Grown size (n + m) (xs ++ ys) W0 L) := by
 obtain ⟨v', w', hr, hG⟩ := append_own (ty := ty) H C hU hI hsz hby hz hzs h63 hb h1c
 refine .inl ⟨v', w', ?_, hG⟩
 simp [execOp, resolve, invoke, builtin, hs, hy, hr]
end
end Go.Sl
namespace Go.Sl
open Go
section
variable {P : Program} {W0 w : World} {L : List HProp} {ρ : Operand → Value} {d : Option Nat} {ty : TypeId} {pos : String} {af : Array Edge} {g : Option (Nat × Bool)}
theorem run_notDec {x : Operand} {t : TypeId} {p : Prop} [Decidable p] (h : ρ x = .bool (decide p)) : (execOp ρ ⟨d, .unOp .not t x, ty, pos, af, g⟩).run P w = .ok (.value (.bool (decide (¬ p)))) w := by
 simp [execOp, h, Op.unary]
theorem run_cutH {t e size n c h : Nat} {kh : IntKind} {x y : Operand} {a : Option Addr} (hU : P.underlying t = some (.slice e)) (hS : ∀ w, (sizeOf e).run P w = .ok size w) (hx : ρ x = .slice a n c) (hy : ρ y = .int kh h) (h1 : h ≤ c) :
   (execOp ρ ⟨d, .slice t x none (some y) none, ty, pos, af, g⟩).run P w = .ok (.value (.slice a h c)) w := by
 have e0 : (if c = 0 then a else Option.map (fun x : Addr => x.add 0) a) = a := by split <;> cases a <;> simp [Addr.add]
 have c1 : (0 : Int) ≤ (h : Int) ∧ (h : Int) ≤ (c : Int) := ⟨by omega, by omega⟩
 simp [execOp, Instr.sliceAt, Instr.slice, run_underlying hU, hx, hy, Instr.sliceBounds, Instr.sliceBound, asIntOf, h1, hS, e0]
theorem run_cutHM {t e size n c h m : Nat} {kh km : IntKind} {x y z : Operand} {a : Option Addr} (hU : P.underlying t = some (.slice e)) (hS : ∀ w, (sizeOf e).run P w = .ok size w) (hx : ρ x = .slice a n c) (hy : ρ y = .int kh h) (hz : ρ z = .int km m) (h1 : h ≤ m) (h2 : m ≤ c) :
   (execOp ρ ⟨d, .slice t x none (some y) (some z), ty, pos, af, g⟩).run P w = .ok (.value (.slice a h m)) w := by
 have e0 : (if m = 0 then a else Option.map (fun x : Addr => x.add 0) a) = a := by split <;> cases a <;> simp [Addr.add]
 simp [execOp, Instr.sliceAt, Instr.slice, run_underlying hU, hx, hy, hz, Instr.sliceBounds, Instr.sliceBound, asIntOf, h1, h2, hS, e0]
theorem run_cutLH {t e size n c l h : Nat} {kl kh : IntKind} {x y z : Operand} {a : Option Addr} (hU : P.underlying t = some (.slice e)) (hS : ∀ w, (sizeOf e).run P w = .ok size w) (hx : ρ x = .slice a n c) (hy : ρ y = .int kl l) (hz : ρ z = .int kh h) (h1 : l ≤ h) (h2 : h ≤ c) :
   (execOp ρ ⟨d, .slice t x (some y) (some z) none, ty, pos, af, g⟩).run P w = .ok (.value (sliced a l h c size)) w := by
 simp [execOp, Instr.sliceAt, Instr.slice, run_underlying hU, hx, hy, hz, Instr.sliceBounds, Instr.sliceBound, asIntOf, h1, h2, hS, sliced]
theorem run_cutL {t e size n c l : Nat} {kl : IntKind} {x y : Operand} {a : Option Addr} (hU : P.underlying t = some (.slice e)) (hS : ∀ w, (sizeOf e).run P w = .ok size w) (hx : ρ x = .slice a n c) (hy : ρ y = .int kl l) (h1 : l ≤ n) :
   (execOp ρ ⟨d, .slice t x (some y) none none, ty, pos, af, g⟩).run P w = .ok (.value (sliced a l n c size)) w := by
 simp [execOp, Instr.sliceAt, Instr.slice, run_underlying hU, hx, hy, Instr.sliceBounds, Instr.sliceBound, asIntOf, h1, hS, sliced]
theorem run_cutLHM {t e size n c l h m : Nat} {kl kh km : IntKind} {x y z u : Operand} {a : Option Addr} (hU : P.underlying t = some (.slice e)) (hS : ∀ w, (sizeOf e).run P w = .ok size w) (hx : ρ x = .slice a n c) (hy : ρ y = .int kl l) (hz : ρ z = .int kh h) (hm : ρ u = .int km m) (h1 : l ≤ h) (h2 : h ≤ m) (h3 : m ≤ c) :
   (execOp ρ ⟨d, .slice t x (some y) (some z) (some u), ty, pos, af, g⟩).run P w = .ok (.value (sliced a l h m size)) w := by
 simp [execOp, Instr.sliceAt, Instr.slice, run_underlying hU, hx, hy, hz, hm, Instr.sliceBounds, Instr.sliceBound, asIntOf, h1, h2, h3, hS, sliced]
theorem Cells.cut {size n : Nat} {a : Option Addr} {c l h m : Nat} {xs : List Value} {hh : Hp} (C : Cells size (.slice a n c) n xs hh) (h1 : l ≤ h) (h2 : h ≤ n) (h3 : h ≤ m) (h4 : m ≤ c) :
   Cells size (sliced a l h m size) (h - l) ((xs.drop (l * size)).take ((h - l) * size)) hh := by
 obtain ⟨hl, ao, cap, hv, hc1, hc2, hc3, hc4⟩ := C
 simp only [Value.slice.injEq] at hv
 obtain ⟨rfl, _, rfl⟩ := hv
 refine ⟨?_, (if m = l then a else a.map (·.add (l * size))), m - l, rfl, by omega, by omega, ?_, ?_⟩
 · rw [List.length_take, List.length_drop, hl]
   have : (h - l) * size ≤ n * size - l * size := by rw [← Nat.sub_mul]; exact Nat.mul_le_mul_right _ (by omega)
   omega
 · intro hn
   split at hn
   · omega
   cases a with
   | none => have := hc3 rfl; omega
   | some a => cases hn
 intro hp
 obtain ⟨b, o, rfl, r⟩ := hc4 (by omega)
 have hne : ¬ m = l := by omega
 refine ⟨b, o + l * size, ?_, ?_⟩
 · simp [hne, Addr.add_mk]
 intro j u hj
 rw [List.getElem?_take] at hj
 split at hj
 · rw [List.getElem?_drop] at hj
   have := r _ _ hj
   rw [← Nat.add_assoc] at this
   exact this
 cases hj
theorem bodyQ.rc {N : Nat} {env : Env} {fn : Func} {R : Value → World → Prop} {t rt b n : Nat} {vs : List Value} (h : fn.results = #[.cell t rt]) (hA : ∀ w, (isAgg rt).run P w = .ok true w) (hS : ∀ w, (sizeOf rt).run P w = .ok n w)
   (he : env t = .pointer (some ⟨b, 0, none⟩)) (hl : vs.length = n) (hc : ∀ j u, vs[j]? = some u → w.cell? ⟨b, 0 + j, none⟩ = some u) (hR : R (.agg vs.toArray) w) :
   bodyQ P fn R .ret env w := by
 refine ⟨.agg vs.toArray, fun tmps hg => ?_, hR⟩
 have hp : tmps.getD t undef = .pointer (some ⟨b, 0, none⟩) := by rw [hg, he]
 have hp' : tmps[t]?.getD undef = .pointer (some ⟨b, 0, none⟩) := by simpa using hp
 have := run_loadCells_list (P := P) w ⟨b, 0, none⟩ vs (fun j v hv => by rw [Addr.add_mk]; exact hc j v hv)
 rw [hl] at this
 simp [results, h, hp', asAddr, loadVar, hA, hS, this]
theorem bodyQ.rct {N : Nat} {env : Env} {fn : Func} {R : Value → World → Prop} {t u rt b n : Nat} {vs : List Value} {v2 : Value} (h : fn.results = #[.cell t rt, .tmp u]) (hA : ∀ w, (isAgg rt).run P w = .ok true w) (hS : ∀ w, (sizeOf rt).run P w = .ok n w)
   (he : env t = .pointer (some ⟨b, 0, none⟩)) (hl : vs.length = n) (hc : ∀ j u, vs[j]? = some u → w.cell? ⟨b, 0 + j, none⟩ = some u) (h2 : env u = v2) (hR : R (.tuple #[.agg vs.toArray, v2]) w) :
   bodyQ P fn R .ret env w := by
 refine ⟨.tuple #[.agg vs.toArray, v2], fun tmps hg => ?_, hR⟩
 have hp : tmps.getD t undef = .pointer (some ⟨b, 0, none⟩) := by rw [hg, he]
 have hp' : tmps[t]?.getD undef = .pointer (some ⟨b, 0, none⟩) := by simpa using hp
 have := run_loadCells_list (P := P) w ⟨b, 0, none⟩ vs (fun j v hv => by rw [Addr.add_mk]; exact hc j v hv)
 rw [hl] at this
 rw [results_cell_tmp h, hp]
 simp only [asAddr, Sem.run_pure, Result.andThen_ok]
 simp [loadVar, hA, hS, this, ← h2, ← hg u]
theorem bodyQ.rcB {W0 : World} {L : List HProp} {env : Env} {fn : Func} {R : Value → World → Prop} {t rt b n : Nat} {l vs : List Value} {e : Nat} {fr : Nat × Nat} (H : On W0 L w) (h : fn.results = #[.cell t rt]) (hA : ∀ w, (isAgg rt).run P w = .ok true w) (hS : ∀ w, (sizeOf rt).run P w = .ok n w)
   (he : env t = .pointer (some ⟨b, 0, none⟩)) [i : HasBlk L b l e fr] (hv : l = vs) (hl : vs.length = n) (hR : R (.agg vs.toArray) w) : bodyQ P fn R .ret env w :=
 bodyQ.rc (N := 0) h hA hS he hl (fun j u hj => by rw [Nat.zero_add]; exact H.cellB (i := i) (by rw [hv]; exact hj)) hR
theorem bodyQ.rctB {W0 : World} {L : List HProp} {env : Env} {fn : Func} {R : Value → World → Prop} {t u rt b n : Nat} {l vs : List Value} {v2 : Value} {e : Nat} {fr : Nat × Nat} (H : On W0 L w) (h : fn.results = #[.cell t rt, .tmp u]) (hA : ∀ w, (isAgg rt).run P w = .ok true w) (hS : ∀ w, (sizeOf rt).run P w = .ok n w)
   (he : env t = .pointer (some ⟨b, 0, none⟩)) [i : HasBlk L b l e fr] (hv : l = vs) (hl : vs.length = n) (h2 : env u = v2) (hR : R (.tuple #[.agg vs.toArray, v2]) w) : bodyQ P fn R .ret env w :=
 bodyQ.rct (N := 0) h hA hS he hl (fun j u hj => by rw [Nat.zero_add]; exact H.cellB (i := i) (by rw [hv]; exact hj)) h2 hR
end
section
variable {P : Program} {N : Nat} {ops : Array Oper} {K : Env → World → Prop} {env : Env} {w : World} {rest : List Oper} {o : Oper}
theorem WL.dec {p : Prop} [Decidable p] (hr : (execOp (evo env) o).run P w = .ok (.value (.bool (decide p))) w) (hw : Region.wanted o (yieldedE ops env) = true) (hd : inN N o.dst = true)
   (kT : p → WL P N ops K rest (updo env o.dst (.bool true)) w) (kF : ¬ p → WL P N ops K rest (updo env o.dst (.bool false)) w) : WL P N ops K (o :: rest) env w := by
 by_cases h : p
 · exact WL.val (by rw [hr]; simp [h]) hw hd (kT h)
 exact WL.val (by rw [hr]; simp [h]) hw hd (kF h)
theorem WL.boolB {b : Bool} (hr : (execOp (evo env) o).run P w = .ok (.value (.bool b)) w) (hw : Region.wanted o (yieldedE ops env) = true) (hd : inN N o.dst = true)
   (kT : b = true → WL P N ops K rest (updo env o.dst (.bool true)) w) (kF : b = false → WL P N ops K rest (updo env o.dst (.bool false)) w) : WL P N ops K (o :: rest) env w := by
 cases b
 · exact WL.val hr hw hd (kF rfl)
 exact WL.val hr hw hd (kT rfl)
variable {T : Owed} {fuel : Nat} {listed : Array Bool}
theorem WT.dec (i : Nat) {oi : Oper} {p : Prop} [Decidable p] (hi : ops[i]? = some oi) (hb : takes ops listed i = true)
   (hv : ∀ w', (execOp (evo env) oi).run P w' = .ok (.value (.bool (decide p))) w') (hw : Region.wanted oi (yieldedE ops env) = true) (hd : inN N oi.dst = true)
   (kT : p → WT P N ops K fuel T (listed.setIfInBounds i true) (updo env oi.dst (.bool true)) w) (kF : ¬ p → WT P N ops K fuel T (listed.setIfInBounds i true) (updo env oi.dst (.bool false)) w) : WT P N ops K (fuel + 1) T listed env w := by
 by_cases h : p
 · exact WT.pure i hi hb (fun w' => by rw [hv w']; simp [h]) hw hd (kT h)
 exact WT.pure i hi hb (fun w' => by rw [hv w']; simp [h]) hw hd (kF h)
end
end Go.Sl
namespace Go.Sl
open Go
abbrev byteV (c : UInt8) : Value := .int .u8 c.toNat
abbrev bytesV (bs : List UInt8) : List Value := bs.map byteV
theorem bytes_one {bs : List UInt8} : ∀ u ∈ bytesV bs, u.oneCell' = true := by
 intro u hu; obtain ⟨c, _, rfl⟩ := List.mem_map.1 hu; rfl
abbrev Bytes (v : Value) (bs : List UInt8) : HProp := Cells 1 v bs.length (bytesV bs)
abbrev OwnB (v : Value) (bs : List UInt8) : HProp := Own 1 v bs.length (bytesV bs)
section
variable {P : Program} {W0 w : World} {L : List HProp} {A B : HProp}
theorem On.new (H : On W0 L w) (a : ∀ h, A h) : On W0 (A :: L) w := H.imp fun h s => ⟨fun _ => none, h, (fun _ _ _ e _ => by cases e), (fun _ _ e => by cases e), Sub.refl _, a _, s⟩
theorem On.ownEmpty (H : On W0 L w) (size : Nat) (a : Option Addr) : On W0 (Own size (.slice a 0 0) 0 [] :: L) w := H.new fun _ => ⟨by simp, .inl ⟨rfl, a, rfl⟩⟩
theorem On.reads {A : HProp} (H : On W0 L w) (g : Gives L A) : A (hp w) := g _ H.sat
theorem Cells.form {size n : Nat} {v : Value} {xs : List Value} {h : Hp} (C : Cells size v n xs h) : ∃ a c, v = .slice a n c ∧ n ≤ c ∧ c ≤ maxLen ∧ (a = none → c = 0) := by
 obtain ⟨_, ao, cap, hv, h1, h2, h3, _⟩ := C
 exact ⟨ao, cap, hv, h1, h2, h3⟩
theorem Own.form {size n : Nat} {v : Value} {xs : List Value} (H : On W0 (Own size v n xs :: L) w) : ∃ a c, v = .slice a n c ∧ n ≤ c ∧ c ≤ maxLen ∧ (a = none → c = 0) := by
 obtain ⟨h1, s, a⟩ := H.sat.fact
 exact a.cells.form
theorem Own.clip {size n c : Nat} {a : Option Addr} {xs : List Value} (H : On W0 (Own size (.slice a n c) n xs :: L) w) : On W0 (Own size (.slice a n n) n xs :: L) w := H.head fun h ⟨hl, o⟩ => by
 refine ⟨hl, ?_⟩
 rcases o with ⟨rfl, ao, hv⟩ | ⟨g, off, cap, cur, e, fr, hv, h1, h2, h3, h4, h5, h6⟩
 · exact .inl ⟨rfl, a, rfl⟩
 simp only [Value.slice.injEq] at hv
 obtain ⟨rfl, _, rfl⟩ := hv
 have : n * size ≤ c * size := Nat.mul_le_mul_right _ h1
 exact .inr ⟨g, off, n, cur, e, fr, rfl, Nat.le_refl _, by omega, by omega, h4, h5, h6⟩
theorem maxLen_eq : maxLen = 9223372036854775807 := rfl
end
end Go.Sl
namespace Go.Sl
open Go
@[reducible] def scopeQ (Q : Exit → Env → World → Prop) : Exit → Env → World → Prop
 | .goto _, _, _ => False
 | e, env, w => Q e env w
theorem W.scope {P : Program} {N : Nat} {env : Env} {w : World} {Q : Exit → Env → World → Prop} {c : Code} (h : W P N c (scopeQ Q) env w) : W P N (.scope c) Q env w := fun a r => by
 refine wp_scope_straight (wp_mono (h a r) ?_)
 rintro e a' w' ⟨env', r', q⟩
 cases e with
 | goto l => exact q.elim
 | _ => exact ⟨env', r', q⟩
section
variable {P : Program} {W0 w : World} {L : List HProp} {ρ : Operand → Value} {d : Option Nat} {ty : TypeId} {pos : String} {af : Array Edge} {g : Option (Nat × Bool)}
theorem Own.addr {size n c : Nat} {a : Option Addr} {xs : List Value} (H : On W0 (Own size (.slice a n c) n xs :: L) w) (hn : 0 < n) : ∃ b o, a = some ⟨b, o, none⟩ := by
 rcases (Own.openOn H).2 with ⟨h0, _⟩ | ⟨gb, off, cap, cur, e, fr, hv, _⟩
 · omega
 simp only [Value.slice.injEq] at hv
 exact ⟨gb, off, hv.1⟩
theorem Own.front {size n c k : Nat} {a : Option Addr} {xs : List Value} (H : On W0 (Own size (.slice a n c) n xs :: L) w) (hk : k ≤ n) : On W0 (Own size (.slice a k c) k (xs.take (k * size)) :: L) w := H.head fun h ⟨hl, o⟩ => by
 have hks : k * size ≤ n * size := Nat.mul_le_mul_right _ hk
 refine ⟨by rw [List.length_take]; omega, ?_⟩
 rcases o with ⟨rfl, ao, hv⟩ | ⟨g, off, cap, cur, e, fr, hv, h1, h2, h3, h4, h5, h6⟩
 · simp only [Value.slice.injEq] at hv
   obtain ⟨rfl, _, rfl⟩ := hv
   have : k = 0 := by omega
   subst this
   exact .inl ⟨rfl, _, rfl⟩
 simp only [Value.slice.injEq] at hv
 obtain ⟨rfl, _, rfl⟩ := hv
 refine .inr ⟨g, off, c, cur, e, fr, rfl, by omega, h2, h3, ?_, h5, h6⟩
 rw [← h4, List.take_take, Nat.min_eq_left hks]
theorem eff_appendFits {t e size n m cap : Nat} {y : Value} {a : Option Addr} {xs ys : List Value} {sx sy : Operand} (H : On W0 (Own size (.slice a n cap) n xs :: L) w) (C : Cells size y m ys (hp w)) (hs : ρ sx = .slice a n cap) (hy : ρ sy = y)
   (hU : P.underlying t = some (.slice e)) (hS : ∀ w, (sizeOf e).run P w = .ok size w) (hroom : n + m ≤ cap) (h1c : ∀ u ∈ ys, u.oneCell' = true) :
   Eff P ρ ⟨d, .call { callee := .builtin .append, args := #[sx, sy], argTypes := #[t, t] }, ty, pos, af, g⟩ w (fun v w' => v = .slice a (n + m) cap ∧ On W0 (Own size (.slice a (n + m) cap) (n + m) (xs ++ ys) :: L) w') := by
 have hf := run_firstCells_C (P := P) C
 have hly := lenOf_C (P := P) (w := w) C
 have hylen : ys.length = m * size := C.1
 obtain ⟨hxlen, hO⟩ := Own.openOn H
 rcases hO with ⟨rfl, ao, hv⟩ | ⟨gb, off, cap', cur, e', fr, hv, hnc, hcm, hfit, htake, hfree, Hb⟩
 · simp only [Value.slice.injEq] at hv
   obtain ⟨rfl, _, rfl⟩ := hv
   have hm : m = 0 := by omega
   subst hm
   have hy0 : ys = [] := List.eq_nil_of_length_eq_zero (by simpa using hylen)
   have hx0 : xs = [] := List.eq_nil_of_length_eq_zero (by simpa using hxlen)
   subst hy0; subst hx0
   refine .inl ⟨.slice a 0 0, w, ?_, rfl, H⟩
   cases a <;> simp [execOp, resolve, invoke, builtin, hs, hy, Builtin.append_, run_underlying hU, hS, hly, hf, storeCells]
 simp only [Value.slice.injEq] at hv
 obtain ⟨rfl, _, rfl⟩ := hv
 have hle : (n + m) * size ≤ cap * size := Nat.mul_le_mul_right _ hroom
 rw [Nat.add_mul] at hle
 have hfit' : off + n * size + ys.length ≤ cur.length := by rw [hylen]; omega
 obtain ⟨w', hst, hO'⟩ := Hb.storeCells (P := P) 0 rfl (off + n * size) ys hfit' h1c (fun k h1 h2 => free_ok hfree (by omega))
 refine .inl ⟨.slice (some ⟨gb, off, none⟩) (n + m) cap, w', ?_, rfl, ?_⟩
 · simp [execOp, resolve, invoke, builtin, hs, hy, Builtin.append_, run_underlying hU, hS, hly, hroom, hf, Addr.add_mk, hst]
 have e1 := take_splice (m := (n + m) * size) htake hxlen hfit' (by rw [hylen, Nat.add_mul])
 exact Own.closeOn (e := e') (fr := fr) hO' (by simp [hxlen, hylen, Nat.add_mul]) hroom hcm (by rw [splice_length hfit']; exact hfit) e1 (by rw [splice_length hfit']; exact hfree)
theorem take_splice_behind {l : List Value} {o k : Nat} {ys : List Value} {m : Nat} (hm : o + m ≤ k) (hk : k ≤ l.length) : ((splice l k ys).drop o).take m = (l.drop o).take m := by
 apply List.ext_getElem?
 intro j
 simp only [List.getElem?_take]
 by_cases hj : j < m
 · rw [if_pos hj, if_pos hj, List.getElem?_drop, List.getElem?_drop]
   unfold splice
   rw [List.append_assoc, List.getElem?_append_left (by rw [List.length_take]; omega), List.getElem?_take, if_pos (by omega)]
 rw [if_neg hj, if_neg hj]
theorem eff_clearBehind {t e size n c m : Nat} {a : Option Addr} {xs : List Value} {z : Value} {sx : Operand} (H : On W0 (Own size (.slice a n c) n xs :: L) w) (h1 : n ≤ m) (h2 : m ≤ c) (hs : ρ sx = sliced a n m c size)
   (hU : P.underlying t = some (.slice e)) (hZ : ∀ w, (zeroValue e).run P w = .ok z w) (hz : z.cells.size = size) (hz1 : ∀ v ∈ z.cells.toList, v.oneCell' = true) :
   Eff P ρ ⟨d, .call { callee := .builtin .clear, args := #[sx], argTypes := #[t] }, ty, pos, af, g⟩ w (fun v w' => On W0 (Own size (.slice a n c) n xs :: L) w') := by
 obtain ⟨hxlen, hO⟩ := Own.openOn H
 rcases hO with ⟨rfl, ao, hv⟩ | ⟨gb, off, cap', cur, e', fr, hv, hnc, hcm, hfit, htake, hfree, Hb⟩
 · simp only [Value.slice.injEq] at hv
   obtain ⟨rfl, _, rfl⟩ := hv
   have hm : m = 0 := by omega
   subst hm
   refine .inl ⟨.tuple #[], w, ?_, H⟩
   cases a <;> simp [execOp, resolve, invoke, builtin, hs, sliced, Builtin.clear_, run_underlying hU]
 simp only [Value.slice.injEq] at hv
 obtain ⟨rfl, _, rfl⟩ := hv
 by_cases hnm : m = n
 · subst hnm
   refine .inl ⟨.tuple #[], w, ?_, H⟩
   by_cases hcm' : c = m <;> simp [execOp, resolve, invoke, builtin, hs, sliced, Builtin.clear_, run_underlying hU, hcm']
 have hcn : ¬ c = n := by omega
 have hlen : (Builtin.zeroCells z.cells (m - n)).toList.length = (m - n) * size := by simp [size_zeroCells, hz]
 have hms : n * size + (m - n) * size = m * size := by rw [← Nat.add_mul]; congr 1; omega
 have hmc : m * size ≤ c * size := Nat.mul_le_mul_right _ h2
 have hone : ∀ v ∈ (Builtin.zeroCells z.cells (m - n)).toList, v.oneCell' = true := by
   intro v hv
   unfold Builtin.zeroCells at hv
   simp only [Array.toList_map, List.mem_map] at hv
   obtain ⟨i, hi, rfl⟩ := hv
   simp at hi
   by_cases hzs : z.cells.size = 0
   · rw [hzs] at hi; simp at hi
   have hlt : i % z.cells.size < z.cells.size := Nat.mod_lt _ (by omega)
   rw [getElem!_pos z.cells _ hlt]
   exact hz1 _ (by simp)
 obtain ⟨w', hst, hO'⟩ := Hb.storeCells (P := P) 0 rfl (off + n * size) (Builtin.zeroCells z.cells (m - n)).toList (by rw [hlen]; omega) hone (fun k k1 k2 => free_ok hfree (by rw [hlen] at k2; omega))
 refine .inl ⟨.tuple #[], w', ?_, ?_⟩
 · obtain ⟨q, hq⟩ : ∃ q, m - n = q + 1 := ⟨m - n - 1, by omega⟩
   rw [hq] at hst
   simp [execOp, resolve, invoke, builtin, hs, sliced, hcn, Builtin.clear_, run_underlying hU, Addr.add_mk, hq, hZ, hst]
 refine Own.closeOn (e := e') (fr := fr) hO' hxlen hnc hcm (by rw [splice_length (by rw [hlen]; omega)]; exact hfit) ?_ (by rw [splice_length (by rw [hlen]; omega)]; exact hfree)
 rw [take_splice_behind (Nat.le_refl _) (by omega)]
 exact htake
theorem Cells.elem {size n c b o i : Nat} {xs vs : List Value} (C : Cells size (.slice (some ⟨b, o, none⟩) n c) n xs (hp w)) (hi : i < n) (hv : (xs.drop (i * size)).take size = vs) : ∀ j u, vs[j]? = some u → w.cell? ⟨b, o + i * size + j, none⟩ = some u := by
 intro j u hj
 subst hv
 rw [List.getElem?_take] at hj
 split at hj
 · rw [List.getElem?_drop] at hj
   rw [Nat.add_assoc]
   exact C.cell rfl (by omega) hj
 cases hj
theorem drop_flatMap {α : Type} (f : α → List Value) (size : Nat) (hf : ∀ x, (f x).length = size) : ∀ (l : List α) (i : Nat) (x : α), l[i]? = some x → ((l.flatMap f).drop (i * size)).take size = f x := by
 intro l
 induction l with
 | nil => intro i x h; simp at h
 | cons y l ih =>
   intro i x h
   rw [List.flatMap_cons]
   cases i with
   | zero => simp at h; subst h; rw [Nat.zero_mul, List.drop_zero, ← hf y]; exact List.take_left
   | succ i =>
     simp at h
     rw [Nat.succ_mul, Nat.add_comm, ← List.drop_drop]
     have : ((f y ++ l.flatMap f).drop size) = l.flatMap f := by rw [← hf y]; exact List.drop_left
     rw [this]
     exact ih i x h
theorem Own.ofBlk {b e n size : Nat} {l : List Value} (H : On W0 (blk b l e :: L) w) (hl : l.length = n * size) (hm : n ≤ maxLen) : On W0 (Own size (.slice (some ⟨b, 0, none⟩) n n) n l :: L) w :=
 Own.closeOn H hl (Nat.le_refl _) hm (by omega) (by rw [List.drop_zero, List.take_of_length_le (by omega)]) (.inl rfl)
def Ex {ι : Type} (G : ι → HProp) : HProp := fun h => ∃ x, G x h
theorem On.ex {ι : Type} {G : ι → HProp} (H : On W0 (Ex G :: L) w) : ∃ x, On W0 (G x :: L) w := H.unexists
theorem On.exI {ι : Type} {G : ι → HProp} (x : ι) (H : On W0 (G x :: L) w) : On W0 (Ex G :: L) w := H.head fun _ h => ⟨x, h⟩
def Pack (p : Prop) (M : List HProp) : HProp := fun h => p ∧ Sat M h
theorem On.unpack {p : Prop} {M : List HProp} (H : On W0 (Pack p M :: L) w) : p ∧ On W0 (M ++ L) w := by
 obtain ⟨h1, h2, d, s1, s2, ⟨hp, a⟩, r⟩ := H.sat
 exact ⟨hp, H.os, H.output, H.tape, H.size, Sat.unappend d s1 s2 a r⟩
theorem On.pack {p : Prop} {M : List HProp} (hp : p) (H : On W0 (M ++ L) w) : On W0 (Pack p M :: L) w := by
 obtain ⟨h1, h2, d, s1, s2, a, r⟩ := Sat.append H.sat
 exact ⟨H.os, H.output, H.tape, H.size, h1, h2, d, s1, s2, ⟨hp, a⟩, r⟩
end
end Go.Sl
namespace Go.Sl
open Go
class Pull (L : List HProp) (A : HProp) (L' : outParam (List HProp)) : Prop where
 out : ∀ h, Sat L h → Sat (A :: L') h
instance Pull.here {A : HProp} {L : List HProp} : Pull (A :: L) A L := ⟨fun _ H => H⟩
instance (priority := low) Pull.there {A B : HProp} {L L' : List HProp} [p : Pull L A L'] : Pull (B :: L) A (B :: L') := ⟨fun h H => (H.tailImp p.out).swap⟩
class To (L T : List HProp) : Prop where
 out : ∀ h, Sat L h → Sat T h
instance (priority := high) To.refl {L : List HProp} : To L L := ⟨fun _ H => H⟩
instance (priority := high) To.nil {L : List HProp} : To L [] := ⟨fun _ _ => trivial⟩
instance To.cons {L L' T : List HProp} {A : HProp} [p : Pull L A L'] [t : To L' T] : To L (A :: T) := ⟨fun h H => (p.out h H).tailImp t.out⟩
instance (priority := low) To.drop {A : HProp} {L T : List HProp} [t : To L T] : To (A :: L) T := ⟨fun h H => t.out h H.tail⟩
class OwnIn (L : List HProp) (v : Value) (size : outParam Nat) (n : outParam Nat) (xs : outParam (List Value)) (L' : outParam (List HProp)) : Prop where
 out : ∀ h, Sat L h → Sat (Own size v n xs :: L') h
instance OwnIn.here {L : List HProp} {v : Value} {size n : Nat} {xs : List Value} : OwnIn (Own size v n xs :: L) v size n xs L := ⟨fun _ H => H⟩
instance (priority := low) OwnIn.there {B : HProp} {L L' : List HProp} {v : Value} {size n : Nat} {xs : List Value} [p : OwnIn L v size n xs L'] : OwnIn (B :: L) v size n xs (B :: L') := ⟨fun h H => (H.tailImp p.out).swap⟩
theorem Own.bounds {W0 w : World} {L : List HProp} {size n c : Nat} {a : Option Addr} {xs : List Value} (H : On W0 (Own size (.slice a n c) n xs :: L) w) : n ≤ c ∧ c ≤ maxLen := by
 obtain ⟨_, _, hv, h1, h2, _⟩ := Own.form H
 simp only [Value.slice.injEq] at hv
 obtain ⟨_, _, rfl⟩ := hv
 exact ⟨h1, h2⟩
theorem Cells.bounds {size n c : Nat} {a : Option Addr} {xs : List Value} {h : Hp} (C : Cells size (.slice a n c) n xs h) : n ≤ c ∧ c ≤ maxLen := by
 obtain ⟨_, _, hv, h1, h2, _⟩ := C.form
 simp only [Value.slice.injEq] at hv
 obtain ⟨_, _, rfl⟩ := hv
 exact ⟨h1, h2⟩
theorem Cells.addr {size n c : Nat} {a : Option Addr} {xs : List Value} {h : Hp} (C : Cells size (.slice a n c) n xs h) (hn : 0 < n) : ∃ b o, a = some ⟨b, o, none⟩ := by
 obtain ⟨_, ao, cap, hv, _, _, _, h4⟩ := C
 obtain ⟨b, o, rfl, _⟩ := h4 hn
 simp only [Value.slice.injEq] at hv
 exact ⟨b, o, hv.1⟩
theorem Cells.front {size n k c : Nat} {a : Option Addr} {xs : List Value} {h : Hp} (C : Cells size (.slice a n c) n xs h) (hk : k ≤ n) : Cells size (.slice a k c) k (xs.take (k * size)) h := by
 obtain ⟨hl, ao, cap, hv, h1, h2, h3, h4⟩ := C
 simp only [Value.slice.injEq] at hv
 obtain ⟨rfl, _, rfl⟩ := hv
 have hks : k * size ≤ n * size := Nat.mul_le_mul_right _ hk
 refine ⟨by rw [List.length_take]; omega, a, c, rfl, by omega, h2, h3, fun hp => ?_⟩
 obtain ⟨b, o, rfl, r⟩ := h4 (by omega)
 refine ⟨b, o, rfl, fun j u hj => ?_⟩
 rw [List.getElem?_take] at hj
 split at hj
 · exact r j u hj
 cases hj
section
variable {P : Program} {W0 w : World} {L L' : List HProp} {ρ : Operand → Value} {d : Option Nat} {ty : TypeId} {pos : String} {af : Array Edge} {g : Option (Nat × Bool)}
theorem On.fetch (H : On W0 L w) (A : HProp) [p : Pull L A L'] : On W0 (A :: L') w := H.imp p.out
theorem On.to {T : List HProp} (H : On W0 L w) [t : To L T] : On W0 T w := H.imp t.out
theorem On.own (H : On W0 L w) (v : Value) {size n : Nat} {xs : List Value} [p : OwnIn L v size n xs L'] : On W0 (Own size v n xs :: L') w := H.imp p.out
theorem On.cellsO (H : On W0 L w) {v : Value} {size n : Nat} {xs : List Value} [p : OwnIn L v size n xs L'] : Cells size v n xs (hp w) := (H.imp p.out).cells 0 rfl
theorem On.readsTo {A : HProp} {T : List HProp} (H : On W0 L w) [t : To L T] (g : Gives T A) : A (hp w) := g _ (t.out _ H.sat)
theorem Gives.to {A : HProp} {T : List HProp} [t : To L T] (g : Gives T A) : Gives L A := fun h H => g h (t.out h H)
theorem eff_app {t e size n m bytes c1 c2 : Nat} {a1 a2 : Option Addr} {z : Value} {xs ys : List Value} {i : TypeInfo} {sx sy : Operand} (H : On W0 L w) (hs : ρ sx = .slice a1 n c1) (hy : ρ sy = .slice a2 m c2) [p : OwnIn L (.slice a1 n c1) size n xs L'] (C : Cells size (.slice a2 m c2) m ys (hp w))
   (hU : P.underlying t = some (.slice e)) (hI : P.info? e = some i) (hsz : i.size = size) (hby : i.bytes = bytes) (hz : i.zero = some z) (hzs : z.cells.size = size)
   (h63 : n + m ≤ maxLen) (hb : (n + m) * bytes ≤ 140737488355328) (h1c : ∀ u ∈ ys, u.oneCell' = true) :
   Eff P ρ ⟨d, .call { callee := .builtin .append, args := #[sx, sy], argTypes := #[t, t] }, ty, pos, af, g⟩ w (Grown size (n + m) (xs ++ ys) W0 L') :=
 eff_append (H.imp p.out) C hs hy hU hI hsz hby hz hzs h63 hb h1c
theorem eff_app0 {t e size m bytes c1 c2 : Nat} {a1 a2 : Option Addr} {z : Value} {xs ys : List Value} {i : TypeInfo} {sx sy : Operand} (H : On W0 L w) (hs : ρ sx = .slice a1 0 c1) (hy : ρ sy = .slice a2 m c2) [p : OwnIn L (.slice a1 0 c1) size 0 xs L'] (C : Cells size (.slice a2 m c2) m ys (hp w))
   (hU : P.underlying t = some (.slice e)) (hI : P.info? e = some i) (hsz : i.size = size) (hby : i.bytes = bytes) (hz : i.zero = some z) (hzs : z.cells.size = size)
   (h63 : m ≤ maxLen) (hb : m * bytes ≤ 140737488355328) (h1c : ∀ u ∈ ys, u.oneCell' = true) :
   Eff P ρ ⟨d, .call { callee := .builtin .append, args := #[sx, sy], argTypes := #[t, t] }, ty, pos, af, g⟩ w (Grown size m ys W0 L') := by
 have H' := H.imp p.out
 have hx : xs = [] := List.eq_nil_of_length_eq_zero (by simpa using (Own.openOn H').1)
 have := eff_append (P := P) (ρ := ρ) (d := d) (ty := ty) (pos := pos) (af := af) (g := g) H' C hs hy hU hI hsz hby hz hzs (by omega) (by rw [Nat.zero_add]; exact hb) h1c
 rw [Nat.zero_add, hx, List.nil_append] at this
 exact this
theorem eff_mkSlice {t n e size : Nat} {ps : List (Nat × Operand)} {z : Value} {zl : List Value} {pl : List (Nat × Nat)} {vs : List (Nat × Value)} {out : List Value} (H : On W0 L w)
   (hU : P.underlying t = some (.slice e)) (hS : ∀ w, (sizeOf e).run P w = .ok size w) (hZ : ∀ w, (zeroValue e).run P w = .ok z w) (hsmall : n * size ≤ 16777216) (hzl : ((Array.range (n * size)).map fun i => (if n * size = 0 then #[] else z.cells)[i % (if n * size = 0 then #[] else z.cells).size]!) = zl.toArray)
   (hpl : pl = (List.range n).map fun i => (i * size, size))
   (hv : ps.map (fun p => (p.1, ρ p.2)) = vs) (hlt : ∀ p ∈ vs, p.1 < n) (hf : fits pl zl.length vs) (ho : placed pl zl vs = out) (hol : out.length = n * size) (hn : n ≤ maxLen) :
   Eff P ρ ⟨d, .buildSlice t n ps.toArray, ty, pos, af, g⟩ w (fun v w' => ∃ b, v = .slice (some ⟨b, 0, none⟩) n n ∧ On W0 (Own size (.slice (some ⟨b, 0, none⟩) n n) n out :: L) w') := by
 rcases eff_buildSlice (P := P) (ρ := ρ) (d := d) (ty := ty) (pos := pos) (af := af) (g := g) H hU hS hZ hsmall hzl hpl hv hlt hf ho with ⟨v, w', h, b, hv', hO⟩ | ⟨w', h, b, hv', hO⟩ | ⟨f, args, w1, h, hc⟩
 · exact .inl ⟨v, w', h, b, hv', Own.ofBlk hO hol hn⟩
 · exact .inr (.inl ⟨w', h, b, hv', Own.ofBlk hO hol hn⟩)
 exact .inr (.inr ⟨f, args, w1, h, Calls.mono hc (by rintro e w' ⟨v, he, b, hv', hO⟩; exact ⟨v, he, b, hv', Own.ofBlk hO hol hn⟩)⟩)
theorem foldl_push (bs : List UInt8) : ∀ (s : ByteArray), bs.foldl (fun r c => r.push c) s = ⟨s.data ++ bs.toArray⟩ := by
 induction bs with
 | nil => intro s; simp
 | cons c bs ih =>
   intro s
   rw [List.foldl_cons, ih]
   simp [ByteArray.push]
theorem run_bytesStr {src dst e n c : Nat} {a : Option Addr} {x : Operand} {bs : List UInt8} (hs : P.underlying src = some (.slice e)) (he : P.underlying e = some (.int .u8)) (hd : P.underlying dst = some .string) (hx : ρ x = .slice a n c) (C0 : Cells 1 (.slice a n c) n (bytesV bs) (hp w)) :
   (execOp ρ ⟨d, .convert src dst x, ty, pos, af, g⟩).run P w = .ok (.value (.string ⟨bs.toArray⟩)) w := by
 have hnl : n = bs.length := by have := C0.1; simpa using this.symm
 subst hnl
 have C : Bytes (.slice a bs.length c) bs (hp w) := C0
 have hf := run_firstCells_C (P := P) C
 obtain ⟨hl, ao, cap, hv, h1, h2, h3, h4⟩ := C
 rw [hv] at hf hx
 clear hv
 simp only [Builtin.firstCells, Nat.mul_one] at hf
 have key : ∀ (bs : List UInt8) (s : ByteArray) (w : World), (Sem.run P (forIn (bytesV bs).toArray s fun c s => do
     let .int .u8 n := c | stuck "bytesToString: byte expected"
     pure (ForInStep.yield (s.push (UInt8.ofNat n.toNat)))) w) = .ok (bs.foldl (fun r c => r.push c) s) w := by
   intro bs
   induction bs with
   | nil => intro s w; simp
   | cons c bs ih =>
     intro s w
     have := ih (s.push c) w
     simp only [List.forIn_toArray] at this ⊢
     simp only [bytesV, List.map_cons, List.forIn_cons, List.foldl_cons]
     simp only [Sem.run_bind]
     simp
 have hconv : (convert src dst (.slice ao bs.length cap)).run P w = .ok (.string ⟨bs.toArray⟩) w := by
   cases ao with
   | none =>
     have hz : bs.length = 0 := by have := h3 rfl; omega
     have hb : bs = [] := List.eq_nil_of_length_eq_zero hz
     subst hb
     simp [convert, run_underlying hs, run_underlying hd, run_underlying he, Conv.bytesToString]
     rfl
   | some a =>
     simp only at hf
     have := key bs ByteArray.empty w
     rw [foldl_push] at this
     simp [convert, run_underlying hs, run_underlying hd, run_underlying he, Conv.bytesToString, hf]
     simpa using this
 simp [execOp, hx, hconv]
end
end Go.Sl
namespace Go.Sl
open Go
theorem Gives.ownO {L L' : List HProp} {v : Value} {size n : Nat} {xs : List Value} [p : OwnIn L v size n xs L'] : Gives L (Cells size v n xs) := fun h H => by
 obtain ⟨h1, s, a⟩ := (p.out h H).fact
 exact Cells_mono _ _ _ _ _ _ s a.cells
theorem Bytes_nil (h : Hp) : Bytes (.slice none 0 0) [] h := ⟨rfl, none, 0, rfl, Nat.le_refl _, by simp, fun _ => rfl, fun h => absurd h (by simp)⟩
theorem Gives.nilB {L : List HProp} : Gives L (Bytes (.slice none 0 0) []) := fun h _ => Bytes_nil h
section
variable {P : Program} {W0 w : World} {L L' : List HProp} {ρ : Operand → Value} {d : Option Nat} {ty : TypeId} {pos : String} {af : Array Edge} {g : Option (Nat × Bool)}
theorem On.mark {b : Nat} {l : List Value} {e : Nat} {fr : Nat × Nat} (H : On W0 (blk b l e fr :: L) w) : On W0 (blk b l e (if fr.1 == fr.2 then (l.length, l.length + 1) else (min fr.1 l.length, max fr.2 (l.length + 1))) :: L) (w.freeze ⟨b, l.length, none⟩ 1) := by
 have hb := H.block 0 rfl
 refine H.set (w' := w.freeze ⟨b, l.length, none⟩ 1) 0 rfl rfl rfl rfl (by simp [World.freeze]) ?_ ?_
 · simp [World.freeze, Array.getElem?_modify, hb]
 intro k hk
 simp [World.freeze, Array.getElem?_modify, Ne.symm hk]
theorem eff_ofString {t te n c : Nat} {a : Option Addr} {xs : List Value} {x : Operand} (H : On W0 L w) (hx : ρ x = .slice a n c) [p : OwnIn L (.slice a n c) 1 n xs L'] (hn : 0 < n)
   (hU : P.underlying t = some (.slice te)) (hE : P.underlying te = some (.int .u8)) :
   Eff P ρ ⟨d, .convert t t x, ty, pos, af, g⟩ w (fun v w' => v = .slice a n c ∧ On W0 (Own 1 (.slice a n c) n xs :: L') w') := by
 have H' := H.imp p.out
 obtain ⟨hxl, ho⟩ := Own.openOn H'
 rcases ho with ⟨h0, _⟩ | ⟨gb, off, cap, cur, e', fr, hv, h1, h2, h3, h4, h5, Hb⟩
 · omega
 simp only [Value.slice.injEq] at hv
 obtain ⟨rfl, _, rfl⟩ := hv
 have hb := Hb.block 0 rfl
 have hsh : w.shape? gb = some (e', cur.length) := by simp [World.shape?, hb]
 refine .inl ⟨.slice (some ⟨gb, off, none⟩) n c, w.freeze ⟨gb, cur.length, none⟩ 1, ?_, rfl, ?_⟩
 · simp [execOp, convert, run_underlying hU, run_underlying hE, hx, markStringish, hsh]
 refine Own.closeOn (On.mark Hb) hxl h1 h2 h3 h4 ?_
 split
 · exact .inr (Nat.le_refl _)
 rename_i hne
 have : ¬ fr.1 = fr.2 := by simpa using hne
 right
 show cur.length ≤ min fr.1 cur.length
 omega
end
end Go.Sl
namespace Go.Sl
open Go
theorem Gives.old {W : World} {size n : Nat} {v : Value} {xs : List Value} (C : Cells size v n xs (hp W)) : Gives [old W] (Cells size v n xs) := fun h H => by
 obtain ⟨h1, s, o⟩ := H.fact
 obtain ⟨hl, ao, cap, hv, a1, a2, a3, a4⟩ := C
 refine ⟨hl, ao, cap, hv, a1, a2, a3, fun hn => ?_⟩
 obtain ⟨b, off, he, r⟩ := a4 hn
 refine ⟨b, off, he, fun j u hj => ?_⟩
 have := r j u hj
 refine cellH_mono s ?_
 unfold cellH at this ⊢
 have hlt : b < W.heap.size := by
   rcases Nat.lt_or_ge b W.heap.size with h' | h'
   · exact h'
   exfalso
   have hb : hp W b = none := by simp [hp, Array.getElem?_eq_none h']
   rw [hb] at this; cases this
 rw [o b hlt]
 exact this
end Go.Sl
namespace Go.Sl
open Go
variable {P : Program} {W : World}
def Rd (P : Program) (W : World) (e : TypeId) (R : List Value → Prop) : Prop :=
 ∀ (H : Type) (enc : TypeId × Value → H) (n : Nat) (cs : List Value) (x : DataW H × List MemPlace), DataW.trod enc P W 0 (fun _ => true) true n e cs = some x → R cs
theorem Rd.mono {e : TypeId} {R R' : List Value → Prop} (h : Rd P W e R) (i : ∀ cs, R cs → R' cs) : Rd P W e R' := fun H enc n cs x t => i _ (h H enc n cs x t)
theorem Rd.use {e : TypeId} {R : List Value → Prop} (h : Rd P W e R) {H : Type} {enc : TypeId × Value → H} {v : Value} {d : DataW H} {ps : List MemPlace}
   (t : DataW.Trod enc P W 0 (fun _ => true) true e v d ps) : R v.cells.toList := by
 obtain ⟨n, t⟩ := t
 exact h H enc n _ _ t
theorem rd_int {t : TypeId} {k : IntKind} (ht : P.underlying t = some (.int k)) : Rd P W t (fun cs => ∃ z, cs = [.int k z] ∧ (Lit.int k z).wf = true) := fun H enc n cs x h => by
 obtain ⟨z, h1, _, h2⟩ := DataW.trod_int ht h
 exact ⟨z, h1, h2⟩
theorem flatten_get {s : Nat} {rows : List (List Value)} (hr : ∀ r ∈ rows, r.length = s) (j : Nat) (u : Value) (h : rows.flatten[j]? = some u) :
   ∃ i k r, j = i * s + k ∧ k < s ∧ rows[i]? = some r ∧ r[k]? = some u := by
 induction rows generalizing j with
 | nil => simp at h
 | cons r rows ih =>
   have hl : r.length = s := hr r (by simp)
   rw [List.flatten_cons] at h
   rcases Nat.lt_or_ge j s with hj | hj
   · rw [List.getElem?_append_left (by omega)] at h
     exact ⟨0, j, r, by omega, hj, rfl, h⟩
   rw [List.getElem?_append_right (by omega), hl] at h
   obtain ⟨i, k, q, h1, h2, h3, h4⟩ := ih (fun r m => hr r (by simp [m])) (j - s) h
   exact ⟨i + 1, k, q, by rw [Nat.add_mul]; omega, h2, by simpa using h3, h4⟩
theorem flatten_length {s : Nat} {rows : List (List Value)} (hr : ∀ r ∈ rows, r.length = s) : rows.flatten.length = rows.length * s := by
 induction rows with
 | nil => simp
 | cons r rows ih =>
   rw [List.flatten_cons, List.length_append, ih (fun r m => hr r (by simp [m])), hr r (by simp), List.length_cons, Nat.add_mul]; omega
theorem rd_slice {t e : TypeId} {s : Nat} {R : List Value → Prop} (ht : P.underlying t = some (.slice e)) (hc : P.cellsOf e = s) (hs : 0 < s) (he : Rd P W e R) :
   Rd P W t (fun cs => ∃ a c, ∃ rows : List (List Value), cs = [.slice a rows.length c] ∧ (∀ r ∈ rows, r.length = s ∧ R r) ∧ Cells s (.slice a rows.length c) rows.length rows.flatten (hp W)) := fun H enc n cs x h => by
 rcases Deep.open_slice ht h with ⟨rfl, _⟩ | ⟨a, len, cap, m, n, D, Pl, rfl, hb, hl, hm, hmm, _, hx⟩
 · exact ⟨none, 0, [], rfl, by simp, by simp, none, 0, rfl, by simp, by simp [maxLen], fun _ => rfl, by simp⟩
 rw [hc] at hx
 have hlm : len ≤ m := by simp at hmm; omega
 obtain ⟨f, hf⟩ := Deep.choose_lt (n := len) (p := fun i cs' => W.cells? 0 (a.add (i * s)) s = some cs' ∧ DataW.trod enc P W 0 (fun _ => true) true n e cs' = some (D i, Pl i)) (fun i hi => hx i (by omega))
 have hrow : ∀ r ∈ (List.range len).map f, r.length = s ∧ R r := by
   intro r hr
   obtain ⟨i, hi, rfl⟩ := List.mem_map.1 hr
   have := hf i (by simpa using hi)
   exact ⟨(World.cells?_some this.1).2.1, he H enc n _ _ this.2⟩
 have hlen : ((List.range len).map f).length = len := by simp
 refine ⟨some a, cap, (List.range len).map f, by rw [hlen], hrow, ?_⟩
 rw [hlen]
 refine ⟨by rw [flatten_length (fun r h => (hrow r h).1), hlen], some a, cap, rfl, hl, hm, by simp, fun hpos => ?_⟩
 obtain ⟨b, o, spot⟩ := a
 have h0 := World.cells?_some (hf 0 hpos).1
 have hc0 := h0.2.2 0 hs
 obtain ⟨v0, hv0⟩ : ∃ v, (f 0)[0]? = some v := ⟨(f 0)[0]'(by omega), by simp⟩
 rw [hv0] at hc0
 have hspot : spot = none := by
   have := World.cell?_spot hc0
   simpa [Addr.add] using this
 subst hspot
 refine ⟨b, o, rfl, fun j u hj => ?_⟩
 obtain ⟨i, k, r, rfl, hk, hri, hrk⟩ := flatten_get (fun r h => (hrow r h).1) j u hj
 have hi : i < len := by
   have := (List.getElem?_eq_some_iff.1 hri).1
   simpa using this
 have hri' : f i = r := by
   rw [List.getElem?_map, List.getElem?_range hi] at hri
   simpa using hri
 subst hri'
 have h2 := (World.cells?_some (hf i hi).1).2.2 k hk
 rw [hrk, Deep.add_add] at h2
 rw [cellH_hp]
 rw [← h2]
 congr 1
 unfold Addr.add
 split <;> simp_all
theorem exists_map {α : Type} {Q : α → Prop} {f : α → List Value} {R : List Value → Prop} {rows : List (List Value)} (h : ∀ r ∈ rows, R r) (i : ∀ r, R r → ∃ a, r = f a ∧ Q a) : ∃ l : List α, rows = l.map f ∧ ∀ a ∈ l, Q a := by
 induction rows with
 | nil => exact ⟨[], rfl, by simp⟩
 | cons r rows ih =>
   obtain ⟨l, rfl, hl⟩ := ih (fun r m => h r (by simp [m]))
   obtain ⟨a, rfl, ha⟩ := i r (h r (by simp))
   exact ⟨a :: l, rfl, by simpa using ⟨ha, hl⟩⟩
theorem rd_sliceOf {α : Type} {t e : TypeId} {s : Nat} {Q : α → Prop} {f : α → List Value} (ht : P.underlying t = some (.slice e)) (hc : P.cellsOf e = s) (hs : 0 < s) (he : Rd P W e (fun cs => ∃ a, cs = f a ∧ Q a)) :
   Rd P W t (fun cs => ∃ a c, ∃ l : List α, cs = [.slice a l.length c] ∧ (∀ x ∈ l, Q x) ∧ Cells s (.slice a l.length c) l.length (l.flatMap f) (hp W)) :=
 (rd_slice ht hc hs he).mono fun cs ⟨a, c, rows, hcs, hr, hC⟩ => by
   obtain ⟨l, rfl, hl⟩ := exists_map (Q := Q) (f := f) (R := fun r => r.length = s ∧ ∃ a, r = f a ∧ Q a) hr (fun r ⟨_, h⟩ => h)
   exact ⟨a, c, l, by simpa using hcs, hl, by simpa [List.flatMap_def] using hC⟩
theorem flatMap_single {α : Type} (g : α → Value) (l : List α) : (l.flatMap fun a => [g a]) = l.map g := by
 induction l with
 | nil => rfl
 | cons x l ih => simp [List.flatMap_cons, ih]
theorem rd_bytes {t e : TypeId} (ht : P.underlying t = some (.slice e)) (he : P.underlying e = some (.int .u8)) (hc : P.cellsOf e = 1) :
   Rd P W t (fun cs => ∃ a c, ∃ bs : List UInt8, cs = [.slice a bs.length c] ∧ Bytes (.slice a bs.length c) bs (hp W)) :=
 (rd_sliceOf (α := UInt8) (Q := fun _ => True) (f := fun b => [.int .u8 (b.toNat : Int)]) ht hc (by omega) ((rd_int he).mono fun cs ⟨z, h1, h2⟩ => by
   have h3 : 0 ≤ z ∧ z < 256 := by simp [Lit.wf] at h2; have e1 : IntKind.u8.min = 0 := rfl; have e2 : IntKind.u8.max = 255 := rfl; omega
   refine ⟨UInt8.ofNat z.toNat, ?_, trivial⟩
   rw [h1]
   have : (UInt8.ofNat z.toNat).toNat = z.toNat := by simp [UInt8.toNat_ofNat']; omega
   rw [this, Int.toNat_of_nonneg h3.1])).mono fun cs ⟨a, c, l, h1, _, h3⟩ => ⟨a, c, l, h1, by rw [flatMap_single] at h3; exact h3⟩
end Go.Sl
namespace Go.Sl
open Go
section
variable {P : Program} {N : Nat} {ops : Array Oper} {K : Env → World → Prop} {env : Env} {w : World} {rest : List Oper} {o : Oper} {x : Operand} {d : Option Nat} {ty : TypeId} {pos : String} {af : Array Edge} {g : Option (Nat × Bool)}
theorem WL.v {v : Value} {w' : World} (hr : (execOp (evo env) o).run P w = .ok (.value v) w') (k : WL P N ops K rest (updo env o.dst v) w') (hw : Region.wanted o (yieldedE ops env) = true := by rfl) (hd : inN N o.dst = true := by rfl) : WL P N ops K (o :: rest) env w := WL.val hr hw hd k
theorem WL.e {R : Value → World → Prop} (he : Eff P (evo env) o w R) (k : ∀ v w', R v w' → WL P N ops K rest (updo env o.dst v) w') (hw : Region.wanted o (yieldedE ops env) = true := by rfl) (hd : inN N o.dst = true := by rfl) : WL P N ops K (o :: rest) env w := WL.eff he hw hd k
theorem WL.s (k : WL P N ops K rest (updo env o.dst undef) w) (hw : Region.wanted o (yieldedE ops env) = false := by rfl) (hd : inN N o.dst = true := by rfl) : WL P N ops K (o :: rest) env w := WL.skip hw hd k
theorem WL.m (k : WL P N ops K rest (updo env d (evo env x)) w) (hw : Region.wanted ⟨d, .move x, ty, pos, af, g⟩ (yieldedE ops env) = true := by rfl) (hd : inN N d = true := by rfl) : WL P N ops K (⟨d, .move x, ty, pos, af, g⟩ :: rest) env w := WL.val run_move hw hd k
theorem WL.a (k : WL P N ops K rest (updo env d (evo env x)) w) (hw : Region.wanted ⟨d, .assign x, ty, pos, af, g⟩ (yieldedE ops env) = true := by rfl) (hd : inN N d = true := by rfl) : WL P N ops K (⟨d, .assign x, ty, pos, af, g⟩ :: rest) env w := WL.val run_assign hw hd k
theorem WL.n {a : Addr} (h : evo env x = .pointer (some a)) (k : WL P N ops K rest (updo env d (.pointer (some a))) w) (hw : Region.wanted ⟨d, .nilCheck x, ty, pos, af, g⟩ (yieldedE ops env) = true := by rfl) (hd : inN N d = true := by rfl) : WL P N ops K (⟨d, .nilCheck x, ty, pos, af, g⟩ :: rest) env w := WL.val (run_nilCheck h) hw hd k
theorem WL.f {s fi n b o : Nat} (off : Nat) {fs : Array Field} {f : Field} (hU : P.underlying s = some (.struct fs)) (hf : fs[fi]? = some f) (hS : ∀ w, (sizeOf f.type).run P w = .ok (n + 1) w) (h : evo env x = .pointer (some ⟨b, o, none⟩)) (ho : f.offset = off) (k : WL P N ops K rest (updo env d (.pointer (some ⟨b, o + off, none⟩))) w) (hw : Region.wanted ⟨d, .fieldAddr s x fi, ty, pos, af, g⟩ (yieldedE ops env) = true := by rfl) (hd : inN N d = true := by rfl) : WL P N ops K (⟨d, .fieldAddr s x fi, ty, pos, af, g⟩ :: rest) env w := WL.val (run_fieldAddr off hU hf hS h ho) hw hd k
theorem WL.l {t : TypeId} {a : Addr} {v : Value} (hA : ∀ w, (isAgg t).run P w = .ok false w) (h : evo env x = .pointer (some a)) (hc : w.cell? a = some v) (k : WL P N ops K rest (updo env d v) w) (hw : Region.wanted ⟨d, .load t x, ty, pos, af, g⟩ (yieldedE ops env) = true := by rfl) (hd : inN N d = true := by rfl) : WL P N ops K (⟨d, .load t x, ty, pos, af, g⟩ :: rest) env w := WL.val (run_load1 hA h hc) hw hd k
theorem WL.pt {c a b : Operand} (k : WL P N ops K rest (updo env d (evo env a)) w) (hc : evo env c = .bool true := by rfl) (hw : Region.wanted ⟨d, .pick c a b, ty, pos, af, g⟩ (yieldedE ops env) = true := by rfl) (hd : inN N d = true := by rfl) : WL P N ops K (⟨d, .pick c a b, ty, pos, af, g⟩ :: rest) env w := WL.val (run_pickT hc) hw hd k
theorem WL.pf {c a b : Operand} (k : WL P N ops K rest (updo env d (evo env b)) w) (hc : evo env c = .bool false := by rfl) (hw : Region.wanted ⟨d, .pick c a b, ty, pos, af, g⟩ (yieldedE ops env) = true := by rfl) (hd : inN N d = true := by rfl) : WL P N ops K (⟨d, .pick c a b, ty, pos, af, g⟩ :: rest) env w := WL.val (run_pickF hc) hw hd k
theorem WL.z (k : K (updo env d (evo env x)) w) (hw : Region.wanted ⟨d, .assign x, ty, pos, af, g⟩ (yieldedE ops env) = true := by rfl) (hd : inN N d = true := by rfl) : WL P N ops K [⟨d, .assign x, ty, pos, af, g⟩] env w := WL.val run_assign hw hd (WL.nil k)
theorem WL.q {p : Prop} [Decidable p] (hr : (execOp (evo env) o).run P w = .ok (.value (.bool (decide p))) w) (kT : p → WL P N ops K rest (updo env o.dst (.bool true)) w) (kF : ¬ p → WL P N ops K rest (updo env o.dst (.bool false)) w) (hw : Region.wanted o (yieldedE ops env) = true := by rfl) (hd : inN N o.dst = true := by rfl) : WL P N ops K (o :: rest) env w := WL.dec hr hw hd kT kF
theorem WL.c {W0 : World} {L : List HProp} {s fi n b o t : Nat} {l : List Value} {e : Nat} {fr : Nat × Nat} {v : Value} {y : Operand} {d2 : Option Nat} {ty2 : TypeId} {pos2 : String} {af2 : Array Edge} {g2 : Option (Nat × Bool)} (off : Nat) {fs : Array Field} {f : Field} (hU : P.underlying s = some (.struct fs)) (hf : fs[fi]? = some f) (hS : ∀ w, (sizeOf f.type).run P w = .ok (n + 1) w) (h : evo env x = .pointer (some ⟨b, o, none⟩)) (hA : ∀ w, (isAgg t).run P w = .ok false w) (H : On W0 L w) [i : HasBlk L b l e fr] (hl : l[o + off]? = some v) (k : WL P N ops K rest (updo (updo env d (.pointer (some ⟨b, o + off, none⟩))) d2 v) w)
   (ho : f.offset = off := by rfl) (hx : evo (updo env d (.pointer (some ⟨b, o + off, none⟩))) y = .pointer (some ⟨b, o + off, none⟩) := by rfl) (hw : Region.wanted ⟨d, .fieldAddr s x fi, ty, pos, af, g⟩ (yieldedE ops env) = true := by rfl) (hd : inN N d = true := by rfl) (hw2 : Region.wanted ⟨d2, .load t y, ty2, pos2, af2, g2⟩ (yieldedE ops (updo env d (.pointer (some ⟨b, o + off, none⟩)))) = true := by rfl) (hd2 : inN N d2 = true := by rfl) : WL P N ops K (⟨d, .fieldAddr s x fi, ty, pos, af, g⟩ :: ⟨d2, .load t y, ty2, pos2, af2, g2⟩ :: rest) env w := WL.val (run_fieldAddr off hU hf hS h ho) hw hd (WL.val (run_load1 hA hx (H.cellB hl)) hw2 hd2 k)
end
section
variable {P : Program} {N : Nat} {env : Env} {w : World} {Q : Exit → Env → World → Prop}
theorem W.cs {c : Operand} {x : Code} (h : Q .normal env w) (hc : evo env c = .bool false := by rfl) : W P N (.cond c x .skip) Q env w := W.condF hc (W.skip h)
theorem W.cf {c : Operand} {x y : Code} (h : W P N y Q env w) (hc : evo env c = .bool false := by rfl) : W P N (.cond c x y) Q env w := W.condF hc h
theorem W.ct {c : Operand} {x y : Code} (h : W P N x Q env w) (hc : evo env c = .bool true := by rfl) : W P N (.cond c x y) Q env w := W.condT hc h
theorem W.sr {id : Nat} {l : List Oper} {y : Code} (h : WL P N l.toArray (fun env' w' => thenQ P N y Q .normal env' w') l env w) : W P N (.seq (.region id l.toArray false) y) Q env w := W.seq (W.region h)
end
section
variable {P : Program} {N : Nat} {ops : Array Oper} {K : Env → World → Prop} {env : Env} {w : World} {T : Owed} {fuel : Nat} {listed : Array Bool} {x : Operand} {d : Option Nat} {ty : TypeId} {pos : String} {af : Array Edge} {g : Option (Nat × Bool)}
theorem WT.p (i : Nat) {oi : Oper} {v : Value} (hi : ops[i]? = some oi) (hv : ∀ w', (execOp (evo env) oi).run P w' = .ok (.value v) w') (k : WT P N ops K fuel T (listed.setIfInBounds i true) (updo env oi.dst v) w)
   (hb : takes ops listed i = true := by kernel_rfl) (hw : Region.wanted oi (yieldedE ops env) = true := by rfl) (hd : inN N oi.dst = true := by rfl) : WT P N ops K (fuel + 1) T listed env w := WT.pure i hi hb hv hw hd k
theorem WT.m (i : Nat) (hi : ops[i]? = some ⟨d, .move x, ty, pos, af, g⟩) (k : WT P N ops K fuel T (listed.setIfInBounds i true) (updo env d (evo env x)) w)
   (hb : takes ops listed i = true := by kernel_rfl) (hw : Region.wanted ⟨d, .move x, ty, pos, af, g⟩ (yieldedE ops env) = true := by rfl) (hd : inN N d = true := by rfl) : WT P N ops K (fuel + 1) T listed env w := WT.pure i hi hb (fun _ => run_move) hw hd k
theorem WT.a (i : Nat) (hi : ops[i]? = some ⟨d, .assign x, ty, pos, af, g⟩) (k : WT P N ops K fuel T (listed.setIfInBounds i true) (updo env d (evo env x)) w)
   (hb : takes ops listed i = true := by kernel_rfl) (hw : Region.wanted ⟨d, .assign x, ty, pos, af, g⟩ (yieldedE ops env) = true := by rfl) (hd : inN N d = true := by rfl) : WT P N ops K (fuel + 1) T listed env w := WT.pure i hi hb (fun _ => run_assign) hw hd k
theorem WT.n (i : Nat) {a : Addr} (hi : ops[i]? = some ⟨d, .nilCheck x, ty, pos, af, g⟩) (h : evo env x = .pointer (some a)) (k : WT P N ops K fuel T (listed.setIfInBounds i true) (updo env d (.pointer (some a))) w)
   (hb : takes ops listed i = true := by kernel_rfl) (hw : Region.wanted ⟨d, .nilCheck x, ty, pos, af, g⟩ (yieldedE ops env) = true := by rfl) (hd : inN N d = true := by rfl) : WT P N ops K (fuel + 1) T listed env w := WT.pure i hi hb (fun _ => run_nilCheck h) hw hd k
theorem WT.f (i : Nat) {s fi n b o : Nat} (off : Nat) {fs : Array Field} {f : Field} (hi : ops[i]? = some ⟨d, .fieldAddr s x fi, ty, pos, af, g⟩) (hU : P.underlying s = some (.struct fs)) (hf : fs[fi]? = some f) (hS : ∀ w, (sizeOf f.type).run P w = .ok (n + 1) w) (h : evo env x = .pointer (some ⟨b, o, none⟩)) (ho : f.offset = off) (k : WT P N ops K fuel T (listed.setIfInBounds i true) (updo env d (.pointer (some ⟨b, o + off, none⟩))) w)
   (hb : takes ops listed i = true := by kernel_rfl) (hw : Region.wanted ⟨d, .fieldAddr s x fi, ty, pos, af, g⟩ (yieldedE ops env) = true := by rfl) (hd : inN N d = true := by rfl) : WT P N ops K (fuel + 1) T listed env w := WT.pure i hi hb (fun _ => run_fieldAddr off hU hf hS h ho) hw hd k
theorem WT.l (i : Nat) {t : TypeId} {ad : Addr} {v : Value} (hi : ops[i]? = some ⟨d, .load t x, ty, pos, af, g⟩) (hA : ∀ w, (isAgg t).run P w = .ok false w) (h : evo env x = .pointer (some ad)) (hc : w.cell? ad = some v) (k : WT P N ops K fuel ((i, fun w => w.cell? ad = some v) :: T) (listed.setIfInBounds i true) (updo env d v) w)
   (hb : takes ops listed i = true := by kernel_rfl) (hw : Region.wanted ⟨d, .load t x, ty, pos, af, g⟩ (yieldedE ops env) = true := by rfl) (hd : inN N d = true := by rfl) : WT P N ops K (fuel + 1) T listed env w := WT.load1 i hi hb hA h hc hw hd k
theorem WT.e (i : Nat) {oi : Oper} {R : Value → World → Prop} (mask : List Bool) (hi : ops[i]? = some oi) (he : Eff P (evo env) oi w R) (k : ∀ v w', R v w' → AllOwed (keepM mask T) w' ∧ WT P N ops K fuel (keepM mask T) (listed.setIfInBounds i true) (updo env oi.dst v) w')
   (hr : Region.ready .any ops listed = [i] := by kernel_rfl) (hT : owedBy ops i T = keepM mask T := by kernel_rfl) (hw : Region.wanted oi (yieldedE ops env) = true := by rfl) (hd : inN N oi.dst = true := by rfl) : WT P N ops K (fuel + 1) T listed env w := WT.eff i mask hi hr hT he hw hd k
theorem WT.dn (h : K env w) (hr : Region.ready .any ops listed = [] := by kernel_rfl) : WT P N ops K fuel T listed env w := WT.done hr h
end
abbrev qv0 {a0 : Int} {a1 : Int} {a2 : Int} {a3 : Option Addr} {b3 c3 : Nat} {a4 : Int} : List Value := [.int .i64 a0, .int .i64 a1, .int .i64 a2, .slice a3 b3 c3, .int .i64 a4]
abbrev qv1 {a0 : Int} {a1 : Bool} {a2 : Int} {a3 : Int} {a4 : Int} {a5 : Int} {a6 : Int} {a7 : Int} {a8 : Int} {a9 : Int} {a10 : Int} {a11 : Int} {a12 : Int} {a13 : Int} {a14 : Int} {a15 : Int} {a16 : Int} {a17 : Int} {a18 : Int} {a19 : Int} {a20 : Int} {a21 : Int} {a22 : Int} {a23 : Int} {a24 : Int} {a25 : Int} {a26 : Option Addr} {b26 c26 : Nat} : List Value := [.int .i64 a0, .bool a1, .int .i64 a2, .int .i64 a3, .int .u32 a4, .int .u32 a5, .int .u32 a6, .int .u32 a7, .int .u32 a8, .int .u32 a9, .int .u8 a10, .int .u8 a11, .int .u8 a12, .int .u8 a13, .int .u8 a14, .int .u8 a15, .int .u8 a16, .int .u8 a17, .int .u8 a18, .int .u8 a19, .int .u8 a20, .int .u8 a21, .int .u8 a22, .int .u8 a23, .int .u8 a24, .int .u8 a25, .slice a26 b26 c26]
abbrev qv2 {a0 : Int} {a1 : Int} {a2 : Int} {a3 : Bool} {a4 : Bool} {a5 : Bool} {a6 : Bool} {a7 : Bool} {a8 : Bool} : List Value := [.int .i64 a0, .int .u8 a1, .int .u8 a2, .bool a3, .bool a4, .bool a5, .bool a6, .bool a7, .bool a8]
abbrev qv3 {a0 : Int} {a1 : Int} {a2 : Int} {a3 : Option Addr} {b3 c3 : Nat} {a4 : Int} {a5 : Int} {a6 : Int} {a7 : Bool} : List Value := [.int .i64 a0, .int .i64 a1, .int .i64 a2, .slice a3 b3 c3, .int .u64 a4, .int .u64 a5, .int .i64 a6, .bool a7]
abbrev qp0 : List (Nat × Nat) := [(0, 1), (1, 1), (2, 1), (3, 1), (4, 1)]
abbrev qp1 : List (Nat × Nat) := [(0, 1), (1, 1)]
abbrev qp2 : List (Nat × Nat) := [(0, 1), (1, 1), (2, 1), (3, 1), (4, 1), (5, 1), (6, 1), (7, 1), (8, 1), (9, 1), (10, 16), (26, 1)]
abbrev qp3 : List (Nat × Nat) := [(0, 1), (1, 1), (2, 1), (3, 1), (4, 1), (5, 1), (6, 1), (7, 1), (8, 1)]
abbrev qp4 : List (Nat × Nat) := [(0, 1), (1, 1), (2, 1), (3, 1), (4, 1), (5, 1), (6, 1), (7, 1)]
end Go.Sl
namespace Go.Sl
open Go
section
variable {P : Program} {w : World} {ρ : Operand → Value} {d : Option Nat} {ty : TypeId} {pos : String} {af : Array Edge} {g : Option (Nat × Bool)}
theorem run_convIn {s t : TypeId} {x : Operand} {k j : IntKind} {n : Int} {ds : TypeDesc} (hs : P.underlying s = some ds) (ht : P.underlying t = some (.int k)) (hx : ρ x = .int j n) (h : k.min ≤ n) (h' : n ≤ k.max) :
   (execOp ρ ⟨d, .convert s t x, ty, pos, af, g⟩).run P w = .ok (.value (.int k n)) w := by
 rw [run_convInt hs ht hx, wrap_in _ h h']
theorem run_shrN {t yt : TypeId} {x y : Operand} {k ky : IntKind} {m j : Nat} (hx : ρ x = .int k (m : Int)) (hy : ρ y = .int ky (j : Int)) (hj : j ≤ k.bits) :
   (execOp ρ ⟨d, .binOp .shr t x y yt, ty, pos, af, g⟩).run P w = .ok (.value (.int k ((m / 2 ^ j : Nat) : Int))) w := by
 rw [run_shr hx hy (by omega)]
 rw [Int.toNat_natCast, Nat.min_eq_left hj]
 have : (m : Int).fdiv (2 ^ j) = ((m / 2 ^ j : Nat) : Int) := by
   rw [Int.fdiv_eq_ediv_of_nonneg _ (Int.pow_nonneg (by omega))]
   rw [Int.natCast_ediv, Int.natCast_pow]
   rfl
 rw [this]
theorem ofInt_nat (b m : Nat) (h : m < 2 ^ b) : (BitVec.ofInt b (m : Int)).toNat = m := by
 rw [BitVec.toNat_ofInt]
 have : ((m : Int) % ((2 ^ b : Nat) : Int)) = (m : Int) := Int.emod_eq_of_lt (by omega) (by exact_mod_cast h)
 rw [this]; simp
theorem bits_top (k : IntKind) (m : Nat) (h : (m : Int) ≤ k.max) : m < 2 ^ k.bits := by
 cases k <;> simp [IntKind.max, IntKind.bits] at * <;> omega
theorem run_andN {t yt : TypeId} {x y : Operand} {k : IntKind} {m n : Nat} (hx : ρ x = .int k (m : Int)) (hy : ρ y = .int k (n : Int)) (hm : (m : Int) ≤ k.max) (hn : (n : Int) ≤ k.max) :
   (execOp ρ ⟨d, .binOp .and t x y yt, ty, pos, af, g⟩).run P w = .ok (.value (.int k ((m &&& n : Nat) : Int))) w := by
 rw [run_and hx hy]
 rw [BitVec.toNat_and, ofInt_nat _ _ (bits_top _ _ hm), ofInt_nat _ _ (bits_top _ _ hn)]
 have h1 : m &&& n ≤ n := Nat.and_le_right
 have h0 : k.min ≤ 0 := by cases k <;> decide
 rw [wrap_in _ (by omega) (by omega)]
theorem run_andMod {t yt : TypeId} {x y : Operand} {k : IntKind} {m n : Nat} (j : Nat) (hx : ρ x = .int k (m : Int)) (hy : ρ y = .int k (n : Int)) (hm : (m : Int) ≤ k.max) (hn : (n : Int) ≤ k.max) (hj : n = 2 ^ j - 1) :
   (execOp ρ ⟨d, .binOp .and t x y yt, ty, pos, af, g⟩).run P w = .ok (.value (.int k ((m % 2 ^ j : Nat) : Int))) w := by
 rw [run_andN hx hy hm hn, hj, Nat.and_two_pow_sub_one_eq_mod]
theorem run_convByte {s t : TypeId} {x : Operand} {j : IntKind} {n : Nat} {ds : TypeDesc} (hs : P.underlying s = some ds) (ht : P.underlying t = some (.int .u8)) (hx : ρ x = .int j (n : Int)) :
   (execOp ρ ⟨d, .convert s t x, ty, pos, af, g⟩).run P w = .ok (.value (.int .u8 ((UInt8.ofNat n).toNat : Int))) w := by
 rw [run_convInt hs ht hx]
 have : IntKind.wrap .u8 (n : Int) = (((UInt8.ofNat n).toNat : Nat) : Int) := by
   rw [UInt8.toNat_ofNat']
   simp [IntKind.wrap, IntKind.bits, IntKind.signed]
 rw [this]
theorem bytes_row {bs : List UInt8} {k : Nat} {x : UInt8} (h : bs[k]? = some x) : ((bytesV bs).drop (k * 1)).take 1 = [.int .u8 (x.toNat : Int)] := by
 rw [Nat.mul_one]
 have : (bytesV bs)[k]? = some (.int .u8 (x.toNat : Int)) := by simp [bytesV, byteV, h]
 obtain ⟨hl, he⟩ := List.getElem?_eq_some_iff.1 this
 rw [List.drop_eq_getElem_cons hl, List.take_succ_cons, List.take_zero, he]
end
end Go.Sl
namespace Go.Sl
open Go
section
variable {P : Program} {W0 w : World} {L : List HProp} {ρ : Operand → Value} {d : Option Nat} {ty : TypeId} {pos : String} {af : Array Edge} {g : Option (Nat × Bool)}
theorem madeOne (z : Value) (n : Nat) : (madeCells #[z] n).toList = List.replicate n z := by
 apply List.ext_getElem
 · simp [madeCells]
 intro i h1 h2; simp [madeCells, Nat.mod_one]
theorem eff_make {t e n bytes : Nat} {kl kc : IntKind} {x y : Operand} {z : Value} {i : TypeInfo} (H : On W0 L w) (hx : ρ x = .int kl (n : Int)) (hy : ρ y = .int kc (n : Int))
   (hU : P.underlying t = some (.slice e)) (hI : P.info? e = some i) (hsz : i.size = 1) (hby : i.bytes = bytes) (hz : i.zero = some z) (hzc : z.cells = #[z]) (hb : bytes * n ≤ 281474976710656) (hm : n ≤ maxLen) :
   Eff P ρ ⟨d, .makeSlice t x y, ty, pos, af, g⟩ w (fun v w' => ∃ b, v = .slice (some ⟨b, 0, none⟩) n n ∧ On W0 (Own 1 (.slice (some ⟨b, 0, none⟩) n n) n (List.replicate n z) :: L) w') := by
 have hml := maxLen_eq
 have hb' : (i.bytes : Int) * (n : Int) ≤ 281474976710656 := by
   have : ((i.bytes * n : Nat) : Int) ≤ 281474976710656 := by rw [hby]; omega
   rwa [Int.natCast_mul] at this
 have hr := run_make (P := P) w t e i z hU hI hz kl kc n n (by omega) (Int.le_refl _) hb' (by omega)
 simp only [Int.toNat_natCast, hsz, Nat.mul_one, hzc] at hr
 refine .inl ⟨_, _, by simp only [execOp, hx, hy, Sem.run_bind, hr, Result.andThen_ok, Sem.run_pure]; rfl, w.heap.size, rfl, ?_⟩
 have hO := H.alloc (.cells (madeCells #[z] n) e)
 have hO' : On W0 (blk w.heap.size (List.replicate n z) e :: L) (w.alloc (.cells (madeCells #[z] n) e)) := by
   rw [← madeOne]; exact hO
 exact Own.ofBlk hO' (by simp) hm
theorem eff_storeOwn {t b o k size n c : Nat} {x y : Operand} {v : Value} {xs : List Value} (H : On W0 (Own size (.slice (some ⟨b, o, none⟩) n c) n xs :: L) w) (hS : ∀ w, (sizeOf t).run P w = .ok 1 w) (h : ρ x = .pointer (some ⟨b, o + k, none⟩)) (hy : ρ y = v) (hv : v.oneCell' = true)
   (hk : k < n * size) : Eff P ρ ⟨d, .store t x y, ty, pos, af, g⟩ w (fun _ w' => On W0 (Own size (.slice (some ⟨b, o, none⟩) n c) n (xs.set k v) :: L) w') := by
 obtain ⟨hxl, hO⟩ := Own.openOn H
 rcases hO with ⟨rfl, ao, hv'⟩ | ⟨gb, off, cap, cur, e, fr, hv', hnc, hcm, hfit, htake, hfree, Hb⟩
 · omega
 simp only [Value.slice.injEq, Option.some.injEq, Addr.mk.injEq] at hv'
 obtain ⟨⟨rfl, rfl, _⟩, _, rfl⟩ := hv'
 have hnc' : n * size ≤ c * size := Nat.mul_le_mul_right _ hnc
 have hf := free_ok hfree (k := o + k) (by omega)
 have h1 := run_storeOne (P := P) (ρ := ρ) (d := d) (ty := ty) (pos := pos) (af := af) (g := g) hS h hy hv (Hb.block 0 rfl) (by rw [Nat.ble_eq]; omega) hf
 refine .inr (.inl ⟨_, h1, ?_⟩)
 have hO' := Hb.setCellL 0 rfl (o + k) v
 refine Own.closeOn (e := e) (fr := fr) hO' (by rw [List.length_set]; exact hxl) hnc hcm (by rw [List.length_set]; exact hfit) ?_ (by rw [List.length_set]; exact hfree)
 rw [List.drop_set, if_neg (by omega), show o + k - o = k by omega, List.take_set, htake]
theorem run_xorN {t yt : TypeId} {x y : Operand} {k : IntKind} {m n : Nat} (hx : ρ x = .int k (m : Int)) (hy : ρ y = .int k (n : Int)) (hm : (m : Int) ≤ k.max) (hn : (n : Int) ≤ k.max) (hr : ((m ^^^ n : Nat) : Int) ≤ k.max) :
   (execOp ρ ⟨d, .binOp .xor t x y yt, ty, pos, af, g⟩).run P w = .ok (.value (.int k ((m ^^^ n : Nat) : Int))) w := by
 rw [run_xor hx hy, BitVec.toNat_xor, ofInt_nat _ _ (bits_top _ _ hm), ofInt_nat _ _ (bits_top _ _ hn)]
 have h0 : k.min ≤ 0 := by cases k <;> decide
 rw [wrap_in _ (by omega) hr]
theorem run_orN {t yt : TypeId} {x y : Operand} {k : IntKind} {m n : Nat} (hx : ρ x = .int k (m : Int)) (hy : ρ y = .int k (n : Int)) (hm : (m : Int) ≤ k.max) (hn : (n : Int) ≤ k.max) (hr : ((m ||| n : Nat) : Int) ≤ k.max) :
   (execOp ρ ⟨d, .binOp .or t x y yt, ty, pos, af, g⟩).run P w = .ok (.value (.int k ((m ||| n : Nat) : Int))) w := by
 rw [run_or hx hy, BitVec.toNat_or, ofInt_nat _ _ (bits_top _ _ hm), ofInt_nat _ _ (bits_top _ _ hn)]
 have h0 : k.min ≤ 0 := by cases k <;> decide
 rw [wrap_in _ (by omega) hr]
theorem run_shlN {t yt : TypeId} {x y : Operand} {k ky : IntKind} {m j : Nat} (hx : ρ x = .int k (m : Int)) (hy : ρ y = .int ky (j : Int)) (hj : j ≤ k.bits) (hr : ((m * 2 ^ j : Nat) : Int) ≤ k.max) :
   (execOp ρ ⟨d, .binOp .shl t x y yt, ty, pos, af, g⟩).run P w = .ok (.value (.int k ((m * 2 ^ j : Nat) : Int))) w := by
 rw [run_shl hx hy (by omega), Int.toNat_natCast, Nat.min_eq_left hj]
 have h0 : k.min ≤ 0 := by cases k <;> decide
 have e : (m : Int) * 2 ^ j = ((m * 2 ^ j : Nat) : Int) := by rw [Int.natCast_mul, Int.natCast_pow]; rfl
 rw [e, wrap_in _ (by omega) hr]
theorem run_minI {tys : Array TypeId} {x y : Operand} {k : IntKind} {a b : Int} (hx : ρ x = .int k a) (hy : ρ y = .int k b) :
   (execOp ρ ⟨d, .call { callee := .builtin .min, args := #[x, y], argTypes := tys }, ty, pos, af, g⟩).run P w = .ok (.value (.int k (min a b))) w := by
 simp [execOp, resolve, invoke, builtin, hx, hy, run_min_int2]
 split <;> omega
theorem run_maxI {tys : Array TypeId} {x y : Operand} {k : IntKind} {a b : Int} (hx : ρ x = .int k a) (hy : ρ y = .int k b) :
   (execOp ρ ⟨d, .call { callee := .builtin .max, args := #[x, y], argTypes := tys }, ty, pos, af, g⟩).run P w = .ok (.value (.int k (max a b))) w := by
 simp [execOp, resolve, invoke, builtin, hx, hy, run_max_int2]
 split <;> omega
theorem eff_callV {env : Env} {x : Operand} {f : FuncId} {first captured : Array Value} {xs : List Operand} {tys : Array TypeId} {R : Value → World → Prop} (hx : evo env x = .func (.func f) first captured) (hf : ∀ args w, (callFunc f args).run P w = .ok (.enter f args) w)
   (hc : Calls P f (first ++ (xs.map (evo env)).toArray ++ captured) w (Ret R)) : Eff P (evo env) ⟨d, .call { callee := .value x, args := xs.toArray, argTypes := tys }, ty, pos, af, g⟩ w R :=
 .inr (.inr ⟨f, _, w, run_callV hx hf, hc⟩)
theorem firstCells_len {size q k k' c c' : Nat} {a : Option Addr} : Builtin.firstCells size q (.slice a k c) = Builtin.firstCells size q (.slice a k' c') := by cases a <;> rfl
theorem drop_splice_take {cur ys : List Value} {off lo n : Nat} (h : lo + ys.length ≤ n) (h2 : off + n ≤ cur.length) : ((splice cur (off + lo) ys).drop off).take n = splice ((cur.drop off).take n) lo ys := by
 apply List.ext_getElem?
 intro j
 unfold splice
 simp only [List.getElem?_take, List.getElem?_drop, List.getElem?_append, List.length_take, List.length_append, List.length_drop]
 by_cases hj : j < n
 · rw [if_pos hj]
   by_cases h1 : j < lo
   · rw [if_pos (by omega), if_pos (by omega), if_pos (by omega), if_pos (by omega), if_pos (by omega), if_pos hj, if_pos h1]
   by_cases h3 : j < lo + ys.length
   · rw [if_pos (by omega), if_neg (by omega), if_pos (by omega), if_neg (by omega)]
     congr 1; omega
   rw [if_neg (by omega), if_neg (by omega), if_pos (by omega)]
   congr 1; omega
 rw [if_neg hj, if_neg (by omega), if_neg (by omega)]
theorem eff_copyIn {t e lo m n c c' k cy : Nat} {b o : Nat} {ay : Option Addr} {xs ys : List Value} {sx sy : Operand} {tys : Array TypeId} (H : On W0 (Own 1 (.slice (some ⟨b, o, none⟩) n c) n xs :: L) w) (hs : ρ sx = .slice (some ⟨b, o + lo, none⟩) m c') (hy : ρ sy = .slice ay k cy) (C : Cells 1 (.slice ay k cy) k ys (hp w))
   (ht : tys[0]? = some t) (hU : P.underlying t = some (.slice e)) (hS : ∀ w, (sizeOf e).run P w = .ok 1 w) (hlo : lo + m ≤ n) (h1c : ∀ u ∈ ys, u.oneCell' = true) :
   Eff P ρ ⟨d, .call { callee := .builtin .copy, args := #[sx, sy], argTypes := tys }, ty, pos, af, g⟩ w (fun v w' => v = .int .i64 ((min k m : Nat) : Int) ∧ On W0 (Own 1 (.slice (some ⟨b, o, none⟩) n c) n (splice xs lo (ys.take (min k m))) :: L) w') := by
 have hml := maxLen_eq
 obtain ⟨hxl, hO⟩ := Own.openOn H
 rw [Nat.mul_one] at hxl
 have hyl : ys.length = k := by have := C.1; rw [Nat.mul_one] at this; exact this
 have hf := run_firstCells_C (P := P) (C.front (k := min k m) (Nat.min_le_left _ _))
 rw [Nat.mul_one, firstCells_len (k' := k) (c' := cy)] at hf
 have hly := lenOf_C (P := P) (w := w) C
 rcases hO with ⟨rfl, ao, hv'⟩ | ⟨gb, off, cap, cur, e', fr, hv', hnc, hcm, hfit, htake, hfree, Hb⟩
 · obtain rfl : m = 0 := by omega
   obtain rfl : lo = 0 := by omega
   have hx0 : xs = [] := List.eq_nil_of_length_eq_zero hxl
   subst hx0
   simp only [Nat.min_zero, List.take_zero] at hf ⊢
   refine .inl ⟨.int .i64 0, w, ?_, rfl, by simpa [splice] using H⟩
   simp [execOp, resolve, invoke, builtin, hs, hy, Builtin.copy_, ht, run_underlying hU, hS, hly, hf, storeCells, goInt]
 simp only [Value.slice.injEq, Option.some.injEq, Addr.mk.injEq] at hv'
 obtain ⟨⟨rfl, rfl, _⟩, _, rfl⟩ := hv'
 rw [Nat.mul_one] at hfit htake
 have hlt : (ys.take (min k m)).length = min k m := by rw [List.length_take, hyl]; omega
 have hmk : min k m ≤ m := Nat.min_le_right _ _
 obtain ⟨w', hst, hO'⟩ := Hb.storeCells (P := P) 0 rfl (o + lo) (ys.take (min k m)) (by omega) (fun u hu => h1c u (List.mem_of_mem_take hu)) (fun q h1 h2 => free_ok hfree (by omega))
 have hkm : k ≤ maxLen := by obtain ⟨_, _, cap, hv, h1, h2, _⟩ := C; simp only [Value.slice.injEq] at hv; omega
 refine .inl ⟨.int .i64 ((min k m : Nat) : Int), w', ?_, rfl, ?_⟩
 · have hg : goInt (Nat.min k m) = .int .i64 ((min k m : Nat) : Int) := rfl
   simp [execOp, resolve, invoke, builtin, hs, hy, Builtin.copy_, ht, run_underlying hU, hS, hly, hf, hst, goInt]
 refine Own.closeOn (e := e') (fr := fr) hO' ?_ hnc hcm (by rw [splice_length (by omega), Nat.mul_one]; exact hfit) ?_ (by rw [splice_length (by omega)]; exact hfree)
 · rw [splice_length (by omega), Nat.mul_one]; exact hxl
 rw [Nat.mul_one, drop_splice_take (by omega) (by omega), htake]
theorem fill_row {n size : Nat} {pl : List (Nat × Nat)} (hpl : pl = (List.range n).map fun i => (i * size, size)) : ∀ (vs : List (Nat × Value)) (zl : List Value), (∀ p ∈ vs, p.1 < n) → fits pl zl.length vs → Instr.fill (fun i => some (i * size, size)) zl.toArray vs = some (placed pl zl vs).toArray := by
 intro vs
 induction vs with
 | nil => intro zl _ _; rfl
 | cons p ps ih =>
   obtain ⟨i, v⟩ := p
   intro zl hlt h
   obtain ⟨⟨off, size', h1, h2, h3⟩, h4⟩ := h
   have hi : i < n := hlt (i, v) (by simp)
   have hpi : pl[i]? = some (i * size, size) := by rw [hpl]; simp [hi]
   rw [hpi] at h1
   cases h1
   have := fill_placed (fun j => if j = i then some (i * size, size) else none) [] 
   unfold Instr.fill
   have hle : v.cells.toList.length = size := by simpa using h2
   have c : ¬ (v.cells.size ≠ size ∨ i * size + v.cells.size > zl.toArray.size) := by simp [h2]; omega
   simp only [Bool.or_eq_true, decide_eq_true_eq]
   rw [if_neg (by simpa using c)]
   have hf := foldl_splice zl (i * size) v.cells.toList 0 (by simp at hle ⊢; omega)
   have e : (v.cells.zipIdx.foldl (fun cs (x : Value × Nat) => cs.setIfInBounds (i * size + x.2) x.1) zl.toArray) = (splice zl (i * size) v.cells.toList).toArray := by
     rw [← Array.foldl_toList]
     simpa using hf
   rw [e, ih _ (fun q hq => hlt q (List.mem_cons_of_mem _ hq)) (by rw [splice_length (by omega)]; exact h4)]
   simp [placed, hpi]
theorem run_buildA {t e n size : Nat} {ps : List (Nat × Operand)} {z : List Value} {pl : List (Nat × Nat)} {vs : List (Nat × Value)} {out : List Value}
   (hU : P.underlying t = some (.array n e)) (hS : ∀ w, (sizeOf e).run P w = .ok size w) (hZ : ∀ w, (zeroValue t).run P w = .ok (.agg z.toArray) w)
   (hpl : pl = (List.range n).map fun i => (i * size, size)) (hv : ps.map (fun p => (p.1, ρ p.2)) = vs) (hlt : ∀ p ∈ vs, p.1 < n) (hf : fits pl z.length vs) (ho : placed pl z vs = out) :
   (execOp ρ ⟨d, .build t ps.toArray, ty, pos, af, g⟩).run P w = .ok (.value (.agg out.toArray)) w := by
 have h : ∀ w, (Instr.build t (ps.toArray.map fun (i, x) => (i, ρ x))).run P w = .ok (.agg out.toArray) w := by
   intro w
   have hm : (ps.toArray.map fun (x : Nat × Operand) => (x.1, ρ x.2)).toList = vs := by rw [← hv]; simp
   unfold Instr.build
   simp only [Sem.run_bind, hZ, Result.andThen_ok, run_underlying hU, hS, Value.cells]
   have := fill_row hpl vs z hlt hf
   rw [hm, this, ho]
   rfl
 exact run_build h
theorem fits_row {n : Nat} : ∀ (vs : List (Nat × Value)), (∀ p ∈ vs, p.1 < n ∧ p.2.oneCell' = true) → fits ((List.range n).map fun i => (i * 1, 1)) n vs := by
 intro vs
 induction vs with
 | nil => intro _; trivial
 | cons p vs ih =>
   obtain ⟨i, v⟩ := p
   intro h
   obtain ⟨h1, h2⟩ := h (i, v) (by simp)
   exact ⟨⟨i * 1, 1, by simp [h1], by rw [cells_one h2]; rfl, by omega⟩, ih fun p hp => h p (List.mem_cons_of_mem _ hp)⟩
theorem placed_row {n : Nat} : ∀ (vs pre rest : List Value), rest.length = vs.length → pre.length + vs.length = n → (∀ v ∈ vs, v.oneCell' = true) → placed ((List.range n).map fun i => (i * 1, 1)) (pre ++ rest) (List.zip (List.range' pre.length vs.length) vs) = pre ++ vs := by
 intro vs
 induction vs with
 | nil => intro pre rest h _ _; have : rest = [] := List.eq_nil_of_length_eq_zero h; subst this; rfl
 | cons v vs ih =>
   intro pre rest hl hn h1
   obtain ⟨r, rest, rfl⟩ : ∃ r rest', rest = r :: rest' := by cases rest with | nil => simp at hl | cons r rest => exact ⟨r, rest, rfl⟩
   simp only [List.length_cons] at hl hn ⊢
   rw [List.range'_succ, List.zip_cons_cons]
   show placed _ (splice (pre ++ r :: rest) ((((List.range n).map fun i => (i * 1, 1))[pre.length]?.getD (0, 0)).1) v.cells.toList) _ = _
   have e1 : ((List.range n).map fun i => (i * 1, 1))[pre.length]? = some (pre.length, 1) := by
     rw [List.getElem?_map, List.getElem?_range (by omega)]; simp
   rw [e1, cells_one (h1 v (by simp))]
   have e2 : splice (pre ++ r :: rest) pre.length [v] = (pre ++ [v]) ++ rest := by
     unfold splice
     rw [List.take_left, show pre.length + [v].length = (pre ++ [r]).length by simp, show pre ++ r :: rest = (pre ++ [r]) ++ rest by simp, List.drop_left]
   show placed _ (splice (pre ++ r :: rest) pre.length [v]) _ = _
   rw [e2]
   have := ih (pre ++ [v]) rest (by omega) (by simp; omega) (fun u hu => h1 u (List.mem_cons_of_mem _ hu))
   rw [List.length_append] at this
   simpa using this
theorem eff_mkRow {t n e : Nat} {ps : List (Nat × Operand)} {z : Value} {out : List Value} (H : On W0 L w) (hU : P.underlying t = some (.slice e)) (hS : ∀ w, (sizeOf e).run P w = .ok 1 w) (hZ : ∀ w, (zeroValue e).run P w = .ok z w) (hz : z.cells = #[z])
   (hn : n ≤ 16777216) (hi : ps.map (·.1) = List.range n) (hv : ps.map (fun p => ρ p.2) = out) (h1 : out.all (·.oneCell') = true) :
   Eff P ρ ⟨d, .buildSlice t n ps.toArray, ty, pos, af, g⟩ w (fun v w' => ∃ b, v = .slice (some ⟨b, 0, none⟩) n n ∧ On W0 (Own 1 (.slice (some ⟨b, 0, none⟩) n n) n out :: L) w') := by
 have hol : out.length = n := by rw [← hv, List.length_map]; have := congrArg List.length hi; simpa using this
 have h1' : ∀ v ∈ out, v.oneCell' = true := by simpa using h1
 have hvs : ps.map (fun p => (p.1, ρ p.2)) = List.zip (List.range n) out := by
   rw [← hi, ← hv, List.zip_map']
 refine eff_mkSlice (zl := List.replicate n z) H hU hS hZ (by omega) ?_ rfl hvs (fun p hp => ?_) ?_ ?_ (by omega) (by have := maxLen_eq; omega)
 · by_cases h0 : n = 0
   · subst h0; simp
   have : ¬ n * 1 = 0 := by omega
   simp only [this, if_false, hz]
   apply Array.ext
   · simp
   intro i h1 h2; simp [Nat.mod_one]
 · have := (List.of_mem_zip hp).1; simpa using this
 · rw [List.length_replicate]
   refine fits_row _ fun p hp => ?_
   obtain ⟨a, b⟩ := List.of_mem_zip hp
   exact ⟨by simpa using a, h1' _ b⟩
 have := placed_row (n := n) out [] (List.replicate n z) (by simp [hol]) (by simp [hol]) h1'
 rw [List.nil_append, List.nil_append, List.length_nil, hol, ← List.range_eq_range'] at this
 exact this
end
end Go.Sl
namespace Go.Sl
open Go
section
variable {P : Program} {W0 w : World} {L : List HProp} {ρ : Operand → Value} {d : Option Nat} {ty : TypeId} {pos : String} {af : Array Edge} {g : Option (Nat × Bool)}
theorem sliced_part {b o lo hi c : Nat} (h1 : lo ≤ hi) (h2 : hi ≤ c) : ∃ lo', sliced (some ⟨b, o, none⟩) lo hi c 1 = .slice (some ⟨b, o + lo', none⟩) (hi - lo) (c - lo) ∧ (lo' = lo ∨ (hi - lo = 0 ∧ lo' = 0)) := by
 unfold sliced
 by_cases h : c = lo
 · exact ⟨0, by simp [h], .inr ⟨by omega, rfl⟩⟩
 exact ⟨lo, by simp [h, Addr.add_mk], .inl rfl⟩
theorem run_cutLV {t e size n c l : Nat} {kl : IntKind} {x y : Operand} {a : Option Addr} {v : Value} (hU : P.underlying t = some (.slice e)) (hS : ∀ w, (sizeOf e).run P w = .ok size w) (hx : ρ x = .slice a n c) (hy : ρ y = .int kl l) (h1 : l ≤ n) (hv : sliced a l n c size = v) :
   (execOp ρ ⟨d, .slice t x (some y) none none, ty, pos, af, g⟩).run P w = .ok (.value v) w := by rw [← hv]; exact run_cutL hU hS hx hy h1
theorem run_cutLHV {t e size n c l h : Nat} {kl kh : IntKind} {x y z : Operand} {a : Option Addr} {v : Value} (hU : P.underlying t = some (.slice e)) (hS : ∀ w, (sizeOf e).run P w = .ok size w) (hx : ρ x = .slice a n c) (hy : ρ y = .int kl l) (hz : ρ z = .int kh h) (h1 : l ≤ h) (h2 : h ≤ c) (hv : sliced a l h c size = v) :
   (execOp ρ ⟨d, .slice t x (some y) (some z) none, ty, pos, af, g⟩).run P w = .ok (.value v) w := by rw [← hv]; exact run_cutLH hU hS hx hy hz h1 h2
theorem run_andV {t yt : TypeId} {x y : Operand} {k : IntKind} {m n : Nat} {v : Int} (hv : ((m &&& n : Nat) : Int) = v) (hx : ρ x = .int k (m : Int)) (hy : ρ y = .int k (n : Int)) (hm : (m : Int) ≤ k.max) (hn : (n : Int) ≤ k.max) :
   (execOp ρ ⟨d, .binOp .and t x y yt, ty, pos, af, g⟩).run P w = .ok (.value (.int k v)) w := by rw [← hv]; exact run_andN hx hy hm hn
theorem zeroOne (z : Value) (n : Nat) : (Builtin.zeroCells #[z] n).toList = List.replicate n z := by
 apply List.ext_getElem
 · simp [Builtin.zeroCells]
 intro i h1 h2; simp [Builtin.zeroCells, Nat.mod_one]
theorem eff_clearIn {t e lo m n c c' : Nat} {b o : Nat} {z : Value} {xs : List Value} {sx : Operand} {tys : Array TypeId} (H : On W0 (Own 1 (.slice (some ⟨b, o, none⟩) n c) n xs :: L) w) (hs : ρ sx = .slice (some ⟨b, o + lo, none⟩) m c')
   (ht : tys[0]? = some t) (hU : P.underlying t = some (.slice e)) (hZ : ∀ w, (zeroValue e).run P w = .ok z w) (hz : z.cells = #[z]) (hz1 : z.oneCell' = true) (hlo : lo + m ≤ n) :
   Eff P ρ ⟨d, .call { callee := .builtin .clear, args := #[sx], argTypes := tys }, ty, pos, af, g⟩ w (fun v w' => On W0 (Own 1 (.slice (some ⟨b, o, none⟩) n c) n (splice xs lo (List.replicate m z)) :: L) w') := by
 obtain ⟨hxl, hO⟩ := Own.openOn H
 rw [Nat.mul_one] at hxl
 rcases hO with ⟨rfl, ao, hv'⟩ | ⟨gb, off, cap, cur, e', fr, hv', hnc, hcm, hfit, htake, hfree, Hb⟩
 · obtain rfl : m = 0 := by omega
   obtain rfl : lo = 0 := by omega
   have hx0 : xs = [] := List.eq_nil_of_length_eq_zero hxl
   subst hx0
   refine .inl ⟨.tuple #[], w, ?_, by simpa [splice] using H⟩
   simp [execOp, resolve, invoke, builtin, hs, Builtin.clear_, ht, run_underlying hU]
 simp only [Value.slice.injEq, Option.some.injEq, Addr.mk.injEq] at hv'
 obtain ⟨⟨rfl, rfl, _⟩, _, rfl⟩ := hv'
 rw [Nat.mul_one] at hfit htake
 have hlt : (List.replicate m z).length = m := by simp
 obtain ⟨w', hst, hO'⟩ := Hb.storeCells (P := P) 0 rfl (o + lo) (List.replicate m z) (by omega) (fun u hu => by rw [(List.mem_replicate.1 hu).2]; exact hz1) (fun q h1 h2 => free_ok hfree (by omega))
 have hcl : On W0 (Own 1 (.slice (some ⟨b, o, none⟩) n c) n (splice xs lo (List.replicate m z)) :: L) w' := by
   refine Own.closeOn (e := e') (fr := fr) hO' ?_ hnc hcm (by rw [splice_length (by omega), Nat.mul_one]; exact hfit) ?_ (by rw [splice_length (by omega)]; exact hfree)
   · rw [splice_length (by omega), Nat.mul_one]; exact hxl
   rw [Nat.mul_one, drop_splice_take (by omega) (by omega), htake]
 by_cases hm0 : m = 0
 · subst hm0
   refine .inl ⟨.tuple #[], w, ?_, ?_⟩
   · simp [execOp, resolve, invoke, builtin, hs, Builtin.clear_, ht, run_underlying hU]
   have : splice xs lo (List.replicate 0 z) = xs := by simp [splice]
   rw [this]; exact H
 refine .inl ⟨.tuple #[], w', ?_, hcl⟩
 obtain ⟨q, rfl⟩ : ∃ q, m = q + 1 := ⟨m - 1, by omega⟩
 have hzc : (Builtin.zeroCells z.cells (q + 1)).toList = List.replicate (q + 1) z := by rw [hz, zeroOne]
 rw [← hzc] at hst
 simp [execOp, resolve, invoke, builtin, hs, Builtin.clear_, ht, run_underlying hU, hZ, hst]
end
end Go.Sl
namespace Go.Sl
open Go
section
variable {P : Program} {W0 w : World} {L : List HProp} {ρ : Operand → Value} {d : Option Nat} {ty : TypeId} {pos : String} {af : Array Edge} {g : Option (Nat × Bool)}
theorem run_makeFunc {fn : Fn} {xs ys : List Operand} : (execOp ρ ⟨d, .makeFunc fn xs.toArray ys.toArray, ty, pos, af, g⟩).run P w = .ok (.value (.func fn (xs.map ρ).toArray (ys.map ρ).toArray)) w := by
 simp [execOp, Instr.makeFunc]
theorem run_indexArr {t e n : Nat} {x y : Operand} {k : IntKind} {i : Int} {cs : List Value} {v : Value} (hU : P.underlying t = some (.array n e)) (hS : ∀ w, (sizeOf e).run P w = .ok 1 w) (hA : ∀ w, (isAgg e).run P w = .ok false w)
   (hx : ρ x = .agg cs.toArray) (hy : ρ y = .int k i) (h0 : 0 ≤ i) (h1 : i < n) (hv : cs[i.toNat]? = some v) : (execOp ρ ⟨d, .index t x y, ty, pos, af, g⟩).run P w = .ok (.value v) w := by
 simp [execOp, Instr.index, run_underlying hU, hx, hy, asIntOf, hS, h0, h1, part, hA, hv]
theorem run_indexStr {t : Nat} {x y : Operand} {k : IntKind} {i : Nat} {s : ByteArray} {c : UInt8} (hU : P.underlying t = some .string) (hx : ρ x = .string s) (hy : ρ y = .int k (i : Int)) (hc : s[i]? = some c) : (execOp ρ ⟨d, .index t x y, ty, pos, af, g⟩).run P w = .ok (.value (.int .u8 (c.toNat : Int))) w := by
 simp [execOp, Instr.index, run_underlying hU, hx, hy, asIntOf, hc]
end
end Go.Sl
namespace Go.Sl
open Go
abbrev KV := Int × Value × Nat
def ent (kd : IntKind) (x : KV) : MapEntry := { key := .int kd x.1, val := x.2.1, born := x.2.2 }
def mapO (kd : IntKind) (kvs : List KV) (ck : Nat) : Obj := .map (kvs.map (ent kd)).toArray ck
def fitM (kvs : List KV) (ck : Nat) : Prop := (kvs.map (·.1)).Nodup ∧ (kvs.map (·.2.2)).Nodup ∧ ∀ x ∈ kvs, x.2.2 < ck
def MapC (b : Nat) (kd : IntKind) (kvs : List KV) (ck : Nat) : HProp := fun h => fitM kvs ck ∧ h b = some (mapO kd kvs ck)
section
variable {P : Program} {W0 w : World} {L : List HProp} {ρ : Operand → Value} {d : Option Nat} {ty : TypeId} {pos : String} {af : Array Edge} {g : Option (Nat × Bool)}
theorem On.mapClose {b : Nat} {kd : IntKind} {kvs : List KV} {ck : Nat} (hf : fitM kvs ck) (H : On W0 (pts b (mapO kd kvs ck) :: L) w) : On W0 (MapC b kd kvs ck :: L) w := H.head fun h a => ⟨hf, a⟩
theorem eff_makeMap {t : Nat} {kd : IntKind} (H : On W0 L w) : Eff P ρ ⟨d, .makeMap t none, ty, pos, af, g⟩ w (fun v w' => ∃ b, v = .map (some b) ∧ On W0 (MapC b kd [] 0 :: L) w') := by
 refine .inl ⟨.map (some w.heap.size), w.alloc (.map #[] 0), ?_, _, rfl, On.mapClose ⟨List.nodup_nil, List.nodup_nil, fun x hx => by cases hx⟩ (H.alloc _)⟩
 have hn : (newObj (.map #[] 0)).run P w = .ok w.heap.size (w.alloc (.map #[] 0)) := rfl
 simp [execOp, Instr.makeMap, hn]
end
end Go.Sl
namespace Go.Sl
open Go
def Big {α : Type} (A : α → HProp) (l : List α) : HProp := star (l.map A)
section
variable {α : Type} {A : α → HProp} {l l' : List α} {W0 w : World} {L : List HProp}
theorem map_eraseIdxS (f : α → HProp) : ∀ (l : List α) (i : Nat), (l.map f).eraseIdx i = (l.eraseIdx i).map f
 | [], _ => by simp
 | _ :: _, 0 => by simp
 | x :: l, i + 1 => by simp [map_eraseIdxS f l i]
theorem Big.nil (H : On W0 L w) : On W0 (Big A [] :: L) w := H.new fun h => trivial
theorem Big.perm (p : l.Perm l') (H : On W0 (Big A l :: L) w) : On W0 (Big A l' :: L) w := H.head fun h s => Sat.perm (p.map A) s
theorem Big.open {i : Nat} {x : α} (hx : l[i]? = some x) (H : On W0 (Big A l :: L) w) : On W0 (A x :: Big A (l.eraseIdx i) :: L) w := by
 have h1 := H.unstar
 have h2 := h1.pull i (A := A x) (by
   have hlt := (List.getElem?_eq_some_iff.1 hx).1
   rw [List.getElem?_append_left (by simpa using hlt), List.getElem?_map, hx]; rfl)
 have hlt := (List.getElem?_eq_some_iff.1 hx).1
 rw [List.eraseIdx_append_of_lt_length (by simpa using hlt), map_eraseIdxS] at h2
 have h3 : On W0 ((A x :: (l.eraseIdx i).map A) ++ L) w := h2
 have h4 : On W0 (([A x] ++ ((l.eraseIdx i).map A)) ++ L) w := h3
 rw [List.append_assoc] at h4
 have h5 : On W0 (A x :: ((l.eraseIdx i).map A ++ L)) w := h4
 exact h5.imp fun h s => s.tailImp fun k s' => Sat.toStar s'
theorem Big.close {i : Nat} {y : α} (hi : i < l.length) (H : On W0 (A y :: Big A (l.eraseIdx i) :: L) w) : On W0 (Big A (l.set i y) :: L) w := by
 have h1 : On W0 (A y :: ((l.eraseIdx i).map A ++ L)) w := H.imp fun h s => s.tailImp fun k s' => Sat.unstar s'
 have h2 : On W0 ((A y :: (l.eraseIdx i).map A) ++ L) w := h1
 have h3 : On W0 (Big A (y :: l.eraseIdx i) :: L) w := On.toStar h2
 refine Big.perm ?_ h3
 have e1 : l.set i y = l.take i ++ y :: l.drop (i + 1) := by rw [List.set_eq_take_append_cons_drop, if_pos hi]
 have e2 : l.eraseIdx i = l.take i ++ l.drop (i + 1) := List.eraseIdx_eq_take_drop_succ ..
 rw [e1, e2]
 exact List.perm_middle.symm
theorem Big.push {y : α} (H : On W0 (A y :: Big A l :: L) w) : On W0 (Big A (l ++ [y]) :: L) w := by
 have h1 : On W0 (A y :: (l.map A ++ L)) w := H.imp fun h s => s.tailImp fun k s' => Sat.unstar s'
 have h2 : On W0 ((A y :: l.map A) ++ L) w := h1
 have h3 : On W0 (Big A (y :: l) :: L) w := On.toStar h2
 exact Big.perm (List.perm_append_singleton y l).symm h3
end
end Go.Sl
namespace Go.Sl
open Go
section
variable {P : Program} {w : World} {ρ : Operand → Value} {d : Option Nat} {ty : TypeId} {pos : String} {af : Array Edge} {g : Option (Nat × Bool)}
theorem run_addStr {t yt : TypeId} {x y : Operand} {a b : List UInt8} (hx : ρ x = .string ⟨a.toArray⟩) (hy : ρ y = .string ⟨b.toArray⟩) (h : a.length + b.length ≤ 9223372036854775807) :
   (execOp ρ ⟨d, .binOp .add t x y yt, ty, pos, af, g⟩).run P w = .ok (.value (.string ⟨(a ++ b).toArray⟩)) w := by
 have h1 := run_string_add_sum (P := P) (w := w) ⟨a.toArray⟩ ⟨b.toArray⟩ (by simpa [ByteArray.size] using h)
 have e : (⟨a.toArray⟩ : ByteArray) ++ ⟨b.toArray⟩ = ⟨(a ++ b).toArray⟩ := by
   apply ByteArray.ext
   rw [ByteArray.data_append]
   simp
 rw [e] at h1
 simp [execOp, eqGuard, hx, hy, binOp, h1]
end
end Go.Sl
namespace Go.Sl
open Go
section
variable {P : Program} {W0 w : World} {L L' : List HProp} {ρ : Operand → Value} {d : Option Nat} {ty : TypeId} {pos : String} {af : Array Edge} {g : Option (Nat × Bool)}
end
end Go.Sl
namespace Go.Sl
open Go
section
variable {P : Program} {W0 w : World} {L L' : List HProp} {ρ : Operand → Value} {d : Option Nat} {ty : TypeId} {pos : String} {af : Array Edge} {g : Option (Nat × Bool)}
theorem append_zeros {t t2 e size n m bytes : Nat} {v z : Value} {xs ys : List Value} {i : TypeInfo} {ty : TypeId} (H : On W0 (Own size v n xs :: L) w) 
   (hU : P.underlying t = some (.slice e)) (hU2 : P.underlying t2 = some (.int .i64)) (hys : ys = (Builtin.zeroCells z.cells m).toList) (hI : P.info? e = some i) (hsz : i.size = size) (hby : i.bytes = bytes) (hz : i.zero = some z) (hzs : z.cells.size = size) (hone : i.size = 1)
   (h63 : n + m ≤ maxLen) (hb : (n + m) * bytes ≤ 140737488355328) (h1c : ∀ u ∈ ys, u.oneCell' = true) :
   ∃ v' w', (Builtin.append_ #[t, t2] ty #[v, .int .i64 (m : Int)]).run P w = .ok v' w' ∧ Grown size (n + m) (xs ++ ys) W0 L v' w' := by
 subst hsz
 subst hby
 have hylen : ys.length = m * i.size := by rw [hys]; simp [size_zeroCells, hzs]
 have hw1 : IntKind.i64.wrap (m : Int) = (m : Int) := IntWalk.i64_in _ ⟨by omega, by simp only [maxLen] at h63; omega⟩
 have hneg : ¬ ((m : Int) < 0) := by omega
 have hw0 : IntKind.i64.wrap 0 = 0 := by decide
 have hbig : ¬ ((281474976710656 : Int) < (m : Int) * (i.bytes : Int)) := by
   have h1 : m * i.bytes ≤ (n + m) * i.bytes := Nat.mul_le_mul_right _ (by omega)
   have h2 : (m : Int) * (i.bytes : Int) = ((m * i.bytes : Nat) : Int) := by simp
   rw [h2]; omega
 have happ : ∀ w : World, (if m * i.size = 0 then (pure #[] : Sem (Array Value)) else do pure (Builtin.zeroCells (← zeroValue e).cells m)).run P w = .ok ys.toArray w := by
   intro w
   by_cases h0 : m * i.size = 0
   · have : ys = [] := List.eq_nil_of_length_eq_zero (by rw [hylen, h0])
     rw [if_pos h0, this]; rfl
   rw [if_neg h0]
   simp [zeroValue, typeInfo, hI, hz, hys]
 have hO := H.get 0 rfl (Own_mono _ _ _ _)
 have Cx := hO.cells
 have hxlen : xs.length = n * i.size := hO.1
 have hm63 : ((n + m : Nat) : Int) ≤ 9223372036854775807 := by simp only [maxLen] at h63; omega
 have grow : ∀ (ao : Option Addr) (cap : Nat), v = .slice ao n cap → cap < n + m → ∃ v' w', (Builtin.append_ #[t, t2] ty #[v, .int .i64 (m : Int)]).run P w = .ok v' w' ∧ Grown i.size (n + m) (xs ++ ys) W0 L v' w' := by
   intro ao cap hv hcap
   have hne : ¬ (n + m ≤ cap) := by omega
   have h63' : ¬ (9223372036854775807 < ((n : Int) + (m : Int))) := by omega
   have h48' : ¬ (281474976710656 < Builtin.nextslicecap (n + m) cap * i.bytes) := by
     have := growslice_fits (old := cap) (by omega) hb; omega
   have Cxd : Cells i.size v n xs (hp w.drew) := Cx
   have hfd := happ w.drew
   have hfx := run_firstCells_C (P := P) Cxd
   subst hv
   refine ⟨.slice (some ⟨w.heap.size, 0, none⟩) (n + m) (grownCap w (n + m) cap e), w.drew.alloc (.cells (xs.toArray ++ ys.toArray ++ Builtin.zeroCells z.cells (grownCap w (n + m) cap e - (n + m))) e), ?_, ?_⟩
   · obtain ⟨hnc, _⟩ := Cells.bounds Cx
     have hm0 : ¬ m = 0 := by omega
     have hfx1 := hfx
     rw [hone] at hfx1
     simp [Builtin.append_, run_underlying hU, run_underlying hU2, asInt, asIntOf, sizeOf, typeInfo, zeroValue, hI, hz, hw1, hneg, hbig, hne, h63', h48', Question.forced, hfx1, newRow, grownCap, hm0, hone, hys]
   refine ⟨_, _, rfl, ?_⟩
   have hge := grownCap_ge w (n + m) cap e
   have hcm : grownCap w (n + m) cap e ≤ maxLen := grownCap_le_maxLen w (n + m) cap e h63
   have hA := (H.tail.drew).alloc (.cells (xs.toArray ++ ys.toArray ++ Builtin.zeroCells z.cells (grownCap w (n + m) cap e - (n + m))) e)
   refine hA.head fun h hh => ⟨by simp [hxlen, hylen, Nat.add_mul], .inr ⟨w.heap.size, 0, grownCap w (n + m) cap e, xs ++ ys ++ (Builtin.zeroCells z.cells (grownCap w (n + m) cap e - (n + m))).toList, e, (0, 0), rfl, hge, hcm, ?_, ?_, ?_, ?_⟩⟩
   · simp only [List.length_append, hxlen, hylen, Array.length_toList, size_zeroCells, hzs, ← Nat.add_mul]
     rw [Nat.zero_add]
     apply Nat.le_of_eq; congr 1; omega
   · rw [List.drop_zero]
     have : (n + m) * i.size = (xs ++ ys).length := by simp [hxlen, hylen, Nat.add_mul]
     rw [this]
     exact List.take_left
   · exact .inl rfl
   have hh' : h w.drew.heap.size = _ := hh
   rw [show w.drew.heap.size = w.heap.size from rfl] at hh'
   rw [hh']
   simp [obj]
 rcases (Own.openOn H).2 with ⟨rfl, ao, rfl⟩ | ⟨gb, off, cap, cur, e', fr, rfl, hnc, hcm, hfit, htake, hfree, Hb⟩
 · by_cases hm : m = 0
   · subst hm
     have hy0 : ys = [] := List.eq_nil_of_length_eq_zero (by simpa using hylen)
     have hx0 : xs = [] := List.eq_nil_of_length_eq_zero (by simpa using hxlen)
     subst hy0; subst hx0
     refine ⟨.slice ao 0 0, w, ?_, ⟨ao, 0, rfl, H⟩⟩
     cases ao <;> simp [Builtin.append_, run_underlying hU, run_underlying hU2, asInt, asIntOf, sizeOf, typeInfo, hI, storeCells, hw0]
   exact grow ao 0 rfl (by omega)
 by_cases hroom : n + m ≤ cap
 · have hfit' : off + n * i.size + ys.length ≤ cur.length := by
     rw [hylen]
     have : (n + m) * i.size ≤ cap * i.size := Nat.mul_le_mul_right _ hroom
     rw [Nat.add_mul] at this
     omega
   have hcapm : off + n * i.size + ys.length ≤ off + cap * i.size := by
     rw [hylen]
     have : (n + m) * i.size ≤ cap * i.size := Nat.mul_le_mul_right _ hroom
     rw [Nat.add_mul] at this
     omega
   obtain ⟨w', hst, hO'⟩ := Hb.storeCells (P := P) 0 rfl (off + n * i.size) ys hfit' h1c (fun k h1 h2 => free_ok hfree (by omega))
   refine ⟨.slice (some ⟨gb, off, none⟩) (n + m) cap, w', ?_, _, _, rfl, ?_⟩
   · have hst1 := hst
     rw [hone, Nat.mul_one] at hst1
     by_cases hm0 : m = 0
     · have hy0 : ys = [] := List.eq_nil_of_length_eq_zero (by rw [hylen, hm0, Nat.zero_mul])
       rw [hy0] at hst1
       have hroom0 : n ≤ cap := by omega
       simp [Builtin.append_, run_underlying hU, run_underlying hU2, asInt, asIntOf, sizeOf, typeInfo, hI, hw0, hm0, hroom0, Addr.add_mk, hone] at hst1 ⊢
       rw [hst1]
       simp
     have hy1 : (Builtin.zeroCells z.cells m).toList = ys := hys.symm
     simp [Builtin.append_, run_underlying hU, run_underlying hU2, asInt, asIntOf, sizeOf, typeInfo, zeroValue, hz, hI, hw1, hneg, hbig, hroom, Addr.add_mk, hm0, hone, hy1, hst1]
   have e1 := take_splice (m := (n + m) * i.size) htake hxlen hfit' (by rw [hylen, Nat.add_mul])
   exact Own.closeOn (e := e') (fr := fr) hO' (by simp [hxlen, hylen, Nat.add_mul]) hroom hcm (by rw [splice_length hfit']; exact hfit) e1 (by rw [splice_length hfit']; exact hfree)
 exact grow (some ⟨gb, off, none⟩) cap rfl (by omega)
end
end Go.Sl
namespace Go.Sl
open Go
abbrev BX := Option Addr × Nat × List UInt8
def BX.b (x : BX) : List UInt8 := x.2.2
def BX.v (x : BX) : Value := .slice x.1 x.2.2.length x.2.1
theorem row_v {l : List BX} {i : Nat} {x : BX} (h : l[i]? = some x) : ((l.map BX.v).drop (i * 1)).take 1 = [.slice x.1 x.2.2.length x.2.1] := by
 have hlt := (List.getElem?_eq_some_iff.1 h).1
 have hx := (List.getElem?_eq_some_iff.1 h).2
 rw [Nat.mul_one, List.drop_eq_getElem_cons (by simpa using hlt), List.take_succ_cons, List.take_zero, List.getElem_map, hx]
 rfl
theorem take_snoc {α : Type} {l : List α} {i : Nat} {x : α} (h : l[i]? = some x) : l.take (i + 1) = l.take i ++ [x] := by rw [List.take_add_one, h]; rfl
end Go.Sl
namespace Go.Sl
open Go
theorem Gives.nilC {L : List HProp} {size : Nat} : Gives L (Cells size (.slice none 0 0) 0 []) := fun h _ => ⟨by simp, none, 0, rfl, Nat.le_refl _, by simp, fun _ => rfl, fun h => absurd h (by simp)⟩
end Go.Sl
namespace Go.Sl
open Go
section
variable {P : Program} {W0 w : World} {L : List HProp} {ρ : Operand → Value} {d : Option Nat} {ty : TypeId} {pos : String} {af : Array Edge} {g : Option (Nat × Bool)}
end
section
variable {P : Program} {w : World}
theorem results_cell_tmp2 {fn : Func} {p u v : Tmp} {ty : TypeId} (h : fn.results = #[.cell p ty, .tmp u, .tmp v]) (tmps : Array Value) (P : Program) (w : World) :
   (results fn tmps).run P w =
     ((asAddr (tmps.getD p undef)).run P w).andThen fun a w₁ => ((loadVar ty a).run P w₁).andThen fun x w₂ => .ok (.tuple #[x, tmps.getD u undef, tmps.getD v undef]) w₂ := by
 simp only [results, h]
 simp [Sem.run_bind, Result.andThen]
theorem bodyQ.rctt {N : Nat} {env : Env} {fn : Func} {R : Value → World → Prop} {t u v rt b n : Nat} {vs : List Value} {v2 v3 : Value} (h : fn.results = #[.cell t rt, .tmp u, .tmp v]) (hA : ∀ w, (isAgg rt).run P w = .ok true w) (hS : ∀ w, (sizeOf rt).run P w = .ok n w)
   (he : env t = .pointer (some ⟨b, 0, none⟩)) (hl : vs.length = n) (hc : ∀ j u, vs[j]? = some u → w.cell? ⟨b, 0 + j, none⟩ = some u) (h2 : env u = v2) (h3 : env v = v3) (hR : R (.tuple #[.agg vs.toArray, v2, v3]) w) :
   bodyQ P fn R .ret env w := by
 refine ⟨.tuple #[.agg vs.toArray, v2, v3], fun tmps hg => ?_, hR⟩
 have hp : tmps.getD t undef = .pointer (some ⟨b, 0, none⟩) := by rw [hg, he]
 have hp' : tmps[t]?.getD undef = .pointer (some ⟨b, 0, none⟩) := by simpa using hp
 have := run_loadCells_list (P := P) w ⟨b, 0, none⟩ vs (fun j v hv => by rw [Addr.add_mk]; exact hc j v hv)
 rw [hl] at this
 rw [results_cell_tmp2 h, hp]
 simp only [asAddr, Sem.run_pure, Result.andThen_ok]
 simp [loadVar, hA, hS, this, ← h2, ← h3, ← hg u, ← hg v]
theorem bodyQ.rcttB {W0 : World} {L : List HProp} {env : Env} {fn : Func} {R : Value → World → Prop} {t u v rt b n : Nat} {l vs : List Value} {v2 v3 : Value} {e : Nat} {fr : Nat × Nat} (H : On W0 L w) (h : fn.results = #[.cell t rt, .tmp u, .tmp v]) (hA : ∀ w, (isAgg rt).run P w = .ok true w) (hS : ∀ w, (sizeOf rt).run P w = .ok n w)
   (he : env t = .pointer (some ⟨b, 0, none⟩)) [i : HasBlk L b l e fr] (hv : l = vs) (hl : vs.length = n) (h2 : env u = v2) (h3 : env v = v3) (hR : R (.tuple #[.agg vs.toArray, v2, v3]) w) : bodyQ P fn R .ret env w :=
 bodyQ.rctt (N := 0) h hA hS he hl (fun j u hj => by rw [Nat.zero_add]; exact H.cellB (i := i) (by rw [hv]; exact hj)) h2 h3 hR
end
end Go.Sl
namespace Go.Sl
open Go
section
variable {P : Program} {w : World} {env : Env}
end
section
variable {P : Program} {w : World} {ρ : Operand → Value} {d : Option Nat} {ty : TypeId} {pos : String} {af : Array Edge} {g : Option (Nat × Bool)}
theorem run_quoN {t yt : TypeId} {x y : Operand} {m n : Nat} (hx : ρ x = .int .i64 (m : Int)) (hy : ρ y = .int .i64 (n : Int)) (h2 : m ≤ 9223372036854775807) (h' : 1 ≤ n) : (execOp ρ ⟨d, .binOp .quo t x y yt, ty, pos, af, g⟩).run P w = .ok (.value (.int .i64 ((m / n : Nat) : Int))) w := by
 rw [run_quo hx hy (by omega) (by omega) (by omega)]
 rw [Int.natCast_ediv]
theorem run_remN {t yt : TypeId} {x y : Operand} {m n : Nat} (hx : ρ x = .int .i64 (m : Int)) (hy : ρ y = .int .i64 (n : Int)) (h' : 1 ≤ n) : (execOp ρ ⟨d, .binOp .rem t x y yt, ty, pos, af, g⟩).run P w = .ok (.value (.int .i64 ((m % n : Nat) : Int))) w := by
 rw [run_rem hx hy (by omega) (by omega)]
 rw [Int.natCast_emod]
theorem run_maxN {tys : Array TypeId} {x y : Operand} {m n r : Nat} (hx : ρ x = .int .i64 (m : Int)) (hy : ρ y = .int .i64 (n : Int)) (hr : max m n = r) : (execOp ρ ⟨d, .call { callee := .builtin .max, args := #[x, y], argTypes := tys }, ty, pos, af, g⟩).run P w = .ok (.value (.int .i64 (r : Int))) w := by
 rw [run_maxI hx hy, show max (m : Int) (n : Int) = (r : Int) by omega]
theorem run_minN {tys : Array TypeId} {x y : Operand} {m n r : Nat} (hx : ρ x = .int .i64 (m : Int)) (hy : ρ y = .int .i64 (n : Int)) (hr : min m n = r) : (execOp ρ ⟨d, .call { callee := .builtin .min, args := #[x, y], argTypes := tys }, ty, pos, af, g⟩).run P w = .ok (.value (.int .i64 (r : Int))) w := by
 rw [run_minI hx hy, show min (m : Int) (n : Int) = (r : Int) by omega]
end
section
variable {P : Program} {w : World} {d : Option Nat} {ty : TypeId} {pos : String} {af : Array Edge} {g : Option (Nat × Bool)}
theorem eff_call2C {env : Env} {x x1 x2 : Operand} {f : FuncId} {cap v1 v2 : Value} {tys : Array TypeId} {R : Value → World → Prop} (hx : evo env x = .func (.func f) #[] #[cap]) (hf : ∀ args w, (callFunc f args).run P w = .ok (.enter f args) w)
   (h1 : evo env x1 = v1) (h2 : evo env x2 = v2) (hc : Calls P f #[v1, v2, cap] w (Ret R)) : Eff P (evo env) ⟨d, .call { callee := .value x, args := #[x1, x2], argTypes := tys }, ty, pos, af, g⟩ w R := by
 subst h1; subst h2
 exact eff_callV (xs := [x1, x2]) hx hf hc
end
end Go.Sl
namespace Go.Sl
open Go
section
variable {P : Program} {W0 w : World} {L : List HProp} {ρ : Operand → Value} {d : Option Nat} {ty : TypeId} {pos : String} {af : Array Edge} {g : Option (Nat × Bool)}
theorem eff_copyPart {t e size lo m n c c' k cy : Nat} {b o : Nat} {ay : Option Addr} {xs ys : List Value} {sx sy : Operand} {tys : Array TypeId} (H : On W0 (Own size (.slice (some ⟨b, o, none⟩) n c) n xs :: L) w) (hs : ρ sx = .slice (some ⟨b, o + lo * size, none⟩) m c') (hy : ρ sy = .slice ay k cy) (C : Cells size (.slice ay k cy) k ys (hp w))
   (ht : tys[0]? = some t) (hU : P.underlying t = some (.slice e)) (hS : ∀ w, (sizeOf e).run P w = .ok size w) (hlo : lo + m ≤ n) (h1c : ∀ u ∈ ys.take (min k m * size), u.oneCell' = true) :
   Eff P ρ ⟨d, .call { callee := .builtin .copy, args := #[sx, sy], argTypes := tys }, ty, pos, af, g⟩ w (fun v w' => v = .int .i64 ((min k m : Nat) : Int) ∧ On W0 (Own size (.slice (some ⟨b, o, none⟩) n c) n (splice xs (lo * size) (ys.take (min k m * size))) :: L) w') := by
 have hml := maxLen_eq
 obtain ⟨hxl, hO⟩ := Own.openOn H
 have hyl : ys.length = k * size := C.1
 have hf := run_firstCells_C (P := P) (C.front (k := min k m) (Nat.min_le_left _ _))
 rw [firstCells_len (k' := k) (c' := cy)] at hf
 have hly := lenOf_C (P := P) (w := w) C
 have hmk : min k m ≤ m := Nat.min_le_right _ _
 have hmks : min k m * size ≤ m * size := Nat.mul_le_mul_right _ hmk
 have hmkk : min k m * size ≤ k * size := Nat.mul_le_mul_right _ (Nat.min_le_left _ _)
 have hlon : lo * size + m * size ≤ n * size := by rw [← Nat.add_mul]; exact Nat.mul_le_mul_right _ hlo
 have hlt : (ys.take (min k m * size)).length = min k m * size := by rw [List.length_take, hyl]; omega
 rcases hO with ⟨rfl, ao, hv'⟩ | ⟨gb, off, cap, cur, e', fr, hv', hnc, hcm, hfit, htake, hfree, Hb⟩
 · obtain rfl : m = 0 := by omega
   obtain rfl : lo = 0 := by omega
   have hx0 : xs = [] := List.eq_nil_of_length_eq_zero (by rw [hxl]; simp)
   subst hx0
   simp only [Nat.min_zero, Nat.zero_mul, List.take_zero] at hf ⊢
   refine .inl ⟨.int .i64 0, w, ?_, rfl, by simpa [splice] using H⟩
   simp [execOp, resolve, invoke, builtin, hs, hy, Builtin.copy_, ht, run_underlying hU, hS, hly, hf, storeCells, goInt]
 simp only [Value.slice.injEq, Option.some.injEq, Addr.mk.injEq] at hv'
 obtain ⟨⟨rfl, rfl, _⟩, _, rfl⟩ := hv'
 have hncs : n * size ≤ c * size := Nat.mul_le_mul_right _ hnc
 obtain ⟨w', hst, hO'⟩ := Hb.storeCells (P := P) 0 rfl (o + lo * size) (ys.take (min k m * size)) (by rw [hlt]; omega) h1c (fun q h1 h2 => free_ok hfree (by rw [hlt] at h2; omega))
 refine .inl ⟨.int .i64 ((min k m : Nat) : Int), w', ?_, rfl, ?_⟩
 · have hg : goInt (Nat.min k m) = .int .i64 ((min k m : Nat) : Int) := rfl
   simp [execOp, resolve, invoke, builtin, hs, hy, Builtin.copy_, ht, run_underlying hU, hS, hly, hf, hst, goInt]
 refine Own.closeOn (e := e') (fr := fr) hO' ?_ hnc hcm (by rw [splice_length (by rw [hlt]; omega)]; exact hfit) ?_ (by rw [splice_length (by rw [hlt]; omega)]; exact hfree)
 · rw [splice_length (by rw [hlt]; omega)]; exact hxl
 rw [drop_splice_take (by rw [hlt]; omega) (by omega), htake]
theorem eff_appZeros {t tn e size i k bytes cap : Nat} {kn kx : IntKind} {ao : Option Addr} {z : Value} {xs : List Value} {ti : TypeInfo} {sx sk : Operand} (H : On W0 L w) (C : Cells size (.slice ao i cap) i xs (hp w)) (hs : ρ sx = .slice ao i cap) (hk : ρ sk = .int kx (k : Int)) (hk0 : 0 < k) (hcap : cap < i + k)
   (hU : P.underlying t = some (.slice e)) (hN : P.underlying tn = some (.int kn)) (hI : P.info? e = some ti) (hsz : ti.size = size) (hs0 : 0 < size) (hby : ti.bytes = bytes) (hz : ti.zero = some z) (hzs : z.cells.size = size)
   (h63 : i + k ≤ maxLen) (hb : (i + k) * bytes ≤ 140737488355328) :
   Eff P ρ ⟨d, .call { callee := .builtin .append, args := #[sx, sk], argTypes := #[t, tn] }, ty, pos, af, g⟩ w (fun v w' => ∃ b c, v = .slice (some ⟨b, 0, none⟩) (i + k) c ∧ On W0 (Own size (.slice (some ⟨b, 0, none⟩) (i + k) c) (i + k) (xs ++ (Builtin.zeroCells z.cells k).toList) :: L) w') := by
 subst hsz
 subst hby
 have hml := maxLen_eq
 have hxlen : xs.length = i * ti.size := C.1
 have hne : ¬ (i + k ≤ cap) := by omega
 have h63' : ¬ (9223372036854775807 < ((i : Int) + (k : Int))) := by omega
 have h48' : ¬ (281474976710656 < Builtin.nextslicecap (i + k) cap * ti.bytes) := by
   have := growslice_fits (old := cap) (by omega) hb; omega
 have hkb : k * ti.bytes ≤ (i + k) * ti.bytes := Nat.mul_le_mul_right _ (by omega)
 have h48i : ¬ (281474976710656 < (k : Int) * (ti.bytes : Int)) := by
   rw [← Int.natCast_mul]; omega
 have hw : IntKind.i64.wrap (k : Int) = k := by rw [IntKind.wrap_i64]; omega
 have hks : ¬ (k = 0 ∨ ti.size = 0) := by omega
 have Cxd : Cells ti.size (.slice ao i cap) i xs (hp w.drew) := C
 have hfx := run_firstCells_C (P := P) Cxd
 have hlt0 : ¬ ((k : Int) < 0) := by omega
 refine .inl ⟨.slice (some ⟨w.heap.size, 0, none⟩) (i + k) (grownCap w (i + k) cap e), w.drew.alloc (.cells (xs.toArray ++ Builtin.zeroCells z.cells k ++ Builtin.zeroCells z.cells (grownCap w (i + k) cap e - (i + k))) e), ?_, ?_⟩
 · have hr : (Builtin.append_ #[t, tn] ty #[.slice ao i cap, .int kx k]).run P w = .ok (.slice (some ⟨w.heap.size, 0, none⟩) (i + k) (grownCap w (i + k) cap e)) (w.drew.alloc (.cells (xs.toArray ++ Builtin.zeroCells z.cells k ++ Builtin.zeroCells z.cells (grownCap w (i + k) cap e - (i + k))) e)) := by
     simp [Builtin.append_, run_underlying hU, run_underlying hN, sizeOf, typeInfo, zeroValue, hI, hz, hne, h63', h48', h48i, hw, hks, hlt0, Question.forced, hfx, newRow, grownCap, asInt, asIntOf]
     intro h0
     have := Nat.mul_pos hk0 hs0
     omega
   simp [execOp, resolve, invoke, builtin, hs, hk, hr]
 refine ⟨_, _, rfl, ?_⟩
 have hge := grownCap_ge w (i + k) cap e
 have hcm : grownCap w (i + k) cap e ≤ maxLen := grownCap_le_maxLen w (i + k) cap e h63
 have hA := (H.drew).alloc (.cells (xs.toArray ++ Builtin.zeroCells z.cells k ++ Builtin.zeroCells z.cells (grownCap w (i + k) cap e - (i + k))) e)
 have hzl : (Builtin.zeroCells z.cells k).toList.length = k * ti.size := by simp [size_zeroCells, hzs]
 refine hA.head fun h hh => ⟨by rw [List.length_append, hxlen, hzl, Nat.add_mul], .inr ⟨w.heap.size, 0, grownCap w (i + k) cap e, xs ++ (Builtin.zeroCells z.cells k).toList ++ (Builtin.zeroCells z.cells (grownCap w (i + k) cap e - (i + k))).toList, e, (0, 0), rfl, hge, hcm, ?_, ?_, ?_, ?_⟩⟩
 · simp only [List.length_append, hxlen, hzl, Array.length_toList, size_zeroCells, hzs, ← Nat.add_mul]
   rw [Nat.zero_add]
   apply Nat.le_of_eq; congr 1; omega
 · rw [List.drop_zero]
   have : (i + k) * ti.size = (xs ++ (Builtin.zeroCells z.cells k).toList).length := by rw [List.length_append, hxlen, hzl, Nat.add_mul]
   rw [this]
   exact List.take_left
 · exact .inl rfl
 have hh' : h w.drew.heap.size = _ := hh
 rw [show w.drew.heap.size = w.heap.size from rfl] at hh'
 rw [hh']
 simp [obj]
theorem sliced_add {b o lo hi m size : Nat} (h : m ≠ lo) : sliced (some ⟨b, o, none⟩) lo hi m size = .slice (some ⟨b, o + lo * size, none⟩) (hi - lo) (m - lo) := by
 unfold sliced
 rw [if_neg h]
 simp [Addr.add_mk]
end
end Go.Sl
namespace Go.Sl
open Go
section
variable {P : Program} {w : World} {ρ : Operand → Value} {d : Option Nat} {ty : TypeId} {pos : String} {af : Array Edge} {g : Option (Nat × Bool)}
theorem run_capSlice {t e n c : Nat} {a : Option Addr} {x : Operand} (hU : P.underlying t = some (.slice e)) (h : ρ x = .slice a n c) :
   (execOp ρ ⟨d, .call { callee := .builtin .cap, args := #[x], argTypes := #[t] }, ty, pos, af, g⟩).run P w = .ok (.value (.int .i64 (c : Int))) w := by
 simp [execOp, resolve, invoke, builtin, h, Builtin.cap_, run_underlying hU, goInt]
end
end Go.Sl
namespace Go.Sl
open Go
theorem sliced_tail (b o l n c size : Nat) : sliced (some ⟨b, o, none⟩) l n c size = .slice (if c = l then some ⟨b, o, none⟩ else some ⟨b, o + l * size, none⟩) (n - l) (c - l) := by
 unfold sliced
 by_cases h : c = l <;> simp [h, Addr.add_mk]
theorem Own.tail {W0 w : World} {L : List HProp} {size n c b o l : Nat} {xs : List Value} (H : On W0 (Own size (.slice (some ⟨b, o, none⟩) n c) n xs :: L) w) (hl : l ≤ n) :
   On W0 (Own size (.slice (if c = l then some ⟨b, o, none⟩ else some ⟨b, o + l * size, none⟩) (n - l) (c - l)) (n - l) (xs.drop (l * size)) :: L) w := H.head fun h ⟨hx, ho⟩ => by
 have hlx : (xs.drop (l * size)).length = (n - l) * size := by rw [List.length_drop, hx, Nat.sub_mul]
 refine ⟨hlx, ?_⟩
 rcases ho with ⟨h0, ao, hv⟩ | ⟨g, off, cap, cur, e, fr, hv, h1, h2, h3, h4, h5, h6⟩
 · simp only [Value.slice.injEq] at hv
   obtain ⟨rfl, rfl, rfl⟩ := hv
   exact .inl ⟨by omega, _, by rw [Nat.zero_sub]⟩
 simp only [Value.slice.injEq, Option.some.injEq, Addr.mk.injEq] at hv
 obtain ⟨⟨rfl, rfl, _⟩, _, rfl⟩ := hv
 by_cases hc : c = l
 · exact .inl ⟨by omega, _, by rw [show n - l = 0 by omega, show c - l = 0 by omega]⟩
 rw [if_neg hc]
 have hle : l * size ≤ c * size := Nat.mul_le_mul_right _ (by omega)
 refine .inr ⟨b, o + l * size, c - l, cur, e, fr, rfl, by omega, by omega, ?_, ?_, h5, h6⟩
 · rw [Nat.sub_mul]; omega
 rw [← h4, List.drop_take, List.drop_drop, Nat.sub_mul]
theorem zerosB (n : Nat) : bytesV (List.replicate n 0) = List.replicate n (.int .u8 0) := by
 unfold bytesV
 rw [List.map_replicate]
 rfl
theorem bytes_set (bs : List UInt8) (i : Nat) (x : UInt8) : (bytesV bs).set i (.int .u8 (x.toNat : Int)) = bytesV (bs.set i x) := by
 unfold bytesV
 rw [List.map_set]
section
variable {P : Program} {w : World} {ρ : Operand → Value} {d : Option Nat} {ty : TypeId} {pos : String} {af : Array Edge} {g : Option (Nat × Bool)}
end
end Go.Sl
namespace Go.Sl.BitM
open Go Go.Sl
def bit (m : List UInt8) (i : Nat) : Bool := (m.getD (i / 8) 0).toNat.testBit (i % 8)
theorem getD_some {m : List UInt8} {k : Nat} {x : UInt8} (h : m[k]? = some x) : m.getD k 0 = x := by rw [List.getD_eq_getElem?_getD, h]; rfl
theorem bit_out {m : List UInt8} {i : Nat} (h : 8 * m.length ≤ i) : bit m i = false := by
 unfold bit
 rw [List.getD_eq_getElem?_getD, List.getElem?_eq_none (by omega)]
 simp
theorem byte_ext {x y : UInt8} (h : ∀ j, j < 8 → x.toNat.testBit j = y.toNat.testBit j) : x = y := by
 apply UInt8.toNat_inj.1
 apply Nat.eq_of_testBit_eq
 intro j
 rcases Nat.lt_or_ge j 8 with hj | hj
 · exact h j hj
 rw [Nat.testBit_lt_two_pow (Nat.lt_of_lt_of_le x.toNat_lt (Nat.pow_le_pow_right (by omega) hj)), Nat.testBit_lt_two_pow (Nat.lt_of_lt_of_le y.toNat_lt (Nat.pow_le_pow_right (by omega) hj))]
def hasI (m : List UInt8) (i : Int) : Bool := decide (0 ≤ i) && bit m i.toNat
theorem hasI_nat (m : List UInt8) (i : Nat) : hasI m (i : Int) = bit m i := by unfold hasI; simp
theorem hasI_out {m : List UInt8} {i : Int} (h : ¬ (0 ≤ i ∧ i < 8 * (m.length : Int))) : hasI m i = false := by
 unfold hasI
 by_cases h0 : 0 ≤ i
 · rw [bit_out (by omega)]; simp
 simp [h0]
theorem bit_at {m : List UInt8} {i : Nat} {x : UInt8} (h : m[i / 8]? = some x) : bit m i = decide (x.toNat / 2 ^ (i % 8) % 2 = 1) := by
 unfold bit
 rw [getD_some h, Nat.testBit_eq_decide_div_mod_eq]
def newB (n : Int) : List UInt8 := if n < 1 ∨ 1048576 < n then [] else List.replicate ((n.toNat + 7) / 8) 0
def flip (m : List UInt8) (i : Nat) : List UInt8 := m.set (i / 8) (UInt8.ofNat ((m.getD (i / 8) 0).toNat ^^^ 2 ^ (i % 8)))
theorem flip_length (m : List UInt8) (i : Nat) : (flip m i).length = m.length := by simp [flip]
theorem bytesV_flip {m : List UInt8} {i : Nat} {x : UInt8} (h : m[i / 8]? = some x) : (bytesV m).set (i / 8) (.int .u8 ((x.toNat ^^^ (1 * 2 ^ (i % 8)) : Nat) : Int)) = bytesV (flip m i) := by
 unfold flip
 rw [getD_some h, Nat.one_mul]
 unfold bytesV
 rw [List.map_set]
 congr 1
 have hx : x.toNat ^^^ 2 ^ (i % 8) < 256 := Nat.xor_lt_two_pow (n := 8) x.toNat_lt (Nat.lt_of_le_of_lt (Nat.pow_le_pow_right (by omega) (show i % 8 ≤ 7 by omega)) (by omega))
 show Value.int .u8 _ = Value.int .u8 (((UInt8.ofNat _).toNat : Nat) : Int)
 rw [UInt8.toNat_ofNat', Nat.mod_eq_of_lt hx]
theorem xor_lt (x : UInt8) {k : Nat} (hk : k < 8) : x.toNat ^^^ 2 ^ k < 256 :=
 Nat.xor_lt_two_pow (n := 8) x.toNat_lt (Nat.lt_of_le_of_lt (Nat.pow_le_pow_right (by omega) (show k ≤ 7 by omega)) (by omega))
def turnN (m : List UInt8) (lo : Nat) (s : Bool) : Nat → List UInt8 × Nat
 | 0 => (m, 0)
 | k + 1 => if bit (turnN m lo s k).1 (lo + k) = s then turnN m lo s k else (flip (turnN m lo s k).1 (lo + k), (turnN m lo s k).2 + 1)
theorem turnN_length (m : List UInt8) (lo : Nat) (s : Bool) (k : Nat) : (turnN m lo s k).1.length = m.length := by
 induction k with
 | zero => rfl
 | succ k ih => unfold turnN; split <;> simp [ih, flip_length]
theorem turnN_le (m : List UInt8) (lo : Nat) (s : Bool) (k : Nat) : (turnN m lo s k).2 ≤ k := by
 induction k with
 | zero => exact Nat.le_refl _
 | succ k ih =>
   unfold turnN
   split
   · exact Nat.le_succ_of_le ih
   exact Nat.succ_le_succ ih
def turnK (m : List UInt8) (fr n : Int) : Nat := if fr < 0 ∨ n < 0 ∨ ((8 * m.length : Nat) : Int) ≤ fr then 0 else min n.toNat (8 * m.length - fr.toNat)
def turned (m : List UInt8) (fr n : Int) (s : Bool) : List UInt8 := (turnN m fr.toNat s (turnK m fr n)).1
def turns (m : List UInt8) (fr n : Int) (s : Bool) : Nat := (turnN m fr.toNat s (turnK m fr n)).2
theorem turned_length (m : List UInt8) (fr n : Int) (s : Bool) : (turned m fr n s).length = m.length := turnN_length ..
structure Good (m : List UInt8) (R : List (Nat × Nat)) (e : Nat) : Prop where
 cover : ∀ j, j < e → (bit m j = true ↔ ∃ r ∈ R, r.1 ≤ j ∧ j < r.1 + r.2)
 pos : ∀ r ∈ R, 0 < r.2 ∧ r.1 + r.2 ≤ e
 apart : ∀ (i : Nat) r q, R[i]? = some r → R[i + 1]? = some q → r.1 + r.2 < q.1
 stop : R ≠ [] → bit m e = false
 few : R.length ≤ e
 le : e ≤ 8 * m.length
structure Rows (m : List UInt8) (R : List (Nat × Nat)) : Prop where
 cover : ∀ j, (bit m j = true ↔ ∃ r ∈ R, r.1 ≤ j ∧ j < r.1 + r.2)
 pos : ∀ r ∈ R, 0 < r.2 ∧ r.1 + r.2 ≤ 8 * m.length
 apart : ∀ (i : Nat) r q, R[i]? = some r → R[i + 1]? = some q → r.1 + r.2 < q.1
 few : R.length ≤ 8 * m.length
end Go.Sl.BitM
namespace Go.Proofs.YtjfmjbmkkpkppaaGreatDoor
open Go.Proofs.Tryz
open Go Go.Sl Go.Sl.BitM
set_option maxHeartbeats 4000000
set_option maxRecDepth 8000
theorem Tryz.follows : Tryz.prog.follows .mixedOrders = true := by kernel_rfl
variable {W0 w : World} {L F : List HProp}
theorem bnew_ok {n : Int} (h : On W0 L w) : Calls Tryz.prog 77 #[.int .i64 n] w (Ret fun v w' => ∃ a c, v = .slice a (newB n).length c ∧ On W0 (Own 1 (.slice a (newB n).length c) (newB n).length (bytesV (newB n)) :: L) w') := by
 refine enter func77 rfl ntmps77 rfl ?_
 have hl := maxLen_eq
 refine W.sr (WL.z (W.seq (W.sr (WL.m ?_))))
 refine WL.q (run_lss rfl rfl) (fun c4 => ?_) (fun c4 => ?_)
 ·
  refine WL.m (WL.s (WL.s (WL.pt (WL.nil (W.ct (W.sr ?_))))))
  refine WL.z (W.ret (bodyQ.r1 (v := .slice _ _ _) results77 rfl ?_))
  have e : newB n = [] := by unfold newB; rw [if_pos (by omega)]
  rw [e]
  exact ⟨none, 0, rfl, h.ownEmpty 1 none⟩
 refine WL.m (WL.m (WL.v (run_gtr rfl rfl) (WL.pf (WL.nil ?_))))
 refine W.condIf rfl (fun c2 => ?_) (fun c2 => ?_)
 ·
  refine W.sr (WL.z (W.ret (bodyQ.r1 (v := .slice _ _ _) results77 rfl ?_)))
  have e : newB n = [] := by unfold newB; rw [if_pos (by omega)]
  rw [e]
  exact ⟨none, 0, rfl, h.ownEmpty 1 none⟩
 refine W.skip (W.seq ?_)
 have ob_ := Int.eq_ofNat_of_zero_le (show 0 ≤ n by omega)
 obtain ⟨N, rfl⟩ := ob_
 have e : newB (N : Int) = List.replicate ((N + 7) / 8) 0 := by unfold newB; rw [if_neg (by omega)]; simp
 refine W.region (WL.m (WL.v (run_add rfl rfl (by omega) (by omega)) (WL.v (run_quo rfl rfl (by omega) (by omega) (by omega)) (WL.e (eff_make (n := (N + 7) / 8) (bytes := 1) h (by show Value.int .i64 (((N : Int) + 7) / 8) = _; rfl) (by show Value.int .i64 (((N : Int) + 7) / 8) = _; rfl) underlying148 rfl rfl rfl rfl rfl (by omega) (by omega)) ?_))))
 rintro _ w ⟨b12, rfl, h⟩
 refine WL.z (W.ret (bodyQ.r1 (v := .slice _ _ _) results77 rfl ?_))
 rw [e, List.length_replicate]
 exact ⟨_, _, rfl, by rw [show bytesV (List.replicate ((N + 7) / 8) 0) = List.replicate ((N + 7) / 8) (.int .u8 0) by simp [bytesV, byteV]]; exact h⟩
theorem in_ok {a : Option Addr} {n c : Nat} {i : Int} (h : On W0 L w) (hn : n ≤ 1048576) : Calls Tryz.prog 197 #[.slice a n c, .int .i64 i] w (Ret fun v w' => ((0 ≤ i ∧ i < 8 * (n : Int) ∧ v = .bool true) ∨ (¬ (0 ≤ i ∧ i < 8 * (n : Int)) ∧ v = .bool false)) ∧ On W0 L w') := by
 refine enter func197 rfl ntmps197 rfl (W.sr (WL.z (W.sr (WL.m ?_))))
 refine WL.q (run_geq rfl rfl) (fun c6 => ?_) (fun c6 => ?_)
 ·
  refine WL.m (WL.m (WL.m (WL.v (run_lenSlice underlying148 rfl) (WL.v (run_mul rfl rfl (by omega) (by omega)) ?_))))
  refine WL.q (run_lss rfl rfl) (fun c12 => ?_) (fun c12 => ?_)
  ·
   refine WL.pt (WL.z (W.ret (bodyQ.r1 (v := .bool _) results197 rfl ?_)))
   exact ⟨.inl ⟨by omega, by omega, rfl⟩, h⟩
  refine WL.pt (WL.z (W.ret (bodyQ.r1 (v := .bool _) results197 rfl ?_)))
  exact ⟨.inr ⟨by omega, rfl⟩, h⟩
 refine WL.m (WL.s (WL.s (WL.s (WL.s (WL.s (WL.pf (WL.a ?_)))))))
 refine WL.nil (W.ret (bodyQ.r1 (v := .bool _) results197 rfl ?_))
 exact ⟨.inr ⟨by omega, rfl⟩, h⟩
theorem has_ok {a : Option Addr} {n c : Nat} {m : List UInt8} (h : On W0 L w) (C : Gives L (Cells 1 (.slice a n c) n (bytesV m))) {i : Int} (hn : n ≤ 1048576) : Calls Tryz.prog 178 #[.slice a n c, .int .i64 i] w (Ret fun v w' => v = .bool (hasI m i) ∧ On W0 L w') := by
 refine enter func178 rfl ntmps178 rfl ?_
 have hml : m.length = n := by have := (h.reads C).1; simpa using this
 refine W.sr (WL.z (W.sr (WL.m (WL.m ?_))))
 refine WL.e (eff_call call197 (in_ok h hn)) ?_
 rintro _ w ⟨hv, h⟩
 rcases hv with ⟨hi0, hi1, rfl⟩ | ⟨hno, rfl⟩
 ·
  refine WL.m (WL.m ?_)
  have ob_ := Int.eq_ofNat_of_zero_le hi0
  obtain ⟨k, rfl⟩ := ob_
  have ob_ := (h.reads (Gives.to C)).addr (by omega)
  obtain ⟨bq, oq, hal⟩ := ob_
  subst hal
  have ob_ : ∃ x, m[k / 8]? = some x := ⟨m[k / 8]'(by omega), by simp⟩
  obtain ⟨x, hx⟩ := ob_
  have hx256 := x.toNat_lt
  refine WL.m (WL.v (run_quo rfl rfl (by omega) (by omega) (by omega)) (WL.v (run_indexAddr underlying148 sizeOf5 rfl rfl (by omega) (by omega)) (WL.l isAgg5 rfl ((h.reads (Gives.to C)).elem (i := k / 8) (vs := [.int .u8 x.toNat]) (by omega) (bytes_row hx) 0 _ rfl) (WL.m (WL.v (run_rem rfl rfl (by omega) (by omega)) (WL.v (run_shrN (j := k % 8) rfl rfl (by show k % 8 ≤ 8; omega)) (WL.v (run_andMod (n := 1) 1 rfl rfl (by show ((x.toNat / 2 ^ (k % 8) : Nat) : Int) ≤ 255; have := Nat.div_le_self x.toNat (2 ^ (k % 8)); omega) (by decide) rfl) ?_)))))))
  refine WL.v (run_eql rfl rfl) (WL.pt (WL.z (W.ret (bodyQ.r1 (v := .bool _) results178 rfl ?_))))
  refine ⟨?_, h⟩
  rw [hasI_nat, bit_at hx]
  congr 1
  rw [decide_eq_decide]
  show ((x.toNat / 2 ^ (k % 8) % 2 ^ 1 : Nat) : Int) = 1 ↔ _
  omega
 refine WL.m (WL.s (WL.s (WL.s (WL.s (WL.s (WL.s (WL.s ?_)))))))
 refine WL.s (WL.s (WL.s (WL.pf (WL.z (W.ret (bodyQ.r1 (v := .bool _) results178 rfl ?_))))))
 exact ⟨by rw [hasI_out (by rw [hml]; exact hno)], h⟩
theorem turn_ok {a : Option Addr} {n c : Nat} {m : List UInt8} {fr k : Int} {s : Bool} (h : On W0 (Own 1 (.slice a n c) n (bytesV m) :: L) w) (hn : n ≤ 1048576) : Calls Tryz.prog 158 #[.slice a n c, .int .i64 fr, .int .i64 k, .bool s] w (Ret fun v w' => v = .int .i64 ((turns m fr k s : Nat) : Int) ∧ On W0 (Own 1 (.slice a n c) n (bytesV (turned m fr k s)) :: L) w') := by
 refine enter func158 rfl ntmps158 rfl ?_
 have hml : m.length = n := by have := (Own.openOn h).1; simpa using this
 refine W.sr (WL.z (W.sr (WL.z ?_)))
 refine W.seq (W.sr (WL.m ?_))
 refine WL.q (run_lss rfl rfl) (fun c12 => ?_) (fun c12 => ?_)
 ·
  refine WL.m (WL.s (WL.s (WL.pt (WL.m (WL.s (WL.s (WL.s ?_)))))))
  refine WL.s (WL.s (WL.pt (WL.nil (W.ct (W.sr (WL.a ?_))))))
  refine WL.nil (W.ret (bodyQ.r1 (v := .int .i64 _) results158 rfl ?_))
  have e : turnK m fr k = 0 := by unfold turnK; rw [if_pos (by omega)]
  unfold turns turned
  rw [e]
  exact ⟨rfl, h⟩
 refine WL.m (WL.m ?_)
 refine WL.q (run_lss rfl rfl) (fun c15 => ?_) (fun c15 => ?_)
 ·
  refine WL.pf (WL.m (WL.s (WL.s (WL.s (WL.s (WL.s (WL.pt ?_)))))))
  refine WL.nil (W.ct (W.sr (WL.z (W.ret (bodyQ.r1 (v := .int .i64 _) results158 rfl ?_)))))
  have e : turnK m fr k = 0 := by unfold turnK; rw [if_pos (by omega)]
  unfold turns turned
  rw [e]
  exact ⟨rfl, h⟩
 refine WL.pf (WL.m (WL.m (WL.m (WL.v (run_lenSlice underlying148 rfl) (WL.v (run_mul rfl rfl (by omega) (by omega)) (WL.v (run_geq rfl rfl) (WL.pf ?_)))))))
 refine WL.nil ?_
 refine W.condIf rfl (fun c3 => ?_) (fun c3 => ?_)
 ·
  refine W.sr (WL.z (W.ret (bodyQ.r1 (v := .int .i64 _) results158 rfl ?_)))
  have e : turnK m fr k = 0 := by unfold turnK; rw [if_pos (by omega)]
  unfold turns turned
  rw [e]
  exact ⟨rfl, h⟩
 refine W.skip (W.seq (W.seq ?_))
 have ob_ := Int.eq_ofNat_of_zero_le (show 0 ≤ fr by omega)
 obtain ⟨lo, rfl⟩ := ob_
 have ob_ := Int.eq_ofNat_of_zero_le (show 0 ≤ k by omega)
 obtain ⟨N, rfl⟩ := ob_
 have hK : turnK m (lo : Int) (N : Int) = min N (8 * n - lo) := by unfold turnK; rw [if_neg (by omega), hml]; simp
 refine W.region (WL.m (WL.z (W.block ?_)))
 refine W.loop (fun (q : Nat) env w => ∃ j, env = mkE j [(0, .slice a n c), (1, .int .i64 (lo : Int)), (2, .int .i64 (N : Int)), (3, .bool s), (9, .int .i64 (((turnN m lo s q).2 : Nat) : Int)), (10, .int .i64 ((lo + q : Nat) : Int))] ∧ q ≤ min N (8 * n - lo) ∧ On W0 (Own 1 (.slice a n c) n (bytesV (turnN m lo s q).1) :: L) w) (fun q => min N (8 * n - lo) - q) (0) ?_ ?_
 · exact ⟨_, mkE_of ⟨rfl, rfl, rfl, rfl, rfl, rfl, trivial⟩, Nat.zero_le _, h⟩
 rintro q env w ⟨j, rfl, hq, h⟩
 have hle := turnN_le m lo s q
 have hlq := turnN_length m lo s q
 refine W.seq (W.sr (WL.m (WL.m (WL.m (WL.m (WL.v (run_lenSlice underlying148 rfl) ?_))))))
 refine WL.v (run_mul rfl rfl (by omega) (by omega)) (WL.m (WL.v (run_sub rfl rfl (by omega) (by omega)) (WL.v (run_minI rfl rfl) (WL.v (run_add rfl rfl (by omega) (by omega)) (WL.v (run_lss rfl rfl) (WL.nil ?_))))))
 refine W.condIf rfl (fun c11 => ?_) (fun c11 => ?_)
 ·
  refine W.skip (W.seq (W.block (W.sr (WL.m (WL.m (WL.e (eff_call call178 (has_ok h (Gives.ownO (v := .slice a n c)) hn)) ?_))))))
  rintro _ w ⟨hv, h⟩
  rw [hasI_nat] at hv
  subst hv
  refine WL.m (WL.v (run_neqBool underlying4 rfl rfl) (WL.nil ?_))
  refine W.condB rfl (fun c16 => ?_) (fun c16 => ?_)
  ·
   refine W.seq ?_
   have ob_ := Own.addr h (by omega)
   obtain ⟨bq, oq, hal⟩ := ob_
   subst hal
   have ob_ : ∃ x, (turnN m lo s q).1[(lo + q) / 8]? = some x := ⟨(turnN m lo s q).1[(lo + q) / 8]'(by omega), by simp⟩
   obtain ⟨x, hx⟩ := ob_
   have hx256 := x.toNat_lt
   have hp2 : 1 * 2 ^ ((lo + q) % 8) ≤ 255 := by have := Nat.pow_le_pow_right (n := 2) (by omega) (show (lo + q) % 8 ≤ 7 by omega); omega
   have hxr := xor_lt x (show (lo + q) % 8 < 8 by omega)
   rw [← Nat.one_mul (2 ^ ((lo + q) % 8))] at hxr
   refine W.draw Tryz.follows h (fun w h => ?_)
   refine WT.m 0 rfl (WT.m 1 rfl (WT.p 2 rfl (fun w' => (run_quo rfl rfl (by omega) (by omega) (by omega))) (WT.p 3 rfl (fun w' => (run_indexAddr underlying148 sizeOf5 rfl rfl (by omega) (by omega))) (WT.l 4 rfl isAgg5 rfl ((h.cellsO (v := .slice (some ⟨bq, oq, none⟩) n c)).elem (i := (lo + q) / 8) (vs := [.int .u8 x.toNat]) (by omega) (bytes_row hx) 0 _ rfl) (WT.m 5 rfl (WT.p 6 rfl (fun w' => (run_rem rfl rfl (by omega) (by omega))) (WT.p 7 rfl (fun w' => (run_shlN (m := 1) (j := (lo + q) % 8) rfl rfl (by show (lo + q) % 8 ≤ 8; omega) (by show _ ≤ (255 : Int); omega))) ?_)))))))
   refine WT.p 8 rfl (fun w' => (run_xorN rfl rfl (by show _ ≤ (255 : Int); omega) (by show _ ≤ (255 : Int); omega) (by show _ ≤ (255 : Int); omega))) (WT.p 9 rfl (fun w' => (run_indexAddr underlying148 sizeOf5 rfl rfl (by omega) (by omega))) (WT.e 10 [false] rfl (eff_storeOwn (k := (lo + q) / 8 * 1) (v := .int .u8 _) h sizeOf5 rfl rfl rfl (by omega)) ?_))
   rintro _ w h
   rw [Nat.mul_one, bytesV_flip hx] at h
   refine ⟨trivial, ?_⟩
   refine WT.dn (W.region (WL.m (WL.v (run_incN rfl rfl (by omega)) (WL.z (W.region (WL.m ?_))))))
   refine WL.v (run_add rfl rfl (by omega) (by omega)) (WL.z ?_)
   have e : turnN m lo s (q + 1) = (flip (turnN m lo s q).1 (lo + q), (turnN m lo s q).2 + 1) := by conv => { lhs; unfold turnN }; rw [if_neg (by intro hh; rw [hh] at c16; simp at c16)]
   exact ⟨q + 1, ⟨_, mkE_of ⟨rfl, rfl, rfl, rfl, (by rw [e]; rfl), rfl, trivial⟩, by omega, (by rw [e]; exact h)⟩, by show min N (8 * n - lo) - (q + 1) < min N (8 * n - lo) - q; omega⟩
  refine W.skip (W.region (WL.m (WL.v (run_add rfl rfl (by omega) (by omega)) (WL.z ?_))))
  have e : turnN m lo s (q + 1) = turnN m lo s q := by conv => { lhs; unfold turnN }; rw [if_pos (by simpa using c16)]
  exact ⟨q + 1, ⟨_, mkE_of ⟨rfl, rfl, rfl, rfl, (by rw [e]; rfl), rfl, trivial⟩, by omega, (by rw [e]; exact h)⟩, by show min N (8 * n - lo) - (q + 1) < min N (8 * n - lo) - q; omega⟩
 refine W.exit (W.sr (WL.m (WL.z (W.ret (bodyQ.r1 (v := .int .i64 _) results158 rfl ?_)))))
 have ob_ : q = min N (8 * n - lo) := by omega
 obtain rfl := ob_
 unfold turns turned
 rw [hK]
 exact ⟨rfl, h⟩
theorem bset_ok {a : Option Addr} {n c : Nat} {m : List UInt8} {fr k : Int} (h : On W0 (Own 1 (.slice a n c) n (bytesV m) :: L) w) (hn : n ≤ 1048576) : Calls Tryz.prog 137 #[.slice a n c, .int .i64 fr, .int .i64 k] w (Ret fun v w' => v = .int .i64 ((turns m fr k true : Nat) : Int) ∧ On W0 (Own 1 (.slice a n c) n (bytesV (turned m fr k true)) :: L) w') := by
 refine enter func137 rfl ntmps137 rfl (W.sr (WL.z (W.sr (WL.m ?_))))
 refine WL.m (WL.m (WL.e (eff_call call158 (turn_ok h hn)) ?_))
 rintro _ w ⟨rfl, h⟩
 refine WL.z (W.ret (bodyQ.r1 (v := .int .i64 _) results137 rfl ?_))
 exact ⟨rfl, h⟩
theorem bunset_ok {a : Option Addr} {n c : Nat} {m : List UInt8} {fr k : Int} (h : On W0 (Own 1 (.slice a n c) n (bytesV m) :: L) w) (hn : n ≤ 1048576) : Calls Tryz.prog 138 #[.slice a n c, .int .i64 fr, .int .i64 k] w (Ret fun v w' => v = .int .i64 ((turns m fr k false : Nat) : Int) ∧ On W0 (Own 1 (.slice a n c) n (bytesV (turned m fr k false)) :: L) w') := by
 refine enter func138 rfl ntmps138 rfl (W.sr (WL.z (W.sr (WL.m ?_))))
 refine WL.m (WL.m (WL.e (eff_call call158 (turn_ok h hn)) ?_))
 rintro _ w ⟨rfl, h⟩
 refine WL.z (W.ret (bodyQ.r1 (v := .int .i64 _) results138 rfl ?_))
 exact ⟨rfl, h⟩
end Go.Proofs.YtjfmjbmkkpkppaaGreatDoor
namespace Go.Sl.SpM
open Go Go.Sl Go.Sl.BitM
def over (l : List UInt8) (o : Nat) (bs : List UInt8) : List UInt8 := l.take o ++ bs ++ l.drop (o + bs.length)
theorem over_length {l : List UInt8} {o : Nat} {bs : List UInt8} (h : o + bs.length ≤ l.length) : (over l o bs).length = l.length := by
 simp only [over, List.length_append, List.length_take, List.length_drop]; omega
theorem bytesV_over (l : List UInt8) (o : Nat) (bs : List UInt8) : splice (bytesV l) o (bytesV bs) = bytesV (over l o bs) := by
 simp [splice, over, bytesV, List.map_take, List.map_drop]
theorem over_nil (l : List UInt8) (o : Nat) : over l o [] = l := by simp [over]
structure Sp where
 N : Nat
 d : List UInt8
 m : List UInt8
def newS (n : Nat) : Sp := ⟨n, List.replicate (8 * n) 0, List.replicate ((n + 7) / 8) 0⟩
def inS (s : Sp) (at_ n : Int) : Prop := 0 ≤ n ∧ n ≤ 32 ∧ 0 ≤ at_ ∧ at_ ≤ s.N ∧ n ≤ s.N - at_
instance (s : Sp) (at_ n : Int) : Decidable (inS s at_ n) := by unfold inS; exact inferInstance
def writeS (s : Sp) (at_ : Nat) (bs : List UInt8) : Sp := ⟨s.N, over s.d (8 * at_) bs, turned s.m at_ ((bs.length / 8 : Nat) : Int) true⟩
def unmapS (s : Sp) (at_ n : Nat) : Sp := ⟨s.N, over s.d (8 * at_) (List.replicate (8 * n) 0), turned s.m at_ n false⟩
def partS (s : Sp) (at_ n : Nat) : List UInt8 := (s.d.drop (8 * at_)).take (8 * n)
def wfS (s : Sp) : Prop := s.d.length = 8 * s.N ∧ 1 ≤ s.N ∧ s.N ≤ 1024 ∧ s.m.length = (s.N + 7) / 8
def SpP (T b : Nat) (s : Sp) : HProp := Ex fun (x : Nat × Nat × Nat × Option Addr × Nat) => Pack (wfS s)
 [blk b [.int .i64 (s.N : Int), .slice (some ⟨x.1, x.2.1, none⟩) (8 * s.N) x.2.2.1, .slice x.2.2.2.1 s.m.length x.2.2.2.2] T,
  Own 1 (.slice (some ⟨x.1, x.2.1, none⟩) (8 * s.N) x.2.2.1) (8 * s.N) (bytesV s.d), Own 1 (.slice x.2.2.2.1 s.m.length x.2.2.2.2) s.m.length (bytesV s.m)]
section
variable {W0 w : World} {L : List HProp} {T b : Nat} {s : Sp}
theorem openS (H : On W0 (SpP T b s :: L) w) : ∃ gd od cd am cm, wfS s ∧ On W0 (blk b [.int .i64 (s.N : Int), .slice (some ⟨gd, od, none⟩) (8 * s.N) cd, .slice am s.m.length cm] T :: Own 1 (.slice (some ⟨gd, od, none⟩) (8 * s.N) cd) (8 * s.N) (bytesV s.d) ::
   Own 1 (.slice am s.m.length cm) s.m.length (bytesV s.m) :: L) w := by
 obtain ⟨⟨gd, od, cd, am, cm⟩, H⟩ := H.ex
 obtain ⟨h1, H⟩ := H.unpack
 exact ⟨gd, od, cd, am, cm, h1, H⟩
theorem closeS {gd od cd : Nat} {am : Option Addr} {cm : Nat} (h1 : wfS s) (H : On W0 (blk b [.int .i64 (s.N : Int), .slice (some ⟨gd, od, none⟩) (8 * s.N) cd, .slice am s.m.length cm] T :: Own 1 (.slice (some ⟨gd, od, none⟩) (8 * s.N) cd) (8 * s.N) (bytesV s.d) ::
   Own 1 (.slice am s.m.length cm) s.m.length (bytesV s.m) :: L) w) : On W0 (SpP T b s :: L) w := On.exI (gd, od, cd, am, cm) (On.pack h1 H)
end
theorem newS_wf {n : Nat} (h1 : 1 ≤ n) (h2 : n ≤ 1024) : wfS (newS n) := ⟨by simp [newS], h1, h2, by simp [newS]⟩
theorem writeS_wf {s : Sp} {at_ : Nat} {bs : List UInt8} (h : wfS s) (hb : 8 * at_ + bs.length ≤ 8 * s.N) : wfS (writeS s at_ bs) := by
 obtain ⟨h1, h2, h3, h4⟩ := h
 exact ⟨by show (over _ _ _).length = _; rw [over_length (by omega)]; exact h1, h2, h3, by show (turned _ _ _ _).length = _; rw [turned_length]; exact h4⟩
theorem unmapS_wf {s : Sp} {at_ n : Nat} (h : wfS s) (hb : at_ + n ≤ s.N) : wfS (unmapS s at_ n) := by
 obtain ⟨h1, h2, h3, h4⟩ := h
 exact ⟨by show (over _ _ _).length = _; rw [over_length (by simp; omega)]; exact h1, h2, h3, by show (turned _ _ _ _).length = _; rw [turned_length]; exact h4⟩
end Go.Sl.SpM
