/-
  The walk's rules over states written as functions from slots to values: code, regions in the order of the text, regions that draw their order, calls.
-/
import Derived.Test.YtlahgihjjabgmaaSlHeap
import Derived.OrdersHeld
namespace Go.Sl
open Go

set_option linter.unusedVariables false

abbrev Env := Nat → Value
def upd (env : Env) (d : Nat) (v : Value) : Env := fun t => match Nat.beq t d with | true => v | false => env t
def updo (env : Env) (d : Option Nat) (v : Value) : Env := match d with | some d => upd env d v | none => env
def evo (env : Env) : Operand → Value
  | .tmp t => env t
  | .const v => v
  | .global g => .pointer (some ⟨g, 0, none⟩)
  | .func f => .func (.func f) #[] #[]
def nthV : List Value → Nat → Value
  | [], _ => undef
  | v :: _, 0 => v
  | _ :: l, n + 1 => nthV l n

/-- A state of which some slots are known. -/
def mkE (junk : Env) : List (Nat × Value) → Env
  | [], t => junk t
  | (d, v) :: l, t => match Nat.beq t d with | true => v | false => mkE junk l t
def AllE (env : Env) : List (Nat × Value) → Prop
  | [] => True
  | (d, v) :: l => env d = v ∧ AllE env l
theorem mkE_of {env : Env} : ∀ {l : List (Nat × Value)}, AllE env l → env = mkE env l := by
  intro l
  induction l with
  | nil => intro _; funext t; rfl
  | cons p l ih =>
    obtain ⟨d, v⟩ := p
    intro h
    obtain ⟨h1, h2⟩ := h
    funext t
    unfold mkE
    cases hb : Nat.beq t d with
    | true => have := Nat.eq_of_beq_eq_true hb; subst this; exact h1
    | false => exact congrFun (ih h2) t

/-- The slots of a frame are what the function says. -/
structure Rel (N : Nat) (a : Act) (env : Env) : Prop where
  size : a.tmps.size = N
  get : ∀ t, a.tmps.getD t undef = env t
  defers : a.defers = []

theorem upd_same (env : Env) (d : Nat) (v : Value) : upd env d v d = v := by simp [upd]
theorem upd_other (env : Env) {d t : Nat} (v : Value) (h : t ≠ d) : upd env d v t = env t := by
  unfold upd
  have : Nat.beq t d = false := by rw [← Bool.not_eq_true]; intro e; exact h (Nat.eq_of_beq_eq_true e)
  rw [this]

theorem Rel.eval {N : Nat} {a : Act} {env : Env} (r : Rel N a env) : a.eval = evo env := by
  funext x
  cases x with
  | tmp t => exact r.get t
  | _ => rfl

theorem Rel.put {N : Nat} {a : Act} {env : Env} (r : Rel N a env) {d : Nat} (hd : Nat.ble (d + 1) N = true) (v : Value) : Rel N (a.put (some d) v) (upd env d v) := by
  have hlt : d < a.tmps.size := by rw [r.size]; exact Nat.le_of_ble_eq_true hd
  refine ⟨by simp [Act.put, r.size], fun t => ?_, r.defers⟩
  by_cases h : t = d
  · subst h; rw [upd_same]; simp [Act.put, hlt]
  · rw [upd_other _ _ h, ← r.get t]
    simp [Act.put, Array.getElem?_setIfInBounds_ne (Ne.symm h)]

/-- Is the slot that an operation writes there? -/
def inN (N : Nat) : Option Nat → Bool
  | none => true
  | some d => Nat.ble (d + 1) N

theorem Rel.puto {N : Nat} {a : Act} {env : Env} (r : Rel N a env) {d : Option Nat} (hd : inN N d = true) (v : Value) : Rel N (a.put d v) (updo env d v) := by
  cases d with
  | none => exact r
  | some d => exact r.put hd v

def yieldedE (ops : Array Oper) (env : Env) (j : Nat) : Option Bool :=
  match (ops[j]?).bind (·.dst) with
  | some t => (match env t with | .bool b => some b | _ => none)
  | none => none

theorem Rel.yielded {N : Nat} {a : Act} {env : Env} (r : Rel N a env) (ops : Array Oper) (j : Nat) : yielded ops a.tmps j = yieldedE ops env j := by
  unfold Go.yielded yieldedE
  cases h : (ops[j]?).bind (·.dst) with
  | none => rfl
  | some t =>
    simp only [Option.bind_some]
    have g := r.get t
    cases ht : a.tmps[t]? with
    | none =>
      have : env t = undef := by rw [← g]; simp [ht]
      rw [this]; rfl
    | some v =>
      have : env t = v := by rw [← g]; simp [ht]
      rw [this]
      cases v <;> rfl

def Ret (R : Value → World → Prop) : Ending → World → Prop := fun e w' => ∃ v, e = .returned v ∧ R v w'

/-- What an operation comes to: a value, nothing, or a call by its contract. -/
def Eff (P : Program) (ρ : Operand → Value) (o : Oper) (w : World) (R : Value → World → Prop) : Prop :=
  (∃ v w', (execOp ρ o).run P w = .ok (.value v) w' ∧ R v w') ∨ (∃ w', (execOp ρ o).run P w = .ok .skip w' ∧ R undef w') ∨
  (∃ f args w1, (execOp ρ o).run P w = .ok (.enter f args) w1 ∧ Calls P f args w1 (Ret R))

/-! ### Lists of operations, in the order of the text -/
section
variable {P : Program} {N : Nat} {ops : Array Oper} {K : Env → World → Prop} {env : Env} {w : World} {rest : List Oper} {o : Oper}

/-- The post of a list: it comes to its end, in a state that K takes. -/
def liftK (N : Nat) (K : Env → World → Prop) : Exit → Act → World → Prop := fun e a w => e = .normal ∧ ∃ env, Rel N a env ∧ K env w

def WL (P : Program) (N : Nat) (ops : Array Oper) (K : Env → World → Prop) (l : List Oper) (env : Env) (w : World) : Prop :=
  ∀ a, Rel N a env → wpList P ops (liftK N K) l a w

theorem WL.nil (h : K env w) : WL P N ops K [] env w := fun a r => ⟨rfl, env, r, h⟩

theorem WL.val {v : Value} {w' : World} (hr : (execOp (evo env) o).run P w = .ok (.value v) w') (hw : Region.wanted o (yieldedE ops env) = true) (hd : inN N o.dst = true)
    (k : WL P N ops K rest (updo env o.dst v) w') : WL P N ops K (o :: rest) env w := fun a r => by
  unfold wpList
  have hy : yielded ops a.tmps = yieldedE ops env := funext fun j => r.yielded ops j
  rw [hy, if_pos hw]
  refine .inl ?_
  unfold Oper.wp
  rw [r.eval, hr]
  exact k _ (r.puto hd v)

theorem WL.unit {w' : World} (hr : (execOp (evo env) o).run P w = .ok .skip w') (hw : Region.wanted o (yieldedE ops env) = true) (hd : inN N o.dst = true)
    (k : WL P N ops K rest (updo env o.dst undef) w') : WL P N ops K (o :: rest) env w := fun a r => by
  unfold wpList
  have hy : yielded ops a.tmps = yieldedE ops env := funext fun j => r.yielded ops j
  rw [hy, if_pos hw]
  refine .inl ?_
  unfold Oper.wp
  rw [r.eval, hr]
  exact k _ (r.puto hd undef)

theorem WL.skip (hw : Region.wanted o (yieldedE ops env) = false) (hd : inN N o.dst = true)
    (k : WL P N ops K rest (updo env o.dst undef) w) : WL P N ops K (o :: rest) env w := fun a r => by
  unfold wpList
  have hy : yielded ops a.tmps = yieldedE ops env := funext fun j => r.yielded ops j
  rw [hy, hw]
  exact k _ (r.puto hd undef)

theorem Eff.wp {R : Value → World → Prop} {a : Act} {K' : Act → World → Prop} {Q' : Exit → Act → World → Prop} (he : Eff P (evo env) o w R) (r : Rel N a env)
    (k : ∀ v w', R v w' → K' (a.put o.dst v) w') : o.wp P a w K' Q' := by
  unfold Oper.wp
  rw [r.eval]
  rcases he with ⟨v, w', hr, hR⟩ | ⟨w', hr, hR⟩ | ⟨f, args, w1, hr, hc⟩
  · rw [hr]; exact k v w' hR
  · rw [hr]; exact k undef w' hR
  · rw [hr]
    refine Calls.mono hc ?_
    rintro e w' ⟨v, rfl, hR⟩
    exact k v w' hR

theorem WL.eff {R : Value → World → Prop} (he : Eff P (evo env) o w R) (hw : Region.wanted o (yieldedE ops env) = true) (hd : inN N o.dst = true)
    (k : ∀ v w', R v w' → WL P N ops K rest (updo env o.dst v) w') : WL P N ops K (o :: rest) env w := fun a r => by
  unfold wpList
  have hy : yielded ops a.tmps = yieldedE ops env := funext fun j => r.yielded ops j
  rw [hy, if_pos hw]
  exact .inl (he.wp r fun v w' hR => k v w' hR _ (r.puto hd v))

theorem WL.cases {p : Prop} (h : p → WL P N ops K (o :: rest) env w) (h' : ¬ p → WL P N ops K (o :: rest) env w) : WL P N ops K (o :: rest) env w :=
  (Classical.em p).elim h h'
end

/-! ### Code -/
section
variable {P : Program} {N : Nat} {env : Env} {w : World}

def liftQ (N : Nat) (Q : Exit → Env → World → Prop) : Exit → Act → World → Prop := fun e a w => ∃ env, Rel N a env ∧ Q e env w

def W (P : Program) (N : Nat) (c : Code) (Q : Exit → Env → World → Prop) (env : Env) (w : World) : Prop :=
  ∀ a, Rel N a env → c.wp P (liftQ N Q) a w

@[reducible] def thenQ (P : Program) (N : Nat) (b : Code) (Q : Exit → Env → World → Prop) : Exit → Env → World → Prop
  | .normal, env, w => W P N b Q env w
  | e, env, w => Q e env w
@[reducible] def blockQ (id : Nat) (Q : Exit → Env → World → Prop) : Exit → Env → World → Prop
  | .exit i, env, w => match Nat.beq i id with | true => Q .normal env w | false => Q (.exit i) env w
  | e, env, w => Q e env w

variable {Q Q' : Exit → Env → World → Prop}

theorem W.mono {c : Code} (h : W P N c Q env w) (i : ∀ e env w, Q e env w → Q' e env w) : W P N c Q' env w := fun a r =>
  wp_mono (h a r) fun e a' w' ⟨env', r', q⟩ => ⟨env', r', i _ _ _ q⟩

theorem W.seq {x y : Code} (h : W P N x (thenQ P N y Q) env w) : W P N (.seq x y) Q env w := fun a r => by
  refine wp_seq (wp_mono (h a r) ?_)
  rintro e a' w' ⟨env', r', q⟩
  cases e with
  | normal => exact q a' r'
  | _ => exact ⟨env', r', q⟩

theorem W.skip (h : Q .normal env w) : W P N .skip Q env w := fun _ r => wp_skip ⟨env, r, h⟩
theorem W.label {l : Nat} (h : Q .normal env w) : W P N (.label l) Q env w := fun _ r => wp_label ⟨env, r, h⟩
theorem W.exit {id : Nat} (h : Q (.exit id) env w) : W P N (.exit id) Q env w := fun _ r => wp_exit ⟨env, r, h⟩
theorem W.goto {l : Nat} (h : Q (.goto l) env w) : W P N (.goto l) Q env w := fun _ r => wp_goto ⟨env, r, h⟩
theorem W.ret (h : Q .ret env w) : W P N .ret Q env w := fun _ r => wp_ret ⟨env, r, h⟩

theorem W.block {id : Nat} {c : Code} (h : W P N c (blockQ id Q) env w) : W P N (.block id c) Q env w := fun a r => by
  refine wp_block (wp_mono (h a r) ?_)
  rintro e a' w' ⟨env', r', q⟩
  cases e with
  | exit i =>
    simp only [Exit.inBlock]
    by_cases hi : i = id
    · subst hi; simp only [blockQ, Nat.beq_refl] at q; rw [if_pos rfl]; exact ⟨env', r', q⟩
    · have hb : Nat.beq i id = false := by rw [← Bool.not_eq_true]; intro e; exact hi (Nat.eq_of_beq_eq_true e)
      simp only [blockQ, hb] at q; rw [if_neg hi]; exact ⟨env', r', q⟩
  | _ => exact ⟨env', r', q⟩

theorem W.cond {c : Operand} {x y : Code} (b : Bool) (hc : evo env c = .bool b) (h : W P N (if b then x else y) Q env w) : W P N (.cond c x y) Q env w := fun a r =>
  wp_cond (by rw [r.eval]; exact hc) (h a r)
theorem W.condT {c : Operand} {x y : Code} (hc : evo env c = .bool true) (h : W P N x Q env w) : W P N (.cond c x y) Q env w := W.cond true hc h
theorem W.condF {c : Operand} {x y : Code} (hc : evo env c = .bool false) (h : W P N y Q env w) : W P N (.cond c x y) Q env w := W.cond false hc h
theorem W.condIf {c : Operand} {x y : Code} {p : Prop} [Decidable p] (hc : evo env c = .bool (decide p)) (ht : p → W P N x Q env w) (hf : ¬ p → W P N y Q env w) : W P N (.cond c x y) Q env w := by
  by_cases h : p
  · exact W.condT (by rw [hc]; simp [h]) (ht h)
  · exact W.condF (by rw [hc]; simp [h]) (hf h)
theorem W.condB {c : Operand} {x y : Code} {b : Bool} (hc : evo env c = .bool b) (ht : b = true → W P N x Q env w) (hf : b = false → W P N y Q env w) : W P N (.cond c x y) Q env w := by
  cases b
  · exact W.condF hc (hf rfl)
  · exact W.condT hc (ht rfl)

theorem W.region {id : Nat} {l : List Oper} (h : WL P N l.toArray (fun env' w' => Q .normal env' w') l env w) : W P N (.region id l.toArray false) Q env w := fun a r => by
  refine wp_region_lit ?_
  have := h a r
  refine wpList_weaken ?_ l a w this
  rintro e a' w' ⟨rfl, env', r', k⟩
  exact ⟨env', r', k⟩
where
  wpList_weaken {P : Program} {ops : Array Oper} {Q Q' : Exit → Act → World → Prop} (i : ∀ e a w, Q e a w → Q' e a w) : ∀ (l : List Oper) (a : Act) (w : World), wpList P ops Q l a w → wpList P ops Q' l a w := by
    intro l
    induction l with
    | nil => exact fun a w h => i _ _ _ h
    | cons o rest ih =>
      intro a w h
      unfold wpList at h ⊢
      split
      · rename_i hw
        rw [if_pos hw] at h
        refine h.imp (fun h => ?_) (fun ⟨h1, a', w', h2⟩ => ⟨h1, a', w', i _ _ _ h2⟩)
        unfold Oper.wp at h ⊢
        generalize (execOp a.eval o).run P w = r at h ⊢
        cases r with
        | ok n w' =>
          cases n <;> simp only [Oper.upon] at h ⊢ <;>
            first
              | exact ih _ _ h
              | exact Calls.mono h (fun e w'' he => by
                  cases e
                  · exact ih _ _ he
                  · exact i _ _ _ he
                  · exact ⟨he.choose, he.choose_spec.choose, i _ _ _ he.choose_spec.choose_spec⟩)
              | exact Rows.mono h (fun _ _ he => ih _ _ he)
        | halt x w' =>
          cases x <;> simp only [Oper.upon] at h ⊢
          exact i _ _ _ h
      · rename_i hw
        rw [if_neg hw] at h
        exact ih _ _ h

@[reducible] def thenM (M : Env → World → Prop) (Q : Exit → Env → World → Prop) : Exit → Env → World → Prop
  | .normal, env, w => M env w
  | e, env, w => Q e env w

/-- A cut: what stands behind needs a part of the state alone. -/
theorem W.cut {x y : Code} (M : Env → World → Prop) (h : W P N x (thenM M Q) env w) (k : ∀ env w, M env w → W P N y Q env w) : W P N (.seq x y) Q env w :=
  W.seq (W.mono h fun e env w q => by
    cases e with
    | normal => exact k _ _ q
    | _ => exact q)

@[reducible] def loopQ {σ : Type} (I : σ → Env → World → Prop) (m : σ → Nat) (s : σ) (Q : Exit → Env → World → Prop) : Exit → Env → World → Prop
  | .normal, env, w => ∃ s', I s' env w ∧ m s' < m s
  | e, env, w => Q e env w

/-- A loop, its relation over a state of one's own. -/
theorem W.loop {σ : Type} {c : Code} (I : σ → Env → World → Prop) (m : σ → Nat) (s0 : σ) (h0 : I s0 env w)
    (step : ∀ s env w, I s env w → W P N c (loopQ I m s Q) env w) : W P N (.loop c) Q env w := fun a r => by
  refine wp_loop_ghost s0 (fun s a w => ∃ env, Rel N a env ∧ I s env w) m ⟨env, r, h0⟩ ?_
  rintro s a w ⟨env, r, hi⟩
  refine wp_mono (step s env w hi a r) ?_
  rintro e a' w' ⟨env', r', q⟩
  cases e with
  | normal => obtain ⟨s', hi', hm⟩ := q; exact ⟨s', ⟨env', r', hi'⟩, hm⟩
  | _ => exact ⟨env', r', q⟩
where
  wp_loop_ghost {P : Program} {c : Code} {Q : Exit → Act → World → Prop} {a : Act} {w : World} {σ : Type} (s0 : σ) (I : σ → Act → World → Prop) (m : σ → Nat) (h0 : I s0 a w)
      (step : ∀ s a w, I s a w → c.wp P (fun e a' w' => match e with | .normal => ∃ s', I s' a' w' ∧ m s' < m s | e => Q e a' w') a w) : (Code.loop c).wp P Q a w := by
    let good : Nat → Act → World → Prop := fun n a w => ∃ s, I s a w ∧ m s = n
    have key : ∀ n a w, (∃ s, I s a w ∧ m s = n) → ∀ (b : Frame) (k : List Item) (cs : List Frame), ∃ e a' w', Q e a' w' ∧ Arrives P (lone (b.at a (.inLoop c :: k)) cs w) b k cs e a' w' := by
      intro n
      induction n using Nat.strongRecOn with
      | ind n ih =>
        rintro a w ⟨s, hi, hm⟩ b k cs
        obtain ⟨e, a', w', q, arr⟩ := step s a w hi b (.inLoop c :: k) cs
        cases e with
        | normal =>
          obtain ⟨s', hi', hlt⟩ := q
          obtain ⟨e2, a2, w2, q2, arr2⟩ := ih (m s') (by omega) a' w' ⟨s', hi', rfl⟩ b k cs
          exact ⟨e2, a2, w2, q2, .of_steps (.head step_inLoop arr) arr2⟩
        | exit id => exact ⟨_, a', w', q, .of_steps (.one step_inLoop) (.pass (x := .inLoop c) rfl (fun _ _ => .inl (by simp)) arr)⟩
        | goto l => exact ⟨_, a', w', q, .of_steps (.one step_inLoop) (.pass (x := .inLoop c) rfl (fun _ _ => .inl (by simp)) arr)⟩
        | ret => exact ⟨_, a', w', q, .of_steps (.one step_inLoop) (.pass (x := .inLoop c) rfl (fun _ _ => .inl (by simp)) arr)⟩
        | panic ch => exact ⟨_, a', w', q, .of_steps (.one step_inLoop) (.pass (x := .inLoop c) rfl (fun _ _ => .inl (by simp)) arr)⟩
        | outgrown => exact ⟨_, a', w', q, .of_steps (.one step_inLoop) (.pass (x := .inLoop c) rfl (fun _ _ => .inl (by simp)) arr)⟩
    intro b k cs
    obtain ⟨e, a', w', q, arr⟩ := step s0 a w h0 b (.inLoop c :: k) cs
    cases e with
    | normal =>
      obtain ⟨s', hi', hlt⟩ := q
      obtain ⟨e2, a2, w2, q2, arr2⟩ := key (m s') a' w' ⟨s', hi', rfl⟩ b k cs
      exact ⟨e2, a2, w2, q2, .of_steps (.head step_loop arr) arr2⟩
    | exit id => exact ⟨_, a', w', q, .of_steps (.one step_loop) (.pass (x := .inLoop c) rfl (fun _ _ => .inl (by simp)) arr)⟩
    | goto l => exact ⟨_, a', w', q, .of_steps (.one step_loop) (.pass (x := .inLoop c) rfl (fun _ _ => .inl (by simp)) arr)⟩
    | ret => exact ⟨_, a', w', q, .of_steps (.one step_loop) (.pass (x := .inLoop c) rfl (fun _ _ => .inl (by simp)) arr)⟩
    | panic ch => exact ⟨_, a', w', q, .of_steps (.one step_loop) (.pass (x := .inLoop c) rfl (fun _ _ => .inl (by simp)) arr)⟩
    | outgrown => exact ⟨_, a', w', q, .of_steps (.one step_loop) (.pass (x := .inLoop c) rfl (fun _ _ => .inl (by simp)) arr)⟩

/-! ### Functions -/
/-- A body's post: it ends, and what it hands back is R's. -/
def bodyQ (P : Program) (fn : Func) (R : Value → World → Prop) : Exit → Env → World → Prop
  | .normal, env, w | .ret, env, w => ∃ v, (∀ tmps : Array Value, (∀ t, tmps.getD t undef = env t) → (results fn tmps).run P w = .ok v w) ∧ R v w
  | _, _, _ => False

theorem bodyQ.r0 {fn : Func} {R : Value → World → Prop} (h : fn.results = #[]) (hR : R (.tuple #[]) w) : bodyQ P fn R .ret env w :=
  ⟨_, fun tmps _ => results_none h tmps P w, hR⟩
theorem bodyQ.r1 {fn : Func} {R : Value → World → Prop} {t : Nat} {v : Value} (h : fn.results = #[.tmp t]) (hv : env t = v) (hR : R v w) : bodyQ P fn R .ret env w :=
  ⟨_, fun tmps hg => by rw [results_tmp h tmps P w, hg, hv], hR⟩
theorem bodyQ.r2 {fn : Func} {R : Value → World → Prop} {t u : Nat} {v1 v2 : Value} (h : fn.results = #[.tmp t, .tmp u]) (h1 : env t = v1) (h2 : env u = v2) (hR : R (.tuple #[v1, v2]) w) : bodyQ P fn R .ret env w :=
  ⟨_, fun tmps hg => by rw [results_tmp2 h tmps P w, hg, hg, h1, h2], hR⟩
theorem bodyQ.r3 {fn : Func} {R : Value → World → Prop} {t u x : Nat} {v1 v2 v3 : Value} (h : fn.results = #[.tmp t, .tmp u, .tmp x]) (h1 : env t = v1) (h2 : env u = v2) (h3 : env x = v3) (hR : R (.tuple #[v1, v2, v3]) w) : bodyQ P fn R .ret env w :=
  ⟨_, fun tmps hg => by rw [results_tmp3 h tmps P w, hg, hg, hg, h1, h2, h3], hR⟩
theorem bodyQ.fall {fn : Func} {R : Value → World → Prop} (h : bodyQ P fn R .ret env w) : bodyQ P fn R .normal env w := h

theorem enter {f : FuncId} {fn : Func} {c : Code} {args : List Value} {R : Value → World → Prop} (hf : P.funcs[f]? = some fn) (hb : fn.body = some c) (hn : fn.ntmps = N) (hl : Nat.ble args.length N = true)
    (h : W P N c (bodyQ P fn R) (nthV args) w) : Calls P f args.toArray w (Ret R) := by
  refine calls_of_wp hf hb ?_
  have hle : args.length ≤ N := Nat.le_of_ble_eq_true hl
  have r : Rel N { tmps := args.toArray ++ Array.replicate (fn.ntmps - args.toArray.size) undef, defers := [] } (nthV args) := by
    refine ⟨?_, fun t => ?_, rfl⟩
    · simp [hn]; omega
    · have nth : ∀ (l : List Value) (t : Nat), nthV l t = l.getD t undef := by
        intro l
        induction l with
        | nil => intro t; simp [nthV]
        | cons v l ih => intro t; cases t with
          | zero => simp [nthV]
          | succ t => simp [nthV, ih]
      rw [nth]
      simp only [Array.getD_eq_getD_getElem?, List.getD_eq_getElem?_getD]
      rw [Array.getElem?_append]
      split
      · simp
      · rename_i hge
        simp at hge
        rw [List.getElem?_eq_none hge, Array.getElem?_replicate]
        split <;> rfl
  refine wp_mono (h _ r) ?_
  rintro e a' w' ⟨env', r', q⟩
  cases e with
  | normal => obtain ⟨v, hv, hR⟩ := q; exact ⟨r'.defers, v, hv a'.tmps r'.get, v, rfl, hR⟩
  | ret => obtain ⟨v, hv, hR⟩ := q; exact ⟨r'.defers, v, hv a'.tmps r'.get, v, rfl, hR⟩
  | exit _ => exact q.elim
  | goto _ => exact q.elim
  | panic _ => exact q.elim
  | outgrown => exact q.elim
end
end Go.Sl
