/-
  Walks of functions in whose code a range over a function stands, and of iterators that call yield: the rules of SlWalk over the kit's fenced walks, with the marks that such a loop leaves.
-/
import Derived.Test.YtdpakoefdpmebaaGreatSlMapW
import Derived.RangeFuncIn
import Derived.RangeFuncRecord
import Derived.RangeFuncSeq
import Derived.TacticsIn
namespace Go.Sl
open Go
set_option linter.unusedVariables false
@[reducible] def FR (o : Option Nat) : Fence := { Fence.wide with round := o }
theorem callsFR {o : Option Nat} {n : Nat} {P : Program} {f : FuncId} {args : Array Value} {w : World} {R : Ending → World → Prop} (h : Calls P f args w R) : CallsIn (FR o) n P f args w R := (callsIn_wide (n := n)).2 h
theorem callsOf {n : Nat} {P : Program} {f : FuncId} {args : Array Value} {w : World} {R : Ending → World → Prop} (h : CallsIn (FR none) n P f args w R) : Calls P f args w R := (callsIn_wide (n := n)).1 h
structure RelD (N : Nat) (ds : List Deferred) (a : Act) (env : Env) : Prop where
  size : a.tmps.size = N
  get : ∀ t, a.tmps.getD t undef = env t
  defers : a.defers = ds
theorem RelD.eval {N : Nat} {ds : List Deferred} {a : Act} {env : Env} (r : RelD N ds a env) : a.eval = evo env := by
  funext x
  cases x with
  | tmp t => exact r.get t
  | _ => rfl
theorem RelD.put {N : Nat} {ds : List Deferred} {a : Act} {env : Env} (r : RelD N ds a env) {d : Nat} (hd : Nat.ble (d + 1) N = true) (v : Value) : RelD N ds (a.put (some d) v) (upd env d v) := by
  have hlt : d < a.tmps.size := by rw [r.size]; exact Nat.le_of_ble_eq_true hd
  refine ⟨by simp [Act.put, r.size], fun t => ?_, r.defers⟩
  by_cases h : t = d
  · subst h; rw [upd_same]; simp [Act.put, hlt]
  · rw [upd_other _ _ h, ← r.get t]
    simp [Act.put, Array.getElem?_setIfInBounds_ne (Ne.symm h)]
theorem RelD.puto {N : Nat} {ds : List Deferred} {a : Act} {env : Env} (r : RelD N ds a env) {d : Option Nat} (hd : inN N d = true) (v : Value) : RelD N ds (a.put d v) (updo env d v) := by
  cases d with
  | none => exact r
  | some d => exact r.put hd v
theorem RelD.yielded {N : Nat} {ds : List Deferred} {a : Act} {env : Env} (r : RelD N ds a env) (ops : Array Oper) (j : Nat) : yielded ops a.tmps j = yieldedE ops env j := by
  have r' : Rel N { a with defers := [] } env := ⟨r.size, r.get, rfl⟩
  exact r'.yielded ops j
/-- An operation that is no defer. -/
def plainOp (o : Oper) : Bool := match o.op with | .defer _ => false | _ => true
theorem plain_sem {o : Oper} (h : plainOp o = true) (ro : Option Nat) (ρ : Operand → Value) : Oper.semAt ro ρ o = execOp ρ o := Oper.semAt_eq ro ρ o fun c e => by
  unfold plainOp at h; rw [e] at h; cases h
section
variable {P : Program} {N n : Nat} {fo : Option Nat} {ds : List Deferred} {ops : Array Oper} {K : List Deferred → Env → World → Prop} {env : Env} {w : World} {rest : List Oper} {o : Oper}
def liftKD (N : Nat) (K : List Deferred → Env → World → Prop) : Exit → Act → World → Prop := fun e a w => e = .normal ∧ ∃ ds env, RelD N ds a env ∧ K ds env w
def WLF (fo : Option Nat) (n : Nat) (P : Program) (N : Nat) (ops : Array Oper) (K : List Deferred → Env → World → Prop) (l : List Oper) (ds : List Deferred) (env : Env) (w : World) : Prop :=
  ∀ a, RelD N ds a env → wpListIn (FR fo) n P ops (liftKD N K) l a w
theorem WLF.nil (h : K ds env w) : WLF fo n P N ops K [] ds env w := fun a r => ⟨rfl, ds, env, r, h⟩
theorem WLF.val {v : Value} {w' : World} (hr : (execOp (evo env) o).run P w = .ok (.value v) w') (hp : plainOp o = true) (hw : Region.wanted o (yieldedE ops env) = true) (hd : inN N o.dst = true)
    (k : WLF fo n P N ops K rest ds (updo env o.dst v) w') : WLF fo n P N ops K (o :: rest) ds env w := fun a r => by
  unfold wpListIn
  have hy : yielded ops a.tmps = yieldedE ops env := funext fun j => r.yielded ops j
  rw [hy, if_pos hw]
  refine ⟨fun _ _ => trivial, ?_⟩
  rw [plain_sem hp, r.eval, hr]
  exact k _ (r.puto hd v)
theorem WLF.skip (hw : Region.wanted o (yieldedE ops env) = false) (hd : inN N o.dst = true) (k : WLF fo n P N ops K rest ds (updo env o.dst undef) w) : WLF fo n P N ops K (o :: rest) ds env w := fun a r => by
  unfold wpListIn
  have hy : yielded ops a.tmps = yieldedE ops env := funext fun j => r.yielded ops j
  rw [hy, hw]
  exact ⟨fun _ _ => trivial, k _ (r.puto hd undef)⟩
theorem WLF.eff {R : Value → World → Prop} (he : Eff P (evo env) o w R) (hp : plainOp o = true) (hw : Region.wanted o (yieldedE ops env) = true) (hd : inN N o.dst = true)
    (k : ∀ v w', R v w' → WLF fo n P N ops K rest ds (updo env o.dst v) w') : WLF fo n P N ops K (o :: rest) ds env w := fun a r => by
  unfold wpListIn
  have hy : yielded ops a.tmps = yieldedE ops env := funext fun j => r.yielded ops j
  rw [hy, if_pos hw]
  refine ⟨fun _ _ => trivial, ?_⟩
  rw [plain_sem hp, r.eval]
  rcases he with ⟨v, w', hr, hR⟩ | ⟨w', hr, hR⟩ | ⟨f, args, w1, hr, hc⟩
  · rw [hr]; exact k v w' hR _ (r.puto hd v)
  · rw [hr]; exact k undef w' hR _ (r.puto hd undef)
  · rw [hr]
    refine ⟨fun h => (by cases h), CallsIn.mono (callsFR hc) ?_⟩
    rintro e w' ⟨v, rfl, hR⟩
    exact k v w' hR _ (r.puto hd v)
/-- A call of yield. -/
theorem WLF.yield {R : Value → World → Prop} {l : Nat} {x y : Operand} {args : List Operand} {tys : Array TypeId} {d : Option Nat} {ty : TypeId} {pos : String} {af : Array Edge} {g : Option (Nat × Bool)}
    (ho : o = ⟨d, .call { callee := .value x, args := args.toArray, argTypes := tys }, ty, pos, af, g⟩) (hx : evo env x = .func (.yield l) #[] #[]) (hw : Region.wanted o (yieldedE ops env) = true) (hd : inN N o.dst = true)
    (hY : YieldAt (FR fo) (n - 1) P l (args.map (evo env)).toArray w (Ret R)) (k : ∀ v w', R v w' → WLF fo n P N ops K rest ds (updo env o.dst v) w') : WLF fo n P N ops K (o :: rest) ds env w := fun a r => by
  unfold wpListIn
  have hyy : yielded ops a.tmps = yieldedE ops env := funext fun j => r.yielded ops j
  rw [hyy, if_pos hw]
  refine ⟨fun _ _ => trivial, ?_⟩
  rw [plain_sem (by rw [ho]; rfl), r.eval]
  obtain ⟨fn, tmps, assign, body, hrun, hR⟩ := hY
  have hex : (execOp (evo env) o).run P w = .ok (.round l fn tmps assign body) w := by
    rw [ho]
    simp [execOp, resolve, Deferred.ofValue, hx, invoke, hrun]
  rw [hex]
  refine ⟨fun h => (by cases h), RoundIn.mono hR ?_⟩
  rintro e w' ⟨v, rfl, hR⟩
  exact k v w' hR _ (r.puto hd v)
end
section
variable {P : Program} {N n : Nat} {fo : Option Nat} {ds : List Deferred} {env : Env} {w : World}
def liftQD (N : Nat) (Q : Exit → List Deferred → Env → World → Prop) : Exit → Act → World → Prop := fun e a w => ∃ ds env, RelD N ds a env ∧ Q e ds env w
def WF (fo : Option Nat) (n : Nat) (P : Program) (N : Nat) (c : Code) (Q : Exit → List Deferred → Env → World → Prop) (ds : List Deferred) (env : Env) (w : World) : Prop :=
  ∀ a, RelD N ds a env → c.wpIn (FR fo) n P (liftQD N Q) a w
@[reducible] def thenF (fo : Option Nat) (n : Nat) (P : Program) (N : Nat) (b : Code) (Q : Exit → List Deferred → Env → World → Prop) : Exit → List Deferred → Env → World → Prop
  | .normal, ds, env, w => WF fo n P N b Q ds env w
  | e, ds, env, w => Q e ds env w
@[reducible] def blockF (id : Nat) (Q : Exit → List Deferred → Env → World → Prop) : Exit → List Deferred → Env → World → Prop
  | .exit i, ds, env, w => match Nat.beq i id with | true => Q .normal ds env w | false => Q (.exit i) ds env w
  | e, ds, env, w => Q e ds env w
variable {Q Q' : Exit → List Deferred → Env → World → Prop}
theorem WF.mono {c : Code} (h : WF fo n P N c Q ds env w) (i : ∀ e ds env w, Q e ds env w → Q' e ds env w) : WF fo n P N c Q' ds env w := fun a r =>
  wpIn_mono (h a r) fun e a' w' ⟨ds', env', r', q⟩ => ⟨ds', env', r', i _ _ _ _ q⟩
theorem WF.seq {x y : Code} (h : WF fo n P N x (thenF fo n P N y Q) ds env w) : WF fo n P N (.seq x y) Q ds env w := fun a r => by
  refine wpIn_seq (wpIn_mono (h a r) ?_)
  rintro e a' w' ⟨ds', env', r', q⟩
  cases e with
  | normal => exact q a' r'
  | _ => exact ⟨ds', env', r', q⟩
theorem WF.skip (h : Q .normal ds env w) : WF fo n P N .skip Q ds env w := fun _ r => wpIn_skip ⟨ds, env, r, h⟩
theorem WF.exit {id : Nat} (h : Q (.exit id) ds env w) : WF fo n P N (.exit id) Q ds env w := fun _ r => wpIn_exit ⟨ds, env, r, h⟩
theorem WF.ret (h : Q .ret ds env w) : WF fo n P N .ret Q ds env w := fun _ r => wpIn_ret ⟨ds, env, r, h⟩
theorem WF.block {id : Nat} {c : Code} (h : WF fo n P N c (blockF id Q) ds env w) : WF fo n P N (.block id c) Q ds env w := fun a r => by
  refine wpIn_block (wpIn_mono (h a r) ?_)
  rintro e a' w' ⟨ds', env', r', q⟩
  cases e with
  | exit i =>
    simp only [Exit.inBlock]
    by_cases hi : i = id
    · subst hi; simp only [blockF, Nat.beq_refl] at q; rw [if_pos rfl]; exact ⟨ds', env', r', q⟩
    · have hb : Nat.beq i id = false := by rw [← Bool.not_eq_true]; intro e; exact hi (Nat.eq_of_beq_eq_true e)
      simp only [blockF, hb] at q; rw [if_neg hi]; exact ⟨ds', env', r', q⟩
  | _ => exact ⟨ds', env', r', q⟩
theorem WF.cond {c : Operand} {x y : Code} (b : Bool) (hc : evo env c = .bool b) (h : WF fo n P N (if b then x else y) Q ds env w) : WF fo n P N (.cond c x y) Q ds env w := fun a r =>
  wpIn_cond (by rw [r.eval]; exact hc) (h a r)
theorem WF.condT {c : Operand} {x y : Code} (hc : evo env c = .bool true) (h : WF fo n P N x Q ds env w) : WF fo n P N (.cond c x y) Q ds env w := WF.cond true hc h
theorem WF.condF {c : Operand} {x y : Code} (hc : evo env c = .bool false) (h : WF fo n P N y Q ds env w) : WF fo n P N (.cond c x y) Q ds env w := WF.cond false hc h
theorem WF.condIf {c : Operand} {x y : Code} {p : Prop} [Decidable p] (hc : evo env c = .bool (decide p)) (ht : p → WF fo n P N x Q ds env w) (hf : ¬ p → WF fo n P N y Q ds env w) : WF fo n P N (.cond c x y) Q ds env w := by
  by_cases h : p
  · exact WF.condT (by rw [hc]; simp [h]) (ht h)
  · exact WF.condF (by rw [hc]; simp [h]) (hf h)
theorem WF.region {id : Nat} {l : List Oper} (h : WLF fo n P N l.toArray (fun ds' env' w' => Q .normal ds' env' w') l ds env w) : WF fo n P N (.region id l.toArray false) Q ds env w := fun a r => by
  refine wpIn_region_lit ?_
  refine weaken ?_ l a w (h a r)
  rintro e a' w' ⟨rfl, ds', env', r', k⟩
  exact ⟨ds', env', r', k⟩
where
  weaken {P : Program} {fo : Option Nat} {n : Nat} {ops : Array Oper} {Q Q' : Exit → Act → World → Prop} (i : ∀ e a w, Q e a w → Q' e a w) : ∀ (l : List Oper) (a : Act) (w : World), wpListIn (FR fo) n P ops Q l a w → wpListIn (FR fo) n P ops Q' l a w := by
    intro l
    induction l with
    | nil => exact fun a w h => i _ _ _ h
    | cons o rest ih =>
      intro a w h
      unfold wpListIn at h ⊢
      split
      · rename_i hw
        rw [if_pos hw] at h
        obtain ⟨h1, h2⟩ := h
        refine ⟨h1, ?_⟩
        generalize (Oper.semAt _ a.eval o).run P w = r at h2 ⊢
        cases r with
        | ok nx w' =>
          cases nx <;> simp only [Oper.uponIn] at h2 ⊢ <;>
            first
              | exact ih _ _ h2
              | exact ⟨h2.1, CallsIn.mono h2.2 (fun e w'' he => by
                  cases e
                  · exact ih _ _ he
                  · exact i _ _ _ he
                  · exact ⟨he.choose, he.choose_spec.choose, i _ _ _ he.choose_spec.choose_spec⟩)⟩
              | exact ⟨h2.1, RoundIn.mono h2.2 (fun e w'' he => by
                  cases e
                  · exact ih _ _ he
                  · exact i _ _ _ he
                  · exact ⟨he.choose, he.choose_spec.choose, i _ _ _ he.choose_spec.choose_spec⟩)⟩
              | exact ⟨h2.1, RowsIn.mono h2.2 (fun _ _ he => ih _ _ he)⟩
        | halt x w' =>
          cases x <;> simp only [Oper.uponIn] at h2 ⊢
          exact i _ _ _ h2
      · rename_i hw
        rw [if_neg hw] at h
        exact ⟨h.1, ih _ _ h.2⟩
@[reducible] def loopF {σ : Type} (I : σ → Env → World → Prop) (m : σ → Nat) (s : σ) (ds : List Deferred) (Q : Exit → List Deferred → Env → World → Prop) : Exit → List Deferred → Env → World → Prop
  | .normal, ds', env, w => ds' = ds ∧ ∃ s', I s' env w ∧ m s' < m s
  | e, ds', env, w => Q e ds' env w
theorem WF.loop {σ : Type} {c : Code} (I : σ → Env → World → Prop) (m : σ → Nat) (s0 : σ) (h0 : I s0 env w)
    (step : ∀ s env w, I s env w → WF fo n P N c (loopF I m s ds Q) ds env w) : WF fo n P N (.loop c) Q ds env w := fun a r => by
  intro b k cs hro hb hr
  have key : ∀ j a w, (∃ s env, RelD N ds a env ∧ I s env w ∧ m s = j) →
      ∃ e a' w', liftQD N Q e a' w' ∧ ArrivesIn (Machine.fenced P (FR fo)) P (lone (b.atR a (.code c :: .inLoop c :: k)) cs w) b k cs e a' w' := by
    intro j
    induction j using Nat.strongRecOn with
    | _ j ih =>
      rintro a w ⟨s, env, r, hI, hm⟩
      obtain ⟨e, a₁, w₁, ⟨ds', env', r', hq⟩, harr⟩ := step s env w hI a r b (.inLoop c :: k) cs hro hb hr
      cases e with
      | normal =>
        obtain ⟨rfl, s', hI', hlt⟩ := hq
        obtain ⟨e₂, a₂, w₂, hq₂, harr₂⟩ := ih (m s') (by omega) a₁ w₁ ⟨s', env', r', hI', rfl⟩
        exact ⟨e₂, a₂, w₂, hq₂, .of_steps (StepsIn.trans harr (.one (fenced_calm hb hr rfl) stepR_inLoop)) harr₂⟩
      | exit id => exact ⟨_, a₁, w₁, ⟨ds', env', r', hq⟩, .pass (x := .inLoop c) rfl (fun _ _ => .inl (by simp)) harr⟩
      | goto l => exact ⟨_, a₁, w₁, ⟨ds', env', r', hq⟩, .pass (x := .inLoop c) rfl (fun _ _ => .inl (by simp)) harr⟩
      | ret => exact ⟨_, a₁, w₁, ⟨ds', env', r', hq⟩, .pass (x := .inLoop c) rfl (fun _ _ => .inl (by simp)) harr⟩
      | panic ch => exact ⟨_, a₁, w₁, ⟨ds', env', r', hq⟩, .pass (x := .inLoop c) rfl (fun _ _ => .inl (by simp)) harr⟩
      | outgrown => exact ⟨_, a₁, w₁, ⟨ds', env', r', hq⟩, .pass (x := .inLoop c) rfl (fun _ _ => .inl (by simp)) harr⟩
  obtain ⟨e, a', w', hq, harr⟩ := key _ a w ⟨s0, env, r, h0, rfl⟩
  exact ⟨e, a', w', hq, .of_steps (.one (fenced_calm hb hr rfl) stepR_loop) harr⟩
end
theorem filt_perm {β γ : Type} [DecidableEq γ] (f : β → γ) : ∀ {l : List β} {e : β}, (l.map f).Nodup → e ∈ l → l.Perm (e :: l.filter fun x => !decide (f x = f e))
  | [], e, _, h => by cases h
  | y :: l, e, hn, h => by
    rw [List.map_cons, List.nodup_cons] at hn
    rcases List.mem_cons.1 h with h1 | h1
    · subst h1
      have e1 : ((e :: l).filter fun x => !decide (f x = f e)) = l := by
        rw [List.filter_cons, if_neg (by simp)]
        refine List.filter_eq_self.2 fun x hx => ?_
        have : f x ≠ f e := fun hh => hn.1 (List.mem_map.2 ⟨x, hx, hh⟩)
        simpa using this
      rw [e1]
    · have hne : f y ≠ f e := fun hh => hn.1 (List.mem_map.2 ⟨e, h1, hh.symm⟩)
      rw [List.filter_cons, if_pos (by simpa using hne)]
      exact ((filt_perm f hn.2 h1).cons y).trans (List.Perm.swap ..)
theorem remM_perm {kvs : List KV} {seen : Array Nat} {e : KV} (hf : (kvs.map (·.2.2)).Nodup) (h : e ∈ remM kvs seen) : (remM kvs seen).Perm (e :: remM kvs (seen.push e.2.2)) := by
  have hn : ((remM kvs seen).map (·.2.2)).Nodup := (List.filter_sublist.map _).nodup hf
  have h1 := filt_perm (fun x : KV => x.2.2) hn h
  have e1 : remM kvs (seen.push e.2.2) = (remM kvs seen).filter fun x => !decide (x.2.2 = e.2.2) := by
    unfold remM
    rw [List.filter_filter]
    refine List.filter_congr fun x _ => ?_
    rw [contains_pushM, Bool.not_or, Bool.and_comm]
    congr 1
  rw [e1]
  exact h1
section
variable {P : Program} {N n : Nat} {ds : List Deferred} {env : Env} {w W0 : World} {L : List HProp} {Q : Exit → List Deferred → Env → World → Prop}
theorem On.putPts {b : Nat} {o : Obj} (o' : Obj) (H : On W0 (pts b o :: L) w) : On W0 (pts b o' :: L) (w.putObj b o') := by
  have hb := H.block 0 rfl
  have hlt : b < w.heap.size := (Array.getElem?_eq_some_iff.1 hb).1
  refine H.set (w' := w.putObj b o') 0 rfl rfl rfl rfl (by simp [World.putObj]) ?_ ?_
  · simp [World.putObj, hlt]
  · intro k hk
    simp [World.putObj, Ne.symm hk]
/-- The slots that a round's values come into. -/
def putps (env : Env) : List (Nat × Value) → Env
  | [] => env
  | (p, v) :: l => putps (upd env p v) l
theorem RelD.putps : ∀ {l : List (Nat × Value)} {a : Act} {env : Env}, RelD N ds a env → (∀ p ∈ l, Nat.ble (p.1 + 1) N = true) → RelD N ds { a with tmps := l.foldl (fun t (x : Nat × Value) => t.setIfInBounds x.1 x.2) a.tmps } (putps env l)
  | [], a, env, r, _ => r
  | (p, v) :: l, a, env, r, h => by
    have r1 := r.put (h (p, v) (List.mem_cons_self ..)) v
    exact RelD.putps (l := l) (a := a.put (some p) v) r1 (fun q hq => h q (List.mem_cons_of_mem _ hq))
abbrev markD (D : Nat) : Deferred := { target := .collected D, args := #[] }
abbrev openD (D : Nat) : HProp := pts D (.deferred (some []))
/-- A range over a function. -/
theorem WF.rangeFunc {α : Type} {g : Operand} {ps : List Nat} {assign body : Code} {gf : FuncId} {caps : Array Value} (encs : α → List Value)
    (hg : evo env g = .func (.func gf) #[] caps) (hen : ∀ args w, (callFunc gf args).run P w = .ok (.enter gf args) w)
    (Y0 : List α → HProp) (S : List α → Prop) (Bd : List α → α → Prop) (env1 : Env → α → Env) (hps : ∀ x, (encs x).length = ps.length) (hpn : ∀ p ∈ ps, Nat.ble (p + 1) N = true)
    (hassign : ∀ l x w, WF (some l) (n - 1 - 1) P N assign (fun e ds' env' w' => e = .normal ∧ ds' = [] ∧ env' = env1 env x ∧ w' = w) [] (putps env (ps.zip (encs x))) w)
    (hbody : ∀ l pre x A w, Bd pre x → On W0 (Y0 pre :: A) w → WF (some l) (n - 1 - 1) P N body (fun e ds' env' w' => e = .normal ∧ On W0 (Y0 (pre ++ [x]) :: A) w') [] (env1 env x) w)
    (hseq : ∀ l (Y : List α → HProp) w, (∀ pre x A w, Bd pre x → On W0 (Y pre :: A) w → YieldAt (FR none) (n - 1 - 1) P l (encs x).toArray w (Ret fun v w' => v = .bool true ∧ On W0 (Y (pre ++ [x]) :: A) w')) →
      On W0 (Y [] :: L) w → CallsIn (FR none) (n - 1) P gf (#[.func (.yield l) #[] #[]] ++ caps) w (Ret fun v w' => ∃ ss, S ss ∧ On W0 (Y ss :: L) w'))
    (H : On W0 (Y0 [] :: L) w) (k : ∀ D ss w', S ss → On W0 (Y0 ss :: openD D :: L) w' → Q .normal (markD D :: ds) env w') :
    WF none n P N (.rangeFunc g ps.toArray assign body) Q ds env w := fun a r => by
  refine wpIn_rangeFunc ?_
  intro fn hfn
  obtain ⟨D, hD⟩ : ∃ D, D = w.heap.size := ⟨_, rfl⟩
  obtain ⟨rec, hrec⟩ : ∃ rec : LoopState → Loop, rec = fun st => { state := st, pending := none, fn, tmps := a.tmps, params := ps.toArray, assign, body, defers := D } := ⟨_, rfl⟩
  obtain ⟨W1, hW1⟩ : ∃ W1, W1 = (w.alloc (.deferred (some []))).alloc (.loop (rec .ready)) := ⟨_, rfl⟩
  have h1 := (H.alloc (.deferred (some []))).alloc (.loop (rec .ready))
  rw [← hD, ← hW1] at h1
  have hsz : (w.alloc (.deferred (some []))).heap.size = D + 1 := by rw [hD]; simp
  rw [hsz] at h1
  obtain ⟨Y, hYd⟩ : ∃ Y : List α → HProp, Y = fun pre => Pack True [Y0 pre, pts (D + 1) (.loop (rec .ready)), openD D] := ⟨_, rfl⟩
  have hYp : ∀ pre, Y pre = Pack True [Y0 pre, pts (D + 1) (.loop (rec .ready)), openD D] := fun pre => by rw [hYd]
  clear hYd
  have hround : ∀ pre x A w, Bd pre x → On W0 (Y pre :: A) w → YieldAt (FR none) (n - 1 - 1) P (D + 1) (encs x).toArray w (Ret fun v w' => v = .bool true ∧ On W0 (Y (pre ++ [x]) :: A) w') := by
    intro pre x A w hbd hY
    rw [hYp] at hY
    obtain ⟨_, hY⟩ := hY.unpack
    have hY : On W0 (Y0 pre :: pts (D + 1) (.loop (rec .ready)) :: openD D :: A) w := hY
    have hl : w.heap[D + 1]? = some (.loop (rec .ready)) := hY.block 1 rfl
    have hy := run_yield (P := P) (args := (encs x).toArray) hl (by rw [hrec]; simp [hps x])
    refine ⟨_, _, _, _, hy, roundIn_of_wpIn trivial ?_⟩
    have rr : RelD N [] { tmps := (((rec .ready).params.zip (encs x).toArray).foldl (fun tmps (t, a) => tmps.setIfInBounds t a) (rec .ready).tmps), defers := [] } (putps env (ps.zip (encs x))) := by
      have r0 : RelD N [] { tmps := a.tmps, defers := [] } env := ⟨r.size, r.get, rfl⟩
      have := r0.putps (l := ps.zip (encs x)) (fun p hp => hpn p.1 (List.of_mem_zip hp).1)
      rw [hrec]
      simpa using this
    have ea : (rec .ready).assign = assign := by rw [hrec]
    have eb : (rec .ready).body = body := by rw [hrec]
    rw [ea, eb]
    refine wpIn_mono (hassign (D + 1) x w _ rr) ?_
    rintro e a1 w1 ⟨ds1, env1', r1, rfl, rfl, rfl, rfl⟩
    have hb := run_beginRound (P := P) hl (by rw [hrec])
    refine ⟨_, hb, ?_⟩
    have h2 : On W0 (pts (D + 1) (.loop { rec .ready with state := .busy }) :: Y0 pre :: openD D :: A) (w1.putObj (D + 1) (.loop { rec .ready with state := .busy })) := On.putPts _ hY.p1
    refine wpIn_mono (hbody (D + 1) pre x _ _ hbd h2.p1 a1 r1) ?_
    rintro e a2 w2 ⟨ds2, env2, r2, rfl, h3⟩
    have hl3 := h3.block 1 rfl
    have he := run_endRound (P := P) none hl3
    refine ⟨_, _, he, _, rfl, rfl, ?_⟩
    rw [hYp]
    refine On.pack trivial ?_
    have h4 := On.putPts (.loop { { rec .ready with state := .busy } with state := if (none : Option Code).isNone then .ready else .done, pending := none }) h3.p1
    have e4 : ({ { rec .ready with state := .busy } with state := if (none : Option Code).isNone then .ready else .done, pending := none } : Loop) = rec .ready := by rw [hrec]; rfl
    rw [e4] at h4 ⊢
    exact h4.p1
  have h2 : On W0 (Y [] :: L) W1   := by
    rw [hYp]
    refine On.pack trivial ?_
    have h3 : On W0 (pts (D + 1) (.loop (rec .ready)) :: openD D :: Y0 [] :: L) _ := h1
    exact h3.p2
  have hcall := hseq (D + 1) Y W1 hround h2
  have hen1 : (Instr.enterLoop fn a.tmps ps.toArray assign body none).run P w = .ok (D + 1, [markD D]) W1 := by
    rw [hW1, hrec, hD]; exact run_enterLoop_outer _ _ _ _ _
  have hres : (resolve a.eval (rangeCall g (D + 1)) 0).run P W1 = .ok { target := .fn (.func gf) caps, args := #[.func (.yield (D + 1)) #[] #[]] } W1 := by
    have hge : a.eval g = .func (.func gf) #[] caps := by rw [r.eval]; exact hg
    simp only [resolve, hge]
    simp [go_sem]
  have hinv : (invoke (.fn (.func gf) caps) #[.func (.yield (D + 1)) #[] #[]]).run P W1 = .ok (.enter gf (#[.func (.yield (D + 1)) #[] #[]] ++ caps)) W1 := by
    simp [invoke, go_sem, hen]
  have hpost : ∀ (e : Ending) (w2 : World), Ret (fun v w' => ∃ ss, S ss ∧ On W0 (Y ss :: L) w') e w2 → rangePost (FR none) n P (D + 1) (liftQD N Q) { a with defers := [markD D] ++ a.defers } e w2 := by
    rintro e w2 ⟨v, rfl, ss, hS, h3⟩
    rw [hYp] at h3
    obtain ⟨_, h3⟩ := h3.unpack
    have h3 : On W0 (Y0 ss :: pts (D + 1) (.loop (rec .ready)) :: openD D :: L) w2 := h3
    have hl := h3.block 1 rfl
    have hp0 : (rec .ready).pending = none := by rw [hrec]
    have he : (Instr.endLoop (D + 1)).run P w2 = .ok none (w2.putObj (D + 1) (.loop { rec .ready with state := .exhausted })) := by
      have := run_endLoop (P := P) hl (by rw [hrec]; simp)
      rw [this]
      exact congrArg (fun q => Result.ok q _) hp0
    have h4 := On.putPts (.loop { rec .ready with state := .exhausted }) h3.p1
    refine ⟨none, _, he, markD D :: ds, env, ⟨r.size, r.get, by rw [← r.defers]; rfl⟩, k D ss _ hS h4.tail⟩
  exact ⟨D + 1, [markD D], W1, _, W1, gf, _, W1, hen1, hres, fun _ _ => trivial, hinv, fun h => (by cases h), CallsIn.mono hcall hpost⟩
theorem relD_enter {fn : Func} {args : List Value} (hn : fn.ntmps = N) (hl : Nat.ble args.length N = true) : RelD N [] { tmps := args.toArray ++ Array.replicate (fn.ntmps - args.toArray.size) undef, defers := [] } (nthV args) := by
  have hle : args.length ≤ N := Nat.le_of_ble_eq_true hl
  refine ⟨?_, fun t => ?_, rfl⟩
  · simp [hn]; omega
  · have nth : ∀ (l : List Value) (t : Nat), nthV l t = l.getD t undef := by
      intro l
      induction l with
      | nil => intro t; simp [nthV]
      | cons v l ih => intro t; cases t with
        | zero => simp [nthV]
        | succ t => simp [nthV, ih]
    rw [nth]
    simp only [Array.getD_eq_getD_getElem?, List.getD_eq_getElem?_getD]
    rw [Array.getElem?_append]
    split
    · simp
    · rename_i hge
      simp at hge
      rw [List.getElem?_eq_none hge, Array.getElem?_replicate]
      split <;> rfl
@[reducible] def bodyF (P : Program) (fn : Func) (R : Value → World → Prop) : Exit → List Deferred → Env → World → Prop := fun e ds env w => ds = [] ∧ bodyQ P fn R e env w
/-- A function that ends with the mark of a loop over a function. -/
@[reducible] def bodyM (P : Program) (fn : Func) (R : Value → World → Prop) : Exit → List Deferred → Env → World → Prop
  | .ret, ds, env, w => ∃ D, ds = [markD D] ∧ w.heap[D]? = some (.deferred (some [])) ∧ bodyQ P fn R .ret env (w.putObj D (.deferred none))
  | _, _, _, _ => False
theorem enterF {f : FuncId} {fn : Func} {c : Code} {args : List Value} {R : Value → World → Prop} (hf : P.funcs[f]? = some fn) (hb : fn.body = some c) (hn : fn.ntmps = N) (hl : Nat.ble args.length N = true)
    (h : WF none n P N c (bodyF P fn R) [] (nthV args) w) : CallsIn (FR none) n P f args.toArray w (Ret R) := by
  refine callsIn_of_wp hf hb trivial ?_
  refine wpIn_mono (h _ (relD_enter hn hl)) ?_
  rintro e a' w' ⟨ds', env', r', rfl, q⟩
  cases e with
  | normal => obtain ⟨v, hv, hR⟩ := q; exact ⟨r'.defers, v, hv a'.tmps r'.get, v, rfl, hR⟩
  | ret => obtain ⟨v, hv, hR⟩ := q; exact ⟨r'.defers, v, hv a'.tmps r'.get, v, rfl, hR⟩
  | exit _ => exact q.elim
  | goto _ => exact q.elim
  | panic _ => exact q.elim
  | outgrown => exact q.elim
theorem enterM {f : FuncId} {fn : Func} {c : Code} {args : List Value} {R : Value → World → Prop} (hf : P.funcs[f]? = some fn) (hb : fn.body = some c) (hn : fn.ntmps = N) (hl : Nat.ble args.length N = true)
    (h : WF none n P N c (bodyM P fn R) [] (nthV args) w) : CallsIn (FR none) n P f args.toArray w (Ret R) := by
  refine callsIn_of_wp_marks hf hb trivial ?_
  refine wpIn_mono (h _ (relD_enter hn hl)) ?_
  rintro e a' w' ⟨ds', env', r', q⟩
  cases e with
  | ret =>
    obtain ⟨D, rfl, hD, v, hv, hR⟩ := q
    show LeavesInM _ _ _ _ _ _ a'.defers _ _
    rw [r'.defers]
    exact ⟨(by simp), .inl ⟨D, _, rfl, run_takeDeferred hD, v, hv a'.tmps r'.get, v, rfl, hR⟩⟩
  | normal => exact q.elim
  | exit _ => exact q.elim
  | goto _ => exact q.elim
  | panic _ => exact q.elim
  | outgrown => exact q.elim
end
end Go.Sl
