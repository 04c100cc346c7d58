/-
  A range over a function whose variables lie in memory. Nothing of any program is named here.
-/
import Derived.Test.YtdpakoefdpmebaaGreatSlRound
namespace Go.Sl
open Go
set_option linter.unusedVariables false
section
variable {P : Program} {N n : Nat} {fo : Option Nat} {ds : List Deferred} {env : Env} {w W0 : World} {L : List HProp} {Q Q' : Exit → List Deferred → Env → World → Prop}
/-- A range over a function whose variables lie in memory. -/
theorem WF.rangeFunc2 {α β : Type} {g : Operand} {ps : List Nat} {assign body : Code} {gf : FuncId} {caps : Array Value} (encs : α → List Value)
    (hg : evo env g = .func (.func gf) #[] caps) (hen : ∀ args w, (callFunc gf args).run P w = .ok (.enter gf args) w)
    (Y0 : List α → HProp) (S : List α → Prop) (Bd : List α → α → Prop) (Y1 : List α → α → β → HProp) (env1 : Env → α → β → Env) (hps : ∀ x, (encs x).length = ps.length) (hpn : ∀ p ∈ ps, Nat.ble (p + 1) N = true)
    (hassign : ∀ l pre x A w, Bd pre x → On W0 (Y0 pre :: A) w → WF (some l) (n - 1 - 1) P N assign (fun e ds' env' w' => e = .normal ∧ ds' = [] ∧ ∃ y, env' = env1 env x y ∧ On W0 (Y1 pre x y :: A) w') [] (putps env (ps.zip (encs x))) w)
    (hbody : ∀ l pre x y A w, Bd pre x → On W0 (Y1 pre x y :: A) w → WF (some l) (n - 1 - 1) P N body (fun e ds' env' w' => e = .normal ∧ On W0 (Y0 (pre ++ [x]) :: A) w') [] (env1 env x y) w)
    (hseq : ∀ l (Y : List α → HProp) w, (∀ pre x A w, Bd pre x → On W0 (Y pre :: A) w → YieldAt (FR none) (n - 1 - 1) P l (encs x).toArray w (Ret fun v w' => v = .bool true ∧ On W0 (Y (pre ++ [x]) :: A) w')) →
      On W0 (Y [] :: L) w → CallsIn (FR none) (n - 1) P gf (#[.func (.yield l) #[] #[]] ++ caps) w (Ret fun v w' => ∃ ss, S ss ∧ On W0 (Y ss :: L) w'))
    (H : On W0 (Y0 [] :: L) w) (k : ∀ D ss w', S ss → On W0 (Y0 ss :: openD D :: L) w' → Q .normal (markD D :: ds) env w') :
    WF none n P N (.rangeFunc g ps.toArray assign body) Q ds env w := fun a r => by
  refine wpIn_rangeFunc ?_
  intro fn hfn
  obtain ⟨D, hD⟩ : ∃ D, D = w.heap.size := ⟨_, rfl⟩
  obtain ⟨rec, hrec⟩ : ∃ rec : LoopState → Loop, rec = fun st => { state := st, pending := none, fn, tmps := a.tmps, params := ps.toArray, assign, body, defers := D } := ⟨_, rfl⟩
  obtain ⟨W1, hW1⟩ : ∃ W1, W1 = (w.alloc (.deferred (some []))).alloc (.loop (rec .ready)) := ⟨_, rfl⟩
  have h1 := (H.alloc (.deferred (some []))).alloc (.loop (rec .ready))
  rw [← hD, ← hW1] at h1
  have hsz : (w.alloc (.deferred (some []))).heap.size = D + 1 := by rw [hD]; simp
  rw [hsz] at h1
  obtain ⟨Y, hYd⟩ : ∃ Y : List α → HProp, Y = fun pre => Pack True [Y0 pre, pts (D + 1) (.loop (rec .ready)), openD D] := ⟨_, rfl⟩
  have hYp : ∀ pre, Y pre = Pack True [Y0 pre, pts (D + 1) (.loop (rec .ready)), openD D] := fun pre => by rw [hYd]
  clear hYd
  have hround : ∀ pre x A w, Bd pre x → On W0 (Y pre :: A) w → YieldAt (FR none) (n - 1 - 1) P (D + 1) (encs x).toArray w (Ret fun v w' => v = .bool true ∧ On W0 (Y (pre ++ [x]) :: A) w') := by
    intro pre x A w hbd hY
    rw [hYp] at hY
    obtain ⟨_, hY⟩ := hY.unpack
    have hY : On W0 (Y0 pre :: pts (D + 1) (.loop (rec .ready)) :: openD D :: A) w := hY
    have hl : w.heap[D + 1]? = some (.loop (rec .ready)) := hY.block 1 rfl
    have hy := run_yield (P := P) (args := (encs x).toArray) hl (by rw [hrec]; simp [hps x])
    refine ⟨_, _, _, _, hy, roundIn_of_wpIn trivial ?_⟩
    have rr : RelD N [] { tmps := (((rec .ready).params.zip (encs x).toArray).foldl (fun tmps (t, a) => tmps.setIfInBounds t a) (rec .ready).tmps), defers := [] } (putps env (ps.zip (encs x))) := by
      have r0 : RelD N [] { tmps := a.tmps, defers := [] } env := ⟨r.size, r.get, rfl⟩
      have := r0.putps (l := ps.zip (encs x)) (fun p hp => hpn p.1 (List.of_mem_zip hp).1)
      rw [hrec]
      simpa using this
    have ea : (rec .ready).assign = assign := by rw [hrec]
    have eb : (rec .ready).body = body := by rw [hrec]
    rw [ea, eb]
    refine wpIn_mono (hassign (D + 1) pre x _ w hbd hY _ rr) ?_
    rintro e a1 w1 ⟨ds1, env1', r1, rfl, rfl, y, rfl, hY1⟩
    have hl1 : w1.heap[D + 1]? = some (.loop (rec .ready)) := hY1.block 1 rfl
    have hb := run_beginRound (P := P) hl1 (by rw [hrec])
    refine ⟨_, hb, ?_⟩
    have h2 : On W0 (pts (D + 1) (.loop { rec .ready with state := .busy }) :: Y1 pre x y :: openD D :: A) (w1.putObj (D + 1) (.loop { rec .ready with state := .busy })) := On.putPts _ hY1.p1
    refine wpIn_mono (hbody (D + 1) pre x y _ _ hbd h2.p1 a1 r1) ?_
    rintro e a2 w2 ⟨ds2, env2, r2, rfl, h3⟩
    have hl3 := h3.block 1 rfl
    have he := run_endRound (P := P) none hl3
    refine ⟨_, _, he, _, rfl, rfl, ?_⟩
    rw [hYp]
    refine On.pack trivial ?_
    have h4 := On.putPts (.loop { { rec .ready with state := .busy } with state := if (none : Option Code).isNone then .ready else .done, pending := none }) h3.p1
    have e4 : ({ { rec .ready with state := .busy } with state := if (none : Option Code).isNone then .ready else .done, pending := none } : Loop) = rec .ready := by rw [hrec]; rfl
    rw [e4] at h4 ⊢
    exact h4.p1
  have h2 : On W0 (Y [] :: L) W1   := by
    rw [hYp]
    refine On.pack trivial ?_
    have h3 : On W0 (pts (D + 1) (.loop (rec .ready)) :: openD D :: Y0 [] :: L) _ := h1
    exact h3.p2
  have hcall := hseq (D + 1) Y W1 hround h2
  have hen1 : (Instr.enterLoop fn a.tmps ps.toArray assign body none).run P w = .ok (D + 1, [markD D]) W1 := by
    rw [hW1, hrec, hD]; exact run_enterLoop_outer _ _ _ _ _
  have hres : (resolve a.eval (rangeCall g (D + 1)) 0).run P W1 = .ok { target := .fn (.func gf) caps, args := #[.func (.yield (D + 1)) #[] #[]] } W1 := by
    have hge : a.eval g = .func (.func gf) #[] caps := by rw [r.eval]; exact hg
    simp only [resolve, hge]
    simp [go_sem]
  have hinv : (invoke (.fn (.func gf) caps) #[.func (.yield (D + 1)) #[] #[]]).run P W1 = .ok (.enter gf (#[.func (.yield (D + 1)) #[] #[]] ++ caps)) W1 := by
    simp [invoke, go_sem, hen]
  have hpost : ∀ (e : Ending) (w2 : World), Ret (fun v w' => ∃ ss, S ss ∧ On W0 (Y ss :: L) w') e w2 → rangePost (FR none) n P (D + 1) (liftQD N Q) { a with defers := [markD D] ++ a.defers } e w2 := by
    rintro e w2 ⟨v, rfl, ss, hS, h3⟩
    rw [hYp] at h3
    obtain ⟨_, h3⟩ := h3.unpack
    have h3 : On W0 (Y0 ss :: pts (D + 1) (.loop (rec .ready)) :: openD D :: L) w2 := h3
    have hl := h3.block 1 rfl
    have hp0 : (rec .ready).pending = none := by rw [hrec]
    have he : (Instr.endLoop (D + 1)).run P w2 = .ok none (w2.putObj (D + 1) (.loop { rec .ready with state := .exhausted })) := by
      have := run_endLoop (P := P) hl (by rw [hrec]; simp)
      rw [this]
      exact congrArg (fun q => Result.ok q _) hp0
    have h4 := On.putPts (.loop { rec .ready with state := .exhausted }) h3.p1
    refine ⟨none, _, he, markD D :: ds, env, ⟨r.size, r.get, by rw [← r.defers]; rfl⟩, k D ss _ hS h4.tail⟩
  exact ⟨D + 1, [markD D], W1, _, W1, gf, _, W1, hen1, hres, fun _ _ => trivial, hinv, fun h => (by cases h), CallsIn.mono hcall hpost⟩
end
end Go.Sl
