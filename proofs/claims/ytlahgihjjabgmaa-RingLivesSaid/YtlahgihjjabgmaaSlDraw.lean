/-
  A region that draws its order: an operation whose value hangs on a condition on the world may be taken first; the condition is owed behind each operation that may come ahead of it, and behind no other.
-/
import Derived.Test.YtlahgihjjabgmaaSlWalk
namespace Go.Sl
open Go
set_option linter.unusedVariables false

/-- Does operation j wait for operation i, directly or through others? -/
def waits (ops : Array Oper) (j i : Nat) : Bool := ((Region.before ops).getD j 0).testBit i

/-- Whoever is listed has all listed that he waits for. -/
def Closed (ops : Array Oper) (listed : Array Bool) : Prop :=
  ∀ k o, listed.getD k false = true → ops[k]? = some o → ∀ e ∈ o.after, Region.binds .any e = true → listed.getD e.on false = true
def closedB (ops : Array Oper) (listed : Array Bool) : Bool :=
  (List.range ops.size).all fun k => !listed.getD k false || match ops[k]? with
    | some o => o.after.all fun e => !Region.binds .any e || listed.getD e.on false
    | none => true
theorem closed_of {ops : Array Oper} {listed : Array Bool} (h : closedB ops listed = true) : Closed ops listed := fun k o hk ho e he hb => by
  have hlt : k < ops.size := (Array.getElem?_eq_some_iff.1 ho).1
  have h1 := List.all_eq_true.1 h k (List.mem_range.2 hlt)
  simp only [hk, ho, Bool.not_true, Bool.false_or] at h1
  have h2 := Array.all_eq_true_iff_forall_mem.1 h1 e he
  simpa [hb] using h2

theorem before_ok (ops : Array Oper) {listed : Array Bool} (hc : Closed ops listed) :
    ∀ k o, ops[k]? = some o → (∀ e ∈ o.after, Region.binds .any e = true → listed.getD e.on false = true) → ∀ i, waits ops k i = true → listed.getD i false = true := by
  -- a fact of every front of the list of bits
  have key : ∀ (l : List Oper) (pre : List Oper) (acc : Array Nat), ops.toList = pre ++ l → acc.size = pre.length →
      (∀ k o, ops[k]? = some o → (∀ e ∈ o.after, Region.binds .any e = true → listed.getD e.on false = true) → ∀ i, (acc.getD k 0).testBit i = true → listed.getD i false = true) →
      (∀ k o, ops[k]? = some o → (∀ e ∈ o.after, Region.binds .any e = true → listed.getD e.on false = true) → ∀ i, ((l.foldl (fun acc o => acc.push (o.after.foldl (fun s e => if Region.binds .any e then s ||| 2 ^ e.on ||| acc.getD e.on 0 else s) 0)) acc).getD k 0).testBit i = true → listed.getD i false = true) := by
    intro l
    induction l with
    | nil => intro pre acc _ _ h; exact h
    | cons x l ih =>
      intro pre acc hops hsz h
      simp only [List.foldl_cons]
      refine ih (pre ++ [x]) _ (by simp [hops]) (by simp [hsz]) ?_
      intro k o hk hall i hi
      by_cases hks : k = acc.size
      · subst hks
        have hx : o = x := by
          have : ops[acc.size]? = some x := by rw [← Array.getElem?_toList, hops, hsz]; simp
          rw [this] at hk; exact (Option.some.inj hk).symm
        subst hx
        simp only [Array.getD_eq_getD_getElem?, Array.getElem?_push_size, Option.getD_some] at hi
        -- the fold over the edges
        have fold : ∀ (es : List Edge) (s : Nat), (∀ e ∈ es, e ∈ o.after) → (s.testBit i = true → listed.getD i false = true) →
            (es.foldl (fun s e => if Region.binds .any e then s ||| 2 ^ e.on ||| acc.getD e.on 0 else s) s).testBit i = true → listed.getD i false = true := by
          intro es
          induction es with
          | nil => intro s _ hs h; exact hs h
          | cons e es ihe =>
            intro s hm hs hf
            simp only [List.foldl_cons] at hf
            refine ihe _ (fun e' he' => hm e' (List.mem_cons_of_mem _ he')) ?_ hf
            intro hb
            by_cases hbind : Region.binds .any e = true
            · rw [if_pos hbind] at hb
              simp only [Nat.testBit_or, Bool.or_eq_true] at hb
              have hlist : listed.getD e.on false = true := hall e (hm e (List.mem_cons_self ..)) hbind
              rcases hb with (hb | hb) | hb
              · exact hs hb
              · rw [Nat.testBit_two_pow] at hb
                have : e.on = i := by simpa using hb
                rw [← this]; exact hlist
              · cases hoe : ops[e.on]? with
                | none =>
                  have hge : acc.size ≤ e.on := by
                    have h1 : ops.size ≤ e.on := Array.getElem?_eq_none_iff.1 hoe
                    have h2 : acc.size < ops.size := (Array.getElem?_eq_some_iff.1 hk).1
                    omega
                  simp [Array.getElem?_eq_none hge] at hb
                | some oe => exact h e.on oe hoe (fun e' he' hb' => hc e.on oe hlist hoe e' he' hb') i hb
            · rw [if_neg hbind] at hb; exact hs hb
        rw [← Array.foldl_toList] at hi
        simp only [← Array.getD_eq_getD_getElem?] at hi
        exact fold o.after.toList 0 (fun e he => by simpa using he) (by simp) hi
      · rw [Array.getD_eq_getD_getElem?, Array.getElem?_push, if_neg hks, ← Array.getD_eq_getD_getElem?] at hi
        exact h k o hk hall i hi
  intro k o hk hall i hi
  unfold waits Region.before at hi
  rw [← Array.foldl_toList] at hi
  exact key ops.toList [] #[] (by simp) rfl (by intro k o _ _ i hi; simp at hi) k o hk hall i hi

abbrev Owed := List (Nat × (World → Prop))
def owedBy (ops : Array Oper) (j : Nat) (T : Owed) : Owed := T.filter fun p => !waits ops j p.1
/-- All that is owed behind operation j. -/
def paid (ops : Array Oper) (j : Nat) : Owed → World → Prop
  | [], _ => True
  | (i, S) :: T, w => (match waits ops j i with | true => True | false => S w) ∧ paid ops j T w

section
variable {P : Program} {ops : Array Oper} {Q : Exit → Act → World → Prop}

def wpAnyT (P : Program) (ops : Array Oper) (Q : Exit → Act → World → Prop) : Nat → Owed → Array Bool → Act → World → Prop
  | 0, _, listed, a, w => Region.ready .any ops listed = [] ∧ Q .normal a w
  | fuel + 1, T, listed, a, w =>
    (Region.ready .any ops listed = [] → Q .normal a w) ∧
    ∀ i ∈ Region.ready .any ops listed, wpOp P ops Q i (fun a' w' => paid ops i T w' ∧ wpAnyT P ops Q fuel (owedBy ops i T) (listed.setIfInBounds i true) a' w') a w

theorem wpAny_of_T : ∀ (fuel : Nat) (T : Owed) (listed : Array Bool) (a : Act) (w : World), wpAnyT P ops Q fuel T listed a w → wpAny P .any ops Q fuel listed a w
  | 0, _, _, _, _, h => h
  | fuel + 1, _, _, _, _, h => ⟨h.1, fun i hi => wpOp_mono (fun a' w' h' => wpAny_of_T fuel _ _ a' w' h'.2) (h.2 i hi)⟩

theorem wpAnyT_drop : ∀ (fuel : Nat) (T : Owed) (f : Nat × (World → Prop) → Bool) (listed : Array Bool) (a : Act) (w : World), wpAnyT P ops Q fuel T listed a w → wpAnyT P ops Q fuel (T.filter f) listed a w := by
  intro fuel
  induction fuel with
  | zero => exact fun T f listed a w h => h
  | succ fuel ih =>
    intro T f listed a w h
    refine ⟨h.1, fun j hj => wpOp_mono (fun a' w' h' => ?_) (h.2 j hj)⟩
    obtain ⟨h1, h2⟩ := h'
    refine ⟨?_, ?_⟩
    · clear h2 h
      induction T with
      | nil => trivial
      | cons p T ihT =>
        rw [List.filter_cons]
        split
        · exact ⟨h1.1, ihT h1.2⟩
        · exact ihT h1.2
    · have e : owedBy ops j (T.filter f) = (owedBy ops j T).filter f := by
        unfold owedBy; rw [List.filter_filter, List.filter_filter]; congr 1; funext p; rw [Bool.and_comm]
      rw [e]
      exact ih _ _ _ _ _ h2

theorem wpAnyT_first {i : Nat} {oi : Oper} {v : Value} {S : World → Prop} (hi : ops[i]? = some oi) (hsel : ∀ (j : Nat) (o : Oper) cs b, ops[j]? = some o → o.op ≠ .select cs b)
    (hQ : ∀ c a w, Q (.panic c) (a.put oi.dst v) w → Q (.panic c) a w) :
    ∀ (fuel : Nat) (T : Owed) (listed : Array Bool) (a : Act) (w : World),
      (∀ j oj, ops[j]? = some oj → j ≠ i → listed.getD j true = false → (∀ e ∈ oj.after, Region.binds .any e = true → e.on ≠ i) → oi.apart ops oj = true) →
      Closed ops listed → i ∈ Region.ready .any ops listed → YieldsIf P ops S oi v a → S w → paid ops i T w →
      wpAnyT P ops Q fuel ((i, S) :: T) (listed.setIfInBounds i true) (a.put oi.dst v) w → wpAnyT P ops Q (fuel + 1) T listed a w := by
  have here : ∀ (fuel : Nat) (T : Owed) (listed : Array Bool) (a : Act) (w : World), YieldsIf P ops S oi v a → S w → paid ops i T w →
      wpAnyT P ops Q fuel ((i, S) :: T) (listed.setIfInBounds i true) (a.put oi.dst v) w →
      wpOp P ops Q i (fun a' w' => paid ops i T w' ∧ wpAnyT P ops Q fuel (owedBy ops i T) (listed.setIfInBounds i true) a' w') a w := by
    intro fuel T listed a w hy hS hp H
    refine hy.wpOp hi hS ⟨hp, ?_⟩
    by_cases hii : waits ops i i = true
    · have e : owedBy ops i T = ((i, S) :: T).filter (fun p => !waits ops i p.1) := by unfold owedBy; rw [List.filter_cons]; simp [hii]
      rw [e]; exact wpAnyT_drop _ _ _ _ _ _ H
    · have h2 := wpAnyT_drop _ _ (fun p => !waits ops i p.1) _ _ _ H
      rw [List.filter_cons] at h2
      simp only [hii, Bool.not_false, if_true] at h2
      have tailOf : ∀ (fuel : Nat) (x : Nat × (World → Prop)) (T : Owed) (listed : Array Bool) (a : Act) (w : World), wpAnyT P ops Q fuel (x :: T) listed a w → wpAnyT P ops Q fuel T listed a w := by
        intro fuel
        induction fuel with
        | zero => exact fun x T listed a w h => h
        | succ fuel ih =>
          intro x T listed a w h
          refine ⟨h.1, fun j hj => wpOp_mono (fun a' w' h' => ?_) (h.2 j hj)⟩
          obtain ⟨h1, h2⟩ := h'
          refine ⟨h1.2, ?_⟩
          unfold owedBy at h2 ⊢
          rw [List.filter_cons] at h2
          split at h2
          · exact ih _ _ _ _ _ h2
          · exact h2
      exact tailOf _ _ _ _ _ _ h2
  intro fuel
  induction fuel with
  | zero =>
    intro T listed a w _ _ hr hy hS hp H
    refine ⟨fun h => (by rw [h] at hr; cases hr), fun j hj => ?_⟩
    by_cases hji : j = i
    · subst hji; exact here 0 T listed a w hy hS hp H
    · have := ready_mono hj hji
      rw [H.1] at this
      cases this
  | succ fuel ih =>
    intro T listed a w hfree hc hr hy hS hp H
    refine ⟨fun h => (by rw [h] at hr; cases hr), fun j hj => ?_⟩
    by_cases hji : j = i
    · subst hji; exact here (fuel + 1) T listed a w hy hS hp H
    · have h1 := H.2 j (ready_mono hj hji)
      obtain ⟨hjun, oj, hoj, hall⟩ := mem_ready.1 hj
      have hiun : listed.getD i false = false := by
        have h0 := (mem_ready.1 hr).1
        rcases Nat.lt_or_ge i listed.size with h' | h'
        · simp [h'] at h0 ⊢; exact h0
        · simp [Array.getElem?_eq_none h'] at h0
      have hnot : ∀ e ∈ oj.after, Region.binds .any e = true → e.on ≠ i := fun e he hb heq => by
        have h1 := hall e he hb
        rw [heq, hiun] at h1
        cases h1
      have hw : waits ops j i = false := by
        rw [← Bool.not_eq_true]
        intro hwt
        have := before_ok ops hc j oj hoj hall i hwt
        rw [hiun] at this
        cases this
      have h2 := wpOp_putIf hoj (hfree j oj hoj hji hjun hnot) (fun cs b => hsel i oi cs b hi) (fun cs b => hsel j oj cs b hoj) hQ hy h1
      have hfree' : ∀ k ok, ops[k]? = some ok → k ≠ i → (listed.setIfInBounds j true).getD k true = false →
          (∀ e ∈ ok.after, Region.binds .any e = true → e.on ≠ i) → oi.apart ops ok = true := fun k ok hk hki hun hno => by
        refine hfree k ok hk hki ?_ hno
        by_cases hjk : j = k
        · subst hjk; exact hjun
        · rw [getD_set_ne true hjk] at hun; exact hun
      have hc' : Closed ops (listed.setIfInBounds j true) := fun k o hk ho e he hb => by
        refine getD_set_true ?_
        by_cases hjk : j = k
        · subst hjk; rw [hoj] at ho; cases ho; exact hall e he hb
        · rw [getD_set_ne false hjk] at hk; exact hc k o hk ho e he hb
      refine wpOp_mono (fun a' w' h3 => ?_) h2
      obtain ⟨hy', hpaid, hrest⟩ := h3
      have hpd : S w' ∧ paid ops j T w' := by
        have := hpaid
        simp only [paid, hw] at this
        exact this
      refine ⟨hpd.2, ih (owedBy ops j T) (listed.setIfInBounds j true) a' w' hfree' hc' (ready_mono hr (Ne.symm hji)) hy' hpd.1 ?_ ?_⟩
      · have sub : ∀ (T : Owed), paid ops j T w' → paid ops i (owedBy ops j T) w' := by
          intro T
          induction T with
          | nil => intro _; trivial
          | cons p T ihT =>
            intro hp
            unfold owedBy
            rw [List.filter_cons]
            split
            · rename_i hpj
              refine ⟨?_, ihT hp.2⟩
              have h0 := hp.1
              have : waits ops j p.1 = false := by simpa using hpj
              rw [this] at h0
              split
              · trivial
              · exact h0
            · exact ihT hp.2
        exact sub T hpd.2
      · have e : owedBy ops j ((i, S) :: T) = (i, S) :: owedBy ops j T := by
          unfold owedBy; rw [List.filter_cons]; simp [hw]
        rw [e] at hrest
        rw [Array.setIfInBounds_comm _ _ hji]
        exact hrest
end

section
variable {P : Program} {N : Nat} {ops : Array Oper} {K : Env → World → Prop} {env : Env} {w : World} {T : Owed} {fuel : Nat} {listed : Array Bool}

/-- Those that a mask leaves. -/
@[reducible] def keepM : List Bool → Owed → Owed
  | true :: bs, p :: T => p :: keepM bs T
  | false :: bs, _ :: T => keepM bs T
  | _, _ => []
/-- All that is owed holds now. -/
@[reducible] def AllOwed : Owed → World → Prop
  | [], _ => True
  | (_, S) :: T, w => S w ∧ AllOwed T w
theorem paid_of : ∀ {T : Owed} {i : Nat}, AllOwed (owedBy ops i T) w → paid ops i T w := by
  intro T
  induction T with
  | nil => intro i _; trivial
  | cons p T ih =>
    intro i h
    unfold owedBy at h
    rw [List.filter_cons] at h
    split at h
    · rename_i hp
      refine ⟨?_, ih h.2⟩
      split
      · trivial
      · exact h.1
    · rename_i hp
      refine ⟨?_, ih h⟩
      have : waits ops i p.1 = true := by simpa using hp
      rw [this]; trivial
theorem AllOwed.filter {f : Nat × (World → Prop) → Bool} : ∀ {T : Owed}, AllOwed T w → AllOwed (T.filter f) w := by
  intro T
  induction T with
  | nil => exact fun h => h
  | cons p T ih =>
    intro h
    rw [List.filter_cons]
    split
    · exact ⟨h.1, ih h.2⟩
    · exact ih h.2

/-- A drawn region's state. -/
def WT (P : Program) (N : Nat) (ops : Array Oper) (K : Env → World → Prop) (fuel : Nat) (T : Owed) (listed : Array Bool) (env : Env) (w : World) : Prop :=
  AllOwed T w → ∀ a, Rel N a env → wpAnyT P ops (liftK N K) fuel T listed a w

theorem W.draw {Q : Exit → Env → World → Prop} {id : Nat} {l : List Oper} {W0 : World} {L : List HProp} (hm : P.follows .mixedOrders = true) (hO : On W0 L w)
    (h : ∀ w', On W0 L w' → WT P N l.toArray (fun env' w' => Q .normal env' w') l.length [] (Array.replicate l.length false) env w') : W P N (.region id l.toArray true) Q env w := fun a r => by
  refine wp_region_any hm ?_
  have := h w.drew hO.drew trivial a r
  have h2 := wpAny_of_T _ _ _ _ _ this
  have e : l.toArray.size = l.length := by simp
  rw [e]
  refine weaken ?_ _ _ _ _ h2
  rintro e a' w' ⟨rfl, env', r', k⟩
  exact ⟨env', r', k⟩
where
  weaken {P : Program} {ops : Array Oper} {Q Q' : Exit → Act → World → Prop} (i : ∀ e a w, Q e a w → Q' e a w) : ∀ (fuel : Nat) (listed : Array Bool) (a : Act) (w : World), wpAny P .any ops Q fuel listed a w → wpAny P .any ops Q' fuel listed a w := by
    intro fuel
    induction fuel with
    | zero => exact fun listed a w h => ⟨h.1, i _ _ _ h.2⟩
    | succ fuel ih =>
      intro listed a w h
      refine ⟨fun e => i _ _ _ (h.1 e), fun j hj => ?_⟩
      have := h.2 j hj
      unfold wpOp at this ⊢
      cases ho : ops[j]? with
      | none => rw [ho] at this; exact ih _ _ _ this
      | some o =>
        simp only [ho] at this ⊢
        split
        · rename_i hw
          rw [if_pos hw] at this
          refine this.imp (fun h => ?_) (fun ⟨h1, a', w', h2⟩ => ⟨h1, a', w', i _ _ _ h2⟩)
          unfold Oper.wp at h ⊢
          generalize (execOp a.eval o).run P w = r at h ⊢
          cases r with
          | ok n w' =>
            cases n <;> simp only [Oper.upon] at h ⊢ <;>
              first
                | exact ih _ _ _ h
                | exact Calls.mono h (fun e w'' he => by
                    cases e
                    · exact ih _ _ _ he
                    · exact i _ _ _ he
                    · exact ⟨he.choose, he.choose_spec.choose, i _ _ _ he.choose_spec.choose_spec⟩)
                | exact Rows.mono h (fun _ _ he => ih _ _ _ he)
          | halt x w' =>
            cases x <;> simp only [Oper.upon] at h ⊢
            exact i _ _ _ h
        · rename_i hw
          rw [if_neg hw] at this
          exact ih _ _ _ this

theorem WT.done (hr : Region.ready .any ops listed = []) (h : K env w) : WT P N ops K fuel T listed env w := fun _ a r => by
  cases fuel with
  | zero => exact ⟨hr, rfl, env, r, h⟩
  | succ f => exact ⟨fun _ => ⟨rfl, env, r, h⟩, by rw [hr]; exact fun i hi => by cases hi⟩

/-- The closed facts of a take, as one Bool. -/
def takes (ops : Array Oper) (listed : Array Bool) (i : Nat) : Bool := Region.noSelect ops && Region.free .any ops listed i && (Region.ready .any ops listed).contains i && closedB ops listed

/-- An operation whose value hangs on S alone is taken first. -/
theorem WT.take (i : Nat) {oi : Oper} {v : Value} (S : World → Prop) (hi : ops[i]? = some oi) (hb : takes ops listed i = true)
    (hw : Region.wanted oi (yieldedE ops env) = true) (hd : inN N oi.dst = true) (hS : S w) (hv : ∀ w', S w' → (execOp (evo env) oi).run P w' = .ok (.value v) w')
    (k : WT P N ops K fuel ((i, S) :: T) (listed.setIfInBounds i true) (updo env oi.dst v) w) : WT P N ops K (fuel + 1) T listed env w := fun hp a r => by
  simp only [takes, Bool.and_eq_true] at hb
  refine wpAnyT_first (S := S) hi (Region.noSelect_spec hb.1.1.1) (by rintro c a w ⟨h, _⟩; cases h) fuel T listed a w (Region.free_spec hi hb.1.1.2) (closed_of hb.2) (by simpa using hb.1.2) (Or.inl ⟨?_, ?_⟩) hS (paid_of hp.filter) (k ⟨hS, hp⟩ _ (r.puto hd v))
  · have hy : yielded ops a.tmps = yieldedE ops env := funext fun j => r.yielded ops j
    rw [hy]; exact hw
  · rw [r.eval]; exact hv

theorem wpAnyT_true (i : Nat) {P : Program} {ops : Array Oper} {Q : Exit → Act → World → Prop} : ∀ (fuel : Nat) (T : Owed) (listed : Array Bool) (a : Act) (w : World), wpAnyT P ops Q fuel T listed a w → wpAnyT P ops Q fuel ((i, fun _ => True) :: T) listed a w := by
  intro fuel
  induction fuel with
  | zero => exact fun T listed a w h => h
  | succ fuel ih =>
    intro T listed a w h
    refine ⟨h.1, fun j hj => wpOp_mono (fun a' w' h' => ?_) (h.2 j hj)⟩
    obtain ⟨h1, h2⟩ := h'
    refine ⟨⟨by split <;> trivial, h1⟩, ?_⟩
    unfold owedBy at h2 ⊢
    rw [List.filter_cons]
    split
    · exact ih _ _ _ _ h2
    · exact h2

/-- As above, of a value that hangs on no world at all: nothing is owed for it. -/
theorem WT.pure (i : Nat) {oi : Oper} {v : Value} (hi : ops[i]? = some oi) (hb : takes ops listed i = true)
    (hv : ∀ w', (execOp (evo env) oi).run P w' = .ok (.value v) w') (hw : Region.wanted oi (yieldedE ops env) = true) (hd : inN N oi.dst = true)
    (k : WT P N ops K fuel T (listed.setIfInBounds i true) (updo env oi.dst v) w) : WT P N ops K (fuel + 1) T listed env w := by
  refine WT.take i (fun _ => True) hi hb hw hd trivial (fun w' _ => hv w') fun hp a r => ?_
  exact wpAnyT_true i fuel T _ a w (k hp.2 a r)

/-- An operation that its guard leaves out. -/
theorem WT.skip (i : Nat) {oi : Oper} (hi : ops[i]? = some oi) (hb : takes ops listed i = true)
    (hw : Region.wanted oi (yieldedE ops env) = false) (hd : inN N oi.dst = true)
    (k : WT P N ops K fuel T (listed.setIfInBounds i true) (updo env oi.dst undef) w) : WT P N ops K (fuel + 1) T listed env w := fun hp a r => by
  simp only [takes, Bool.and_eq_true] at hb
  refine wpAnyT_first (S := fun _ => True) hi (Region.noSelect_spec hb.1.1.1) (by rintro c a w ⟨h, _⟩; cases h) fuel T listed a w (Region.free_spec hi hb.1.1.2) (closed_of hb.2) (by simpa using hb.1.2) (Or.inr ⟨?_, rfl⟩) trivial (paid_of hp.filter) ?_
  · have hy : yielded ops a.tmps = yieldedE ops env := funext fun j => r.yielded ops j
    rw [hy]; exact hw
  · exact wpAnyT_true i fuel T _ _ w (k hp _ (r.puto hd undef))

/-- A load of one cell, of a row of cells. -/
theorem WT.load1 (i : Nat) {t : TypeId} {x : Operand} {d : Option Nat} {ty : TypeId} {pos : String} {af : Array Edge} {g : Option (Nat × Bool)} {ad : Addr} {v : Value} (hi : ops[i]? = some ⟨d, .load t x, ty, pos, af, g⟩) (hb : takes ops listed i = true)
    (hA : ∀ w, (isAgg t).run P w = .ok false w) (h : evo env x = .pointer (some ad)) (hc : w.cell? ad = some v)
    (hw : Region.wanted ⟨d, .load t x, ty, pos, af, g⟩ (yieldedE ops env) = true) (hd : inN N d = true)
    (k : WT P N ops K fuel ((i, fun w => w.cell? ad = some v) :: T) (listed.setIfInBounds i true) (updo env d v) w) : WT P N ops K (fuel + 1) T listed env w :=
  WT.take i (fun w => w.cell? ad = some v) hi hb hw hd hc (fun w' hc' => by simp [execOp, Instr.loadAt, h, Instr.sureAddr, loadVar, hA, hc']) k

theorem WT.loadN (i : Nat) {t n b o : Nat} {x : Operand} {d : Option Nat} {ty : TypeId} {pos : String} {af : Array Edge} {g : Option (Nat × Bool)} {vs : List Value} (hi : ops[i]? = some ⟨d, .load t x, ty, pos, af, g⟩) (hb : takes ops listed i = true)
    (hA : ∀ w, (isAgg t).run P w = .ok true w) (hS : ∀ w, (sizeOf t).run P w = .ok n w) (h : evo env x = .pointer (some ⟨b, o, none⟩)) (hl : vs.length = n) (hc : ∀ j u, vs[j]? = some u → w.cell? ⟨b, o + j, none⟩ = some u)
    (hw : Region.wanted ⟨d, .load t x, ty, pos, af, g⟩ (yieldedE ops env) = true) (hd : inN N d = true)
    (k : WT P N ops K fuel ((i, fun w => ∀ j u, vs[j]? = some u → w.cell? ⟨b, o + j, none⟩ = some u) :: T) (listed.setIfInBounds i true) (updo env d (.agg vs.toArray)) w) : WT P N ops K (fuel + 1) T listed env w :=
  WT.take i (fun w => ∀ j u, vs[j]? = some u → w.cell? ⟨b, o + j, none⟩ = some u) hi hb hw hd hc (fun w' hc' => by
    have := run_loadCells_list (P := P) w' ⟨b, o, none⟩ vs (fun j v hv => by
      have := hc' j v hv
      unfold Addr.add; split
      · rename_i h0; subst h0; simpa using this
      · exact this)
    rw [hl] at this
    simp [execOp, Instr.loadAt, h, Instr.sureAddr, loadVar, hA, hS, this]) k

/-- The one operation that may come up. -/
theorem WT.eff (i : Nat) {oi : Oper} {R : Value → World → Prop} (mask : List Bool) (hi : ops[i]? = some oi) (hr : Region.ready .any ops listed = [i]) (hT : owedBy ops i T = keepM mask T) (he : Eff P (evo env) oi w R)
    (hw : Region.wanted oi (yieldedE ops env) = true) (hd : inN N oi.dst = true)
    (k : ∀ v w', R v w' → AllOwed (keepM mask T) w' ∧ WT P N ops K fuel (keepM mask T) (listed.setIfInBounds i true) (updo env oi.dst v) w') : WT P N ops K (fuel + 1) T listed env w := fun hp a r => by
  rw [← hT] at k
  refine ⟨fun e => absurd (hr ▸ e) (by simp), ?_⟩
  rw [hr]
  intro j hj
  rw [List.mem_singleton] at hj
  subst hj
  unfold wpOp
  have hy : yielded ops a.tmps = yieldedE ops env := funext fun j => r.yielded ops j
  simp only [hi]
  rw [hy, if_pos hw]
  exact .inl (he.wp r fun v w' hR => ⟨paid_of (k v w' hR).1, (k v w' hR).2 (k v w' hR).1 _ (r.puto hd v)⟩)

/-- Two may come up, in either order. -/
theorem WT.two (i j : Nat) (hr : Region.ready .any ops listed = [i, j])
    (h1 : ∀ a, Rel N a env → AllOwed T w → wpOp P ops (liftK N K) i (fun a' w' => paid ops i T w' ∧ wpAnyT P ops (liftK N K) fuel (owedBy ops i T) (listed.setIfInBounds i true) a' w') a w)
    (h2 : ∀ a, Rel N a env → AllOwed T w → wpOp P ops (liftK N K) j (fun a' w' => paid ops j T w' ∧ wpAnyT P ops (liftK N K) fuel (owedBy ops j T) (listed.setIfInBounds j true) a' w') a w) : WT P N ops K (fuel + 1) T listed env w := fun hp a r => by
  refine ⟨fun e => absurd (hr ▸ e) (by simp), ?_⟩
  rw [hr]
  intro x hx
  rcases List.mem_cons.1 hx with rfl | hx
  · exact h1 a r hp
  · rw [List.mem_singleton] at hx; subst hx; exact h2 a r hp
theorem WT.opOf (i : Nat) {oi : Oper} {R : Value → World → Prop} (mask : List Bool) (hi : ops[i]? = some oi) (hT : owedBy ops i T = keepM mask T) (he : Eff P (evo env) oi w R)
    (hw : Region.wanted oi (yieldedE ops env) = true) (hd : inN N oi.dst = true)
    (k : ∀ v w', R v w' → AllOwed (keepM mask T) w' ∧ WT P N ops K fuel (keepM mask T) (listed.setIfInBounds i true) (updo env oi.dst v) w') :
    ∀ a, Rel N a env → AllOwed T w → wpOp P ops (liftK N K) i (fun a' w' => paid ops i T w' ∧ wpAnyT P ops (liftK N K) fuel (owedBy ops i T) (listed.setIfInBounds i true) a' w') a w := fun a r hp => by
  rw [← hT] at k
  unfold wpOp
  have hy : yielded ops a.tmps = yieldedE ops env := funext fun j => r.yielded ops j
  simp only [hi]
  rw [hy, if_pos hw]
  exact .inl (he.wp r fun v w' hR => ⟨paid_of (k v w' hR).1, (k v w' hR).2 (k v w' hR).1 _ (r.puto hd v)⟩)
end
end Go.Sl
