/-
  Four and six results; numbers that are not negative.
-/
import Derived.Test.YtlahgihjjabgmaaSlReg
namespace Go.Sl
open Go
set_option linter.unusedVariables false
section
variable {P : Program} {w : World} {env : Env}
theorem results_tmp4 {fn : Func} {t u x y : Tmp} (h : fn.results = #[.tmp t, .tmp u, .tmp x, .tmp y]) (tmps : Array Value) (P : Program) (w : World) :
    (results fn tmps).run P w = .ok (.tuple #[tmps.getD t undef, tmps.getD u undef, tmps.getD x undef, tmps.getD y undef]) w := by
  simp only [results, h]
  simp
theorem results_tmp6 {fn : Func} {t u x y z q : Tmp} (h : fn.results = #[.tmp t, .tmp u, .tmp x, .tmp y, .tmp z, .tmp q]) (tmps : Array Value) (P : Program) (w : World) :
    (results fn tmps).run P w = .ok (.tuple #[tmps.getD t undef, tmps.getD u undef, tmps.getD x undef, tmps.getD y undef, tmps.getD z undef, tmps.getD q undef]) w := by
  simp only [results, h]
  simp
theorem bodyQ.r4 {fn : Func} {R : Value → World → Prop} {t u x y : Nat} {v1 v2 v3 v4 : Value} (h : fn.results = #[.tmp t, .tmp u, .tmp x, .tmp y]) (h1 : env t = v1) (h2 : env u = v2) (h3 : env x = v3) (h4 : env y = v4) (hR : R (.tuple #[v1, v2, v3, v4]) w) : bodyQ P fn R .ret env w :=
  ⟨_, fun tmps hg => by rw [results_tmp4 h tmps P w, hg, hg, hg, hg, h1, h2, h3, h4], hR⟩
theorem bodyQ.r6 {fn : Func} {R : Value → World → Prop} {t u x y z q : Nat} {v1 v2 v3 v4 v5 v6 : Value} (h : fn.results = #[.tmp t, .tmp u, .tmp x, .tmp y, .tmp z, .tmp q]) (h1 : env t = v1) (h2 : env u = v2) (h3 : env x = v3) (h4 : env y = v4) (h5 : env z = v5) (h6 : env q = v6) (hR : R (.tuple #[v1, v2, v3, v4, v5, v6]) w) : bodyQ P fn R .ret env w :=
  ⟨_, fun tmps hg => by rw [results_tmp6 h tmps P w, hg, hg, hg, hg, hg, hg, h1, h2, h3, h4, h5, h6], hR⟩
end
section
variable {P : Program} {w : World} {ρ : Operand → Value} {d : Option Nat} {ty : TypeId} {pos : String} {af : Array Edge} {g : Option (Nat × Bool)}
theorem run_quoN {t yt : TypeId} {x y : Operand} {m n : Nat} (hx : ρ x = .int .i64 (m : Int)) (hy : ρ y = .int .i64 (n : Int)) (h2 : m ≤ 9223372036854775807) (h' : 1 ≤ n) : (execOp ρ ⟨d, .binOp .quo t x y yt, ty, pos, af, g⟩).run P w = .ok (.value (.int .i64 ((m / n : Nat) : Int))) w := by
  rw [run_quo hx hy (by omega) (by omega) (by omega)]
  rw [Int.natCast_ediv]
theorem run_remN {t yt : TypeId} {x y : Operand} {m n : Nat} (hx : ρ x = .int .i64 (m : Int)) (hy : ρ y = .int .i64 (n : Int)) (h' : 1 ≤ n) : (execOp ρ ⟨d, .binOp .rem t x y yt, ty, pos, af, g⟩).run P w = .ok (.value (.int .i64 ((m % n : Nat) : Int))) w := by
  rw [run_rem hx hy (by omega) (by omega)]
  rw [Int.natCast_emod]
theorem run_maxN {tys : Array TypeId} {x y : Operand} {m n r : Nat} (hx : ρ x = .int .i64 (m : Int)) (hy : ρ y = .int .i64 (n : Int)) (hr : max m n = r) : (execOp ρ ⟨d, .call { callee := .builtin .max, args := #[x, y], argTypes := tys }, ty, pos, af, g⟩).run P w = .ok (.value (.int .i64 (r : Int))) w := by
  rw [run_maxI hx hy, show max (m : Int) (n : Int) = (r : Int) by omega]
theorem run_minN {tys : Array TypeId} {x y : Operand} {m n r : Nat} (hx : ρ x = .int .i64 (m : Int)) (hy : ρ y = .int .i64 (n : Int)) (hr : min m n = r) : (execOp ρ ⟨d, .call { callee := .builtin .min, args := #[x, y], argTypes := tys }, ty, pos, af, g⟩).run P w = .ok (.value (.int .i64 (r : Int))) w := by
  rw [run_minI hx hy, show min (m : Int) (n : Int) = (r : Int) by omega]
end
section
variable {P : Program} {w : World} {d : Option Nat} {ty : TypeId} {pos : String} {af : Array Edge} {g : Option (Nat × Bool)}
/-- A function value with one variable of its own, and two arguments. -/
theorem eff_call2C {env : Env} {x x1 x2 : Operand} {f : FuncId} {cap v1 v2 : Value} {tys : Array TypeId} {R : Value → World → Prop} (hx : evo env x = .func (.func f) #[] #[cap]) (hf : ∀ args w, (callFunc f args).run P w = .ok (.enter f args) w)
    (h1 : evo env x1 = v1) (h2 : evo env x2 = v2) (hc : Calls P f #[v1, v2, cap] w (Ret R)) : Eff P (evo env) ⟨d, .call { callee := .value x, args := #[x1, x2], argTypes := tys }, ty, pos, af, g⟩ w R := by
  subst h1; subst h2
  exact eff_callV (xs := [x1, x2]) hx hf hc
theorem eff_call1C {env : Env} {x x1 : Operand} {f : FuncId} {cap v1 : Value} {tys : Array TypeId} {R : Value → World → Prop} (hx : evo env x = .func (.func f) #[] #[cap]) (hf : ∀ args w, (callFunc f args).run P w = .ok (.enter f args) w)
    (h1 : evo env x1 = v1) (hc : Calls P f #[v1, cap] w (Ret R)) : Eff P (evo env) ⟨d, .call { callee := .value x, args := #[x1], argTypes := tys }, ty, pos, af, g⟩ w R := by
  subst h1
  exact eff_callV (xs := [x1]) hx hf hc
end
end Go.Sl
