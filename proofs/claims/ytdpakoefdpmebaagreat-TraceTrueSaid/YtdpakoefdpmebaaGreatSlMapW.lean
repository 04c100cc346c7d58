/-
  Maps keyed by integers, more: looked up with a word whether it is there; how many; what a range has left.
-/
import Derived.Test.YtdpakoefdpmebaaGreatSlB
namespace Go.Sl
open Go
set_option linter.unusedVariables false
section
variable {P : Program} {W0 w : World} {L : List HProp} {ρ : Operand → Value} {d : Option Nat} {ty : TypeId} {pos : String} {af : Array Edge} {g : Option (Nat × Bool)}
theorem run_lookupOk {t kt et b : Nat} {q kd : IntKind} {k : Int} {x y : Operand} {z : Value} {kvs : List KV} {ck : Nat} (hb : w.heap[b]? = some (mapO kd kvs ck)) (hU : P.underlying t = some (.map kt et)) (hK : P.underlying kt = some (.int q)) (hZ : ∀ w, (zeroValue et).run P w = .ok z w) (hx : ρ x = .map (some b)) (hy : ρ y = .int kd k) :
    (execOp ρ ⟨d, .lookup t x y true, ty, pos, af, g⟩).run P w = .ok (.value (.tuple #[(lookM kvs k).getD z, .bool (lookM kvs k).isSome])) w := by
  have hf := findNow_ints (q := q) (kd := kd) (k := k) kvs 0
  have hl := lookM_idx kvs k
  have hgo : (getObj b).run P w = .ok (mapO kd kvs ck) w := MapKept.run_getObj_map (by exact hb)
  unfold mapO at hgo
  rw [hl]
  have hck : ∀ e, (Instr.checkKey e 10000 kt (.int kd k)).run P w = .ok () w := fun e => checkKey_int hK e 9999
  cases hfi : kvs.findIdx? fun x => x.1 == k with
  | none =>
    rw [hfi] at hf
    simp only [Option.bind_none] at hf ⊢
    simp [execOp, Instr.lookup, run_underlying hU, run_underlying hK, hx, hy, hgo, hck, Instr.findKey, hf, hZ]
  | some j =>
    rw [hfi] at hf
    have hj := (List.findIdx?_eq_some_iff_getElem.1 hfi).1
    have hg : kvs[j]? = some kvs[j] := by simp
    simp only [Option.bind_some, hg, Option.map_some] at hf ⊢
    simp [execOp, Instr.lookup, run_underlying hU, run_underlying hK, hx, hy, hgo, hck, Instr.findKey, hf]
theorem run_lookupOkV {t kt et b : Nat} {q kd : IntKind} {k : Int} {x y : Operand} {z v : Value} {o : Bool} {kvs : List KV} {ck : Nat} (hb : w.heap[b]? = some (mapO kd kvs ck)) (hU : P.underlying t = some (.map kt et)) (hK : P.underlying kt = some (.int q)) (hZ : ∀ w, (zeroValue et).run P w = .ok z w) (hx : ρ x = .map (some b)) (hy : ρ y = .int kd k)
    (hv : (lookM kvs k).getD z = v) (ho : (lookM kvs k).isSome = o) : (execOp ρ ⟨d, .lookup t x y true, ty, pos, af, g⟩).run P w = .ok (.value (.tuple #[v, .bool o])) w := by rw [← hv, ← ho]; exact run_lookupOk hb hU hK hZ hx hy
theorem run_lenMap {t kt et b n : Nat} {kd : IntKind} {x : Operand} {kvs : List KV} {ck : Nat} {tys : Array TypeId} (hb : w.heap[b]? = some (mapO kd kvs ck)) (ht : tys[0]? = some t) (hU : P.underlying t = some (.map kt et)) (hx : ρ x = .map (some b)) (hn : kvs.length = n) :
    (execOp ρ ⟨d, .call { callee := .builtin .len, args := #[x], argTypes := tys }, ty, pos, af, g⟩).run P w = .ok (.value (.int .i64 (n : Int))) w := by
  subst hn
  have hgo : (getObj b).run P w = .ok (mapO kd kvs ck) w := MapKept.run_getObj_map (by exact hb)
  unfold mapO at hgo
  simp [execOp, resolve, invoke, builtin, hx, Builtin.len_, ht, run_underlying hU, hgo, goInt]
theorem run_indexArrN {t e n size : Nat} {x y : Operand} {k : IntKind} {i : Nat} {cs vs : List Value} (hU : P.underlying t = some (.array n e)) (hS : ∀ w, (sizeOf e).run P w = .ok size w) (hA : ∀ w, (isAgg e).run P w = .ok true w)
    (hx : ρ x = .agg cs.toArray) (hy : ρ y = .int k (i : Int)) (h1 : i < n) (hv : (cs.drop (i * size)).take size = vs) : (execOp ρ ⟨d, .index t x y, ty, pos, af, g⟩).run P w = .ok (.value (.agg vs.toArray)) w := by
  simp [execOp, Instr.index, run_underlying hU, hx, hy, asIntOf, hS, h1, part, hA, hv]
end
section
variable {kvs : List KV} {seen : Array Nat}
theorem rem_inM {e : KV} (h : e ∈ remM kvs seen) : e ∈ kvs := (List.mem_filter.1 h).1
theorem rem_notM {e : KV} (h : e ∈ remM kvs seen) : seen.contains e.2.2 = false := by have := (List.mem_filter.1 h).2; simpa using this
theorem contains_pushM {a b : Nat} : (seen.push a).contains b = (seen.contains b || b == a) := by
  rw [Bool.eq_iff_iff]
  simp [Array.contains_iff_mem, Array.mem_push]
theorem remM_less {e : KV} (h : e ∈ remM kvs seen) : (remM kvs (seen.push e.2.2)).length < (remM kvs seen).length := by
  have e1 : remM kvs (seen.push e.2.2) = (remM kvs seen).filter fun x => !(x.2.2 == e.2.2) := by
    unfold remM
    rw [List.filter_filter]
    refine List.filter_congr fun x _ => ?_
    rw [contains_pushM, Bool.not_or, Bool.and_comm]
  rw [e1]
  exact List.length_filter_lt_length_iff_exists.2 ⟨e, h, by simp⟩
theorem rem_allM (h : remM kvs seen = []) {x : KV} (hx : x ∈ kvs) : seen.contains x.2.2 = true := by
  have := List.filter_eq_nil_iff.1 h x hx
  simpa using this
end
end Go.Sl
