/-
  The contracts of reservations. Lines of walks printed by a program of the prover's.
-/
import Derived.Test.YtbfdkalcpacaaaaResv4
import Derived.Test.YtbfdkalcpacaaaaResvModel
namespace Go.Proofs.Ytbfdkalcpacaaaa
open Go Go.Sl Go.Sl.RsM
set_option linter.unusedVariables false
set_option linter.unusedSimpArgs false
set_option maxHeartbeats 1000000
set_option maxRecDepth 8000
variable {W0 w : World} {L F : List HProp}


theorem reg_keep {b i : Nat} {t : Tb} {key fresh : Int} (hi : i < 8) (hk : key = t.K i) (hf : ¬ fresh = 0) (h : On W0 (blk b t.cells 69 :: L) w) : Calls Try.prog 9 #[.pointer (some ⟨b, 0, none⟩), .int .i64 (i : Int), .int .u64 key, .int .u64 fresh, .bool false] w (Ret fun v w' => (∃ v2, v = .tuple #[rep 0 0 0, v2]) ∧ On W0 (blk b (t.inc.put i fresh).cells 69 :: L) w') := by
  refine (register_ok (t := t) (hh := (i : Int)) (key := key) (fresh := fresh) (ign := false) h).mono ?_
  rintro e w' ⟨v, rfl, hv⟩
  rcases hv with ⟨j, hj, hj8, _, a, c, rfl, h⟩ | ⟨hno, _⟩
  · have hij : i = j := Int.ofNat.inj hj
    subst hij
    rw [regO_keep hf] at h
    exact ⟨_, rfl, ⟨_, rfl⟩, h.tail⟩
  · exact (hno ⟨i, rfl, hi, .inr hk⟩).elim
theorem res_take {b : Nat} {t : Tb} {hh key typ : Int} (h1 : okM t hh key) (h2 : typedB typ = true) (h3 : t.hold = -1) (h : On W0 (blk b t.cells 69 :: L) w) : Calls Try.prog 10 #[.pointer (some ⟨b, 0, none⟩), .int .i64 hh, .int .u64 key, .int .i64 typ] w (Ret fun v w' => v = rep 0 0 0 ∧ On W0 (blk b (t.take hh typ).cells 69 :: L) w') := by
  refine (reserve_ok (t := t) h).mono ?_
  rintro e w' ⟨v, rfl, hv⟩
  rcases hv with ⟨_, _, _, rfl, h⟩ | ⟨hno, _⟩
  · exact ⟨_, rfl, rfl, h⟩
  · exact (hno ⟨h1, h2, h3⟩).elim
theorem res_conf {b : Nat} {t : Tb} {hh key typ : Int} (h1 : (okM t hh key ∧ typedB typ = true ∧ ¬ t.hold = -1 ∧ ¬ (t.hold = hh ∧ t.typ = typ)) ∨ (¬ okM t hh key ∧ 0 ≤ hh ∧ hh < 8)) (h : On W0 (blk b t.cells 69 :: L) w) : Calls Try.prog 10 #[.pointer (some ⟨b, 0, none⟩), .int .i64 hh, .int .u64 key, .int .i64 typ] w (Ret fun v w' => (∃ k c, v = rep 24 k c) ∧ On W0 (blk b t.cells 69 :: L) w') := by
  refine (reserve_ok (t := t) h).mono ?_
  rintro e w' ⟨v, rfl, hv⟩
  rcases hv with ⟨g1, g2, g3, rfl, h⟩ | ⟨hno, s, k, c, rfl, hs, h⟩
  · rcases h1 with ⟨_, _, h4, _⟩ | ⟨h4, _⟩
    · exact (h4 g3).elim
    · exact (h4 g1).elim
  · have hs2 : s = 24 := hs (by rcases h1 with ⟨a, b, _, c⟩ | h1; exact .inl ⟨a, b, c⟩; exact .inr h1)
    subst hs2
    exact ⟨_, rfl, ⟨k, c, rfl⟩, h⟩

theorem rknown_ok (h : On W0 F w) : Calls Try.prog 7 #[] w (Ret fun v w' => v = .bool true ∧ On W0 F w') := by
  refine enter Try.func7 rfl Try.ntmps7 rfl ?_
  refine W.seq ?_
  refine W.region ?_
  refine WL.val run_assign rfl rfl ?_
  refine WL.nil ?_
  refine W.seq ?_
  refine W.region ?_
  refine WL.eff (eff_call Try.call8 (rnew_ok h)) rfl rfl ?_
  rintro _ w ⟨b, rfl, h⟩
  refine WL.val run_assign rfl rfl ?_
  refine WL.nil ?_
  refine W.seq ?_
  refine W.seq ?_
  refine W.region ?_
  refine WL.val run_move rfl rfl ?_
  refine WL.val (run_eqlPtrNil Try.underlying23 rfl rfl) rfl rfl ?_
  refine WL.nil ?_
  refine W.condF rfl ?_
  refine W.skip ?_
  refine W.seq ?_
  refine W.region ?_
  refine WL.val run_move rfl rfl ?_
  refine WL.eff (eff_call Try.call9 (reg_keep (t := newT) (i := 0) (key := 0) (fresh := 5) (by decide) rfl (by decide) h)) rfl rfl ?_
  rintro _ w ⟨⟨v2, rfl⟩, h⟩
  refine WL.val run_move rfl rfl ?_
  refine WL.val (run_extract rfl rfl) rfl rfl ?_
  refine WL.val (run_extract rfl rfl) rfl rfl ?_
  refine WL.eff (eff_alloc h Try.zeroValue28 rfl) rfl rfl ?_
  rintro _ w ⟨b2, rfl, h⟩
  refine WL.eff (eff_storeN (vs := [.int .i64 _, .int .i64 _, .int .i64 _, .slice _ _ _, .int .i64 _]) h Try.sizeOf28 rfl rfl rfl rfl rfl (fun k _ _ => free0 k)) rfl rfl ?_
  rintro _ w h
  try simp only [splice, List.take_zero, List.take_succ_cons, List.take_nil, List.drop_succ_cons, List.drop_zero, List.drop_nil, List.nil_append, List.cons_append, List.append_nil, List.length_cons, List.length_nil, Nat.zero_add, Nat.reduceAdd] at h
  refine WL.val run_assign rfl rfl ?_
  refine WL.nil ?_
  refine W.seq ?_
  refine W.region ?_
  refine WL.val run_move rfl rfl ?_
  refine WL.eff (eff_call Try.call9 (reg_keep (t := newT.inc.put 0 5) (i := 1) (key := 0) (fresh := 6) (by decide) rfl (by decide) (h.fetch (blk b (newT.inc.put 0 5).cells 69)))) rfl rfl ?_
  rintro _ w ⟨⟨v3, rfl⟩, h⟩
  refine WL.val run_move rfl rfl ?_
  refine WL.val (run_extract rfl rfl) rfl rfl ?_
  refine WL.val (run_extract rfl rfl) rfl rfl ?_
  refine WL.eff (eff_alloc h Try.zeroValue28 rfl) rfl rfl ?_
  rintro _ w ⟨b4, rfl, h⟩
  refine WL.eff (eff_storeN (vs := [.int .i64 _, .int .i64 _, .int .i64 _, .slice _ _ _, .int .i64 _]) h Try.sizeOf28 rfl rfl rfl rfl rfl (fun k _ _ => free0 k)) rfl rfl ?_
  rintro _ w h
  try simp only [splice, List.take_zero, List.take_succ_cons, List.take_nil, List.drop_succ_cons, List.drop_zero, List.drop_nil, List.nil_append, List.cons_append, List.append_nil, List.length_cons, List.length_nil, Nat.zero_add, Nat.reduceAdd] at h
  refine WL.val run_assign rfl rfl ?_
  refine WL.nil ?_
  refine W.seq ?_
  refine W.region ?_
  refine WL.val run_move rfl rfl ?_
  refine WL.eff (eff_call Try.call10 (res_take (t := ((newT.inc.put 0 5).inc.put 1 6)) (hh := 0) (key := 5) (typ := 1) ⟨0, rfl, by decide, by decide, by decide⟩ rfl rfl (h.fetch (blk b ((newT.inc.put 0 5).inc.put 1 6).cells 69)))) rfl rfl ?_
  rintro _ w ⟨rfl, h⟩
  refine WL.eff (eff_alloc h Try.zeroValue28 rfl) rfl rfl ?_
  rintro _ w ⟨b6, rfl, h⟩
  refine WL.eff (eff_storeN (vs := [.int .i64 _, .int .i64 _, .int .i64 _, .slice _ _ _, .int .i64 _]) h Try.sizeOf28 rfl rfl rfl rfl rfl (fun k _ _ => free0 k)) rfl rfl ?_
  rintro _ w h
  try simp only [splice, List.take_zero, List.take_succ_cons, List.take_nil, List.drop_succ_cons, List.drop_zero, List.drop_nil, List.nil_append, List.cons_append, List.append_nil, List.length_cons, List.length_nil, Nat.zero_add, Nat.reduceAdd] at h
  refine WL.nil ?_
  refine W.seq ?_
  refine W.region ?_
  refine WL.val run_move rfl rfl ?_
  refine WL.eff (eff_call Try.call10 (res_conf (t := (((newT.inc.put 0 5).inc.put 1 6).take 0 1)) (hh := 1) (key := 6) (typ := 1) (.inl ⟨⟨1, rfl, by decide, by decide, by decide⟩, rfl, by decide, by decide⟩) (h.fetch (blk b (((newT.inc.put 0 5).inc.put 1 6).take 0 1).cells 69)))) rfl rfl ?_
  rintro _ w ⟨⟨k7, c7, rfl⟩, h⟩
  refine WL.eff (eff_alloc h Try.zeroValue28 rfl) rfl rfl ?_
  rintro _ w ⟨b7, rfl, h⟩
  refine WL.eff (eff_storeN (vs := [.int .i64 _, .int .i64 _, .int .i64 _, .slice _ _ _, .int .i64 _]) h Try.sizeOf28 rfl rfl rfl rfl rfl (fun k _ _ => free0 k)) rfl rfl ?_
  rintro _ w h
  try simp only [splice, List.take_zero, List.take_succ_cons, List.take_nil, List.drop_succ_cons, List.drop_zero, List.drop_nil, List.nil_append, List.cons_append, List.append_nil, List.length_cons, List.length_nil, Nat.zero_add, Nat.reduceAdd] at h
  refine WL.nil ?_
  refine W.seq ?_
  refine W.region ?_
  refine WL.val run_move rfl rfl ?_
  refine WL.eff (eff_call Try.call18 (allows_ok (t := (((newT.inc.put 0 5).inc.put 1 6).take 0 1)) (h.fetch (blk b (((newT.inc.put 0 5).inc.put 1 6).take 0 1).cells 69)))) rfl rfl ?_
  rintro _ w ⟨⟨r, rfl, hr⟩, h⟩
  have hr2 : r = false := by
    rw [← Bool.not_eq_true, hr]
    rintro ((h1 | h1 | ⟨h1, _⟩) | ⟨h1, _⟩ | h1)
    · exact absurd h1 (by decide)
    · exact absurd h1 (by decide)
    · exact absurd h1 (by decide)
    · exact absurd h1 (by decide)
    · exact absurd h1 (by decide)
  subst hr2
  refine WL.val run_assign rfl rfl ?_
  refine WL.nil ?_
  refine W.seq ?_
  refine W.region ?_
  refine WL.val run_move rfl rfl ?_
  refine WL.eff (eff_call Try.call27 (preempt_ok (t := (((newT.inc.put 0 5).inc.put 1 6).take 0 1)) (hh := 1) (key := 6) (other := 5) (typ := 3) (.inr ⟨by decide, by decide⟩) (h.fetch (blk b (((newT.inc.put 0 5).inc.put 1 6).take 0 1).cells 69)))) rfl rfl ?_
  rintro _ w hv
  rcases hv with ⟨_, a, hv, h⟩ | ⟨hno, _⟩
  rotate_left
  · exact (hno ⟨⟨1, rfl, by decide, by decide, by decide⟩, by decide, by decide, fun _ => rfl⟩).elim
  have hL : preL (((newT.inc.put 0 5).inc.put 1 6).take 0 1) 1 5 = [0] := by decide
  rw [hL] at hv h
  subst hv
  have ob_ : ∃ t3 : Tb, On W0 (Own 2 (.slice a 1 1) 1 [.int .i64 0, .int .i64 10757] :: blk b t3.cells 69 :: _) w ∧ t3.hold = 1 ∧ t3.typ = 3 ∧ t3.gen = 3 ∧ t3.K 0 = 0 := ⟨_, h, by decide, by decide, by decide, by decide⟩
  obtain ⟨t3, h, g1, g2, g3, g4⟩ := ob_
  refine WL.val run_move rfl rfl ?_
  refine WL.val (run_extract rfl rfl) rfl rfl ?_
  refine WL.val (run_extract rfl rfl) rfl rfl ?_
  refine WL.eff (eff_alloc h Try.zeroValue28 rfl) rfl rfl ?_
  rintro _ w ⟨b9, rfl, h⟩
  refine WL.eff (eff_storeN (vs := [.int .i64 _, .int .i64 _, .int .i64 _, .slice _ _ _, .int .i64 _]) h Try.sizeOf28 rfl rfl rfl rfl rfl (fun k _ _ => free0 k)) rfl rfl ?_
  rintro _ w h
  try simp only [splice, List.take_zero, List.take_succ_cons, List.take_nil, List.drop_succ_cons, List.drop_zero, List.drop_nil, List.nil_append, List.cons_append, List.append_nil, List.length_cons, List.length_nil, Nat.zero_add, Nat.reduceAdd] at h
  refine WL.val run_assign rfl rfl ?_
  refine WL.nil ?_
  refine W.seq ?_
  refine W.region ?_
  refine WL.val run_move rfl rfl ?_
  refine WL.eff (eff_call Try.call12 (holder_ok (h.fetch (blk b t3.cells 69)))) rfl rfl ?_
  rintro _ w ⟨hv, h⟩
  rw [g1, g2] at hv
  subst hv
  refine WL.val run_move rfl rfl ?_
  refine WL.val (run_extract rfl rfl) rfl rfl ?_
  refine WL.val (run_extract rfl rfl) rfl rfl ?_
  refine WL.val run_assign rfl rfl ?_
  refine WL.val run_assign rfl rfl ?_
  refine WL.nil ?_
  refine W.seq ?_
  have haa := Own.addr (h.fetch (Own 2 (.slice a 1 1) 1 [.int .i64 0, .int .i64 10757])) (by decide)
  obtain ⟨ba, oa, rfl⟩ := haa
  refine W.region ?_
  refine WL.val (run_fieldAddr 0 Try.underlying28 rfl Try.sizeOf3 rfl rfl) rfl rfl ?_
  refine WL.val (run_load1 Try.isAgg3 rfl (h.cellB rfl)) rfl rfl ?_
  refine WL.val (run_fieldAddr 0 Try.underlying28 rfl Try.sizeOf3 rfl rfl) rfl rfl ?_
  refine WL.val (run_load1 Try.isAgg3 rfl (h.cellB rfl)) rfl rfl ?_
  refine WL.val (run_add rfl rfl (by omega) (by omega)) rfl rfl ?_
  refine WL.val (run_fieldAddr 0 Try.underlying28 rfl Try.sizeOf3 rfl rfl) rfl rfl ?_
  refine WL.val (run_load1 Try.isAgg3 rfl (h.cellB rfl)) rfl rfl ?_
  refine WL.val (run_add rfl rfl (by omega) (by omega)) rfl rfl ?_
  refine WL.val (run_fieldAddr 0 Try.underlying28 rfl Try.sizeOf3 rfl rfl) rfl rfl ?_
  refine WL.val (run_load1 Try.isAgg3 rfl (h.cellB rfl)) rfl rfl ?_
  refine WL.val (run_add rfl rfl (by omega) (by omega)) rfl rfl ?_
  refine WL.val (run_eqlT rfl rfl (rfl)) rfl rfl ?_
  refine WL.val run_move rfl rfl ?_
  refine WL.val (run_fieldAddr 0 Try.underlying28 rfl Try.sizeOf3 rfl rfl) rfl rfl ?_
  refine WL.val (run_load1 Try.isAgg3 rfl (h.cellB rfl)) rfl rfl ?_
  refine WL.val (run_eqlT rfl rfl (rfl)) rfl rfl ?_
  refine WL.val (run_pickT rfl) rfl rfl ?_
  refine WL.val run_move rfl rfl ?_
  refine WL.val run_move rfl rfl ?_
  refine WL.val (run_not rfl) rfl rfl ?_
  refine WL.val (run_pickT rfl) rfl rfl ?_
  refine WL.val run_move rfl rfl ?_
  refine WL.val run_move rfl rfl ?_
  refine WL.val (run_lenSlice Try.underlying29 rfl) rfl rfl ?_
  refine WL.val (run_eqlT rfl rfl (rfl)) rfl rfl ?_
  refine WL.val (run_pickT rfl) rfl rfl ?_
  refine WL.val run_move rfl rfl ?_
  refine WL.val run_move rfl rfl ?_
  refine WL.val (run_indexAddr Try.underlying29 Try.sizeOf40 rfl rfl (by decide) (by decide)) rfl rfl ?_
  refine WL.val (run_loadN Try.isAgg40 Try.sizeOf40 rfl rfl ((h.cellsO (v := .slice (some ⟨ba, oa, none⟩) 1 1)).elem (i := 0) (vs := [.int .i64 0, .int .i64 10757]) (by decide) rfl)) rfl rfl ?_
  refine WL.val (run_buildS (pl := [(0, 1), (1, 1)]) (out := [.int .i64 _, .int .i64 _]) Try.underlying40 Try.zeroValue40 (fun w => by kernel_rfl) rfl (⟨⟨_, _, rfl, rfl, by decide⟩, ⟨⟨_, _, rfl, rfl, by decide⟩, trivial⟩⟩) rfl) rfl rfl ?_
  refine WL.val (run_eqlInts2 Try.underlying40 (by decide) (by decide) rfl rfl Try.underlying3 Try.underlying3 Try.isAgg3 Try.isAgg3 (by kernel_rfl) (by kernel_rfl) rfl rfl) rfl rfl ?_
  refine WL.val (run_pickT rfl) rfl rfl ?_
  refine WL.val run_move rfl rfl ?_
  refine WL.val run_move rfl rfl ?_
  refine WL.val (run_eqlT rfl rfl (rfl)) rfl rfl ?_
  refine WL.val (run_pickT rfl) rfl rfl ?_
  refine WL.val run_move rfl rfl ?_
  refine WL.val run_move rfl rfl ?_
  refine WL.val (run_eqlT rfl rfl (rfl)) rfl rfl ?_
  refine WL.val (run_pickT rfl) rfl rfl ?_
  refine WL.val run_move rfl rfl ?_
  refine WL.val run_move rfl rfl ?_
  refine WL.eff (eff_call Try.call28 (generation_ok (h.fetch (blk b t3.cells 69)))) rfl rfl ?_
  rintro _ w ⟨hv, h⟩
  rw [g3] at hv
  subst hv
  refine WL.val (run_eqlT rfl rfl (rfl)) rfl rfl ?_
  refine WL.val (run_pickT rfl) rfl rfl ?_
  refine WL.val run_move rfl rfl ?_
  refine WL.val run_move rfl rfl ?_
  refine WL.eff (eff_call Try.call13 (key_ok (t := t3) (i := 0) (by decide) (h.fetch (blk b t3.cells 69)))) rfl rfl ?_
  rintro _ w ⟨hv, h⟩
  rw [g4] at hv
  subst hv
  refine WL.val (run_eqlT rfl rfl (rfl)) rfl rfl ?_
  refine WL.val (run_pickT rfl) rfl rfl ?_
  refine WL.val run_assign rfl rfl ?_
  refine WL.nil ?_
  refine W.ret ?_
  refine bodyQ.r1 (v := .bool _) Try.results7 rfl ?_
  -- path 
  exact ⟨rfl, h.to⟩

end Go.Proofs.Ytbfdkalcpacaaaa
