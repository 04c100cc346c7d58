/-
  A unit: the law's own unit: the contracts. Lines of walks printed by a program of the prover's.
-/
import Derived.Test.YtdpakoefdpmebaaGreatUnit16
import Derived.Test.YtdpakoefdpmebaaGreatUnit8
import Derived.Test.YtdpakoefdpmebaaGreatUnitKnown
namespace Go.Proofs.YtdpakoefdpmebaaGreat
open Go Go.Sl Go.Sl.BitM Go.Sl.SpM Go.Sl.RsM Go.Sl.ByM Go.Sl.UnM
set_option linter.unusedVariables false
set_option linter.unusedSimpArgs false
set_option maxHeartbeats 1000000
set_option maxRecDepth 8000
variable {W0 w : World} {L F : List HProp}

theorem uknown_ok (h : On W0 F w) : Calls Tryz.prog 10 #[] w (Ret fun v w' => v = .bool true ∧ On W0 F w') := by
  refine enter Tryz.func10 rfl Tryz.ntmps10 rfl ?_
  refine W.seq ?_
  refine W.region ?_
  refine WL.val run_assign rfl rfl ?_
  refine WL.nil ?_
  refine W.seq ?_
  refine W.region ?_
  refine WL.eff (eff_call Tryz.call15 (unew_ok (pool := []) h)) rfl rfl ?_
  rintro _ w hv
  rcases hv with ⟨N, hN, h1N, hN2, bu, ms0, rfl, h⟩ | ⟨hno, _, _⟩
  rotate_left
  · exact absurd (by decide) hno
  have ob_ : N = 4 := by omega
  obtain rfl := ob_
  have h := h.pool0
  have h00 : okC (newU 4) ∧ small 1000000 (newU 4) := ⟨okCb_ok (by decide +kernel), smallb_ok (by decide +kernel)⟩
  refine WL.val run_move rfl rfl ?_
  refine WL.val (run_extract rfl rfl) rfl rfl ?_
  refine WL.val (run_extract rfl rfl) rfl rfl ?_
  refine WL.val run_assign rfl rfl ?_
  refine WL.val run_assign rfl rfl ?_
  refine WL.nil ?_
  refine W.seq ?_
  refine W.seq ?_
  refine W.region ?_
  refine WL.val run_move rfl rfl ?_
  refine WL.val (run_neqF rfl rfl (rfl)) rfl rfl ?_
  refine WL.val run_move rfl rfl ?_
  refine WL.val run_move rfl rfl ?_
  refine WL.val (run_eqlPtrNil Tryz.underlying31 rfl rfl) rfl rfl ?_
  refine WL.val (run_pickF rfl) rfl rfl ?_
  refine WL.nil ?_
  refine W.condF rfl ?_
  refine W.skip ?_
  refine W.seq ?_
  refine W.region ?_
  refine WL.val run_move rfl rfl ?_
  refine WL.eff (eff_mkRow (out := [.int .u8 _, .int .u8 _, .int .u8 _, .int .u8 _, .int .u8 _, .int .u8 _, .int .u8 _, .int .u8 _]) h Tryz.underlying22 Tryz.sizeOf5 Tryz.zeroValue5 rfl (by decide) rfl rfl rfl) rfl rfl ?_
  rintro _ w ⟨b24, rfl, h⟩
  refine WL.eff (eff_ofString h rfl (by omega) Tryz.underlying22 Tryz.underlying5) rfl rfl ?_
  rintro _ w ⟨rfl, h⟩
  refine WL.val (run_buildS (pl := [(0, 1), (1, 1), (2, 1), (3, 1), (4, 1), (5, 1), (6, 1), (7, 1)]) (out := [.int .i64 _, .int .i64 _, .int .i64 _, .slice _ _ _, .int .u64 _, .int .u64 _, .int .i64 _, .bool _]) Tryz.underlying25 Tryz.zeroValue25 (fun w => by kernel_rfl) rfl (⟨⟨_, _, rfl, rfl, by decide⟩, ⟨⟨_, _, rfl, rfl, by decide⟩, ⟨⟨_, _, rfl, rfl, by decide⟩, ⟨⟨_, _, rfl, rfl, by decide⟩, trivial⟩⟩⟩⟩) rfl) rfl rfl ?_
  refine WL.eff (eff_call Tryz.call26 (uonce_ok (i := 0) (id := 1) (floor := 0) (kind := 3) (at_ := 1) (n := 1) (data := abc) (key := 0) (new := 0) (typ := 0) (force := false) (u := (newU 4)) (pool := []) (ms := ms0) (by decide) (by decide) (h00).2 (h00).1 (fun x hx => by cases hx) ((h.fetch (Pool [])).fetch (UnP 84 146 152 bu [] ms0 (newU 4))) (Gives.ownO (v := .slice (some ⟨b24, 0, none⟩) 8 8)) (by decide))) rfl rfl ?_
  rintro _ w ⟨u1_, r1_, f1_, dv1, ms1, pool1, he, rfl, h⟩
  have he := he.symm.trans kn1_eq
  simp only [Prod.mk.injEq] at he
  obtain ⟨rfl, rfl, rfl⟩ := he
  have of_ := Own.form h
  obtain ⟨ad1, cd1, hdv, _⟩ := of_
  subst hdv
  have h : On W0 (OwnB (.slice ad1 ([] : List UInt8).length cd1) [] :: _) w := h
  refine WL.val run_move rfl rfl ?_
  refine WL.val (run_extract rfl rfl) rfl rfl ?_
  refine WL.val (run_extract rfl rfl) rfl rfl ?_
  refine WL.eff (eff_alloc h Tryz.zeroValue36 rfl) rfl rfl ?_
  rintro _ w ⟨b3, rfl, h⟩
  refine WL.eff (eff_storeN (vs := [.int .i64 _, .int .i64 _, .int .i64 _, .slice _ _ _, .int .i64 _]) h Tryz.sizeOf36 rfl rfl rfl rfl rfl (fun k _ _ => free0 k)) rfl rfl ?_
  rintro _ w h
  try simp only [splice, List.take_zero, List.take_succ_cons, List.take_nil, List.drop_succ_cons, List.drop_zero, List.drop_nil, List.nil_append, List.cons_append, List.append_nil, List.length_cons, List.length_nil, Nat.zero_add, Nat.reduceAdd] at h
  refine WL.val run_assign rfl rfl ?_
  refine WL.nil ?_
  refine W.seq ?_
  refine W.region ?_
  refine WL.val run_move rfl rfl ?_
  refine WL.val (run_buildS (pl := [(0, 1), (1, 1), (2, 1), (3, 1), (4, 1), (5, 1), (6, 1), (7, 1)]) (out := [.int .i64 _, .int .i64 _, .int .i64 _, .slice _ _ _, .int .u64 _, .int .u64 _, .int .i64 _, .bool _]) Tryz.underlying25 Tryz.zeroValue25 (fun w => by kernel_rfl) rfl (⟨⟨_, _, rfl, rfl, by decide⟩, ⟨⟨_, _, rfl, rfl, by decide⟩, ⟨⟨_, _, rfl, rfl, by decide⟩, trivial⟩⟩⟩) rfl) rfl rfl ?_
  refine WL.eff (eff_call Tryz.call13 (do_ok (hh := 1) (kind := 2) (at_ := 1) (n := 1) (data := []) (key := 0) (new := 0) (typ := 0) (force := false) (u := kn1) (by decide) (kn1_ok).2 (kn1_ok).1 (h.fetch (UnP 84 146 152 bu pool1 ms1 kn1)) Gives.nilB (by decide))) rfl rfl ?_
  rintro _ w ⟨u1_, r1_, dv2, he, rfl, h⟩
  have he := he.symm.trans kn2_eq
  simp only [Prod.mk.injEq] at he
  obtain ⟨rfl, rfl⟩ := he
  have of_ := Own.form h
  obtain ⟨ad2, cd2, hdv, _⟩ := of_
  subst hdv
  have h : On W0 (OwnB (.slice ad2 (abc).length cd2) (abc) :: _) w := h
  refine WL.eff (eff_alloc h Tryz.zeroValue36 rfl) rfl rfl ?_
  rintro _ w ⟨b5, rfl, h⟩
  refine WL.eff (eff_storeN (vs := [.int .i64 _, .int .i64 _, .int .i64 _, .slice _ _ _, .int .i64 _]) h Tryz.sizeOf36 rfl rfl rfl rfl rfl (fun k _ _ => free0 k)) rfl rfl ?_
  rintro _ w h
  try simp only [splice, List.take_zero, List.take_succ_cons, List.take_nil, List.drop_succ_cons, List.drop_zero, List.drop_nil, List.nil_append, List.cons_append, List.append_nil, List.length_cons, List.length_nil, Nat.zero_add, Nat.reduceAdd] at h
  refine WL.nil ?_
  refine W.seq ?_
  refine W.region ?_
  refine WL.val run_move rfl rfl ?_
  refine WL.val (run_buildS (pl := [(0, 1), (1, 1), (2, 1), (3, 1), (4, 1), (5, 1), (6, 1), (7, 1)]) (out := [.int .i64 _, .int .i64 _, .int .i64 _, .slice _ _ _, .int .u64 _, .int .u64 _, .int .i64 _, .bool _]) Tryz.underlying25 Tryz.zeroValue25 (fun w => by kernel_rfl) rfl (⟨⟨_, _, rfl, rfl, by decide⟩, ⟨⟨_, _, rfl, rfl, by decide⟩, ⟨⟨_, _, rfl, rfl, by decide⟩, trivial⟩⟩⟩) rfl) rfl rfl ?_
  refine WL.eff (eff_call Tryz.call26 (uonce_ok (i := 0) (id := 1) (floor := 0) (kind := 2) (at_ := 1) (n := 1) (data := []) (key := 0) (new := 0) (typ := 0) (force := false) (u := kn2) (pool := pool1) (ms := ms1) (by decide) (by decide) (kn2_ok).2 (kn2_ok).1 kn2_d ((h.fetch (Pool pool1)).fetch (UnP 84 146 152 bu pool1 ms1 kn2)) Gives.nilB (by decide))) rfl rfl ?_
  rintro _ w ⟨u1_, r1_, f1_, dv3, ms3, pool3, he, rfl, h⟩
  have he := he.symm.trans kn3_eq
  simp only [Prod.mk.injEq] at he
  obtain ⟨rfl, rfl, rfl⟩ := he
  have of_ := Own.form h
  obtain ⟨ad3, cd3, hdv, _⟩ := of_
  subst hdv
  have h : On W0 (OwnB (.slice ad3 ([] : List UInt8).length cd3) [] :: _) w := h
  refine WL.val run_move rfl rfl ?_
  refine WL.val (run_extract rfl rfl) rfl rfl ?_
  refine WL.val (run_extract rfl rfl) rfl rfl ?_
  refine WL.eff (eff_alloc h Tryz.zeroValue36 rfl) rfl rfl ?_
  rintro _ w ⟨b6, rfl, h⟩
  refine WL.eff (eff_storeN (vs := [.int .i64 _, .int .i64 _, .int .i64 _, .slice _ _ _, .int .i64 _]) h Tryz.sizeOf36 rfl rfl rfl rfl rfl (fun k _ _ => free0 k)) rfl rfl ?_
  rintro _ w h
  try simp only [splice, List.take_zero, List.take_succ_cons, List.take_nil, List.drop_succ_cons, List.drop_zero, List.drop_nil, List.nil_append, List.cons_append, List.append_nil, List.length_cons, List.length_nil, Nat.zero_add, Nat.reduceAdd] at h
  refine WL.val run_assign rfl rfl ?_
  refine WL.nil ?_
  refine W.seq ?_
  refine W.region ?_
  refine WL.val run_move rfl rfl ?_
  refine WL.val (run_buildS (pl := [(0, 1), (1, 1), (2, 1), (3, 1), (4, 1), (5, 1), (6, 1), (7, 1)]) (out := [.int .i64 _, .int .i64 _, .int .i64 _, .slice _ _ _, .int .u64 _, .int .u64 _, .int .i64 _, .bool _]) Tryz.underlying25 Tryz.zeroValue25 (fun w => by kernel_rfl) rfl (⟨⟨_, _, rfl, rfl, by decide⟩, trivial⟩) rfl) rfl rfl ?_
  refine WL.eff (eff_call Tryz.call13 (do_ok (hh := 9) (kind := 2) (at_ := 0) (n := 0) (data := []) (key := 0) (new := 0) (typ := 0) (force := false) (u := kn3) (by decide) (kn3_ok).2 (kn3_ok).1 (h.fetch (UnP 84 146 152 bu pool3 ms3 kn3)) Gives.nilB (by decide))) rfl rfl ?_
  rintro _ w ⟨u1_, r1_, dv4, he, rfl, h⟩
  have he := he.symm.trans kn4_eq
  simp only [Prod.mk.injEq] at he
  obtain ⟨rfl, rfl⟩ := he
  have of_ := Own.form h
  obtain ⟨ad4, cd4, hdv, _⟩ := of_
  subst hdv
  have h : On W0 (OwnB (.slice ad4 ([] : List UInt8).length cd4) ([] : List UInt8) :: _) w := h
  refine WL.eff (eff_alloc h Tryz.zeroValue36 rfl) rfl rfl ?_
  rintro _ w ⟨b8, rfl, h⟩
  refine WL.eff (eff_storeN (vs := [.int .i64 _, .int .i64 _, .int .i64 _, .slice _ _ _, .int .i64 _]) h Tryz.sizeOf36 rfl rfl rfl rfl rfl (fun k _ _ => free0 k)) rfl rfl ?_
  rintro _ w h
  try simp only [splice, List.take_zero, List.take_succ_cons, List.take_nil, List.drop_succ_cons, List.drop_zero, List.drop_nil, List.nil_append, List.cons_append, List.append_nil, List.length_cons, List.length_nil, Nat.zero_add, Nat.reduceAdd] at h
  refine WL.nil ?_
  refine W.seq ?_
  refine W.region ?_
  refine WL.val run_move rfl rfl ?_
  refine WL.eff (eff_call Tryz.call27 (uencode_ok (u := kn4) (pool := pool3) (ms := ms3) kn4_cap kn4_okT kn4_g knB_s ((h.fetch (Pool pool3)).fetch (UnP 84 146 152 bu pool3 ms3 kn4)))) rfl rfl ?_
  rintro v44 w ⟨a44, hv44, h⟩
  have ob_ : ∃ E, E = knB := ⟨_, rfl⟩
  obtain ⟨E, hEq⟩ := ob_
  have hEq2 : encU kn4 (SpM.encS kn4.s) = E := hEq.symm
  rw [hEq2] at hv44 h
  subst hv44
  refine WL.eff (eff_call Tryz.call12 (udecode_ok (tF := To.refl) (b := E) (ab0 := a44) (cb0 := E.length) (by rw [hEq]; exact knB_len) (by rw [hEq]; exact knB_0) h (Gives.ownO (v := .slice a44 E.length E.length)))) rfl rfl ?_
  rintro _ w hv
  rcases hv with ⟨u4, bu2, ms4, pool4, hdu, rfl, h⟩ | ⟨hno, rfl, h⟩
  rotate_left
  · rw [hEq] at hno; have hk := knB_1; rw [hno] at hk; obtain ⟨_, hk⟩ := hk; cases hk
  rw [hEq] at hdu
  have hk2 := knB_2 hdu
  obtain ⟨hkC, hkS, u5, hk5⟩ := hk2
  refine WL.val run_move rfl rfl ?_
  refine WL.val (run_extract rfl rfl) rfl rfl ?_
  refine WL.val (run_extract rfl rfl) rfl rfl ?_
  refine WL.val run_assign rfl rfl ?_
  refine WL.val run_assign rfl rfl ?_
  refine WL.nil ?_
  refine W.seq ?_
  refine W.seq ?_
  refine W.region ?_
  refine WL.val run_move rfl rfl ?_
  refine WL.val (run_neqF rfl rfl (rfl)) rfl rfl ?_
  refine WL.val run_move rfl rfl ?_
  refine WL.val run_move rfl rfl ?_
  refine WL.val (run_eqlPtrNil Tryz.underlying31 rfl rfl) rfl rfl ?_
  refine WL.val (run_pickF rfl) rfl rfl ?_
  refine WL.nil ?_
  refine W.condF rfl ?_
  refine W.skip ?_
  refine W.seq ?_
  refine W.region ?_
  refine WL.val run_move rfl rfl ?_
  refine WL.val (run_buildS (pl := [(0, 1), (1, 1), (2, 1), (3, 1), (4, 1), (5, 1), (6, 1), (7, 1)]) (out := [.int .i64 _, .int .i64 _, .int .i64 _, .slice _ _ _, .int .u64 _, .int .u64 _, .int .i64 _, .bool _]) Tryz.underlying25 Tryz.zeroValue25 (fun w => by kernel_rfl) rfl (⟨⟨_, _, rfl, rfl, by decide⟩, ⟨⟨_, _, rfl, rfl, by decide⟩, ⟨⟨_, _, rfl, rfl, by decide⟩, trivial⟩⟩⟩) rfl) rfl rfl ?_
  refine WL.eff (eff_call Tryz.call13 (do_ok (hh := 0) (kind := 2) (at_ := 1) (n := 1) (data := []) (key := 0) (new := 0) (typ := 0) (force := false) (u := u4) (by decide) ((And.intro hkC hkS)).2 ((And.intro hkC hkS)).1 (h.fetch (UnP 84 146 152 bu2 pool4 ms4 u4)) Gives.nilB (by decide))) rfl rfl ?_
  rintro _ w ⟨u1_, r1_, dv5, he, rfl, h⟩
  have he := he.symm.trans hk5
  simp only [Prod.mk.injEq] at he
  obtain ⟨rfl, rfl⟩ := he
  have of_ := Own.form h
  obtain ⟨ad5, cd5, hdv, _⟩ := of_
  subst hdv
  have h : On W0 (OwnB (.slice ad5 (abc).length cd5) (abc) :: _) w := h
  refine WL.eff (eff_alloc h Tryz.zeroValue36 rfl) rfl rfl ?_
  rintro _ w ⟨b11, rfl, h⟩
  refine WL.eff (eff_storeN (vs := [.int .i64 _, .int .i64 _, .int .i64 _, .slice _ _ _, .int .i64 _]) h Tryz.sizeOf36 rfl rfl rfl rfl rfl (fun k _ _ => free0 k)) rfl rfl ?_
  rintro _ w h
  try simp only [splice, List.take_zero, List.take_succ_cons, List.take_nil, List.drop_succ_cons, List.drop_zero, List.drop_nil, List.nil_append, List.cons_append, List.append_nil, List.length_cons, List.length_nil, Nat.zero_add, Nat.reduceAdd] at h
  refine WL.nil ?_
  refine W.seq ?_
  refine W.region ?_
  refine WL.val run_move rfl rfl ?_
  refine WL.val run_move rfl rfl ?_
  refine WL.val run_move rfl rfl ?_
  refine WL.val (run_not rfl) rfl rfl ?_
  refine WL.val (run_pickT rfl) rfl rfl ?_
  refine WL.val run_move rfl rfl ?_
  refine WL.val (run_fieldAddr 0 Tryz.underlying36 rfl Tryz.sizeOf3 rfl rfl) rfl rfl ?_
  refine WL.val (run_load1 Tryz.isAgg3 rfl (h.cellB rfl)) rfl rfl ?_
  refine WL.val (run_eqlT rfl rfl (rfl)) rfl rfl ?_
  refine WL.val (run_pickT rfl) rfl rfl ?_
  refine WL.val run_move rfl rfl ?_
  refine WL.val (run_fieldAddr 3 Tryz.underlying36 rfl Tryz.sizeOf22 rfl rfl) rfl rfl ?_
  refine WL.val (run_load1 Tryz.isAgg22 rfl (h.cellB rfl)) rfl rfl ?_
  refine WL.val (run_bytesStr Tryz.underlying22 Tryz.underlying5 Tryz.underlying9 rfl (h.cellsO (v := .slice ad2 abc.length cd2))) rfl rfl ?_
  refine WL.val (run_eqlStrT rfl rfl (rfl)) rfl rfl ?_
  refine WL.val (run_pickT rfl) rfl rfl ?_
  refine WL.val run_move rfl rfl ?_
  refine WL.val (run_loadB (vs := [.int .i64 _, .int .i64 _, .int .i64 _, .slice _ _ _, .int .i64 _]) h Tryz.isAgg36 Tryz.sizeOf36 rfl rfl rfl) rfl rfl ?_
  refine WL.val (run_loadB (vs := [.int .i64 _, .int .i64 _, .int .i64 _, .slice _ _ _, .int .i64 _]) h Tryz.isAgg36 Tryz.sizeOf36 rfl rfl rfl) rfl rfl ?_
  refine WL.eff (eff_call Tryz.call28 (usame_ok (s1 := 0) (k1 := 0) (c1 := 0) (i1 := 0) (d1 := []) (s2 := 0) (k2 := 0) (c2 := 0) (i2 := 0) (d2 := []) h (Gives.ownO (v := .slice ad1 ([] : List UInt8).length cd1)) (Gives.ownO (v := .slice ad3 ([] : List UInt8).length cd3)))) rfl rfl ?_
  rintro _ w ⟨rfl, h⟩
  refine WL.val (run_pickT rfl) rfl rfl ?_
  refine WL.val run_move rfl rfl ?_
  refine WL.val (run_fieldAddr 2 Tryz.underlying36 rfl Tryz.sizeOf3 rfl rfl) rfl rfl ?_
  refine WL.val (run_load1 Tryz.isAgg3 rfl (h.cellB rfl)) rfl rfl ?_
  refine WL.val (run_eqlT rfl rfl (rfl)) rfl rfl ?_
  refine WL.val (run_pickT rfl) rfl rfl ?_
  refine WL.val run_move rfl rfl ?_
  refine WL.val (run_fieldAddr 3 Tryz.underlying36 rfl Tryz.sizeOf22 rfl rfl) rfl rfl ?_
  refine WL.val (run_load1 Tryz.isAgg22 rfl (h.cellB rfl)) rfl rfl ?_
  refine WL.val (run_bytesStr Tryz.underlying22 Tryz.underlying5 Tryz.underlying9 rfl (h.cellsO (v := .slice ad5 abc.length cd5))) rfl rfl ?_
  refine WL.val (run_eqlStrT rfl rfl (rfl)) rfl rfl ?_
  refine WL.val (run_pickT rfl) rfl rfl ?_
  refine WL.val run_move rfl rfl ?_
  refine WL.val run_move rfl rfl ?_
  refine WL.eff (eff_call Tryz.call14 (ublocks_ok (u := kn4) (bu := bu) (pool := pool3) (ms := ms3) (h.fetch (UnP 84 146 152 bu pool3 ms3 kn4)))) rfl rfl ?_
  rintro _ w ⟨rfl, h⟩
  refine WL.val (run_eqlT rfl rfl (by rw [kn4_N]; rfl)) rfl rfl ?_
  refine WL.val (run_pickT rfl) rfl rfl ?_
  refine WL.val run_assign rfl rfl ?_
  refine WL.nil ?_
  refine W.ret ?_
  refine bodyQ.r1 (v := .bool _) Tryz.results10 rfl ?_
  -- path 
  exact ⟨rfl, h.to⟩

end Go.Proofs.YtdpakoefdpmebaaGreat
