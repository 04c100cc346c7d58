/-
  A unit: all held against one unit: the contracts. Lines of walks printed by a program of the prover's.
-/
import Derived.Test.YtdpakoefdpmebaaGreatTrace2
namespace Go.Proofs.YtdpakoefdpmebaaGreat
open Go Go.Sl Go.Sl.TrM Go.Sl.BitM Go.Sl.SpM Go.Sl.RsM Go.Sl.ByM Go.Sl.UnM
set_option linter.unusedVariables false
set_option linter.unusedSimpArgs false
set_option maxHeartbeats 1000000
set_option maxRecDepth 8000
variable {W0 w : World} {L F : List HProp}

theorem check_ok {N : Nat} {ai : Option Addr} {ci : Nat} {ins : List InX} {ar : Option Addr} {cr : Nat} {row : List CoX} {ao : Option Addr} {co : Nat} {out : List OuX} (hN1 : 1 ≤ N) (hN2 : N ≤ 1024) (hrl : row.length ≤ 900000) (hnd : (ins.map InX.nm).Nodup) (h : On W0 L w) (CI : Gives L (Cells 11 (.slice ai ins.length ci) ins.length (ins.flatMap InX.cells))) (CR : Gives L (Cells 3 (.slice ar row.length cr) row.length (row.flatMap CoX.cells))) (CO : Gives L (Cells 8 (.slice ao out.length co) out.length (out.flatMap OuX.cells))) (hB : ∀ x ∈ ins, Gives L (Bytes (.slice x.c.ax x.c.bs.length x.c.ac) x.c.bs)) (hcm : ∀ x ∈ ins, okCm x.c.cm ∧ x.c.bs.length ≤ 1000000) (hBO : ∀ o ∈ out, Gives L (Bytes (.slice o.ax o.bs.length o.ac) o.bs)) : Calls Tryz.prog 25 #[.int .i64 (N : Int), .slice ai ins.length ci, .slice ar row.length cr, .slice ao out.length co] w (Ret fun v w' => v = .tuple #[.int .i64 ((checkM N ins row out).1 : Int), .int .i64 (checkM N ins row out).2] ∧ On W0 L w') := by
  refine enter Tryz.func25 rfl Tryz.ntmps25 rfl ?_
  have hb1 := (h.reads CI).bounds
  obtain ⟨hi1, hi2⟩ := hb1
  have hb2 := (h.reads CR).bounds
  obtain ⟨hr1, hr2⟩ := hb2
  have hb3 := (h.reads CO).bounds
  obtain ⟨ho1, ho2⟩ := hb3
  have hmx := maxLen_eq
  refine W.seq (W.region (WL.val run_assign rfl rfl (WL.val run_assign rfl rfl (WL.nil (W.scope (W.seq (W.seq ?_)))))))
  refine W.region (WL.val run_move rfl rfl (WL.val run_move rfl rfl (WL.val run_move rfl rfl (WL.eff (eff_call Tryz.call73 (order_ok h CI CR CO)) rfl rfl ?_))))
  rintro _ w hv
  rcases hv with ⟨_, rfl, h⟩ | ⟨hno, _⟩
  rotate_left
  · exact absurd hnd hno
  refine WL.val run_move rfl rfl (WL.val (run_extract rfl rfl) rfl rfl (WL.val (run_extract rfl rfl) rfl rfl (WL.val run_assign rfl rfl (WL.val run_assign rfl rfl (WL.nil (W.seq (W.region ?_)))))))
  refine WL.val run_move rfl rfl (WL.val (run_neq rfl rfl) rfl rfl (WL.nil ?_))
  refine W.condIf rfl (fun c4 => ?_) (fun c4 => ?_)
  ·
   refine W.seq (W.region (WL.val run_move rfl rfl (WL.val run_move rfl rfl (WL.val run_assign rfl rfl (WL.val run_assign rfl rfl (WL.nil (W.ret ?_)))))))
   refine bodyQ.r2 (v1 := .int .i64 _) (v2 := .int .i64 _) Tryz.results25 rfl rfl ?_
   have hc : checkM N ins row out = orderM ins row out := by unfold checkM; rw [if_neg c4]
   rw [hc]
   exact ⟨rfl, h⟩
  refine W.skip (W.seq ?_)
  have h0 : (orderM ins row out).2 = 0 := by omega
  have hok := TrM.order_ok h0
  obtain ⟨hfd, hrn, hon⟩ := hok
  have hc : checkM N ins row out = (sameM row (replL ins row (newU N)) out 0) := by unfold checkM; rw [if_pos h0]
  refine W.region (WL.val run_move rfl rfl (WL.val run_move rfl rfl (WL.val run_move rfl rfl (WL.eff (eff_call Tryz.call54 (replay_ok (N := N) hN1 hN2 hrl hfd h CI CR hB hcm)) rfl rfl ?_))))
  rintro _ w ⟨a, pool, xs, rfl, hrs, hps, h⟩
  have hxl : xs.length = row.length := by rw [← List.length_map (f := fun x : RV => x.2), hrs, replL_length]
  refine WL.val run_move rfl rfl (WL.val (run_extract rfl rfl) rfl rfl (WL.val (run_extract rfl rfl) rfl rfl (WL.val run_assign rfl rfl (WL.val run_assign rfl rfl (WL.nil (W.seq (W.seq ?_)))))))
  refine W.region (WL.val run_move rfl rfl (WL.val (run_neqF rfl rfl (rfl)) rfl rfl (WL.nil (W.condF rfl (W.skip (W.seq (W.region ?_)))))))
  refine WL.eff (eff_makeMapS .i64 .u64 h) rfl rfl ?_
  rintro _ w ⟨b40, rfl, h⟩
  refine WL.val run_assign rfl rfl (WL.nil (W.seq (W.seq (W.region (WL.val run_move rfl rfl (WL.val (run_lenSlice Tryz.underlying56 rfl) rfl rfl (WL.val run_move rfl rfl ?_)))))))
  refine WL.nil (W.block ?_)
  refine W.loop (fun (k : Nat) env w => k ≤ row.length ∧ ∃ (j : Env) (kva : List KS) (cka : Nat), SpecAt kva row k ∧ env = mkE j [(3, .slice ao out.length co), (12, .slice a xs.length xs.length), (14, .map (some b40)), (41, .slice ar row.length cr), (42, .int .i64 (row.length : Int)), (43, .int .i64 (k : Int))] ∧ On W0 (MapS b40 .i64 .u64 kva cka :: Own 5 (.slice a xs.length xs.length) xs.length (xs.flatMap RV.cells) :: Pool pool :: L) w) (fun k => row.length - k) (0) ?_ ?_
  · exact ⟨Nat.zero_le _, _, [], 0, (fun q hq => by omega), mkE_of ⟨rfl, rfl, rfl, rfl, rfl, rfl, trivial⟩, h.to⟩
  clear h
  rintro k env w ⟨hk, j, kva, cka, hsa, rfl, h⟩
  refine W.seq (W.region (WL.val (run_lss rfl rfl) rfl rfl (WL.nil (W.seq ?_))))
  refine W.condIf rfl (fun c19 => ?_) (fun c19 => ?_)
  ·
   refine W.skip (W.seq ?_)
   have hkl : k < row.length := by omega
   have ad_ := (h.readsTo CR).addr (by omega)
   obtain ⟨br, or_, hal_⟩ := ad_
   subst hal_
   have ex_ : ∃ a, row[k]? = some a := ⟨row[k], by simp⟩
   obtain ⟨⟨ch, cid, cat⟩, hq⟩ := ex_
   have hrow := drop_flatMap CoX.cells 3 CoX.cells_length row _ _ hq
   refine W.block (W.seq (W.region (WL.val run_move rfl rfl (WL.val (run_indexAddr Tryz.underlying56 Tryz.sizeOf61 rfl rfl (by omega) (by omega)) rfl rfl (WL.val (run_loadN Tryz.isAgg61 Tryz.sizeOf61 rfl rfl ((h.readsTo CR).elem (i := k) (vs := [.int .i64 ch, .int .u64 cid, .int .i64 cat]) hkl hrow)) rfl rfl (WL.eff (eff_alloc h Tryz.zeroValue61 rfl) rfl rfl ?_))))))
   rintro _ w ⟨b16, rfl, h⟩
   refine WL.val run_assign rfl rfl (WL.eff (eff_storeW (vs := [.int .i64 _, .int .u64 _, .int .i64 _]) h Tryz.sizeOf61 rfl rfl rfl rfl rfl) rfl rfl ?_)
   rintro _ w h
   refine WL.nil (W.region (WL.val run_move rfl rfl (WL.val (run_fieldAddr 0 Tryz.underlying61 rfl Tryz.sizeOf3 rfl rfl) rfl rfl (WL.val (run_load1 Tryz.isAgg3 rfl (h.cellB rfl)) rfl rfl (WL.val (run_fieldAddr 1 Tryz.underlying61 rfl Tryz.sizeOf23 rfl rfl) rfl rfl (WL.val (run_load1 Tryz.isAgg23 rfl (h.cellB rfl)) rfl rfl (WL.val (run_buildS (pl := [(0, 1), (1, 1)]) (out := [.int .i64 _, .int .u64 _]) Tryz.underlying137 Tryz.zeroValue137 (fun w => by kernel_rfl) rfl (⟨⟨_, _, rfl, rfl, by decide⟩, ⟨⟨_, _, rfl, rfl, by decide⟩, trivial⟩⟩) rfl) rfl rfl ?_)))))))
   refine WL.val run_move rfl rfl (WL.eff (eff_mapUpdateS (p := (ch, cid)) (v := .int .i64 (k : Int)) nameKey (h.fetch (MapS b40 .i64 .u64 kva cka)) Tryz.underlying135 rfl rfl rfl) rfl rfl ?_)
   rintro _ w h
   have h : On W0 (MapS b40 .i64 .u64 (putS kva (⟨ch, cid, cat⟩ : CoX).nm (.int .i64 (k : Int)) cka) (clockS kva (⟨ch, cid, cat⟩ : CoX).nm cka) :: _) w := h
   refine WL.nil (W.region (WL.val (run_incN rfl rfl (by omega)) rfl rfl (WL.val run_move rfl rfl (WL.nil ?_))))
   exact ⟨k + 1, ⟨by omega, _, (putS kva (⟨ch, cid, cat⟩ : CoX).nm (.int .i64 (k : Int)) cka), (clockS kva (⟨ch, cid, cat⟩ : CoX).nm cka), specAt_put hrn hq hsa, mkE_of ⟨rfl, rfl, rfl, rfl, rfl, rfl, trivial⟩, h.to⟩, by show row.length - (k + 1) < row.length - k; omega⟩
  refine W.exit (W.seq ?_)
  have ob_ : k = row.length := by omega
  obtain rfl := ob_
  refine W.label (W.seq (W.seq (W.region (WL.val run_move rfl rfl (WL.val (run_lenSlice Tryz.underlying57 rfl) rfl rfl (WL.val run_move rfl rfl (WL.nil ?_)))))))
  refine W.block ?_
  refine W.loop (fun (q : Nat) env w => q ≤ out.length ∧ ∃ (j : Env), sameM row (replL ins row (newU N)) (out.drop q) q = (sameM row (replL ins row (newU N)) out 0) ∧ env = mkE j [(12, .slice a xs.length xs.length), (14, .map (some b40)), (56, .slice ao out.length co), (57, .int .i64 (out.length : Int)), (58, .int .i64 (q : Int))] ∧ On W0 (MapS b40 .i64 .u64 kva cka :: Own 5 (.slice a xs.length xs.length) xs.length (xs.flatMap RV.cells) :: Pool pool :: L) w) (fun q => out.length - q) (0) ?_ ?_
  · exact ⟨Nat.zero_le _, _, rfl, mkE_of ⟨rfl, rfl, rfl, rfl, rfl, trivial⟩, h.to⟩
  clear h
  rintro q env w ⟨hq8, j, hX, rfl, h⟩
  refine W.seq (W.region (WL.val (run_lss rfl rfl) rfl rfl (WL.nil (W.seq ?_))))
  refine W.condIf rfl (fun c31 => ?_) (fun c31 => ?_)
  ·
   refine W.skip (W.seq ?_)
   have hkl : q < out.length := by omega
   have ad_ := (h.readsTo CO).addr (by omega)
   obtain ⟨bo, oo, hal_⟩ := ad_
   subst hal_
   have ex_ : ∃ a, out[q]? = some a := ⟨out[q], by simp⟩
   obtain ⟨⟨oh, oid, ost, oky, oco, oax, oac, obs, oin, oat⟩, hq⟩ := ex_
   have hrow := drop_flatMap OuX.cells 8 OuX.cells_length out _ _ hq
   have hbO : Gives L (Bytes (.slice oax obs.length oac) obs) := hBO _ (List.mem_of_getElem? hq)
   have hmr := hon _ (List.mem_of_getElem? hq)
   have hix := idx_get hmr
   have ex2_ : ∃ i, i = idxC row (⟨oh, oid, ost, oky, oco, oax, oac, obs, oin, oat⟩ : OuX).nm := ⟨_, rfl⟩
   obtain ⟨i, hi_⟩ := ex2_
   rw [← hi_] at hix
   have hsg := specAt_get hrn hsa hmr
   rw [← hi_] at hsg
   have hsg : (lookS kva (oh, oid)).getD (.int .i64 0) = .int .i64 ((i : Nat) : Int) := by rw [show lookS kva (oh, oid) = _ from hsg]; rfl
   have hixs : i < xs.length := by omega
   have ex3_ : ∃ x, xs[i]? = some x := ⟨xs[i], by simp⟩
   obtain ⟨⟨dv, ⟨rst, rky, rco, rda, rin⟩⟩, hxi⟩ := ex3_
   have hpr := hps _ (List.mem_of_getElem? hxi)
   have hpr : (dv, rda) ∈ pool := hpr
   have hf2 := Cells.form (On.reads (h.fetch (Pool pool)) (Gives.pool hpr))
   obtain ⟨ad2, cd2, hdv2, _⟩ := hf2
   subst hdv2
   have hrow2 := drop_flatMap RV.cells 5 RV.cells_length xs _ _ hxi
   have oa_ := Own.addr (h.own (.slice a xs.length xs.length)) (by omega)
   obtain ⟨bn, on, ha_⟩ := oa_
   subst ha_
   have hrg : (replL ins row (newU N)).getD (idxC row (⟨oh, oid, ost, oky, oco, oax, oac, obs, oin, oat⟩ : OuX).nm) (plain 0 0 0) = ⟨rst, rky, rco, rda, rin⟩ := by
     rw [← hi_, ← hrs, List.getD_eq_getElem?_getD, List.getElem?_map, hxi]; rfl
   refine W.block (W.seq (W.region (WL.val run_move rfl rfl (WL.val (run_indexAddr Tryz.underlying57 Tryz.sizeOf63 rfl rfl (by omega) (by omega)) rfl rfl (WL.val (run_loadN Tryz.isAgg63 Tryz.sizeOf63 rfl rfl ((h.readsTo CO).elem (i := q) (vs := [.int .i64 oh, .int .u64 oid, .int .i64 ost, .int .i64 oky, .int .i64 oco, .slice oax obs.length oac, .int .i64 oin, .int .i64 oat]) hkl hrow)) rfl rfl (WL.eff (eff_alloc h Tryz.zeroValue63 rfl) rfl rfl ?_))))))
   rintro _ w ⟨b18, rfl, h⟩
   refine WL.val run_assign rfl rfl (WL.eff (eff_storeW (vs := [.int .i64 _, .int .u64 _, .int .i64 _, .int .i64 _, .int .i64 _, .slice _ _ _, .int .i64 _, .int .i64 _]) h Tryz.sizeOf63 rfl rfl rfl rfl rfl) rfl rfl ?_)
   rintro _ w h
   refine WL.nil (W.seq (W.seq ?_))
   refine W.draw Tryz.follows h (fun w h => ?_)
   refine WT.pure 0 rfl (by kernel_rfl) (fun w' => (run_fieldAddr 2 Tryz.underlying63 rfl Tryz.sizeOf36 rfl rfl)) rfl rfl (WT.loadN (vs := [.int .i64 _, .int .i64 _, .int .i64 _, .slice _ _ _, .int .i64 _]) 1 rfl (by kernel_rfl) Tryz.isAgg36 Tryz.sizeOf36 rfl rfl (h.rowV (n := 5) rfl) rfl rfl (WT.pure 2 rfl (by kernel_rfl) (fun w' => run_move) rfl rfl (WT.pure 3 rfl (by kernel_rfl) (fun w' => run_move) rfl rfl (WT.pure 4 rfl (by kernel_rfl) (fun w' => (run_fieldAddr 0 Tryz.underlying63 rfl Tryz.sizeOf3 rfl rfl)) rfl rfl (WT.load1 5 rfl (by kernel_rfl) Tryz.isAgg3 rfl (h.cellB rfl) rfl rfl (WT.pure 6 rfl (by kernel_rfl) (fun w' => (run_fieldAddr 1 Tryz.underlying63 rfl Tryz.sizeOf23 rfl rfl)) rfl rfl (WT.load1 7 rfl (by kernel_rfl) Tryz.isAgg23 rfl (h.cellB rfl) rfl rfl ?_)))))))
   refine WT.pure 8 rfl (by kernel_rfl) (fun w' => (run_buildS (pl := [(0, 1), (1, 1)]) (out := [.int .i64 _, .int .u64 _]) Tryz.underlying137 Tryz.zeroValue137 (fun w => by kernel_rfl) rfl (⟨⟨_, _, rfl, rfl, by decide⟩, ⟨⟨_, _, rfl, rfl, by decide⟩, trivial⟩⟩) rfl)) rfl rfl (WT.eff 9 [false, false, true] rfl (by kernel_rfl) (by kernel_rfl) (eff_lookupS (p := (oh, oid)) nameKey (h.fetch (MapS b40 .i64 .u64 kva cka)) Tryz.underlying135 Tryz.zeroValue3 rfl rfl hsg) rfl rfl ?_)
   rintro _ w ⟨rfl, h⟩
   refine ⟨⟨(h.rowV (n := 5) rfl), trivial⟩, ?_⟩
   refine WT.pure 10 rfl (by kernel_rfl) (fun w' => (run_indexAddr Tryz.underlying112 Tryz.sizeOf36 rfl rfl (by omega) (by omega))) rfl rfl (WT.loadN 11 rfl (by kernel_rfl) Tryz.isAgg36 Tryz.sizeOf36 rfl rfl ((h.cellsO (v := .slice (some ⟨bn, on, none⟩) xs.length xs.length)).elem (i := i) (vs := [.int .i64 rst, .int .i64 rky, .int .i64 rco, .slice ad2 rda.length cd2, .int .i64 rin]) hixs hrow2) rfl rfl (WT.eff 12 [false, false] rfl (by kernel_rfl) (by kernel_rfl) (eff_call Tryz.call28 (usame_ok (s1 := ost) (k1 := oky) (c1 := oco) (i1 := oin) (d1 := obs) (s2 := rst) (k2 := rky) (c2 := rco) (i2 := rin) (d2 := rda) h (Gives.to hbO) (Gives.to (T := Pool pool :: L) (Gives.pool hpr)))) rfl rfl ?_))
   rintro _ w ⟨hv, h⟩
   have hcs := Bool.eq_false_or_eq_true (decide ((⟨ost, oky, oco, obs, oin⟩ : Rp) = (⟨rst, rky, rco, rda, rin⟩ : Rp)))
   rcases hcs with hsm | hsm <;> (rw [hsm] at hv; subst hv)
   all_goals (refine ⟨trivial, ?_⟩)
   ·
    refine WT.done (by kernel_rfl) (W.condT rfl (W.exit (W.region (WL.val (run_incN rfl rfl (by omega)) rfl rfl (WL.val run_move rfl rfl (WL.nil ?_))))))
    exact ⟨q + 1, ⟨by omega, _, by rw [← sameM_step hq (by rw [hrg]; exact of_decide_eq_true hsm)]; exact hX, mkE_of ⟨rfl, rfl, rfl, rfl, rfl, trivial⟩, h.to⟩, by show out.length - (q + 1) < out.length - q; omega⟩
   refine WT.done (by kernel_rfl) (W.condF rfl (W.skip (W.seq (W.region (WL.val run_move rfl rfl (WL.val run_assign rfl rfl (WL.val run_assign rfl rfl ?_)))))))
   refine WL.nil (W.ret (bodyQ.r2 (v1 := .int .i64 _) (v2 := .int .i64 _) Tryz.results25 rfl rfl ?_))
   rw [sameM_stop hq (by rw [hrg]; exact of_decide_eq_false hsm)] at hX
   rw [hc, ← hX]
   exact ⟨rfl, h.to⟩
  refine W.exit (W.seq (W.region (WL.val run_assign rfl rfl (WL.val run_assign rfl rfl (WL.nil (W.ret (bodyQ.r2 (v1 := .int .i64 _) (v2 := .int .i64 _) Tryz.results25 rfl rfl ?_)))))))
  have ob_ : q = out.length := by omega
  obtain rfl := ob_
  rw [List.drop_length] at hX
  rw [hc, ← hX]
  exact ⟨rfl, h.to⟩

end Go.Proofs.YtdpakoefdpmebaaGreat
