/-
  A unit: a unit written: the contracts. Lines of walks printed by a program of the prover's.
-/
import Derived.Test.YtdpakoefdpmebaaGreatUnit10
namespace Go.Proofs.YtdpakoefdpmebaaGreat
open Go Go.Sl Go.Sl.BitM Go.Sl.SpM Go.Sl.RsM Go.Sl.ByM Go.Sl.UnM
set_option linter.unusedVariables false
set_option linter.unusedSimpArgs false
set_option maxHeartbeats 1000000
set_option maxRecDepth 8000
variable {W0 w : World} {L F : List HProp}

theorem uencode_ok {bu : Nat} {u : Un} {pool : PoolL} {ms : List Nat} (hcap : capS u.s) (hT : okT u.t) (hG : ∀ i, i < 8 → okG (u.guest i) ∧ (u.guest i).done.length ≤ 1) (h0 : (SpM.encS u.s).length ≤ 10000000000) (h : On W0 (UnP 84 146 152 bu pool ms u :: Pool pool :: L) w) : Calls Tryz.prog 27 #[.pointer (some ⟨bu, 0, none⟩)] w (Ret fun v w' => ∃ a, v = .slice a (encU u (SpM.encS u.s)).length (encU u (SpM.encS u.s)).length ∧ On W0 (OwnB (.slice a (encU u (SpM.encS u.s)).length (encU u (SpM.encS u.s)).length) (encU u (SpM.encS u.s)) :: UnP 84 146 152 bu pool ms u :: Pool pool :: L) w') := by
  refine enter Tryz.func27 rfl Tryz.ntmps27 rfl ?_
  have hmx := maxLen_eq
  have ob_ := openU h
  obtain ⟨bs, bt, gs, hm, hl, h⟩ := ob_
  have hgl : gs.length = 8 := by rw [← hl, ← hm.1, List.length_map]
  have hrl : (gs.flatMap GX.row).length = 24 := by rw [rows_len, hgl]
  have hv24 : ((ucells bs bt gs).drop (0 + 2)).take 24 = gs.flatMap GX.row := by show (gs.flatMap GX.row).take 24 = _; exact List.take_of_length_le (by omega)
  have hp1 : (partB [] (SpM.encS u.s)).length = 4 + (SpM.encS u.s).length := by unfold partB; simp only [List.length_append, be_length, List.length_nil, Nat.zero_add]
  have htl : (encT u.t).length = 70 := by unfold encT; rw [List.length_append, encTK_len]; rfl
  have hkl := encUK_len (u := u) (s0 := (SpM.encS u.s)) hG
  refine W.seq ?_
  refine W.region ?_
  refine WL.val run_assign rfl rfl ?_
  refine WL.nil ?_
  refine W.seq ?_
  refine W.draw Tryz.follows h (fun w h => ?_)
  refine WT.pure 0 rfl (by kernel_rfl) (fun w' => run_move) rfl rfl ?_
  refine WT.pure 1 rfl (by kernel_rfl) (fun w' => (run_nilCheck rfl)) rfl rfl ?_
  refine WT.pure 2 rfl (by kernel_rfl) (fun w' => (run_fieldAddr 0 Tryz.underlying84 rfl Tryz.sizeOf73 rfl rfl)) rfl rfl ?_
  refine WT.load1 3 rfl (by kernel_rfl) Tryz.isAgg73 rfl (h.cellB rfl) rfl rfl ?_
  refine WT.pure 6 rfl (by kernel_rfl) (fun w' => run_move) rfl rfl ?_
  refine WT.pure 7 rfl (by kernel_rfl) (fun w' => (run_nilCheck rfl)) rfl rfl ?_
  refine WT.pure 8 rfl (by kernel_rfl) (fun w' => (run_fieldAddr 1 Tryz.underlying84 rfl Tryz.sizeOf76 rfl rfl)) rfl rfl ?_
  refine WT.load1 9 rfl (by kernel_rfl) Tryz.isAgg76 rfl (h.cellB rfl) rfl rfl ?_
  refine WT.eff 4 [true, false] rfl (by kernel_rfl) (by kernel_rfl) (eff_call Tryz.call76 (sencode_ok (b := bs) hcap (h.fetch (SpP 146 bs u.s)))) rfl rfl ?_
  rintro _ w ⟨a10, rfl, h⟩
  refine ⟨⟨h.cellB rfl, trivial⟩, ?_⟩
  refine WT.eff 5 [true] rfl (by kernel_rfl) (by kernel_rfl) (eff_call Tryz.call75 (upart_ok (ab := none) (cb := 0) (bs := []) (vs := (SpM.encS u.s)) (by decide) (by omega) h Gives.nilB (Gives.ownO (v := .slice a10 (SpM.encS u.s).length (SpM.encS u.s).length)))) rfl rfl ?_
  rintro _ w ⟨a11, c11, rfl, h⟩
  refine ⟨⟨h.cellB rfl, trivial⟩, ?_⟩
  refine WT.eff 10 [false] rfl (by kernel_rfl) (by kernel_rfl) (eff_call Tryz.call77 (rencode_ok (b := bt) hT (h.fetch (blk bt u.t.cells 152)))) rfl rfl ?_
  rintro _ w ⟨a16, c16, rfl, h⟩
  refine ⟨trivial, ?_⟩
  refine WT.eff 11 [] rfl (by kernel_rfl) (by kernel_rfl) (eff_call Tryz.call75 (upart_ok (bs := (partB [] (SpM.encS u.s))) (vs := encT u.t) (by omega) (by omega) h (Gives.ownO (v := .slice a11 (partB [] (SpM.encS u.s)).length c11)) (Gives.ownO (v := .slice a16 (encT u.t).length c16)))) rfl rfl ?_
  rintro _ w ⟨a17, c17, rfl, h⟩
  have h : On W0 (OwnB (.slice a17 (encUK u (SpM.encS u.s) 0).length c17) (encUK u (SpM.encS u.s) 0) :: _) w := h
  refine ⟨trivial, ?_⟩
  refine WT.pure 12 rfl (by kernel_rfl) (fun w' => run_assign) rfl rfl ?_
  refine WT.done (by kernel_rfl) ?_
  refine W.seq ?_
  refine W.seq ?_
  refine W.region ?_
  refine WL.val run_move rfl rfl ?_
  refine WL.val (run_nilCheck rfl) rfl rfl ?_
  refine WL.val (run_fieldAddr 2 Tryz.underlying84 rfl Tryz.sizeOf82 rfl rfl) rfl rfl ?_
  refine WL.val (run_loadB (vs := gs.flatMap GX.row) h Tryz.isAgg82 Tryz.sizeOf82 rfl hv24 hrl) rfl rfl ?_
  refine WL.val run_move rfl rfl ?_
  refine WL.nil ?_
  refine W.block ?_
  refine W.loop (fun (k : Nat) env w => k ≤ 8 ∧ ∃ (j : Env) (ao : Option Addr) (co : Nat), env = mkE j [(3, .slice ao (encUK u (SpM.encS u.s) k).length co), (21, .agg (gs.flatMap GX.row).toArray), (22, .int .i64 (k : Int))] ∧ On W0 (OwnB (.slice ao (encUK u (SpM.encS u.s) k).length co) (encUK u (SpM.encS u.s) k) :: blk bu (ucells bs bt gs) 84 :: SpP 146 bs u.s :: blk bt u.t.cells 152 :: Big (GOwn pool) gs :: Pool pool :: L) w) (fun k => 8 - k) (0) ?_ ?_
  · exact ⟨Nat.zero_le _, _, a17, c17, mkE_of ⟨rfl, rfl, rfl, trivial⟩, h.to⟩
  · rintro k env w ⟨hk8, j, ao, co, rfl, h⟩
    have hlk := hkl k hk8
    refine W.seq ?_
    refine W.region ?_
    refine WL.val (run_lss rfl rfl) rfl rfl ?_
    refine WL.nil ?_
    refine W.seq ?_
    refine W.condIf rfl (fun c6 => ?_) (fun c6 => ?_)
    · skip
      refine W.skip ?_
      refine W.seq ?_
      have hk7 : k < 8 := by omega
      have ob_ := row_of hm hl hk7
      obtain ⟨g, hg, hgu⟩ := ob_
      have hgk := hG k hk7
      rw [← hgu] at hgk
      obtain ⟨hgk, hg1⟩ := hgk
      obtain ⟨⟨codes, floor, done⟩, ga, gc, gmb, gck, gkvs⟩ := g
      have ob_ := Int.eq_ofNat_of_zero_le (show 0 ≤ floor from hgk.2.2.1)
      obtain ⟨fl, hfl⟩ := ob_
      subst hfl
      have hig : k < gs.length := by omega
      have hrow := drop_flatMap GX.row 3 (fun _ => rfl) gs _ _ hg
      have h := Big.open hg (h.fetch (Big (GOwn pool) gs))
      have ob_ := openG h
      obtain ⟨hok, h⟩ := ob_
      have h : On W0 (Own 1 (.slice ga codes.length gc) codes.length (cV codes) :: MapC gmb .u64 gkvs gck :: _) w := h
      have hgl2 : (guestB (⟨codes, ((fl : Nat) : Int), done⟩ : Gs)).length ≤ 30100 := guestB_len hgk hg1
      refine W.block ?_
      refine W.seq ?_
      refine W.region ?_
      refine WL.val (run_indexArrN (size := 3) (i := k) (vs := [.slice ga codes.length gc, .int .u64 ((fl : Nat) : Int), .map (some gmb)]) Tryz.underlying82 Tryz.sizeOf81 Tryz.isAgg81 rfl rfl hk7 hrow) rfl rfl ?_
      refine WL.eff (eff_alloc h Tryz.zeroValue81 rfl) rfl rfl ?_
      rintro _ w ⟨b5, rfl, h⟩
      refine WL.eff (eff_storeN (vs := [.slice _ _ _, .int .u64 _, .map _]) h Tryz.sizeOf81 rfl rfl rfl rfl rfl (fun k _ _ => free0 k)) rfl rfl ?_
      rintro _ w h
      try simp only [splice, List.take_zero, List.take_succ_cons, List.take_nil, List.drop_succ_cons, List.drop_zero, List.drop_nil, List.nil_append, List.cons_append, List.append_nil, List.length_cons, List.length_nil, Nat.zero_add, Nat.reduceAdd] at h
      refine WL.nil ?_
      refine W.region ?_
      refine WL.val run_move rfl rfl ?_
      refine WL.val (run_loadB (vs := [.slice _ _ _, .int .u64 _, .map _]) h Tryz.isAgg81 Tryz.sizeOf81 rfl rfl rfl) rfl rfl ?_
      refine WL.eff (eff_call Tryz.call78 (gwrite_ok (codes := codes) (fl := fl) (done := done) (ga := ga) (gc := gc) (mb := gmb) (ck := gck) (kvs := gkvs) (pool := pool) hok hgk hg1 (((h.fetch (Pool pool)).fetch (MapC gmb .u64 gkvs gck)).fetch (Own 1 (.slice ga codes.length gc) codes.length (cV codes))))) rfl rfl ?_
      rintro _ w ⟨a27, c27, rfl, h⟩
      refine WL.eff (eff_call Tryz.call75 (upart_ok (bs := (encUK u (SpM.encS u.s) k)) (vs := guestB (⟨codes, ((fl : Nat) : Int), done⟩ : Gs)) (by omega) (by omega) h (Gives.ownO (v := .slice ao (encUK u (SpM.encS u.s) k).length co)) (Gives.ownO (v := .slice a27 (guestB (⟨codes, ((fl : Nat) : Int), done⟩ : Gs)).length c27)))) rfl rfl ?_
      rintro _ w ⟨a28, c28, rfl, h⟩
      refine WL.val run_assign rfl rfl ?_
      refine WL.nil ?_
      refine W.region ?_
      refine WL.val (run_incN rfl rfl (by omega)) rfl rfl ?_
      refine WL.val run_move rfl rfl ?_
      refine WL.nil ?_
      -- round, path LT
      have e : partB (encUK u (SpM.encS u.s) k) (guestB (⟨codes, ((fl : Nat) : Int), done⟩ : Gs)) = (encUK u (SpM.encS u.s) (k + 1)) := by show _ = partB _ (guestB (u.guest k)); rw [← hgu]
      rw [e] at h
      have h := Big.close (y := (⟨⟨codes, ((fl : Nat) : Int), done⟩, ga, gc, gmb, gck, gkvs⟩ : GX)) hig (closeG (g := (⟨⟨codes, ((fl : Nat) : Int), done⟩, ga, gc, gmb, gck, gkvs⟩ : GX)) hok (((h.fetch (Big (GOwn pool) (gs.eraseIdx k))).fetch (MapC gmb .u64 gkvs gck)).fetch (Own 1 (.slice ga codes.length gc) codes.length (cV codes))))
      rw [set_same hg] at h
      exact ⟨k + 1, ⟨by omega, _, a28, c28, mkE_of ⟨congrArg (fun q : List UInt8 => Value.slice a28 q.length c28) e, rfl, rfl, trivial⟩, h.to⟩, by show 8 - (k + 1) < 8 - k; omega⟩
    · skip
      refine W.exit ?_
      refine W.seq ?_
      have ob_ : k = 8 := by omega
      obtain rfl := ob_
      refine W.region ?_
      refine WL.val run_move rfl rfl ?_
      refine WL.eff (eff_call Tryz.call79 (clip_bytes h)) rfl rfl ?_
      rintro _ w ⟨rfl, h⟩
      refine WL.val run_assign rfl rfl ?_
      refine WL.nil ?_
      refine W.ret ?_
      refine bodyQ.r1 (v := .slice _ _ _) Tryz.results27 rfl ?_
      -- path LF
      have h3 := closeU (bu := bu) (u := u) hm hl ((((h.fetch (Big (GOwn pool) gs)).fetch (blk bt u.t.cells 152)).fetch (SpP 146 bs u.s)).fetch (blk bu (ucells bs bt gs) 84))
      have h3 : On W0 (OwnB (.slice ao (encU u (SpM.encS u.s)).length (encU u (SpM.encS u.s)).length) (encU u (SpM.encS u.s)) :: _) w := h3.fetch (Own 1 (.slice ao (encUK u (SpM.encS u.s) 8).length (encUK u (SpM.encS u.s) 8).length) (encUK u (SpM.encS u.s) 8).length (bytesV (encUK u (SpM.encS u.s) 8)))
      exact ⟨ao, rfl, h3.to⟩

end Go.Proofs.YtdpakoefdpmebaaGreat
