/-
  A unit: a unit read: the contracts. Lines of walks printed by a program of the prover's.
-/
import Derived.Test.YtdpakoefdpmebaaGreatUnit15
import Derived.Test.YtdpakoefdpmebaaGreatUnitMix
namespace Go.Proofs.YtdpakoefdpmebaaGreat
open Go Go.Sl Go.Sl.BitM Go.Sl.SpM Go.Sl.RsM Go.Sl.ByM Go.Sl.UnM
set_option linter.unusedVariables false
set_option linter.unusedSimpArgs false
set_option maxHeartbeats 1000000
set_option maxRecDepth 8000
variable {W0 w : World} {L F : List HProp}

theorem udecode_ok [tF : To L F] {cb0 : Nat} {ab0 : Option Addr} {b : List UInt8} (hb : b.length ≤ 100000) (hE : ∀ u, decU0 b = some u → ∀ i, i < 8 → okG (u.guest i) ∧ (u.guest i).done.length ≤ 1) (h : On W0 L w) (C0 : Gives F (Bytes (.slice ab0 b.length cb0) b)) : Calls Tryz.prog 12 #[.slice ab0 b.length cb0] w (Ret fun v w' => (∃ u bu ms pool, decU b = some u ∧ v = .tuple #[.pointer (some ⟨bu, 0, none⟩), .int .i64 0] ∧ On W0 (UnP 84 146 152 bu pool ms u :: Pool pool :: L) w') ∨ (decU b = none ∧ v = .tuple #[.pointer none, .int .i64 2] ∧ On W0 L w')) := by
  refine enter Tryz.func12 rfl Tryz.ntmps12 rfl ?_
  have hmx := maxLen_eq
  refine W.seq ?_
  refine W.region ?_
  refine WL.val run_assign rfl rfl ?_
  refine WL.val run_assign rfl rfl ?_
  refine WL.nil ?_
  refine W.scope ?_
  refine W.seq ?_
  refine W.region ?_
  refine WL.val run_move rfl rfl ?_
  refine WL.val (run_buildS (pl := [(0, 1), (1, 1)]) (out := [.slice _ _ _, .bool _]) Tryz.underlying72 Tryz.zeroValue72 (fun w => by kernel_rfl) rfl (⟨⟨_, _, rfl, rfl, by decide⟩, trivial⟩) rfl) rfl rfl ?_
  refine WL.eff (eff_box (v := .agg _) (l := [.slice ab0 b.length cb0, .bool false]) h rfl rfl) rfl rfl ?_
  rintro _ w ⟨b14, rfl, h⟩
  have h : On W0 (blk b14 [.slice ab0 (b, false).1.length cb0, .bool (b, false).2] 72 :: L) w := h
  have C : Gives F (Bytes (.slice ab0 (b, false).1.length cb0) (b, false).1) := C0
  have q0 := rdP_len (s := (b, false))
  have q1 := rdP_len (s := (rdP (b, false)).2)
  have hb2 : (b, false).1.length ≤ 100000 := hb
  refine WL.val run_assign rfl rfl ?_
  refine WL.nil ?_
  refine W.seq ?_
  refine W.region ?_
  refine WL.val run_move rfl rfl ?_
  refine WL.eff (eff_call Tryz.call30 (rprt_ok (F := F) (s := (b, false)) (h.fetch (blk b14 [.slice ab0 (b, false).1.length cb0, .bool (b, false).2] 72)) C)) rfl rfl ?_
  rintro _ w ⟨a1, c1, ab, cb, C1, C, rfl, h⟩
  refine WL.eff (eff_call Tryz.call29 (sdecode_ok (F := F) (b := (rdP (b, false)).1) (by omega) h C1)) rfl rfl ?_
  rintro _ w hv
  rcases hv with ⟨s, bs, hds, hcap, rfl, h⟩ | ⟨hds, rfl, h⟩
  · skip
    refine WL.val run_move rfl rfl ?_
    refine WL.val (run_extract rfl rfl) rfl rfl ?_
    refine WL.val (run_extract rfl rfl) rfl rfl ?_
    refine WL.val run_assign rfl rfl ?_
    refine WL.val run_assign rfl rfl ?_
    refine WL.nil ?_
    refine W.seq ?_
    refine W.region ?_
    refine WL.val run_move rfl rfl ?_
    refine WL.eff (eff_call Tryz.call30 (rprt_ok (F := F) (s := (rdP (b, false)).2) (h.fetch (blk b14 [.slice ab (rdP (b, false)).2.1.length cb, .bool (rdP (b, false)).2.2] 72)) C)) rfl rfl ?_
    rintro _ w ⟨a1, c1, ab, cb, C1, C, rfl, h⟩
    refine WL.eff (eff_call Tryz.call31 (rdecode_ok (F := F) (b := (rdP (rdP (b, false)).2).1) (by omega) h C1)) rfl rfl ?_
    rintro _ w hv
    rcases hv with ⟨t, bt, hdt, rfl, h⟩ | ⟨hdt, rfl, h⟩
    · skip
      refine WL.val run_move rfl rfl ?_
      refine WL.val (run_extract rfl rfl) rfl rfl ?_
      refine WL.val (run_extract rfl rfl) rfl rfl ?_
      refine WL.val run_assign rfl rfl ?_
      refine WL.val run_assign rfl rfl ?_
      refine WL.nil ?_
      refine W.seq ?_
      refine W.seq ?_
      refine W.region ?_
      refine WL.val run_move rfl rfl ?_
      refine WL.val (run_neqF rfl rfl (by decide)) rfl rfl ?_
      refine WL.val run_move rfl rfl ?_
      refine WL.val run_move rfl rfl ?_
      refine WL.val (run_neqF rfl rfl (by decide)) rfl rfl ?_
      refine WL.val (run_pickF rfl) rfl rfl ?_
      refine WL.nil ?_
      refine W.condF rfl ?_
      refine W.skip ?_
      refine W.seq ?_
      have hwf := On.wfS (h.fetch (SpP 146 bs s))
      refine W.region ?_
      refine WL.val run_move rfl rfl ?_
      refine WL.eff (eff_call Tryz.call32 (blocks_ok (h.fetch (SpP 146 bs s)))) rfl rfl ?_
      rintro _ w ⟨rfl, h⟩
      refine WL.eff (eff_call Tryz.call15 (unewR_ok (pool := []) (n := (s.N : Int)) h)) rfl rfl ?_
      rintro _ w hv
      rcases hv with ⟨N, hN, h1N, hN2, bu, bs0, bt0, mbs, hml, rfl, h⟩ | ⟨hno, _, _⟩
      rotate_left
      · exact absurd (show _ by have := hwf.2.1; have := hwf.2.2.1; omega) hno
      have h := h.pool0
      refine WL.val run_move rfl rfl ?_
      refine WL.val (run_extract rfl rfl) rfl rfl ?_
      refine WL.val (run_extract rfl rfl) rfl rfl ?_
      refine WL.val run_assign rfl rfl ?_
      refine WL.val run_assign rfl rfl ?_
      refine WL.nil ?_
      refine W.seq ?_
      refine W.region ?_
      refine WL.val run_move rfl rfl ?_
      refine WL.val run_move rfl rfl ?_
      refine WL.val run_move rfl rfl ?_
      refine WL.val run_move rfl rfl ?_
      refine WL.val (run_nilCheck rfl) rfl rfl ?_
      refine WL.val (run_fieldAddr 0 Tryz.underlying84 rfl Tryz.sizeOf73 rfl rfl) rfl rfl ?_
      refine WL.eff (eff_store (v := .pointer _) h Tryz.sizeOf73 rfl rfl rfl rfl rfl) rfl rfl ?_
      rintro _ w h
      try simp only [Nat.zero_add, Nat.add_zero, List.set_cons_zero, List.set_cons_succ] at h
      refine WL.val (run_nilCheck rfl) rfl rfl ?_
      refine WL.val (run_fieldAddr 1 Tryz.underlying84 rfl Tryz.sizeOf76 rfl rfl) rfl rfl ?_
      refine WL.eff (eff_store (v := .pointer _) h Tryz.sizeOf76 rfl rfl rfl rfl rfl) rfl rfl ?_
      rintro _ w h
      try simp only [Nat.zero_add, Nat.add_zero, List.set_cons_zero, List.set_cons_succ] at h
      refine WL.nil ?_
      refine W.seq ?_
      refine W.label ?_
      refine W.cut (fun env w => ∃ (j : Env) (gs : List GX) (pool : PoolL) (vr : Value) (r : Bool), gs.length = 8 ∧ ((r = true ∧ decU0 b = none) ∨ (r = false ∧ decU0 b = some ⟨s, t, gs.map (·.s)⟩)) ∧ env = mkE j [(0, .slice ab0 b.length cb0), (4, .pointer (some ⟨b14, 0, none⟩)), (9, .pointer (some ⟨bu, 0, none⟩))] ∧ On W0 (blk bu (ucells bs bt gs) 84 :: SpP 146 bs s :: blk bt t.cells 152 :: Big (GOwn pool) gs :: Pool pool :: blk b14 [vr, .bool r] 72 :: L) w) ?_ ?_
      · skip
        refine W.seq ?_
        refine W.region ?_
        refine WL.val run_move rfl rfl ?_
        refine WL.nil ?_
        refine W.block ?_
        refine W.loop (fun (k : Nat) env w => k ≤ 8 ∧ ∃ (j : Env) (ab : Option Addr) (cb : Nat) (st : RS) (gl : List Gs) (gd : List GX) (pool : PoolL), gd.length = k ∧ gd.map (·.s) = gl ∧ Gives F (Bytes (.slice ab st.1.length cb) st.1) ∧ st.1.length ≤ 100000 ∧ rdGs (8 - k) st gl = rdGs 8 (rdP (rdP (b, false)).2).2 [] ∧ env = mkE j [(0, .slice ab0 b.length cb0), (4, .pointer (some ⟨b14, 0, none⟩)), (9, .pointer (some ⟨bu, 0, none⟩)), (47, .int .i64 (k : Int))] ∧ On W0 (blk bu (ucells bs bt (mix gd mbs k)) 84 :: SpP 146 bs s :: blk bt t.cells 152 :: Big (GOwn pool) (mix gd mbs k) :: Pool pool :: blk b14 [.slice ab st.1.length cb, .bool st.2] 72 :: L) w) (fun k => 8 - k) (0) ?_ ?_
        · have h : On W0 (blk bu (ucells bs bt (mix [] mbs 0)) 84 :: _) w := h.fetch (blk bu (ucells bs bt (mbs.map zG)) 84)
          have h : On W0 (Big (GOwn []) (mix [] mbs 0) :: _) w := h.fetch (Big (GOwn []) (mbs.map zG))
          exact ⟨Nat.zero_le _, _, ab, cb, (rdP (rdP (b, false)).2).2, [], [], [], rfl, rfl, C, by have := q1.2; have := q0.2; omega, rfl, mkE_of ⟨rfl, rfl, rfl, rfl, trivial⟩, h.to⟩
        · clear h C
          rintro k env w ⟨hk8, j, ab, cb, st, gl, gd, pool, hgl, hgm, C, hsl, hX, rfl, h⟩
          refine W.seq ?_
          refine W.region ?_
          refine WL.val (run_lss rfl rfl) rfl rfl ?_
          refine WL.nil ?_
          refine W.seq ?_
          refine W.condIf rfl (fun c17 => ?_) (fun c17 => ?_)
          · skip
            refine W.skip ?_
            refine W.seq ?_
            have hk7 : k < 8 := by omega
            have ob_ : ∃ mb, mbs[k]? = some mb := ⟨mbs[k]'(by omega), by simp⟩
            obtain ⟨mb, hmb⟩ := ob_
            have hg := mix_get hgl hmb
            have hig : k < (mix gd mbs k).length := (List.getElem?_eq_some_iff.1 hg).1
            have h := Big.open hg (h.fetch (Big (GOwn pool) (mix gd mbs k)))
            have ob_ := openG h
            obtain ⟨_, h⟩ := ob_
            have h : On W0 (CodesO (zG mb) :: MapC mb .u64 [] 0 :: _) w := h
            have h8 : 8 - k = 8 - (k + 1) + 1 := by omega
            rw [h8] at hX
            refine W.block ?_
            refine W.seq ?_
            refine W.region ?_
            refine WL.val run_move rfl rfl ?_
            refine WL.val run_assign rfl rfl ?_
            refine WL.nil ?_
            refine W.seq ?_
            refine W.draw Tryz.follows h (fun w h => ?_)
            refine WT.pure 0 rfl (by kernel_rfl) (fun w' => run_move) rfl rfl ?_
            refine WT.pure 1 rfl (by kernel_rfl) (fun w' => run_move) rfl rfl ?_
            refine WT.pure 2 rfl (by kernel_rfl) (fun w' => (run_nilCheck rfl)) rfl rfl ?_
            refine WT.pure 3 rfl (by kernel_rfl) (fun w' => (run_fieldAddr 2 Tryz.underlying84 rfl Tryz.sizeOf82 rfl rfl)) rfl rfl ?_
            refine WT.pure 4 rfl (by kernel_rfl) (fun w' => (run_indexAddrArr Tryz.underlying82 Tryz.sizeOf81 rfl rfl (by omega) (by omega))) rfl rfl ?_
            refine WT.pure 5 rfl (by kernel_rfl) (fun w' => run_move) rfl rfl ?_
            refine WT.eff 6 [] rfl (by kernel_rfl) (by kernel_rfl) (eff_call Tryz.call30 (rprt_ok (F := F) (s := st) (h.fetch (blk b14 [.slice ab st.1.length cb, .bool st.2] 72)) C)) rfl rfl ?_
            rintro _ w ⟨a1, c1, ab, cb, C1, C, rfl, h⟩
            refine ⟨trivial, ?_⟩
            refine WT.eff 7 [] rfl (by kernel_rfl) (by kernel_rfl) (eff_call Tryz.call33 (gread_ok (F := F) (bu := bu) (bs := bs) (bt := bt) (i := k) (mb := mb) (gs := mix gd mbs k) (pool := pool) (b := (rdP st).1) hg (by have := (rdP_len (s := st)).1; omega) (((h.fetch (Pool pool)).fetch (blk bu (ucells bs bt (mix gd mbs k)) 84)).fetch (MapC mb .u64 [] 0)) C1)) rfl rfl ?_
            rintro _ w ⟨a, c, ck, kvs, pool2, hok2, hps, rfl, h⟩
            have h := (h.fetch (Big (GOwn pool) ((mix gd mbs k).eraseIdx k))).head (big_mono (fun x hh => GOwn_sub hps) _)
            have h := Big.close (y := (⟨(readG (rdP st).1).2, a, c, mb, ck, kvs⟩ : GX)) hig (closeG (g := (⟨(readG (rdP st).1).2, a, c, mb, ck, kvs⟩ : GX)) hok2 (((h.fetch (Big (GOwn pool2) ((mix gd mbs k).eraseIdx k))).fetch (MapC mb .u64 kvs ck)).fetch (Own 1 (.slice a (readG (rdP st).1).2.codes.length c) (readG (rdP st).1).2.codes.length (cV (readG (rdP st).1).2.codes))))
            rw [mix_set hgl hmb] at h
            refine ⟨trivial, ?_⟩
            refine WT.pure 8 rfl (by kernel_rfl) (fun w' => (run_not rfl)) rfl rfl ?_
            refine WT.done (by kernel_rfl) ?_
            refine W.condB rfl (fun c23 => ?_) (fun c23 => ?_)
            · skip
              refine W.seq ?_
              refine W.region ?_
              refine WL.val run_move rfl rfl ?_
              refine WL.val (run_nilCheck rfl) rfl rfl ?_
              refine WL.val (run_fieldAddr 1 Tryz.underlying72 rfl Tryz.sizeOf4 rfl rfl) rfl rfl ?_
              refine WL.eff (eff_store (v := .bool _) h Tryz.sizeOf4 rfl rfl rfl rfl rfl) rfl rfl ?_
              rintro _ w h
              try simp only [Nat.zero_add, Nat.add_zero, List.set_cons_zero, List.set_cons_succ] at h
              refine WL.nil ?_
              refine W.exit ?_
              -- to the cut, path TTLTT
              have hno : ¬ (readG (rdP st).1).1 = true := by intro e; rw [e] at c23; cases c23
              rw [rdGs_stop hno] at hX
              exact ⟨_, mix (gd ++ [⟨(readG (rdP st).1).2, a, c, mb, ck, kvs⟩]) mbs (k + 1), pool2, .slice ab (rdP st).2.1.length cb, true, by show (gd ++ [_] ++ (mbs.drop (k + 1)).map zG).length = 8; rw [List.length_append, List.length_append, List.length_map, List.length_drop, hgl, hml]; show k + 1 + _ = 8; omega, .inl ⟨rfl, decU0_none hds hdt hX⟩, mkE_of ⟨rfl, rfl, rfl, trivial⟩, h.to⟩
            · skip
              refine W.skip ?_
              refine W.region ?_
              refine WL.val (run_add rfl rfl (by omega) (by omega)) rfl rfl ?_
              refine WL.val run_move rfl rfl ?_
              refine WL.nil ?_
              -- round, path TTLTF
              have hyes : (readG (rdP st).1).1 = true := by simpa using c23
              rw [rdGs_step hyes] at hX
              exact ⟨k + 1, ⟨by omega, _, ab, cb, _, _, gd ++ [⟨(readG (rdP st).1).2, a, c, mb, ck, kvs⟩], pool2, by rw [List.length_append, hgl]; rfl, by rw [List.map_append, hgm]; rfl, C, by have := (rdP_len (s := st)).2; omega, hX, mkE_of ⟨rfl, rfl, rfl, rfl, trivial⟩, h.to⟩, by show 8 - (k + 1) < 8 - k; omega⟩
          · skip
            refine W.exit ?_
            -- to the cut, path TTLF
            have ob_ : k = 8 := by omega
            obtain rfl := ob_
            have e8 : mix gd mbs 8 = gd := by show gd ++ (mbs.drop 8).map zG = gd; rw [List.drop_eq_nil_of_le (by omega)]; exact List.append_nil _
            rw [e8] at h
            have hX8 : some (st, gl) = rdGs 8 (rdP (rdP (b, false)).2).2 [] := hX
            refine ⟨_, gd, pool, .slice ab st.1.length cb, st.2, hgl, ?_, mkE_of ⟨rfl, rfl, rfl, trivial⟩, h.to⟩
            have hd0 := decU0_some hds hdt hX8
            rw [hgm, hd0]
            cases st.2 with
            | true => exact .inl ⟨rfl, rfl⟩
            | false => exact .inr ⟨rfl, rfl⟩
      · clear h C
        rintro env w ⟨j, gs, pool, vr, r, hgl, hcs, rfl, h⟩
        refine W.seq ?_
        refine W.seq ?_
        refine W.region ?_
        refine WL.val run_move rfl rfl ?_
        refine WL.val (run_nilCheck rfl) rfl rfl ?_
        refine WL.val (run_fieldAddr 1 Tryz.underlying72 rfl Tryz.sizeOf4 rfl rfl) rfl rfl ?_
        refine WL.boolB (run_load1 Tryz.isAgg4 rfl (h.cellB rfl)) rfl rfl (fun c66 => ?_) (fun c66 => ?_)
        · skip
          refine WL.val run_move rfl rfl ?_
          refine WL.skip rfl rfl ?_
          refine WL.skip rfl rfl ?_
          refine WL.skip rfl rfl ?_
          refine WL.skip rfl rfl ?_
          refine WL.skip rfl rfl ?_
          refine WL.val (run_pickT rfl) rfl rfl ?_
          refine WL.nil ?_
          refine W.condT rfl ?_
          refine W.seq ?_
          refine W.region ?_
          refine WL.val run_assign rfl rfl ?_
          refine WL.val run_assign rfl rfl ?_
          refine WL.nil ?_
          refine W.ret ?_
          refine bodyQ.r2 (v1 := .pointer _) (v2 := .int .i64 _) Tryz.results12 rfl rfl ?_
          -- path TTT
          rcases hcs with ⟨_, hn⟩ | ⟨hr, _⟩
          · exact .inr ⟨decU_no0 hn, rfl, h.to⟩
          · rw [c66] at hr; cases hr
        · skip
          rcases hcs with ⟨hr, _⟩ | ⟨_, hdec⟩
          · rw [c66] at hr; cases hr
          have hes := decS_enc hds
          have hq := (rdP_len (s := (b, false))).1
          have hq : (rdP (b, false)).1.length ≤ b.length := hq
          have h0 : (SpM.encS (⟨s, t, gs.map (·.s)⟩ : Un).s).length ≤ 10000000000 := by show (SpM.encS s).length ≤ _; rw [hes]; omega
          have h := closeU (bu := bu) (u := ⟨s, t, gs.map (·.s)⟩) (ms := gs.map (·.mb)) ⟨rfl, rfl⟩ (by show (gs.map _).length = 8; rw [List.length_map]; exact hgl) h
          have obU_ : ∃ U0 : Un, U0 = ⟨s, t, gs.map (·.s)⟩ := ⟨_, rfl⟩
          obtain ⟨U0, hU0⟩ := obU_
          rw [← hU0] at h h0 hdec
          have hcapU : capS U0.s := by rw [hU0]; exact hcap
          have hokU : okT U0.t := by rw [hU0]; exact decT_ok hdt
          refine WL.val run_move rfl rfl ?_
          refine WL.val run_move rfl rfl ?_
          refine WL.eff (eff_call Tryz.call27 (uencode_ok (bu := bu) (u := U0) (pool := pool) (ms := gs.map (·.mb)) hcapU hokU (hE _ hdec) h0 h)) rfl rfl ?_
          rintro v69 w ⟨a69, hv69, h⟩
          have ob_ : ∃ E, E = encU U0 (SpM.encS U0.s) := ⟨_, rfl⟩
          obtain ⟨E, hEq⟩ := ob_
          rw [← hEq] at hv69 h
          subst hv69
          refine WL.val run_move rfl rfl ?_
          refine WL.eff (eff_call Tryz.call34 (bequal_ok (bs := E) (cs := b) h (Gives.ownO (v := .slice a69 E.length E.length)) (Gives.to C0))) rfl rfl ?_
          rintro _ w ⟨hv, h⟩
          have hcs := Bool.eq_false_or_eq_true (decide (E = b))
          rcases hcs with heq | heq <;> (rw [heq] at hv; subst hv)
          · skip
            refine WL.val (run_not rfl) rfl rfl ?_
            refine WL.val (run_pickF rfl) rfl rfl ?_
            refine WL.nil ?_
            refine W.condF rfl ?_
            refine W.skip ?_
            refine W.seq ?_
            refine W.region ?_
            refine WL.val run_move rfl rfl ?_
            refine WL.val run_assign rfl rfl ?_
            refine WL.val run_assign rfl rfl ?_
            refine WL.nil ?_
            refine W.ret ?_
            refine bodyQ.r2 (v1 := .pointer _) (v2 := .int .i64 _) Tryz.results12 rfl rfl ?_
            -- path TTFT
            exact .inl ⟨U0, bu, gs.map (·.mb), pool, decU_ofE hdec hEq (of_decide_eq_true heq), rfl, h.to⟩
          · skip
            refine WL.val (run_not rfl) rfl rfl ?_
            refine WL.val (run_pickF rfl) rfl rfl ?_
            refine WL.nil ?_
            refine W.condT rfl ?_
            refine W.seq ?_
            refine W.region ?_
            refine WL.val run_assign rfl rfl ?_
            refine WL.val run_assign rfl rfl ?_
            refine WL.nil ?_
            refine W.ret ?_
            refine bodyQ.r2 (v1 := .pointer _) (v2 := .int .i64 _) Tryz.results12 rfl rfl ?_
            -- path TTFF
            exact .inr ⟨decU_noE hdec hEq (of_decide_eq_false heq), rfl, h.to⟩
    · skip
      refine WL.val run_move rfl rfl ?_
      refine WL.val (run_extract rfl rfl) rfl rfl ?_
      refine WL.val (run_extract rfl rfl) rfl rfl ?_
      refine WL.val run_assign rfl rfl ?_
      refine WL.val run_assign rfl rfl ?_
      refine WL.nil ?_
      refine W.seq ?_
      refine W.seq ?_
      refine W.region ?_
      refine WL.val run_move rfl rfl ?_
      refine WL.val (run_neqF rfl rfl (by decide)) rfl rfl ?_
      refine WL.val run_move rfl rfl ?_
      refine WL.val run_move rfl rfl ?_
      refine WL.val (run_neqT rfl rfl (by decide)) rfl rfl ?_
      refine WL.val (run_pickF rfl) rfl rfl ?_
      refine WL.nil ?_
      refine W.condT rfl ?_
      refine W.seq ?_
      refine W.region ?_
      refine WL.val run_assign rfl rfl ?_
      refine WL.val run_assign rfl rfl ?_
      refine WL.nil ?_
      refine W.ret ?_
      refine bodyQ.r2 (v1 := .pointer _) (v2 := .int .i64 _) Tryz.results12 rfl rfl ?_
      -- path TF
      exact .inr ⟨by unfold decU decU0; rw [hds, hdt]; rfl, rfl, h.to⟩
  · skip
    refine WL.val run_move rfl rfl ?_
    refine WL.val (run_extract rfl rfl) rfl rfl ?_
    refine WL.val (run_extract rfl rfl) rfl rfl ?_
    refine WL.val run_assign rfl rfl ?_
    refine WL.val run_assign rfl rfl ?_
    refine WL.nil ?_
    refine W.seq ?_
    refine W.region ?_
    refine WL.val run_move rfl rfl ?_
    refine WL.eff (eff_call Tryz.call30 (rprt_ok (F := F) (s := (rdP (b, false)).2) (h.fetch (blk b14 [.slice ab (rdP (b, false)).2.1.length cb, .bool (rdP (b, false)).2.2] 72)) C)) rfl rfl ?_
    rintro _ w ⟨a1, c1, ab, cb, C1, C, rfl, h⟩
    refine WL.eff (eff_call Tryz.call31 (rdecode_ok (F := F) (b := (rdP (rdP (b, false)).2).1) (by omega) h C1)) rfl rfl ?_
    rintro _ w hv
    rcases hv with ⟨t, bt, hdt, rfl, h⟩ | ⟨hdt, rfl, h⟩
    · skip
      refine WL.val run_move rfl rfl ?_
      refine WL.val (run_extract rfl rfl) rfl rfl ?_
      refine WL.val (run_extract rfl rfl) rfl rfl ?_
      refine WL.val run_assign rfl rfl ?_
      refine WL.val run_assign rfl rfl ?_
      refine WL.nil ?_
      refine W.seq ?_
      refine W.seq ?_
      refine W.region ?_
      refine WL.val run_move rfl rfl ?_
      refine WL.val (run_neqT rfl rfl (by decide)) rfl rfl ?_
      refine WL.val run_move rfl rfl ?_
      refine WL.skip rfl rfl ?_
      refine WL.skip rfl rfl ?_
      refine WL.val (run_pickT rfl) rfl rfl ?_
      refine WL.nil ?_
      refine W.condT rfl ?_
      refine W.seq ?_
      refine W.region ?_
      refine WL.val run_assign rfl rfl ?_
      refine WL.val run_assign rfl rfl ?_
      refine WL.nil ?_
      refine W.ret ?_
      refine bodyQ.r2 (v1 := .pointer _) (v2 := .int .i64 _) Tryz.results12 rfl rfl ?_
      -- path FT
      exact .inr ⟨by unfold decU decU0; rw [hds]; rfl, rfl, h.to⟩
    · skip
      refine WL.val run_move rfl rfl ?_
      refine WL.val (run_extract rfl rfl) rfl rfl ?_
      refine WL.val (run_extract rfl rfl) rfl rfl ?_
      refine WL.val run_assign rfl rfl ?_
      refine WL.val run_assign rfl rfl ?_
      refine WL.nil ?_
      refine W.seq ?_
      refine W.seq ?_
      refine W.region ?_
      refine WL.val run_move rfl rfl ?_
      refine WL.val (run_neqT rfl rfl (by decide)) rfl rfl ?_
      refine WL.val run_move rfl rfl ?_
      refine WL.skip rfl rfl ?_
      refine WL.skip rfl rfl ?_
      refine WL.val (run_pickT rfl) rfl rfl ?_
      refine WL.nil ?_
      refine W.condT rfl ?_
      refine W.seq ?_
      refine W.region ?_
      refine WL.val run_assign rfl rfl ?_
      refine WL.val run_assign rfl rfl ?_
      refine WL.nil ?_
      refine W.ret ?_
      refine bodyQ.r2 (v1 := .pointer _) (v2 := .int .i64 _) Tryz.results12 rfl rfl ?_
      -- path FF
      exact .inr ⟨by unfold decU decU0; rw [hds]; rfl, rfl, h.to⟩

end Go.Proofs.YtdpakoefdpmebaaGreat
