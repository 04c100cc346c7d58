/-
  A unit: commands: the contracts. Lines of walks printed by a program of the prover's.
-/
import Derived.Test.YtdpakoefdpmebaaUnit4
namespace Go.Proofs.Ytdpakoefdpmebaa
open Go Go.Sl Go.Sl.BitM Go.Sl.SpM Go.Sl.RsM Go.Sl.ByM Go.Sl.UnM
set_option linter.unusedVariables false
set_option linter.unusedSimpArgs false
set_option maxHeartbeats 1000000
set_option maxRecDepth 8000
variable {W0 w : World} {L F : List HProp}

theorem uhost_ok {x : Int} (h : On W0 L w) : Calls Try.prog 18 #[.int .i64 x] w (Ret fun v w' => v = .bool (hostB x) ∧ On W0 L w') := by
  refine enter Try.func18 rfl Try.ntmps18 rfl ?_
  refine W.seq ?_
  refine W.region ?_
  refine WL.val run_assign rfl rfl ?_
  refine WL.nil ?_
  refine W.seq ?_
  refine W.region ?_
  refine WL.val run_move rfl rfl ?_
  refine WL.dec (run_geq rfl rfl) rfl rfl (fun c4 => ?_) (fun c4 => ?_)
  · skip
    refine WL.val run_move rfl rfl ?_
    refine WL.val run_move rfl rfl ?_
    refine WL.dec (run_lss rfl rfl) rfl rfl (fun c7 => ?_) (fun c7 => ?_)
    · skip
      refine WL.val (run_pickT rfl) rfl rfl ?_
      refine WL.val run_assign rfl rfl ?_
      refine WL.nil ?_
      refine W.ret ?_
      refine bodyQ.r1 (v := .bool _) Try.results18 rfl ?_
      -- path TT
      exact ⟨by rw [hostB_iff.2 ⟨by omega, by omega⟩], h⟩
    · skip
      refine WL.val (run_pickT rfl) rfl rfl ?_
      refine WL.val run_assign rfl rfl ?_
      refine WL.nil ?_
      refine W.ret ?_
      refine bodyQ.r1 (v := .bool _) Try.results18 rfl ?_
      -- path TF
      exact ⟨by rw [hostB_no.2 (by omega)], h⟩
  · skip
    refine WL.val run_move rfl rfl ?_
    refine WL.skip rfl rfl ?_
    refine WL.skip rfl rfl ?_
    refine WL.val (run_pickF rfl) rfl rfl ?_
    refine WL.val run_assign rfl rfl ?_
    refine WL.nil ?_
    refine W.ret ?_
    refine bodyQ.r1 (v := .bool _) Try.results18 rfl ?_
    -- path F
    exact ⟨by rw [hostB_no.2 (by omega)], h⟩

theorem ublocks_ok {bu : Nat} {u : Un} {pool : PoolL} {ms : List Nat} (h : On W0 (UnP 77 89 93 bu pool ms u :: L) w) : Calls Try.prog 35 #[.pointer (some ⟨bu, 0, none⟩)] w (Ret fun v w' => v = .int .i64 (u.s.N : Int) ∧ On W0 (UnP 77 89 93 bu pool ms u :: L) w') := by
  refine enter Try.func35 rfl Try.ntmps35 rfl ?_
  have ob_ := openU h
  obtain ⟨bs, bt, gs, hm, hl, h⟩ := ob_
  refine W.seq ?_
  refine W.region ?_
  refine WL.val run_assign rfl rfl ?_
  refine WL.nil ?_
  refine W.seq ?_
  refine W.region ?_
  refine WL.val run_move rfl rfl ?_
  refine WL.val (run_nilCheck rfl) rfl rfl ?_
  refine WL.val (run_fieldAddr 0 Try.underlying77 rfl Try.sizeOf67 rfl rfl) rfl rfl ?_
  refine WL.val (run_load1 Try.isAgg67 rfl (h.cellB rfl)) rfl rfl ?_
  refine WL.eff (eff_call Try.call51 (blocks_ok (h.fetch (SpP 89 bs u.s)))) rfl rfl ?_
  rintro _ w ⟨rfl, h⟩
  refine WL.val run_assign rfl rfl ?_
  refine WL.nil ?_
  refine W.ret ?_
  refine bodyQ.r1 (v := .int .i64 _) Try.results35 rfl ?_
  -- path 
  exact ⟨rfl, closeU (bu := bu) (u := u) hm hl ((((h.fetch (Big (GOwn pool) gs)).fetch (blk bt u.t.cells 93)).fetch (SpP 89 bs u.s)).fetch (blk bu (ucells bs bt gs) 77))⟩


theorem actM_run {u : Un} {i : Nat} {c : Cm} (h2 : 2 ≤ c.kind) (h6 : c.kind ≤ 6) : actM u i c = (u.setS (runM u.s c).1, (runM u.s c).2) := by
  unfold actM; rw [if_neg (by omega), if_neg (by omega), if_neg (by omega), if_pos h6]
theorem actM_reset {u : Un} {i : Nat} {c : Cm} (h : c.kind = 18) : actM u i c = (resetN u 8, plain 0 0 0) := by
  unfold actM; rw [if_neg (by omega), if_neg (by omega), if_neg (by omega), if_neg (by omega), if_pos h]
theorem On.unLen {bu : Nat} {u : Un} {pool : PoolL} {ms : List Nat} (h : On W0 (UnP 77 89 93 bu pool ms u :: L) w) : u.g.length = 8 ∧ Go.Sl.SpM.wfS u.s := by
  have ho := openU h
  obtain ⟨bs, bt, gs, hm, hl, h⟩ := ho
  exact ⟨hl, On.wfS (h.fetch (SpP 89 bs u.s))⟩

theorem act_ok {bu i : Nat} {u : Un} {pool : PoolL} {ms : List Nat} {kind at_ n key new typ : Int} {force : Bool} {data : List UInt8} {ax : Option Addr} {cx : Nat} (hi : i < 8) (hk1 : 1 ≤ kind) (hk : kind ≤ 8 ∨ kind = 18) (hsm : small 1000000 u) (h : On W0 (UnP 77 89 93 bu pool ms u :: L) w) (C : Gives L (Bytes (.slice ax data.length cx) data)) (hd : data.length ≤ 1000000) : Calls Try.prog 24 #[.pointer (some ⟨bu, 0, none⟩), .int .i64 (i : Int), (⟨kind, at_, n, data, key, new, typ, force⟩ : Cm).val (.slice ax data.length cx)] w (Ret fun v w' => ∃ u' r dv, actM u i (⟨kind, at_, n, data, key, new, typ, force⟩ : Cm) = (u', r) ∧ v = r.val dv ∧ On W0 (OwnB dv r.data :: UnP 77 89 93 bu pool ms u' :: L) w') := by
  refine enter Try.func24 rfl Try.ntmps24 rfl ?_
  have hul := On.unLen h
  obtain ⟨hl8, hwf⟩ := hul
  refine W.seq ?_
  refine W.region ?_
  refine WL.eff (eff_box (v := .agg _) (l := (⟨kind, at_, n, data, key, new, typ, force⟩ : Cm).cells (.slice ax data.length cx)) h rfl rfl) rfl rfl ?_
  rintro _ w ⟨b5, rfl, h⟩
  have h : On W0 (blk b5 [.int .i64 kind, .int .i64 at_, .int .i64 n, .slice ax data.length cx, .int .u64 key, .int .u64 new, .int .i64 typ, .bool force] 26 :: _) w := h
  refine WL.eff (eff_alloc h Try.zeroValue31 rfl) rfl rfl ?_
  rintro _ w ⟨b6, rfl, h⟩
  refine WL.nil ?_
  refine W.seq ?_
  refine W.seq ?_
  refine W.region ?_
  refine WL.val (run_fieldAddr 0 Try.underlying26 rfl Try.sizeOf3 rfl rfl) rfl rfl ?_
  refine WL.val (run_load1 Try.isAgg3 rfl (h.cellB rfl)) rfl rfl ?_
  refine WL.nil ?_
  refine W.block ?_
  refine W.seq ?_
  refine W.block ?_
  refine W.seq ?_
  refine W.block ?_
  refine W.seq ?_
  refine W.block ?_
  refine W.seq ?_
  refine W.block ?_
  refine W.seq ?_
  refine W.block ?_
  refine W.seq ?_
  refine W.block ?_
  refine W.seq ?_
  refine W.block ?_
  refine W.block ?_
  refine W.seq ?_
  refine W.block ?_
  refine W.seq ?_
  refine W.block ?_
  refine W.seq ?_
  refine W.block ?_
  refine W.seq ?_
  refine W.block ?_
  refine W.seq ?_
  refine W.seq ?_
  refine W.seq ?_
  refine W.region ?_
  refine WL.val (run_eql rfl rfl) rfl rfl ?_
  refine WL.val run_assign rfl rfl ?_
  refine WL.nil ?_
  refine W.condIf rfl (fun c16 => ?_) (fun c16 => ?_)
  · skip
    refine W.exit ?_
    refine W.seq ?_
    refine W.seq ?_
    refine W.region ?_
    refine WL.val (run_buildS (pl := [(0, 1), (1, 1), (2, 1), (3, 1), (4, 1)]) (out := [.int .i64 _, .int .i64 _, .int .i64 _, .slice _ _ _, .int .i64 _]) Try.underlying31 Try.zeroValue31 (fun w => by kernel_rfl) rfl (trivial) rfl) rfl rfl ?_
    refine WL.eff (eff_storeN (vs := [.int .i64 _, .int .i64 _, .int .i64 _, .slice _ _ _, .int .i64 _]) h Try.sizeOf31 rfl rfl rfl rfl rfl (fun k _ _ => free0 k)) rfl rfl ?_
    rintro _ w h
    try simp only [splice, List.take_zero, List.take_succ_cons, List.take_nil, List.drop_succ_cons, List.drop_zero, List.drop_nil, List.nil_append, List.cons_append, List.append_nil, List.length_cons, List.length_nil, Nat.zero_add, Nat.reduceAdd] at h
    refine WL.nil ?_
    refine W.ret ?_
    refine bodyQ.rcB (vs := [.int .i64 _, .int .i64 _, .int .i64 _, .slice _ _ _, .int .i64 _]) h Try.results24 Try.isAgg31 Try.sizeOf31 rfl rfl rfl ?_
    -- path T
    have h : On W0 (OwnB (.slice none 0 0) (plain 0 0 0 : Rp).data :: _) w := h.ownEmpty 1 none
    exact ⟨u, plain 0 0 0, .slice none 0 0, (by unfold actM; rw [if_pos c16]), rfl, h.to⟩
  · skip
    refine W.skip ?_
    refine W.seq ?_
    refine W.seq ?_
    refine W.region ?_
    refine WL.val (run_eql rfl rfl) rfl rfl ?_
    refine WL.val run_assign rfl rfl ?_
    refine WL.nil ?_
    refine W.condIf rfl (fun c20 => ?_) (fun c20 => ?_)
    · skip
      refine W.exit ?_
      refine W.seq ?_
      refine W.seq ?_
      refine W.region ?_
      refine WL.eff (eff_call Try.call33 (inquiry_ok h)) rfl rfl ?_
      rintro _ w ⟨a41, rfl, h⟩
      refine WL.eff (eff_call Try.call21 (sgood_ok (bs := inqB) h (Gives.ownO (v := .slice a41 inqB.length inqB.length)) (by decide))) rfl rfl ?_
      rintro _ w ⟨a42, rfl, h⟩
      refine WL.eff (eff_storeN (vs := [.int .i64 _, .int .i64 _, .int .i64 _, .slice _ _ _, .int .i64 _]) h Try.sizeOf31 rfl rfl rfl rfl rfl (fun k _ _ => free0 k)) rfl rfl ?_
      rintro _ w h
      try simp only [splice, List.take_zero, List.take_succ_cons, List.take_nil, List.drop_succ_cons, List.drop_zero, List.drop_nil, List.nil_append, List.cons_append, List.append_nil, List.length_cons, List.length_nil, Nat.zero_add, Nat.reduceAdd] at h
      refine WL.nil ?_
      refine W.ret ?_
      refine bodyQ.rcB (vs := [.int .i64 _, .int .i64 _, .int .i64 _, .slice _ _ _, .int .i64 _]) h Try.results24 Try.isAgg31 Try.sizeOf31 rfl rfl rfl ?_
      -- path FT
      have h : On W0 (OwnB (.slice a42 (inqB).length (inqB).length) (gave (inqB)).data :: _) w := h.fetch (OwnB (.slice a42 (inqB).length (inqB).length) (inqB))
      exact ⟨u, gave (inqB), .slice a42 (inqB).length (inqB).length, (by unfold actM; rw [if_neg c16, if_pos c20]), rfl, h.to⟩
    · skip
      refine W.skip ?_
      refine W.seq ?_
      refine W.seq ?_
      refine W.region ?_
      refine WL.val (run_eql rfl rfl) rfl rfl ?_
      refine WL.val run_assign rfl rfl ?_
      refine WL.nil ?_
      refine W.condIf rfl (fun c24 => ?_) (fun c24 => ?_)
      · skip
        refine W.exit ?_
        refine W.seq ?_
        refine W.seq ?_
        refine W.region ?_
        refine WL.val run_move rfl rfl ?_
        refine WL.eff (eff_call Try.call35 (ublocks_ok (h.fetch (UnP 77 89 93 bu pool ms u)))) rfl rfl ?_
        rintro _ w ⟨rfl, h⟩
        refine WL.eff (eff_call Try.call34 (capacity_ok (n := u.s.N) hwf.2.1 hwf.2.2.1 h)) rfl rfl ?_
        rintro _ w ⟨a45, rfl, h⟩
        refine WL.eff (eff_call Try.call21 (sgood_ok (bs := capB u.s.N) h (Gives.ownO (v := .slice a45 (capB u.s.N).length (capB u.s.N).length)) (by unfold capB; rw [List.length_append, be_length, be_length]; decide))) rfl rfl ?_
        rintro _ w ⟨a46, rfl, h⟩
        refine WL.eff (eff_storeN (vs := [.int .i64 _, .int .i64 _, .int .i64 _, .slice _ _ _, .int .i64 _]) h Try.sizeOf31 rfl rfl rfl rfl rfl (fun k _ _ => free0 k)) rfl rfl ?_
        rintro _ w h
        try simp only [splice, List.take_zero, List.take_succ_cons, List.take_nil, List.drop_succ_cons, List.drop_zero, List.drop_nil, List.nil_append, List.cons_append, List.append_nil, List.length_cons, List.length_nil, Nat.zero_add, Nat.reduceAdd] at h
        refine WL.nil ?_
        refine W.ret ?_
        refine bodyQ.rcB (vs := [.int .i64 _, .int .i64 _, .int .i64 _, .slice _ _ _, .int .i64 _]) h Try.results24 Try.isAgg31 Try.sizeOf31 rfl rfl rfl ?_
        -- path FFT
        have h : On W0 (OwnB (.slice a46 ((capB u.s.N)).length ((capB u.s.N)).length) (gave ((capB u.s.N))).data :: _) w := h.fetch (OwnB (.slice a46 ((capB u.s.N)).length ((capB u.s.N)).length) ((capB u.s.N)))
        exact ⟨u, gave ((capB u.s.N)), .slice a46 ((capB u.s.N)).length ((capB u.s.N)).length, (by unfold actM; rw [if_neg c16, if_neg c20, if_pos c24]), rfl, h.to⟩
      · skip
        refine W.skip ?_
        refine W.seq ?_
        refine W.seq ?_
        refine W.seq ?_
        refine W.region ?_
        refine WL.val (run_eql rfl rfl) rfl rfl ?_
        refine WL.val run_assign rfl rfl ?_
        refine WL.nil ?_
        refine W.condIf rfl (fun c28 => ?_) (fun c28 => ?_)
        · skip
          refine W.skip ?_
          refine W.condIf rfl (fun c40 => ?_) (fun c40 => ?_)
          · skip
            refine W.exit ?_
            refine W.seq ?_
            refine W.seq ?_
            refine W.region ?_
            refine WL.val run_move rfl rfl ?_
            refine WL.val (run_loadB (vs := [.int .i64 _, .int .i64 _, .int .i64 _, .slice _ _ _, .int .u64 _, .int .u64 _, .int .i64 _, .bool _]) h Try.isAgg26 Try.sizeOf26 rfl rfl rfl) rfl rfl ?_
            refine WL.eff (eff_call Try.call36 (urun_ok (u := u) (h.fetch (UnP 77 89 93 bu pool ms u)) (Gives.to C) hd)) rfl rfl ?_
            rintro _ w ⟨s', r', dv', heq, rfl, h⟩
            have of_ := Own.form h
            obtain ⟨ad, cd, hdv, _⟩ := of_
            subst hdv
            refine WL.eff (eff_storeN (vs := [.int .i64 _, .int .i64 _, .int .i64 _, .slice _ _ _, .int .i64 _]) h Try.sizeOf31 rfl rfl rfl rfl rfl (fun k _ _ => free0 k)) rfl rfl ?_
            rintro _ w h
            try simp only [splice, List.take_zero, List.take_succ_cons, List.take_nil, List.drop_succ_cons, List.drop_zero, List.drop_nil, List.nil_append, List.cons_append, List.append_nil, List.length_cons, List.length_nil, Nat.zero_add, Nat.reduceAdd] at h
            refine WL.nil ?_
            refine W.ret ?_
            refine bodyQ.rcB (vs := [.int .i64 _, .int .i64 _, .int .i64 _, .slice _ _ _, .int .i64 _]) h Try.results24 Try.isAgg31 Try.sizeOf31 rfl rfl rfl ?_
            -- path FFFTT
            have he : actM u i (⟨kind, at_, n, data, key, new, typ, force⟩ : Cm) = (u.setS s', r') := by rw [actM_run (by show 2 ≤ kind; omega) (by show kind ≤ 6; omega), heq]
            exact ⟨u.setS s', r', _, he, rfl, h.to⟩
          · skip
            exact absurd c40 (not_not_intro (by omega))
        · skip
          refine W.seq ?_
          refine W.region ?_
          refine WL.val (run_eql rfl rfl) rfl rfl ?_
          refine WL.val run_assign rfl rfl ?_
          refine WL.nil ?_
          refine W.condIf rfl (fun c31 => ?_) (fun c31 => ?_)
          · skip
            refine W.skip ?_
            refine W.condIf rfl (fun c40 => ?_) (fun c40 => ?_)
            · skip
              refine W.exit ?_
              refine W.seq ?_
              refine W.seq ?_
              refine W.region ?_
              refine WL.val run_move rfl rfl ?_
              refine WL.val (run_loadB (vs := [.int .i64 _, .int .i64 _, .int .i64 _, .slice _ _ _, .int .u64 _, .int .u64 _, .int .i64 _, .bool _]) h Try.isAgg26 Try.sizeOf26 rfl rfl rfl) rfl rfl ?_
              refine WL.eff (eff_call Try.call36 (urun_ok (u := u) (h.fetch (UnP 77 89 93 bu pool ms u)) (Gives.to C) hd)) rfl rfl ?_
              rintro _ w ⟨s', r', dv', heq, rfl, h⟩
              have of_ := Own.form h
              obtain ⟨ad, cd, hdv, _⟩ := of_
              subst hdv
              refine WL.eff (eff_storeN (vs := [.int .i64 _, .int .i64 _, .int .i64 _, .slice _ _ _, .int .i64 _]) h Try.sizeOf31 rfl rfl rfl rfl rfl (fun k _ _ => free0 k)) rfl rfl ?_
              rintro _ w h
              try simp only [splice, List.take_zero, List.take_succ_cons, List.take_nil, List.drop_succ_cons, List.drop_zero, List.drop_nil, List.nil_append, List.cons_append, List.append_nil, List.length_cons, List.length_nil, Nat.zero_add, Nat.reduceAdd] at h
              refine WL.nil ?_
              refine W.ret ?_
              refine bodyQ.rcB (vs := [.int .i64 _, .int .i64 _, .int .i64 _, .slice _ _ _, .int .i64 _]) h Try.results24 Try.isAgg31 Try.sizeOf31 rfl rfl rfl ?_
              -- path FFFFTT
              have he : actM u i (⟨kind, at_, n, data, key, new, typ, force⟩ : Cm) = (u.setS s', r') := by rw [actM_run (by show 2 ≤ kind; omega) (by show kind ≤ 6; omega), heq]
              exact ⟨u.setS s', r', _, he, rfl, h.to⟩
            · skip
              exact absurd c40 (not_not_intro (by omega))
          · skip
            refine W.seq ?_
            refine W.region ?_
            refine WL.val (run_eql rfl rfl) rfl rfl ?_
            refine WL.val run_assign rfl rfl ?_
            refine WL.nil ?_
            refine W.condIf rfl (fun c34 => ?_) (fun c34 => ?_)
            · skip
              refine W.skip ?_
              refine W.condIf rfl (fun c40 => ?_) (fun c40 => ?_)
              · skip
                refine W.exit ?_
                refine W.seq ?_
                refine W.seq ?_
                refine W.region ?_
                refine WL.val run_move rfl rfl ?_
                refine WL.val (run_loadB (vs := [.int .i64 _, .int .i64 _, .int .i64 _, .slice _ _ _, .int .u64 _, .int .u64 _, .int .i64 _, .bool _]) h Try.isAgg26 Try.sizeOf26 rfl rfl rfl) rfl rfl ?_
                refine WL.eff (eff_call Try.call36 (urun_ok (u := u) (h.fetch (UnP 77 89 93 bu pool ms u)) (Gives.to C) hd)) rfl rfl ?_
                rintro _ w ⟨s', r', dv', heq, rfl, h⟩
                have of_ := Own.form h
                obtain ⟨ad, cd, hdv, _⟩ := of_
                subst hdv
                refine WL.eff (eff_storeN (vs := [.int .i64 _, .int .i64 _, .int .i64 _, .slice _ _ _, .int .i64 _]) h Try.sizeOf31 rfl rfl rfl rfl rfl (fun k _ _ => free0 k)) rfl rfl ?_
                rintro _ w h
                try simp only [splice, List.take_zero, List.take_succ_cons, List.take_nil, List.drop_succ_cons, List.drop_zero, List.drop_nil, List.nil_append, List.cons_append, List.append_nil, List.length_cons, List.length_nil, Nat.zero_add, Nat.reduceAdd] at h
                refine WL.nil ?_
                refine W.ret ?_
                refine bodyQ.rcB (vs := [.int .i64 _, .int .i64 _, .int .i64 _, .slice _ _ _, .int .i64 _]) h Try.results24 Try.isAgg31 Try.sizeOf31 rfl rfl rfl ?_
                -- path FFFFFTT
                have he : actM u i (⟨kind, at_, n, data, key, new, typ, force⟩ : Cm) = (u.setS s', r') := by rw [actM_run (by show 2 ≤ kind; omega) (by show kind ≤ 6; omega), heq]
                exact ⟨u.setS s', r', _, he, rfl, h.to⟩
              · skip
                exact absurd c40 (not_not_intro (by omega))
            · skip
              refine W.seq ?_
              refine W.region ?_
              refine WL.val (run_eql rfl rfl) rfl rfl ?_
              refine WL.val run_assign rfl rfl ?_
              refine WL.nil ?_
              refine W.condIf rfl (fun c37 => ?_) (fun c37 => ?_)
              · skip
                refine W.skip ?_
                refine W.condIf rfl (fun c40 => ?_) (fun c40 => ?_)
                · skip
                  refine W.exit ?_
                  refine W.seq ?_
                  refine W.seq ?_
                  refine W.region ?_
                  refine WL.val run_move rfl rfl ?_
                  refine WL.val (run_loadB (vs := [.int .i64 _, .int .i64 _, .int .i64 _, .slice _ _ _, .int .u64 _, .int .u64 _, .int .i64 _, .bool _]) h Try.isAgg26 Try.sizeOf26 rfl rfl rfl) rfl rfl ?_
                  refine WL.eff (eff_call Try.call36 (urun_ok (u := u) (h.fetch (UnP 77 89 93 bu pool ms u)) (Gives.to C) hd)) rfl rfl ?_
                  rintro _ w ⟨s', r', dv', heq, rfl, h⟩
                  have of_ := Own.form h
                  obtain ⟨ad, cd, hdv, _⟩ := of_
                  subst hdv
                  refine WL.eff (eff_storeN (vs := [.int .i64 _, .int .i64 _, .int .i64 _, .slice _ _ _, .int .i64 _]) h Try.sizeOf31 rfl rfl rfl rfl rfl (fun k _ _ => free0 k)) rfl rfl ?_
                  rintro _ w h
                  try simp only [splice, List.take_zero, List.take_succ_cons, List.take_nil, List.drop_succ_cons, List.drop_zero, List.drop_nil, List.nil_append, List.cons_append, List.append_nil, List.length_cons, List.length_nil, Nat.zero_add, Nat.reduceAdd] at h
                  refine WL.nil ?_
                  refine W.ret ?_
                  refine bodyQ.rcB (vs := [.int .i64 _, .int .i64 _, .int .i64 _, .slice _ _ _, .int .i64 _]) h Try.results24 Try.isAgg31 Try.sizeOf31 rfl rfl rfl ?_
                  -- path FFFFFFTT
                  have he : actM u i (⟨kind, at_, n, data, key, new, typ, force⟩ : Cm) = (u.setS s', r') := by rw [actM_run (by show 2 ≤ kind; omega) (by show kind ≤ 6; omega), heq]
                  exact ⟨u.setS s', r', _, he, rfl, h.to⟩
                · skip
                  exact absurd c40 (not_not_intro (by omega))
              · skip
                refine W.region ?_
                refine WL.val (run_eql rfl rfl) rfl rfl ?_
                refine WL.val run_assign rfl rfl ?_
                refine WL.nil ?_
                refine W.condIf rfl (fun c40 => ?_) (fun c40 => ?_)
                · skip
                  refine W.exit ?_
                  refine W.seq ?_
                  refine W.seq ?_
                  refine W.region ?_
                  refine WL.val run_move rfl rfl ?_
                  refine WL.val (run_loadB (vs := [.int .i64 _, .int .i64 _, .int .i64 _, .slice _ _ _, .int .u64 _, .int .u64 _, .int .i64 _, .bool _]) h Try.isAgg26 Try.sizeOf26 rfl rfl rfl) rfl rfl ?_
                  refine WL.eff (eff_call Try.call36 (urun_ok (u := u) (h.fetch (UnP 77 89 93 bu pool ms u)) (Gives.to C) hd)) rfl rfl ?_
                  rintro _ w ⟨s', r', dv', heq, rfl, h⟩
                  have of_ := Own.form h
                  obtain ⟨ad, cd, hdv, _⟩ := of_
                  subst hdv
                  refine WL.eff (eff_storeN (vs := [.int .i64 _, .int .i64 _, .int .i64 _, .slice _ _ _, .int .i64 _]) h Try.sizeOf31 rfl rfl rfl rfl rfl (fun k _ _ => free0 k)) rfl rfl ?_
                  rintro _ w h
                  try simp only [splice, List.take_zero, List.take_succ_cons, List.take_nil, List.drop_succ_cons, List.drop_zero, List.drop_nil, List.nil_append, List.cons_append, List.append_nil, List.length_cons, List.length_nil, Nat.zero_add, Nat.reduceAdd] at h
                  refine WL.nil ?_
                  refine W.ret ?_
                  refine bodyQ.rcB (vs := [.int .i64 _, .int .i64 _, .int .i64 _, .slice _ _ _, .int .i64 _]) h Try.results24 Try.isAgg31 Try.sizeOf31 rfl rfl rfl ?_
                  -- path FFFFFFFT
                  have he : actM u i (⟨kind, at_, n, data, key, new, typ, force⟩ : Cm) = (u.setS s', r') := by rw [actM_run (by show 2 ≤ kind; omega) (by show kind ≤ 6; omega), heq]
                  exact ⟨u.setS s', r', _, he, rfl, h.to⟩
                · skip
                  refine W.skip ?_
                  refine W.seq ?_
                  refine W.seq ?_
                  refine W.region ?_
                  refine WL.val (run_eql rfl rfl) rfl rfl ?_
                  refine WL.val run_assign rfl rfl ?_
                  refine WL.nil ?_
                  refine W.condIf rfl (fun c44 => ?_) (fun c44 => ?_)
                  · skip
                    exact absurd c44 (by omega)
                  · skip
                    refine W.skip ?_
                    refine W.seq ?_
                    refine W.seq ?_
                    refine W.region ?_
                    refine WL.val (run_eql rfl rfl) rfl rfl ?_
                    refine WL.val run_assign rfl rfl ?_
                    refine WL.nil ?_
                    refine W.condIf rfl (fun c48 => ?_) (fun c48 => ?_)
                    · skip
                      exact absurd c48 (by omega)
                    · skip
                      refine W.skip ?_
                      refine W.seq ?_
                      refine W.seq ?_
                      refine W.region ?_
                      refine WL.val (run_eql rfl rfl) rfl rfl ?_
                      refine WL.val run_assign rfl rfl ?_
                      refine WL.nil ?_
                      refine W.condIf rfl (fun c52 => ?_) (fun c52 => ?_)
                      · skip
                        exact absurd c52 (by omega)
                      · skip
                        refine W.skip ?_
                        refine W.seq ?_
                        refine W.seq ?_
                        refine W.region ?_
                        refine WL.val (run_eql rfl rfl) rfl rfl ?_
                        refine WL.val run_assign rfl rfl ?_
                        refine WL.nil ?_
                        refine W.condIf rfl (fun c56 => ?_) (fun c56 => ?_)
                        · skip
                          exact absurd c56 (by omega)
                        · skip
                          refine W.skip ?_
                          refine W.seq ?_
                          refine W.seq ?_
                          refine W.region ?_
                          refine WL.val (run_eql rfl rfl) rfl rfl ?_
                          refine WL.val run_assign rfl rfl ?_
                          refine WL.nil ?_
                          refine W.condIf rfl (fun c60 => ?_) (fun c60 => ?_)
                          · skip
                            exact absurd c60 (by omega)
                          · skip
                            refine W.skip ?_
                            refine W.seq ?_
                            refine W.seq ?_
                            refine W.region ?_
                            refine WL.val (run_eql rfl rfl) rfl rfl ?_
                            refine WL.val run_assign rfl rfl ?_
                            refine WL.nil ?_
                            refine W.condIf rfl (fun c64 => ?_) (fun c64 => ?_)
                            · skip
                              exact absurd c64 (by omega)
                            · skip
                              refine W.skip ?_
                              refine W.seq ?_
                              refine W.seq ?_
                              refine W.region ?_
                              refine WL.val (run_eql rfl rfl) rfl rfl ?_
                              refine WL.val run_assign rfl rfl ?_
                              refine WL.nil ?_
                              refine W.condIf rfl (fun c68 => ?_) (fun c68 => ?_)
                              · skip
                                exact absurd c68 (by omega)
                              · skip
                                refine W.skip ?_
                                refine W.seq ?_
                                refine W.region ?_
                                refine WL.val (run_eql rfl rfl) rfl rfl ?_
                                refine WL.val run_assign rfl rfl ?_
                                refine WL.nil ?_
                                refine W.condIf rfl (fun c72 => ?_) (fun c72 => ?_)
                                · skip
                                  exact absurd c72 (by omega)
                                · skip
                                  refine W.skip ?_
                                  refine W.exit ?_
                                  refine W.seq ?_
                                  refine W.seq ?_
                                  refine W.region ?_
                                  refine WL.val run_move rfl rfl ?_
                                  refine WL.nil ?_
                                  refine W.block ?_
                                  refine W.loop (fun (k : Nat) env w => k ≤ 8 ∧ ∃ j, env = mkE j [(0, .pointer (some ⟨bu, 0, none⟩)), (153, .int .i64 (k : Int)), (6, .pointer (some ⟨b6, 0, none⟩))] ∧ On W0 (UnP 77 89 93 bu pool ms (resetN u k) :: blk b6 [.int .i64 0, .int .i64 0, .int .i64 0, .slice none 0 0, .int .i64 0] 31 :: L) w) (fun k => 8 - k) (0) ?_ ?_
                                  · have h : On W0 (UnP 77 89 93 bu pool ms (resetN u 0) :: _) w := h.fetch (UnP 77 89 93 bu pool ms u)
                                    exact ⟨Nat.zero_le _, _, mkE_of ⟨rfl, rfl, rfl, trivial⟩, h.to⟩
                                  · rintro k env w ⟨hk8, j, rfl, h⟩
                                    refine W.seq ?_
                                    refine W.region ?_
                                    refine WL.val (run_lss rfl rfl) rfl rfl ?_
                                    refine WL.nil ?_
                                    refine W.seq ?_
                                    refine W.condIf rfl (fun c114 => ?_) (fun c114 => ?_)
                                    · skip
                                      refine W.skip ?_
                                      refine W.seq ?_
                                      have hk7 : k < 8 := by omega
                                      have hsk : ((resetN u k).guest k).codes.length ≤ 1000000 := by rw [resetN_guest k (Nat.le_refl _)]; exact hsm k hk7
                                      refine W.block ?_
                                      refine W.seq ?_
                                      refine W.region ?_
                                      refine WL.val run_move rfl rfl ?_
                                      refine WL.val run_assign rfl rfl ?_
                                      refine WL.nil ?_
                                      refine W.region ?_
                                      refine WL.val run_move rfl rfl ?_
                                      refine WL.val run_move rfl rfl ?_
                                      refine WL.eff (eff_call Try.call49 (tell_ok (i := k) hk7 hsk h)) rfl rfl ?_
                                      rintro _ w h
                                      have h : On W0 (UnP 77 89 93 bu pool ms (resetN u (k + 1)) :: _) w := h
                                      refine WL.nil ?_
                                      refine W.region ?_
                                      refine WL.val (run_incN rfl rfl (by omega)) rfl rfl ?_
                                      refine WL.val run_move rfl rfl ?_
                                      refine WL.nil ?_
                                      -- round, path FFFFFFFFFFFFFFFFLT
                                      exact ⟨k + 1, ⟨by omega, _, mkE_of ⟨rfl, rfl, rfl, trivial⟩, h⟩, by show 8 - (k + 1) < 8 - k; omega⟩
                                    · skip
                                      refine W.exit ?_
                                      refine W.seq ?_
                                      refine W.region ?_
                                      refine WL.val (run_buildS (pl := [(0, 1), (1, 1), (2, 1), (3, 1), (4, 1)]) (out := [.int .i64 _, .int .i64 _, .int .i64 _, .slice _ _ _, .int .i64 _]) Try.underlying31 Try.zeroValue31 (fun w => by kernel_rfl) rfl (trivial) rfl) rfl rfl ?_
                                      refine WL.eff (eff_storeN (vs := [.int .i64 _, .int .i64 _, .int .i64 _, .slice _ _ _, .int .i64 _]) h Try.sizeOf31 rfl rfl rfl rfl rfl (fun k _ _ => free0 k)) rfl rfl ?_
                                      rintro _ w h
                                      try simp only [splice, List.take_zero, List.take_succ_cons, List.take_nil, List.drop_succ_cons, List.drop_zero, List.drop_nil, List.nil_append, List.cons_append, List.append_nil, List.length_cons, List.length_nil, Nat.zero_add, Nat.reduceAdd] at h
                                      refine WL.nil ?_
                                      refine W.ret ?_
                                      refine bodyQ.rcB (vs := [.int .i64 _, .int .i64 _, .int .i64 _, .slice _ _ _, .int .i64 _]) h Try.results24 Try.isAgg31 Try.sizeOf31 rfl rfl rfl ?_
                                      -- path FFFFFFFFFFFFFFFFLF
                                      have ob_ : k = 8 := by omega
                                      obtain rfl := ob_
                                      have h : On W0 (OwnB (.slice none 0 0) (plain 0 0 0 : Rp).data :: _) w := h.ownEmpty 1 none
                                      exact ⟨(resetN u 8), plain 0 0 0, .slice none 0 0, (actM_reset (by show kind = 18; omega)), rfl, h.to⟩

end Go.Proofs.Ytdpakoefdpmebaa
