/-
  A unit: commands by their numbers: the contracts. Lines of walks printed by a program of the prover's.
-/
import Derived.Test.YtdpakoefdpmebaaGreatUnit7
import Derived.Test.YtdpakoefdpmebaaGreatUnitMore
namespace Go.Proofs.YtdpakoefdpmebaaGreat
open Go Go.Sl Go.Sl.BitM Go.Sl.SpM Go.Sl.RsM Go.Sl.ByM Go.Sl.UnM
set_option linter.unusedVariables false
set_option linter.unusedSimpArgs false
set_option maxHeartbeats 1000000
set_option maxRecDepth 8000
variable {W0 w : World} {L F : List HProp}

theorem uonce_ok {bu i : Nat} {id floor : Int} {u : Un} {pool : PoolL} {ms : List Nat} {kind at_ n key new typ : Int} {force : Bool} {data : List UInt8} {ax : Option Addr} {cx : Nat} (hi : i < 8) (hkk : kind ≤ 9 ∨ 18 ≤ kind) (hsm : small 1000000 u) (hC : okC u) (hdl : ∀ x ∈ (u.guest i).done, x.2.data.length ≤ 1000000) (h : On W0 (UnP 84 146 152 bu pool ms u :: Pool pool :: L) w) (C : Gives L (Bytes (.slice ax data.length cx) data)) (hd : data.length ≤ 1000000) : Calls Tryz.prog 26 #[.pointer (some ⟨bu, 0, none⟩), .int .i64 (i : Int), .int .u64 id, .int .u64 floor, (⟨kind, at_, n, data, key, new, typ, force⟩ : Cm).val (.slice ax data.length cx)] w (Ret fun v w' => ∃ u' r fresh dv ms' pool', onceM u i id floor (⟨kind, at_, n, data, key, new, typ, force⟩ : Cm) = (u', r, fresh) ∧ v = .tuple #[r.val dv, .bool fresh] ∧ On W0 (OwnB dv r.data :: UnP 84 146 152 bu pool' ms' u' :: Pool pool' :: L) w') := by
  refine enter Tryz.func26 rfl Tryz.ntmps26 rfl ?_
  have hmx := maxLen_eq
  have ob_ := openU h
  obtain ⟨bs, bt, gs, hm, hl, h⟩ := ob_
  have ob_ := row_of hm hl hi
  obtain ⟨g, hg, hgu⟩ := ob_
  have h := Big.open hg (h.fetch (Big (GOwn pool) gs))
  have ob_ := openG h
  obtain ⟨hok, h⟩ := ob_
  have ob1_ := Own.bounds h
  obtain ⟨hb1, hb2⟩ := ob1_
  have hig : i < gs.length := by have := (List.getElem?_eq_some_iff.1 hg).1; omega
  refine W.seq ?_
  refine W.region ?_
  refine WL.eff (eff_box (v := .agg _) (l := (⟨kind, at_, n, data, key, new, typ, force⟩ : Cm).cells (.slice ax data.length cx)) h rfl rfl) rfl rfl ?_
  rintro _ w ⟨b9, rfl, h⟩
  have h : On W0 (blk b9 [.int .i64 kind, .int .i64 at_, .int .i64 n, .slice ax data.length cx, .int .u64 key, .int .u64 new, .int .i64 typ, .bool force] 25 :: _) w := h
  refine WL.eff (eff_alloc h Tryz.zeroValue36 rfl) rfl rfl ?_
  rintro _ w ⟨b10, rfl, h⟩
  refine WL.val run_assign rfl rfl ?_
  refine WL.nil ?_
  refine W.seq ?_
  refine W.region ?_
  refine WL.val (run_buildS (pl := [(0, 1), (1, 1), (2, 1), (3, 1), (4, 1)]) (out := [.int .i64 _, .int .i64 _, .int .i64 _, .slice _ _ _, .int .i64 _]) Tryz.underlying36 Tryz.zeroValue36 (fun w => by kernel_rfl) rfl (⟨⟨_, _, rfl, rfl, by decide⟩, trivial⟩) rfl) rfl rfl ?_
  refine WL.eff (eff_alloc h Tryz.zeroValue36 rfl) rfl rfl ?_
  rintro _ w ⟨b12, rfl, h⟩
  refine WL.eff (eff_storeN (vs := [.int .i64 _, .int .i64 _, .int .i64 _, .slice _ _ _, .int .i64 _]) h Tryz.sizeOf36 rfl rfl rfl rfl rfl (fun k _ _ => free0 k)) rfl rfl ?_
  rintro _ w h
  try simp only [splice, List.take_zero, List.take_succ_cons, List.take_nil, List.drop_succ_cons, List.drop_zero, List.drop_nil, List.nil_append, List.cons_append, List.append_nil, List.length_cons, List.length_nil, Nat.zero_add, Nat.reduceAdd] at h
  refine WL.nil ?_
  refine W.seq ?_
  refine W.seq ?_
  refine W.region ?_
  refine WL.val run_move rfl rfl ?_
  refine WL.eff (eff_call Tryz.call35 (uhost_ok h)) rfl rfl ?_
  rintro _ w ⟨hv, h⟩
  rw [host_nat hi] at hv
  subst hv
  refine WL.val (run_not rfl) rfl rfl ?_
  refine WL.val run_move rfl rfl ?_
  refine WL.val run_move rfl rfl ?_
  refine WL.dec (run_eql rfl rfl) rfl rfl (fun c25 => ?_) (fun c25 => ?_)
  · skip
    refine WL.val (run_pickF rfl) rfl rfl ?_
    refine WL.val run_move rfl rfl ?_
    refine WL.skip rfl rfl ?_
    refine WL.skip rfl rfl ?_
    refine WL.skip rfl rfl ?_
    refine WL.skip rfl rfl ?_
    refine WL.skip rfl rfl ?_
    refine WL.skip rfl rfl ?_
    refine WL.skip rfl rfl ?_
    refine WL.skip rfl rfl ?_
    refine WL.skip rfl rfl ?_
    refine WL.val (run_pickT rfl) rfl rfl ?_
    refine WL.nil ?_
    refine W.condT rfl ?_
    refine W.seq ?_
    refine W.region ?_
    refine WL.val (run_loadB (vs := [.int .i64 _, .int .i64 _, .int .i64 _, .slice _ _ _, .int .i64 _]) h Tryz.isAgg36 Tryz.sizeOf36 rfl rfl rfl) rfl rfl ?_
    refine WL.eff (eff_storeN (vs := [.int .i64 _, .int .i64 _, .int .i64 _, .slice _ _ _, .int .i64 _]) h Tryz.sizeOf36 rfl rfl rfl rfl rfl (fun k _ _ => free0 k)) rfl rfl ?_
    rintro _ w h
    try simp only [splice, List.take_zero, List.take_succ_cons, List.take_nil, List.drop_succ_cons, List.drop_zero, List.drop_nil, List.nil_append, List.cons_append, List.append_nil, List.length_cons, List.length_nil, Nat.zero_add, Nat.reduceAdd] at h
    refine WL.val run_assign rfl rfl ?_
    refine WL.nil ?_
    refine W.ret ?_
    refine bodyQ.rctB (vs := [.int .i64 _, .int .i64 _, .int .i64 _, .slice _ _ _, .int .i64 _]) (v2 := .bool _) h Tryz.results26 Tryz.isAgg36 Tryz.sizeOf36 rfl rfl rfl rfl ?_
    -- path T
    have h := Big.close (y := g) hig (closeG (g := g) hok (((h.fetch (Big (GOwn pool) (gs.eraseIdx i))).fetch (MapC g.mb .u64 g.kvs g.ck)).fetch (CodesO g)))
    rw [set_same hg] at h
    have h := closeU (bu := bu) (u := u) hm hl ((((h.fetch (Big (GOwn pool) gs)).fetch (blk bt u.t.cells 152)).fetch (SpP 146 bs u.s)).fetch (blk bu (ucells bs bt gs) 84))
    have h : On W0 (OwnB (.slice none 0 0) (plain 8 0 0 : Rp).data :: _) w := h.ownEmpty 1 none
    exact ⟨u, plain 8 0 0, false, .slice none 0 0, ms, pool, (once_busy (.inl c25)), rfl, h.to⟩
  · skip
    refine WL.val (run_pickF rfl) rfl rfl ?_
    refine WL.val run_move rfl rfl ?_
    refine WL.val run_move rfl rfl ?_
    refine WL.val run_move rfl rfl ?_
    refine WL.val run_move rfl rfl ?_
    refine WL.val (run_nilCheck rfl) rfl rfl ?_
    refine WL.val (run_fieldAddr 2 Tryz.underlying84 rfl Tryz.sizeOf82 rfl rfl) rfl rfl ?_
    refine WL.val (run_indexAddrArr Tryz.underlying82 Tryz.sizeOf81 rfl rfl (by omega) (by omega)) rfl rfl ?_
    refine WL.val (run_fieldAddr 1 Tryz.underlying81 rfl Tryz.sizeOf23 rfl rfl) rfl rfl ?_
    refine WL.val (run_load1 Tryz.isAgg23 rfl (h.cellB (ucell (bs := bs) (bt := bt) hg (k := 1) (by decide) rfl))) rfl rfl ?_
    refine WL.val (run_lss rfl rfl) rfl rfl ?_
    refine WL.val (run_pickF rfl) rfl rfl ?_
    refine WL.nil ?_
    refine W.condIf rfl (fun c3 => ?_) (fun c3 => ?_)
    · skip
      refine W.seq ?_
      refine W.region ?_
      refine WL.val (run_loadB (vs := [.int .i64 _, .int .i64 _, .int .i64 _, .slice _ _ _, .int .i64 _]) h Tryz.isAgg36 Tryz.sizeOf36 rfl rfl rfl) rfl rfl ?_
      refine WL.eff (eff_storeN (vs := [.int .i64 _, .int .i64 _, .int .i64 _, .slice _ _ _, .int .i64 _]) h Tryz.sizeOf36 rfl rfl rfl rfl rfl (fun k _ _ => free0 k)) rfl rfl ?_
      rintro _ w h
      try simp only [splice, List.take_zero, List.take_succ_cons, List.take_nil, List.drop_succ_cons, List.drop_zero, List.drop_nil, List.nil_append, List.cons_append, List.append_nil, List.length_cons, List.length_nil, Nat.zero_add, Nat.reduceAdd] at h
      refine WL.val run_assign rfl rfl ?_
      refine WL.nil ?_
      refine W.ret ?_
      refine bodyQ.rctB (vs := [.int .i64 _, .int .i64 _, .int .i64 _, .slice _ _ _, .int .i64 _]) (v2 := .bool _) h Tryz.results26 Tryz.isAgg36 Tryz.sizeOf36 rfl rfl rfl rfl ?_
      -- path FT
      have h := Big.close (y := g) hig (closeG (g := g) hok (((h.fetch (Big (GOwn pool) (gs.eraseIdx i))).fetch (MapC g.mb .u64 g.kvs g.ck)).fetch (CodesO g)))
      rw [set_same hg] at h
      have h := closeU (bu := bu) (u := u) hm hl ((((h.fetch (Big (GOwn pool) gs)).fetch (blk bt u.t.cells 152)).fetch (SpP 146 bs u.s)).fetch (blk bu (ucells bs bt gs) 84))
      have h : On W0 (OwnB (.slice none 0 0) (plain 8 0 0 : Rp).data :: _) w := h.ownEmpty 1 none
      exact ⟨u, plain 8 0 0, false, .slice none 0 0, ms, pool, (once_busy (.inr (by rw [← hgu]; exact c3))), rfl, h.to⟩
    · skip
      refine W.skip ?_
      refine W.seq ?_
      refine W.region ?_
      refine WL.val run_move rfl rfl ?_
      refine WL.val run_move rfl rfl ?_
      refine WL.val (run_nilCheck rfl) rfl rfl ?_
      refine WL.val (run_fieldAddr 2 Tryz.underlying84 rfl Tryz.sizeOf82 rfl rfl) rfl rfl ?_
      refine WL.val (run_indexAddrArr Tryz.underlying82 Tryz.sizeOf81 rfl rfl (by omega) (by omega)) rfl rfl ?_
      refine WL.val run_assign rfl rfl ?_
      refine WL.nil ?_
      refine W.seq ?_
      refine W.region ?_
      refine WL.val run_move rfl rfl ?_
      refine WL.val run_move rfl rfl ?_
      refine WL.val (run_minI rfl rfl) rfl rfl ?_
      refine WL.val run_move rfl rfl ?_
      refine WL.val (run_nilCheck rfl) rfl rfl ?_
      refine WL.val (run_fieldAddr 1 Tryz.underlying81 rfl Tryz.sizeOf23 rfl rfl) rfl rfl ?_
      refine WL.val (run_load1 Tryz.isAgg23 rfl (h.cellB (ucell (bs := bs) (bt := bt) hg (k := 1) (by decide) rfl))) rfl rfl ?_
      refine WL.val (run_maxI rfl rfl) rfl rfl ?_
      refine WL.val run_assign rfl rfl ?_
      refine WL.nil ?_
      refine W.seq ?_
      refine W.region ?_
      refine WL.eff (eff_makeMap (kd := .u64) h) rfl rfl ?_
      rintro _ w ⟨b52, rfl, h⟩
      refine WL.val run_assign rfl rfl ?_
      refine WL.nil ?_
      refine W.seq ?_
      refine W.seq ?_
      refine W.region ?_
      refine WL.val run_move rfl rfl ?_
      refine WL.val (run_nilCheck rfl) rfl rfl ?_
      refine WL.val (run_fieldAddr 2 Tryz.underlying81 rfl Tryz.sizeOf79 rfl rfl) rfl rfl ?_
      refine WL.val (run_load1 Tryz.isAgg79 rfl (h.cellB (ucell (bs := bs) (bt := bt) hg (k := 2) (by decide) rfl))) rfl rfl ?_
      refine WL.eff (eff_range (h.fetch (MapC g.mb .u64 g.kvs g.ck)) Tryz.underlying79 rfl) rfl rfl ?_
      rintro _ w ⟨rr, rfl, h⟩
      have hfit := (On.mapC (h.fetch (MapC g.mb .u64 g.kvs g.ck))).1
      refine WL.nil ?_
      refine W.block ?_
      refine W.loop (fun (seen : Array Nat) env w => ∃ (j : Env) (ks : List KV) (ck2 : Nat), env = mkE j [(0, .pointer (some ⟨bu, 0, none⟩)), (1, .int .i64 (i : Int)), (2, .int .u64 id), (3, .int .u64 (max (min floor id) g.s.floor)), (9, .pointer (some ⟨b9, 0, none⟩)), (10, .pointer (some ⟨b10, 0, none⟩)), (12, .pointer (some ⟨b12, 0, none⟩)), (13, .pointer (some ⟨bu, 0 + 2 + ((i : Nat) : Int).toNat * 3, none⟩)), (14, .map (some b52)), (57, .pointer (some ⟨rr, 0, none⟩))] ∧ okK g.kvs (max (min floor id) g.s.floor) seen ks ∧ On W0 (IterC rr g.mb seen g.ck :: MapC g.mb .u64 g.kvs g.ck :: MapC b52 .u64 ks ck2 :: CodesO g :: Big (GOwn pool) (gs.eraseIdx i) :: blk bu (ucells bs bt gs) 84 :: SpP 146 bs u.s :: blk bt u.t.cells 152 :: blk b12 [.int .i64 8, .int .i64 0, .int .i64 0, .slice none 0 0, .int .i64 0] 36 :: blk b10 [.int .i64 0, .int .i64 0, .int .i64 0, .slice none 0 0, .int .i64 0] 36 :: blk b9 [.int .i64 kind, .int .i64 at_, .int .i64 n, .slice ax data.length cx, .int .u64 key, .int .u64 new, .int .i64 typ, .bool force] 25 :: Pool pool :: L) w) (fun seen => (remM g.kvs seen).length) (#[]) ?_ ?_
      · exact ⟨_, [], 0, mkE_of ⟨rfl, rfl, rfl, rfl, rfl, rfl, rfl, rfl, rfl, rfl, trivial⟩, okK_start, h.to⟩
      · rintro seen env w ⟨j, ks, ck2, rfl, hK, h⟩
        refine W.seq ?_
        refine W.region ?_
        refine WL.eff (eff_next (h.fetch (IterC rr g.mb seen g.ck)) rfl) rfl rfl ?_
        rintro _ w h0
        rcases h0 with ⟨hnil, rfl, h⟩ | ⟨e1, hin, rfl, h⟩
        rotate_left
        · skip
          refine WL.val (run_extract rfl rfl) rfl rfl ?_
          refine WL.nil ?_
          refine W.seq ?_
          refine W.condT rfl ?_
          refine W.skip ?_
          refine W.block ?_
          refine W.seq ?_
          obtain ⟨k1, v1, bn1⟩ := e1
          have ob_ := hok.2.2 _ (rem_inM hin)
          obtain ⟨r1, dv1, hr1, hv1, hp1⟩ := ob_
          have hv1 : v1 = r1.val dv1 := hv1
          have hf1 := Cells.form (On.reads (h.fetch (Pool pool)) (Gives.pool hp1))
          obtain ⟨ad1, cd1, hdv1, _⟩ := hf1
          subst hdv1
          subst hv1
          have h := h.fetch (IterC rr g.mb (seen.push bn1) g.ck)
          refine W.region ?_
          refine WL.val (run_entryM h (rem_inM hin) rfl) rfl rfl ?_
          refine WL.val (run_extract rfl rfl) rfl rfl ?_
          refine WL.val (run_extract rfl rfl) rfl rfl ?_
          refine WL.eff (eff_alloc h Tryz.zeroValue36 rfl) rfl rfl ?_
          rintro _ w ⟨b16, rfl, h⟩
          refine WL.val run_assign rfl rfl ?_
          refine WL.eff (eff_storeN (vs := [.int .i64 _, .int .i64 _, .int .i64 _, .slice _ _ _, .int .i64 _]) h Tryz.sizeOf36 rfl rfl rfl rfl rfl (fun k _ _ => free0 k)) rfl rfl ?_
          rintro _ w h
          try simp only [splice, List.take_zero, List.take_succ_cons, List.take_nil, List.drop_succ_cons, List.drop_zero, List.drop_nil, List.nil_append, List.cons_append, List.append_nil, List.length_cons, List.length_nil, Nat.zero_add, Nat.reduceAdd] at h
          refine WL.nil ?_
          refine W.seq ?_
          refine W.region ?_
          refine WL.val run_move rfl rfl ?_
          refine WL.val run_move rfl rfl ?_
          refine WL.val (run_geq rfl rfl) rfl rfl ?_
          refine WL.nil ?_
          refine W.condIf rfl (fun c20 => ?_) (fun c20 => ?_)
          · skip
            refine W.region ?_
            refine WL.val run_move rfl rfl ?_
            refine WL.val run_move rfl rfl ?_
            refine WL.val (run_loadB (vs := [.int .i64 _, .int .i64 _, .int .i64 _, .slice _ _ _, .int .i64 _]) h Tryz.isAgg36 Tryz.sizeOf36 rfl rfl rfl) rfl rfl ?_
            refine WL.eff (eff_mapUpdate (k := k1) (v := r1.val (.slice ad1 r1.data.length cd1)) (h.fetch (MapC b52 .u64 ks ck2)) Tryz.underlying79 Tryz.underlying23 rfl rfl rfl) rfl rfl ?_
            rintro _ w h
            refine WL.nil ?_
            -- round, path FFLTT
            exact ⟨seen.push bn1, ⟨_, putM ks k1 (r1.val (.slice ad1 r1.data.length cd1)) ck2, clockM ks k1 ck2, mkE_of ⟨rfl, rfl, rfl, rfl, rfl, rfl, rfl, rfl, rfl, rfl, trivial⟩, okK_put hK hfit.2.1 (rem_inM hin) c20, h.to⟩, remM_less hin⟩
          · skip
            refine W.skip ?_
            -- round, path FFLTF
            exact ⟨seen.push bn1, ⟨_, ks, ck2, mkE_of ⟨rfl, rfl, rfl, rfl, rfl, rfl, rfl, rfl, rfl, rfl, trivial⟩, okK_skip hK hfit.2.1 (rem_inM hin) c20, h.to⟩, remM_less hin⟩
        · skip
          refine WL.val (run_extract rfl rfl) rfl rfl ?_
          refine WL.nil ?_
          refine W.seq ?_
          refine W.condF rfl ?_
          refine W.exit ?_
          refine W.seq ?_
          refine W.seq ?_
          have hfit2 := (On.mapC (h.fetch (MapC b52 .u64 ks ck2))).1
          have hD : okD pool (keepM g.s.done (flM g.s id floor)) ks := okK_end hok hK hnil hfit2.1
          have hnb : ¬ (id = 0 ∨ id < (u.guest i).floor) := by rw [← hgu]; rintro (e | e); exact c25 e; exact c3 e
          rw [← hgu] at hdl
          refine W.region ?_
          refine WL.val run_move rfl rfl ?_
          refine WL.val run_move rfl rfl ?_
          have hcs := look_ok hD id
          rcases hcs with ⟨r2, dv2, hl1, hl2, hp2⟩ | ⟨hl1, hl2, hno⟩
          have hf2 := Cells.form (On.reads (h.fetch (Pool pool)) (Gives.pool hp2))
          obtain ⟨ad2, cd2, hdv2, _⟩ := hf2
          subst hdv2
          have hks := (On.mapC (h.fetch (MapC b52 .u64 ks ck2))).2
          refine WL.val (run_lookupOkV (v := r2.val (.slice ad2 r2.data.length cd2)) (o := true) hks Tryz.underlying79 Tryz.underlying23 Tryz.zeroValue36 rfl rfl (by rw [hl2]; rfl) (by rw [hl2]; rfl)) rfl rfl ?_
          rotate_left
          have hks := (On.mapC (h.fetch (MapC b52 .u64 ks ck2))).2
          refine WL.val (run_lookupOkV (v := .agg #[.int .i64 0, .int .i64 0, .int .i64 0, .slice none 0 0, .int .i64 0]) (o := false) hks Tryz.underlying79 Tryz.underlying23 Tryz.zeroValue36 rfl rfl (by rw [hl2]; rfl) (by rw [hl2]; rfl)) rfl rfl ?_
          rotate_left
          · skip
            refine WL.val run_move rfl rfl ?_
            refine WL.val (run_extract rfl rfl) rfl rfl ?_
            refine WL.val (run_extract rfl rfl) rfl rfl ?_
            refine WL.eff (eff_alloc h Tryz.zeroValue36 rfl) rfl rfl ?_
            rintro _ w ⟨b17, rfl, h⟩
            refine WL.eff (eff_storeN (vs := [.int .i64 _, .int .i64 _, .int .i64 _, .slice _ _ _, .int .i64 _]) h Tryz.sizeOf36 rfl rfl rfl rfl rfl (fun k _ _ => free0 k)) rfl rfl ?_
            rintro _ w h
            try simp only [splice, List.take_zero, List.take_succ_cons, List.take_nil, List.drop_succ_cons, List.drop_zero, List.drop_nil, List.nil_append, List.cons_append, List.append_nil, List.length_cons, List.length_nil, Nat.zero_add, Nat.reduceAdd] at h
            refine WL.val run_assign rfl rfl ?_
            refine WL.nil ?_
            refine W.seq ?_
            refine W.region ?_
            refine WL.val run_move rfl rfl ?_
            refine WL.nil ?_
            refine W.condT rfl ?_
            refine W.seq ?_
            refine W.region ?_
            refine WL.val run_move rfl rfl ?_
            refine WL.val run_move rfl rfl ?_
            refine WL.val run_move rfl rfl ?_
            refine WL.val run_move rfl rfl ?_
            refine WL.val (run_nilCheck rfl) rfl rfl ?_
            refine WL.val (run_fieldAddr 1 Tryz.underlying81 rfl Tryz.sizeOf23 rfl rfl) rfl rfl ?_
            refine WL.eff (eff_store (v := .int .u64 (flM g.s id floor)) h Tryz.sizeOf23 rfl rfl rfl (ult (bs := bs) (bt := bt) hg (k := 1) (by decide)) (free0 _)) rfl rfl ?_
            rintro _ w h
            have er1 : ({ g with s := { g.s with floor := (flM g.s id floor) } } : GX).row = g.row.set 1 (.int .u64 (flM g.s id floor)) := rfl
            rw [uset (bs := bs) (bt := bt) hg (k := 1) (by decide) er1] at h
            have hg1 : (gs.set i ({ g with s := { g.s with floor := (flM g.s id floor) } } : GX))[i]? = some ({ g with s := { g.s with floor := (flM g.s id floor) } } : GX) := by rw [List.getElem?_set, if_pos rfl, if_pos hig]
            refine WL.val (run_nilCheck rfl) rfl rfl ?_
            refine WL.val (run_fieldAddr 2 Tryz.underlying81 rfl Tryz.sizeOf79 rfl rfl) rfl rfl ?_
            refine WL.eff (eff_store (v := .map (some b52)) h Tryz.sizeOf79 rfl rfl rfl (ult (bs := bs) (bt := bt) hg1 (k := 2) (by decide)) (free0 _)) rfl rfl ?_
            rintro _ w h
            have er2 : ({ g with s := g.s.setD (flM g.s id floor) (keepM g.s.done (flM g.s id floor)), mb := b52, ck := ck2, kvs := ks } : GX).row = ({ g with s := { g.s with floor := (flM g.s id floor) } } : GX).row.set 2 (.map (some b52)) := rfl
            rw [uset (bs := bs) (bt := bt) hg1 (k := 2) (by decide) er2, List.set_set] at h
            have h := Big.close (y := ({ g with s := g.s.setD (flM g.s id floor) (keepM g.s.done (flM g.s id floor)), mb := b52, ck := ck2, kvs := ks } : GX)) hig (closeG (g := ({ g with s := g.s.setD (flM g.s id floor) (keepM g.s.done (flM g.s id floor)), mb := b52, ck := ck2, kvs := ks } : GX)) hD (((h.fetch (Big (GOwn pool) (gs.eraseIdx i))).fetch (MapC b52 .u64 ks ck2)).fetch (CodesO g)))
            have hm' : (gs.set i ({ g with s := g.s.setD (flM g.s id floor) (keepM g.s.done (flM g.s id floor)), mb := b52, ck := ck2, kvs := ks } : GX)).map (·.s) = (u.putG i (onceG u i id floor)).g ∧ (gs.set i ({ g with s := g.s.setD (flM g.s id floor) (keepM g.s.done (flM g.s id floor)), mb := b52, ck := ck2, kvs := ks } : GX)).map (·.mb) = ms.set i b52 := by
              have := put_map2 (g' := ({ g with s := g.s.setD (flM g.s id floor) (keepM g.s.done (flM g.s id floor)), mb := b52, ck := ck2, kvs := ks } : GX)) (i := i) hm
              rw [show ({ g with s := g.s.setD (flM g.s id floor) (keepM g.s.done (flM g.s id floor)), mb := b52, ck := ck2, kvs := ks } : GX).s = onceG u i id floor from by unfold onceG; rw [← hgu]] at this
              exact this
            have h := closeU (bu := bu) (u := (u.putG i (onceG u i id floor))) hm' (put_len hl) ((((h.fetch (Big (GOwn pool) (gs.set i ({ g with s := g.s.setD (flM g.s id floor) (keepM g.s.done (flM g.s id floor)), mb := b52, ck := ck2, kvs := ks } : GX)))).fetch (blk bt u.t.cells 152)).fetch (SpP 146 bs u.s)).fetch (blk bu (ucells bs bt (gs.set i ({ g with s := g.s.setD (flM g.s id floor) (keepM g.s.done (flM g.s id floor)), mb := b52, ck := ck2, kvs := ks } : GX))) 84))
            refine WL.nil ?_
            refine W.seq ?_
            refine W.region ?_
            refine WL.val (run_loadB (vs := [.int .i64 _, .int .i64 _, .int .i64 _, .slice _ _ _, .int .i64 _]) h Tryz.isAgg36 Tryz.sizeOf36 rfl rfl rfl) rfl rfl ?_
            refine WL.eff (eff_call Tryz.call74 (uapart_ok (s1 := r2.st) (k1 := r2.key) (c1 := r2.code) (i1 := r2.info) (d1 := r2.data) (a1 := ad2) (x1 := cd2) h (Gives.to (T := [Pool pool]) (Gives.pool hp2)) (hdl _ (List.mem_filter.1 (lookD_in hl1)).1))) rfl rfl ?_
            rintro _ w ⟨a85, rfl, h⟩
            refine WL.eff (eff_storeN (vs := [.int .i64 _, .int .i64 _, .int .i64 _, .slice _ _ _, .int .i64 _]) h Tryz.sizeOf36 rfl rfl rfl rfl rfl (fun k _ _ => free0 k)) rfl rfl ?_
            rintro _ w h
            try simp only [splice, List.take_zero, List.take_succ_cons, List.take_nil, List.drop_succ_cons, List.drop_zero, List.drop_nil, List.nil_append, List.cons_append, List.append_nil, List.length_cons, List.length_nil, Nat.zero_add, Nat.reduceAdd] at h
            refine WL.val run_assign rfl rfl ?_
            refine WL.nil ?_
            refine W.ret ?_
            refine bodyQ.rctB (vs := [.int .i64 _, .int .i64 _, .int .i64 _, .slice _ _ _, .int .i64 _]) (v2 := .bool _) h Tryz.results26 Tryz.isAgg36 Tryz.sizeOf36 rfl rfl rfl rfl ?_
            -- path FFLFT
            exact ⟨(u.putG i (onceG u i id floor)), r2, false, .slice a85 r2.data.length r2.data.length, ms.set i b52, pool, once_old hnb (by rw [← hgu]; exact hl1), rfl, h.to⟩
          · skip
            refine WL.val run_move rfl rfl ?_
            refine WL.val (run_extract rfl rfl) rfl rfl ?_
            refine WL.val (run_extract rfl rfl) rfl rfl ?_
            refine WL.eff (eff_alloc h Tryz.zeroValue36 rfl) rfl rfl ?_
            rintro _ w ⟨b17, rfl, h⟩
            refine WL.eff (eff_storeN (vs := [.int .i64 _, .int .i64 _, .int .i64 _, .slice _ _ _, .int .i64 _]) h Tryz.sizeOf36 rfl rfl rfl rfl rfl (fun k _ _ => free0 k)) rfl rfl ?_
            rintro _ w h
            try simp only [splice, List.take_zero, List.take_succ_cons, List.take_nil, List.drop_succ_cons, List.drop_zero, List.drop_nil, List.nil_append, List.cons_append, List.append_nil, List.length_cons, List.length_nil, Nat.zero_add, Nat.reduceAdd] at h
            refine WL.val run_assign rfl rfl ?_
            refine WL.nil ?_
            refine W.seq ?_
            refine W.region ?_
            refine WL.val run_move rfl rfl ?_
            refine WL.nil ?_
            refine W.condF rfl ?_
            refine W.skip ?_
            refine W.seq ?_
            refine W.seq ?_
            have hkl : ks.length = (keepM g.s.done (flM g.s id floor)).length := by have := hD.1.length_eq; simpa using this
            refine W.region ?_
            refine WL.val run_move rfl rfl ?_
            refine WL.val (run_lenMap (On.mapC (h.fetch (MapC b52 .u64 ks ck2))).2 rfl Tryz.underlying79 rfl hkl) rfl rfl ?_
            refine WL.val (run_geq rfl rfl) rfl rfl ?_
            refine WL.nil ?_
            refine W.condIf rfl (fun c31 => ?_) (fun c31 => ?_)
            · skip
              refine W.seq ?_
              refine W.region ?_
              refine WL.val (run_loadB (vs := [.int .i64 _, .int .i64 _, .int .i64 _, .slice _ _ _, .int .i64 _]) h Tryz.isAgg36 Tryz.sizeOf36 rfl rfl rfl) rfl rfl ?_
              refine WL.eff (eff_storeN (vs := [.int .i64 _, .int .i64 _, .int .i64 _, .slice _ _ _, .int .i64 _]) h Tryz.sizeOf36 rfl rfl rfl rfl rfl (fun k _ _ => free0 k)) rfl rfl ?_
              rintro _ w h
              try simp only [splice, List.take_zero, List.take_succ_cons, List.take_nil, List.drop_succ_cons, List.drop_zero, List.drop_nil, List.nil_append, List.cons_append, List.append_nil, List.length_cons, List.length_nil, Nat.zero_add, Nat.reduceAdd] at h
              refine WL.val run_assign rfl rfl ?_
              refine WL.nil ?_
              refine W.ret ?_
              refine bodyQ.rctB (vs := [.int .i64 _, .int .i64 _, .int .i64 _, .slice _ _ _, .int .i64 _]) (v2 := .bool _) h Tryz.results26 Tryz.isAgg36 Tryz.sizeOf36 rfl rfl rfl rfl ?_
              -- path FFLFFT
              have h := Big.close (y := g) hig (closeG (g := g) hok (((h.fetch (Big (GOwn pool) (gs.eraseIdx i))).fetch (MapC g.mb .u64 g.kvs g.ck)).fetch (CodesO g)))
              rw [set_same hg] at h
              have h := closeU (bu := bu) (u := u) hm hl ((((h.fetch (Big (GOwn pool) gs)).fetch (blk bt u.t.cells 152)).fetch (SpP 146 bs u.s)).fetch (blk bu (ucells bs bt gs) 84))
              have h : On W0 (OwnB (.slice none 0 0) (plain 8 0 0 : Rp).data :: _) w := h.ownEmpty 1 none
              exact ⟨u, plain 8 0 0, false, .slice none 0 0, ms, pool, (once_full hnb (by rw [← hgu]; exact hl1) (by rw [← hgu]; omega)), rfl, h.to⟩
            · skip
              refine W.skip ?_
              refine W.seq ?_
              refine W.region ?_
              refine WL.val run_move rfl rfl ?_
              refine WL.val run_move rfl rfl ?_
              refine WL.val run_move rfl rfl ?_
              refine WL.val run_move rfl rfl ?_
              refine WL.val (run_nilCheck rfl) rfl rfl ?_
              refine WL.val (run_fieldAddr 1 Tryz.underlying81 rfl Tryz.sizeOf23 rfl rfl) rfl rfl ?_
              refine WL.eff (eff_store (v := .int .u64 (flM g.s id floor)) h Tryz.sizeOf23 rfl rfl rfl (ult (bs := bs) (bt := bt) hg (k := 1) (by decide)) (free0 _)) rfl rfl ?_
              rintro _ w h
              have er1 : ({ g with s := { g.s with floor := (flM g.s id floor) } } : GX).row = g.row.set 1 (.int .u64 (flM g.s id floor)) := rfl
              rw [uset (bs := bs) (bt := bt) hg (k := 1) (by decide) er1] at h
              have hg1 : (gs.set i ({ g with s := { g.s with floor := (flM g.s id floor) } } : GX))[i]? = some ({ g with s := { g.s with floor := (flM g.s id floor) } } : GX) := by rw [List.getElem?_set, if_pos rfl, if_pos hig]
              refine WL.val (run_nilCheck rfl) rfl rfl ?_
              refine WL.val (run_fieldAddr 2 Tryz.underlying81 rfl Tryz.sizeOf79 rfl rfl) rfl rfl ?_
              refine WL.eff (eff_store (v := .map (some b52)) h Tryz.sizeOf79 rfl rfl rfl (ult (bs := bs) (bt := bt) hg1 (k := 2) (by decide)) (free0 _)) rfl rfl ?_
              rintro _ w h
              have er2 : ({ g with s := g.s.setD (flM g.s id floor) (keepM g.s.done (flM g.s id floor)), mb := b52, ck := ck2, kvs := ks } : GX).row = ({ g with s := { g.s with floor := (flM g.s id floor) } } : GX).row.set 2 (.map (some b52)) := rfl
              rw [uset (bs := bs) (bt := bt) hg1 (k := 2) (by decide) er2, List.set_set] at h
              have h := Big.close (y := ({ g with s := g.s.setD (flM g.s id floor) (keepM g.s.done (flM g.s id floor)), mb := b52, ck := ck2, kvs := ks } : GX)) hig (closeG (g := ({ g with s := g.s.setD (flM g.s id floor) (keepM g.s.done (flM g.s id floor)), mb := b52, ck := ck2, kvs := ks } : GX)) hD (((h.fetch (Big (GOwn pool) (gs.eraseIdx i))).fetch (MapC b52 .u64 ks ck2)).fetch (CodesO g)))
              have hm' : (gs.set i ({ g with s := g.s.setD (flM g.s id floor) (keepM g.s.done (flM g.s id floor)), mb := b52, ck := ck2, kvs := ks } : GX)).map (·.s) = (u.putG i (onceG u i id floor)).g ∧ (gs.set i ({ g with s := g.s.setD (flM g.s id floor) (keepM g.s.done (flM g.s id floor)), mb := b52, ck := ck2, kvs := ks } : GX)).map (·.mb) = ms.set i b52 := by
                have := put_map2 (g' := ({ g with s := g.s.setD (flM g.s id floor) (keepM g.s.done (flM g.s id floor)), mb := b52, ck := ck2, kvs := ks } : GX)) (i := i) hm
                rw [show ({ g with s := g.s.setD (flM g.s id floor) (keepM g.s.done (flM g.s id floor)), mb := b52, ck := ck2, kvs := ks } : GX).s = onceG u i id floor from by unfold onceG; rw [← hgu]] at this
                exact this
              have h := closeU (bu := bu) (u := (u.putG i (onceG u i id floor))) hm' (put_len hl) ((((h.fetch (Big (GOwn pool) (gs.set i ({ g with s := g.s.setD (flM g.s id floor) (keepM g.s.done (flM g.s id floor)), mb := b52, ck := ck2, kvs := ks } : GX)))).fetch (blk bt u.t.cells 152)).fetch (SpP 146 bs u.s)).fetch (blk bu (ucells bs bt (gs.set i ({ g with s := g.s.setD (flM g.s id floor) (keepM g.s.done (flM g.s id floor)), mb := b52, ck := ck2, kvs := ks } : GX))) 84))
              refine WL.nil ?_
              refine W.seq ?_
              refine W.region ?_
              refine WL.val run_move rfl rfl ?_
              refine WL.val run_move rfl rfl ?_
              refine WL.val (run_loadB (vs := [.int .i64 _, .int .i64 _, .int .i64 _, .slice _ _ _, .int .u64 _, .int .u64 _, .int .i64 _, .bool _]) h Tryz.isAgg25 Tryz.sizeOf25 rfl rfl rfl) rfl rfl ?_
              refine WL.eff (eff_call Tryz.call13 (do_ok (u := (u.putG i (onceG u i id floor))) hkk (setD_small hl hi hsm) (setD_okC hl hi hC) (h.fetch (UnP 84 146 152 bu pool (ms.set i b52) (u.putG i (onceG u i id floor)))) (Gives.to C) hd)) rfl rfl ?_
              rintro _ w ⟨u', r', dv', heq, rfl, h⟩
              have of_ := Own.form h
              obtain ⟨ad, cd, hdv, _⟩ := of_
              subst hdv
              refine WL.eff (eff_storeN (vs := [.int .i64 _, .int .i64 _, .int .i64 _, .slice _ _ _, .int .i64 _]) h Tryz.sizeOf36 rfl rfl rfl rfl rfl (fun k _ _ => free0 k)) rfl rfl ?_
              rintro _ w h
              try simp only [splice, List.take_zero, List.take_succ_cons, List.take_nil, List.drop_succ_cons, List.drop_zero, List.drop_nil, List.nil_append, List.cons_append, List.append_nil, List.length_cons, List.length_nil, Nat.zero_add, Nat.reduceAdd] at h
              refine WL.nil ?_
              refine W.seq ?_
              refine W.region ?_
              refine WL.val run_move rfl rfl ?_
              refine WL.val run_move rfl rfl ?_
              refine WL.val (run_loadB (vs := [.int .i64 _, .int .i64 _, .int .i64 _, .slice _ _ _, .int .i64 _]) h Tryz.isAgg36 Tryz.sizeOf36 rfl rfl rfl) rfl rfl ?_
              refine WL.eff (eff_call Tryz.call74 (uapart_ok (s1 := r'.st) (k1 := r'.key) (c1 := r'.code) (i1 := r'.info) (d1 := r'.data) (a1 := ad) (x1 := cd) h (Gives.ownO (v := .slice ad r'.data.length cd)) (by have := doM_dlen (u := (u.putG i (onceG u i id floor))) (hh := (i : Int)) (c := (⟨kind, at_, n, data, key, new, typ, force⟩ : Cm)); rw [heq] at this; have this : r'.data.length ≤ 1000 := this; omega))) rfl rfl ?_
              rintro _ w ⟨a105, rfl, h⟩
              have hkp := kept_do (u := (u.putG i (onceG u i id floor))) (hh := (i : Int)) (c := (⟨kind, at_, n, data, key, new, typ, force⟩ : Cm)) (put_len hl)
              rw [heq] at hkp
              have hkd := hkp.2.1 i hi
              rw [guest_put hl hi] at hkd
              have h := On.toPool ((h.fetch (Pool pool)).fetch (OwnB (.slice a105 r'.data.length r'.data.length) r'.data))
              have h := UnP_more (p := (.slice a105 r'.data.length r'.data.length, r'.data)) (h.fetch (UnP 84 146 152 bu pool (ms.set i b52) u'))
              have ob_ := openU h
              obtain ⟨bs2, bt2, gs2, hm2, hl2, h⟩ := ob_
              have ob_ := row_of hm2 hl2 hi
              obtain ⟨g2, hg2, hgu2⟩ := ob_
              have hig2 : i < gs2.length := (List.getElem?_eq_some_iff.1 hg2).1
              have h := Big.open hg2 (h.fetch (Big (GOwn ((.slice a105 r'.data.length r'.data.length, r'.data) :: pool)) gs2))
              have ob_ := openG h
              obtain ⟨hok2, h⟩ := ob_
              have hmb2 : g2.mb = b52 := by
                have e1 := mb_of hm2.2 hg2
                rw [List.getElem?_set, if_pos rfl, if_pos (by rw [← hm.2, List.length_map]; exact hig)] at e1
                exact (Option.some.inj e1).symm
              have hdn : g2.s.done = (keepM g.s.done (flM g.s id floor)) := by rw [hgu2, hkd.2]; unfold onceG; rw [← hgu]; rfl
              have hfn : g2.s.floor = (flM g.s id floor) := by rw [hgu2, hkd.1]; unfold onceG; rw [← hgu]; rfl
              refine WL.eff (eff_mapUpdate (k := id) (v := r'.val (.slice a105 r'.data.length r'.data.length)) (h.fetch (MapC g2.mb .u64 g2.kvs g2.ck)) Tryz.underlying79 Tryz.underlying23 (congrArg (fun q => Value.map (some q)) hmb2.symm) rfl rfl) rfl rfl ?_
              rintro _ w h
              have hok3 := okD_putIn (id := id) (r := r') (dv := .slice a105 r'.data.length r'.data.length) (ck := g2.ck) hok2 (List.mem_cons_self ..) (by rw [hdn]; exact hno)
              rw [hdn] at hok3
              have er3 : ({ g2 with s := g2.s.setD (flM g.s id floor) ((keepM g.s.done (flM g.s id floor)) ++ [(id, r')]), kvs := putM g2.kvs id (r'.val (.slice a105 r'.data.length r'.data.length)) g2.ck, ck := clockM g2.kvs id g2.ck } : GX).row = g2.row := by
                show [_, Value.int .u64 (flM g.s id floor), _] = [_, Value.int .u64 g2.s.floor, _]
                rw [hfn]; rfl
              have h := Big.close (y := ({ g2 with s := g2.s.setD (flM g.s id floor) ((keepM g.s.done (flM g.s id floor)) ++ [(id, r')]), kvs := putM g2.kvs id (r'.val (.slice a105 r'.data.length r'.data.length)) g2.ck, ck := clockM g2.kvs id g2.ck } : GX)) hig2 (closeG (g := ({ g2 with s := g2.s.setD (flM g.s id floor) ((keepM g.s.done (flM g.s id floor)) ++ [(id, r')]), kvs := putM g2.kvs id (r'.val (.slice a105 r'.data.length r'.data.length)) g2.ck, ck := clockM g2.kvs id g2.ck } : GX)) hok3 (((h.fetch (Big (GOwn ((.slice a105 r'.data.length r'.data.length, r'.data) :: pool)) (gs2.eraseIdx i))).fetch (MapC ({ g2 with s := g2.s.setD (flM g.s id floor) ((keepM g.s.done (flM g.s id floor)) ++ [(id, r')]), kvs := putM g2.kvs id (r'.val (.slice a105 r'.data.length r'.data.length)) g2.ck, ck := clockM g2.kvs id g2.ck } : GX).mb .u64 ({ g2 with s := g2.s.setD (flM g.s id floor) ((keepM g.s.done (flM g.s id floor)) ++ [(id, r')]), kvs := putM g2.kvs id (r'.val (.slice a105 r'.data.length r'.data.length)) g2.ck, ck := clockM g2.kvs id g2.ck } : GX).kvs ({ g2 with s := g2.s.setD (flM g.s id floor) ((keepM g.s.done (flM g.s id floor)) ++ [(id, r')]), kvs := putM g2.kvs id (r'.val (.slice a105 r'.data.length r'.data.length)) g2.ck, ck := clockM g2.kvs id g2.ck } : GX).ck)).fetch (CodesO g2)))
              have h := h.fetch (blk bu (ucells bs2 bt2 gs2) 84)
              rw [show ucells bs2 bt2 gs2 = ucells bs2 bt2 (gs2.set i ({ g2 with s := g2.s.setD (flM g.s id floor) ((keepM g.s.done (flM g.s id floor)) ++ [(id, r')]), kvs := putM g2.kvs id (r'.val (.slice a105 r'.data.length r'.data.length)) g2.ck, ck := clockM g2.kvs id g2.ck } : GX)) from by show _ :: _ :: _ = _ :: _ :: (gs2.set i ({ g2 with s := g2.s.setD (flM g.s id floor) ((keepM g.s.done (flM g.s id floor)) ++ [(id, r')]), kvs := putM g2.kvs id (r'.val (.slice a105 r'.data.length r'.data.length)) g2.ck, ck := clockM g2.kvs id g2.ck } : GX)).flatMap GX.row; rw [rows_same hg2 er3]] at h
              have hm3 : (gs2.set i ({ g2 with s := g2.s.setD (flM g.s id floor) ((keepM g.s.done (flM g.s id floor)) ++ [(id, r')]), kvs := putM g2.kvs id (r'.val (.slice a105 r'.data.length r'.data.length)) g2.ck, ck := clockM g2.kvs id g2.ck } : GX)).map (·.s) = (u'.putG i ((u'.guest i).setD (flM g.s id floor) ((keepM g.s.done (flM g.s id floor)) ++ [(id, r')]))).g ∧ (gs2.set i ({ g2 with s := g2.s.setD (flM g.s id floor) ((keepM g.s.done (flM g.s id floor)) ++ [(id, r')]), kvs := putM g2.kvs id (r'.val (.slice a105 r'.data.length r'.data.length)) g2.ck, ck := clockM g2.kvs id g2.ck } : GX)).map (·.mb) = ms.set i b52 := by
                have := put_map (g' := ({ g2 with s := g2.s.setD (flM g.s id floor) ((keepM g.s.done (flM g.s id floor)) ++ [(id, r')]), kvs := putM g2.kvs id (r'.val (.slice a105 r'.data.length r'.data.length)) g2.ck, ck := clockM g2.kvs id g2.ck } : GX)) hm2 hg2 rfl
                rw [← hgu2]
                exact this
              have h := closeU (bu := bu) (u := u'.putG i ((u'.guest i).setD (flM g.s id floor) ((keepM g.s.done (flM g.s id floor)) ++ [(id, r')]))) hm3 (put_len hl2) ((((h.fetch (Big (GOwn ((.slice a105 r'.data.length r'.data.length, r'.data) :: pool)) (gs2.set i ({ g2 with s := g2.s.setD (flM g.s id floor) ((keepM g.s.done (flM g.s id floor)) ++ [(id, r')]), kvs := putM g2.kvs id (r'.val (.slice a105 r'.data.length r'.data.length)) g2.ck, ck := clockM g2.kvs id g2.ck } : GX)))).fetch (blk bt2 u'.t.cells 152)).fetch (SpP 146 bs2 u'.s)).fetch (blk bu (ucells bs2 bt2 (gs2.set i ({ g2 with s := g2.s.setD (flM g.s id floor) ((keepM g.s.done (flM g.s id floor)) ++ [(id, r')]), kvs := putM g2.kvs id (r'.val (.slice a105 r'.data.length r'.data.length)) g2.ck, ck := clockM g2.kvs id g2.ck } : GX))) 84))
              refine WL.nil ?_
              refine W.seq ?_
              refine W.region ?_
              refine WL.val (run_loadB (vs := [.int .i64 _, .int .i64 _, .int .i64 _, .slice _ _ _, .int .i64 _]) h Tryz.isAgg36 Tryz.sizeOf36 rfl rfl rfl) rfl rfl ?_
              refine WL.eff (eff_storeN (vs := [.int .i64 _, .int .i64 _, .int .i64 _, .slice _ _ _, .int .i64 _]) h Tryz.sizeOf36 rfl rfl rfl rfl rfl (fun k _ _ => free0 k)) rfl rfl ?_
              rintro _ w h
              try simp only [splice, List.take_zero, List.take_succ_cons, List.take_nil, List.drop_succ_cons, List.drop_zero, List.drop_nil, List.nil_append, List.cons_append, List.append_nil, List.length_cons, List.length_nil, Nat.zero_add, Nat.reduceAdd] at h
              refine WL.val run_assign rfl rfl ?_
              refine WL.nil ?_
              refine W.ret ?_
              refine bodyQ.rctB (vs := [.int .i64 _, .int .i64 _, .int .i64 _, .slice _ _ _, .int .i64 _]) (v2 := .bool _) h Tryz.results26 Tryz.isAgg36 Tryz.sizeOf36 rfl rfl rfl rfl ?_
              -- path FFLFFF
              exact ⟨_, r', true, .slice ad r'.data.length cd, ms.set i b52, ((.slice a105 r'.data.length r'.data.length, r'.data) :: pool), by rw [once_new hnb (by rw [← hgu]; exact hl1) (by rw [← hgu]; omega) heq, ← hgu], rfl, h.to⟩

end Go.Proofs.YtdpakoefdpmebaaGreat
