/-
  A unit: commands by their numbers: the contracts. Lines of walks printed by a program of the prover's.
-/
import Derived.Test.YtjbgiingimhnnaaGreatUnitTwinsFQ3
import Derived.Test.YtjbgiingimhnnaaGreatUnitTwinsFQ5
import Derived.Laws.Externs
import GoSem.Extern.MapsClone
import GoSem.Instr.MakeInterface
import GoSem.Instr.TypeAssert
import Derived.RangeFuncIn
import Derived.RangeFuncRecord
import Derived.RangeFuncSeq
import Derived.TacticsIn
import Derived.Test.YtjbgiingimhnnaaGreatUnitTwinsFQ2
import Derived.Test.YtjbgiingimhnnaaGreatUnitTwinsFQ1
namespace Go.Proofs.YtjbgiingimhnnaaGreat
open Go.Proofs.Tryz
open Go Go.Sl Go.Sl.BitM Go.Sl.SpM Go.Sl.RsM Go.Sl.ByM Go.Sl.UnM
set_option linter.unusedVariables false
set_option linter.unusedSimpArgs false
set_option maxHeartbeats 1000000
set_option maxRecDepth 8000
variable {W0 w : World} {L F : List HProp}
theorem uuonce_ok {bu i : Nat} {id floor : Int} {u : Un} {pool : PoolL} {ms : List Nat} {kind at_ n key new typ : Int} {force : Bool} {data : List UInt8} {ax : Option Addr} {cx : Nat} (hi : i < 8) (hsm : small 999000 u) (hgu_ : goodU u) (hcm : okCm (⟨kind, at_, n, data, key, new, typ, force⟩ : Cm)) (hdl : ∀ x ∈ (u.guest i).done, x.2.data.length ≤ 1000000) (h : On W0 (UnP 68 105 113 bu pool ms u :: Pool pool :: L) w) (C : Gives L (Bytes (.slice ax data.length cx) data)) (hd : data.length ≤ 1000000) : Calls Tryz.prog 16 #[.pointer (some ⟨bu, 0, none⟩), .int .i64 (i : Int), .int .u64 id, .int .u64 floor, (⟨kind, at_, n, data, key, new, typ, force⟩ : Cm).val (.slice ax data.length cx)] w (Ret fun v w' => ∃ u' r fresh dv ms' pool', onceM u i id floor (⟨kind, at_, n, data, key, new, typ, force⟩ : Cm) = (u', r, fresh) ∧ v = .tuple #[r.val dv, .bool fresh] ∧ (∀ p ∈ pool, p ∈ pool') ∧ On W0 (OwnB dv r.data :: UnP 68 105 113 bu pool' ms' u' :: Pool pool' :: L) w') := by
  refine enter func16 rfl ntmps16 rfl ?_
  have hmx := maxLen_eq
  have ob_ := openU h
  obtain ⟨bs, bt, gs, hm, hl, h⟩ := ob_
  have ob_ := row_of hm hl hi
  obtain ⟨g, hg, hgu⟩ := ob_
  have h := Big.open hg (h.fetch (Big (GOwn pool) gs))
  have ob_ := openG h
  obtain ⟨hok, h⟩ := ob_
  have ob1_ := Own.bounds h
  obtain ⟨hb1, hb2⟩ := ob1_
  have hig : i < gs.length := by have := (List.getElem?_eq_some_iff.1 hg).1; omega
  refine W.seq (W.region (WL.eff (eff_box (v := .agg _) (l := (⟨kind, at_, n, data, key, new, typ, force⟩ : Cm).cells (.slice ax data.length cx)) h rfl rfl) rfl rfl ?_))
  rintro _ w ⟨b9, rfl, h⟩
  have h : On W0 (blk b9 [.int .i64 kind, .int .i64 at_, .int .i64 n, .slice ax data.length cx, .int .u64 key, .int .u64 new, .int .i64 typ, .bool force] 25 :: _) w := h
  refine WL.eff (eff_alloc h zeroValue36 rfl) rfl rfl ?_
  rintro _ w ⟨b10, rfl, h⟩
  refine WL.val run_assign rfl rfl (WL.nil (W.seq (W.region (WL.val (run_buildS (pl := [(0, 1), (1, 1), (2, 1), (3, 1), (4, 1)]) (out := [.int .i64 _, .int .i64 _, .int .i64 _, .slice _ _ _, .int .i64 _]) underlying36 zeroValue36 (fun w => by kernel_rfl) rfl (⟨⟨_, _, rfl, rfl, by decide⟩, trivial⟩) rfl) rfl rfl (WL.eff (eff_alloc h zeroValue36 rfl) rfl rfl ?_)))))
  rintro _ w ⟨b12, rfl, h⟩
  refine WL.eff (eff_storeW (vs := [.int .i64 _, .int .i64 _, .int .i64 _, .slice _ _ _, .int .i64 _]) h sizeOf36 rfl rfl rfl rfl rfl) rfl rfl ?_
  rintro _ w h
  refine WL.nil (W.seq (W.seq (W.region (WL.val run_move rfl rfl (WL.eff (eff_call call25 (uhost_ok h)) rfl rfl ?_)))))
  rintro _ w ⟨hv, h⟩
  rw [host_nat hi] at hv
  subst hv
  refine WL.val (run_not rfl) rfl rfl (WL.val run_move rfl rfl (WL.val run_move rfl rfl ?_))
  refine WL.dec (run_eql rfl rfl) rfl rfl (fun c25 => ?_) (fun c25 => ?_)
  ·
   refine WL.val (run_pickF rfl) rfl rfl (WL.val run_move rfl rfl (WL.skip rfl rfl (WL.skip rfl rfl (WL.skip rfl rfl (WL.skip rfl rfl (WL.skip rfl rfl (WL.skip rfl rfl ?_)))))))
   refine WL.skip rfl rfl (WL.skip rfl rfl (WL.skip rfl rfl (WL.val (run_pickT rfl) rfl rfl (WL.nil (W.condT rfl (W.seq (W.region ?_)))))))
   refine WL.val (run_loadB (vs := [.int .i64 _, .int .i64 _, .int .i64 _, .slice _ _ _, .int .i64 _]) h isAgg36 sizeOf36 rfl rfl rfl) rfl rfl (WL.eff (eff_storeW (vs := [.int .i64 _, .int .i64 _, .int .i64 _, .slice _ _ _, .int .i64 _]) h sizeOf36 rfl rfl rfl rfl rfl) rfl rfl ?_)
   rintro _ w h
   refine WL.val run_assign rfl rfl (WL.nil (W.ret (bodyQ.rctB (vs := [.int .i64 _, .int .i64 _, .int .i64 _, .slice _ _ _, .int .i64 _]) (v2 := .bool _) h results16 isAgg36 sizeOf36 rfl rfl rfl rfl ?_)))
   have h := Big.close (y := g) hig (closeG (g := g) hok (((h.fetch (Big (GOwn pool) (gs.eraseIdx i))).fetch (MapC g.mb .u64 g.kvs g.ck)).fetch (CodesO g)))
   rw [set_same hg] at h
   have h := closeU (bu := bu) (u := u) hm hl ((((h.fetch (Big (GOwn pool) gs)).fetch (blk bt u.t.cells 113)).fetch (SpP 105 bs u.s)).fetch (blk bu (ucells bs bt gs) 68))
   have h : On W0 (OwnB (.slice none 0 0) (plain 8 0 0 : Rp).data :: _) w := h.ownEmpty 1 none
   exact ⟨u, plain 8 0 0, false, .slice none 0 0, ms, pool, (once_busy (.inl c25)), rfl, (fun p hp => hp), h.to⟩
  refine WL.val (run_pickF rfl) rfl rfl (WL.val run_move rfl rfl (WL.val run_move rfl rfl (WL.val run_move rfl rfl (WL.val run_move rfl rfl (WL.val (run_nilCheck rfl) rfl rfl (WL.val (run_fieldAddr 2 underlying68 rfl sizeOf66 rfl rfl) rfl rfl (WL.val (run_indexAddrArr underlying66 sizeOf65 rfl rfl (by omega) (by omega)) rfl rfl ?_)))))))
  refine WL.val (run_fieldAddr 1 underlying65 rfl sizeOf23 rfl rfl) rfl rfl (WL.val (run_load1 isAgg23 rfl (h.cellB (ucell (bs := bs) (bt := bt) hg (k := 1) (by decide) rfl))) rfl rfl (WL.val (run_lss rfl rfl) rfl rfl (WL.val (run_pickF rfl) rfl rfl (WL.nil ?_))))
  refine W.condIf rfl (fun c3 => ?_) (fun c3 => ?_)
  ·
   refine W.seq (W.region (WL.val (run_loadB (vs := [.int .i64 _, .int .i64 _, .int .i64 _, .slice _ _ _, .int .i64 _]) h isAgg36 sizeOf36 rfl rfl rfl) rfl rfl (WL.eff (eff_storeW (vs := [.int .i64 _, .int .i64 _, .int .i64 _, .slice _ _ _, .int .i64 _]) h sizeOf36 rfl rfl rfl rfl rfl) rfl rfl ?_)))
   rintro _ w h
   refine WL.val run_assign rfl rfl (WL.nil (W.ret (bodyQ.rctB (vs := [.int .i64 _, .int .i64 _, .int .i64 _, .slice _ _ _, .int .i64 _]) (v2 := .bool _) h results16 isAgg36 sizeOf36 rfl rfl rfl rfl ?_)))
   have h := Big.close (y := g) hig (closeG (g := g) hok (((h.fetch (Big (GOwn pool) (gs.eraseIdx i))).fetch (MapC g.mb .u64 g.kvs g.ck)).fetch (CodesO g)))
   rw [set_same hg] at h
   have h := closeU (bu := bu) (u := u) hm hl ((((h.fetch (Big (GOwn pool) gs)).fetch (blk bt u.t.cells 113)).fetch (SpP 105 bs u.s)).fetch (blk bu (ucells bs bt gs) 68))
   have h : On W0 (OwnB (.slice none 0 0) (plain 8 0 0 : Rp).data :: _) w := h.ownEmpty 1 none
   exact ⟨u, plain 8 0 0, false, .slice none 0 0, ms, pool, (once_busy (.inr (by rw [← hgu]; exact c3))), rfl, (fun p hp => hp), h.to⟩
  refine W.skip (W.seq (W.region (WL.val run_move rfl rfl (WL.val run_move rfl rfl (WL.val (run_nilCheck rfl) rfl rfl (WL.val (run_fieldAddr 2 underlying68 rfl sizeOf66 rfl rfl) rfl rfl (WL.val (run_indexAddrArr underlying66 sizeOf65 rfl rfl (by omega) (by omega)) rfl rfl ?_)))))))
  refine WL.val run_assign rfl rfl (WL.nil (W.seq (W.region (WL.val run_move rfl rfl (WL.val run_move rfl rfl (WL.val (run_minI rfl rfl) rfl rfl (WL.val run_move rfl rfl ?_)))))))
  refine WL.val (run_nilCheck rfl) rfl rfl (WL.val (run_fieldAddr 1 underlying65 rfl sizeOf23 rfl rfl) rfl rfl (WL.val (run_load1 isAgg23 rfl (h.cellB (ucell (bs := bs) (bt := bt) hg (k := 1) (by decide) rfl))) rfl rfl (WL.val (run_maxI rfl rfl) rfl rfl (WL.val run_assign rfl rfl (WL.nil (W.seq (W.region ?_)))))))
  refine WL.eff (eff_makeMap (kd := .u64) h) rfl rfl ?_
  rintro _ w ⟨b52, rfl, h⟩
  refine WL.val run_assign rfl rfl (WL.nil (W.seq (W.seq (W.region (WL.val run_move rfl rfl (WL.val (run_nilCheck rfl) rfl rfl (WL.val (run_fieldAddr 2 underlying65 rfl sizeOf63 rfl rfl) rfl rfl ?_)))))))
  refine WL.val (run_load1 isAgg63 rfl (h.cellB (ucell (bs := bs) (bt := bt) hg (k := 2) (by decide) rfl))) rfl rfl (WL.eff (eff_range (h.fetch (MapC g.mb .u64 g.kvs g.ck)) underlying63 rfl) rfl rfl ?_)
  rintro _ w ⟨rr, rfl, h⟩
  have hfit := (On.mapC (h.fetch (MapC g.mb .u64 g.kvs g.ck))).1
  refine WL.nil (W.block ?_)
  refine W.loop (fun (seen : Array Nat) env w => ∃ (j : Env) (ks : List KV) (ck2 : Nat), env = mkE j [(0, .pointer (some ⟨bu, 0, none⟩)), (1, .int .i64 (i : Int)), (2, .int .u64 id), (3, .int .u64 (max (min floor id) g.s.floor)), (9, .pointer (some ⟨b9, 0, none⟩)), (10, .pointer (some ⟨b10, 0, none⟩)), (12, .pointer (some ⟨b12, 0, none⟩)), (13, .pointer (some ⟨bu, 0 + 2 + ((i : Nat) : Int).toNat * 3, none⟩)), (14, .map (some b52)), (57, .pointer (some ⟨rr, 0, none⟩))] ∧ okK g.kvs (max (min floor id) g.s.floor) seen ks ∧ On W0 (IterC rr g.mb seen g.ck :: MapC g.mb .u64 g.kvs g.ck :: MapC b52 .u64 ks ck2 :: CodesO g :: Big (GOwn pool) (gs.eraseIdx i) :: blk bu (ucells bs bt gs) 68 :: SpP 105 bs u.s :: blk bt u.t.cells 113 :: blk b12 [.int .i64 8, .int .i64 0, .int .i64 0, .slice none 0 0, .int .i64 0] 36 :: blk b10 [.int .i64 0, .int .i64 0, .int .i64 0, .slice none 0 0, .int .i64 0] 36 :: blk b9 [.int .i64 kind, .int .i64 at_, .int .i64 n, .slice ax data.length cx, .int .u64 key, .int .u64 new, .int .i64 typ, .bool force] 25 :: Pool pool :: L) w) (fun seen => (remM g.kvs seen).length) (#[]) ?_ ?_
  · exact ⟨_, [], 0, mkE_of ⟨rfl, rfl, rfl, rfl, rfl, rfl, rfl, rfl, rfl, rfl, trivial⟩, okK_start, h.to⟩
  rintro seen env w ⟨j, ks, ck2, rfl, hK, h⟩
  refine W.seq (W.region (WL.eff (eff_next (h.fetch (IterC rr g.mb seen g.ck)) rfl) rfl rfl ?_))
  rintro _ w h0
  rcases h0 with ⟨hnil, rfl, h⟩ | ⟨e1, hin, rfl, h⟩
  rotate_left
  ·
   refine WL.val (run_extract rfl rfl) rfl rfl (WL.nil (W.seq (W.condT rfl (W.skip (W.block (W.seq ?_))))))
   obtain ⟨k1, v1, bn1⟩ := e1
   have ob_ := hok.2.2 _ (rem_inM hin)
   obtain ⟨r1, dv1, hr1, hv1, hp1⟩ := ob_
   have hv1 : v1 = r1.val dv1 := hv1
   have hf1 := Cells.form (On.reads (h.fetch (Pool pool)) (Gives.pool hp1))
   obtain ⟨ad1, cd1, hdv1, _⟩ := hf1
   subst hdv1
   subst hv1
   have h := h.fetch (IterC rr g.mb (seen.push bn1) g.ck)
   refine W.region (WL.val (run_entryM h (rem_inM hin) rfl) rfl rfl (WL.val (run_extract rfl rfl) rfl rfl (WL.val (run_extract rfl rfl) rfl rfl (WL.eff (eff_alloc h zeroValue36 rfl) rfl rfl ?_))))
   rintro _ w ⟨b16, rfl, h⟩
   refine WL.val run_assign rfl rfl (WL.eff (eff_storeW (vs := [.int .i64 _, .int .i64 _, .int .i64 _, .slice _ _ _, .int .i64 _]) h sizeOf36 rfl rfl rfl rfl rfl) rfl rfl ?_)
   rintro _ w h
   refine WL.nil (W.seq (W.region (WL.val run_move rfl rfl (WL.val run_move rfl rfl (WL.val (run_geq rfl rfl) rfl rfl (WL.nil ?_))))))
   refine W.condIf rfl (fun c20 => ?_) (fun c20 => ?_)
   ·
    refine W.region (WL.val run_move rfl rfl (WL.val run_move rfl rfl (WL.val (run_loadB (vs := [.int .i64 _, .int .i64 _, .int .i64 _, .slice _ _ _, .int .i64 _]) h isAgg36 sizeOf36 rfl rfl rfl) rfl rfl (WL.eff (eff_mapUpdate (k := k1) (v := r1.val (.slice ad1 r1.data.length cd1)) (h.fetch (MapC b52 .u64 ks ck2)) underlying63 underlying23 rfl rfl rfl) rfl rfl ?_))))
    rintro _ w h
    refine WL.nil ?_
    exact ⟨seen.push bn1, ⟨_, putM ks k1 (r1.val (.slice ad1 r1.data.length cd1)) ck2, clockM ks k1 ck2, mkE_of ⟨rfl, rfl, rfl, rfl, rfl, rfl, rfl, rfl, rfl, rfl, trivial⟩, okK_put hK hfit.2.1 (rem_inM hin) c20, h.to⟩, remM_less hin⟩
   refine W.skip ?_
   exact ⟨seen.push bn1, ⟨_, ks, ck2, mkE_of ⟨rfl, rfl, rfl, rfl, rfl, rfl, rfl, rfl, rfl, rfl, trivial⟩, okK_skip hK hfit.2.1 (rem_inM hin) c20, h.to⟩, remM_less hin⟩
  refine WL.val (run_extract rfl rfl) rfl rfl (WL.nil (W.seq (W.condF rfl (W.exit (W.seq (W.seq ?_))))))
  have hfit2 := (On.mapC (h.fetch (MapC b52 .u64 ks ck2))).1
  have hD : okD pool (keepM g.s.done (flM g.s id floor)) ks := okK_end hok hK hnil hfit2.1
  have hnb : ¬ (id = 0 ∨ id < (u.guest i).floor) := by rw [← hgu]; rintro (e | e); exact c25 e; exact c3 e
  rw [← hgu] at hdl
  refine W.region (WL.val run_move rfl rfl (WL.val run_move rfl rfl ?_))
  have hcs := look_ok hD id
  rcases hcs with ⟨r2, dv2, hl1, hl2, hp2⟩ | ⟨hl1, hl2, hno⟩
  have hf2 := Cells.form (On.reads (h.fetch (Pool pool)) (Gives.pool hp2))
  obtain ⟨ad2, cd2, hdv2, _⟩ := hf2
  subst hdv2
  have hks := (On.mapC (h.fetch (MapC b52 .u64 ks ck2))).2
  refine WL.val (run_lookupOkV (v := r2.val (.slice ad2 r2.data.length cd2)) (o := true) hks underlying63 underlying23 zeroValue36 rfl rfl (by rw [hl2]; rfl) (by rw [hl2]; rfl)) rfl rfl ?_
  rotate_left
  have hks := (On.mapC (h.fetch (MapC b52 .u64 ks ck2))).2
  refine WL.val (run_lookupOkV (v := .agg #[.int .i64 0, .int .i64 0, .int .i64 0, .slice none 0 0, .int .i64 0]) (o := false) hks underlying63 underlying23 zeroValue36 rfl rfl (by rw [hl2]; rfl) (by rw [hl2]; rfl)) rfl rfl ?_
  rotate_left
  ·
   refine WL.val run_move rfl rfl (WL.val (run_extract rfl rfl) rfl rfl (WL.val (run_extract rfl rfl) rfl rfl (WL.eff (eff_alloc h zeroValue36 rfl) rfl rfl ?_)))
   rintro _ w ⟨b17, rfl, h⟩
   refine WL.eff (eff_storeW (vs := [.int .i64 _, .int .i64 _, .int .i64 _, .slice _ _ _, .int .i64 _]) h sizeOf36 rfl rfl rfl rfl rfl) rfl rfl ?_
   rintro _ w h
   refine WL.val run_assign rfl rfl (WL.nil (W.seq (W.region (WL.val run_move rfl rfl (WL.nil (W.condT rfl (W.seq ?_)))))))
   refine W.region (WL.val run_move rfl rfl (WL.val run_move rfl rfl (WL.val run_move rfl rfl (WL.val run_move rfl rfl (WL.val (run_nilCheck rfl) rfl rfl (WL.val (run_fieldAddr 1 underlying65 rfl sizeOf23 rfl rfl) rfl rfl (WL.eff (eff_store (v := .int .u64 (flM g.s id floor)) h sizeOf23 rfl rfl rfl (ult (bs := bs) (bt := bt) hg (k := 1) (by decide)) (free0 _)) rfl rfl ?_)))))))
   rintro _ w h
   have er1 : ({ g with s := { g.s with floor := (flM g.s id floor) } } : GX).row = g.row.set 1 (.int .u64 (flM g.s id floor)) := rfl
   rw [uset (bs := bs) (bt := bt) hg (k := 1) (by decide) er1] at h
   have hg1 : (gs.set i ({ g with s := { g.s with floor := (flM g.s id floor) } } : GX))[i]? = some ({ g with s := { g.s with floor := (flM g.s id floor) } } : GX) := by rw [List.getElem?_set, if_pos rfl, if_pos hig]
   refine WL.val (run_nilCheck rfl) rfl rfl (WL.val (run_fieldAddr 2 underlying65 rfl sizeOf63 rfl rfl) rfl rfl (WL.eff (eff_store (v := .map (some b52)) h sizeOf63 rfl rfl rfl (ult (bs := bs) (bt := bt) hg1 (k := 2) (by decide)) (free0 _)) rfl rfl ?_))
   rintro _ w h
   have er2 : ({ g with s := g.s.setD (flM g.s id floor) (keepM g.s.done (flM g.s id floor)), mb := b52, ck := ck2, kvs := ks } : GX).row = ({ g with s := { g.s with floor := (flM g.s id floor) } } : GX).row.set 2 (.map (some b52)) := rfl
   rw [uset (bs := bs) (bt := bt) hg1 (k := 2) (by decide) er2, List.set_set] at h
   have h := Big.close (y := ({ g with s := g.s.setD (flM g.s id floor) (keepM g.s.done (flM g.s id floor)), mb := b52, ck := ck2, kvs := ks } : GX)) hig (closeG (g := ({ g with s := g.s.setD (flM g.s id floor) (keepM g.s.done (flM g.s id floor)), mb := b52, ck := ck2, kvs := ks } : GX)) hD (((h.fetch (Big (GOwn pool) (gs.eraseIdx i))).fetch (MapC b52 .u64 ks ck2)).fetch (CodesO g)))
   have hm' : (gs.set i ({ g with s := g.s.setD (flM g.s id floor) (keepM g.s.done (flM g.s id floor)), mb := b52, ck := ck2, kvs := ks } : GX)).map (·.s) = (u.putG i (onceG u i id floor)).g ∧ (gs.set i ({ g with s := g.s.setD (flM g.s id floor) (keepM g.s.done (flM g.s id floor)), mb := b52, ck := ck2, kvs := ks } : GX)).map (·.mb) = ms.set i b52 := by
     have := put_map2 (g' := ({ g with s := g.s.setD (flM g.s id floor) (keepM g.s.done (flM g.s id floor)), mb := b52, ck := ck2, kvs := ks } : GX)) (i := i) hm
     rw [show ({ g with s := g.s.setD (flM g.s id floor) (keepM g.s.done (flM g.s id floor)), mb := b52, ck := ck2, kvs := ks } : GX).s = onceG u i id floor from by unfold onceG; rw [← hgu]] at this
     exact this
   have h := closeU (bu := bu) (u := (u.putG i (onceG u i id floor))) hm' (put_len hl) ((((h.fetch (Big (GOwn pool) (gs.set i ({ g with s := g.s.setD (flM g.s id floor) (keepM g.s.done (flM g.s id floor)), mb := b52, ck := ck2, kvs := ks } : GX)))).fetch (blk bt u.t.cells 113)).fetch (SpP 105 bs u.s)).fetch (blk bu (ucells bs bt (gs.set i ({ g with s := g.s.setD (flM g.s id floor) (keepM g.s.done (flM g.s id floor)), mb := b52, ck := ck2, kvs := ks } : GX))) 68))
   refine WL.nil (W.seq (W.region (WL.val (run_loadB (vs := [.int .i64 _, .int .i64 _, .int .i64 _, .slice _ _ _, .int .i64 _]) h isAgg36 sizeOf36 rfl rfl rfl) rfl rfl (WL.eff (eff_call call46 (uapart_ok (s1 := r2.st) (k1 := r2.key) (c1 := r2.code) (i1 := r2.info) (d1 := r2.data) (a1 := ad2) (x1 := cd2) h (Gives.to (T := [Pool pool]) (Gives.pool hp2)) (hdl _ (List.mem_filter.1 (lookD_in hl1)).1))) rfl rfl ?_))))
   rintro _ w ⟨a85, rfl, h⟩
   refine WL.eff (eff_storeW (vs := [.int .i64 _, .int .i64 _, .int .i64 _, .slice _ _ _, .int .i64 _]) h sizeOf36 rfl rfl rfl rfl rfl) rfl rfl ?_
   rintro _ w h
   refine WL.val run_assign rfl rfl (WL.nil (W.ret (bodyQ.rctB (vs := [.int .i64 _, .int .i64 _, .int .i64 _, .slice _ _ _, .int .i64 _]) (v2 := .bool _) h results16 isAgg36 sizeOf36 rfl rfl rfl rfl ?_)))
   exact ⟨(u.putG i (onceG u i id floor)), r2, false, .slice a85 r2.data.length r2.data.length, ms.set i b52, pool, once_old hnb (by rw [← hgu]; exact hl1), rfl, (fun p hp => hp), h.to⟩
  refine WL.val run_move rfl rfl (WL.val (run_extract rfl rfl) rfl rfl (WL.val (run_extract rfl rfl) rfl rfl (WL.eff (eff_alloc h zeroValue36 rfl) rfl rfl ?_)))
  rintro _ w ⟨b17, rfl, h⟩
  refine WL.eff (eff_storeW (vs := [.int .i64 _, .int .i64 _, .int .i64 _, .slice _ _ _, .int .i64 _]) h sizeOf36 rfl rfl rfl rfl rfl) rfl rfl ?_
  rintro _ w h
  refine WL.val run_assign rfl rfl (WL.nil (W.seq (W.region (WL.val run_move rfl rfl (WL.nil (W.condF rfl (W.skip ?_)))))))
  refine W.seq (W.seq ?_)
  have hkl : ks.length = (keepM g.s.done (flM g.s id floor)).length := by have := hD.1.length_eq; simpa using this
  refine W.region (WL.val run_move rfl rfl (WL.val (run_lenMap (On.mapC (h.fetch (MapC b52 .u64 ks ck2))).2 rfl underlying63 rfl hkl) rfl rfl (WL.val (run_geq rfl rfl) rfl rfl (WL.nil ?_))))
  refine W.condIf rfl (fun c31 => ?_) (fun c31 => ?_)
  ·
   refine W.seq (W.region (WL.val (run_loadB (vs := [.int .i64 _, .int .i64 _, .int .i64 _, .slice _ _ _, .int .i64 _]) h isAgg36 sizeOf36 rfl rfl rfl) rfl rfl (WL.eff (eff_storeW (vs := [.int .i64 _, .int .i64 _, .int .i64 _, .slice _ _ _, .int .i64 _]) h sizeOf36 rfl rfl rfl rfl rfl) rfl rfl ?_)))
   rintro _ w h
   refine WL.val run_assign rfl rfl (WL.nil (W.ret (bodyQ.rctB (vs := [.int .i64 _, .int .i64 _, .int .i64 _, .slice _ _ _, .int .i64 _]) (v2 := .bool _) h results16 isAgg36 sizeOf36 rfl rfl rfl rfl ?_)))
   have h := Big.close (y := g) hig (closeG (g := g) hok (((h.fetch (Big (GOwn pool) (gs.eraseIdx i))).fetch (MapC g.mb .u64 g.kvs g.ck)).fetch (CodesO g)))
   rw [set_same hg] at h
   have h := closeU (bu := bu) (u := u) hm hl ((((h.fetch (Big (GOwn pool) gs)).fetch (blk bt u.t.cells 113)).fetch (SpP 105 bs u.s)).fetch (blk bu (ucells bs bt gs) 68))
   have h : On W0 (OwnB (.slice none 0 0) (plain 8 0 0 : Rp).data :: _) w := h.ownEmpty 1 none
   exact ⟨u, plain 8 0 0, false, .slice none 0 0, ms, pool, (once_full hnb (by rw [← hgu]; exact hl1) (by rw [← hgu]; omega)), rfl, (fun p hp => hp), h.to⟩
  refine W.skip (W.seq (W.region (WL.val run_move rfl rfl (WL.val run_move rfl rfl (WL.val run_move rfl rfl (WL.val run_move rfl rfl (WL.val (run_nilCheck rfl) rfl rfl ?_)))))))
  refine WL.val (run_fieldAddr 1 underlying65 rfl sizeOf23 rfl rfl) rfl rfl (WL.eff (eff_store (v := .int .u64 (flM g.s id floor)) h sizeOf23 rfl rfl rfl (ult (bs := bs) (bt := bt) hg (k := 1) (by decide)) (free0 _)) rfl rfl ?_)
  rintro _ w h
  have er1 : ({ g with s := { g.s with floor := (flM g.s id floor) } } : GX).row = g.row.set 1 (.int .u64 (flM g.s id floor)) := rfl
  rw [uset (bs := bs) (bt := bt) hg (k := 1) (by decide) er1] at h
  have hg1 : (gs.set i ({ g with s := { g.s with floor := (flM g.s id floor) } } : GX))[i]? = some ({ g with s := { g.s with floor := (flM g.s id floor) } } : GX) := by rw [List.getElem?_set, if_pos rfl, if_pos hig]
  refine WL.val (run_nilCheck rfl) rfl rfl (WL.val (run_fieldAddr 2 underlying65 rfl sizeOf63 rfl rfl) rfl rfl (WL.eff (eff_store (v := .map (some b52)) h sizeOf63 rfl rfl rfl (ult (bs := bs) (bt := bt) hg1 (k := 2) (by decide)) (free0 _)) rfl rfl ?_))
  rintro _ w h
  have er2 : ({ g with s := g.s.setD (flM g.s id floor) (keepM g.s.done (flM g.s id floor)), mb := b52, ck := ck2, kvs := ks } : GX).row = ({ g with s := { g.s with floor := (flM g.s id floor) } } : GX).row.set 2 (.map (some b52)) := rfl
  rw [uset (bs := bs) (bt := bt) hg1 (k := 2) (by decide) er2, List.set_set] at h
  have h := Big.close (y := ({ g with s := g.s.setD (flM g.s id floor) (keepM g.s.done (flM g.s id floor)), mb := b52, ck := ck2, kvs := ks } : GX)) hig (closeG (g := ({ g with s := g.s.setD (flM g.s id floor) (keepM g.s.done (flM g.s id floor)), mb := b52, ck := ck2, kvs := ks } : GX)) hD (((h.fetch (Big (GOwn pool) (gs.eraseIdx i))).fetch (MapC b52 .u64 ks ck2)).fetch (CodesO g)))
  have hm' : (gs.set i ({ g with s := g.s.setD (flM g.s id floor) (keepM g.s.done (flM g.s id floor)), mb := b52, ck := ck2, kvs := ks } : GX)).map (·.s) = (u.putG i (onceG u i id floor)).g ∧ (gs.set i ({ g with s := g.s.setD (flM g.s id floor) (keepM g.s.done (flM g.s id floor)), mb := b52, ck := ck2, kvs := ks } : GX)).map (·.mb) = ms.set i b52 := by
    have := put_map2 (g' := ({ g with s := g.s.setD (flM g.s id floor) (keepM g.s.done (flM g.s id floor)), mb := b52, ck := ck2, kvs := ks } : GX)) (i := i) hm
    rw [show ({ g with s := g.s.setD (flM g.s id floor) (keepM g.s.done (flM g.s id floor)), mb := b52, ck := ck2, kvs := ks } : GX).s = onceG u i id floor from by unfold onceG; rw [← hgu]] at this
    exact this
  have h := closeU (bu := bu) (u := (u.putG i (onceG u i id floor))) hm' (put_len hl) ((((h.fetch (Big (GOwn pool) (gs.set i ({ g with s := g.s.setD (flM g.s id floor) (keepM g.s.done (flM g.s id floor)), mb := b52, ck := ck2, kvs := ks } : GX)))).fetch (blk bt u.t.cells 113)).fetch (SpP 105 bs u.s)).fetch (blk bu (ucells bs bt (gs.set i ({ g with s := g.s.setD (flM g.s id floor) (keepM g.s.done (flM g.s id floor)), mb := b52, ck := ck2, kvs := ks } : GX))) 68))
  refine WL.nil (W.seq (W.region (WL.val run_move rfl rfl (WL.val run_move rfl rfl (WL.val (run_loadB (vs := [.int .i64 _, .int .i64 _, .int .i64 _, .slice _ _ _, .int .u64 _, .int .u64 _, .int .i64 _, .bool _]) h isAgg25 sizeOf25 rfl rfl rfl) rfl rfl (WL.eff (eff_call call8 (udo_ok (u := (u.putG i (onceG u i id floor))) (setD_small hl hi hsm) (goodU_setD hl hi hgu_) hcm (h.fetch (UnP 68 105 113 bu pool (ms.set i b52) (u.putG i (onceG u i id floor)))) (Gives.to C) hd)) rfl rfl ?_))))))
  rintro _ w ⟨u', r', dv', heq, rfl, h⟩
  have of_ := Own.form h
  obtain ⟨ad, cd, hdv, _⟩ := of_
  subst hdv
  refine WL.eff (eff_storeW (vs := [.int .i64 _, .int .i64 _, .int .i64 _, .slice _ _ _, .int .i64 _]) h sizeOf36 rfl rfl rfl rfl rfl) rfl rfl ?_
  rintro _ w h
  refine WL.nil (W.seq (W.region (WL.val run_move rfl rfl (WL.val run_move rfl rfl (WL.val (run_loadB (vs := [.int .i64 _, .int .i64 _, .int .i64 _, .slice _ _ _, .int .i64 _]) h isAgg36 sizeOf36 rfl rfl rfl) rfl rfl ?_)))))
  refine WL.eff (eff_call call46 (uapart_ok (s1 := r'.st) (k1 := r'.key) (c1 := r'.code) (i1 := r'.info) (d1 := r'.data) (a1 := ad) (x1 := cd) h (Gives.ownO (v := .slice ad r'.data.length cd)) (by have := doM_dlen (u := (u.putG i (onceG u i id floor))) (hh := (i : Int)) (c := (⟨kind, at_, n, data, key, new, typ, force⟩ : Cm)); rw [heq] at this; have this : r'.data.length ≤ 1000 := this; omega))) rfl rfl ?_
  rintro _ w ⟨a105, rfl, h⟩
  have hkp := kept_do (u := (u.putG i (onceG u i id floor))) (hh := (i : Int)) (c := (⟨kind, at_, n, data, key, new, typ, force⟩ : Cm)) (put_len hl)
  rw [heq] at hkp
  have hkd := hkp.2.1 i hi
  rw [guest_put hl hi] at hkd
  have h := On.toPool ((h.fetch (Pool pool)).fetch (OwnB (.slice a105 r'.data.length r'.data.length) r'.data))
  have h := UnP_more (p := (.slice a105 r'.data.length r'.data.length, r'.data)) (h.fetch (UnP 68 105 113 bu pool (ms.set i b52) u'))
  have ob_ := openU h
  obtain ⟨bs2, bt2, gs2, hm2, hl2, h⟩ := ob_
  have ob_ := row_of hm2 hl2 hi
  obtain ⟨g2, hg2, hgu2⟩ := ob_
  have hig2 : i < gs2.length := (List.getElem?_eq_some_iff.1 hg2).1
  have h := Big.open hg2 (h.fetch (Big (GOwn ((.slice a105 r'.data.length r'.data.length, r'.data) :: pool)) gs2))
  have ob_ := openG h
  obtain ⟨hok2, h⟩ := ob_
  have hmb2 : g2.mb = b52 := by
    have e1 := mb_of hm2.2 hg2
    rw [List.getElem?_set, if_pos rfl, if_pos (by rw [← hm.2, List.length_map]; exact hig)] at e1
    exact (Option.some.inj e1).symm
  have hdn : g2.s.done = (keepM g.s.done (flM g.s id floor)) := by rw [hgu2, hkd.2]; unfold onceG; rw [← hgu]; rfl
  have hfn : g2.s.floor = (flM g.s id floor) := by rw [hgu2, hkd.1]; unfold onceG; rw [← hgu]; rfl
  refine WL.eff (eff_mapUpdate (k := id) (v := r'.val (.slice a105 r'.data.length r'.data.length)) (h.fetch (MapC g2.mb .u64 g2.kvs g2.ck)) underlying63 underlying23 (congrArg (fun q => Value.map (some q)) hmb2.symm) rfl rfl) rfl rfl ?_
  rintro _ w h
  have hok3 := okD_putIn (id := id) (r := r') (dv := .slice a105 r'.data.length r'.data.length) (ck := g2.ck) hok2 (List.mem_cons_self ..) (by rw [hdn]; exact hno)
  rw [hdn] at hok3
  have er3 : ({ g2 with s := g2.s.setD (flM g.s id floor) ((keepM g.s.done (flM g.s id floor)) ++ [(id, r')]), kvs := putM g2.kvs id (r'.val (.slice a105 r'.data.length r'.data.length)) g2.ck, ck := clockM g2.kvs id g2.ck } : GX).row = g2.row := by
    show [_, Value.int .u64 (flM g.s id floor), _] = [_, Value.int .u64 g2.s.floor, _]
    rw [hfn]; rfl
  have h := Big.close (y := ({ g2 with s := g2.s.setD (flM g.s id floor) ((keepM g.s.done (flM g.s id floor)) ++ [(id, r')]), kvs := putM g2.kvs id (r'.val (.slice a105 r'.data.length r'.data.length)) g2.ck, ck := clockM g2.kvs id g2.ck } : GX)) hig2 (closeG (g := ({ g2 with s := g2.s.setD (flM g.s id floor) ((keepM g.s.done (flM g.s id floor)) ++ [(id, r')]), kvs := putM g2.kvs id (r'.val (.slice a105 r'.data.length r'.data.length)) g2.ck, ck := clockM g2.kvs id g2.ck } : GX)) hok3 (((h.fetch (Big (GOwn ((.slice a105 r'.data.length r'.data.length, r'.data) :: pool)) (gs2.eraseIdx i))).fetch (MapC ({ g2 with s := g2.s.setD (flM g.s id floor) ((keepM g.s.done (flM g.s id floor)) ++ [(id, r')]), kvs := putM g2.kvs id (r'.val (.slice a105 r'.data.length r'.data.length)) g2.ck, ck := clockM g2.kvs id g2.ck } : GX).mb .u64 ({ g2 with s := g2.s.setD (flM g.s id floor) ((keepM g.s.done (flM g.s id floor)) ++ [(id, r')]), kvs := putM g2.kvs id (r'.val (.slice a105 r'.data.length r'.data.length)) g2.ck, ck := clockM g2.kvs id g2.ck } : GX).kvs ({ g2 with s := g2.s.setD (flM g.s id floor) ((keepM g.s.done (flM g.s id floor)) ++ [(id, r')]), kvs := putM g2.kvs id (r'.val (.slice a105 r'.data.length r'.data.length)) g2.ck, ck := clockM g2.kvs id g2.ck } : GX).ck)).fetch (CodesO g2)))
  have h := h.fetch (blk bu (ucells bs2 bt2 gs2) 68)
  rw [show ucells bs2 bt2 gs2 = ucells bs2 bt2 (gs2.set i ({ g2 with s := g2.s.setD (flM g.s id floor) ((keepM g.s.done (flM g.s id floor)) ++ [(id, r')]), kvs := putM g2.kvs id (r'.val (.slice a105 r'.data.length r'.data.length)) g2.ck, ck := clockM g2.kvs id g2.ck } : GX)) from by show _ :: _ :: _ = _ :: _ :: (gs2.set i ({ g2 with s := g2.s.setD (flM g.s id floor) ((keepM g.s.done (flM g.s id floor)) ++ [(id, r')]), kvs := putM g2.kvs id (r'.val (.slice a105 r'.data.length r'.data.length)) g2.ck, ck := clockM g2.kvs id g2.ck } : GX)).flatMap GX.row; rw [rows_same hg2 er3]] at h
  have hm3 : (gs2.set i ({ g2 with s := g2.s.setD (flM g.s id floor) ((keepM g.s.done (flM g.s id floor)) ++ [(id, r')]), kvs := putM g2.kvs id (r'.val (.slice a105 r'.data.length r'.data.length)) g2.ck, ck := clockM g2.kvs id g2.ck } : GX)).map (·.s) = (u'.putG i ((u'.guest i).setD (flM g.s id floor) ((keepM g.s.done (flM g.s id floor)) ++ [(id, r')]))).g ∧ (gs2.set i ({ g2 with s := g2.s.setD (flM g.s id floor) ((keepM g.s.done (flM g.s id floor)) ++ [(id, r')]), kvs := putM g2.kvs id (r'.val (.slice a105 r'.data.length r'.data.length)) g2.ck, ck := clockM g2.kvs id g2.ck } : GX)).map (·.mb) = ms.set i b52 := by
    have := put_map (g' := ({ g2 with s := g2.s.setD (flM g.s id floor) ((keepM g.s.done (flM g.s id floor)) ++ [(id, r')]), kvs := putM g2.kvs id (r'.val (.slice a105 r'.data.length r'.data.length)) g2.ck, ck := clockM g2.kvs id g2.ck } : GX)) hm2 hg2 rfl
    rw [← hgu2]
    exact this
  have h := closeU (bu := bu) (u := u'.putG i ((u'.guest i).setD (flM g.s id floor) ((keepM g.s.done (flM g.s id floor)) ++ [(id, r')]))) hm3 (put_len hl2) ((((h.fetch (Big (GOwn ((.slice a105 r'.data.length r'.data.length, r'.data) :: pool)) (gs2.set i ({ g2 with s := g2.s.setD (flM g.s id floor) ((keepM g.s.done (flM g.s id floor)) ++ [(id, r')]), kvs := putM g2.kvs id (r'.val (.slice a105 r'.data.length r'.data.length)) g2.ck, ck := clockM g2.kvs id g2.ck } : GX)))).fetch (blk bt2 u'.t.cells 113)).fetch (SpP 105 bs2 u'.s)).fetch (blk bu (ucells bs2 bt2 (gs2.set i ({ g2 with s := g2.s.setD (flM g.s id floor) ((keepM g.s.done (flM g.s id floor)) ++ [(id, r')]), kvs := putM g2.kvs id (r'.val (.slice a105 r'.data.length r'.data.length)) g2.ck, ck := clockM g2.kvs id g2.ck } : GX))) 68))
  refine WL.nil (W.seq (W.region (WL.val (run_loadB (vs := [.int .i64 _, .int .i64 _, .int .i64 _, .slice _ _ _, .int .i64 _]) h isAgg36 sizeOf36 rfl rfl rfl) rfl rfl (WL.eff (eff_storeW (vs := [.int .i64 _, .int .i64 _, .int .i64 _, .slice _ _ _, .int .i64 _]) h sizeOf36 rfl rfl rfl rfl rfl) rfl rfl ?_))))
  rintro _ w h
  refine WL.val run_assign rfl rfl (WL.nil (W.ret (bodyQ.rctB (vs := [.int .i64 _, .int .i64 _, .int .i64 _, .slice _ _ _, .int .i64 _]) (v2 := .bool _) h results16 isAgg36 sizeOf36 rfl rfl rfl rfl ?_)))
  exact ⟨_, r', true, .slice ad r'.data.length cd, ms.set i b52, ((.slice a105 r'.data.length r'.data.length, r'.data) :: pool), by rw [once_new hnb (by rw [← hgu]; exact hl1) (by rw [← hgu]; omega) heq, ← hgu], rfl, (fun p hp => List.mem_cons_of_mem _ hp), h.to⟩
theorem uoncebad_ok {bu : Nat} {hh id floor : Int} {u : Un} {pool : PoolL} {ms : List Nat} {kind at_ n key new typ : Int} {force : Bool} {data : List UInt8} {ax : Option Addr} {cx : Nat} (hb : hostB hh = false) (h : On W0 (UnP 68 105 113 bu pool ms u :: L) w) : Calls Tryz.prog 16 #[.pointer (some ⟨bu, 0, none⟩), .int .i64 hh, .int .u64 id, .int .u64 floor, (⟨kind, at_, n, data, key, new, typ, force⟩ : Cm).val (.slice ax data.length cx)] w (Ret fun v w' => v = .tuple #[(plain 8 0 0 : Rp).val (.slice none 0 0), .bool false] ∧ On W0 (UnP 68 105 113 bu pool ms u :: L) w') := by
  refine enter func16 rfl ntmps16 rfl (W.seq (W.region (WL.eff (eff_box (v := .agg _) (l := (⟨kind, at_, n, data, key, new, typ, force⟩ : Cm).cells (.slice ax data.length cx)) h rfl rfl) rfl rfl ?_)))
  rintro _ w ⟨b9, rfl, h⟩
  have h : On W0 (blk b9 [.int .i64 kind, .int .i64 at_, .int .i64 n, .slice ax data.length cx, .int .u64 key, .int .u64 new, .int .i64 typ, .bool force] 25 :: _) w := h
  refine WL.eff (eff_alloc h zeroValue36 rfl) rfl rfl ?_
  rintro _ w ⟨b10, rfl, h⟩
  refine WL.val run_assign rfl rfl (WL.nil (W.seq (W.region (WL.val (run_buildS (pl := [(0, 1), (1, 1), (2, 1), (3, 1), (4, 1)]) (out := [.int .i64 _, .int .i64 _, .int .i64 _, .slice _ _ _, .int .i64 _]) underlying36 zeroValue36 (fun w => by kernel_rfl) rfl (⟨⟨_, _, rfl, rfl, by decide⟩, trivial⟩) rfl) rfl rfl (WL.eff (eff_alloc h zeroValue36 rfl) rfl rfl ?_)))))
  rintro _ w ⟨b12, rfl, h⟩
  refine WL.eff (eff_storeW (vs := [.int .i64 _, .int .i64 _, .int .i64 _, .slice _ _ _, .int .i64 _]) h sizeOf36 rfl rfl rfl rfl rfl) rfl rfl ?_
  rintro _ w h
  refine WL.nil (W.seq (W.seq (W.region (WL.val run_move rfl rfl (WL.eff (eff_call call25 (uhost_ok h)) rfl rfl ?_)))))
  rintro _ w ⟨hv, h⟩
  rw [hb] at hv
  subst hv
  refine WL.val (run_not rfl) rfl rfl (WL.val run_move rfl rfl (WL.skip rfl rfl (WL.skip rfl rfl (WL.val (run_pickT rfl) rfl rfl (WL.val run_move rfl rfl (WL.skip rfl rfl (WL.skip rfl rfl ?_)))))))
  refine WL.skip rfl rfl (WL.skip rfl rfl (WL.skip rfl rfl (WL.skip rfl rfl (WL.skip rfl rfl (WL.skip rfl rfl (WL.skip rfl rfl (WL.val (run_pickT rfl) rfl rfl ?_)))))))
  refine WL.nil (W.condT rfl (W.seq (W.region (WL.val (run_loadB (vs := [.int .i64 _, .int .i64 _, .int .i64 _, .slice _ _ _, .int .i64 _]) h isAgg36 sizeOf36 rfl rfl rfl) rfl rfl (WL.eff (eff_storeW (vs := [.int .i64 _, .int .i64 _, .int .i64 _, .slice _ _ _, .int .i64 _]) h sizeOf36 rfl rfl rfl rfl rfl) rfl rfl ?_)))))
  rintro _ w h
  refine WL.val run_assign rfl rfl (WL.nil (W.ret (bodyQ.rctB (vs := [.int .i64 _, .int .i64 _, .int .i64 _, .slice _ _ _, .int .i64 _]) (v2 := .bool _) h results16 isAgg36 sizeOf36 rfl rfl rfl rfl ?_)))
  exact ⟨rfl, h.to⟩
end Go.Proofs.YtjbgiingimhnnaaGreat
/-
  A unit's twin as it lies: a guest's row laid into a new unit. No program is named here.
-/
namespace Go.Sl.UnM
open Go Go.Sl Go.Sl.BitM Go.Sl.SpM Go.Sl.RsM Go.Sl.ByM
set_option linter.unusedVariables false
set_option linter.unusedSectionVars false
section
variable {bs bt i k : Nat} {gs gs2 : List GX} {g g' : GX}
theorem nsplice (hk : gs.length = i) : splice (ncells bs bt gs (k + 1)) (0 + 2 + ((i : Nat) : Int).toNat * 3) g'.row = ncells bs bt (gs ++ [g']) k := by
  rw [show 0 + 2 + ((i : Nat) : Int).toNat * 3 = i * 3 + 1 + 1 by simp; omega]
  have hr : (gs.flatMap GX.row).length = i * 3 := by rw [rows_len]; omega
  unfold splice
  show _ :: _ :: ((gs.flatMap GX.row ++ (List.replicate (k + 1) zrow).flatten).take (i * 3)) ++ g'.row ++ ((gs.flatMap GX.row ++ (List.replicate (k + 1) zrow).flatten).drop (i * 3 + 3)) = _ :: _ :: ((gs ++ [g']).flatMap GX.row ++ (List.replicate k zrow).flatten)
  rw [List.take_append_of_le_length (by omega), List.take_of_length_le (by omega), List.drop_append, List.drop_of_length_le (by omega), hr, show i * 3 + 3 - i * 3 = 3 by omega, List.replicate_succ, List.flatten_cons, List.nil_append, List.flatMap_append]
  show _ :: _ :: (gs.flatMap GX.row ++ g'.row) ++ _ = _
  rw [List.cons_append, List.cons_append]
  simp [zrow]
theorem nlt3 (hk : gs.length = i) : Nat.ble (0 + 2 + ((i : Nat) : Int).toNat * 3 + 3) (ncells bs bt gs (k + 1)).length = true := by
  rw [Nat.ble_eq]
  show _ ≤ (gs.flatMap GX.row ++ (List.replicate (k + 1) zrow).flatten).length + 1 + 1
  rw [List.length_append, rows_len, List.replicate_succ, List.flatten_cons, List.length_append]
  show _ ≤ 3 * gs.length + (3 + _) + 1 + 1
  simp; omega
theorem take_snocG (h : gs[k]? = some g) (e : gs2.map (·.s) = (gs.take k).map (·.s)) (es : g'.s = g.s) : (gs2 ++ [g']).map (·.s) = (gs.take (k + 1)).map (·.s) := by
  rw [List.take_add_one, h, List.map_append, List.map_append, e]
  show _ ++ [g'.s] = _ ++ [g.s]
  rw [es]
end
section
variable {W0 w : World} {L : List HProp} {TU TS TT bu bs bt : Nat} {pc pc' : PoolK} {u : Un} {xs : List RX}
theorem rcells_one (hpk : ∀ y ∈ xs, okX pc y) (H : On W0 (PoolC pc :: L) w) : (rcells bs bt xs).all (·.oneCell') = true := by
  simp only [List.all_cons, List.all_append, Value.oneCell', Bool.true_and, List.all_map, Bool.and_eq_true, List.all_eq_true, Function.comp]
  refine ⟨fun y hy => ?_, fun y hy => trivial, fun y hy => ?_⟩
  · have f := Cells.form (H.reads (Gives.poolC (hpk y hy).1))
    obtain ⟨a, c, hv, _⟩ := f
    rw [hv]
  · have f := Cells.form (H.reads (Gives.poolC (hpk y hy).2.1))
    obtain ⟨a, c, hv, _⟩ := f
    rw [hv]
theorem rcells_len (hl : xs.length = 8) : (rcells bs bt xs).length = 26 := by
  show (xs.map RX.wv ++ (xs.map (fun x => Value.int .u64 x.floor) ++ xs.map RX.dv)).length + 1 + 1 = 26
  rw [List.length_append, List.length_append, List.length_map, List.length_map, List.length_map]; omega
end
end Go.Sl.UnM
/-
  maps.clone: a map's entries in a new map; a map in an interface and back. No program is named here.
-/
namespace Go.Sl
open Go
set_option linter.unusedVariables false
section
variable {P : Program} {W0 w : World} {L : List HProp} {ρ : Operand → Value} {d : Option Nat} {ty : TypeId} {pos : String} {af : Array Edge} {g : Option (Nat × Bool)}
theorem run_ifaceMap {t kt et : TypeId} {x : Operand} {v : Value} (hU : P.underlying t = some (.map kt et)) (hx : ρ x = v) :
    (execOp ρ ⟨d, .makeInterface t x, ty, pos, af, g⟩).run P w = .ok (.value (.iface t v)) w := by
  simp [execOp, Instr.makeInterface, run_underlying hU, hx]
theorem run_assertMap {t xt kt et : TypeId} {x : Operand} {v : Value} (hU : P.underlying t = some (.map kt et)) (hx : ρ x = .iface t v) :
    (execOp ρ ⟨d, .typeAssert x xt t false, ty, pos, af, g⟩).run P w = .ok (.value v) w := by
  simp [execOp, Instr.typeAssert, run_underlying hU, hx]
theorem eqIn_mapNil {t kt et : TypeId} {a : Option Nat} (hU : P.underlying t = some (.map kt et)) (n : Nat) : (Op.equalIn (n + 1) t (.map a) (.map none)).run P w = .ok a.isNone w := by
  cases a <;> simp [Op.equalIn, run_underlying hU]
theorem run_eqlMapNil {t yt kt et : TypeId} {x y : Operand} {a : Option Nat} (hU : P.underlying t = some (.map kt et)) (hx : ρ x = .map a) (hy : ρ y = .map none) :
    (execOp ρ ⟨d, .binOp .eql t x y yt, ty, pos, af, g⟩).run P w = .ok (.value (.bool a.isNone)) w := by
  have := eqIn_mapNil (P := P) (w := w) (a := a) hU 9999
  simp [execOp, eqGuard, hx, hy, binOp, Op.equal, Op.maxDepth, this]
theorem eff_mapClone {env : Env} {f : FuncId} {fn : Func} {x : Operand} {t b : Nat} {kd : IntKind} {kvs : List KV} {ck : Nat} {tys : Array TypeId} (H : On W0 (MapC b kd kvs ck :: L) w)
    (hf : P.funcs[f]? = some fn) (hname : (fn.name == "runtime.NumGoroutine") = false) (hb : fn.body.isNone = true) (hn' : Extern.findNext fn = none) (he : Extern.find fn = some Extern.MapsClone.clone) (hx : evo env x = .iface t (.map (some b))) :
    Eff P (evo env) ⟨d, .call { callee := .value (.func f), args := #[x], argTypes := tys }, ty, pos, af, g⟩ w (fun v w' => ∃ b', v = .iface t (.map (some b')) ∧ On W0 (MapC b' kd kvs ck :: MapC b kd kvs ck :: L) w') := by
  have hbm := On.mapC H
  have hfit := hbm.1
  have hgo : (getObj b).run P w = .ok (mapO kd kvs ck) w := MapKept.run_getObj_map (by exact hbm.2)
  unfold mapO at hgo
  refine .inl ⟨.iface t (.map (some w.heap.size)), w.alloc (mapO kd kvs ck), ?_, _, rfl, On.mapClose hfit (H.alloc _)⟩
  have hn : (newObj (mapO kd kvs ck)).run P w = .ok w.heap.size (w.alloc (mapO kd kvs ck)) := rfl
  unfold mapO at hn ⊢
  have hcl : (Extern.MapsClone.clone #[.iface t (.map (some b))]).run P w = .ok (.iface t (.map (some w.heap.size))) (w.alloc (.map (kvs.map (ent kd)).toArray ck)) := by
    have e : Extern.MapsClone.clone #[.iface t (.map (some b))] = (getObj b >>= fun o => match o with
      | .map entries clock => (newObj (.map entries clock) >>= fun n => pure (.iface t (.map (some n))))
      | _ => stuck "maps.clone: a map expected") := rfl
    rw [e]
    simp [hgo, hn]
  have hr := run_callFunc_extern hf hname hb hn' he #[.iface t (.map (some b))] w
  rw [hcl] at hr
  have hfn : evo env (.func f) = .func (.func f) #[] #[] := rfl
  simp only [Result.andThen_ok] at hr
  simp [execOp, resolve, Deferred.ofValue, invoke, hx, hfn, hr]
end
end Go.Sl
/-
  The document's unit: twins: the contracts. Lines of walks printed by a program of the prover's.
-/
namespace Go.Proofs.YtjbgiingimhnnaaGreat
open Go.Proofs.Tryz
open Go Go.Sl Go.Sl.BitM Go.Sl.SpM Go.Sl.RsM Go.Sl.ByM Go.Sl.UnM
set_option linter.unusedVariables false
set_option linter.unusedSimpArgs false
set_option maxHeartbeats 1000000
set_option maxRecDepth 8000
variable {W0 w : World} {L F : List HProp}
theorem clone_bitm {ao : Option Addr} {cap : Nat} {bs : List UInt8} (h : On W0 L w) (C : Gives L (Bytes (.slice ao bs.length cap) bs)) (hn : bs.length ≤ 140737488355328) :
    Calls Tryz.prog 99 #[.slice ao bs.length cap] w (Ret fun v w' => ∃ a c, v = .slice a bs.length c ∧ On W0 (OwnB (.slice a bs.length c) bs :: L) w') := by
  refine enter func99 rfl ntmps99 rfl ?_
  have ob_ := (h.reads C).form
  obtain ⟨ao', cap', hv, hnc, hcm, hnone⟩ := ob_
  simp only [Value.slice.injEq] at hv
  obtain ⟨rfl, _, rfl⟩ := hv
  have hl := maxLen_eq
  refine W.seq (W.region (WL.val run_assign rfl rfl (WL.nil (W.seq (W.seq (W.region (WL.val run_move rfl rfl ?_)))))))
  refine WL.val (run_eqlSliceNil underlying103 rfl rfl) rfl rfl (WL.nil ?_)
  refine W.condB rfl (fun c2 => ?_) (fun c2 => ?_)
  ·
   refine W.seq (W.region (WL.val run_assign rfl rfl (WL.nil (W.ret (bodyQ.r1 (v := .slice _ _ _) results99 rfl ?_)))))
   have h0 : cap = 0 := hnone (by simpa using c2)
   have hb : bs = [] := List.eq_nil_of_length_eq_zero (by omega)
   subst hb
   exact ⟨none, 0, rfl, h.ownEmpty 1 none⟩
  refine W.skip (W.seq (W.region (WL.eff (eff_mkSlice (zl := []) (out := []) h underlying103 sizeOf5 zeroValue5 (by decide) (by simp) rfl rfl (by simp) (trivial) rfl rfl (by simp [maxLen])) rfl rfl ?_)))
  rintro _ w ⟨b5, rfl, h⟩
  refine WL.val run_move rfl rfl (WL.eff (eff_app0 (bytes := 1) h rfl rfl (h.readsTo C) underlying103 rfl rfl rfl rfl rfl (by omega) (by omega) bytes_one) rfl rfl ?_)
  rintro _ w ⟨a, c, rfl, h⟩
  refine WL.val run_assign rfl rfl (WL.nil (W.ret (bodyQ.r1 (v := .slice _ _ _) results99 rfl ?_)))
  exact ⟨_, _, rfl, h⟩
theorem stwin_ok {b : Nat} {s : Sp} (h : On W0 (SpP 105 b s :: L) w) : Calls Tryz.prog 39 #[.pointer (some ⟨b, 0, none⟩)] w (Ret fun v w' => ∃ b', v = .pointer (some ⟨b', 0, none⟩) ∧ On W0 (SpP 105 b' s :: SpP 105 b s :: L) w') := by
  refine enter func39 rfl ntmps39 rfl ?_
  have ob_ := openS h
  obtain ⟨gd, od, cd, am, cm, hw, h⟩ := ob_
  have hwf := hw
  obtain ⟨hw1, hw2, hw3, hw4⟩ := hw
  rw [← hw1] at h
  refine W.seq (W.region (WL.val run_assign rfl rfl (WL.nil (W.seq ?_))))
  refine W.draw Tryz.follows h (fun w h => ?_)
  refine WT.pure 0 rfl (by kernel_rfl) (fun w' => run_move) rfl rfl (WT.pure 1 rfl (by kernel_rfl) (fun w' => (run_nilCheck rfl)) rfl rfl (WT.pure 2 rfl (by kernel_rfl) (fun w' => (run_fieldAddr 0 underlying105 rfl sizeOf3 rfl rfl)) rfl rfl (WT.load1 3 rfl (by kernel_rfl) isAgg3 rfl (h.cellB rfl) rfl rfl (WT.pure 4 rfl (by kernel_rfl) (fun w' => run_move) rfl rfl (WT.pure 5 rfl (by kernel_rfl) (fun w' => (run_nilCheck rfl)) rfl rfl (WT.pure 6 rfl (by kernel_rfl) (fun w' => (run_fieldAddr 1 underlying105 rfl sizeOf22 rfl rfl)) rfl rfl (WT.load1 7 rfl (by kernel_rfl) isAgg22 rfl (h.cellB rfl) rfl rfl ?_)))))))
  refine WT.pure 9 rfl (by kernel_rfl) (fun w' => run_move) rfl rfl (WT.pure 10 rfl (by kernel_rfl) (fun w' => (run_nilCheck rfl)) rfl rfl (WT.pure 11 rfl (by kernel_rfl) (fun w' => (run_fieldAddr 2 underlying105 rfl sizeOf103 rfl rfl)) rfl rfl (WT.load1 12 rfl (by kernel_rfl) isAgg103 rfl (h.cellB rfl) rfl rfl (WT.eff 8 [true, false, true] rfl (by kernel_rfl) (by kernel_rfl) (eff_call call57 (clone_bytes (bs := s.d) (ao := some ⟨gd, od, none⟩) (cap := cd) h (Gives.ownO (v := .slice (some ⟨gd, od, none⟩) s.d.length cd)) (by omega))) rfl rfl ?_))))
  rintro _ w ⟨a11, c11, rfl, h⟩
  refine ⟨⟨h.cellB rfl, h.cellB rfl, trivial⟩, ?_⟩
  refine WT.eff 13 [false, true] rfl (by kernel_rfl) (by kernel_rfl) (eff_call call99 (clone_bitm (bs := s.m) (ao := am) (cap := cm) h (Gives.ownO (v := .slice am s.m.length cm)) (by omega))) rfl rfl ?_
  rintro _ w ⟨a16, c16, rfl, h⟩
  refine ⟨⟨h.cellB rfl, trivial⟩, ?_⟩
  refine WT.pure 14 rfl (by kernel_rfl) (fun w' => (run_buildS (pl := [(0, 1), (1, 1), (2, 1)]) (out := [.int .i64 _, .slice _ _ _, .slice _ _ _]) underlying105 zeroValue105 (fun w => by kernel_rfl) rfl (⟨⟨_, _, rfl, rfl, by decide⟩, ⟨⟨_, _, rfl, rfl, by decide⟩, ⟨⟨_, _, rfl, rfl, by decide⟩, trivial⟩⟩⟩) rfl)) rfl rfl (WT.eff 15 [false] rfl (by kernel_rfl) (by kernel_rfl) (eff_box (v := .agg _) (l := [.int .i64 _, .slice _ _ _, .slice _ _ _]) h rfl rfl) rfl rfl ?_)
  rintro _ w ⟨b18, rfl, h⟩
  refine ⟨trivial, ?_⟩
  refine WT.pure 16 rfl (by kernel_rfl) (fun w' => run_assign) rfl rfl (WT.done (by kernel_rfl) (W.ret (bodyQ.r1 (v := .pointer _) results39 rfl ?_)))
  have h := h.fetch (Own 1 (.slice a11 s.d.length c11) s.d.length (bytesV s.d))
  have ha := Own.addr h (by omega)
  obtain ⟨b2, o2, ha⟩ := ha
  subst ha
  rw [hw1] at h
  have h := closeS (b := b) (gd := gd) (od := od) (cd := cd) (am := am) (cm := cm) hwf (((h.fetch (Own 1 (.slice am s.m.length cm) s.m.length (bytesV s.m))).fetch (Own 1 (.slice (some ⟨gd, od, none⟩) (8 * s.N) cd) (8 * s.N) (bytesV s.d))).fetch (blk b [.int .i64 (s.N : Int), .slice (some ⟨gd, od, none⟩) (8 * s.N) cd, .slice am s.m.length cm] 105))
  have h := closeS (b := b18) (gd := b2) (od := o2) (cd := c11) (am := a16) (cm := c16) hwf (((h.fetch (Own 1 (.slice a16 s.m.length c16) s.m.length (bytesV s.m))).fetch (Own 1 (.slice (some ⟨b2, o2, none⟩) (8 * s.N) c11) (8 * s.N) (bytesV s.d))).fetch (blk b18 [.int .i64 (s.N : Int), .slice (some ⟨b2, o2, none⟩) (8 * s.N) c11, .slice a16 s.m.length c16] 105))
  exact ⟨b18, rfl, h.to⟩
theorem rtwin_ok {b : Nat} {t : Tb} (h : On W0 (blk b t.cells 113 :: L) w) : Calls Tryz.prog 40 #[.pointer (some ⟨b, 0, none⟩)] w (Ret fun v w' => ∃ b', v = .pointer (some ⟨b', 0, none⟩) ∧ On W0 (blk b' t.cells 113 :: blk b t.cells 113 :: L) w') := by
  refine enter func40 rfl ntmps40 rfl (W.seq (W.region (WL.val run_assign rfl rfl (WL.nil (W.seq (W.region (WL.val run_move rfl rfl ?_)))))))
  refine WL.val (run_nilCheck rfl) rfl rfl (WL.val (run_loadB (vs := [.int .u64 _, .int .u64 _, .int .u64 _, .int .u64 _, .int .u64 _, .int .u64 _, .int .u64 _, .int .u64 _, .int .i64 _, .int .i64 _, .int .u32 _]) h isAgg113 sizeOf113 rfl rfl rfl) rfl rfl (WL.eff (eff_alloc h zeroValue113 rfl) rfl rfl ?_))
  rintro _ w ⟨b3, rfl, h⟩
  refine WL.eff (eff_storeW (vs := [.int .u64 _, .int .u64 _, .int .u64 _, .int .u64 _, .int .u64 _, .int .u64 _, .int .u64 _, .int .u64 _, .int .i64 _, .int .i64 _, .int .u32 _]) h sizeOf113 rfl rfl rfl rfl rfl) rfl rfl ?_
  rintro _ w h
  refine WL.nil (W.seq (W.region (WL.val run_assign rfl rfl (WL.nil (W.ret (bodyQ.r1 (v := .pointer _) results40 rfl ?_))))))
  have h : On W0 (blk b3 t.cells 113 :: blk b t.cells 113 :: L) _ := h
  exact ⟨_, rfl, h⟩
theorem rtwinR_ok {b : Nat} {t : Tb} (h : On W0 (blk b t.cells 137 :: L) w) : Calls Tryz.prog 43 #[.pointer (some ⟨b, 0, none⟩)] w (Ret fun v w' => ∃ b', v = .pointer (some ⟨b', 0, none⟩) ∧ On W0 (blk b' t.cells 137 :: blk b t.cells 137 :: L) w') := by
  refine enter func43 rfl ntmps43 rfl (W.seq (W.region (WL.val run_assign rfl rfl (WL.nil (W.seq (W.region (WL.val run_move rfl rfl ?_)))))))
  refine WL.val (run_nilCheck rfl) rfl rfl (WL.val (run_loadB (vs := [.int .u64 _, .int .u64 _, .int .u64 _, .int .u64 _, .int .u64 _, .int .u64 _, .int .u64 _, .int .u64 _, .int .i64 _, .int .i64 _, .int .u32 _]) h isAgg137 sizeOf137 rfl rfl rfl) rfl rfl (WL.eff (eff_alloc h zeroValue137 rfl) rfl rfl ?_))
  rintro _ w ⟨b3, rfl, h⟩
  refine WL.eff (eff_storeW (vs := [.int .u64 _, .int .u64 _, .int .u64 _, .int .u64 _, .int .u64 _, .int .u64 _, .int .u64 _, .int .u64 _, .int .i64 _, .int .i64 _, .int .u32 _]) h sizeOf137 rfl rfl rfl rfl rfl) rfl rfl ?_
  rintro _ w h
  refine WL.nil (W.seq (W.region (WL.val run_assign rfl rfl (WL.nil (W.ret (bodyQ.r1 (v := .pointer _) results43 rfl ?_))))))
  have h : On W0 (blk b3 t.cells 137 :: blk b t.cells 137 :: L) _ := h
  exact ⟨_, rfl, h⟩
theorem mclone_ok {b ck : Nat} {kvs : List KV} (h : On W0 (MapC b .u64 kvs ck :: L) w) : Calls Tryz.prog 42 #[.map (some b)] w (Ret fun v w' => ∃ b', v = .map (some b') ∧ On W0 (MapC b' .u64 kvs ck :: MapC b .u64 kvs ck :: L) w') := by
  refine enter func42 rfl ntmps42 rfl (W.seq (W.region (WL.val run_assign rfl rfl (WL.nil (W.seq (W.seq (W.region ?_)))))))
  refine WL.val run_move rfl rfl (WL.val (run_eqlMapNil underlying63 rfl rfl) rfl rfl (WL.nil (W.condF rfl (W.skip (W.seq (W.region (WL.val run_move rfl rfl ?_)))))))
  refine WL.val (run_ifaceMap underlying63 rfl) rfl rfl (WL.eff (eff_mapClone h func100 (by kernel_rfl) (by kernel_rfl) (by kernel_rfl) (by kernel_rfl) rfl) rfl rfl ?_)
  rintro _ w ⟨b7, rfl, h⟩
  refine WL.val (run_assertMap underlying63 rfl) rfl rfl (WL.val run_assign rfl rfl (WL.nil (W.ret (bodyQ.r1 (v := .map _) results42 rfl ?_))))
  exact ⟨b7, rfl, h⟩
end Go.Proofs.YtjbgiingimhnnaaGreat
/-
  The document's unit: units and their twins: the contracts. Lines of walks printed by a program of the prover's.
-/
namespace Go.Proofs.YtjbgiingimhnnaaGreat
open Go.Proofs.Tryz
open Go Go.Sl Go.Sl.BitM Go.Sl.SpM Go.Sl.RsM Go.Sl.ByM Go.Sl.UnM
set_option linter.unusedVariables false
set_option linter.unusedSimpArgs false
set_option maxHeartbeats 1000000
set_option maxRecDepth 8000
variable {W0 w : World} {L F : List HProp}
theorem utwin_ok {bu : Nat} {u : Un} {pool : PoolL} {ms : List Nat} (hsm : small 999000 u) (h : On W0 (UnP 68 105 113 bu pool ms u :: L) w) : Calls Tryz.prog 13 #[.pointer (some ⟨bu, 0, none⟩)] w (Ret fun v w' => ∃ b' ms', v = .pointer (some ⟨b', 0, none⟩) ∧ On W0 (UnP 68 105 113 b' pool ms' u :: UnP 68 105 113 bu pool ms u :: L) w') := by
  refine enter func13 rfl ntmps13 rfl ?_
  have hmx := maxLen_eq
  have ob_ := openU h
  obtain ⟨bs, bt, gs, hm, hl, h⟩ := ob_
  have hgl : gs.length = 8 := by rw [← hl, ← hm.1, List.length_map]
  have hrl : (gs.flatMap GX.row).length = 24 := by rw [rows_len, hgl]
  have hv24 : ((ucells bs bt gs).drop (0 + 2)).take 24 = gs.flatMap GX.row := by show (gs.flatMap GX.row).take 24 = _; exact List.take_of_length_le (by omega)
  refine W.seq (W.region (WL.val run_assign rfl rfl (WL.nil (W.seq ?_))))
  refine W.draw Tryz.follows h (fun w h => ?_)
  refine WT.pure 0 rfl (by kernel_rfl) (fun w' => run_move) rfl rfl (WT.pure 1 rfl (by kernel_rfl) (fun w' => (run_nilCheck rfl)) rfl rfl (WT.pure 2 rfl (by kernel_rfl) (fun w' => (run_fieldAddr 0 underlying68 rfl sizeOf56 rfl rfl)) rfl rfl (WT.load1 3 rfl (by kernel_rfl) isAgg56 rfl (h.cellB rfl) rfl rfl (WT.pure 5 rfl (by kernel_rfl) (fun w' => run_move) rfl rfl (WT.pure 6 rfl (by kernel_rfl) (fun w' => (run_nilCheck rfl)) rfl rfl (WT.pure 7 rfl (by kernel_rfl) (fun w' => (run_fieldAddr 1 underlying68 rfl sizeOf59 rfl rfl)) rfl rfl (WT.load1 8 rfl (by kernel_rfl) isAgg59 rfl (h.cellB rfl) rfl rfl ?_)))))))
  refine WT.eff 4 [true, false] rfl (by kernel_rfl) (by kernel_rfl) (eff_call call39 (stwin_ok (b := bs) (h.fetch (SpP 105 bs u.s)))) rfl rfl ?_
  rintro _ w ⟨bs2, rfl, h⟩
  refine ⟨⟨h.cellB rfl, trivial⟩, ?_⟩
  refine WT.eff 9 [false] rfl (by kernel_rfl) (by kernel_rfl) (eff_call call40 (rtwin_ok (b := bt) (h.fetch (blk bt u.t.cells 113)))) rfl rfl ?_
  rintro _ w ⟨bt2, rfl, h⟩
  refine ⟨trivial, ?_⟩
  refine WT.pure 10 rfl (by kernel_rfl) (fun w' => (run_buildS (pl := [(0, 1), (1, 1), (2, 24)]) (out := [.pointer _, .pointer _, .slice _ _ _, .int .u64 _, .map _, .slice _ _ _, .int .u64 _, .map _, .slice _ _ _, .int .u64 _, .map _, .slice _ _ _, .int .u64 _, .map _, .slice _ _ _, .int .u64 _, .map _, .slice _ _ _, .int .u64 _, .map _, .slice _ _ _, .int .u64 _, .map _, .slice _ _ _, .int .u64 _, .map _]) underlying68 zeroValue68 (fun w => by kernel_rfl) rfl (⟨⟨_, _, rfl, rfl, by decide⟩, ⟨⟨_, _, rfl, rfl, by decide⟩, trivial⟩⟩) rfl)) rfl rfl ?_
  refine WT.eff 11 [] rfl (by kernel_rfl) (by kernel_rfl) (eff_box (v := .agg _) (l := [.pointer _, .pointer _, .slice _ _ _, .int .u64 _, .map _, .slice _ _ _, .int .u64 _, .map _, .slice _ _ _, .int .u64 _, .map _, .slice _ _ _, .int .u64 _, .map _, .slice _ _ _, .int .u64 _, .map _, .slice _ _ _, .int .u64 _, .map _, .slice _ _ _, .int .u64 _, .map _, .slice _ _ _, .int .u64 _, .map _]) h rfl rfl) rfl rfl ?_
  rintro _ w ⟨b17, rfl, h⟩
  refine ⟨trivial, ?_⟩
  refine WT.pure 12 rfl (by kernel_rfl) (fun w' => run_assign) rfl rfl (WT.done (by kernel_rfl) (W.seq (W.seq (W.region (WL.val run_move rfl rfl (WL.val (run_nilCheck rfl) rfl rfl (WL.val (run_fieldAddr 2 underlying68 rfl sizeOf66 rfl rfl) rfl rfl ?_)))))))
  refine WL.val (run_loadB (vs := gs.flatMap GX.row) h isAgg66 sizeOf66 rfl hv24 hrl) rfl rfl (WL.val run_move rfl rfl (WL.nil (W.block ?_)))
  refine W.loop (fun (k : Nat) env w => k ≤ 8 ∧ ∃ (j : Env) (gs2 : List GX), gs2.map (·.s) = (gs.take k).map (·.s) ∧ env = mkE j [(3, .pointer (some ⟨b17, 0, none⟩)), (21, .agg (gs.flatMap GX.row).toArray), (22, .int .i64 (k : Int))] ∧ On W0 (blk b17 (ncells bs2 bt2 gs2 (8 - k)) 68 :: Big (GOwn pool) gs2 :: SpP 105 bs2 u.s :: blk bt2 u.t.cells 113 :: blk bu (ucells bs bt gs) 68 :: SpP 105 bs u.s :: blk bt u.t.cells 113 :: Big (GOwn pool) gs :: L) w) (fun k => 8 - k) (0) ?_ ?_
  · have h : On W0 (Big (GOwn pool) [] :: blk b17 (ncells bs2 bt2 [] (8 - 0)) 68 :: _) w := Big.nil h
    exact ⟨Nat.zero_le _, _, [], rfl, mkE_of ⟨rfl, rfl, rfl, trivial⟩, h.to⟩
  rintro k env w ⟨hk8, j, gs2, hgs2, rfl, h⟩
  have hgl2 : gs2.length = k := by have := congrArg List.length hgs2; simp only [List.length_map, List.length_take] at this; omega
  refine W.seq (W.region (WL.val (run_lss rfl rfl) rfl rfl (WL.nil (W.seq ?_))))
  refine W.condIf rfl (fun c6 => ?_) (fun c6 => ?_)
  ·
   refine W.skip (W.seq ?_)
   have hk7 : k < 8 := by omega
   have hro := row_of hm hl hk7
   obtain ⟨g, hg, hgu⟩ := hro
   have hsk := hsm k hk7
   rw [← hgu] at hsk
   have hig : k < gs.length := by omega
   have hrow := drop_flatMap GX.row 3 (fun _ => rfl) gs _ _ hg
   have h8k : 8 - k = 8 - (k + 1) + 1 := by omega
   rw [h8k] at h
   have h := Big.open hg (h.fetch (Big (GOwn pool) gs))
   have hog := openG h
   obtain ⟨hok, h⟩ := hog
   refine W.block (W.seq (W.region (WL.val run_move rfl rfl (WL.val (run_indexArrN (size := 3) (i := k) (vs := [.slice g.a g.s.codes.length g.c, .int .u64 g.s.floor, .map (some g.mb)]) underlying66 sizeOf65 isAgg65 rfl rfl hk7 hrow) rfl rfl (WL.eff (eff_alloc h zeroValue65 rfl) rfl rfl ?_)))))
   rintro _ w ⟨b5, rfl, h⟩
   refine WL.val run_assign rfl rfl (WL.eff (eff_storeW (vs := [.slice _ _ _, .int .u64 _, .map _]) h sizeOf65 rfl rfl rfl rfl rfl) rfl rfl ?_)
   rintro _ w h
   refine WL.nil ?_
   refine W.draw Tryz.follows h (fun w h => ?_)
   refine WT.pure 0 rfl (by kernel_rfl) (fun w' => run_move) rfl rfl (WT.pure 1 rfl (by kernel_rfl) (fun w' => run_move) rfl rfl (WT.pure 2 rfl (by kernel_rfl) (fun w' => (run_fieldAddr 0 underlying65 rfl sizeOf62 rfl rfl)) rfl rfl (WT.load1 3 rfl (by kernel_rfl) isAgg62 rfl (h.cellB rfl) rfl rfl (WT.pure 5 rfl (by kernel_rfl) (fun w' => (run_fieldAddr 1 underlying65 rfl sizeOf23 rfl rfl)) rfl rfl (WT.load1 6 rfl (by kernel_rfl) isAgg23 rfl (h.cellB rfl) rfl rfl (WT.pure 7 rfl (by kernel_rfl) (fun w' => (run_fieldAddr 2 underlying65 rfl sizeOf63 rfl rfl)) rfl rfl (WT.load1 8 rfl (by kernel_rfl) isAgg63 rfl (h.cellB rfl) rfl rfl ?_)))))))
   refine WT.pure 11 rfl (by kernel_rfl) (fun w' => (run_nilCheck rfl)) rfl rfl (WT.pure 12 rfl (by kernel_rfl) (fun w' => (run_fieldAddr 2 underlying68 rfl sizeOf66 rfl rfl)) rfl rfl (WT.eff 4 [true, true, false] rfl (by kernel_rfl) (by kernel_rfl) (eff_call call41 (clone_ints (l := g.s.codes) h (Gives.ownO (v := .slice g.a g.s.codes.length g.c)) (by omega))) rfl rfl ?_))
   rintro _ w ⟨a30, c30, rfl, h⟩
   refine ⟨⟨h.cellB rfl, h.cellB rfl, trivial⟩, ?_⟩
   refine WT.eff 9 [false, true] rfl (by kernel_rfl) (by kernel_rfl) (eff_call call42 (mclone_ok (b := g.mb) (h.fetch (MapC g.mb .u64 g.kvs g.ck)))) rfl rfl ?_
   rintro _ w ⟨b35, rfl, h⟩
   refine ⟨⟨h.cellB rfl, trivial⟩, ?_⟩
   refine WT.pure 10 rfl (by kernel_rfl) (fun w' => (run_buildS (pl := [(0, 1), (1, 1), (2, 1)]) (out := [.slice _ _ _, .int .u64 _, .map _]) underlying65 zeroValue65 (fun w => by kernel_rfl) rfl (⟨⟨_, _, rfl, rfl, by decide⟩, ⟨⟨_, _, rfl, rfl, by decide⟩, ⟨⟨_, _, rfl, rfl, by decide⟩, trivial⟩⟩⟩) rfl)) rfl rfl (WT.pure 13 rfl (by kernel_rfl) (fun w' => (run_indexAddrArr underlying66 sizeOf65 rfl rfl (by omega) (by omega))) rfl rfl (WT.eff 14 [false] rfl (by kernel_rfl) (by kernel_rfl) (eff_storeN (vs := [.slice a30 g.s.codes.length c30, .int .u64 g.s.floor, .map (some b35)]) (h.fetch (blk b17 (ncells bs2 bt2 gs2 (8 - (k + 1) + 1)) 68)) sizeOf65 rfl rfl rfl rfl (nlt3 (bs := bs2) (bt := bt2) hgl2) (fun k _ _ => free0 k)) rfl rfl ?_))
   rintro _ w h
   have hns := nsplice (bs := bs2) (bt := bt2) (k := 8 - (k + 1)) (g' := (⟨g.s, a30, c30, b35, g.ck, g.kvs⟩ : GX)) hgl2
   rw [show splice (ncells bs2 bt2 gs2 (8 - (k + 1) + 1)) (0 + 2 + ((k : Nat) : Int).toNat * 3) [.slice a30 g.s.codes.length c30, .int .u64 g.s.floor, .map (some b35)] = ncells bs2 bt2 (gs2 ++ [(⟨g.s, a30, c30, b35, g.ck, g.kvs⟩ : GX)]) (8 - (k + 1)) from hns] at h
   refine ⟨trivial, ?_⟩
   refine WT.done (by kernel_rfl) (W.region (WL.val (run_incN rfl rfl (by omega)) rfl rfl (WL.val run_move rfl rfl (WL.nil ?_))))
   have h := Big.close (y := g) hig (closeG (g := g) hok (((h.fetch (Big (GOwn pool) (gs.eraseIdx k))).fetch (MapC g.mb .u64 g.kvs g.ck)).fetch (CodesO g)))
   rw [set_same hg] at h
   have h := closeG (pool := pool) (g := (⟨g.s, a30, c30, b35, g.ck, g.kvs⟩ : GX)) hok ((h.fetch (MapC b35 .u64 g.kvs g.ck)).fetch (Own 1 (.slice a30 g.s.codes.length c30) g.s.codes.length (cV g.s.codes)))
   have h := Big.push ((h.fetch (Big (GOwn pool) gs2)).fetch (GOwn pool (⟨g.s, a30, c30, b35, g.ck, g.kvs⟩ : GX)))
   exact ⟨k + 1, ⟨by omega, _, gs2 ++ [(⟨g.s, a30, c30, b35, g.ck, g.kvs⟩ : GX)], take_snocG hg hgs2 rfl, mkE_of ⟨rfl, rfl, rfl, trivial⟩, h.to⟩, by show 8 - (k + 1) < 8 - k; omega⟩
  refine W.exit (W.seq (W.region (WL.val run_move rfl rfl (WL.val run_assign rfl rfl (WL.nil (W.ret (bodyQ.r1 (v := .pointer _) results13 rfl ?_)))))))
  have ob_ : k = 8 := by omega
  obtain rfl := ob_
  have e8 : (gs.take 8).map (·.s) = u.g := by rw [List.take_of_length_le (by omega)]; exact hm.1
  have en : ncells bs2 bt2 gs2 (8 - 8) = ucells bs2 bt2 gs2 := by show _ :: _ :: (gs2.flatMap GX.row ++ []) = _; rw [List.append_nil]
  rw [en] at h
  have h := closeU (bu := bu) (u := u) hm hl ((((h.fetch (Big (GOwn pool) gs)).fetch (blk bt u.t.cells 113)).fetch (SpP 105 bs u.s)).fetch (blk bu (ucells bs bt gs) 68))
  have h := closeU (bu := b17) (u := u) (ms := gs2.map (·.mb)) ⟨hgs2.trans e8, rfl⟩ hl ((((h.fetch (Big (GOwn pool) gs2)).fetch (blk bt2 u.t.cells 113)).fetch (SpP 105 bs2 u.s)).fetch (blk b17 (ucells bs2 bt2 gs2) 68))
  exact ⟨b17, gs2.map (·.mb), rfl, h.to⟩
theorem utwinR_ok {bu : Nat} {u : Un} {pc : PoolK} (h : On W0 (RefU 89 94 137 bu pc u :: PoolC pc :: L) w) : Calls Tryz.prog 14 #[.pointer (some ⟨bu, 0, none⟩)] w (Ret fun v w' => ∃ b', v = .pointer (some ⟨b', 0, none⟩) ∧ On W0 (RefU 89 94 137 b' pc u :: RefU 89 94 137 bu pc u :: PoolC pc :: L) w') := by
  refine enter func14 rfl ntmps14 rfl ?_
  have hmx := maxLen_eq
  have ho := openF h
  obtain ⟨bs, bt, xs, hpk, h⟩ := ho
  have hl8 := xs_len hpk
  have h1s := rcells_one (bs := bs) (bt := bt) hpk.2.2.1 (h.fetch (PoolC pc))
  have hr26 := rcells_len (bs := bs) (bt := bt) hl8
  have ho := openR (h.fetch (RSpP 94 bs pc u.s))
  obtain ⟨bv, mv, m, hpr, h⟩ := ho
  have fB := (h.readsTo (Gives.poolC (L := L) hpr.2.1)).form
  obtain ⟨ab, cb, hbv, _⟩ := fB
  have fM := (h.readsTo (Gives.poolC (L := L) hpr.2.2.1)).form
  obtain ⟨am, cm, hmv, _⟩ := fM
  subst hbv
  subst hmv
  refine W.seq (W.region (WL.val run_assign rfl rfl (WL.nil (W.seq (W.region (WL.val run_move rfl rfl (WL.val (run_nilCheck rfl) rfl rfl ?_)))))))
  refine WL.val (run_loadB (vs := rcells bs bt xs) h isAgg89 sizeOf89 rfl (by rw [List.drop_zero]; exact List.take_of_length_le (by omega)) hr26) rfl rfl (WL.eff (eff_alloc h zeroValue89 rfl) rfl rfl ?_)
  rintro _ w ⟨b3, rfl, h⟩
  refine WL.eff (eff_storeW (vs := rcells bs bt xs) h sizeOf89 rfl rfl hr26 h1s rfl) rfl rfl ?_
  rintro _ w h
  refine WL.nil (W.seq (W.region (WL.val run_move rfl rfl (WL.val (run_nilCheck rfl) rfl rfl (WL.val (run_fieldAddr 0 underlying89 rfl sizeOf79 rfl rfl) rfl rfl (WL.val (run_load1 isAgg79 rfl (h.cellB rfl)) rfl rfl (WL.val (run_nilCheck rfl) rfl rfl ?_)))))))
  refine WL.val (run_loadB (vs := [.int .i64 _, .slice _ _ _, .slice _ _ _]) h isAgg94 sizeOf94 rfl rfl rfl) rfl rfl (WL.eff (eff_alloc h zeroValue94 rfl) rfl rfl ?_)
  rintro _ w ⟨b4, rfl, h⟩
  refine WL.eff (eff_storeW (vs := [.int .i64 _, .slice _ _ _, .slice _ _ _]) h sizeOf94 rfl rfl rfl rfl rfl) rfl rfl ?_
  rintro _ w h
  refine WL.nil (W.seq (W.region (WL.val (run_fieldAddr 0 underlying89 rfl sizeOf79 rfl rfl) rfl rfl (WL.eff (eff_store (v := .pointer _) h sizeOf79 rfl rfl rfl rfl rfl) rfl rfl ?_))))
  rintro _ w h
  try simp only [Nat.zero_add, Nat.add_zero, List.set_cons_zero, List.set_cons_succ] at h
  refine WL.nil (W.seq (W.region (WL.val run_move rfl rfl (WL.val (run_nilCheck rfl) rfl rfl (WL.val (run_fieldAddr 1 underlying89 rfl sizeOf82 rfl rfl) rfl rfl (WL.val (run_load1 isAgg82 rfl (h.cellB rfl)) rfl rfl (WL.eff (eff_call call43 (rtwinR_ok (b := bt) (h.fetch (blk bt u.t.cells 137)))) rfl rfl ?_)))))))
  rintro _ w ⟨bt2, rfl, h⟩
  refine WL.val (run_fieldAddr 1 underlying89 rfl sizeOf82 rfl rfl) rfl rfl (WL.eff (eff_store (v := .pointer _) h sizeOf82 rfl rfl rfl rfl rfl) rfl rfl ?_)
  rintro _ w h
  try simp only [Nat.zero_add, Nat.add_zero, List.set_cons_zero, List.set_cons_succ] at h
  refine WL.nil (W.seq (W.region (WL.val run_assign rfl rfl (WL.nil (W.ret (bodyQ.r1 (v := .pointer _) results14 rfl ?_))))))
  have h := h.fetch (blk b3 (rcells b4 bt2 xs) 89)
  have h := closeR (b := bs) hpr (h.fetch (blk bs [.int .i64 (u.s.N : Int), .slice ab u.s.d.length cb, .slice am m.length cm] 94))
  have h := closeF (bu := bu) (u := u) hpk (((h.fetch (blk bt u.t.cells 137)).fetch (RSpP 94 bs pc u.s)).fetch (blk bu (rcells bs bt xs) 89))
  have h := closeR (b := b4) hpr (h.fetch (blk b4 [.int .i64 (u.s.N : Int), .slice ab u.s.d.length cb, .slice am m.length cm] 94))
  have h := closeF (bu := b3) (bs := b4) (bt := bt2) (u := u) hpk (((h.fetch (blk bt2 u.t.cells 137)).fetch (RSpP 94 b4 pc u.s)).fetch (blk b3 (rcells b4 bt2 xs) 89))
  exact ⟨b3, rfl, h.to⟩
end Go.Proofs.YtjbgiingimhnnaaGreat
/-
  A unit: commands by their numbers: the contracts. Lines of walks printed by a program of the prover's.
-/
namespace Go.Proofs.YtjbgiingimhnnaaGreat
open Go Go.Sl Go.Sl.BitM Go.Sl.SpM Go.Sl.RsM Go.Sl.ByM Go.Sl.UnM
set_option linter.unusedVariables false
set_option linter.unusedSimpArgs false
set_option maxHeartbeats 1000000
set_option maxRecDepth 8000
variable {W0 w : World} {L F : List HProp}
end Go.Proofs.YtjbgiingimhnnaaGreat
/-
  Walks of functions in whose code a range over a function stands, and of iterators that call yield: the rules of SlWalk over the kit's fenced walks, with the marks that such a loop leaves.
-/
namespace Go.Sl
open Go
set_option linter.unusedVariables false
@[reducible] def FR (o : Option Nat) : Fence := { Fence.wide with round := o }
theorem callsFR {o : Option Nat} {n : Nat} {P : Program} {f : FuncId} {args : Array Value} {w : World} {R : Ending → World → Prop} (h : Calls P f args w R) : CallsIn (FR o) n P f args w R := (callsIn_wide (n := n)).2 h
theorem callsOf {n : Nat} {P : Program} {f : FuncId} {args : Array Value} {w : World} {R : Ending → World → Prop} (h : CallsIn (FR none) n P f args w R) : Calls P f args w R := (callsIn_wide (n := n)).1 h
structure RelD (N : Nat) (ds : List Deferred) (a : Act) (env : Env) : Prop where
  size : a.tmps.size = N
  get : ∀ t, a.tmps.getD t undef = env t
  defers : a.defers = ds
theorem RelD.eval {N : Nat} {ds : List Deferred} {a : Act} {env : Env} (r : RelD N ds a env) : a.eval = evo env := by
  funext x
  cases x with
  | tmp t => exact r.get t
  | _ => rfl
theorem RelD.put {N : Nat} {ds : List Deferred} {a : Act} {env : Env} (r : RelD N ds a env) {d : Nat} (hd : Nat.ble (d + 1) N = true) (v : Value) : RelD N ds (a.put (some d) v) (upd env d v) := by
  have hlt : d < a.tmps.size := by rw [r.size]; exact Nat.le_of_ble_eq_true hd
  refine ⟨by simp [Act.put, r.size], fun t => ?_, r.defers⟩
  by_cases h : t = d
  · subst h; rw [upd_same]; simp [Act.put, hlt]
  · rw [upd_other _ _ h, ← r.get t]
    simp [Act.put, Array.getElem?_setIfInBounds_ne (Ne.symm h)]
theorem RelD.puto {N : Nat} {ds : List Deferred} {a : Act} {env : Env} (r : RelD N ds a env) {d : Option Nat} (hd : inN N d = true) (v : Value) : RelD N ds (a.put d v) (updo env d v) := by
  cases d with
  | none => exact r
  | some d => exact r.put hd v
theorem RelD.yielded {N : Nat} {ds : List Deferred} {a : Act} {env : Env} (r : RelD N ds a env) (ops : Array Oper) (j : Nat) : yielded ops a.tmps j = yieldedE ops env j := by
  have r' : Rel N { a with defers := [] } env := ⟨r.size, r.get, rfl⟩
  exact r'.yielded ops j
/-- An operation that is no defer. -/
def plainOp (o : Oper) : Bool := match o.op with | .defer _ => false | _ => true
theorem plain_sem {o : Oper} (h : plainOp o = true) (ro : Option Nat) (ρ : Operand → Value) : Oper.semAt ro ρ o = execOp ρ o := Oper.semAt_eq ro ρ o fun c e => by
  unfold plainOp at h; rw [e] at h; cases h
section
variable {P : Program} {N n : Nat} {fo : Option Nat} {ds : List Deferred} {ops : Array Oper} {K : List Deferred → Env → World → Prop} {env : Env} {w : World} {rest : List Oper} {o : Oper}
def liftKD (N : Nat) (K : List Deferred → Env → World → Prop) : Exit → Act → World → Prop := fun e a w => e = .normal ∧ ∃ ds env, RelD N ds a env ∧ K ds env w
def WLF (fo : Option Nat) (n : Nat) (P : Program) (N : Nat) (ops : Array Oper) (K : List Deferred → Env → World → Prop) (l : List Oper) (ds : List Deferred) (env : Env) (w : World) : Prop :=
  ∀ a, RelD N ds a env → wpListIn (FR fo) n P ops (liftKD N K) l a w
theorem WLF.nil (h : K ds env w) : WLF fo n P N ops K [] ds env w := fun a r => ⟨rfl, ds, env, r, h⟩
theorem WLF.val {v : Value} {w' : World} (hr : (execOp (evo env) o).run P w = .ok (.value v) w') (hp : plainOp o = true) (hw : Region.wanted o (yieldedE ops env) = true) (hd : inN N o.dst = true)
    (k : WLF fo n P N ops K rest ds (updo env o.dst v) w') : WLF fo n P N ops K (o :: rest) ds env w := fun a r => by
  unfold wpListIn
  have hy : yielded ops a.tmps = yieldedE ops env := funext fun j => r.yielded ops j
  rw [hy, if_pos hw]
  refine ⟨fun _ _ => trivial, ?_⟩
  rw [plain_sem hp, r.eval, hr]
  exact k _ (r.puto hd v)
theorem WLF.skip (hw : Region.wanted o (yieldedE ops env) = false) (hd : inN N o.dst = true) (k : WLF fo n P N ops K rest ds (updo env o.dst undef) w) : WLF fo n P N ops K (o :: rest) ds env w := fun a r => by
  unfold wpListIn
  have hy : yielded ops a.tmps = yieldedE ops env := funext fun j => r.yielded ops j
  rw [hy, hw]
  exact ⟨fun _ _ => trivial, k _ (r.puto hd undef)⟩
theorem WLF.eff {R : Value → World → Prop} (he : Eff P (evo env) o w R) (hp : plainOp o = true) (hw : Region.wanted o (yieldedE ops env) = true) (hd : inN N o.dst = true)
    (k : ∀ v w', R v w' → WLF fo n P N ops K rest ds (updo env o.dst v) w') : WLF fo n P N ops K (o :: rest) ds env w := fun a r => by
  unfold wpListIn
  have hy : yielded ops a.tmps = yieldedE ops env := funext fun j => r.yielded ops j
  rw [hy, if_pos hw]
  refine ⟨fun _ _ => trivial, ?_⟩
  rw [plain_sem hp, r.eval]
  rcases he with ⟨v, w', hr, hR⟩ | ⟨w', hr, hR⟩ | ⟨f, args, w1, hr, hc⟩
  · rw [hr]; exact k v w' hR _ (r.puto hd v)
  · rw [hr]; exact k undef w' hR _ (r.puto hd undef)
  · rw [hr]
    refine ⟨fun h => (by cases h), CallsIn.mono (callsFR hc) ?_⟩
    rintro e w' ⟨v, rfl, hR⟩
    exact k v w' hR _ (r.puto hd v)
/-- A call of yield. -/
theorem WLF.yield {R : Value → World → Prop} {l : Nat} {x y : Operand} {args : List Operand} {tys : Array TypeId} {d : Option Nat} {ty : TypeId} {pos : String} {af : Array Edge} {g : Option (Nat × Bool)}
    (ho : o = ⟨d, .call { callee := .value x, args := args.toArray, argTypes := tys }, ty, pos, af, g⟩) (hx : evo env x = .func (.yield l) #[] #[]) (hw : Region.wanted o (yieldedE ops env) = true) (hd : inN N o.dst = true)
    (hY : YieldAt (FR fo) (n - 1) P l (args.map (evo env)).toArray w (Ret R)) (k : ∀ v w', R v w' → WLF fo n P N ops K rest ds (updo env o.dst v) w') : WLF fo n P N ops K (o :: rest) ds env w := fun a r => by
  unfold wpListIn
  have hyy : yielded ops a.tmps = yieldedE ops env := funext fun j => r.yielded ops j
  rw [hyy, if_pos hw]
  refine ⟨fun _ _ => trivial, ?_⟩
  rw [plain_sem (by rw [ho]; rfl), r.eval]
  obtain ⟨fn, tmps, assign, body, hrun, hR⟩ := hY
  have hex : (execOp (evo env) o).run P w = .ok (.round l fn tmps assign body) w := by
    rw [ho]
    simp [execOp, resolve, Deferred.ofValue, hx, invoke, hrun]
  rw [hex]
  refine ⟨fun h => (by cases h), RoundIn.mono hR ?_⟩
  rintro e w' ⟨v, rfl, hR⟩
  exact k v w' hR _ (r.puto hd v)
end
section
variable {P : Program} {N n : Nat} {fo : Option Nat} {ds : List Deferred} {env : Env} {w : World}
def liftQD (N : Nat) (Q : Exit → List Deferred → Env → World → Prop) : Exit → Act → World → Prop := fun e a w => ∃ ds env, RelD N ds a env ∧ Q e ds env w
def WF (fo : Option Nat) (n : Nat) (P : Program) (N : Nat) (c : Code) (Q : Exit → List Deferred → Env → World → Prop) (ds : List Deferred) (env : Env) (w : World) : Prop :=
  ∀ a, RelD N ds a env → c.wpIn (FR fo) n P (liftQD N Q) a w
@[reducible] def thenF (fo : Option Nat) (n : Nat) (P : Program) (N : Nat) (b : Code) (Q : Exit → List Deferred → Env → World → Prop) : Exit → List Deferred → Env → World → Prop
  | .normal, ds, env, w => WF fo n P N b Q ds env w
  | e, ds, env, w => Q e ds env w
@[reducible] def blockF (id : Nat) (Q : Exit → List Deferred → Env → World → Prop) : Exit → List Deferred → Env → World → Prop
  | .exit i, ds, env, w => match Nat.beq i id with | true => Q .normal ds env w | false => Q (.exit i) ds env w
  | e, ds, env, w => Q e ds env w
variable {Q Q' : Exit → List Deferred → Env → World → Prop}
theorem WF.mono {c : Code} (h : WF fo n P N c Q ds env w) (i : ∀ e ds env w, Q e ds env w → Q' e ds env w) : WF fo n P N c Q' ds env w := fun a r =>
  wpIn_mono (h a r) fun e a' w' ⟨ds', env', r', q⟩ => ⟨ds', env', r', i _ _ _ _ q⟩
theorem WF.seq {x y : Code} (h : WF fo n P N x (thenF fo n P N y Q) ds env w) : WF fo n P N (.seq x y) Q ds env w := fun a r => by
  refine wpIn_seq (wpIn_mono (h a r) ?_)
  rintro e a' w' ⟨ds', env', r', q⟩
  cases e with
  | normal => exact q a' r'
  | _ => exact ⟨ds', env', r', q⟩
theorem WF.skip (h : Q .normal ds env w) : WF fo n P N .skip Q ds env w := fun _ r => wpIn_skip ⟨ds, env, r, h⟩
theorem WF.exit {id : Nat} (h : Q (.exit id) ds env w) : WF fo n P N (.exit id) Q ds env w := fun _ r => wpIn_exit ⟨ds, env, r, h⟩
theorem WF.ret (h : Q .ret ds env w) : WF fo n P N .ret Q ds env w := fun _ r => wpIn_ret ⟨ds, env, r, h⟩
theorem WF.block {id : Nat} {c : Code} (h : WF fo n P N c (blockF id Q) ds env w) : WF fo n P N (.block id c) Q ds env w := fun a r => by
  refine wpIn_block (wpIn_mono (h a r) ?_)
  rintro e a' w' ⟨ds', env', r', q⟩
  cases e with
  | exit i =>
    simp only [Exit.inBlock]
    by_cases hi : i = id
    · subst hi; simp only [blockF, Nat.beq_refl] at q; rw [if_pos rfl]; exact ⟨ds', env', r', q⟩
    · have hb : Nat.beq i id = false := by rw [← Bool.not_eq_true]; intro e; exact hi (Nat.eq_of_beq_eq_true e)
      simp only [blockF, hb] at q; rw [if_neg hi]; exact ⟨ds', env', r', q⟩
  | _ => exact ⟨ds', env', r', q⟩
theorem WF.cond {c : Operand} {x y : Code} (b : Bool) (hc : evo env c = .bool b) (h : WF fo n P N (if b then x else y) Q ds env w) : WF fo n P N (.cond c x y) Q ds env w := fun a r =>
  wpIn_cond (by rw [r.eval]; exact hc) (h a r)
theorem WF.condT {c : Operand} {x y : Code} (hc : evo env c = .bool true) (h : WF fo n P N x Q ds env w) : WF fo n P N (.cond c x y) Q ds env w := WF.cond true hc h
theorem WF.condF {c : Operand} {x y : Code} (hc : evo env c = .bool false) (h : WF fo n P N y Q ds env w) : WF fo n P N (.cond c x y) Q ds env w := WF.cond false hc h
theorem WF.condIf {c : Operand} {x y : Code} {p : Prop} [Decidable p] (hc : evo env c = .bool (decide p)) (ht : p → WF fo n P N x Q ds env w) (hf : ¬ p → WF fo n P N y Q ds env w) : WF fo n P N (.cond c x y) Q ds env w := by
  by_cases h : p
  · exact WF.condT (by rw [hc]; simp [h]) (ht h)
  · exact WF.condF (by rw [hc]; simp [h]) (hf h)
theorem WF.region {id : Nat} {l : List Oper} (h : WLF fo n P N l.toArray (fun ds' env' w' => Q .normal ds' env' w') l ds env w) : WF fo n P N (.region id l.toArray false) Q ds env w := fun a r => by
  refine wpIn_region_lit ?_
  refine weaken ?_ l a w (h a r)
  rintro e a' w' ⟨rfl, ds', env', r', k⟩
  exact ⟨ds', env', r', k⟩
where
  weaken {P : Program} {fo : Option Nat} {n : Nat} {ops : Array Oper} {Q Q' : Exit → Act → World → Prop} (i : ∀ e a w, Q e a w → Q' e a w) : ∀ (l : List Oper) (a : Act) (w : World), wpListIn (FR fo) n P ops Q l a w → wpListIn (FR fo) n P ops Q' l a w := by
    intro l
    induction l with
    | nil => exact fun a w h => i _ _ _ h
    | cons o rest ih =>
      intro a w h
      unfold wpListIn at h ⊢
      split
      · rename_i hw
        rw [if_pos hw] at h
        obtain ⟨h1, h2⟩ := h
        refine ⟨h1, ?_⟩
        generalize (Oper.semAt _ a.eval o).run P w = r at h2 ⊢
        cases r with
        | ok nx w' =>
          cases nx <;> simp only [Oper.uponIn] at h2 ⊢ <;>
            first
              | exact ih _ _ h2
              | exact ⟨h2.1, CallsIn.mono h2.2 (fun e w'' he => by
                  cases e
                  · exact ih _ _ he
                  · exact i _ _ _ he
                  · exact ⟨he.choose, he.choose_spec.choose, i _ _ _ he.choose_spec.choose_spec⟩)⟩
              | exact ⟨h2.1, RoundIn.mono h2.2 (fun e w'' he => by
                  cases e
                  · exact ih _ _ he
                  · exact i _ _ _ he
                  · exact ⟨he.choose, he.choose_spec.choose, i _ _ _ he.choose_spec.choose_spec⟩)⟩
              | exact ⟨h2.1, RowsIn.mono h2.2 (fun _ _ he => ih _ _ he)⟩
        | halt x w' =>
          cases x <;> simp only [Oper.uponIn] at h2 ⊢
          exact i _ _ _ h2
      · rename_i hw
        rw [if_neg hw] at h
        exact ⟨h.1, ih _ _ h.2⟩
@[reducible] def loopF {σ : Type} (I : σ → Env → World → Prop) (m : σ → Nat) (s : σ) (ds : List Deferred) (Q : Exit → List Deferred → Env → World → Prop) : Exit → List Deferred → Env → World → Prop
  | .normal, ds', env, w => ds' = ds ∧ ∃ s', I s' env w ∧ m s' < m s
  | e, ds', env, w => Q e ds' env w
theorem WF.loop {σ : Type} {c : Code} (I : σ → Env → World → Prop) (m : σ → Nat) (s0 : σ) (h0 : I s0 env w)
    (step : ∀ s env w, I s env w → WF fo n P N c (loopF I m s ds Q) ds env w) : WF fo n P N (.loop c) Q ds env w := fun a r => by
  intro b k cs hro hb hr
  have key : ∀ j a w, (∃ s env, RelD N ds a env ∧ I s env w ∧ m s = j) →
      ∃ e a' w', liftQD N Q e a' w' ∧ ArrivesIn (Machine.fenced P (FR fo)) P (lone (b.atR a (.code c :: .inLoop c :: k)) cs w) b k cs e a' w' := by
    intro j
    induction j using Nat.strongRecOn with
    | _ j ih =>
      rintro a w ⟨s, env, r, hI, hm⟩
      obtain ⟨e, a₁, w₁, ⟨ds', env', r', hq⟩, harr⟩ := step s env w hI a r b (.inLoop c :: k) cs hro hb hr
      cases e with
      | normal =>
        obtain ⟨rfl, s', hI', hlt⟩ := hq
        obtain ⟨e₂, a₂, w₂, hq₂, harr₂⟩ := ih (m s') (by omega) a₁ w₁ ⟨s', env', r', hI', rfl⟩
        exact ⟨e₂, a₂, w₂, hq₂, .of_steps (StepsIn.trans harr (.one (fenced_calm hb hr rfl) stepR_inLoop)) harr₂⟩
      | exit id => exact ⟨_, a₁, w₁, ⟨ds', env', r', hq⟩, .pass (x := .inLoop c) rfl (fun _ _ => .inl (by simp)) harr⟩
      | goto l => exact ⟨_, a₁, w₁, ⟨ds', env', r', hq⟩, .pass (x := .inLoop c) rfl (fun _ _ => .inl (by simp)) harr⟩
      | ret => exact ⟨_, a₁, w₁, ⟨ds', env', r', hq⟩, .pass (x := .inLoop c) rfl (fun _ _ => .inl (by simp)) harr⟩
      | panic ch => exact ⟨_, a₁, w₁, ⟨ds', env', r', hq⟩, .pass (x := .inLoop c) rfl (fun _ _ => .inl (by simp)) harr⟩
      | outgrown => exact ⟨_, a₁, w₁, ⟨ds', env', r', hq⟩, .pass (x := .inLoop c) rfl (fun _ _ => .inl (by simp)) harr⟩
  obtain ⟨e, a', w', hq, harr⟩ := key _ a w ⟨s0, env, r, h0, rfl⟩
  exact ⟨e, a', w', hq, .of_steps (.one (fenced_calm hb hr rfl) stepR_loop) harr⟩
end
theorem filt_perm {β γ : Type} [DecidableEq γ] (f : β → γ) : ∀ {l : List β} {e : β}, (l.map f).Nodup → e ∈ l → l.Perm (e :: l.filter fun x => !decide (f x = f e))
  | [], e, _, h => by cases h
  | y :: l, e, hn, h => by
    rw [List.map_cons, List.nodup_cons] at hn
    rcases List.mem_cons.1 h with h1 | h1
    · subst h1
      have e1 : ((e :: l).filter fun x => !decide (f x = f e)) = l := by
        rw [List.filter_cons, if_neg (by simp)]
        refine List.filter_eq_self.2 fun x hx => ?_
        have : f x ≠ f e := fun hh => hn.1 (List.mem_map.2 ⟨x, hx, hh⟩)
        simpa using this
      rw [e1]
    · have hne : f y ≠ f e := fun hh => hn.1 (List.mem_map.2 ⟨e, h1, hh.symm⟩)
      rw [List.filter_cons, if_pos (by simpa using hne)]
      exact ((filt_perm f hn.2 h1).cons y).trans (List.Perm.swap ..)
theorem remM_perm {kvs : List KV} {seen : Array Nat} {e : KV} (hf : (kvs.map (·.2.2)).Nodup) (h : e ∈ remM kvs seen) : (remM kvs seen).Perm (e :: remM kvs (seen.push e.2.2)) := by
  have hn : ((remM kvs seen).map (·.2.2)).Nodup := (List.filter_sublist.map _).nodup hf
  have h1 := filt_perm (fun x : KV => x.2.2) hn h
  have e1 : remM kvs (seen.push e.2.2) = (remM kvs seen).filter fun x => !decide (x.2.2 = e.2.2) := by
    unfold remM
    rw [List.filter_filter]
    refine List.filter_congr fun x _ => ?_
    rw [contains_pushM, Bool.not_or, Bool.and_comm]
    congr 1
  rw [e1]
  exact h1
section
variable {P : Program} {N n : Nat} {ds : List Deferred} {env : Env} {w W0 : World} {L : List HProp} {Q : Exit → List Deferred → Env → World → Prop}
theorem On.putPts {b : Nat} {o : Obj} (o' : Obj) (H : On W0 (pts b o :: L) w) : On W0 (pts b o' :: L) (w.putObj b o') := by
  have hb := H.block 0 rfl
  have hlt : b < w.heap.size := (Array.getElem?_eq_some_iff.1 hb).1
  refine H.set (w' := w.putObj b o') 0 rfl rfl rfl rfl (by simp [World.putObj]) ?_ ?_
  · simp [World.putObj, hlt]
  · intro k hk
    simp [World.putObj, Ne.symm hk]
/-- The slots that a round's values come into. -/
def putps (env : Env) : List (Nat × Value) → Env
  | [] => env
  | (p, v) :: l => putps (upd env p v) l
theorem RelD.putps : ∀ {l : List (Nat × Value)} {a : Act} {env : Env}, RelD N ds a env → (∀ p ∈ l, Nat.ble (p.1 + 1) N = true) → RelD N ds { a with tmps := l.foldl (fun t (x : Nat × Value) => t.setIfInBounds x.1 x.2) a.tmps } (putps env l)
  | [], a, env, r, _ => r
  | (p, v) :: l, a, env, r, h => by
    have r1 := r.put (h (p, v) (List.mem_cons_self ..)) v
    exact RelD.putps (l := l) (a := a.put (some p) v) r1 (fun q hq => h q (List.mem_cons_of_mem _ hq))
abbrev markD (D : Nat) : Deferred := { target := .collected D, args := #[] }
abbrev openD (D : Nat) : HProp := pts D (.deferred (some []))
/-- A range over a function. -/
theorem WF.rangeFunc {α : Type} {g : Operand} {ps : List Nat} {assign body : Code} {gf : FuncId} {caps : Array Value} (encs : α → List Value)
    (hg : evo env g = .func (.func gf) #[] caps) (hen : ∀ args w, (callFunc gf args).run P w = .ok (.enter gf args) w)
    (Y0 : List α → HProp) (S : List α → Prop) (Bd : List α → α → Prop) (env1 : Env → α → Env) (hps : ∀ x, (encs x).length = ps.length) (hpn : ∀ p ∈ ps, Nat.ble (p + 1) N = true)
    (hassign : ∀ l x w, WF (some l) (n - 1 - 1) P N assign (fun e ds' env' w' => e = .normal ∧ ds' = [] ∧ env' = env1 env x ∧ w' = w) [] (putps env (ps.zip (encs x))) w)
    (hbody : ∀ l pre x A w, Bd pre x → On W0 (Y0 pre :: A) w → WF (some l) (n - 1 - 1) P N body (fun e ds' env' w' => e = .normal ∧ On W0 (Y0 (pre ++ [x]) :: A) w') [] (env1 env x) w)
    (hseq : ∀ l (Y : List α → HProp) w, (∀ pre x A w, Bd pre x → On W0 (Y pre :: A) w → YieldAt (FR none) (n - 1 - 1) P l (encs x).toArray w (Ret fun v w' => v = .bool true ∧ On W0 (Y (pre ++ [x]) :: A) w')) →
      On W0 (Y [] :: L) w → CallsIn (FR none) (n - 1) P gf (#[.func (.yield l) #[] #[]] ++ caps) w (Ret fun v w' => ∃ ss, S ss ∧ On W0 (Y ss :: L) w'))
    (H : On W0 (Y0 [] :: L) w) (k : ∀ D ss w', S ss → On W0 (Y0 ss :: openD D :: L) w' → Q .normal (markD D :: ds) env w') :
    WF none n P N (.rangeFunc g ps.toArray assign body) Q ds env w := fun a r => by
  refine wpIn_rangeFunc ?_
  intro fn hfn
  obtain ⟨D, hD⟩ : ∃ D, D = w.heap.size := ⟨_, rfl⟩
  obtain ⟨rec, hrec⟩ : ∃ rec : LoopState → Loop, rec = fun st => { state := st, pending := none, fn, tmps := a.tmps, params := ps.toArray, assign, body, defers := D } := ⟨_, rfl⟩
  obtain ⟨W1, hW1⟩ : ∃ W1, W1 = (w.alloc (.deferred (some []))).alloc (.loop (rec .ready)) := ⟨_, rfl⟩
  have h1 := (H.alloc (.deferred (some []))).alloc (.loop (rec .ready))
  rw [← hD, ← hW1] at h1
  have hsz : (w.alloc (.deferred (some []))).heap.size = D + 1 := by rw [hD]; simp
  rw [hsz] at h1
  obtain ⟨Y, hYd⟩ : ∃ Y : List α → HProp, Y = fun pre => Pack True [Y0 pre, pts (D + 1) (.loop (rec .ready)), openD D] := ⟨_, rfl⟩
  have hYp : ∀ pre, Y pre = Pack True [Y0 pre, pts (D + 1) (.loop (rec .ready)), openD D] := fun pre => by rw [hYd]
  clear hYd
  have hround : ∀ pre x A w, Bd pre x → On W0 (Y pre :: A) w → YieldAt (FR none) (n - 1 - 1) P (D + 1) (encs x).toArray w (Ret fun v w' => v = .bool true ∧ On W0 (Y (pre ++ [x]) :: A) w') := by
    intro pre x A w hbd hY
    rw [hYp] at hY
    obtain ⟨_, hY⟩ := hY.unpack
    have hY : On W0 (Y0 pre :: pts (D + 1) (.loop (rec .ready)) :: openD D :: A) w := hY
    have hl : w.heap[D + 1]? = some (.loop (rec .ready)) := hY.block 1 rfl
    have hy := run_yield (P := P) (args := (encs x).toArray) hl (by rw [hrec]; simp [hps x])
    refine ⟨_, _, _, _, hy, roundIn_of_wpIn trivial ?_⟩
    have rr : RelD N [] { tmps := (((rec .ready).params.zip (encs x).toArray).foldl (fun tmps (t, a) => tmps.setIfInBounds t a) (rec .ready).tmps), defers := [] } (putps env (ps.zip (encs x))) := by
      have r0 : RelD N [] { tmps := a.tmps, defers := [] } env := ⟨r.size, r.get, rfl⟩
      have := r0.putps (l := ps.zip (encs x)) (fun p hp => hpn p.1 (List.of_mem_zip hp).1)
      rw [hrec]
      simpa using this
    have ea : (rec .ready).assign = assign := by rw [hrec]
    have eb : (rec .ready).body = body := by rw [hrec]
    rw [ea, eb]
    refine wpIn_mono (hassign (D + 1) x w _ rr) ?_
    rintro e a1 w1 ⟨ds1, env1', r1, rfl, rfl, rfl, rfl⟩
    have hb := run_beginRound (P := P) hl (by rw [hrec])
    refine ⟨_, hb, ?_⟩
    have h2 : On W0 (pts (D + 1) (.loop { rec .ready with state := .busy }) :: Y0 pre :: openD D :: A) (w1.putObj (D + 1) (.loop { rec .ready with state := .busy })) := On.putPts _ hY.p1
    refine wpIn_mono (hbody (D + 1) pre x _ _ hbd h2.p1 a1 r1) ?_
    rintro e a2 w2 ⟨ds2, env2, r2, rfl, h3⟩
    have hl3 := h3.block 1 rfl
    have he := run_endRound (P := P) none hl3
    refine ⟨_, _, he, _, rfl, rfl, ?_⟩
    rw [hYp]
    refine On.pack trivial ?_
    have h4 := On.putPts (.loop { { rec .ready with state := .busy } with state := if (none : Option Code).isNone then .ready else .done, pending := none }) h3.p1
    have e4 : ({ { rec .ready with state := .busy } with state := if (none : Option Code).isNone then .ready else .done, pending := none } : Loop) = rec .ready := by rw [hrec]; rfl
    rw [e4] at h4 ⊢
    exact h4.p1
  have h2 : On W0 (Y [] :: L) W1   := by
    rw [hYp]
    refine On.pack trivial ?_
    have h3 : On W0 (pts (D + 1) (.loop (rec .ready)) :: openD D :: Y0 [] :: L) _ := h1
    exact h3.p2
  have hcall := hseq (D + 1) Y W1 hround h2
  have hen1 : (Instr.enterLoop fn a.tmps ps.toArray assign body none).run P w = .ok (D + 1, [markD D]) W1 := by
    rw [hW1, hrec, hD]; exact run_enterLoop_outer _ _ _ _ _
  have hres : (resolve a.eval (rangeCall g (D + 1)) 0).run P W1 = .ok { target := .fn (.func gf) caps, args := #[.func (.yield (D + 1)) #[] #[]] } W1 := by
    have hge : a.eval g = .func (.func gf) #[] caps := by rw [r.eval]; exact hg
    simp only [resolve, hge]
    simp [go_sem]
  have hinv : (invoke (.fn (.func gf) caps) #[.func (.yield (D + 1)) #[] #[]]).run P W1 = .ok (.enter gf (#[.func (.yield (D + 1)) #[] #[]] ++ caps)) W1 := by
    simp [invoke, go_sem, hen]
  have hpost : ∀ (e : Ending) (w2 : World), Ret (fun v w' => ∃ ss, S ss ∧ On W0 (Y ss :: L) w') e w2 → rangePost (FR none) n P (D + 1) (liftQD N Q) { a with defers := [markD D] ++ a.defers } e w2 := by
    rintro e w2 ⟨v, rfl, ss, hS, h3⟩
    rw [hYp] at h3
    obtain ⟨_, h3⟩ := h3.unpack
    have h3 : On W0 (Y0 ss :: pts (D + 1) (.loop (rec .ready)) :: openD D :: L) w2 := h3
    have hl := h3.block 1 rfl
    have hp0 : (rec .ready).pending = none := by rw [hrec]
    have he : (Instr.endLoop (D + 1)).run P w2 = .ok none (w2.putObj (D + 1) (.loop { rec .ready with state := .exhausted })) := by
      have := run_endLoop (P := P) hl (by rw [hrec]; simp)
      rw [this]
      exact congrArg (fun q => Result.ok q _) hp0
    have h4 := On.putPts (.loop { rec .ready with state := .exhausted }) h3.p1
    refine ⟨none, _, he, markD D :: ds, env, ⟨r.size, r.get, by rw [← r.defers]; rfl⟩, k D ss _ hS h4.tail⟩
  exact ⟨D + 1, [markD D], W1, _, W1, gf, _, W1, hen1, hres, fun _ _ => trivial, hinv, fun h => (by cases h), CallsIn.mono hcall hpost⟩
theorem relD_enter {fn : Func} {args : List Value} (hn : fn.ntmps = N) (hl : Nat.ble args.length N = true) : RelD N [] { tmps := args.toArray ++ Array.replicate (fn.ntmps - args.toArray.size) undef, defers := [] } (nthV args) := by
  have hle : args.length ≤ N := Nat.le_of_ble_eq_true hl
  refine ⟨?_, fun t => ?_, rfl⟩
  · simp [hn]; omega
  · have nth : ∀ (l : List Value) (t : Nat), nthV l t = l.getD t undef := by
      intro l
      induction l with
      | nil => intro t; simp [nthV]
      | cons v l ih => intro t; cases t with
        | zero => simp [nthV]
        | succ t => simp [nthV, ih]
    rw [nth]
    simp only [Array.getD_eq_getD_getElem?, List.getD_eq_getElem?_getD]
    rw [Array.getElem?_append]
    split
    · simp
    · rename_i hge
      simp at hge
      rw [List.getElem?_eq_none hge, Array.getElem?_replicate]
      split <;> rfl
@[reducible] def bodyF (P : Program) (fn : Func) (R : Value → World → Prop) : Exit → List Deferred → Env → World → Prop := fun e ds env w => ds = [] ∧ bodyQ P fn R e env w
/-- A function that ends with the mark of a loop over a function. -/
@[reducible] def bodyM (P : Program) (fn : Func) (R : Value → World → Prop) : Exit → List Deferred → Env → World → Prop
  | .ret, ds, env, w => ∃ D, ds = [markD D] ∧ w.heap[D]? = some (.deferred (some [])) ∧ bodyQ P fn R .ret env (w.putObj D (.deferred none))
  | _, _, _, _ => False
theorem enterF {f : FuncId} {fn : Func} {c : Code} {args : List Value} {R : Value → World → Prop} (hf : P.funcs[f]? = some fn) (hb : fn.body = some c) (hn : fn.ntmps = N) (hl : Nat.ble args.length N = true)
    (h : WF none n P N c (bodyF P fn R) [] (nthV args) w) : CallsIn (FR none) n P f args.toArray w (Ret R) := by
  refine callsIn_of_wp hf hb trivial ?_
  refine wpIn_mono (h _ (relD_enter hn hl)) ?_
  rintro e a' w' ⟨ds', env', r', rfl, q⟩
  cases e with
  | normal => obtain ⟨v, hv, hR⟩ := q; exact ⟨r'.defers, v, hv a'.tmps r'.get, v, rfl, hR⟩
  | ret => obtain ⟨v, hv, hR⟩ := q; exact ⟨r'.defers, v, hv a'.tmps r'.get, v, rfl, hR⟩
  | exit _ => exact q.elim
  | goto _ => exact q.elim
  | panic _ => exact q.elim
  | outgrown => exact q.elim
theorem enterM {f : FuncId} {fn : Func} {c : Code} {args : List Value} {R : Value → World → Prop} (hf : P.funcs[f]? = some fn) (hb : fn.body = some c) (hn : fn.ntmps = N) (hl : Nat.ble args.length N = true)
    (h : WF none n P N c (bodyM P fn R) [] (nthV args) w) : CallsIn (FR none) n P f args.toArray w (Ret R) := by
  refine callsIn_of_wp_marks hf hb trivial ?_
  refine wpIn_mono (h _ (relD_enter hn hl)) ?_
  rintro e a' w' ⟨ds', env', r', q⟩
  cases e with
  | ret =>
    obtain ⟨D, rfl, hD, v, hv, hR⟩ := q
    show LeavesInM _ _ _ _ _ _ a'.defers _ _
    rw [r'.defers]
    exact ⟨(by simp), .inl ⟨D, _, rfl, run_takeDeferred hD, v, hv a'.tmps r'.get, v, rfl, hR⟩⟩
  | normal => exact q.elim
  | exit _ => exact q.elim
  | goto _ => exact q.elim
  | panic _ => exact q.elim
  | outgrown => exact q.elim
end
end Go.Sl
/-
  A unit: keys of maps, sorted: the contracts. Lines of walks printed by a program of the prover's.
-/
namespace Go.Proofs.YtjbgiingimhnnaaGreat
open Go.Proofs.Tryz
open Go Go.Sl Go.Sl.BitM Go.Sl.SpM Go.Sl.RsM Go.Sl.ByM Go.Sl.UnM
set_option linter.unusedVariables false
set_option linter.unusedSimpArgs false
set_option maxHeartbeats 1000000
set_option maxRecDepth 8000
variable {W0 w : World} {L F : List HProp}
theorem keysU_ok {mb ck : Nat} {kvs : List KV} (h : On W0 (MapC mb .u64 kvs ck :: L) w) : Calls Tryz.prog 103 #[.map (some mb)] w (Ret fun v w' => ∃ bb, v = .func (.func 138) #[] #[.pointer (some ⟨bb, 0, none⟩)] ∧ On W0 (blk bb [.map (some mb)] 63 :: MapC mb .u64 kvs ck :: L) w') := by
  refine enter func103 rfl ntmps103 rfl (W.seq (W.region (WL.eff (eff_box (v := .map (some mb)) (l := [.map (some mb)]) h rfl rfl) rfl rfl ?_)))
  rintro _ w ⟨b1, rfl, h⟩
  refine WL.val run_assign rfl rfl (WL.nil (W.seq (W.region (WL.val run_makeFunc rfl rfl (WL.val run_assign rfl rfl (WL.nil (W.ret ?_)))))))
  refine bodyQ.r1  results103 rfl ?_
  exact ⟨b1, rfl, h⟩
theorem keys1_ok {n l bb mb ck : Nat} {kvs : List KV} {Y : List Int → HProp} (hY : ∀ pre x A w, pre.length < kvs.length → On W0 (Y pre :: A) w → YieldAt (FR none) (n - 1) Tryz.prog l [.int .u64 x].toArray w (Ret fun v w' => v = .bool true ∧ On W0 (Y (pre ++ [x]) :: A) w')) (h : On W0 (Y [] :: blk bb [.map (some mb)] 63 :: MapC mb .u64 kvs ck :: L) w) : CallsIn (FR none) n Tryz.prog 138 [.func (.yield l) #[] #[], .pointer (some ⟨bb, 0, none⟩)].toArray w (Ret fun v w' => ∃ ss, ss.Perm (kvs.map (·.1)) ∧ On W0 (Y ss :: blk bb [.map (some mb)] 63 :: MapC mb .u64 kvs ck :: L) w') := by
  refine enterF func138 rfl ntmps138 rfl (WF.seq (WF.region (WLF.val (run_load1 isAgg63 rfl (h.cellB rfl)) rfl rfl rfl (WLF.eff (eff_range (h.fetch (MapC mb .u64 kvs ck)) underlying63 rfl) rfl rfl rfl ?_))))
  rintro _ w ⟨rr, rfl, h⟩
  have hfit := (On.mapC (h.fetch (MapC mb .u64 kvs ck))).1
  refine WLF.nil (WF.block ?_)
  refine WF.loop (fun (seen : Array Nat) env w => ∃ (j : Env) (ss : List Int), env = mkE j [(0, .func (.yield l) #[] #[]), (5, .pointer (some ⟨rr, 0, none⟩))] ∧ (ss ++ (remM kvs seen).map (·.1)).Perm (kvs.map (·.1)) ∧ On W0 (IterC rr mb seen ck :: MapC mb .u64 kvs ck :: Y ss :: blk bb [.map (some mb)] 63 :: L) w) (fun seen => (remM kvs seen).length) (#[]) ?_ ?_
  · have e0 : remM kvs #[] = kvs := List.filter_eq_self.2 (by simp)
    exact ⟨_, [], mkE_of ⟨rfl, rfl, trivial⟩, by rw [e0]; exact List.Perm.refl _, h.to⟩
  rintro seen env w ⟨j, ss, rfl, hp, h⟩
  refine WF.seq (WF.region (WLF.eff (eff_next (h.fetch (IterC rr mb seen ck)) rfl) rfl rfl rfl ?_))
  rintro _ w h0
  rcases h0 with ⟨hnil, rfl, h⟩ | ⟨e1, hin, rfl, h⟩
  rotate_left
  ·
   refine WLF.val (run_extract rfl rfl) rfl rfl rfl (WLF.nil (WF.seq (WF.condT rfl (WF.skip (WF.block (WF.seq ?_))))))
   have hrp := remM_perm hfit.2.1 hin
   have hlt : ss.length < kvs.length := by
     have h1 := hp.length_eq
     have h2 := hrp.length_eq
     simp only [List.length_append, List.length_map, List.length_cons] at h1 h2
     omega
   have hp2 : ((ss ++ [e1.1]) ++ (remM kvs (seen.push e1.2.2)).map (·.1)).Perm (kvs.map (·.1)) := by
     rw [List.append_assoc]
     exact ((hrp.map (·.1)).symm.append_left ss).trans hp
   refine WF.region (WLF.val (run_entryM h (rem_inM hin) rfl) rfl rfl rfl (WLF.val (run_extract rfl rfl) rfl rfl rfl (WLF.val run_assign rfl rfl rfl (WLF.nil (WF.seq (WF.region (WLF.val run_move rfl rfl rfl ?_)))))))
   refine WLF.val run_move rfl rfl rfl (WLF.yield (args := [_]) (y := .const undef) rfl rfl rfl rfl (hY ss e1.1 _ _ hlt (h.fetch (Y ss))) ?_)
   rintro _ w ⟨rfl, h⟩
   refine WLF.val (run_not rfl) rfl rfl rfl (WLF.nil (WF.condF rfl (WF.skip ?_)))
   refine ⟨rfl, ?_⟩
   exact ⟨seen.push e1.2.2, ⟨_, ss ++ [e1.1], mkE_of ⟨rfl, rfl, trivial⟩, hp2, h.to⟩, remM_less hin⟩
  refine WLF.val (run_extract rfl rfl) rfl rfl rfl (WLF.nil (WF.seq (WF.condF rfl (WF.exit ?_))))
  refine ⟨rfl, ?_⟩
  refine bodyQ.fall (bodyQ.r0 results138 ?_)
  rw [hnil, List.map_nil, List.append_nil] at hp
  exact ⟨ss, hp, h.to⟩
theorem appendSeqU_ok {g : FuncId} {caps : Array Value} {S : List Int → Prop} (hen : ∀ args w, (callFunc g args).run Tryz.prog w = .ok (.enter g args) w)
    (hseq : ∀ l (Y : List Int → HProp) w, (∀ pre x A w, pre.length < 1000000 → On W0 (Y pre :: A) w → YieldAt (FR none) (3 - 1 - 1) Tryz.prog l [.int .u64 x].toArray w (Ret fun v w' => v = .bool true ∧ On W0 (Y (pre ++ [x]) :: A) w')) → On W0 (Y [] :: L) w → CallsIn (FR none) (3 - 1) Tryz.prog g (#[.func (.yield l) #[] #[]] ++ caps) w (Ret fun v w' => ∃ ss, S ss ∧ On W0 (Y ss :: L) w'))
    (h : On W0 L w) : Calls Tryz.prog 146 #[.slice none 0 0, .func (.func g) #[] caps] w (Ret fun v w' => ∃ a c ss, S ss ∧ v = .slice a ss.length c ∧ On W0 (Own 1 (.slice a ss.length c) ss.length (ss.map (Value.int .u64)) :: L) w') := by
  have hmx := maxLen_eq
  refine callsOf (n := 3) ?_
  refine enterM func146 rfl ntmps146 rfl ?_
  refine WF.seq ?_
  refine WF.region ?_
  refine WLF.eff (eff_box (v := .slice none 0 0) (l := [.slice none 0 0]) h rfl rfl) rfl rfl rfl ?_
  rintro _ w ⟨b2, rfl, h⟩
  refine WLF.val run_assign rfl rfl rfl ?_
  refine WLF.nil ?_
  refine WF.seq ?_
  refine WF.seq ?_
  refine WF.region ?_
  refine WLF.val run_move rfl rfl rfl ?_
  refine WLF.nil ?_
  refine WF.block ?_
  refine WF.rangeFunc (α := Int) (ps := [7]) (fun x => [.int .u64 x]) rfl hen (fun pre : List Int => Ex fun (p : Option Addr × Nat) => Pack (pre.length ≤ 1000000) [blk b2 [.slice p.1 pre.length p.2] 129, Own 1 (.slice p.1 pre.length p.2) pre.length (pre.map (Value.int .u64))]) S (fun pre _ => pre.length < 1000000) (fun env x => upd (upd env 7 (.int .u64 x)) 5 (.int .u64 x)) (fun _ => rfl) (by decide) ?_ ?_ hseq ?_ ?_
  · intro l x w
    refine WF.region ?_
    refine WLF.val run_assign rfl rfl rfl ?_
    refine WLF.nil ?_
    exact ⟨rfl, rfl, rfl, rfl⟩
  · intro l pre x A w hbd h
    obtain ⟨⟨a, c⟩, h⟩ := h.ex
    obtain ⟨hpl, h⟩ := h.unpack
    have h : On W0 (blk b2 [.slice a pre.length c] 129 :: Own 1 (.slice a pre.length c) pre.length (pre.map (Value.int .u64)) :: A) w := h
    refine WF.block ?_
    refine WF.region ?_
    refine WLF.val (run_load1 isAgg129 rfl (h.cellB rfl)) rfl rfl rfl ?_
    refine WLF.val run_move rfl rfl rfl ?_
    refine WLF.eff (eff_mkSlice (zl := [.int .u64 0]) (out := [.int .u64 _]) h underlying129 sizeOf23 zeroValue23 (by decide) (by kernel_rfl) rfl rfl (by simp) (⟨⟨_, _, rfl, rfl, by decide⟩, trivial⟩) rfl rfl (by simp [maxLen])) rfl rfl rfl ?_
    rintro _ w ⟨b10, rfl, h⟩
    refine WLF.eff (eff_app (c2 := 1) (bytes := 8) h rfl rfl (h.cellsO (v := .slice (some ⟨b10, 0, none⟩) 1 1)) underlying129 rfl rfl rfl rfl rfl (by omega) (by omega) (by simp [Value.oneCell'])) rfl rfl rfl ?_
    rintro _ w ⟨a11, c11, rfl, h⟩
    refine WLF.eff (eff_store (v := .slice a11 (pre.length + 1) c11) h sizeOf129 rfl rfl rfl rfl rfl) rfl rfl rfl ?_
    rintro _ w h
    try simp only [Nat.zero_add, Nat.add_zero, List.set_cons_zero, List.set_cons_succ] at h
    refine WLF.nil ?_
    refine ⟨rfl, On.exI (a11, c11) ?_⟩
    have el : (pre ++ [x]).length = pre.length + 1 := by rw [List.length_append]; rfl
    have em : (pre ++ [x]).map (Value.int .u64) = pre.map (Value.int .u64) ++ [.int .u64 x] := by rw [List.map_append]; rfl
    refine On.pack (by rw [el]; omega) ?_
    show On W0 (blk b2 [.slice a11 (pre ++ [x]).length c11] 129 :: Own 1 (.slice a11 (pre ++ [x]).length c11) (pre ++ [x]).length ((pre ++ [x]).map (Value.int .u64)) :: A) w
    rw [el, em]
    have h : On W0 (Own 1 (.slice a11 (pre.length + 1) c11) (pre.length + 1) (pre.map (Value.int .u64) ++ [.int .u64 x]) :: _) w := h.own (.slice a11 (pre.length + 1) c11)
    exact h.to
  · refine On.exI (none, 0) (On.pack (by decide) ?_)
    have h := h.ownEmpty 1 none
    have h : On W0 (blk b2 [.slice none 0 0] 129 :: Own 1 (.slice none 0 0) 0 [] :: L) w := h.to
    exact h
  · intro D ss w hS h
    obtain ⟨⟨a, c⟩, h⟩ := h.ex
    obtain ⟨hpl, h⟩ := h.unpack
    have h : On W0 (blk b2 [.slice a ss.length c] 129 :: Own 1 (.slice a ss.length c) ss.length (ss.map (Value.int .u64)) :: openD D :: L) w := h
    refine WF.seq ?_
    refine WF.region ?_
    refine WLF.val (run_load1 isAgg129 rfl (h.cellB rfl)) rfl rfl rfl ?_
    refine WLF.val run_assign rfl rfl rfl ?_
    refine WLF.nil ?_
    refine WF.ret ?_
    have h2 := On.putPts (.deferred none) h.p2
    exact ⟨D, rfl, h.block 2 rfl, bodyQ.r1 (v := .slice a ss.length c) results146 rfl ⟨a, c, ss, hS, rfl, h2.tail.tail⟩⟩
theorem collectU_ok {bb mb ck : Nat} {kvs : List KV} (hkl : kvs.length ≤ 1000000) (h : On W0 (blk bb [.map (some mb)] 63 :: MapC mb .u64 kvs ck :: L) w) : Calls Tryz.prog 136 #[.func (.func 138) #[] #[.pointer (some ⟨bb, 0, none⟩)]] w (Ret fun v w' => ∃ a c, ∃ ss : List Int, ss.Perm (kvs.map (·.1)) ∧ v = .slice a ss.length c ∧ On W0 (Own 1 (.slice a ss.length c) ss.length (ss.map (Value.int .u64)) :: blk bb [.map (some mb)] 63 :: MapC mb .u64 kvs ck :: L) w') := by
  refine enter func136 rfl ntmps136 rfl (W.seq (W.region (WL.val run_assign rfl rfl (WL.nil (W.seq (W.region (WL.val run_move rfl rfl ?_)))))))
  refine WL.eff (eff_call call146 (appendSeqU_ok (S := (fun ss => ss.Perm (kvs.map (·.1)))) call138 (fun l Y w hY h => keys1_ok (n := 3 - 1) (Y := Y) (fun pre x A w hlt => hY pre x A w (by omega)) h) h)) rfl rfl ?_
  rintro _ w ⟨a, c, ss, hS, rfl, h⟩
  refine WL.val run_assign rfl rfl (WL.nil (W.ret (bodyQ.r1 (v := .slice _ _ _) results136 rfl ?_)))
  exact ⟨a, c, ss, hS, rfl, h⟩
theorem len64_ok {x : Nat} (hx : x ≤ 1) (h : On W0 L w) : Calls Tryz.prog 161 #[.int .u64 (x : Int)] w (Ret fun v w' => (∃ z : Int, v = .int .i64 z) ∧ On W0 L w') := by
  refine enter func161 rfl ntmps161 rfl ?_
  have key : ∀ s : ByteArray, 2 ≤ s.size → ∃ c, s[(UInt8.ofNat x).toNat]? = some c := fun s hs => by
    have h1 : (UInt8.ofNat x).toNat < s.size := by
      have : (UInt8.ofNat x).toNat = x := by rw [UInt8.toNat_ofNat']; omega
      omega
    exact ⟨s[(UInt8.ofNat x).toNat], getElem?_pos s _ h1⟩
  refine W.seq (W.region (WL.val run_assign rfl rfl (WL.nil (W.seq (W.seq (W.region (WL.val run_move rfl rfl ?_)))))))
  refine WL.val (run_geqF rfl rfl (by omega)) rfl rfl (WL.nil (W.condF rfl (W.skip (W.seq (W.seq (W.region (WL.val run_move rfl rfl ?_)))))))
  refine WL.val (run_geqF rfl rfl (by omega)) rfl rfl (WL.nil (W.condF rfl (W.skip (W.seq (W.seq (W.region (WL.val run_move rfl rfl ?_)))))))
  refine WL.val (run_geqF rfl rfl (by omega)) rfl rfl (WL.nil (W.condF rfl (W.skip (W.seq (W.region (WL.val run_move rfl rfl (WL.val run_move rfl rfl ?_)))))))
  refine WL.val (run_convByte underlying23 underlying5 rfl) rfl rfl (WL.val (run_indexStr underlying9 rfl rfl (key _ (by decide)).choose_spec) rfl rfl (WL.val (run_convInt underlying5 underlying3 rfl) rfl rfl (WL.val (run_addW rfl rfl) rfl rfl (WL.val run_assign rfl rfl (WL.nil (W.ret (bodyQ.r1 (v := .int .i64 _) results161 rfl ?_)))))))
  exact ⟨⟨_, rfl⟩, h⟩
theorem blen_ok {x : Nat} (hx : x ≤ 1) (h : On W0 L w) : Calls Tryz.prog 148 #[.int .u64 (x : Int)] w (Ret fun v w' => (∃ z : Int, v = .int .i64 z) ∧ On W0 L w') := by
  refine enter func148 rfl ntmps148 rfl (W.seq (W.region (WL.val run_assign rfl rfl (WL.nil (W.seq (W.condF rfl (W.skip ?_)))))))
  refine W.seq (W.region (WL.val run_move rfl rfl (WL.eff (eff_call call161 (len64_ok hx h)) rfl rfl ?_)))
  rintro _ w ⟨⟨z, rfl⟩, h⟩
  refine WL.val run_assign rfl rfl (WL.nil (W.ret (bodyQ.r1 (v := .int .i64 _) results148 rfl ?_)))
  exact ⟨⟨z, rfl⟩, h⟩
theorem insU_ok {a : Option Addr} {n c : Nat} (hn : n ≤ 1) (h : On W0 L w) : Calls Tryz.prog 151 #[.slice a n c, .int .i64 0, .int .i64 (n : Int)] w (Ret fun v w' => On W0 L w') := by
  refine enter func151 rfl ntmps151 rfl (W.seq (W.region (WL.val run_move rfl rfl (WL.val (run_add rfl rfl (by omega) (by omega)) rfl rfl (WL.val run_assign rfl rfl (WL.nil (W.block ?_)))))))
  refine W.loop (fun (k : Nat) env w => ∃ j, env = mkE j [(2, .int .i64 (n : Int)), (6, .int .i64 1)] ∧ On W0 L w) (fun k => 1 - k) (0) ?_ ?_
  · exact ⟨_, mkE_of ⟨rfl, rfl, trivial⟩, h⟩
  rintro k env w ⟨j, rfl, h⟩
  refine W.seq (W.seq (W.region (WL.val run_move rfl rfl (WL.val run_move rfl rfl (WL.val (run_lssF rfl rfl (by omega)) rfl rfl (WL.nil (W.condF rfl ?_)))))))
  refine W.exit (bodyQ.fall (bodyQ.r0 results151 ?_))
  exact h
theorem pdqU_ok {a : Option Addr} {n c : Nat} {lim : Int} (hn : n ≤ 1) (h : On W0 L w) : Calls Tryz.prog 147 #[.slice a n c, .int .i64 0, .int .i64 (n : Int), .int .i64 lim] w (Ret fun v w' => On W0 L w') := by
  refine enter func147 rfl ntmps147 rfl (W.seq (W.region (WL.val run_assign rfl rfl (WL.nil (W.seq (W.region (WL.val run_assign rfl rfl ?_)))))))
  refine WL.nil (W.block ?_)
  refine W.loop (fun (k : Nat) env w => ∃ j, env = mkE j [(0, .slice a n c), (1, .int .i64 0), (2, .int .i64 (n : Int))] ∧ On W0 L w) (fun k => 1 - k) (0) ?_ ?_
  · exact ⟨_, mkE_of ⟨rfl, rfl, rfl, trivial⟩, h⟩
  rintro k env w ⟨j, rfl, h⟩
  refine W.block (W.seq (W.region (WL.val run_move rfl rfl (WL.val run_move rfl rfl (WL.val (run_sub rfl rfl (by omega) (by omega)) rfl rfl (WL.val run_assign rfl rfl (WL.nil ?_)))))))
  refine W.seq (W.seq (W.region (WL.val run_move rfl rfl (WL.val (run_leqT rfl rfl (by omega)) rfl rfl (WL.nil (W.condT rfl (W.seq ?_)))))))
  refine W.region (WL.val run_move rfl rfl (WL.val run_move rfl rfl (WL.val run_move rfl rfl (WL.eff (eff_call call151 (insU_ok hn h)) rfl rfl ?_))))
  rintro _ w h
  refine WL.nil (W.ret (bodyQ.r0 results147 ?_))
  exact h
theorem sortU_ok {a : Option Addr} {n c : Nat} (hn : n ≤ 1) (h : On W0 L w) : Calls Tryz.prog 137 #[.slice a n c] w (Ret fun v w' => On W0 L w') := by
  refine enter func137 rfl ntmps137 rfl (W.seq (W.region (WL.val run_move rfl rfl (WL.val (run_lenSlice underlying129 rfl) rfl rfl (WL.val run_assign rfl rfl (WL.nil (W.region ?_)))))))
  refine WL.val run_move rfl rfl (WL.val run_move rfl rfl (WL.val run_move rfl rfl (WL.val (run_convIn underlying3 underlying154 rfl (by show (0 : Int) ≤ _; omega) (by show _ ≤ (18446744073709551615 : Int); omega)) rfl rfl (WL.eff (eff_call call148 (blen_ok (x := n) hn h)) rfl rfl ?_))))
  rintro _ w ⟨⟨z, rfl⟩, h⟩
  refine WL.eff (eff_call call147 (pdqU_ok hn h)) rfl rfl ?_
  rintro _ w h
  refine WL.nil (bodyQ.fall (bodyQ.r0 results137 ?_))
  exact h
theorem sortedU_ok {bb mb ck : Nat} {kvs : List KV} (hkl : kvs.length ≤ 1) (h : On W0 (blk bb [.map (some mb)] 63 :: MapC mb .u64 kvs ck :: L) w) : Calls Tryz.prog 102 #[.func (.func 138) #[] #[.pointer (some ⟨bb, 0, none⟩)]] w (Ret fun v w' => ∃ a c, ∃ ss : List Int, ss.Perm (kvs.map (·.1)) ∧ v = .slice a ss.length c ∧ On W0 (Own 1 (.slice a ss.length c) ss.length (ss.map (Value.int .u64)) :: blk bb [.map (some mb)] 63 :: MapC mb .u64 kvs ck :: L) w') := by
  refine enter func102 rfl ntmps102 rfl (W.seq (W.region (WL.val run_assign rfl rfl (WL.nil (W.seq (W.region (WL.val run_move rfl rfl ?_)))))))
  refine WL.eff (eff_call call136 (collectU_ok (by omega) h)) rfl rfl ?_
  rintro _ w ⟨a, c, ss, hS, rfl, h⟩
  have hsl : ss.length ≤ 1 := by rw [hS.length_eq, List.length_map]; exact hkl
  refine WL.val run_assign rfl rfl (WL.nil (W.seq (W.region (WL.val run_move rfl rfl (WL.eff (eff_call call137 (sortU_ok hsl h)) rfl rfl ?_)))))
  rintro _ w h
  refine WL.nil (W.seq (W.region (WL.val run_move rfl rfl (WL.val run_assign rfl rfl (WL.nil (W.ret (bodyQ.r1 (v := .slice _ _ _) results102 rfl ?_)))))))
  exact ⟨a, c, ss, hS, rfl, h⟩
end Go.Proofs.YtjbgiingimhnnaaGreat
/-
  A number by its bytes; the blocks by theirs; blocks written at once and one by one. No program is named here.
-/
namespace Go.Sl.SpM
open Go Go.Sl Go.Sl.BitM
set_option linter.unusedVariables false
def putK (v n k : Nat) : List UInt8 := (List.range k).map fun (q : Nat) => UInt8.ofNat (v / 2 ^ (8 * (n - 1 - q)))
theorem putK_length (v n k : Nat) : (putK v n k).length = k := by simp [putK]
theorem putK_succ (v n k : Nat) : putK v n (k + 1) = putK v n k ++ [UInt8.ofNat (v / 2 ^ (8 * (n - 1 - k)))] := by simp [putK, List.range_succ]
/-- Bits of places that are. -/
def capS (s : Sp) : Prop := ∀ j, bit s.m j = true → j < s.N
theorem cap_new {n : Nat} : capS (newS n) := fun j h => by
  have h2 : bit (List.replicate ((n + 7) / 8) 0) j = true := h
  rw [bit_zero] at h2; cases h2
theorem cap_write {s : Sp} {p : Nat} {bs : List UInt8} (hw : wfS s) (h : capS s) (hb : p + bs.length / 8 ≤ s.N) : capS (writeS s p bs) := fun j hj => by
  have hj2 : bit (turned s.m p ((bs.length / 8 : Nat) : Int) true) j = true := hj
  obtain ⟨h1, h2, h3, h4⟩ := hw
  rw [turned_bit (by omega)] at hj2
  split at hj2
  · show j < s.N; omega
  · exact h j hj2
theorem rows_cap {s : Sp} {R : List (Nat × Nat)} (h : capS s) (hR : BitM.Rows s.m R) {r : Nat × Nat} (hr : r ∈ R) : r.1 + r.2 ≤ s.N := by
  have hp := (hR.pos r hr).1
  have := h (r.1 + r.2 - 1) ((hR.cover _).2 ⟨r, hr, by omega, by omega⟩)
  omega
def encK (s : Sp) (k : Nat) : List UInt8 := putK s.N 2 2 ++ s.m ++ ((rowsOf s.m).take k).flatMap fun r => partS s r.1 r.2
def encS (s : Sp) : List UInt8 := encK s (rowsOf s.m).length
theorem encK_succ {s : Sp} {k : Nat} {r : Nat × Nat} (h : (rowsOf s.m)[k]? = some r) : encK s (k + 1) = encK s k ++ partS s r.1 r.2 := by
  unfold encK
  rw [List.take_add_one, h]
  simp
theorem flat_le {s : Sp} (hw : wfS s) : ∀ (l : List (Nat × Nat)), (∀ r ∈ l, r.1 + r.2 ≤ s.N) → (l.flatMap fun r => partS s r.1 r.2).length ≤ 8192 * l.length := by
  intro l
  induction l with
  | nil => intro _; simp
  | cons r l ih =>
    intro h
    rw [List.flatMap_cons, List.length_append, List.length_cons, partS_length hw (h r (by simp))]
    have := ih (fun q hq => h q (by simp [hq]))
    have := h r (by simp)
    have := hw.2.2.1
    omega
theorem encK_le {s : Sp} (hw : wfS s) (hc : capS s) (hR : BitM.Rows s.m (rowsOf s.m)) (k : Nat) : (encK s k).length ≤ 10000000000 := by
  unfold encK
  rw [List.length_append, List.length_append, putK_length]
  have h1 := flat_le hw ((rowsOf s.m).take k) (fun r hr => rows_cap hc hR (List.mem_of_mem_take hr))
  have h2 : ((rowsOf s.m).take k).length ≤ 8 * s.m.length := by have := hR.few; rw [List.length_take]; omega
  obtain ⟨_, _, h3, h4⟩ := hw
  omega
end Go.Sl.SpM
/-
  A unit: what is written: the contracts. Lines of walks printed by a program of the prover's.
-/
namespace Go.Proofs.YtjbgiingimhnnaaGreat
open Go.Proofs.Tryz
open Go Go.Sl Go.Sl.BitM Go.Sl.SpM Go.Sl.RsM Go.Sl.ByM Go.Sl.UnM
set_option linter.unusedVariables false
set_option linter.unusedSimpArgs false
set_option maxHeartbeats 1000000
set_option maxRecDepth 8000
variable {W0 w : World} {L F : List HProp}
theorem upart_ok {ab av : Option Addr} {cb cv : Nat} {bs vs : List UInt8} (hb : bs.length ≤ 1000000000000) (hv : vs.length ≤ 1000000000000) (h : On W0 L w) (C : Gives L (Bytes (.slice ab bs.length cb) bs)) (C2 : Gives L (Bytes (.slice av vs.length cv) vs)) : Calls Tryz.prog 47 #[.slice ab bs.length cb, .slice av vs.length cv] w (Ret fun v w' => ∃ a c, v = .slice a (partB bs vs).length c ∧ On W0 (OwnB (.slice a (partB bs vs).length c) (partB bs vs) :: L) w') := by
  refine enter func47 rfl ntmps47 rfl ?_
  have hmx := maxLen_eq
  have hl1 : (bs ++ be vs.length 4).length = bs.length + 4 := by rw [List.length_append, be_length]
  refine W.seq (W.region (WL.val run_assign rfl rfl (WL.nil (W.seq (W.region (WL.val run_move rfl rfl (WL.val run_move rfl rfl ?_)))))))
  refine WL.val (run_lenSlice underlying22 rfl) rfl rfl (WL.val (run_convIn underlying3 underlying23 rfl (by show (0 : Int) ≤ _; omega) (by show _ ≤ (18446744073709551615 : Int); omega)) rfl rfl (WL.eff (eff_call call59 (bput_ok (v := vs.length) (n := 4) h (Gives.to C) (by decide) (by decide) (by omega) (by omega))) rfl rfl ?_))
  rintro _ w ⟨a9, rfl, h⟩
  refine WL.val run_move rfl rfl (WL.eff (eff_app (bytes := 1) h rfl rfl (h.readsTo C2) underlying22 rfl rfl rfl rfl rfl (by omega) (by omega) bytes_one) rfl rfl ?_)
  rintro _ w ⟨a11, c11, rfl, h⟩
  have e2 : bytesV (bs ++ be vs.length 4) ++ bytesV vs = bytesV (partB bs vs) := (List.map_append ..).symm
  have e3 : (bs ++ be vs.length 4).length + vs.length = (partB bs vs).length := (List.length_append ..).symm
  rw [e2, e3] at h
  refine WL.val run_assign rfl rfl (WL.nil (W.ret (bodyQ.r1 (v := .slice _ _ _) results47 rfl ?_)))
  exact ⟨a11, c11, congrArg (fun q => Value.slice a11 q c11) e3, h.to⟩
theorem byte_wrap (z : Int) : IntKind.wrap .u8 z = ((byteI z).toNat : Int) := by
  have h1 : IntKind.wrap .u8 z = z % 256 := by simp [IntKind.wrap, IntKind.signed, IntKind.bits]
  rw [h1]
  unfold byteI
  rw [UInt8.toNat_ofNat']
  omega
theorem run_convByteI {P : Program} {ρ : Operand → Value} {d : Option Nat} {ty : TypeId} {pos : String} {af : Array Edge} {g : Option (Nat × Bool)} {s t : TypeId} {x : Operand} {j : IntKind} {n : Int} {ds : TypeDesc} (hs : P.underlying s = some ds) (ht : P.underlying t = some (.int .u8)) (hx : ρ x = .int j n) :
    (execOp ρ ⟨d, .convert s t x, ty, pos, af, g⟩).run P w = .ok (.value (.int .u8 ((byteI n).toNat : Int))) w := by
  rw [run_convInt hs ht hx, byte_wrap]
theorem rencode_ok {b : Nat} {t : Tb} (ht : okT t) (h : On W0 (blk b t.cells 113 :: L) w) : Calls Tryz.prog 49 #[.pointer (some ⟨b, 0, none⟩)] w (Ret fun v w' => ∃ a c, v = .slice a (encT t).length c ∧ On W0 (OwnB (.slice a (encT t).length c) (encT t) :: blk b t.cells 113 :: L) w') := by
  refine enter func49 rfl ntmps49 rfl ?_
  have hmx := maxLen_eq
  obtain ⟨hk, hg1, hg2⟩ := ht
  have eg : t.gen = ((t.gen.toNat : Nat) : Int) := by omega
  have e0 : [] ++ be t.gen.toNat 4 = (encTK t 0) := by unfold encTK; simp
  refine W.seq (W.region (WL.val run_assign rfl rfl (WL.nil (W.seq (W.region (WL.val run_move rfl rfl (WL.val (run_nilCheck rfl) rfl rfl ?_)))))))
  refine WL.val (run_fieldAddr 10 underlying113 rfl sizeOf111 rfl rfl) rfl rfl (WL.val (run_load1 isAgg111 rfl (h.cellB rfl)) rfl rfl (WL.val (run_convIn (n := ((t.gen.toNat : Nat) : Int)) underlying111 underlying23 (congrArg (Value.int .u32) eg) (by show (0 : Int) ≤ _; omega) (by show _ ≤ (18446744073709551615 : Int); omega)) rfl rfl (WL.eff (eff_call call59 (bput_ok (ax := none) (cx := 0) (bs := []) (v := t.gen.toNat) (n := 4) h Gives.nilB (by decide) (by decide) (by omega) (by decide))) rfl rfl ?_)))
  rintro _ w ⟨a11, hv, h⟩
  rw [e0] at hv h
  subst hv
  refine WL.val run_assign rfl rfl (WL.nil (W.seq (W.seq (W.region (WL.val run_move rfl rfl (WL.val (run_nilCheck rfl) rfl rfl (WL.val (run_fieldAddr 0 underlying113 rfl sizeOf85 rfl rfl) rfl rfl ?_)))))))
  refine WL.val (run_loadB (vs := [.int .u64 _, .int .u64 _, .int .u64 _, .int .u64 _, .int .u64 _, .int .u64 _, .int .u64 _, .int .u64 _]) h isAgg85 sizeOf85 rfl rfl rfl) rfl rfl (WL.val run_move rfl rfl (WL.nil (W.block ?_)))
  refine W.loop (fun (k : Nat) env w => k ≤ 8 ∧ ∃ (j : Env) (ao : Option Addr) (co : Nat), env = mkE j [(0, .pointer (some ⟨b, 0, none⟩)), (3, .slice ao (encTK t k).length co), (15, .agg (keysV t.K).toArray), (16, .int .i64 (k : Int))] ∧ On W0 (OwnB (.slice ao (encTK t k).length co) (encTK t k) :: blk b t.cells 113 :: L) w) (fun k => 8 - k) (0) ?_ ?_
  · exact ⟨Nat.zero_le _, _, a11, _, mkE_of ⟨rfl, rfl, rfl, rfl, trivial⟩, h.to⟩
  rintro k env w ⟨hk8, j, ao, co, rfl, h⟩
  have hlk := encTK_len t k
  refine W.seq (W.region (WL.val (run_lss rfl rfl) rfl rfl (WL.nil (W.seq ?_))))
  refine W.condIf rfl (fun c6 => ?_) (fun c6 => ?_)
  ·
   refine W.skip (W.seq ?_)
   have hk7 : k < 8 := by omega
   have hkk := hk k hk7
   have ek : t.K k = (((t.K k).toNat : Nat) : Int) := by omega
   refine W.block (W.seq (W.region (WL.val (run_indexArr underlying85 sizeOf23 isAgg23 rfl rfl (by omega) (by omega) ((keysV_key (i := k) hk7).trans (congrArg (fun q => some (Value.int .u64 q)) ek))) rfl rfl (WL.val run_assign rfl rfl (WL.nil (W.region (WL.val run_move rfl rfl ?_)))))))
   refine WL.val run_move rfl rfl (WL.eff (eff_call call59 (bput_ok (v := (t.K k).toNat) (n := 8) (bs := (encTK t k)) h (Gives.ownO (v := .slice ao (encTK t k).length co)) (by decide) (by decide) (by omega) (by omega))) rfl rfl ?_)
   rintro _ w ⟨a21, rfl, h⟩
   refine WL.val run_assign rfl rfl (WL.nil (W.region (WL.val (run_incN rfl rfl (by omega)) rfl rfl (WL.val run_move rfl rfl (WL.nil ?_)))))
   rw [← encTK_succ] at h
   exact ⟨k + 1, ⟨by omega, _, a21, _, mkE_of ⟨rfl, congrArg (fun q : List UInt8 => Value.slice a21 q.length q.length) (encTK_succ t k).symm, rfl, rfl, trivial⟩, h.to⟩, by show 8 - (k + 1) < 8 - k; omega⟩
  refine W.exit (W.seq ?_)
  refine W.draw Tryz.follows h (fun w h => ?_)
  refine WT.pure 0 rfl (by kernel_rfl) (fun w' => run_move) rfl rfl (WT.pure 1 rfl (by kernel_rfl) (fun w' => run_move) rfl rfl (WT.pure 2 rfl (by kernel_rfl) (fun w' => (run_nilCheck rfl)) rfl rfl (WT.pure 3 rfl (by kernel_rfl) (fun w' => (run_fieldAddr 8 underlying113 rfl sizeOf3 rfl rfl)) rfl rfl (WT.load1 4 rfl (by kernel_rfl) isAgg3 rfl (h.cellB rfl) rfl rfl (WT.pure 5 rfl (by kernel_rfl) (fun w' => (run_convByteI underlying3 underlying5 rfl)) rfl rfl (WT.pure 6 rfl (by kernel_rfl) (fun w' => run_move) rfl rfl (WT.pure 7 rfl (by kernel_rfl) (fun w' => (run_nilCheck rfl)) rfl rfl ?_)))))))
  refine WT.pure 8 rfl (by kernel_rfl) (fun w' => (run_fieldAddr 9 underlying113 rfl sizeOf3 rfl rfl)) rfl rfl (WT.load1 9 rfl (by kernel_rfl) isAgg3 rfl (h.cellB rfl) rfl rfl (WT.pure 10 rfl (by kernel_rfl) (fun w' => (run_convByteI underlying3 underlying5 rfl)) rfl rfl (WT.eff 11 [false, false] rfl (by kernel_rfl) (by kernel_rfl) (eff_mkSlice (zl := [.int .u8 0, .int .u8 0]) (out := [.int .u8 _, .int .u8 _]) h underlying22 sizeOf5 zeroValue5 (by decide) (by kernel_rfl) rfl rfl (by simp) (⟨⟨_, _, rfl, rfl, by decide⟩, ⟨⟨_, _, rfl, rfl, by decide⟩, trivial⟩⟩) rfl rfl (by simp [maxLen])) rfl rfl ?_)))
  rintro _ w ⟨b34, rfl, h⟩
  refine ⟨trivial, ?_⟩
  refine WT.eff 12 [] rfl (by kernel_rfl) (by kernel_rfl) (eff_app (c2 := 2) (bytes := 1) h rfl rfl (h.cellsO (v := .slice (some ⟨b34, 0, none⟩) 2 2)) underlying22 rfl rfl rfl rfl rfl (by omega) (by omega) (by simp [Value.oneCell'])) rfl rfl ?_
  rintro _ w ⟨a35, c35, hv35, h⟩
  have e2 : bytesV (encTK t k) ++ [.int .u8 ((byteI t.hold).toNat : Int), .int .u8 ((byteI t.typ).toNat : Int)] = bytesV ((encTK t k) ++ [byteI t.hold, byteI t.typ]) := by simp [bytesV, byteV]
  have e3 : (encTK t k).length + 2 = ((encTK t k) ++ [byteI t.hold, byteI t.typ]).length := by rw [List.length_append]; rfl
  have h : On W0 (Own 1 (.slice a35 ((encTK t k).length + 2) c35) ((encTK t k).length + 2) (bytesV (encTK t k) ++ [.int .u8 ((byteI t.hold).toNat : Int), .int .u8 ((byteI t.typ).toNat : Int)]) :: _) w := h
  rw [e2, e3] at h
  rw [e3] at hv35
  subst hv35
  refine ⟨trivial, ?_⟩
  refine WT.pure 13 rfl (by kernel_rfl) (fun w' => run_assign) rfl rfl (WT.done (by kernel_rfl) (W.ret (bodyQ.r1 (v := .slice _ _ _) results49 rfl ?_)))
  have ob_ : k = 8 := by omega
  obtain rfl := ob_
  have h : On W0 (OwnB (.slice a35 (encT t).length c35) (encT t) :: _) w := h
  exact ⟨a35, c35, rfl, h.to⟩
theorem sencode_ok {b : Nat} {s : Sp} (hcap : capS s) (h : On W0 (SpP 105 b s :: L) w) : Calls Tryz.prog 48 #[.pointer (some ⟨b, 0, none⟩)] w (Ret fun v w' => ∃ a, v = .slice a (encS s).length (encS s).length ∧ On W0 (OwnB (.slice a (encS s).length (encS s).length) (encS s) :: SpP 105 b s :: L) w') := by
  refine enter func48 rfl ntmps48 rfl ?_
  have ob_ := openS h
  obtain ⟨gd, od, cd, am, cm, hw, h⟩ := ob_
  have hwf := hw
  obtain ⟨hw1, hw2, hw3, hw4⟩ := hw
  have ob_ := Own.bounds h.p1
  obtain ⟨hdc, hdm⟩ := ob_
  have hmx := maxLen_eq
  have e0 : encK s 0 = [] ++ SpM.putK s.N 2 2 ++ s.m := by simp [encK]
  refine W.seq (W.region (WL.val run_assign rfl rfl (WL.nil (W.seq ?_))))
  refine W.draw Tryz.follows h (fun w h => ?_)
  refine WT.pure 0 rfl (by kernel_rfl) (fun w' => run_move) rfl rfl (WT.pure 1 rfl (by kernel_rfl) (fun w' => (run_nilCheck rfl)) rfl rfl (WT.pure 2 rfl (by kernel_rfl) (fun w' => (run_fieldAddr 0 underlying105 rfl sizeOf3 rfl rfl)) rfl rfl (WT.load1 3 rfl (by kernel_rfl) isAgg3 rfl (h.cellB rfl) rfl rfl (WT.pure 4 rfl (by kernel_rfl) (fun w' => (run_convIn underlying3 underlying23 rfl (by show (0 : Int) ≤ _; omega) (by show _ ≤ (18446744073709551615 : Int); omega))) rfl rfl (WT.pure 6 rfl (by kernel_rfl) (fun w' => run_move) rfl rfl (WT.pure 7 rfl (by kernel_rfl) (fun w' => (run_nilCheck rfl)) rfl rfl (WT.pure 8 rfl (by kernel_rfl) (fun w' => (run_fieldAddr 2 underlying105 rfl sizeOf103 rfl rfl)) rfl rfl ?_)))))))
  refine WT.load1 9 rfl (by kernel_rfl) isAgg103 rfl (h.cellB rfl) rfl rfl (WT.eff 5 [true, false] rfl (by kernel_rfl) (by kernel_rfl) (eff_call call59 (bput_ok (ax := none) (cx := 0) (bs := []) (v := s.N) (n := 2) h Gives.nilB (by decide) (by decide) (by omega) (by decide))) rfl rfl ?_)
  rintro _ w ⟨a11, hv, h⟩
  have hbe : be s.N 2 = SpM.putK s.N 2 2 := rfl
  rw [hbe] at hv h
  have ob_ : ∃ pb, pb = [] ++ SpM.putK s.N 2 2 := ⟨_, rfl⟩
  obtain ⟨pb, hpb⟩ := ob_
  rw [← hpb] at hv h e0
  subst hv
  have hpbl : pb.length = 2 := by rw [hpb, List.nil_append, SpM.putK_length]
  refine ⟨⟨h.cellB rfl, trivial⟩, ?_⟩
  refine WT.eff 10 [false] rfl (by kernel_rfl) (by kernel_rfl) (eff_appT (bytes := 1) h rfl rfl (h.cellsO (v := .slice am s.m.length cm)) underlying22 underlying103 rfl rfl rfl rfl rfl (by omega) (by omega) bytes_one) rfl rfl ?_
  rintro _ w ⟨a16, c16, hv, h⟩
  have hbv : bytesV pb ++ bytesV s.m = bytesV (encK s 0) := by rw [e0]; simp [bytesV]
  have hel : pb.length + s.m.length = (encK s 0).length := by rw [e0, List.length_append]
  rw [hel] at hv h
  rw [hbv] at h
  subst hv
  refine ⟨trivial, ?_⟩
  refine WT.pure 11 rfl (by kernel_rfl) (fun w' => run_assign) rfl rfl (WT.done (by kernel_rfl) (W.seq (W.seq (W.region (WL.val run_move rfl rfl (WL.val (run_nilCheck rfl) rfl rfl (WL.val (run_fieldAddr 2 underlying105 rfl sizeOf103 rfl rfl) rfl rfl ?_)))))))
  refine WL.val (run_load1 isAgg103 rfl (h.cellB rfl)) rfl rfl (WL.eff (eff_call call53 (runs_ok (m := s.m) h (Gives.ownO (v := .slice am s.m.length cm)) (by omega))) rfl rfl ?_)
  rintro _ w ⟨Rr, ar, rfl, rfl, hR, h⟩
  have hle := encK_le hwf hcap hR
  refine WL.val (run_lenSlice underlying106 rfl) rfl rfl (WL.val run_move rfl rfl (WL.nil (W.block ?_)))
  refine W.loop (fun (k : Nat) env w => ∃ (j : Env) (ao : Option Addr) (co : Nat), env = mkE j [(0, .pointer (some ⟨b, 0, none⟩)), (3, .slice ao (encK s k).length co), (21, .slice ar (rowsOf s.m).length (rowsOf s.m).length), (22, .int .i64 (((rowsOf s.m).length : Nat) : Int)), (23, .int .i64 (k : Int))] ∧ k ≤ (rowsOf s.m).length ∧ On W0 (OwnB (.slice ao (encK s k).length co) (encK s k) :: Own 2 (.slice ar (rowsOf s.m).length (rowsOf s.m).length) (rowsOf s.m).length ((rowsOf s.m).flatMap rowc) :: blk b [.int .i64 (s.N : Int), .slice (some ⟨gd, od, none⟩) (8 * s.N) cd, .slice am s.m.length cm] 105 :: Own 1 (.slice (some ⟨gd, od, none⟩) (8 * s.N) cd) (8 * s.N) (bytesV s.d) :: Own 1 (.slice am s.m.length cm) s.m.length (bytesV s.m) :: L) w) (fun k => (rowsOf s.m).length - k) (0) ?_ ?_
  · exact ⟨_, a16, c16, mkE_of ⟨rfl, rfl, rfl, rfl, rfl, trivial⟩, Nat.zero_le _, h.to⟩
  rintro k env w ⟨j, ao, co, rfl, hk, h⟩
  have hlk := hle k
  have hfew := hR.few
  refine W.seq (W.region (WL.val (run_lss rfl rfl) rfl rfl (WL.nil (W.seq ?_))))
  refine W.condIf rfl (fun c6 => ?_) (fun c6 => ?_)
  ·
   refine W.skip (W.seq (W.block (W.seq ?_)))
   have hkl : k < (rowsOf s.m).length := by omega
   have ob_ : ∃ r, (rowsOf s.m)[k]? = some r := ⟨(rowsOf s.m)[k], by simp⟩
   obtain ⟨r, hr⟩ := ob_
   have hrc := rows_cap hcap hR (List.mem_of_getElem? hr)
   have e1 : encK s (k + 1) = encK s k ++ partS s r.1 r.2 := encK_succ hr
   have hlk1 := hle (k + 1)
   have hpl : (partS s r.1 r.2).length = (r.1 + r.2) * 8 - r.1 * 8 := by rw [partS_length hwf hrc]; omega
   have el : (encK s (k + 1)).length = (encK s k).length + (partS s r.1 r.2).length := by rw [e1, List.length_append]
   have ob_ := sliced_part (b := gd) (o := od) (show r.1 * 8 ≤ (r.1 + r.2) * 8 by omega) (show (r.1 + r.2) * 8 ≤ cd by omega)
   obtain ⟨lo, hlo, hlo2⟩ := ob_
   have haa := (h.cellsO (v := .slice ar (rowsOf s.m).length (rowsOf s.m).length)).addr (by omega)
   obtain ⟨br, or_, har⟩ := haa
   subst har
   have CP : ∀ L' : List HProp, Gives L' (Cells 1 (.slice (some ⟨gd, od, none⟩) (8 * s.N) cd) (8 * s.N) (bytesV s.d)) → Gives L' (Bytes (.slice (some ⟨gd, od + lo, none⟩) (partS s r.1 r.2).length (cd - r.1 * 8)) (partS s r.1 r.2)) := fun L' gg hh H => by
     have c1 := (gg hh H).cut (l := r.1 * 8) (h := (r.1 + r.2) * 8) (m := cd) (by omega) (by omega) (by omega) (by omega)
     rw [hlo, ← hpl] at c1
     have e1 : ((bytesV s.d).drop (r.1 * 8 * 1)).take ((partS s r.1 r.2).length * 1) = bytesV (partS s r.1 r.2) := by
       rw [hpl, Nat.mul_one, Nat.mul_one]
       unfold partS bytesV
       rw [List.map_take, List.map_drop, Nat.mul_comm r.1 8, show (r.1 + r.2) * 8 - 8 * r.1 = 8 * r.2 by omega]
     rw [e1] at c1
     exact c1
   refine W.region (WL.val (run_indexAddr underlying106 sizeOf108 rfl rfl (by omega) (by omega)) rfl rfl (WL.val (run_loadN isAgg108 sizeOf108 rfl rfl ((h.cellsO (v := .slice (some ⟨br, or_, none⟩) (rowsOf s.m).length (rowsOf s.m).length)).elem (i := k) (vs := rowc r) hkl (drop_flatMap rowc 2 rowc_length (rowsOf s.m) _ _ hr))) rfl rfl (WL.eff (eff_alloc h zeroValue108 rfl) rfl rfl ?_)))
   rintro _ w ⟨b5, rfl, h⟩
   refine WL.eff (eff_storeN (vs := rowc r) h sizeOf108 rfl rfl rfl rfl rfl (fun k _ _ => free0 k)) rfl rfl ?_
   rintro _ w h
   have h : On W0 (blk b5 (rowc r) 108 :: _) w := h
   refine WL.nil (W.region (WL.val run_move rfl rfl (WL.val run_move rfl rfl (WL.val (run_indexAddrArr underlying108 sizeOf3 rfl rfl (by omega) (by omega)) rfl rfl (WL.val (run_load1 isAgg3 rfl (h.cellB rfl)) rfl rfl (WL.val (run_indexAddrArr underlying108 sizeOf3 rfl rfl (by omega) (by omega)) rfl rfl (WL.val (run_load1 isAgg3 rfl (h.cellB rfl)) rfl rfl ?_)))))))
   refine WL.eff (eff_call call54 (part_ok (at_ := r.1) (n := r.2) hw3 hrc hdc h)) rfl rfl ?_
   rintro _ w ⟨hv, h⟩
   rw [hlo, ← hpl] at hv
   subst hv
   refine WL.eff (eff_app (bytes := 1) h rfl rfl (CP _ (Gives.ownO (v := .slice (some ⟨gd, od, none⟩) (8 * s.N) cd)) _ h.sat) underlying22 rfl rfl rfl rfl rfl (by omega) (by omega) bytes_one) rfl rfl ?_
   rintro _ w ⟨a34, c34, rfl, h⟩
   have hbv : bytesV (encK s k) ++ bytesV (partS s r.1 r.2) = bytesV (encK s k ++ partS s r.1 r.2) := by simp [bytesV]
   rw [hbv] at h
   refine WL.val run_assign rfl rfl (WL.nil (W.region (WL.val (run_incN rfl rfl (by omega)) rfl rfl (WL.val run_move rfl rfl (WL.nil ?_)))))
   exact ⟨k + 1, ⟨_, a34, c34, mkE_of ⟨rfl, (by rw [el]; rfl), rfl, rfl, rfl, trivial⟩, by omega, (by unfold OwnB; rw [el, e1]; exact h.to)⟩, by show (rowsOf s.m).length - (k + 1) < (rowsOf s.m).length - k; omega⟩
  refine W.exit (W.seq (W.region (WL.val run_move rfl rfl (WL.eff (eff_call call51 (clip_bytes h)) rfl rfl ?_))))
  rintro _ w ⟨rfl, h⟩
  refine WL.val run_assign rfl rfl (WL.nil (W.ret (bodyQ.r1 (v := .slice _ _ _) results48 rfl ?_)))
  have ob_ : k = (rowsOf s.m).length := by omega
  obtain rfl := ob_
  exact ⟨ao, rfl, (closeS (cd := cd) (cm := cm) (gd := gd) (od := od) (am := am) hwf h.p1.tail.p3.p3.p3).p1⟩
end Go.Proofs.YtjbgiingimhnnaaGreat
/-
  A unit: a guest, a unit written: the contracts. Lines of walks printed by a program of the prover's.
-/
namespace Go.Proofs.YtjbgiingimhnnaaGreat
open Go.Proofs.Tryz
open Go Go.Sl Go.Sl.BitM Go.Sl.SpM Go.Sl.RsM Go.Sl.ByM Go.Sl.UnM
set_option linter.unusedVariables false
set_option linter.unusedSimpArgs false
set_option maxHeartbeats 1000000
set_option maxRecDepth 8000
variable {W0 w : World} {L F : List HProp}
theorem gwrite_ok {codes : List Int} {fl mb ck gc : Nat} {done : List (Int × Rp)} {ga : Option Addr} {kvs : List KV} {pool : PoolL} (hok : okD pool done kvs) (hg : okG (⟨codes, ((fl : Nat) : Int), done⟩ : Gs)) (hd1 : done.length ≤ 1) (h : On W0 (Own 1 (.slice ga codes.length gc) codes.length (cV codes) :: MapC mb .u64 kvs ck :: Pool pool :: L) w) : Calls Tryz.prog 50 #[.agg #[.slice ga codes.length gc, .int .u64 ((fl : Nat) : Int), .map (some mb)]] w (Ret fun v w' => ∃ a c, v = .slice a (guestB (⟨codes, ((fl : Nat) : Int), done⟩ : Gs)).length c ∧ On W0 (OwnB (.slice a (guestB (⟨codes, ((fl : Nat) : Int), done⟩ : Gs)).length c) (guestB (⟨codes, ((fl : Nat) : Int), done⟩ : Gs)) :: Own 1 (.slice ga codes.length gc) codes.length (cV codes) :: MapC mb .u64 kvs ck :: Pool pool :: L) w') := by
  refine enter func50 rfl ntmps50 rfl ?_
  have hmx := maxLen_eq
  obtain ⟨hc1, hc2, hf1, hf2, hdn⟩ := hg
  have hc1 : codes.length ≤ 10000 := hc1
  have hf2 : ((fl : Nat) : Int) < 18446744073709551616 := hf2
  have hkl : kvs.length = done.length := by have := hok.1.length_eq; simpa using this
  have e0 : [] ++ be codes.length 2 = (codesB codes 0) := by unfold codesB; simp
  have hhl := headB_len (⟨codes, ((fl : Nat) : Int), done⟩ : Gs)
  have hhl : (headB (⟨codes, ((fl : Nat) : Int), done⟩ : Gs)).length = 12 + codes.length * 2 := hhl
  have hRd : ∀ x ∈ done, okR x.2 := fun x hx => (hdn x hx).2
  have hdl := done_len hd1 hRd
  refine W.seq (W.region (WL.eff (eff_box (v := .agg _) (l := [.slice ga codes.length gc, .int .u64 ((fl : Nat) : Int), .map (some mb)]) h rfl rfl) rfl rfl ?_))
  rintro _ w ⟨b1, rfl, h⟩
  refine WL.val run_assign rfl rfl (WL.nil (W.seq (W.region (WL.val (run_fieldAddr 0 underlying65 rfl sizeOf62 rfl rfl) rfl rfl (WL.val (run_load1 isAgg62 rfl (h.cellB rfl)) rfl rfl (WL.val (run_lenSlice underlying62 rfl) rfl rfl (WL.val (run_convIn underlying3 underlying23 rfl (by show (0 : Int) ≤ _; (try dsimp only); omega) (by show _ ≤ (18446744073709551615 : Int); (try dsimp only); omega)) rfl rfl ?_)))))))
  refine WL.eff (eff_call call59 (bput_ok (ax := none) (cx := 0) (bs := []) (v := codes.length) (n := 2) h Gives.nilB (by decide) (by decide) (by omega) (by decide))) rfl rfl ?_
  rintro _ w ⟨a13, hv, h⟩
  rw [e0] at hv h
  subst hv
  refine WL.val run_assign rfl rfl (WL.nil (W.seq (W.seq (W.region (WL.val (run_fieldAddr 0 underlying65 rfl sizeOf62 rfl rfl) rfl rfl (WL.val (run_load1 isAgg62 rfl (h.cellB rfl)) rfl rfl (WL.val (run_lenSlice underlying62 rfl) rfl rfl ?_)))))))
  refine WL.val run_move rfl rfl (WL.nil (W.block ?_))
  refine W.loop (fun (k : Nat) env w => k ≤ codes.length ∧ ∃ (j : Env) (ao : Option Addr) (co : Nat), env = mkE j [(1, .pointer (some ⟨b1, 0, none⟩)), (3, .slice ao (codesB codes k).length co), (15, .slice ga codes.length gc), (16, .int .i64 (codes.length : Nat)), (17, .int .i64 (k : Nat))] ∧ On W0 (OwnB (.slice ao (codesB codes k).length co) (codesB codes k) :: Own 1 (.slice ga codes.length gc) codes.length (cV codes) :: MapC mb .u64 kvs ck :: Pool pool :: blk b1 [.slice ga codes.length gc, .int .u64 ((fl : Nat) : Int), .map (some mb)] 65 :: L) w) (fun k => codes.length - k) (0) ?_ ?_
  · exact ⟨Nat.zero_le _, _, a13, _, mkE_of ⟨rfl, rfl, rfl, rfl, rfl, trivial⟩, h.to⟩
  rintro k env w ⟨hk8, j, ao, co, rfl, h⟩
  have hlk := codesB_len codes k hk8
  refine W.seq (W.region (WL.val (run_lss rfl rfl) rfl rfl (WL.nil (W.seq ?_))))
  refine W.condIf rfl (fun c6 => ?_) (fun c6 => ?_)
  ·
   refine W.skip (W.seq ?_)
   have hk7 : k < codes.length := by omega
   have ob_ : ∃ c, codes[k]? = some c := ⟨codes[k]'hk7, by simp⟩
   obtain ⟨c0, hcx⟩ := ob_
   have hcc := hc2 c0 (List.mem_of_getElem? hcx)
   have ob_ := Int.eq_ofNat_of_zero_le hcc.1
   obtain ⟨cn, hcn⟩ := ob_
   subst hcn
   have hcs : (codesB codes (k + 1)) = (codesB codes k) ++ be cn 2 := codesB_succ hcx
   have ob3_ := Own.addr (h.own (.slice ga codes.length gc)) (by omega)
   obtain ⟨ba, oa, haa⟩ := ob3_
   subst haa
   refine W.block (W.seq (W.region (WL.val (run_indexAddr underlying62 sizeOf3 rfl rfl (by omega) (by omega)) rfl rfl (WL.val (run_load1 isAgg3 rfl ((h.cellsO (v := .slice (some ⟨ba, oa, none⟩) codes.length gc)).elem (i := k) (vs := [.int .i64 (cn : Int)]) (by omega) (cV_get hcx) 0 _ rfl)) rfl rfl (WL.val run_assign rfl rfl (WL.nil (W.region ?_)))))))
   refine WL.val run_move rfl rfl (WL.val run_move rfl rfl (WL.val (run_convIn underlying3 underlying23 rfl (by show (0 : Int) ≤ _; (try dsimp only); omega) (by show _ ≤ (18446744073709551615 : Int); (try dsimp only); omega)) rfl rfl (WL.eff (eff_call call59 (bput_ok (v := cn) (n := 2) (bs := (codesB codes k)) h (Gives.ownO (v := .slice ao (codesB codes k).length co)) (by decide) (by decide) (by omega) (by omega))) rfl rfl ?_)))
   rintro _ w ⟨a24, rfl, h⟩
   refine WL.val run_assign rfl rfl (WL.nil (W.region (WL.val (run_incN rfl rfl (by omega)) rfl rfl (WL.val run_move rfl rfl (WL.nil ?_)))))
   rw [← hcs] at h
   exact ⟨k + 1, ⟨by omega, _, a24, _, mkE_of ⟨rfl, congrArg (fun q : List UInt8 => Value.slice a24 q.length q.length) hcs.symm, rfl, rfl, rfl, trivial⟩, h.to⟩, by show codes.length - (k + 1) < codes.length - k; omega⟩
  refine W.exit (W.seq ?_)
  have ob_ : k = codes.length := by omega
  obtain rfl := ob_
  have hl29 : ((codesB codes codes.length) ++ be fl 8).length = 10 + codes.length * 2 := by rw [List.length_append, be_length]; omega
  refine W.draw Tryz.follows h (fun w h => ?_)
  refine WT.pure 0 rfl (by kernel_rfl) (fun w' => run_move) rfl rfl (WT.pure 1 rfl (by kernel_rfl) (fun w' => (run_fieldAddr 1 underlying65 rfl sizeOf23 rfl rfl)) rfl rfl (WT.load1 2 rfl (by kernel_rfl) isAgg23 rfl (h.cellB rfl) rfl rfl (WT.pure 4 rfl (by kernel_rfl) (fun w' => (run_fieldAddr 2 underlying65 rfl sizeOf63 rfl rfl)) rfl rfl (WT.load1 5 rfl (by kernel_rfl) isAgg63 rfl (h.cellB rfl) rfl rfl (WT.eff 3 [true, false] rfl (by kernel_rfl) (by kernel_rfl) (eff_call call59 (bput_ok (v := fl) (n := 8) (bs := (codesB codes codes.length)) h (Gives.ownO (v := .slice ao (codesB codes codes.length).length co)) (by decide) (by decide) (by omega) (by omega))) rfl rfl ?_)))))
  rintro _ w ⟨a29, rfl, h⟩
  refine ⟨⟨h.cellB rfl, trivial⟩, ?_⟩
  refine WT.take 6 (fun w => w.heap[mb]? = some (mapO .u64 kvs ck)) rfl (by kernel_rfl) rfl rfl ((On.mapC (h.fetch (MapC mb .u64 kvs ck))).2) (fun w' hC => run_lenMap hC rfl underlying63 rfl hkl) (WT.pure 7 rfl (by kernel_rfl) (fun w' => (run_convIn underlying3 underlying23 rfl (by show (0 : Int) ≤ _; (try dsimp only); omega) (by show _ ≤ (18446744073709551615 : Int); (try dsimp only); omega))) rfl rfl (WT.eff 8 [false, false] rfl (by kernel_rfl) (by kernel_rfl) (eff_call call59 (bput_ok (v := done.length) (n := 2) (bs := ((codesB codes codes.length) ++ be fl 8)) h (Gives.ownO (v := .slice a29 ((codesB codes codes.length) ++ be fl 8).length ((codesB codes codes.length) ++ be fl 8).length)) (by decide) (by decide) (by omega) (by omega))) rfl rfl ?_))
  rintro _ w ⟨a34, rfl, h⟩
  have h : On W0 (OwnB (.slice a34 (headB (⟨codes, ((fl : Nat) : Int), done⟩ : Gs)).length (headB (⟨codes, ((fl : Nat) : Int), done⟩ : Gs)).length) (headB (⟨codes, ((fl : Nat) : Int), done⟩ : Gs)) :: _) w := h
  refine ⟨trivial, ?_⟩
  refine WT.pure 9 rfl (by kernel_rfl) (fun w' => run_assign) rfl rfl (WT.done (by kernel_rfl) (W.seq (W.seq (W.region (WL.val (run_fieldAddr 2 underlying65 rfl sizeOf63 rfl rfl) rfl rfl (WL.val (run_load1 isAgg63 rfl (h.cellB rfl)) rfl rfl (WL.eff (eff_call call103 (keysU_ok (h.fetch (MapC mb .u64 kvs ck)))) rfl rfl ?_)))))))
  rintro _ w ⟨bb, rfl, h⟩
  refine WL.eff (eff_call call102 (sortedU_ok (by omega) h)) rfl rfl ?_
  rintro _ w ⟨as_, cs_, ss, hS, rfl, h⟩
  have hss : ss = done.map (·.1) := perm_one (hS.trans hok.1) (by rw [List.length_map]; exact hd1)
  subst hss
  have e00 : (headB (⟨codes, ((fl : Nat) : Int), done⟩ : Gs)) = ((headB (⟨codes, ((fl : Nat) : Int), done⟩ : Gs)) ++ (done.take 0).flatMap recB) := by simp
  have h := h.fetch (OwnB (.slice a34 (headB (⟨codes, ((fl : Nat) : Int), done⟩ : Gs)).length (headB (⟨codes, ((fl : Nat) : Int), done⟩ : Gs)).length) (headB (⟨codes, ((fl : Nat) : Int), done⟩ : Gs)))
  rw [e00] at h
  have hsl : (done.map (·.1)).length = done.length := List.length_map ..
  rw [hsl] at h
  refine WL.val (run_lenSlice underlying129 rfl) rfl rfl (WL.val run_move rfl rfl (WL.nil (W.block ?_)))
  refine W.loop (fun (k : Nat) env w => k ≤ done.length ∧ ∃ (j : Env) (ao : Option Addr) (co : Nat), env = mkE j [(1, .pointer (some ⟨b1, 0, none⟩)), (3, .slice ao ((headB (⟨codes, ((fl : Nat) : Int), done⟩ : Gs)) ++ (done.take k).flatMap recB).length co), (38, .slice as_ done.length cs_), (39, .int .i64 (done.length : Nat)), (40, .int .i64 (k : Nat))] ∧ On W0 (OwnB (.slice ao ((headB (⟨codes, ((fl : Nat) : Int), done⟩ : Gs)) ++ (done.take k).flatMap recB).length co) ((headB (⟨codes, ((fl : Nat) : Int), done⟩ : Gs)) ++ (done.take k).flatMap recB) :: Own 1 (.slice as_ done.length cs_) done.length ((done.map (·.1)).map (Value.int .u64)) :: Own 1 (.slice ga codes.length gc) codes.length (cV codes) :: MapC mb .u64 kvs ck :: Pool pool :: blk b1 [.slice ga codes.length gc, .int .u64 ((fl : Nat) : Int), .map (some mb)] 65 :: L) w) (fun k => done.length - k) (0) ?_ ?_
  · exact ⟨Nat.zero_le _, _, a34, _, mkE_of ⟨rfl, congrArg (fun q : List UInt8 => Value.slice a34 q.length q.length) e00, congrArg (fun q => Value.slice as_ q cs_) hsl, congrArg (fun q : Nat => Value.int .i64 (q : Int)) hsl, rfl, trivial⟩, h.to⟩
  rintro k env w ⟨hk8, j, ao, co, rfl, h⟩
  refine W.seq (W.region (WL.val (run_lss rfl rfl) rfl rfl (WL.nil (W.seq ?_))))
  refine W.condIf rfl (fun c18 => ?_) (fun c18 => ?_)
  ·
   refine W.skip (W.seq ?_)
   have hk7 : k < done.length := by omega
   have ob_ : ∃ x, done[k]? = some x := ⟨done[k]'hk7, by simp⟩
   obtain ⟨⟨id, r⟩, hx⟩ := ob_
   have hxm := List.mem_of_getElem? hx
   have ob_ := hdn _ hxm
   obtain ⟨⟨hi1, hi2⟩, hr⟩ := ob_
   have ob_ := Int.eq_ofNat_of_zero_le hi1
   obtain ⟨idn, hidn⟩ := ob_
   have hidn : id = (idn : Int) := hidn
   subst hidn
   obtain ⟨st, ky, cd, dt, inf⟩ := r
   obtain ⟨r1, r2, r3, r4, r5, r6, r7, r8, r9⟩ := hr
   have ob_ := Int.eq_ofNat_of_zero_le (show 0 ≤ cd from r5)
   obtain ⟨cdn, hcdn⟩ := ob_
   subst hcdn
   have ob_ := Int.eq_ofNat_of_zero_le (show 0 ≤ inf from r7)
   obtain ⟨infn, hinfn⟩ := ob_
   subst hinfn
   have r6 : (cdn : Int) < 65536 := r6
   have r8 : (infn : Int) < 4294967296 := r8
   have r9 : dt.length ≤ 10000 := r9
   have hi2 : (idn : Int) < 18446744073709551616 := hi2
   have hlk := look_ok hok ((idn : Nat) : Int)
   rcases hlk with ⟨r', dv, hl1, hl2, hp⟩ | ⟨_, _, hno⟩
   rotate_left
   · exact (hno (List.mem_map.2 ⟨_, hxm, rfl⟩)).elim
   have hre := Option.some.inj (hl1.symm.trans (lookD_mem hok.2.1 hxm))
   subst hre
   have hfm := Cells.form (On.reads (h.fetch (Pool pool)) (Gives.pool hp))
   obtain ⟨ad, cdd, hdv, _⟩ := hfm
   subst hdv
   have ob4_ := Own.addr (h.own (.slice as_ done.length cs_)) (by omega)
   obtain ⟨bs_, os_, has⟩ := ob4_
   subst has
   have hlo : ((headB (⟨codes, ((fl : Nat) : Int), done⟩ : Gs)) ++ (done.take k).flatMap recB).length ≤ 40000 := by rw [List.length_append]; have := hdl k; omega
   have hq1 : (((headB (⟨codes, ((fl : Nat) : Int), done⟩ : Gs)) ++ (done.take k).flatMap recB) ++ be idn 8).length ≤ 40008 := by rw [List.length_append, be_length]; omega
   have hq2 : ((((headB (⟨codes, ((fl : Nat) : Int), done⟩ : Gs)) ++ (done.take k).flatMap recB) ++ be idn 8) ++ [byteI st, byteI ky]).length ≤ 40010 := by rw [List.length_append]; simp only [List.length_cons, List.length_nil]; omega
   have hq3 : (((((headB (⟨codes, ((fl : Nat) : Int), done⟩ : Gs)) ++ (done.take k).flatMap recB) ++ be idn 8) ++ [byteI st, byteI ky]) ++ be cdn 2).length ≤ 40012 := by rw [List.length_append, be_length]; omega
   have hq4 : ((((((headB (⟨codes, ((fl : Nat) : Int), done⟩ : Gs)) ++ (done.take k).flatMap recB) ++ be idn 8) ++ [byteI st, byteI ky]) ++ be cdn 2) ++ be infn 4).length ≤ 40016 := by rw [List.length_append, be_length]; omega
   have e5 : partB ((((((headB (⟨codes, ((fl : Nat) : Int), done⟩ : Gs)) ++ (done.take k).flatMap recB) ++ be idn 8) ++ [byteI st, byteI ky]) ++ be cdn 2) ++ be infn 4) dt = ((headB (⟨codes, ((fl : Nat) : Int), done⟩ : Gs)) ++ (done.take (k + 1)).flatMap recB) := by
     rw [List.take_add_one, hx]
     simp [recB, partB]
   refine W.block (W.seq (W.region (WL.val (run_indexAddr underlying129 sizeOf23 rfl rfl (by omega) (by omega)) rfl rfl ?_)))
   refine WL.val (run_load1 isAgg23 rfl ((h.cellsO (v := .slice (some ⟨bs_, os_, none⟩) done.length cs_)).elem (i := k) (vs := [.int .u64 ((idn : Nat) : Int)]) (by omega) (one_rowU (by rw [List.getElem?_map, List.getElem?_map, hx]; rfl)) 0 _ rfl)) rfl rfl ?_
   refine WL.val run_assign rfl rfl (WL.nil (W.seq (W.region (WL.val (run_fieldAddr 2 underlying65 rfl sizeOf63 rfl rfl) rfl rfl (WL.val (run_load1 isAgg63 rfl (h.cellB rfl)) rfl rfl (WL.val run_move rfl rfl (WL.val (run_lookupV (v := (⟨st, ky, (cdn : Int), dt, (infn : Int)⟩ : Rp).val (.slice ad dt.length cdd)) (On.mapC (h.fetch (MapC mb .u64 kvs ck))).2 underlying63 underlying23 zeroValue36 rfl rfl (by rw [hl2]; rfl)) rfl rfl ?_)))))))
   refine WL.eff (eff_alloc h zeroValue36 rfl) rfl rfl ?_
   rintro _ w ⟨b8, rfl, h⟩
   refine WL.eff (eff_storeW (vs := [.int .i64 _, .int .i64 _, .int .i64 _, .slice _ _ _, .int .i64 _]) h sizeOf36 rfl rfl rfl rfl rfl) rfl rfl ?_
   rintro _ w h
   refine WL.nil (W.seq (W.region (WL.val run_move rfl rfl (WL.val run_move rfl rfl (WL.eff (eff_call call59 (bput_ok (v := idn) (n := 8) (bs := ((headB (⟨codes, ((fl : Nat) : Int), done⟩ : Gs)) ++ (done.take k).flatMap recB)) h (Gives.ownO (v := .slice ao ((headB (⟨codes, ((fl : Nat) : Int), done⟩ : Gs)) ++ (done.take k).flatMap recB).length co)) (by decide) (by decide) (by omega) (by omega))) rfl rfl ?_)))))
   rintro _ w ⟨a50, rfl, h⟩
   refine WL.val run_assign rfl rfl (WL.nil (W.seq (W.region (WL.val run_move rfl rfl (WL.val (run_fieldAddr 0 underlying36 rfl sizeOf3 rfl rfl) rfl rfl (WL.val (run_load1 isAgg3 rfl (h.cellB rfl)) rfl rfl (WL.val (run_convByteI underlying3 underlying5 rfl) rfl rfl ?_)))))))
   refine WL.val (run_fieldAddr 1 underlying36 rfl sizeOf3 rfl rfl) rfl rfl (WL.val (run_load1 isAgg3 rfl (h.cellB rfl)) rfl rfl (WL.val (run_convByteI underlying3 underlying5 rfl) rfl rfl (WL.eff (eff_mkSlice (zl := [.int .u8 0, .int .u8 0]) (out := [.int .u8 _, .int .u8 _]) h underlying22 sizeOf5 zeroValue5 (by decide) (by kernel_rfl) rfl rfl (by simp) (⟨⟨_, _, rfl, rfl, by decide⟩, ⟨⟨_, _, rfl, rfl, by decide⟩, trivial⟩⟩) rfl rfl (by simp [maxLen])) rfl rfl ?_)))
   rintro _ w ⟨b58, rfl, h⟩
   refine WL.eff (eff_app (c2 := 2) (bytes := 1) h rfl rfl (h.cellsO (v := .slice (some ⟨b58, 0, none⟩) 2 2)) underlying22 rfl rfl rfl rfl rfl (by omega) (by omega) (by simp [Value.oneCell'])) rfl rfl ?_
   rintro _ w ⟨a59, c59, hv59, h⟩
   have e2 : bytesV (((headB (⟨codes, ((fl : Nat) : Int), done⟩ : Gs)) ++ (done.take k).flatMap recB) ++ be idn 8) ++ [.int .u8 ((byteI st).toNat : Int), .int .u8 ((byteI ky).toNat : Int)] = bytesV ((((headB (⟨codes, ((fl : Nat) : Int), done⟩ : Gs)) ++ (done.take k).flatMap recB) ++ be idn 8) ++ [byteI st, byteI ky]) := by simp [bytesV, byteV]
   have e3 : (((headB (⟨codes, ((fl : Nat) : Int), done⟩ : Gs)) ++ (done.take k).flatMap recB) ++ be idn 8).length + 2 = ((((headB (⟨codes, ((fl : Nat) : Int), done⟩ : Gs)) ++ (done.take k).flatMap recB) ++ be idn 8) ++ [byteI st, byteI ky]).length := by rw [List.length_append (bs := [byteI st, byteI ky])]; rfl
   have h : On W0 (Own 1 (.slice a59 ((((headB (⟨codes, ((fl : Nat) : Int), done⟩ : Gs)) ++ (done.take k).flatMap recB) ++ be idn 8).length + 2) c59) ((((headB (⟨codes, ((fl : Nat) : Int), done⟩ : Gs)) ++ (done.take k).flatMap recB) ++ be idn 8).length + 2) (bytesV (((headB (⟨codes, ((fl : Nat) : Int), done⟩ : Gs)) ++ (done.take k).flatMap recB) ++ be idn 8) ++ [.int .u8 ((byteI st).toNat : Int), .int .u8 ((byteI ky).toNat : Int)]) :: _) w := h
   rw [e2, e3] at h
   rw [e3] at hv59
   subst hv59
   refine WL.val run_assign rfl rfl (WL.nil (W.seq ?_))
   refine W.draw Tryz.follows h (fun w h => ?_)
   refine WT.pure 0 rfl (by kernel_rfl) (fun w' => run_move) rfl rfl (WT.pure 1 rfl (by kernel_rfl) (fun w' => (run_fieldAddr 2 underlying36 rfl sizeOf3 rfl rfl)) rfl rfl (WT.load1 2 rfl (by kernel_rfl) isAgg3 rfl (h.cellB rfl) rfl rfl (WT.pure 3 rfl (by kernel_rfl) (fun w' => (run_convIn underlying3 underlying23 rfl (by show (0 : Int) ≤ _; (try dsimp only); omega) (by show _ ≤ (18446744073709551615 : Int); (try dsimp only); omega))) rfl rfl (WT.pure 5 rfl (by kernel_rfl) (fun w' => (run_fieldAddr 4 underlying36 rfl sizeOf3 rfl rfl)) rfl rfl (WT.load1 6 rfl (by kernel_rfl) isAgg3 rfl (h.cellB rfl) rfl rfl (WT.pure 7 rfl (by kernel_rfl) (fun w' => (run_convIn underlying3 underlying23 rfl (by show (0 : Int) ≤ _; (try dsimp only); omega) (by show _ ≤ (18446744073709551615 : Int); (try dsimp only); omega))) rfl rfl ?_))))))
   refine WT.eff 4 [true, false] rfl (by kernel_rfl) (by kernel_rfl) (eff_call call59 (bput_ok (v := cdn) (n := 2) (bs := ((((headB (⟨codes, ((fl : Nat) : Int), done⟩ : Gs)) ++ (done.take k).flatMap recB) ++ be idn 8) ++ [byteI st, byteI ky])) h (Gives.ownO (v := .slice a59 ((((headB (⟨codes, ((fl : Nat) : Int), done⟩ : Gs)) ++ (done.take k).flatMap recB) ++ be idn 8) ++ [byteI st, byteI ky]).length c59)) (by decide) (by decide) (by omega) (by omega))) rfl rfl ?_
   rintro _ w ⟨a64, rfl, h⟩
   refine ⟨⟨h.cellB rfl, trivial⟩, ?_⟩
   refine WT.eff 8 [false] rfl (by kernel_rfl) (by kernel_rfl) (eff_call call59 (bput_ok (v := infn) (n := 4) (bs := (((((headB (⟨codes, ((fl : Nat) : Int), done⟩ : Gs)) ++ (done.take k).flatMap recB) ++ be idn 8) ++ [byteI st, byteI ky]) ++ be cdn 2)) h (Gives.ownO (v := .slice a64 (((((headB (⟨codes, ((fl : Nat) : Int), done⟩ : Gs)) ++ (done.take k).flatMap recB) ++ be idn 8) ++ [byteI st, byteI ky]) ++ be cdn 2).length (((((headB (⟨codes, ((fl : Nat) : Int), done⟩ : Gs)) ++ (done.take k).flatMap recB) ++ be idn 8) ++ [byteI st, byteI ky]) ++ be cdn 2).length)) (by decide) (by decide) (by omega) (by omega))) rfl rfl ?_
   rintro _ w ⟨a68, rfl, h⟩
   refine ⟨trivial, ?_⟩
   refine WT.pure 9 rfl (by kernel_rfl) (fun w' => run_assign) rfl rfl (WT.done (by kernel_rfl) (W.region (WL.val run_move rfl rfl (WL.val (run_fieldAddr 3 underlying36 rfl sizeOf22 rfl rfl) rfl rfl (WL.val (run_load1 isAgg22 rfl (h.cellB rfl)) rfl rfl ?_)))))
   refine WL.eff (eff_call call47 (upart_ok (bs := ((((((headB (⟨codes, ((fl : Nat) : Int), done⟩ : Gs)) ++ (done.take k).flatMap recB) ++ be idn 8) ++ [byteI st, byteI ky]) ++ be cdn 2) ++ be infn 4)) (vs := dt) (by omega) (by omega) h (Gives.ownO (v := .slice a68 ((((((headB (⟨codes, ((fl : Nat) : Int), done⟩ : Gs)) ++ (done.take k).flatMap recB) ++ be idn 8) ++ [byteI st, byteI ky]) ++ be cdn 2) ++ be infn 4).length ((((((headB (⟨codes, ((fl : Nat) : Int), done⟩ : Gs)) ++ (done.take k).flatMap recB) ++ be idn 8) ++ [byteI st, byteI ky]) ++ be cdn 2) ++ be infn 4).length)) (Gives.to (T := [Pool pool]) (Gives.pool hp)))) rfl rfl ?_
   rintro _ w ⟨a72, c72, rfl, h⟩
   refine WL.val run_assign rfl rfl (WL.nil (W.region (WL.val (run_incN rfl rfl (by omega)) rfl rfl (WL.val run_move rfl rfl (WL.nil ?_)))))
   exact ⟨k + 1, ⟨by omega, _, a72, c72, mkE_of ⟨rfl, congrArg (fun q : List UInt8 => Value.slice a72 q.length c72) e5, rfl, rfl, rfl, trivial⟩, by rw [e5] at h; exact h.to⟩, by show done.length - (k + 1) < done.length - k; omega⟩
  refine W.exit (W.seq (W.region (WL.val run_move rfl rfl (WL.val run_assign rfl rfl (WL.nil (W.ret (bodyQ.r1 (v := .slice _ _ _) results50 rfl ?_)))))))
  have ob_ : k = done.length := by omega
  obtain rfl := ob_
  have e6 : ((headB (⟨codes, ((fl : Nat) : Int), done⟩ : Gs)) ++ (done.take done.length).flatMap recB) = guestB (⟨codes, ((fl : Nat) : Int), done⟩ : Gs) := by unfold guestB; rw [List.take_length]
  rw [e6] at h
  exact ⟨ao, co, congrArg (fun q : List UInt8 => Value.slice ao q.length co) e6, h.to⟩
end Go.Proofs.YtjbgiingimhnnaaGreat
/-
  A unit: a unit written: the contracts. Lines of walks printed by a program of the prover's.
-/
namespace Go.Proofs.YtjbgiingimhnnaaGreat
open Go.Proofs.Tryz
open Go Go.Sl Go.Sl.BitM Go.Sl.SpM Go.Sl.RsM Go.Sl.ByM Go.Sl.UnM
set_option linter.unusedVariables false
set_option linter.unusedSimpArgs false
set_option maxHeartbeats 1000000
set_option maxRecDepth 8000
variable {W0 w : World} {L F : List HProp}
theorem uencode_ok {bu : Nat} {u : Un} {pool : PoolL} {ms : List Nat} (hcap : capS u.s) (hT : okT u.t) (hG : ∀ i, i < 8 → okG (u.guest i) ∧ (u.guest i).done.length ≤ 1) (h0 : (SpM.encS u.s).length ≤ 10000000000) (h : On W0 (UnP 68 105 113 bu pool ms u :: Pool pool :: L) w) : Calls Tryz.prog 17 #[.pointer (some ⟨bu, 0, none⟩)] w (Ret fun v w' => ∃ a, v = .slice a (encU u (SpM.encS u.s)).length (encU u (SpM.encS u.s)).length ∧ On W0 (OwnB (.slice a (encU u (SpM.encS u.s)).length (encU u (SpM.encS u.s)).length) (encU u (SpM.encS u.s)) :: UnP 68 105 113 bu pool ms u :: Pool pool :: L) w') := by
  refine enter func17 rfl ntmps17 rfl ?_
  have hmx := maxLen_eq
  have ob_ := openU h
  obtain ⟨bs, bt, gs, hm, hl, h⟩ := ob_
  have hgl : gs.length = 8 := by rw [← hl, ← hm.1, List.length_map]
  have hrl : (gs.flatMap GX.row).length = 24 := by rw [rows_len, hgl]
  have hv24 : ((ucells bs bt gs).drop (0 + 2)).take 24 = gs.flatMap GX.row := by show (gs.flatMap GX.row).take 24 = _; exact List.take_of_length_le (by omega)
  have hp1 : (partB [] (SpM.encS u.s)).length = 4 + (SpM.encS u.s).length := by unfold partB; simp only [List.length_append, be_length, List.length_nil, Nat.zero_add]
  have htl : (encT u.t).length = 70 := by unfold encT; rw [List.length_append, encTK_len]; rfl
  have hkl := encUK_len (u := u) (s0 := (SpM.encS u.s)) hG
  refine W.seq (W.region (WL.val run_assign rfl rfl (WL.nil (W.seq ?_))))
  refine W.draw Tryz.follows h (fun w h => ?_)
  refine WT.pure 0 rfl (by kernel_rfl) (fun w' => run_move) rfl rfl (WT.pure 1 rfl (by kernel_rfl) (fun w' => (run_nilCheck rfl)) rfl rfl (WT.pure 2 rfl (by kernel_rfl) (fun w' => (run_fieldAddr 0 underlying68 rfl sizeOf56 rfl rfl)) rfl rfl (WT.load1 3 rfl (by kernel_rfl) isAgg56 rfl (h.cellB rfl) rfl rfl (WT.pure 6 rfl (by kernel_rfl) (fun w' => run_move) rfl rfl (WT.pure 7 rfl (by kernel_rfl) (fun w' => (run_nilCheck rfl)) rfl rfl (WT.pure 8 rfl (by kernel_rfl) (fun w' => (run_fieldAddr 1 underlying68 rfl sizeOf59 rfl rfl)) rfl rfl (WT.load1 9 rfl (by kernel_rfl) isAgg59 rfl (h.cellB rfl) rfl rfl ?_)))))))
  refine WT.eff 4 [true, false] rfl (by kernel_rfl) (by kernel_rfl) (eff_call call48 (sencode_ok (b := bs) hcap (h.fetch (SpP 105 bs u.s)))) rfl rfl ?_
  rintro _ w ⟨a10, rfl, h⟩
  refine ⟨⟨h.cellB rfl, trivial⟩, ?_⟩
  refine WT.eff 5 [true] rfl (by kernel_rfl) (by kernel_rfl) (eff_call call47 (upart_ok (ab := none) (cb := 0) (bs := []) (vs := (SpM.encS u.s)) (by decide) (by omega) h Gives.nilB (Gives.ownO (v := .slice a10 (SpM.encS u.s).length (SpM.encS u.s).length)))) rfl rfl ?_
  rintro _ w ⟨a11, c11, rfl, h⟩
  refine ⟨⟨h.cellB rfl, trivial⟩, ?_⟩
  refine WT.eff 10 [false] rfl (by kernel_rfl) (by kernel_rfl) (eff_call call49 (rencode_ok (b := bt) hT (h.fetch (blk bt u.t.cells 113)))) rfl rfl ?_
  rintro _ w ⟨a16, c16, rfl, h⟩
  refine ⟨trivial, ?_⟩
  refine WT.eff 11 [] rfl (by kernel_rfl) (by kernel_rfl) (eff_call call47 (upart_ok (bs := (partB [] (SpM.encS u.s))) (vs := encT u.t) (by omega) (by omega) h (Gives.ownO (v := .slice a11 (partB [] (SpM.encS u.s)).length c11)) (Gives.ownO (v := .slice a16 (encT u.t).length c16)))) rfl rfl ?_
  rintro _ w ⟨a17, c17, rfl, h⟩
  have h : On W0 (OwnB (.slice a17 (encUK u (SpM.encS u.s) 0).length c17) (encUK u (SpM.encS u.s) 0) :: _) w := h
  refine ⟨trivial, ?_⟩
  refine WT.pure 12 rfl (by kernel_rfl) (fun w' => run_assign) rfl rfl (WT.done (by kernel_rfl) (W.seq (W.seq (W.region (WL.val run_move rfl rfl (WL.val (run_nilCheck rfl) rfl rfl (WL.val (run_fieldAddr 2 underlying68 rfl sizeOf66 rfl rfl) rfl rfl ?_)))))))
  refine WL.val (run_loadB (vs := gs.flatMap GX.row) h isAgg66 sizeOf66 rfl hv24 hrl) rfl rfl (WL.val run_move rfl rfl (WL.nil (W.block ?_)))
  refine W.loop (fun (k : Nat) env w => k ≤ 8 ∧ ∃ (j : Env) (ao : Option Addr) (co : Nat), env = mkE j [(3, .slice ao (encUK u (SpM.encS u.s) k).length co), (21, .agg (gs.flatMap GX.row).toArray), (22, .int .i64 (k : Int))] ∧ On W0 (OwnB (.slice ao (encUK u (SpM.encS u.s) k).length co) (encUK u (SpM.encS u.s) k) :: blk bu (ucells bs bt gs) 68 :: SpP 105 bs u.s :: blk bt u.t.cells 113 :: Big (GOwn pool) gs :: Pool pool :: L) w) (fun k => 8 - k) (0) ?_ ?_
  · exact ⟨Nat.zero_le _, _, a17, c17, mkE_of ⟨rfl, rfl, rfl, trivial⟩, h.to⟩
  rintro k env w ⟨hk8, j, ao, co, rfl, h⟩
  have hlk := hkl k hk8
  refine W.seq (W.region (WL.val (run_lss rfl rfl) rfl rfl (WL.nil (W.seq ?_))))
  refine W.condIf rfl (fun c6 => ?_) (fun c6 => ?_)
  ·
   refine W.skip (W.seq ?_)
   have hk7 : k < 8 := by omega
   have ob_ := row_of hm hl hk7
   obtain ⟨g, hg, hgu⟩ := ob_
   have hgk := hG k hk7
   rw [← hgu] at hgk
   obtain ⟨hgk, hg1⟩ := hgk
   obtain ⟨⟨codes, floor, done⟩, ga, gc, gmb, gck, gkvs⟩ := g
   have ob_ := Int.eq_ofNat_of_zero_le (show 0 ≤ floor from hgk.2.2.1)
   obtain ⟨fl, hfl⟩ := ob_
   subst hfl
   have hig : k < gs.length := by omega
   have hrow := drop_flatMap GX.row 3 (fun _ => rfl) gs _ _ hg
   have h := Big.open hg (h.fetch (Big (GOwn pool) gs))
   have ob_ := openG h
   obtain ⟨hok, h⟩ := ob_
   have h : On W0 (Own 1 (.slice ga codes.length gc) codes.length (cV codes) :: MapC gmb .u64 gkvs gck :: _) w := h
   have hgl2 : (guestB (⟨codes, ((fl : Nat) : Int), done⟩ : Gs)).length ≤ 30100 := guestB_len hgk hg1
   refine W.block (W.seq (W.region (WL.val (run_indexArrN (size := 3) (i := k) (vs := [.slice ga codes.length gc, .int .u64 ((fl : Nat) : Int), .map (some gmb)]) underlying66 sizeOf65 isAgg65 rfl rfl hk7 hrow) rfl rfl (WL.eff (eff_alloc h zeroValue65 rfl) rfl rfl ?_))))
   rintro _ w ⟨b5, rfl, h⟩
   refine WL.eff (eff_storeW (vs := [.slice _ _ _, .int .u64 _, .map _]) h sizeOf65 rfl rfl rfl rfl rfl) rfl rfl ?_
   rintro _ w h
   refine WL.nil (W.region (WL.val run_move rfl rfl (WL.val (run_loadB (vs := [.slice _ _ _, .int .u64 _, .map _]) h isAgg65 sizeOf65 rfl rfl rfl) rfl rfl (WL.eff (eff_call call50 (gwrite_ok (codes := codes) (fl := fl) (done := done) (ga := ga) (gc := gc) (mb := gmb) (ck := gck) (kvs := gkvs) (pool := pool) hok hgk hg1 (((h.fetch (Pool pool)).fetch (MapC gmb .u64 gkvs gck)).fetch (Own 1 (.slice ga codes.length gc) codes.length (cV codes))))) rfl rfl ?_))))
   rintro _ w ⟨a27, c27, rfl, h⟩
   refine WL.eff (eff_call call47 (upart_ok (bs := (encUK u (SpM.encS u.s) k)) (vs := guestB (⟨codes, ((fl : Nat) : Int), done⟩ : Gs)) (by omega) (by omega) h (Gives.ownO (v := .slice ao (encUK u (SpM.encS u.s) k).length co)) (Gives.ownO (v := .slice a27 (guestB (⟨codes, ((fl : Nat) : Int), done⟩ : Gs)).length c27)))) rfl rfl ?_
   rintro _ w ⟨a28, c28, rfl, h⟩
   refine WL.val run_assign rfl rfl (WL.nil (W.region (WL.val (run_incN rfl rfl (by omega)) rfl rfl (WL.val run_move rfl rfl (WL.nil ?_)))))
   have e : partB (encUK u (SpM.encS u.s) k) (guestB (⟨codes, ((fl : Nat) : Int), done⟩ : Gs)) = (encUK u (SpM.encS u.s) (k + 1)) := by show _ = partB _ (guestB (u.guest k)); rw [← hgu]
   rw [e] at h
   have h := Big.close (y := (⟨⟨codes, ((fl : Nat) : Int), done⟩, ga, gc, gmb, gck, gkvs⟩ : GX)) hig (closeG (g := (⟨⟨codes, ((fl : Nat) : Int), done⟩, ga, gc, gmb, gck, gkvs⟩ : GX)) hok (((h.fetch (Big (GOwn pool) (gs.eraseIdx k))).fetch (MapC gmb .u64 gkvs gck)).fetch (Own 1 (.slice ga codes.length gc) codes.length (cV codes))))
   rw [set_same hg] at h
   exact ⟨k + 1, ⟨by omega, _, a28, c28, mkE_of ⟨congrArg (fun q : List UInt8 => Value.slice a28 q.length c28) e, rfl, rfl, trivial⟩, h.to⟩, by show 8 - (k + 1) < 8 - k; omega⟩
  refine W.exit (W.seq ?_)
  have ob_ : k = 8 := by omega
  obtain rfl := ob_
  refine W.region (WL.val run_move rfl rfl (WL.eff (eff_call call51 (clip_bytes h)) rfl rfl ?_))
  rintro _ w ⟨rfl, h⟩
  refine WL.val run_assign rfl rfl (WL.nil (W.ret (bodyQ.r1 (v := .slice _ _ _) results17 rfl ?_)))
  have h3 := closeU (bu := bu) (u := u) hm hl ((((h.fetch (Big (GOwn pool) gs)).fetch (blk bt u.t.cells 113)).fetch (SpP 105 bs u.s)).fetch (blk bu (ucells bs bt gs) 68))
  have h3 : On W0 (OwnB (.slice ao (encU u (SpM.encS u.s)).length (encU u (SpM.encS u.s)).length) (encU u (SpM.encS u.s)) :: _) w := h3.fetch (Own 1 (.slice ao (encUK u (SpM.encS u.s) 8).length (encUK u (SpM.encS u.s) 8).length) (encUK u (SpM.encS u.s) 8).length (bytesV (encUK u (SpM.encS u.s) 8)))
  exact ⟨ao, rfl, h3.to⟩
end Go.Proofs.YtjbgiingimhnnaaGreat
/-
  Bytes read as a guest, as plain data. No program is named here.
-/
namespace Go.Sl.UnM
open Go Go.Sl Go.Sl.BitM Go.Sl.SpM Go.Sl.RsM Go.Sl.ByM
set_option linter.unusedVariables false
set_option linter.unusedSimpArgs false
/-- What is left to be read, and whether there was a fault. -/
abbrev RS := List UInt8 × Bool
def rdN (n : Nat) (s : RS) : Nat × RS := if n ≤ s.1.length then (beV (s.1.take n), (s.1.drop n, s.2)) else (0, ([], true))
def rdP (s : RS) : List UInt8 × RS :=
  if 4 ≤ s.1.length ∧ beV (s.1.take 4) ≤ (s.1.drop 4).length then ((s.1.drop 4).take (beV (s.1.take 4)), ((s.1.drop 4).drop (beV (s.1.take 4)), s.2)) else ([], ([], true))
def rdCodes : Nat → RS → List Int → List Int × RS
  | 0, s, l => (l, s)
  | n + 1, s, l => if s.2 then (l, s) else rdCodes n (rdN 2 s).2 (l ++ [((rdN 2 s).1 : Int)])
def putD (D : List (Int × Rp)) (id : Int) (r : Rp) : List (Int × Rp) := if id ∈ D.map (·.1) then D.map fun x => if x.1 = id then (id, r) else x else D ++ [(id, r)]
def rdOne (s : RS) : (Int × Rp) × RS :=
  let a := rdN 8 s
  let b := rdN 1 a.2
  let c := rdN 1 b.2
  let d := rdN 2 c.2
  let e := rdN 4 d.2
  let p := rdP e.2
  (((a.1 : Int), ⟨(b.1 : Int), (c.1 : Int), (d.1 : Int), p.1, (e.1 : Int)⟩), p.2)
def rdDone : Nat → RS → List (Int × Rp) → List (Int × Rp) × RS
  | 0, s, D => (D, s)
  | n + 1, s, D => if s.2 then (D, s) else rdDone n (rdOne s).2 (putD D (rdOne s).1.1 (rdOne s).1.2)
def readG (b : List UInt8) : Bool × Gs :=
  let a := rdN 2 (b, false)
  let c := rdCodes a.1 a.2 []
  let f := rdN 8 c.2
  let n := rdN 2 f.2
  let d := rdDone n.1 n.2 []
  (!d.2.2 && decide (d.2.1 = []), ⟨c.1, (f.1 : Int), d.1⟩)
theorem rdN_lt {n : Nat} {s : RS} : (rdN n s).1 < 256 ^ n := by
  unfold rdN
  split
  · have h1 := beV_lt (s.1.take n)
    exact Nat.lt_of_lt_of_le h1 (Nat.pow_le_pow_right (by decide) (by rw [List.length_take]; omega))
  · exact Nat.pow_pos (by decide)
theorem rdN_len {n : Nat} {s : RS} : (rdN n s).2.1.length ≤ s.1.length := by
  unfold rdN
  split
  · show (s.1.drop n).length ≤ _; rw [List.length_drop]; omega
  · exact Nat.zero_le _
theorem rdP_len {s : RS} : (rdP s).1.length ≤ s.1.length ∧ (rdP s).2.1.length ≤ s.1.length := by
  unfold rdP
  split
  · refine ⟨?_, ?_⟩
    · show ((s.1.drop 4).take _).length ≤ _; rw [List.length_take, List.length_drop]; omega
    · show ((s.1.drop 4).drop _).length ≤ _; rw [List.length_drop, List.length_drop]; omega
  · exact ⟨Nat.zero_le _, Nat.zero_le _⟩
section
variable {pool : PoolL} {D : List (Int × Rp)} {kvs : List KV} {id : Int} {r : Rp} {dv : Value} {ck : Nat}
theorem putD_keys_in (h : id ∈ D.map (·.1)) : (putD D id r).map (·.1) = D.map (·.1) := by
  unfold putD
  rw [if_pos h, List.map_map]
  refine List.map_congr_left fun x _ => ?_
  show (if x.1 = id then (id, r) else x).1 = x.1
  split
  · rename_i e; exact e.symm
  · rfl
theorem putM_keys_in {v : Value} (h : kvs.any (fun x => x.1 == id) = true) : (putM kvs id v ck).map (·.1) = kvs.map (·.1) := by
  unfold putM
  rw [if_pos h, List.map_map]
  refine List.map_congr_left fun x _ => ?_
  show (if x.1 = id then (id, v, x.2.2) else x).1 = x.1
  split
  · rename_i e; exact e.symm
  · rfl
/-- A value stored, there or not. -/
theorem okD_set (h : okD pool D kvs) (hp : (dv, r.data) ∈ pool) : okD pool (putD D id r) (putM kvs id (r.val dv) ck) := by
  by_cases hin : id ∈ D.map (·.1)
  · obtain ⟨h1, h2, h3⟩ := h
    have hany : kvs.any (fun x => x.1 == id) = true := by
      obtain ⟨x, hx, e⟩ := List.mem_map.1 (h1.mem_iff.2 hin)
      exact List.any_eq_true.2 ⟨x, hx, by simp [e]⟩
    refine ⟨by rw [putD_keys_in hin, putM_keys_in hany]; exact h1, by rw [putD_keys_in hin]; exact h2, fun x hx => ?_⟩
    rcases mem_putM hx with ⟨e1, e2⟩ | ⟨hx, hne⟩
    · refine ⟨r, dv, ?_, e2, hp⟩
      rw [e1]
      obtain ⟨y, hy, e⟩ := List.mem_map.1 hin
      unfold putD
      rw [if_pos hin]
      exact List.mem_map.2 ⟨y, hy, by rw [if_pos e]⟩
    · obtain ⟨r', dv', hr1, hr2, hr3⟩ := h3 x hx
      refine ⟨r', dv', ?_, hr2, hr3⟩
      unfold putD
      rw [if_pos hin]
      exact List.mem_map.2 ⟨_, hr1, by rw [if_neg hne]⟩
  · have e : putD D id r = D ++ [(id, r)] := by unfold putD; rw [if_neg hin]
    rw [e]
    exact okD_putIn h hp hin
end
theorem rdCodes_bad {n : Nat} {s : RS} {l : List Int} (h : s.2 = true) : rdCodes n s l = (l, s) := by
  cases n with
  | zero => rfl
  | succ n => unfold rdCodes; rw [if_pos h]
theorem rdDone_bad {n : Nat} {s : RS} {D : List (Int × Rp)} (h : s.2 = true) : rdDone n s D = (D, s) := by
  cases n with
  | zero => rfl
  | succ n => unfold rdDone; rw [if_pos h]
theorem rdCodes_len : ∀ (n : Nat) (s : RS) (l : List Int), (rdCodes n s l).2.1.length ≤ s.1.length
  | 0, s, l => Nat.le_refl _
  | n + 1, s, l => by
    unfold rdCodes
    split
    · exact Nat.le_refl _
    · exact Nat.le_trans (rdCodes_len n _ _) rdN_len
theorem rdDone_step {m : Nat} {s : RS} {D : List (Int × Rp)} (h : s.2 = false) : rdDone (m + 1) s D = rdDone m (rdP (rdN 4 (rdN 2 (rdN 1 (rdN 1 (rdN 8 s).2).2).2).2).2).2 (putD D ((rdN 8 s).1 : Int) (⟨((rdN 1 (rdN 8 s).2).1 : Int), ((rdN 1 (rdN 1 (rdN 8 s).2).2).1 : Int), ((rdN 2 (rdN 1 (rdN 1 (rdN 8 s).2).2).2).1 : Int), (rdP (rdN 4 (rdN 2 (rdN 1 (rdN 1 (rdN 8 s).2).2).2).2).2).1, ((rdN 4 (rdN 2 (rdN 1 (rdN 1 (rdN 8 s).2).2).2).2).1 : Int)⟩ : Rp)) := by
  rw [rdDone, if_neg (by rw [h]; decide)]
  simp only [rdOne]
theorem readG_eq (b : List UInt8) : readG b = (!(rdDone (rdN 2 (rdN 8 (rdCodes (rdN 2 (b, false)).1 (rdN 2 (b, false)).2 []).2).2).1 (rdN 2 (rdN 8 (rdCodes (rdN 2 (b, false)).1 (rdN 2 (b, false)).2 []).2).2).2 []).2.2 && decide ((rdDone (rdN 2 (rdN 8 (rdCodes (rdN 2 (b, false)).1 (rdN 2 (b, false)).2 []).2).2).1 (rdN 2 (rdN 8 (rdCodes (rdN 2 (b, false)).1 (rdN 2 (b, false)).2 []).2).2).2 []).2.1 = []), ⟨(rdCodes (rdN 2 (b, false)).1 (rdN 2 (b, false)).2 []).1, ((rdN 8 (rdCodes (rdN 2 (b, false)).1 (rdN 2 (b, false)).2 []).2).1 : Int), (rdDone (rdN 2 (rdN 8 (rdCodes (rdN 2 (b, false)).1 (rdN 2 (b, false)).2 []).2).2).1 (rdN 2 (rdN 8 (rdCodes (rdN 2 (b, false)).1 (rdN 2 (b, false)).2 []).2).2).2 []).1⟩) := by
  simp only [readG]
/-! ### A table read -/
def kAt (b : List UInt8) (i : Nat) : Int := (beV ((b.drop (4 + 8 * i)).take 8) : Nat)
def tK (b : List UInt8) (k : Nat) : Tb := ⟨fun j => if j < k then kAt b j else 0, -1, 0, ((beV (b.take 4) : Nat) : Int)⟩
def decT0 (b : List UInt8) : Tb := if (b.getD 68 0).toNat < 8 ∧ (tK b 8).K (b.getD 68 0).toNat ≠ 0 ∧ typedB ((b.getD 69 0).toNat : Int) = true then (tK b 8).take ((b.getD 68 0).toNat : Int) ((b.getD 69 0).toNat : Int) else tK b 8
def decT (b : List UInt8) : Option Tb := if b.length = 70 ∧ encT (decT0 b) = b then some (decT0 b) else none
theorem kAt_lt (b : List UInt8) (i : Nat) : 0 ≤ kAt b i ∧ kAt b i < 18446744073709551616 := by
  have h1 := beV_lt ((b.drop (4 + 8 * i)).take 8)
  have h2 : 256 ^ ((b.drop (4 + 8 * i)).take 8).length ≤ 256 ^ 8 := Nat.pow_le_pow_right (by decide) (by rw [List.length_take]; omega)
  have h3 : (256 : Nat) ^ 8 = 18446744073709551616 := by decide
  unfold kAt
  omega
theorem gen_lt (b : List UInt8) : beV (b.take 4) < 4294967296 := by
  have h1 := beV_lt (b.take 4)
  have h2 : 256 ^ (b.take 4).length ≤ 256 ^ 4 := Nat.pow_le_pow_right (by decide) (by rw [List.length_take]; omega)
  have h3 : (256 : Nat) ^ 4 = 4294967296 := by decide
  omega
theorem tK_put (b : List UInt8) (k : Nat) : (tK b k).put k (kAt b k) = tK b (k + 1) := by
  unfold tK Tb.put
  congr 1
  funext j
  show (if j = k then kAt b k else if j < k then kAt b j else 0) = if j < k + 1 then kAt b j else 0
  by_cases h : j = k
  · subst h; rw [if_pos rfl, if_pos (by omega)]
  · rw [if_neg h]
    by_cases h2 : j < k
    · rw [if_pos h2, if_pos (by omega)]
    · rw [if_neg h2, if_neg (by omega)]
theorem tK_ok (b : List UInt8) : okT (tK b 8) := by
  refine ⟨fun i hi => ?_, Int.natCast_nonneg _, by have := gen_lt b; show ((beV (b.take 4) : Nat) : Int) < _; omega⟩
  show 0 ≤ (if i < 8 then kAt b i else 0) ∧ (if i < 8 then kAt b i else 0) < _
  rw [if_pos hi]
  exact kAt_lt b i
theorem decT0_ok (b : List UInt8) : okT (decT0 b) := by
  unfold decT0
  split
  · exact tK_ok b
  · exact tK_ok b
/-! ### Blocks read -/
def decRows : List (Nat × Nat) → Sp → List UInt8 → Option Sp
  | [], s, _ => some s
  | r :: l, s, rest => if s.N < r.1 + r.2 ∨ rest.length < 8 * r.2 then none else decRows l ⟨s.N, over s.d (8 * r.1) (rest.take (8 * r.2)), s.m⟩ (rest.drop (8 * r.2))
def nB (b : List UInt8) : Nat := if 2 ≤ b.length then beV (b.take 2) else 0
def mB (b : List UInt8) : List UInt8 := (b.drop 2).take ((nB b + 7) / 8)
def decS0 (b : List UInt8) : Option Sp :=
  if (1 ≤ nB b ∧ nB b ≤ 1024) ∧ 2 + (nB b + 7) / 8 ≤ b.length then decRows (rowsOf (mB b)) ⟨nB b, List.replicate (8 * nB b) 0, mB b⟩ (b.drop (2 + (nB b + 7) / 8)) else none
def decS (b : List UInt8) : Option Sp := (decS0 b).bind fun s => if SpM.encS s = b then some s else none
theorem nB_lt (b : List UInt8) : nB b < 65536 := by
  unfold nB
  split
  · have h1 := beV_lt (b.take 2)
    have h2 : 256 ^ (b.take 2).length ≤ 256 ^ 2 := Nat.pow_le_pow_right (by decide) (by rw [List.length_take]; omega)
    have h3 : (256 : Nat) ^ 2 = 65536 := by decide
    omega
  · decide
theorem mB_len {b : List UInt8} (h : 2 + (nB b + 7) / 8 ≤ b.length) : (mB b).length = (nB b + 7) / 8 := by unfold mB; rw [List.length_take, List.length_drop]; omega
theorem capS_rows {s : Sp} {R : List (Nat × Nat)} (hR : BitM.Rows s.m R) (h : ∀ r ∈ R, r.1 + r.2 ≤ s.N) : capS s := fun j hj => by
  obtain ⟨r, hr, h1, h2⟩ := (hR.cover j).1 hj
  have := h r hr
  omega
theorem decRows_step {l : List (Nat × Nat)} {r : Nat × Nat} {s : Sp} {rest : List UInt8} {k : Nat} (h : l[k]? = some r) (hn : ¬ (s.N < r.1 + r.2 ∨ rest.length < 8 * r.2)) :
    decRows (l.drop k) s rest = decRows (l.drop (k + 1)) ⟨s.N, over s.d (8 * r.1) (rest.take (8 * r.2)), s.m⟩ (rest.drop (8 * r.2)) := by
  have hlt := (List.getElem?_eq_some_iff.1 h).1
  have he := (List.getElem?_eq_some_iff.1 h).2
  rw [List.drop_eq_getElem_cons hlt, he]
  show (if _ then _ else _) = _
  rw [if_neg hn]
theorem decRows_stop {l : List (Nat × Nat)} {r : Nat × Nat} {s : Sp} {rest : List UInt8} {k : Nat} (h : l[k]? = some r) (hn : s.N < r.1 + r.2 ∨ rest.length < 8 * r.2) : decRows (l.drop k) s rest = none := by
  have hlt := (List.getElem?_eq_some_iff.1 h).1
  have he := (List.getElem?_eq_some_iff.1 h).2
  rw [List.drop_eq_getElem_cons hlt, he]
  show (if _ then _ else _) = _
  rw [if_pos hn]
/-! ### A unit read -/
def rdGs : Nat → RS → List Gs → Option (RS × List Gs)
  | 0, s, l => some (s, l)
  | n + 1, s, l => if (readG (rdP s).1).1 = true then rdGs n (rdP s).2 (l ++ [(readG (rdP s).1).2]) else none
def decU0 (b : List UInt8) : Option Un :=
  (decS (rdP (b, false)).1).bind fun s => (decT (rdP (rdP (b, false)).2).1).bind fun t => (rdGs 8 (rdP (rdP (b, false)).2).2 []).bind fun p => if p.1.2 = true then none else some ⟨s, t, p.2⟩
def decU (b : List UInt8) : Option Un := (decU0 b).bind fun u => if encU u (SpM.encS u.s) = b then some u else none
end Go.Sl.UnM
/-
  A unit: a reader: the contracts. Lines of walks printed by a program of the prover's.
-/
namespace Go.Proofs.YtjbgiingimhnnaaGreat
open Go.Proofs.Tryz
open Go Go.Sl Go.Sl.BitM Go.Sl.SpM Go.Sl.RsM Go.Sl.ByM Go.Sl.UnM
set_option linter.unusedVariables false
set_option linter.unusedSimpArgs false
set_option maxHeartbeats 1000000
set_option maxRecDepth 8000
variable {W0 w : World} {L F : List HProp}
theorem number_ok [tF : To L F] {br cb : Nat} {ab : Option Addr} {bs : List UInt8} {bad : Bool} {n : Nat} (hn1 : 1 ≤ n) (hn8 : n ≤ 8) (h : On W0 (blk br [.slice ab bs.length cb, .bool bad] 55 :: L) w) (C : Gives F (Bytes (.slice ab bs.length cb) bs)) : Calls Tryz.prog 55 #[.pointer (some ⟨br, 0, none⟩), .int .i64 (n : Int)] w (Ret fun v w' => (n ≤ bs.length ∧ ∃ a' c', Gives F (Bytes (.slice a' (bs.drop n).length c') (bs.drop n)) ∧ v = .int .u64 (beV (bs.take n) : Int) ∧ On W0 (blk br [.slice a' (bs.drop n).length c', .bool bad] 55 :: L) w') ∨ (bs.length < n ∧ v = .int .u64 0 ∧ On W0 (blk br [.slice none ([] : List UInt8).length 0, .bool true] 55 :: L) w')) := by
  refine enter func55 rfl ntmps55 rfl ?_
  have hmx := maxLen_eq
  have ob_ := Cells.bounds (h.readsTo C)
  obtain ⟨hbc, hbm⟩ := ob_
  refine W.seq (W.region (WL.val run_assign rfl rfl (WL.nil (W.seq (W.region (WL.val run_move rfl rfl (WL.val (run_nilCheck rfl) rfl rfl ?_)))))))
  refine WL.val (run_fieldAddr 0 underlying55 rfl sizeOf22 rfl rfl) rfl rfl (WL.val (run_load1 isAgg22 rfl (h.cellB rfl)) rfl rfl (WL.val run_move rfl rfl (WL.eff (eff_call call52 (bget_ok (at_ := ((0 : Nat) : Int)) (n := (n : Int)) (bs := bs) h (Gives.to C))) rfl rfl ?_)))
  rintro _ w hg
  rcases hg with ⟨hok, rfl, h⟩ | ⟨hno, rfl, h⟩
  ·
   refine WL.val run_move rfl rfl (WL.val (run_extract rfl rfl) rfl rfl (WL.val (run_extract rfl rfl) rfl rfl (WL.val run_assign rfl rfl (WL.val run_assign rfl rfl (WL.nil (W.seq (W.seq ?_)))))))
   refine W.region (WL.val run_move rfl rfl (WL.val (run_not rfl) rfl rfl (WL.nil (W.condF rfl (W.skip (W.seq ?_))))))
   have hle : n ≤ bs.length := by omega
   have ob_ := cut_gives (k := n) C hle hbc
   obtain ⟨a', c', hcut, CC⟩ := ob_
   refine W.region (WL.val run_move rfl rfl (WL.val run_move rfl rfl (WL.val (run_nilCheck rfl) rfl rfl (WL.val (run_fieldAddr 0 underlying55 rfl sizeOf22 rfl rfl) rfl rfl (WL.val (run_load1 isAgg22 rfl (h.cellB rfl)) rfl rfl (WL.val run_move rfl rfl (WL.val (run_cutLV (l := n) underlying22 sizeOf5 rfl rfl hle hcut) rfl rfl ?_)))))))
   refine WL.val (run_nilCheck rfl) rfl rfl (WL.val (run_fieldAddr 0 underlying55 rfl sizeOf22 rfl rfl) rfl rfl (WL.eff (eff_store (v := .slice _ _ _) h sizeOf22 rfl rfl rfl rfl rfl) rfl rfl ?_))
   rintro _ w h
   try simp only [Nat.zero_add, Nat.add_zero, List.set_cons_zero, List.set_cons_succ] at h
   refine WL.nil (W.seq (W.region (WL.val run_move rfl rfl (WL.val run_assign rfl rfl (WL.nil (W.ret (bodyQ.r1 (v := .int .u64 _) results55 rfl ?_)))))))
   have ev : bs.take n = (bs.drop ((0 : Nat) : Int).toNat).take ((n : Int)).toNat := by simp
   rw [ev]
   exact .inl ⟨hle, a', c', CC, rfl, h.to⟩
  refine WL.val run_move rfl rfl (WL.val (run_extract rfl rfl) rfl rfl (WL.val (run_extract rfl rfl) rfl rfl (WL.val run_assign rfl rfl (WL.val run_assign rfl rfl (WL.nil (W.seq (W.seq ?_)))))))
  refine W.region (WL.val run_move rfl rfl (WL.val (run_not rfl) rfl rfl (WL.nil (W.condT rfl (W.seq (W.region (WL.val run_move rfl rfl ?_)))))))
  refine WL.val run_move rfl rfl (WL.val (run_nilCheck rfl) rfl rfl (WL.val (run_fieldAddr 1 underlying55 rfl sizeOf4 rfl rfl) rfl rfl (WL.eff (eff_store (v := .bool _) h sizeOf4 rfl rfl rfl rfl rfl) rfl rfl ?_)))
  rintro _ w h
  try simp only [Nat.zero_add, Nat.add_zero, List.set_cons_zero, List.set_cons_succ] at h
  refine WL.val (run_nilCheck rfl) rfl rfl (WL.val (run_fieldAddr 0 underlying55 rfl sizeOf22 rfl rfl) rfl rfl (WL.eff (eff_store (v := .slice _ _ _) h sizeOf22 rfl rfl rfl rfl rfl) rfl rfl ?_))
  rintro _ w h
  try simp only [Nat.zero_add, Nat.add_zero, List.set_cons_zero, List.set_cons_succ] at h
  refine WL.nil (W.seq (W.region (WL.val run_assign rfl rfl (WL.nil (W.ret (bodyQ.r1 (v := .int .u64 _) results55 rfl ?_))))))
  exact .inr ⟨by omega, rfl, h.to⟩
theorem rpart_ok [tF : To L F] {br cb : Nat} {ab : Option Addr} {bs : List UInt8} {bad : Bool} (h : On W0 (blk br [.slice ab bs.length cb, .bool bad] 55 :: L) w) (C : Gives F (Bytes (.slice ab bs.length cb) bs)) : Calls Tryz.prog 20 #[.pointer (some ⟨br, 0, none⟩)] w (Ret fun v w' => (4 ≤ bs.length ∧ (beV (bs.take 4)) ≤ (bs.drop 4).length ∧ ∃ a1 c1 a2 c2, Gives F (Bytes (.slice a1 ((bs.drop 4).take (beV (bs.take 4))).length c1) ((bs.drop 4).take (beV (bs.take 4)))) ∧ Gives F (Bytes (.slice a2 ((bs.drop 4).drop (beV (bs.take 4))).length c2) ((bs.drop 4).drop (beV (bs.take 4)))) ∧ v = .slice a1 ((bs.drop 4).take (beV (bs.take 4))).length c1 ∧ On W0 (blk br [.slice a2 ((bs.drop 4).drop (beV (bs.take 4))).length c2, .bool bad] 55 :: L) w') ∨ (¬ (4 ≤ bs.length ∧ (beV (bs.take 4)) ≤ (bs.drop 4).length) ∧ v = .slice none 0 0 ∧ On W0 (blk br [.slice none ([] : List UInt8).length 0, .bool true] 55 :: L) w')) := by
  refine enter func20 rfl ntmps20 rfl ?_
  have hmx := maxLen_eq
  refine W.seq (W.region (WL.val run_assign rfl rfl (WL.nil (W.seq (W.region (WL.val run_move rfl rfl (WL.eff (eff_call call55 (number_ok (n := 4) (by decide) (by decide) h C)) rfl rfl ?_)))))))
  rintro _ w hg
  rcases hg with ⟨h4, a', c', CC, rfl, h⟩ | ⟨h4, rfl, h⟩
  ·
   have ob_ := Cells.bounds (h.readsTo CC)
   obtain ⟨hbc, hbm⟩ := ob_
   refine WL.val run_assign rfl rfl (WL.nil (W.seq (W.seq (W.region (WL.val run_move rfl rfl (WL.val run_move rfl rfl (WL.val (run_nilCheck rfl) rfl rfl ?_)))))))
   refine WL.val (run_fieldAddr 0 underlying55 rfl sizeOf22 rfl rfl) rfl rfl (WL.val (run_load1 isAgg22 rfl (h.cellB rfl)) rfl rfl (WL.val (run_lenSlice underlying22 rfl) rfl rfl (WL.val (run_convIn underlying3 underlying23 rfl (by show (0 : Int) ≤ _; omega) (by show _ ≤ (18446744073709551615 : Int); omega)) rfl rfl ?_)))
   refine WL.dec (run_gtr rfl rfl) rfl rfl (fun c14 => ?_) (fun c14 => ?_)
   ·
    refine WL.nil (W.condT rfl (W.seq (W.region (WL.val run_move rfl rfl (WL.val run_move rfl rfl (WL.val (run_nilCheck rfl) rfl rfl (WL.val (run_fieldAddr 1 underlying55 rfl sizeOf4 rfl rfl) rfl rfl ?_)))))))
    refine WL.eff (eff_store (v := .bool _) h sizeOf4 rfl rfl rfl rfl rfl) rfl rfl ?_
    rintro _ w h
    try simp only [Nat.zero_add, Nat.add_zero, List.set_cons_zero, List.set_cons_succ] at h
    refine WL.val (run_nilCheck rfl) rfl rfl (WL.val (run_fieldAddr 0 underlying55 rfl sizeOf22 rfl rfl) rfl rfl (WL.eff (eff_store (v := .slice _ _ _) h sizeOf22 rfl rfl rfl rfl rfl) rfl rfl ?_))
    rintro _ w h
    try simp only [Nat.zero_add, Nat.add_zero, List.set_cons_zero, List.set_cons_succ] at h
    refine WL.nil (W.seq (W.region (WL.val run_assign rfl rfl (WL.nil (W.ret (bodyQ.r1 (v := .slice _ _ _) results20 rfl ?_))))))
    exact .inr ⟨by omega, rfl, h.to⟩
   refine WL.nil (W.condF rfl (W.skip (W.seq ?_)))
   have hle : (beV (bs.take 4)) ≤ (bs.drop 4).length := by omega
   have hvl : (beV (bs.take 4)) = ((bs.drop 4).take (beV (bs.take 4))).length := by rw [List.length_take]; omega
   have ob_ := cut_gives (k := (beV (bs.take 4))) CC hle hbc
   obtain ⟨a2, c2, hcut, C2⟩ := ob_
   refine W.region (WL.val run_move rfl rfl (WL.val (run_nilCheck rfl) rfl rfl (WL.val (run_fieldAddr 0 underlying55 rfl sizeOf22 rfl rfl) rfl rfl (WL.val (run_load1 isAgg22 rfl (h.cellB rfl)) rfl rfl (WL.val run_move rfl rfl (WL.val (run_cutHV (h := (beV (bs.take 4))) underlying22 sizeOf5 rfl rfl (by omega) hvl) rfl rfl (WL.val run_assign rfl rfl ?_)))))))
   refine WL.nil (W.seq (W.region (WL.val run_move rfl rfl (WL.val run_move rfl rfl (WL.val (run_nilCheck rfl) rfl rfl (WL.val (run_fieldAddr 0 underlying55 rfl sizeOf22 rfl rfl) rfl rfl (WL.val (run_load1 isAgg22 rfl (h.cellB rfl)) rfl rfl ?_)))))))
   refine WL.val run_move rfl rfl (WL.val (run_cutLV (l := (beV (bs.take 4))) underlying22 sizeOf5 rfl rfl hle hcut) rfl rfl (WL.val (run_nilCheck rfl) rfl rfl (WL.val (run_fieldAddr 0 underlying55 rfl sizeOf22 rfl rfl) rfl rfl (WL.eff (eff_store (v := .slice _ _ _) h sizeOf22 rfl rfl rfl rfl rfl) rfl rfl ?_))))
   rintro _ w h
   try simp only [Nat.zero_add, Nat.add_zero, List.set_cons_zero, List.set_cons_succ] at h
   refine WL.nil (W.seq (W.region (WL.val run_move rfl rfl (WL.val run_assign rfl rfl (WL.nil (W.ret (bodyQ.r1 (v := .slice _ _ _) results20 rfl ?_)))))))
   exact .inl ⟨h4, hle, a', c', a2, c2, front_bytes CC hle, C2, rfl, h.to⟩
  refine WL.val run_assign rfl rfl (WL.nil (W.seq (W.seq (W.region (WL.val run_move rfl rfl (WL.val run_move rfl rfl (WL.val (run_nilCheck rfl) rfl rfl ?_)))))))
  refine WL.val (run_fieldAddr 0 underlying55 rfl sizeOf22 rfl rfl) rfl rfl (WL.val (run_load1 isAgg22 rfl (h.cellB rfl)) rfl rfl (WL.val (run_lenSlice underlying22 rfl) rfl rfl (WL.val (run_convIn (n := 0) underlying3 underlying23 rfl (by decide) (by decide)) rfl rfl (WL.val (run_gtrF rfl rfl (by decide)) rfl rfl (WL.nil (W.condF rfl (W.skip ?_)))))))
  refine W.seq (W.region (WL.val run_move rfl rfl (WL.val (run_nilCheck rfl) rfl rfl (WL.val (run_fieldAddr 0 underlying55 rfl sizeOf22 rfl rfl) rfl rfl (WL.val (run_load1 isAgg22 rfl (h.cellB rfl)) rfl rfl (WL.val run_move rfl rfl (WL.val (run_cutHV (h := 0) (r := 0) underlying22 sizeOf5 rfl rfl (Nat.le_refl _) rfl) rfl rfl ?_)))))))
  refine WL.val run_assign rfl rfl (WL.nil (W.seq (W.region (WL.val run_move rfl rfl (WL.val run_move rfl rfl (WL.val (run_nilCheck rfl) rfl rfl (WL.val (run_fieldAddr 0 underlying55 rfl sizeOf22 rfl rfl) rfl rfl ?_)))))))
  refine WL.val (run_load1 isAgg22 rfl (h.cellB rfl)) rfl rfl (WL.val run_move rfl rfl (WL.val (run_cutLV (l := 0) underlying22 sizeOf5 rfl rfl (Nat.le_refl _) rfl) rfl rfl (WL.val (run_nilCheck rfl) rfl rfl (WL.val (run_fieldAddr 0 underlying55 rfl sizeOf22 rfl rfl) rfl rfl (WL.eff (eff_store (v := .slice _ _ _) h sizeOf22 rfl rfl rfl rfl rfl) rfl rfl ?_)))))
  rintro _ w h
  try simp only [Nat.zero_add, Nat.add_zero, List.set_cons_zero, List.set_cons_succ] at h
  refine WL.nil (W.seq (W.region (WL.val run_move rfl rfl (WL.val run_assign rfl rfl (WL.nil (W.ret (bodyQ.r1 (v := .slice _ _ _) results20 rfl ?_)))))))
  have h : On W0 (blk br [.slice none ([] : List UInt8).length 0, .bool true] 55 :: _) w := h
  exact .inr ⟨by omega, rfl, h.to⟩
theorem rnum_ok [tF : To L F] {br cb : Nat} {ab : Option Addr} {s : RS} {n : Nat} (hn1 : 1 ≤ n) (hn8 : n ≤ 8) (h : On W0 (blk br [.slice ab s.1.length cb, .bool s.2] 55 :: L) w) (C : Gives F (Bytes (.slice ab s.1.length cb) s.1)) : Calls Tryz.prog 55 #[.pointer (some ⟨br, 0, none⟩), .int .i64 (n : Int)] w (Ret fun v w' => ∃ a' c', Gives F (Bytes (.slice a' (rdN n s).2.1.length c') (rdN n s).2.1) ∧ v = .int .u64 ((rdN n s).1 : Int) ∧ On W0 (blk br [.slice a' (rdN n s).2.1.length c', .bool (rdN n s).2.2] 55 :: L) w') := by
  skip
  exact (number_ok hn1 hn8 h C).mono fun e w' he => by
    obtain ⟨v, he, hv⟩ := he
    refine ⟨v, he, ?_⟩
    rcases hv with ⟨hle, a', c', CC, hv, h⟩ | ⟨hlt, hv, h⟩
    · have e : rdN n s = (beV (s.1.take n), (s.1.drop n, s.2)) := by unfold rdN; rw [if_pos hle]
      rw [e]
      exact ⟨a', c', CC, hv, h⟩
    · have e : rdN n s = (0, ([], true)) := by unfold rdN; rw [if_neg (by omega)]
      rw [e]
      exact ⟨none, 0, Gives.nilB, hv, h⟩
theorem rprt_ok [tF : To L F] {br cb : Nat} {ab : Option Addr} {s : RS} (h : On W0 (blk br [.slice ab s.1.length cb, .bool s.2] 55 :: L) w) (C : Gives F (Bytes (.slice ab s.1.length cb) s.1)) : Calls Tryz.prog 20 #[.pointer (some ⟨br, 0, none⟩)] w (Ret fun v w' => ∃ a1 c1 a' c', Gives F (Bytes (.slice a1 (rdP s).1.length c1) (rdP s).1) ∧ Gives F (Bytes (.slice a' (rdP s).2.1.length c') (rdP s).2.1) ∧ v = .slice a1 (rdP s).1.length c1 ∧ On W0 (blk br [.slice a' (rdP s).2.1.length c', .bool (rdP s).2.2] 55 :: L) w') := by
  skip
  exact (rpart_ok h C).mono fun e w' he => by
    obtain ⟨v, he, hv⟩ := he
    refine ⟨v, he, ?_⟩
    rcases hv with ⟨h4, hle, a1, c1, a', c', C1, C2, hv, h⟩ | ⟨hno, hv, h⟩
    · have e : rdP s = ((s.1.drop 4).take (beV (s.1.take 4)), ((s.1.drop 4).drop (beV (s.1.take 4)), s.2)) := by unfold rdP; rw [if_pos ⟨h4, hle⟩]
      rw [e]
      exact ⟨a1, c1, a', c', C1, C2, hv, h⟩
    · have e : rdP s = ([], ([], true)) := by unfold rdP; rw [if_neg hno]
      rw [e]
      exact ⟨none, 0, none, 0, Gives.nilB, Gives.nilB, hv, h⟩
end Go.Proofs.YtjbgiingimhnnaaGreat
/-
  A unit: a guest read: the contracts. Lines of walks printed by a program of the prover's.
-/
namespace Go.Proofs.YtjbgiingimhnnaaGreat
open Go.Proofs.Tryz
open Go Go.Sl Go.Sl.BitM Go.Sl.SpM Go.Sl.RsM Go.Sl.ByM Go.Sl.UnM
set_option linter.unusedVariables false
set_option linter.unusedSimpArgs false
set_option maxHeartbeats 1000000
set_option maxRecDepth 8000
variable {W0 w : World} {L F : List HProp}
theorem gread_ok [tF : To L F] {bu bs bt i mb cb : Nat} {ab : Option Addr} {gs : List GX} {pool : PoolL} {b : List UInt8} (hg : gs[i]? = some (zG mb)) (hb : b.length ≤ 100000) (h : On W0 (MapC mb .u64 [] 0 :: blk bu (ucells bs bt gs) 68 :: Pool pool :: L) w) (C : Gives F (Bytes (.slice ab b.length cb) b)) : Calls Tryz.prog 23 #[.pointer (some ⟨bu, 0 + 2 + ((i : Nat) : Int).toNat * 3, none⟩), .slice ab b.length cb] w (Ret fun v w' => ∃ (a : Option Addr) (c ck : Nat) (kvs : List KV) (pool' : PoolL), okD pool' (readG b).2.done kvs ∧ (∀ p ∈ pool, p ∈ pool') ∧ v = .bool (readG b).1 ∧ On W0 (Own 1 (.slice a (readG b).2.codes.length c) (readG b).2.codes.length (cV (readG b).2.codes) :: MapC mb .u64 kvs ck :: blk bu (ucells bs bt (gs.set i ⟨(readG b).2, a, c, mb, ck, kvs⟩)) 68 :: Pool pool' :: L) w') := by
  refine enter func23 rfl ntmps23 rfl ?_
  have hmx := maxLen_eq
  have hig : i < gs.length := (List.getElem?_eq_some_iff.1 hg).1
  have h := h.ownEmpty 1 none
  rw [show gs = gs.set i (zG mb) from (set_same hg).symm] at h
  have h : On W0 (Own 1 (.slice none ([] : List Int).length 0) ([] : List Int).length (cV ([] : List Int)) :: MapC mb .u64 [] 0 :: blk bu (ucells bs bt (gs.set i (⟨⟨[], 0, []⟩, none, 0, mb, 0, []⟩ : GX))) 68 :: Pool pool :: L) w := h
  refine W.seq (W.region (WL.val run_assign rfl rfl (WL.nil (W.seq (W.region (WL.val run_move rfl rfl (WL.val (run_buildS (pl := [(0, 1), (1, 1)]) (out := [.slice _ _ _, .bool _]) underlying55 zeroValue55 (fun w => by kernel_rfl) rfl (⟨⟨_, _, rfl, rfl, by decide⟩, trivial⟩) rfl) rfl rfl ?_)))))))
  refine WL.eff (eff_box (v := .agg _) (l := [.slice ab b.length cb, .bool false]) h rfl rfl) rfl rfl ?_
  rintro _ w ⟨b12, rfl, h⟩
  refine WL.val run_assign rfl rfl (WL.nil ?_)
  refine W.cut (fun env w => ∃ (j : Env) (ab : Option Addr) (cb : Nat) (s : RS) (l : List Int) (a : Option Addr) (c : Nat), Gives F (Bytes (.slice ab s.1.length cb) s.1) ∧ (l, s) = (rdCodes (rdN 2 (b, false)).1 (rdN 2 (b, false)).2 []) ∧ l.length ≤ 65536 ∧ env = mkE j [(0, .pointer (some ⟨bu, 0 + 2 + ((i : Nat) : Int).toNat * 3, none⟩)), (5, .pointer (some ⟨b12, 0, none⟩))] ∧ On W0 (Own 1 (.slice a l.length c) l.length (cV l) :: MapC mb .u64 [] 0 :: blk bu (ucells bs bt (gs.set i (⟨⟨l, 0, []⟩, a, c, mb, 0, []⟩ : GX))) 68 :: Pool pool :: blk b12 [.slice ab s.1.length cb, .bool s.2] 55 :: L) w) ?_ ?_
  ·
   refine W.seq (W.region (WL.val run_move rfl rfl (WL.eff (eff_call call55 (rnum_ok (F := F) (n := 2) (s := (b, false)) (by decide) (by decide) h C)) rfl rfl ?_)))
   rintro _ w ⟨ab, cb, C, rfl, h⟩
   have hn2 : (rdN 2 (b, false)).1 < 65536 := rdN_lt
   refine WL.val run_assign rfl rfl (WL.nil (W.block ?_))
   refine W.loop (fun (n : Nat) env w => ∃ (j : Env) (ab : Option Addr) (cb : Nat) (s : RS) (l : List Int) (a : Option Addr) (c : Nat), Gives F (Bytes (.slice ab s.1.length cb) s.1) ∧ rdCodes n s l = (rdCodes (rdN 2 (b, false)).1 (rdN 2 (b, false)).2 []) ∧ l.length + n ≤ 65536 ∧ env = mkE j [(0, .pointer (some ⟨bu, 0 + 2 + ((i : Nat) : Int).toNat * 3, none⟩)), (5, .pointer (some ⟨b12, 0, none⟩)), (6, .int .u64 (n : Int))] ∧ On W0 (Own 1 (.slice a l.length c) l.length (cV l) :: MapC mb .u64 [] 0 :: blk bu (ucells bs bt (gs.set i (⟨⟨l, 0, []⟩, a, c, mb, 0, []⟩ : GX))) 68 :: Pool pool :: blk b12 [.slice ab s.1.length cb, .bool s.2] 55 :: L) w) (fun n => n) ((rdN 2 (b, false)).1) ?_ ?_
   · exact ⟨_, ab, cb, _, [], none, 0, C, rfl, by show 0 + _ ≤ 65536; omega, mkE_of ⟨rfl, rfl, rfl, trivial⟩, h.to⟩
   clear h C
   rintro n env w ⟨j, ab, cb, s, l, a, c, C, hX, hln, rfl, h⟩
   refine W.seq (W.seq (W.region (WL.val run_move rfl rfl ?_)))
   refine WL.dec (run_gtr rfl rfl) rfl rfl (fun c16 => ?_) (fun c16 => ?_)
   ·
    refine WL.val run_move rfl rfl (WL.val run_move rfl rfl (WL.val (run_nilCheck rfl) rfl rfl (WL.val (run_fieldAddr 1 underlying55 rfl sizeOf4 rfl rfl) rfl rfl (WL.val (run_load1 isAgg4 rfl (h.cellB rfl)) rfl rfl (WL.val (run_not rfl) rfl rfl (WL.val (run_pickT rfl) rfl rfl (WL.nil ?_)))))))
    refine W.condB rfl (fun c6 => ?_) (fun c6 => ?_)
    ·
     refine W.skip (W.seq (W.block ?_))
     have hg2 := (List.getElem?_set_self hig : (gs.set i (⟨⟨l, 0, []⟩, a, c, mb, 0, []⟩ : GX))[i]? = some (⟨⟨l, 0, []⟩, a, c, mb, 0, []⟩ : GX))
     have hlt2 : (rdN 2 s).1 < 65536 := rdN_lt
     have ob1_ := Own.bounds (h.own (.slice a l.length c))
     obtain ⟨hb1, hb2⟩ := ob1_
     refine W.draw Tryz.follows h (fun w h => ?_)
     refine WT.pure 0 rfl (by kernel_rfl) (fun w' => run_move) rfl rfl (WT.pure 1 rfl (by kernel_rfl) (fun w' => run_move) rfl rfl (WT.pure 2 rfl (by kernel_rfl) (fun w' => (run_nilCheck rfl)) rfl rfl (WT.pure 3 rfl (by kernel_rfl) (fun w' => (run_fieldAddr 0 underlying65 rfl sizeOf62 rfl rfl)) rfl rfl (WT.load1 4 rfl (by kernel_rfl) isAgg62 rfl (h.cellB (ucell (bs := bs) (bt := bt) hg2 (k := 0) (x := .slice a l.length c) (by decide) rfl)) rfl rfl (WT.pure 5 rfl (by kernel_rfl) (fun w' => run_move) rfl rfl (WT.eff 6 [true] rfl (by kernel_rfl) (by kernel_rfl) (eff_call call55 (rnum_ok (F := F) (n := 2) (s := s) (by decide) (by decide) (h.fetch (blk b12 [.slice ab s.1.length cb, .bool s.2] 55)) C)) rfl rfl ?_))))))
     rintro _ w ⟨ab, cb, C, rfl, h⟩
     refine ⟨⟨h.cellB (ucell (bs := bs) (bt := bt) hg2 (k := 0) (x := .slice a l.length c) (by decide) rfl), trivial⟩, ?_⟩
     refine WT.pure 7 rfl (by kernel_rfl) (fun w' => (run_convInt64 underlying23 underlying3 rfl (by omega) (by omega))) rfl rfl (WT.eff 8 [true] rfl (by kernel_rfl) (by kernel_rfl) (eff_mkSlice (zl := [.int .i64 0]) (out := [.int .i64 _]) h underlying62 sizeOf3 zeroValue3 (by decide) (by kernel_rfl) rfl rfl (by simp) (⟨⟨_, _, rfl, rfl, by decide⟩, trivial⟩) rfl rfl (by simp [maxLen])) rfl rfl ?_)
     rintro _ w ⟨b34, rfl, h⟩
     refine ⟨⟨h.cellB (ucell (bs := bs) (bt := bt) hg2 (k := 0) (x := .slice a l.length c) (by decide) rfl), trivial⟩, ?_⟩
     refine WT.eff 9 [false] rfl (by kernel_rfl) (by kernel_rfl) (eff_app (c2 := 1) (bytes := 8) h rfl rfl (h.cellsO (v := .slice (some ⟨b34, 0, none⟩) 1 1)) underlying62 rfl rfl rfl rfl rfl (by omega) (by omega) (by simp [Value.oneCell'])) rfl rfl ?_
     rintro _ w ⟨a35, c35, rfl, h⟩
     refine ⟨trivial, ?_⟩
     refine WT.pure 10 rfl (by kernel_rfl) (fun w' => (run_nilCheck rfl)) rfl rfl (WT.pure 11 rfl (by kernel_rfl) (fun w' => (run_fieldAddr 0 underlying65 rfl sizeOf62 rfl rfl)) rfl rfl (WT.eff 12 [] rfl (by kernel_rfl) (by kernel_rfl) (eff_store (v := .slice a35 (l.length + 1) c35) h sizeOf62 rfl rfl rfl (ult (bs := bs) (bt := bt) hg2 (k := 0) (by decide)) (free0 _)) rfl rfl ?_))
     rintro _ w h
     have el : (l ++ [((rdN 2 s).1 : Int)]).length = l.length + 1 := by rw [List.length_append]; rfl
     have em : cV (l ++ [((rdN 2 s).1 : Int)]) = cV l ++ [.int .i64 ((rdN 2 s).1 : Int)] := by unfold cV; rw [List.map_append]; rfl
     have er : (⟨⟨(l ++ [((rdN 2 s).1 : Int)]), 0, []⟩, a35, c35, mb, 0, []⟩ : GX).row = (⟨⟨l, 0, []⟩, a, c, mb, 0, []⟩ : GX).row.set 0 (.slice a35 (l.length + 1) c35) := by
       show [Value.slice a35 (l ++ [((rdN 2 s).1 : Int)]).length c35, _, _] = _
       rw [el]; rfl
     rw [uset (bs := bs) (bt := bt) hg2 (k := 0) (by decide) er, List.set_set] at h
     have h : On W0 (Own 1 (.slice a35 (l.length + 1) c35) (l.length + 1) (cV l ++ [.int .i64 ((rdN 2 s).1 : Int)]) :: _) w := h.own (.slice a35 (l.length + 1) c35)
     rw [← em, ← el] at h
     refine ⟨trivial, ?_⟩
     refine WT.done (by kernel_rfl) (W.region (WL.val run_move rfl rfl (WL.val (run_subK (k := .u64) (m := n) (n := 1) rfl rfl (by omega) (by show _ ≤ (18446744073709551615 : Int); omega)) rfl rfl (WL.val run_assign rfl rfl (WL.nil ?_)))))
     have ob_ : ∃ m, n = m + 1 := ⟨n - 1, by omega⟩
     obtain ⟨m, rfl⟩ := ob_
     have hs2 : s.2 = false := by simpa using c6
     have hX2 : rdCodes (m + 1) s l = rdCodes m (rdN 2 s).2 (l ++ [((rdN 2 s).1 : Int)]) := by show (if s.2 = true then _ else _) = _; rw [if_neg (by rw [hs2]; decide)]
     rw [hX2] at hX
     exact ⟨m, ⟨_, ab, cb, _, l ++ [((rdN 2 s).1 : Int)], a35, c35, C, hX, by rw [List.length_append]; show l.length + 1 + m ≤ 65536; omega, mkE_of ⟨rfl, rfl, rfl, trivial⟩, h.to⟩, by show m < m + 1; omega⟩
    refine W.exit ?_
    have hs2 : s.2 = true := by simpa using c6
    rw [rdCodes_bad hs2] at hX
    exact ⟨_, ab, cb, s, l, a, c, C, hX, by omega, mkE_of ⟨rfl, rfl, trivial⟩, h.to⟩
   refine WL.val run_move rfl rfl (WL.skip rfl rfl (WL.skip rfl rfl (WL.skip rfl rfl (WL.skip rfl rfl (WL.skip rfl rfl (WL.val (run_pickF rfl) rfl rfl (WL.nil ?_)))))))
   refine W.condF rfl (W.exit ?_)
   have ob_ : n = 0 := by omega
   obtain rfl := ob_
   exact ⟨_, ab, cb, s, l, a, c, C, hX, by omega, mkE_of ⟨rfl, rfl, trivial⟩, h.to⟩
  clear h C
  rintro env w ⟨j, ab, cb, s, l, a, c, C, hX, hll, rfl, h⟩
  have hl1 : l = (rdCodes (rdN 2 (b, false)).1 (rdN 2 (b, false)).2 []).1 := congrArg Prod.fst hX
  have hs1 : s = (rdCodes (rdN 2 (b, false)).1 (rdN 2 (b, false)).2 []).2 := congrArg Prod.snd hX
  subst hl1
  subst hs1
  have hg2 := (List.getElem?_set_self hig : (gs.set i (⟨⟨(rdCodes (rdN 2 (b, false)).1 (rdN 2 (b, false)).2 []).1, 0, []⟩, a, c, mb, 0, []⟩ : GX))[i]? = some (⟨⟨(rdCodes (rdN 2 (b, false)).1 (rdN 2 (b, false)).2 []).1, 0, []⟩, a, c, mb, 0, []⟩ : GX))
  refine W.seq (W.region (WL.val run_move rfl rfl (WL.val run_move rfl rfl (WL.eff (eff_call call55 (rnum_ok (F := F) (n := 8) (s := (rdCodes (rdN 2 (b, false)).1 (rdN 2 (b, false)).2 []).2) (by decide) (by decide) (h.fetch (blk b12 [.slice ab (rdCodes (rdN 2 (b, false)).1 (rdN 2 (b, false)).2 []).2.1.length cb, .bool (rdCodes (rdN 2 (b, false)).1 (rdN 2 (b, false)).2 []).2.2] 55)) C)) rfl rfl ?_))))
  rintro _ w ⟨ab, cb, C, rfl, h⟩
  refine WL.val (run_nilCheck rfl) rfl rfl (WL.val (run_fieldAddr 1 underlying65 rfl sizeOf23 rfl rfl) rfl rfl (WL.eff (eff_store (v := .int .u64 ((rdN 8 (rdCodes (rdN 2 (b, false)).1 (rdN 2 (b, false)).2 []).2).1 : Int)) h sizeOf23 rfl rfl rfl (ult (bs := bs) (bt := bt) hg2 (k := 1) (by decide)) (free0 _)) rfl rfl ?_))
  rintro _ w h
  have er : (⟨⟨(rdCodes (rdN 2 (b, false)).1 (rdN 2 (b, false)).2 []).1, ((rdN 8 (rdCodes (rdN 2 (b, false)).1 (rdN 2 (b, false)).2 []).2).1 : Int), []⟩, a, c, mb, 0, []⟩ : GX).row = (⟨⟨(rdCodes (rdN 2 (b, false)).1 (rdN 2 (b, false)).2 []).1, 0, []⟩, a, c, mb, 0, []⟩ : GX).row.set 1 (.int .u64 ((rdN 8 (rdCodes (rdN 2 (b, false)).1 (rdN 2 (b, false)).2 []).2).1 : Int)) := rfl
  rw [uset (bs := bs) (bt := bt) hg2 (k := 1) (by decide) er, List.set_set] at h
  refine WL.nil ?_
  refine W.cut (fun env w => ∃ (j : Env) (ab : Option Addr) (cb : Nat) (s : RS) (D : List (Int × Rp)) (kvs : List KV) (ck : Nat) (pool2 : PoolL), (D, s) = (rdDone (rdN 2 (rdN 8 (rdCodes (rdN 2 (b, false)).1 (rdN 2 (b, false)).2 []).2).2).1 (rdN 2 (rdN 8 (rdCodes (rdN 2 (b, false)).1 (rdN 2 (b, false)).2 []).2).2).2 []) ∧ okD pool2 D kvs ∧ (∀ p ∈ pool, p ∈ pool2) ∧ env = mkE j [(5, .pointer (some ⟨b12, 0, none⟩))] ∧ On W0 (Own 1 (.slice a (rdCodes (rdN 2 (b, false)).1 (rdN 2 (b, false)).2 []).1.length c) (rdCodes (rdN 2 (b, false)).1 (rdN 2 (b, false)).2 []).1.length (cV (rdCodes (rdN 2 (b, false)).1 (rdN 2 (b, false)).2 []).1) :: MapC mb .u64 kvs ck :: blk bu (ucells bs bt (gs.set i (⟨⟨(rdCodes (rdN 2 (b, false)).1 (rdN 2 (b, false)).2 []).1, ((rdN 8 (rdCodes (rdN 2 (b, false)).1 (rdN 2 (b, false)).2 []).2).1 : Int), []⟩, a, c, mb, 0, []⟩ : GX))) 68 :: Pool pool2 :: blk b12 [.slice ab s.1.length cb, .bool s.2] 55 :: L) w) ?_ ?_
  ·
   refine W.seq (W.region (WL.val run_move rfl rfl (WL.eff (eff_call call55 (rnum_ok (F := F) (n := 2) (s := (rdN 8 (rdCodes (rdN 2 (b, false)).1 (rdN 2 (b, false)).2 []).2).2) (by decide) (by decide) (h.fetch (blk b12 [.slice ab (rdN 8 (rdCodes (rdN 2 (b, false)).1 (rdN 2 (b, false)).2 []).2).2.1.length cb, .bool (rdN 8 (rdCodes (rdN 2 (b, false)).1 (rdN 2 (b, false)).2 []).2).2.2] 55)) C)) rfl rfl ?_)))
   rintro _ w ⟨ab, cb, C, rfl, h⟩
   have hg3 := (List.getElem?_set_self hig : (gs.set i (⟨⟨(rdCodes (rdN 2 (b, false)).1 (rdN 2 (b, false)).2 []).1, ((rdN 8 (rdCodes (rdN 2 (b, false)).1 (rdN 2 (b, false)).2 []).2).1 : Int), []⟩, a, c, mb, 0, []⟩ : GX))[i]? = some (⟨⟨(rdCodes (rdN 2 (b, false)).1 (rdN 2 (b, false)).2 []).1, ((rdN 8 (rdCodes (rdN 2 (b, false)).1 (rdN 2 (b, false)).2 []).2).1 : Int), []⟩, a, c, mb, 0, []⟩ : GX))
   have z1 := rdN_len (n := 2) (s := (rdN 8 (rdCodes (rdN 2 (b, false)).1 (rdN 2 (b, false)).2 []).2).2)
   have z2 := rdN_len (n := 8) (s := (rdCodes (rdN 2 (b, false)).1 (rdN 2 (b, false)).2 []).2)
   have z3 := rdCodes_len (rdN 2 (b, false)).1 (rdN 2 (b, false)).2 []
   have z4 := rdN_len (n := 2) (s := (b, false))
   have z4 : (rdN 2 (b, false)).2.1.length ≤ b.length := z4
   have hx3l : (rdN 2 (rdN 8 (rdCodes (rdN 2 (b, false)).1 (rdN 2 (b, false)).2 []).2).2).2.1.length ≤ 100000 := by omega
   refine WL.val run_assign rfl rfl (WL.nil (W.block ?_))
   refine W.loop (fun (n : Nat) env w => ∃ (j : Env) (ab : Option Addr) (cb : Nat) (s : RS) (D : List (Int × Rp)) (kvs : List KV) (ck : Nat) (pool2 : PoolL), Gives F (Bytes (.slice ab s.1.length cb) s.1) ∧ rdDone n s D = (rdDone (rdN 2 (rdN 8 (rdCodes (rdN 2 (b, false)).1 (rdN 2 (b, false)).2 []).2).2).1 (rdN 2 (rdN 8 (rdCodes (rdN 2 (b, false)).1 (rdN 2 (b, false)).2 []).2).2).2 []) ∧ s.1.length ≤ 100000 ∧ n ≤ 65536 ∧ okD pool2 D kvs ∧ (∀ p ∈ pool, p ∈ pool2) ∧ env = mkE j [(0, .pointer (some ⟨bu, 0 + 2 + ((i : Nat) : Int).toNat * 3, none⟩)), (5, .pointer (some ⟨b12, 0, none⟩)), (7, .int .u64 (n : Int))] ∧ On W0 (Own 1 (.slice a (rdCodes (rdN 2 (b, false)).1 (rdN 2 (b, false)).2 []).1.length c) (rdCodes (rdN 2 (b, false)).1 (rdN 2 (b, false)).2 []).1.length (cV (rdCodes (rdN 2 (b, false)).1 (rdN 2 (b, false)).2 []).1) :: MapC mb .u64 kvs ck :: blk bu (ucells bs bt (gs.set i (⟨⟨(rdCodes (rdN 2 (b, false)).1 (rdN 2 (b, false)).2 []).1, ((rdN 8 (rdCodes (rdN 2 (b, false)).1 (rdN 2 (b, false)).2 []).2).1 : Int), []⟩, a, c, mb, 0, []⟩ : GX))) 68 :: Pool pool2 :: blk b12 [.slice ab s.1.length cb, .bool s.2] 55 :: L) w) (fun n => n) ((rdN 2 (rdN 8 (rdCodes (rdN 2 (b, false)).1 (rdN 2 (b, false)).2 []).2).2).1) ?_ ?_
   · have hn3 : (rdN 2 (rdN 8 (rdCodes (rdN 2 (b, false)).1 (rdN 2 (b, false)).2 []).2).2).1 < 65536 := rdN_lt
     have hsl : (rdN 2 (rdN 8 (rdCodes (rdN 2 (b, false)).1 (rdN 2 (b, false)).2 []).2).2).2.1.length ≤ 100000 := hx3l
     exact ⟨_, ab, cb, _, [], [], 0, pool, C, rfl, hsl, by omega, ⟨List.Perm.refl _, List.nodup_nil, fun x hx => (by cases hx)⟩, fun p hp => hp, mkE_of ⟨rfl, rfl, rfl, trivial⟩, h.to⟩
   clear h C
   rintro n env w ⟨j, ab, cb, s, D, kvs, ck, pool2, C, hX4, hsl, hnl, hok, hps, rfl, h⟩
   refine W.seq (W.seq (W.region (WL.val run_move rfl rfl ?_)))
   refine WL.dec (run_gtr rfl rfl) rfl rfl (fun c46 => ?_) (fun c46 => ?_)
   ·
    refine WL.val run_move rfl rfl (WL.val run_move rfl rfl (WL.val (run_nilCheck rfl) rfl rfl (WL.val (run_fieldAddr 1 underlying55 rfl sizeOf4 rfl rfl) rfl rfl (WL.val (run_load1 isAgg4 rfl (h.cellB rfl)) rfl rfl (WL.val (run_not rfl) rfl rfl (WL.val (run_pickT rfl) rfl rfl (WL.nil ?_)))))))
    refine W.condB rfl (fun c17 => ?_) (fun c17 => ?_)
    ·
     refine W.skip (W.seq ?_)
     have q0 := rdN_len (n := 8) (s := s)
     have q1 := rdN_len (n := 1) (s := (rdN 8 s).2)
     have q2 := rdN_len (n := 1) (s := (rdN 1 (rdN 8 s).2).2)
     have q3 := rdN_len (n := 2) (s := (rdN 1 (rdN 1 (rdN 8 s).2).2).2)
     have q4 := rdN_len (n := 4) (s := (rdN 2 (rdN 1 (rdN 1 (rdN 8 s).2).2).2).2)
     have q5 := rdP_len (s := (rdN 4 (rdN 2 (rdN 1 (rdN 1 (rdN 8 s).2).2).2).2).2)
     have l1 : (rdN 1 (rdN 8 s).2).1 < 256 := rdN_lt
     have l2 : (rdN 1 (rdN 1 (rdN 8 s).2).2).1 < 256 := rdN_lt
     have l3 : (rdN 2 (rdN 1 (rdN 1 (rdN 8 s).2).2).2).1 < 65536 := rdN_lt
     have l4 : (rdN 4 (rdN 2 (rdN 1 (rdN 1 (rdN 8 s).2).2).2).2).1 < 4294967296 := rdN_lt
     refine W.block (W.seq (W.region (WL.val run_move rfl rfl (WL.eff (eff_call call55 (rnum_ok (F := F) (n := 8) (s := s) (by decide) (by decide) (h.fetch (blk b12 [.slice ab s.1.length cb, .bool s.2] 55)) C)) rfl rfl ?_))))
     rintro _ w ⟨ab, cb, C, rfl, h⟩
     refine WL.val run_assign rfl rfl (WL.nil (W.seq (W.region (WL.val run_move rfl rfl (WL.eff (eff_call call55 (rnum_ok (F := F) (n := 1) (s := (rdN 8 s).2) (by decide) (by decide) (h.fetch (blk b12 [.slice ab (rdN 8 s).2.1.length cb, .bool (rdN 8 s).2.2] 55)) C)) rfl rfl ?_)))))
     rintro _ w ⟨ab, cb, C, rfl, h⟩
     refine WL.val (run_convInt64 underlying23 underlying3 rfl (by omega) (by omega)) rfl rfl (WL.val run_move rfl rfl (WL.eff (eff_call call55 (rnum_ok (F := F) (n := 1) (s := (rdN 1 (rdN 8 s).2).2) (by decide) (by decide) (h.fetch (blk b12 [.slice ab (rdN 1 (rdN 8 s).2).2.1.length cb, .bool (rdN 1 (rdN 8 s).2).2.2] 55)) C)) rfl rfl ?_))
     rintro _ w ⟨ab, cb, C, rfl, h⟩
     refine WL.val (run_convInt64 underlying23 underlying3 rfl (by omega) (by omega)) rfl rfl (WL.val (run_buildS (pl := [(0, 1), (1, 1), (2, 1), (3, 1), (4, 1)]) (out := [.int .i64 _, .int .i64 _, .int .i64 _, .slice _ _ _, .int .i64 _]) underlying36 zeroValue36 (fun w => by kernel_rfl) rfl (⟨⟨_, _, rfl, rfl, by decide⟩, ⟨⟨_, _, rfl, rfl, by decide⟩, trivial⟩⟩) rfl) rfl rfl (WL.eff (eff_alloc h zeroValue36 rfl) rfl rfl ?_))
     rintro _ w ⟨b9, rfl, h⟩
     refine WL.eff (eff_storeW (vs := [.int .i64 _, .int .i64 _, .int .i64 _, .slice _ _ _, .int .i64 _]) h sizeOf36 rfl rfl rfl rfl rfl) rfl rfl ?_
     rintro _ w h
     refine WL.nil (W.seq (W.region (WL.val run_move rfl rfl (WL.eff (eff_call call55 (rnum_ok (F := F) (n := 2) (s := (rdN 1 (rdN 1 (rdN 8 s).2).2).2) (by decide) (by decide) (h.fetch (blk b12 [.slice ab (rdN 1 (rdN 1 (rdN 8 s).2).2).2.1.length cb, .bool (rdN 1 (rdN 1 (rdN 8 s).2).2).2.2] 55)) C)) rfl rfl ?_))))
     rintro _ w ⟨ab, cb, C, rfl, h⟩
     refine WL.val (run_convInt64 underlying23 underlying3 rfl (by omega) (by omega)) rfl rfl (WL.val run_move rfl rfl (WL.eff (eff_call call55 (rnum_ok (F := F) (n := 4) (s := (rdN 2 (rdN 1 (rdN 1 (rdN 8 s).2).2).2).2) (by decide) (by decide) (h.fetch (blk b12 [.slice ab (rdN 2 (rdN 1 (rdN 1 (rdN 8 s).2).2).2).2.1.length cb, .bool (rdN 2 (rdN 1 (rdN 1 (rdN 8 s).2).2).2).2.2] 55)) C)) rfl rfl ?_))
     rintro _ w ⟨ab, cb, C, rfl, h⟩
     refine WL.val (run_convInt64 underlying23 underlying3 rfl (by omega) (by omega)) rfl rfl (WL.val (run_fieldAddr 2 underlying36 rfl sizeOf3 rfl rfl) rfl rfl (WL.eff (eff_store (v := .int .i64 _) h sizeOf3 rfl rfl rfl rfl rfl) rfl rfl ?_))
     rintro _ w h
     try simp only [Nat.zero_add, Nat.add_zero, List.set_cons_zero, List.set_cons_succ] at h
     refine WL.val (run_fieldAddr 4 underlying36 rfl sizeOf3 rfl rfl) rfl rfl (WL.eff (eff_store (v := .int .i64 _) h sizeOf3 rfl rfl rfl rfl rfl) rfl rfl ?_)
     rintro _ w h
     try simp only [Nat.zero_add, Nat.add_zero, List.set_cons_zero, List.set_cons_succ] at h
     refine WL.nil (W.seq (W.region (WL.val run_move rfl rfl (WL.eff (eff_call call20 (rprt_ok (F := F) (s := (rdN 4 (rdN 2 (rdN 1 (rdN 1 (rdN 8 s).2).2).2).2).2) (h.fetch (blk b12 [.slice ab (rdN 4 (rdN 2 (rdN 1 (rdN 1 (rdN 8 s).2).2).2).2).2.1.length cb, .bool (rdN 4 (rdN 2 (rdN 1 (rdN 1 (rdN 8 s).2).2).2).2).2.2] 55)) C)) rfl rfl ?_))))
     rintro _ w ⟨a1, c1, ab, cb, C1, C, rfl, h⟩
     refine WL.eff (eff_call call57 (clone_bytes (bs := (rdP (rdN 4 (rdN 2 (rdN 1 (rdN 1 (rdN 8 s).2).2).2).2).2).1) h (Gives.to C1) (by omega))) rfl rfl ?_
     rintro _ w ⟨a75, c75, rfl, h⟩
     refine WL.val (run_fieldAddr 3 underlying36 rfl sizeOf22 rfl rfl) rfl rfl (WL.eff (eff_store (v := .slice _ _ _) h sizeOf22 rfl rfl rfl rfl rfl) rfl rfl ?_)
     rintro _ w h
     try simp only [Nat.zero_add, Nat.add_zero, List.set_cons_zero, List.set_cons_succ] at h
     refine WL.nil ?_
     refine W.draw Tryz.follows h (fun w h => ?_)
     refine WT.pure 0 rfl (by kernel_rfl) (fun w' => run_move) rfl rfl (WT.pure 1 rfl (by kernel_rfl) (fun w' => (run_nilCheck rfl)) rfl rfl (WT.pure 2 rfl (by kernel_rfl) (fun w' => (run_fieldAddr 2 underlying65 rfl sizeOf63 rfl rfl)) rfl rfl (WT.load1 3 rfl (by kernel_rfl) isAgg63 rfl (h.cellB (ucell (bs := bs) (bt := bt) hg3 (k := 2) (x := .map (some mb)) (by decide) rfl)) rfl rfl (WT.pure 4 rfl (by kernel_rfl) (fun w' => run_move) rfl rfl (WT.loadN (vs := [.int .i64 _, .int .i64 _, .int .i64 _, .slice _ _ _, .int .i64 _]) 5 rfl (by kernel_rfl) isAgg36 sizeOf36 rfl rfl (h.rowV (n := 5) rfl) rfl rfl ?_)))))
     refine WT.eff 6 [false, false] rfl (by kernel_rfl) (by kernel_rfl) (eff_mapUpdate (k := ((rdN 8 s).1 : Int)) (v := (⟨((rdN 1 (rdN 8 s).2).1 : Int), ((rdN 1 (rdN 1 (rdN 8 s).2).2).1 : Int), ((rdN 2 (rdN 1 (rdN 1 (rdN 8 s).2).2).2).1 : Int), (rdP (rdN 4 (rdN 2 (rdN 1 (rdN 1 (rdN 8 s).2).2).2).2).2).1, ((rdN 4 (rdN 2 (rdN 1 (rdN 1 (rdN 8 s).2).2).2).2).1 : Int)⟩ : Rp).val (.slice a75 (rdP (rdN 4 (rdN 2 (rdN 1 (rdN 1 (rdN 8 s).2).2).2).2).2).1.length c75)) (h.fetch (MapC mb .u64 kvs ck)) underlying63 underlying23 rfl rfl rfl) rfl rfl ?_
     rintro _ w h
     have h := On.toPool ((h.fetch (Pool pool2)).fetch (OwnB (.slice a75 (rdP (rdN 4 (rdN 2 (rdN 1 (rdN 1 (rdN 8 s).2).2).2).2).2).1.length c75) (rdP (rdN 4 (rdN 2 (rdN 1 (rdN 1 (rdN 8 s).2).2).2).2).2).1))
     refine ⟨trivial, ?_⟩
     refine WT.done (by kernel_rfl) (W.region (WL.val run_move rfl rfl (WL.val (run_subK (k := .u64) (m := n) (n := 1) rfl rfl (by omega) (by show _ ≤ (18446744073709551615 : Int); omega)) rfl rfl (WL.val run_assign rfl rfl (WL.nil ?_)))))
     have ob_ : ∃ m, n = m + 1 := ⟨n - 1, by omega⟩
     obtain ⟨m, rfl⟩ := ob_
     have hs2 : s.2 = false := by simpa using c17
     have hXd := rdDone_step (m := m) (D := D) hs2
     rw [hXd] at hX4
     have hok2 := okD_set (id := ((rdN 8 s).1 : Int)) (r := (⟨((rdN 1 (rdN 8 s).2).1 : Int), ((rdN 1 (rdN 1 (rdN 8 s).2).2).1 : Int), ((rdN 2 (rdN 1 (rdN 1 (rdN 8 s).2).2).2).1 : Int), (rdP (rdN 4 (rdN 2 (rdN 1 (rdN 1 (rdN 8 s).2).2).2).2).2).1, ((rdN 4 (rdN 2 (rdN 1 (rdN 1 (rdN 8 s).2).2).2).2).1 : Int)⟩ : Rp)) (dv := (.slice a75 (rdP (rdN 4 (rdN 2 (rdN 1 (rdN 1 (rdN 8 s).2).2).2).2).2).1.length c75)) (ck := ck) (okD_more (p := ((.slice a75 (rdP (rdN 4 (rdN 2 (rdN 1 (rdN 1 (rdN 8 s).2).2).2).2).2).1.length c75), (rdP (rdN 4 (rdN 2 (rdN 1 (rdN 1 (rdN 8 s).2).2).2).2).2).1)) hok) (List.mem_cons_self ..)
     have hl6 : (rdP (rdN 4 (rdN 2 (rdN 1 (rdN 1 (rdN 8 s).2).2).2).2).2).2.1.length ≤ 100000 := by omega
     exact ⟨m, ⟨_, ab, cb, (rdP (rdN 4 (rdN 2 (rdN 1 (rdN 1 (rdN 8 s).2).2).2).2).2).2, putD D ((rdN 8 s).1 : Int) (⟨((rdN 1 (rdN 8 s).2).1 : Int), ((rdN 1 (rdN 1 (rdN 8 s).2).2).1 : Int), ((rdN 2 (rdN 1 (rdN 1 (rdN 8 s).2).2).2).1 : Int), (rdP (rdN 4 (rdN 2 (rdN 1 (rdN 1 (rdN 8 s).2).2).2).2).2).1, ((rdN 4 (rdN 2 (rdN 1 (rdN 1 (rdN 8 s).2).2).2).2).1 : Int)⟩ : Rp), putM kvs ((rdN 8 s).1 : Int) ((⟨((rdN 1 (rdN 8 s).2).1 : Int), ((rdN 1 (rdN 1 (rdN 8 s).2).2).1 : Int), ((rdN 2 (rdN 1 (rdN 1 (rdN 8 s).2).2).2).1 : Int), (rdP (rdN 4 (rdN 2 (rdN 1 (rdN 1 (rdN 8 s).2).2).2).2).2).1, ((rdN 4 (rdN 2 (rdN 1 (rdN 1 (rdN 8 s).2).2).2).2).1 : Int)⟩ : Rp).val (.slice a75 (rdP (rdN 4 (rdN 2 (rdN 1 (rdN 1 (rdN 8 s).2).2).2).2).2).1.length c75)) ck, clockM kvs ((rdN 8 s).1 : Int) ck, ((.slice a75 (rdP (rdN 4 (rdN 2 (rdN 1 (rdN 1 (rdN 8 s).2).2).2).2).2).1.length c75), (rdP (rdN 4 (rdN 2 (rdN 1 (rdN 1 (rdN 8 s).2).2).2).2).2).1) :: pool2, C, hX4, hl6, by omega, hok2, fun p hp => List.mem_cons_of_mem _ (hps p hp), mkE_of ⟨rfl, rfl, rfl, trivial⟩, h.to⟩, by show m < m + 1; omega⟩
    refine W.exit ?_
    have hs2 : s.2 = true := by simpa using c17
    rw [rdDone_bad hs2] at hX4
    exact ⟨_, ab, cb, s, D, kvs, ck, pool2, hX4, hok, hps, mkE_of ⟨rfl, trivial⟩, h.to⟩
   refine WL.val run_move rfl rfl (WL.skip rfl rfl (WL.skip rfl rfl (WL.skip rfl rfl (WL.skip rfl rfl (WL.skip rfl rfl (WL.val (run_pickF rfl) rfl rfl (WL.nil ?_)))))))
   refine W.condF rfl (W.exit ?_)
   have ob_ : n = 0 := by omega
   obtain rfl := ob_
   exact ⟨_, ab, cb, s, D, kvs, ck, pool2, hX4, hok, hps, mkE_of ⟨rfl, trivial⟩, h.to⟩
  clear h C
  rintro env w ⟨j, ab, cb, s, D, kvs, ck, pool2, hX4, hok, hps, rfl, h⟩
  have hD1 : D = (rdDone (rdN 2 (rdN 8 (rdCodes (rdN 2 (b, false)).1 (rdN 2 (b, false)).2 []).2).2).1 (rdN 2 (rdN 8 (rdCodes (rdN 2 (b, false)).1 (rdN 2 (b, false)).2 []).2).2).2 []).1 := congrArg Prod.fst hX4
  have hs1 : s = (rdDone (rdN 2 (rdN 8 (rdCodes (rdN 2 (b, false)).1 (rdN 2 (b, false)).2 []).2).2).1 (rdN 2 (rdN 8 (rdCodes (rdN 2 (b, false)).1 (rdN 2 (b, false)).2 []).2).2).2 []).2 := congrArg Prod.snd hX4
  subst hD1
  subst hs1
  refine W.seq (W.region (WL.val run_move rfl rfl (WL.val (run_nilCheck rfl) rfl rfl (WL.val (run_fieldAddr 1 underlying55 rfl sizeOf4 rfl rfl) rfl rfl (WL.val (run_load1 isAgg4 rfl (h.cellB rfl)) rfl rfl ?_)))))
  refine WL.boolB (run_not rfl) rfl rfl (fun c87 => ?_) (fun c87 => ?_)
  ·
   refine WL.val run_move rfl rfl (WL.val run_move rfl rfl (WL.val (run_nilCheck rfl) rfl rfl (WL.val (run_fieldAddr 0 underlying55 rfl sizeOf22 rfl rfl) rfl rfl (WL.val (run_load1 isAgg22 rfl (h.cellB rfl)) rfl rfl (WL.val (run_lenSlice underlying22 rfl) rfl rfl (WL.val (run_eql rfl rfl) rfl rfl (WL.val (run_pickT rfl) rfl rfl ?_)))))))
   refine WL.val run_assign rfl rfl (WL.nil (W.ret (bodyQ.r1 (v := .bool _) results23 rfl ?_)))
   rw [readG_eq]
   have er : (⟨⟨(rdCodes (rdN 2 (b, false)).1 (rdN 2 (b, false)).2 []).1, ((rdN 8 (rdCodes (rdN 2 (b, false)).1 (rdN 2 (b, false)).2 []).2).1 : Int), (rdDone (rdN 2 (rdN 8 (rdCodes (rdN 2 (b, false)).1 (rdN 2 (b, false)).2 []).2).2).1 (rdN 2 (rdN 8 (rdCodes (rdN 2 (b, false)).1 (rdN 2 (b, false)).2 []).2).2).2 []).1⟩, a, c, mb, ck, kvs⟩ : GX).row = (⟨⟨(rdCodes (rdN 2 (b, false)).1 (rdN 2 (b, false)).2 []).1, ((rdN 8 (rdCodes (rdN 2 (b, false)).1 (rdN 2 (b, false)).2 []).2).1 : Int), []⟩, a, c, mb, 0, []⟩ : GX).row := rfl
   have e1 := rows_same (gs := gs.set i (⟨⟨(rdCodes (rdN 2 (b, false)).1 (rdN 2 (b, false)).2 []).1, ((rdN 8 (rdCodes (rdN 2 (b, false)).1 (rdN 2 (b, false)).2 []).2).1 : Int), []⟩, a, c, mb, 0, []⟩ : GX)) (i := i) (g := (⟨⟨(rdCodes (rdN 2 (b, false)).1 (rdN 2 (b, false)).2 []).1, ((rdN 8 (rdCodes (rdN 2 (b, false)).1 (rdN 2 (b, false)).2 []).2).1 : Int), []⟩, a, c, mb, 0, []⟩ : GX)) (g' := (⟨⟨(rdCodes (rdN 2 (b, false)).1 (rdN 2 (b, false)).2 []).1, ((rdN 8 (rdCodes (rdN 2 (b, false)).1 (rdN 2 (b, false)).2 []).2).1 : Int), (rdDone (rdN 2 (rdN 8 (rdCodes (rdN 2 (b, false)).1 (rdN 2 (b, false)).2 []).2).2).1 (rdN 2 (rdN 8 (rdCodes (rdN 2 (b, false)).1 (rdN 2 (b, false)).2 []).2).2).2 []).1⟩, a, c, mb, ck, kvs⟩ : GX)) (List.getElem?_set_self hig : (gs.set i (⟨⟨(rdCodes (rdN 2 (b, false)).1 (rdN 2 (b, false)).2 []).1, ((rdN 8 (rdCodes (rdN 2 (b, false)).1 (rdN 2 (b, false)).2 []).2).1 : Int), []⟩, a, c, mb, 0, []⟩ : GX))[i]? = some (⟨⟨(rdCodes (rdN 2 (b, false)).1 (rdN 2 (b, false)).2 []).1, ((rdN 8 (rdCodes (rdN 2 (b, false)).1 (rdN 2 (b, false)).2 []).2).1 : Int), []⟩, a, c, mb, 0, []⟩ : GX)) er
   rw [List.set_set] at e1
   have e : ucells bs bt (gs.set i (⟨⟨(rdCodes (rdN 2 (b, false)).1 (rdN 2 (b, false)).2 []).1, ((rdN 8 (rdCodes (rdN 2 (b, false)).1 (rdN 2 (b, false)).2 []).2).1 : Int), []⟩, a, c, mb, 0, []⟩ : GX)) = ucells bs bt (gs.set i (⟨⟨(rdCodes (rdN 2 (b, false)).1 (rdN 2 (b, false)).2 []).1, ((rdN 8 (rdCodes (rdN 2 (b, false)).1 (rdN 2 (b, false)).2 []).2).1 : Int), (rdDone (rdN 2 (rdN 8 (rdCodes (rdN 2 (b, false)).1 (rdN 2 (b, false)).2 []).2).2).1 (rdN 2 (rdN 8 (rdCodes (rdN 2 (b, false)).1 (rdN 2 (b, false)).2 []).2).2).2 []).1⟩, a, c, mb, ck, kvs⟩ : GX)) := by show _ :: _ :: _ = _ :: _ :: (gs.set i (⟨⟨(rdCodes (rdN 2 (b, false)).1 (rdN 2 (b, false)).2 []).1, ((rdN 8 (rdCodes (rdN 2 (b, false)).1 (rdN 2 (b, false)).2 []).2).1 : Int), (rdDone (rdN 2 (rdN 8 (rdCodes (rdN 2 (b, false)).1 (rdN 2 (b, false)).2 []).2).2).1 (rdN 2 (rdN 8 (rdCodes (rdN 2 (b, false)).1 (rdN 2 (b, false)).2 []).2).2).2 []).1⟩, a, c, mb, ck, kvs⟩ : GX)).flatMap GX.row; rw [e1]
   have h := h.fetch (blk bu (ucells bs bt (gs.set i (⟨⟨(rdCodes (rdN 2 (b, false)).1 (rdN 2 (b, false)).2 []).1, ((rdN 8 (rdCodes (rdN 2 (b, false)).1 (rdN 2 (b, false)).2 []).2).1 : Int), []⟩, a, c, mb, 0, []⟩ : GX))) 68)
   rw [e] at h
   refine ⟨a, c, ck, kvs, pool2, hok, hps, congrArg Value.bool ?_, h.to⟩
   rw [c87]
   rw [Bool.true_and]
   exact decide_eq_decide.2 ⟨fun e0 => List.eq_nil_of_length_eq_zero (by omega), fun e0 => by rw [e0]; rfl⟩
  refine WL.val run_move rfl rfl (WL.skip rfl rfl (WL.skip rfl rfl (WL.skip rfl rfl (WL.skip rfl rfl (WL.skip rfl rfl (WL.skip rfl rfl (WL.val (run_pickF rfl) rfl rfl ?_)))))))
  refine WL.val run_assign rfl rfl (WL.nil (W.ret (bodyQ.r1 (v := .bool _) results23 rfl ?_)))
  rw [readG_eq]
  have er : (⟨⟨(rdCodes (rdN 2 (b, false)).1 (rdN 2 (b, false)).2 []).1, ((rdN 8 (rdCodes (rdN 2 (b, false)).1 (rdN 2 (b, false)).2 []).2).1 : Int), (rdDone (rdN 2 (rdN 8 (rdCodes (rdN 2 (b, false)).1 (rdN 2 (b, false)).2 []).2).2).1 (rdN 2 (rdN 8 (rdCodes (rdN 2 (b, false)).1 (rdN 2 (b, false)).2 []).2).2).2 []).1⟩, a, c, mb, ck, kvs⟩ : GX).row = (⟨⟨(rdCodes (rdN 2 (b, false)).1 (rdN 2 (b, false)).2 []).1, ((rdN 8 (rdCodes (rdN 2 (b, false)).1 (rdN 2 (b, false)).2 []).2).1 : Int), []⟩, a, c, mb, 0, []⟩ : GX).row := rfl
  have e1 := rows_same (gs := gs.set i (⟨⟨(rdCodes (rdN 2 (b, false)).1 (rdN 2 (b, false)).2 []).1, ((rdN 8 (rdCodes (rdN 2 (b, false)).1 (rdN 2 (b, false)).2 []).2).1 : Int), []⟩, a, c, mb, 0, []⟩ : GX)) (i := i) (g := (⟨⟨(rdCodes (rdN 2 (b, false)).1 (rdN 2 (b, false)).2 []).1, ((rdN 8 (rdCodes (rdN 2 (b, false)).1 (rdN 2 (b, false)).2 []).2).1 : Int), []⟩, a, c, mb, 0, []⟩ : GX)) (g' := (⟨⟨(rdCodes (rdN 2 (b, false)).1 (rdN 2 (b, false)).2 []).1, ((rdN 8 (rdCodes (rdN 2 (b, false)).1 (rdN 2 (b, false)).2 []).2).1 : Int), (rdDone (rdN 2 (rdN 8 (rdCodes (rdN 2 (b, false)).1 (rdN 2 (b, false)).2 []).2).2).1 (rdN 2 (rdN 8 (rdCodes (rdN 2 (b, false)).1 (rdN 2 (b, false)).2 []).2).2).2 []).1⟩, a, c, mb, ck, kvs⟩ : GX)) (List.getElem?_set_self hig : (gs.set i (⟨⟨(rdCodes (rdN 2 (b, false)).1 (rdN 2 (b, false)).2 []).1, ((rdN 8 (rdCodes (rdN 2 (b, false)).1 (rdN 2 (b, false)).2 []).2).1 : Int), []⟩, a, c, mb, 0, []⟩ : GX))[i]? = some (⟨⟨(rdCodes (rdN 2 (b, false)).1 (rdN 2 (b, false)).2 []).1, ((rdN 8 (rdCodes (rdN 2 (b, false)).1 (rdN 2 (b, false)).2 []).2).1 : Int), []⟩, a, c, mb, 0, []⟩ : GX)) er
  rw [List.set_set] at e1
  have e : ucells bs bt (gs.set i (⟨⟨(rdCodes (rdN 2 (b, false)).1 (rdN 2 (b, false)).2 []).1, ((rdN 8 (rdCodes (rdN 2 (b, false)).1 (rdN 2 (b, false)).2 []).2).1 : Int), []⟩, a, c, mb, 0, []⟩ : GX)) = ucells bs bt (gs.set i (⟨⟨(rdCodes (rdN 2 (b, false)).1 (rdN 2 (b, false)).2 []).1, ((rdN 8 (rdCodes (rdN 2 (b, false)).1 (rdN 2 (b, false)).2 []).2).1 : Int), (rdDone (rdN 2 (rdN 8 (rdCodes (rdN 2 (b, false)).1 (rdN 2 (b, false)).2 []).2).2).1 (rdN 2 (rdN 8 (rdCodes (rdN 2 (b, false)).1 (rdN 2 (b, false)).2 []).2).2).2 []).1⟩, a, c, mb, ck, kvs⟩ : GX)) := by show _ :: _ :: _ = _ :: _ :: (gs.set i (⟨⟨(rdCodes (rdN 2 (b, false)).1 (rdN 2 (b, false)).2 []).1, ((rdN 8 (rdCodes (rdN 2 (b, false)).1 (rdN 2 (b, false)).2 []).2).1 : Int), (rdDone (rdN 2 (rdN 8 (rdCodes (rdN 2 (b, false)).1 (rdN 2 (b, false)).2 []).2).2).1 (rdN 2 (rdN 8 (rdCodes (rdN 2 (b, false)).1 (rdN 2 (b, false)).2 []).2).2).2 []).1⟩, a, c, mb, ck, kvs⟩ : GX)).flatMap GX.row; rw [e1]
  have h := h.fetch (blk bu (ucells bs bt (gs.set i (⟨⟨(rdCodes (rdN 2 (b, false)).1 (rdN 2 (b, false)).2 []).1, ((rdN 8 (rdCodes (rdN 2 (b, false)).1 (rdN 2 (b, false)).2 []).2).1 : Int), []⟩, a, c, mb, 0, []⟩ : GX))) 68)
  rw [e] at h
  refine ⟨a, c, ck, kvs, pool2, hok, hps, congrArg Value.bool ?_, h.to⟩
  rw [c87]
  rfl
end Go.Proofs.YtjbgiingimhnnaaGreat
/-
  A unit: a table read: the contracts. Lines of walks printed by a program of the prover's.
-/
namespace Go.Proofs.YtjbgiingimhnnaaGreat
open Go.Proofs.Tryz
open Go Go.Sl Go.Sl.BitM Go.Sl.SpM Go.Sl.RsM Go.Sl.ByM Go.Sl.UnM
set_option linter.unusedVariables false
set_option linter.unusedSimpArgs false
set_option maxHeartbeats 1000000
set_option maxRecDepth 8000
variable {W0 w : World} {L F : List HProp}
theorem rdecode_ok [tF : To L F] {cb : Nat} {ab : Option Addr} {b : List UInt8} (hb : b.length ≤ 100000) (h : On W0 L w) (C : Gives F (Bytes (.slice ab b.length cb) b)) : Calls Tryz.prog 21 #[.slice ab b.length cb] w (Ret fun v w' => (∃ t bt, decT b = some t ∧ v = .tuple #[.pointer (some ⟨bt, 0, none⟩), .int .i64 0] ∧ On W0 (blk bt t.cells 113 :: L) w') ∨ (decT b = none ∧ v = .tuple #[.pointer none, .int .i64 2] ∧ On W0 L w')) := by
  refine enter func21 rfl ntmps21 rfl ?_
  have hmx := maxLen_eq
  refine W.seq (W.region (WL.val run_assign rfl rfl (WL.val run_assign rfl rfl (WL.nil (W.seq (W.seq (W.region ?_)))))))
  refine WL.val run_move rfl rfl (WL.val (run_lenSlice underlying22 rfl) rfl rfl (WL.val (run_neq rfl rfl) rfl rfl (WL.nil ?_)))
  refine W.condIf rfl (fun c2 => ?_) (fun c2 => ?_)
  ·
   refine W.seq (W.region (WL.val run_assign rfl rfl (WL.val run_assign rfl rfl (WL.nil (W.ret (bodyQ.r2 (v1 := .pointer _) (v2 := .int .i64 _) results21 rfl rfl ?_))))))
   exact .inr ⟨by unfold decT; rw [if_neg (fun hh => c2 (by omega))], rfl, h⟩
  refine W.skip (W.seq ?_)
  have hb70 : b.length = 70 := by omega
  have ob_ : ∃ x, b[68]? = some x := ⟨b[68]'(by omega), by simp⟩
  obtain ⟨x68, h68⟩ := ob_
  have ob_ : ∃ x, b[69]? = some x := ⟨b[69]'(by omega), by simp⟩
  obtain ⟨x69, h69⟩ := ob_
  have e68 : b.getD 68 0 = x68 := by rw [List.getD_eq_getElem?_getD, h68]; rfl
  have e69 : b.getD 69 0 = x69 := by rw [List.getD_eq_getElem?_getD, h69]; rfl
  have t68 := x68.toNat_lt
  have t69 := x69.toNat_lt
  have hgl := gen_lt b
  have ob_ := (h.readsTo C).addr (by omega)
  obtain ⟨ba, oa, haa⟩ := ob_
  subst haa
  refine W.region (WL.eff (eff_call call33 (rnew_ok h)) rfl rfl ?_)
  rintro _ w ⟨b4, rfl, h⟩
  refine WL.val run_assign rfl rfl (WL.nil (W.seq (W.region (WL.val run_move rfl rfl (WL.eff (eff_call call52 (bget_ok (at_ := ((0 : Nat) : Int)) (n := ((4 : Nat) : Int)) (bs := b) h (Gives.to C))) rfl rfl ?_)))))
  rintro _ w hg
  rcases hg with ⟨hok, rfl, h⟩ | ⟨hno, _, _⟩
  rotate_left
  · exact absurd (show _ by omega) hno
  refine WL.val run_move rfl rfl (WL.val (run_extract rfl rfl) rfl rfl (WL.val (run_extract rfl rfl) rfl rfl (WL.val run_assign rfl rfl (WL.val run_assign rfl rfl (WL.nil (W.seq (W.region ?_)))))))
  refine WL.val run_move rfl rfl (WL.val run_move rfl rfl (WL.val (run_convIn (n := ((beV (b.take 4) : Nat) : Int)) underlying23 underlying111 rfl (by show (0 : Int) ≤ _; omega) (by show _ ≤ (4294967295 : Int); omega)) rfl rfl (WL.val (run_nilCheck rfl) rfl rfl (WL.val (run_fieldAddr 10 underlying113 rfl sizeOf111 rfl rfl) rfl rfl (WL.eff (eff_store (v := .int .u32 ((beV (b.take 4) : Nat) : Int)) h sizeOf111 rfl rfl rfl rfl rfl) rfl rfl ?_)))))
  rintro _ w h
  have h : On W0 (blk b4 (tK b 0).cells 113 :: _) w := h
  refine WL.nil (W.seq (W.seq (W.region (WL.val run_move rfl rfl (WL.nil (W.block ?_))))))
  refine W.loop (fun (k : Nat) env w => k ≤ 8 ∧ ∃ j, env = mkE j [(0, .slice (some ⟨ba, oa, none⟩) b.length cb), (4, .pointer (some ⟨b4, 0, none⟩)), (23, .int .i64 (k : Int))] ∧ On W0 (blk b4 (tK b k).cells 113 :: L) w) (fun k => 8 - k) (0) ?_ ?_
  · exact ⟨Nat.zero_le _, _, mkE_of ⟨rfl, rfl, rfl, trivial⟩, h.to⟩
  rintro k env w ⟨hk8, j, rfl, h⟩
  refine W.seq (W.region (WL.val (run_lss rfl rfl) rfl rfl (WL.nil (W.seq ?_))))
  refine W.condIf rfl (fun c13 => ?_) (fun c13 => ?_)
  ·
   refine W.skip (W.seq ?_)
   have hk7 : k < 8 := by omega
   refine W.block (W.seq (W.region (WL.val run_move rfl rfl (WL.val run_assign rfl rfl (WL.nil ?_)))))
   refine W.draw Tryz.follows h (fun w h => ?_)
   refine WT.pure 0 rfl (by kernel_rfl) (fun w' => run_move) rfl rfl (WT.pure 1 rfl (by kernel_rfl) (fun w' => run_move) rfl rfl (WT.pure 2 rfl (by kernel_rfl) (fun w' => run_move) rfl rfl (WT.pure 3 rfl (by kernel_rfl) (fun w' => run_move) rfl rfl (WT.pure 4 rfl (by kernel_rfl) (fun w' => (run_mulN (m := 8) (n := k) rfl rfl (by omega))) rfl rfl (WT.pure 5 rfl (by kernel_rfl) (fun w' => (run_addN (m := 4) (n := 8 * k) rfl rfl (by omega))) rfl rfl (WT.pure 10 rfl (by kernel_rfl) (fun w' => (run_nilCheck rfl)) rfl rfl (WT.pure 11 rfl (by kernel_rfl) (fun w' => (run_fieldAddr 0 underlying113 rfl sizeOf85 rfl rfl)) rfl rfl ?_)))))))
   refine WT.eff 6 [] rfl (by kernel_rfl) (by kernel_rfl) (eff_call call52 (bget_ok (at_ := ((4 + 8 * k : Nat) : Int)) (n := ((8 : Nat) : Int)) (bs := b) h (Gives.to C))) rfl rfl ?_
   rintro _ w hg
   rcases hg with ⟨hok, rfl, h⟩ | ⟨hno, _, _⟩
   rotate_left
   · exact absurd (show _ by omega) hno
   refine ⟨trivial, ?_⟩
   refine WT.pure 7 rfl (by kernel_rfl) (fun w' => run_move) rfl rfl (WT.pure 8 rfl (by kernel_rfl) (fun w' => (run_extract rfl rfl)) rfl rfl (WT.pure 9 rfl (by kernel_rfl) (fun w' => (run_extract rfl rfl)) rfl rfl (WT.pure 12 rfl (by kernel_rfl) (fun w' => (run_indexAddrArr underlying85 sizeOf23 rfl rfl (by omega) (by omega))) rfl rfl (WT.eff 13 [] rfl (by kernel_rfl) (by kernel_rfl) (eff_store (v := .int .u64 (kAt b k)) h sizeOf23 rfl rfl rfl (cells_lt hk7) (free0 _)) rfl rfl ?_))))
   rintro _ w h
   rw [cells_set hk7, tK_put] at h
   refine ⟨trivial, ?_⟩
   refine WT.done (by kernel_rfl) (W.region (WL.val (run_incN rfl rfl (by omega)) rfl rfl (WL.val run_move rfl rfl (WL.nil ?_))))
   exact ⟨k + 1, ⟨by omega, _, mkE_of ⟨rfl, rfl, rfl, trivial⟩, h.to⟩, by show 8 - (k + 1) < 8 - k; omega⟩
  refine W.exit (W.seq (W.seq ?_))
  have ob_ : k = 8 := by omega
  obtain rfl := ob_
  refine W.region (WL.val run_move rfl rfl (WL.val run_move rfl rfl (WL.val (run_lenSlice underlying22 rfl) rfl rfl (WL.val (run_subNV (m := b.length) (n := 2) (r := 68) rfl rfl (by omega) (by omega) (by omega)) rfl rfl (WL.val (run_indexAddr underlying22 sizeOf5 rfl rfl (by omega) (by omega)) rfl rfl (WL.val (run_load1 isAgg5 rfl ((h.readsTo C).elem (i := 68) (vs := [.int .u8 (x68.toNat : Int)]) (by omega) (bytes_row h68) 0 _ rfl)) rfl rfl (WL.val (run_convInt64 underlying5 underlying3 rfl (by omega) (by omega)) rfl rfl ?_)))))))
  refine WL.val run_assign rfl rfl (WL.nil (W.seq (W.region (WL.val run_move rfl rfl ?_))))
  refine WL.dec (run_lss rfl rfl) rfl rfl (fun c48 => ?_) (fun c48 => ?_)
  ·
   refine WL.val run_move rfl rfl (WL.val run_move rfl rfl (WL.val run_move rfl rfl (WL.val (run_nilCheck rfl) rfl rfl (WL.val (run_fieldAddr 0 underlying113 rfl sizeOf85 rfl rfl) rfl rfl (WL.val (run_indexAddrArr underlying85 sizeOf23 rfl rfl (by omega) (by omega)) rfl rfl (WL.val (run_load1 isAgg23 rfl (h.cellB (cells_at (i := x68.toNat) (by omega)))) rfl rfl ?_))))))
   refine WL.dec (run_neq rfl rfl) rfl rfl (fun c56 => ?_) (fun c56 => ?_)
   ·
    refine WL.val (run_pickT rfl) rfl rfl (WL.val run_move rfl rfl (WL.val run_move rfl rfl (WL.val run_move rfl rfl (WL.val (run_lenSlice underlying22 rfl) rfl rfl (WL.val (run_subNV (m := b.length) (n := 1) (r := 69) rfl rfl (by omega) (by omega) (by omega)) rfl rfl (WL.val (run_indexAddr underlying22 sizeOf5 rfl rfl (by omega) (by omega)) rfl rfl (WL.val (run_load1 isAgg5 rfl ((h.readsTo C).elem (i := 69) (vs := [.int .u8 (x69.toNat : Int)]) (by omega) (bytes_row h69) 0 _ rfl)) rfl rfl ?_)))))))
    refine WL.val (run_convInt64 underlying5 underlying3 rfl (by omega) (by omega)) rfl rfl (WL.eff (eff_call call56 (typed_ok h)) rfl rfl ?_)
    rintro _ w ⟨hv, h⟩
    have hcs := Bool.eq_false_or_eq_true (typedB ((x69.toNat : Nat) : Int))
    rcases hcs with hty | hty <;> (rw [hty] at hv; subst hv)
    ·
     refine WL.val (run_pickT rfl) rfl rfl (WL.nil (W.condT rfl (W.region (WL.val run_move rfl rfl (WL.val run_move rfl rfl (WL.val run_move rfl rfl (WL.val run_move rfl rfl ?_)))))))
     refine WL.val run_move rfl rfl (WL.val (run_lenSlice underlying22 rfl) rfl rfl (WL.val (run_subNV (m := b.length) (n := 1) (r := 69) rfl rfl (by omega) (by omega) (by omega)) rfl rfl (WL.val (run_indexAddr underlying22 sizeOf5 rfl rfl (by omega) (by omega)) rfl rfl (WL.val (run_load1 isAgg5 rfl ((h.readsTo C).elem (i := 69) (vs := [.int .u8 (x69.toNat : Int)]) (by omega) (bytes_row h69) 0 _ rfl)) rfl rfl (WL.val (run_convInt64 underlying5 underlying3 rfl (by omega) (by omega)) rfl rfl (WL.val (run_nilCheck rfl) rfl rfl (WL.val (run_fieldAddr 8 underlying113 rfl sizeOf3 rfl rfl) rfl rfl ?_)))))))
     refine WL.eff (eff_store (v := .int .i64 _) h sizeOf3 rfl rfl rfl rfl rfl) rfl rfl ?_
     rintro _ w h
     try simp only [Nat.zero_add, Nat.add_zero, List.set_cons_zero, List.set_cons_succ] at h
     refine WL.val (run_nilCheck rfl) rfl rfl (WL.val (run_fieldAddr 9 underlying113 rfl sizeOf3 rfl rfl) rfl rfl (WL.eff (eff_store (v := .int .i64 _) h sizeOf3 rfl rfl rfl rfl rfl) rfl rfl ?_))
     rintro _ w h
     try simp only [Nat.zero_add, Nat.add_zero, List.set_cons_zero, List.set_cons_succ] at h
     refine WL.nil (W.seq (W.seq ?_))
     have hdec : decT0 b = (tK b 8).take ((x68.toNat : Nat) : Int) ((x69.toNat : Nat) : Int) := by unfold decT0; rw [e68, e69, if_pos ⟨by omega, c56, hty⟩]
     have h : On W0 (blk b4 ((tK b 8).take ((x68.toNat : Nat) : Int) ((x69.toNat : Nat) : Int)).cells 113 :: _) w := h
     rw [← hdec] at h
     refine W.region (WL.val run_move rfl rfl (WL.eff (eff_call call49 (rencode_ok (b := b4) (t := decT0 b) (decT0_ok b) (h.fetch (blk b4 (decT0 b).cells 113)))) rfl rfl ?_))
     rintro _ w ⟨a83, c83, rfl, h⟩
     refine WL.val run_move rfl rfl (WL.eff (eff_call call24 (bequal_ok (bs := encT (decT0 b)) (cs := b) h (Gives.ownO (v := .slice a83 (encT (decT0 b)).length c83)) (Gives.to C))) rfl rfl ?_)
     rintro _ w ⟨hv, h⟩
     have hcs := Bool.eq_false_or_eq_true (decide (encT (decT0 b) = b))
     rcases hcs with heq | heq <;> (rw [heq] at hv; subst hv)
     ·
      refine WL.val (run_not rfl) rfl rfl (WL.nil (W.condF rfl (W.skip (W.seq (W.region (WL.val run_move rfl rfl (WL.val run_assign rfl rfl ?_)))))))
      refine WL.val run_assign rfl rfl (WL.nil (W.ret (bodyQ.r2 (v1 := .pointer _) (v2 := .int .i64 _) results21 rfl rfl ?_)))
      have he := of_decide_eq_true heq
      exact .inl ⟨decT0 b, b4, by unfold decT; rw [if_pos ⟨hb70, he⟩], rfl, h.to⟩
     refine WL.val (run_not rfl) rfl rfl (WL.nil (W.condT rfl (W.seq (W.region (WL.val run_assign rfl rfl (WL.val run_assign rfl rfl (WL.nil ?_)))))))
     refine W.ret (bodyQ.r2 (v1 := .pointer _) (v2 := .int .i64 _) results21 rfl rfl ?_)
     have he := of_decide_eq_false heq
     exact .inr ⟨by unfold decT; rw [if_neg (fun hh => he hh.2)], rfl, h.to⟩
    refine WL.val (run_pickT rfl) rfl rfl (WL.nil (W.condF rfl (W.skip (W.seq (W.seq ?_)))))
    have hdec : decT0 b = tK b 8 := by unfold decT0; rw [e68, e69, if_neg (fun hh => by rw [hty] at hh; cases hh.2.2)]
    rw [← hdec] at h
    refine W.region (WL.val run_move rfl rfl (WL.eff (eff_call call49 (rencode_ok (b := b4) (t := decT0 b) (decT0_ok b) (h.fetch (blk b4 (decT0 b).cells 113)))) rfl rfl ?_))
    rintro _ w ⟨a83, c83, rfl, h⟩
    refine WL.val run_move rfl rfl (WL.eff (eff_call call24 (bequal_ok (bs := encT (decT0 b)) (cs := b) h (Gives.ownO (v := .slice a83 (encT (decT0 b)).length c83)) (Gives.to C))) rfl rfl ?_)
    rintro _ w ⟨hv, h⟩
    have hcs := Bool.eq_false_or_eq_true (decide (encT (decT0 b) = b))
    rcases hcs with heq | heq <;> (rw [heq] at hv; subst hv)
    ·
     refine WL.val (run_not rfl) rfl rfl (WL.nil (W.condF rfl (W.skip (W.seq (W.region (WL.val run_move rfl rfl (WL.val run_assign rfl rfl ?_)))))))
     refine WL.val run_assign rfl rfl (WL.nil (W.ret (bodyQ.r2 (v1 := .pointer _) (v2 := .int .i64 _) results21 rfl rfl ?_)))
     have he := of_decide_eq_true heq
     exact .inl ⟨decT0 b, b4, by unfold decT; rw [if_pos ⟨hb70, he⟩], rfl, h.to⟩
    refine WL.val (run_not rfl) rfl rfl (WL.nil (W.condT rfl (W.seq (W.region (WL.val run_assign rfl rfl (WL.val run_assign rfl rfl (WL.nil ?_)))))))
    refine W.ret (bodyQ.r2 (v1 := .pointer _) (v2 := .int .i64 _) results21 rfl rfl ?_)
    have he := of_decide_eq_false heq
    exact .inr ⟨by unfold decT; rw [if_neg (fun hh => he hh.2)], rfl, h.to⟩
   refine WL.val (run_pickT rfl) rfl rfl (WL.val run_move rfl rfl (WL.skip rfl rfl (WL.skip rfl rfl (WL.skip rfl rfl (WL.skip rfl rfl (WL.skip rfl rfl (WL.skip rfl rfl ?_)))))))
   refine WL.skip rfl rfl (WL.skip rfl rfl (WL.val (run_pickF rfl) rfl rfl (WL.nil (W.condF rfl (W.skip (W.seq (W.seq ?_)))))))
   have hdec : decT0 b = tK b 8 := by unfold decT0; rw [e68, e69, if_neg (fun hh => c56 hh.2.1)]
   rw [← hdec] at h
   refine W.region (WL.val run_move rfl rfl (WL.eff (eff_call call49 (rencode_ok (b := b4) (t := decT0 b) (decT0_ok b) (h.fetch (blk b4 (decT0 b).cells 113)))) rfl rfl ?_))
   rintro _ w ⟨a83, c83, rfl, h⟩
   refine WL.val run_move rfl rfl (WL.eff (eff_call call24 (bequal_ok (bs := encT (decT0 b)) (cs := b) h (Gives.ownO (v := .slice a83 (encT (decT0 b)).length c83)) (Gives.to C))) rfl rfl ?_)
   rintro _ w ⟨hv, h⟩
   have hcs := Bool.eq_false_or_eq_true (decide (encT (decT0 b) = b))
   rcases hcs with heq | heq <;> (rw [heq] at hv; subst hv)
   ·
    refine WL.val (run_not rfl) rfl rfl (WL.nil (W.condF rfl (W.skip (W.seq (W.region (WL.val run_move rfl rfl (WL.val run_assign rfl rfl ?_)))))))
    refine WL.val run_assign rfl rfl (WL.nil (W.ret (bodyQ.r2 (v1 := .pointer _) (v2 := .int .i64 _) results21 rfl rfl ?_)))
    have he := of_decide_eq_true heq
    exact .inl ⟨decT0 b, b4, by unfold decT; rw [if_pos ⟨hb70, he⟩], rfl, h.to⟩
   refine WL.val (run_not rfl) rfl rfl (WL.nil (W.condT rfl (W.seq (W.region (WL.val run_assign rfl rfl (WL.val run_assign rfl rfl (WL.nil ?_)))))))
   refine W.ret (bodyQ.r2 (v1 := .pointer _) (v2 := .int .i64 _) results21 rfl rfl ?_)
   have he := of_decide_eq_false heq
   exact .inr ⟨by unfold decT; rw [if_neg (fun hh => he hh.2)], rfl, h.to⟩
  refine WL.val run_move rfl rfl (WL.skip rfl rfl (WL.skip rfl rfl (WL.skip rfl rfl (WL.skip rfl rfl (WL.skip rfl rfl (WL.skip rfl rfl (WL.skip rfl rfl ?_)))))))
  refine WL.val (run_pickF rfl) rfl rfl (WL.val run_move rfl rfl (WL.skip rfl rfl (WL.skip rfl rfl (WL.skip rfl rfl (WL.skip rfl rfl (WL.skip rfl rfl (WL.skip rfl rfl ?_)))))))
  refine WL.skip rfl rfl (WL.skip rfl rfl (WL.val (run_pickF rfl) rfl rfl (WL.nil (W.condF rfl (W.skip (W.seq (W.seq ?_)))))))
  have hdec : decT0 b = tK b 8 := by unfold decT0; rw [e68, e69, if_neg (fun hh => c48 (by omega))]
  rw [← hdec] at h
  refine W.region (WL.val run_move rfl rfl (WL.eff (eff_call call49 (rencode_ok (b := b4) (t := decT0 b) (decT0_ok b) (h.fetch (blk b4 (decT0 b).cells 113)))) rfl rfl ?_))
  rintro _ w ⟨a83, c83, rfl, h⟩
  refine WL.val run_move rfl rfl (WL.eff (eff_call call24 (bequal_ok (bs := encT (decT0 b)) (cs := b) h (Gives.ownO (v := .slice a83 (encT (decT0 b)).length c83)) (Gives.to C))) rfl rfl ?_)
  rintro _ w ⟨hv, h⟩
  have hcs := Bool.eq_false_or_eq_true (decide (encT (decT0 b) = b))
  rcases hcs with heq | heq <;> (rw [heq] at hv; subst hv)
  ·
   refine WL.val (run_not rfl) rfl rfl (WL.nil (W.condF rfl (W.skip (W.seq (W.region (WL.val run_move rfl rfl (WL.val run_assign rfl rfl ?_)))))))
   refine WL.val run_assign rfl rfl (WL.nil (W.ret (bodyQ.r2 (v1 := .pointer _) (v2 := .int .i64 _) results21 rfl rfl ?_)))
   have he := of_decide_eq_true heq
   exact .inl ⟨decT0 b, b4, by unfold decT; rw [if_pos ⟨hb70, he⟩], rfl, h.to⟩
  refine WL.val (run_not rfl) rfl rfl (WL.nil (W.condT rfl (W.seq (W.region (WL.val run_assign rfl rfl (WL.val run_assign rfl rfl (WL.nil ?_)))))))
  refine W.ret (bodyQ.r2 (v1 := .pointer _) (v2 := .int .i64 _) results21 rfl rfl ?_)
  have he := of_decide_eq_false heq
  exact .inr ⟨by unfold decT; rw [if_neg (fun hh => he hh.2)], rfl, h.to⟩
end Go.Proofs.YtjbgiingimhnnaaGreat
