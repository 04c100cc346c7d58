/-
  A unit: commands of all kinds: the contracts. Lines of walks printed by a program of the prover's.
-/
import Derived.Test.YtdpakoefdpmebaaGreatAct0
namespace Go.Proofs.YtdpakoefdpmebaaGreat
open Go Go.Sl Go.Sl.BitM Go.Sl.SpM Go.Sl.RsM Go.Sl.ByM Go.Sl.UnM
set_option linter.unusedVariables false
set_option linter.unusedSimpArgs false
set_option maxHeartbeats 1000000
set_option maxRecDepth 8000
variable {W0 w : World} {L F : List HProp}

theorem ukey_ok {b : Nat} {t : Tb} {hh : Int} (h : On W0 (blk b t.cells 152 :: L) w) : Calls Tryz.prog 104 #[.pointer (some ⟨b, 0, none⟩), .int .i64 hh] w (Ret fun v w' => v = .int .u64 (if hostB hh = true then t.K hh.toNat else 0) ∧ On W0 (blk b t.cells 152 :: L) w') := by
  refine enter Tryz.func104 rfl Tryz.ntmps104 rfl (W.seq (W.region (WL.val run_assign rfl rfl (WL.nil (W.seq (W.seq (W.region ?_)))))))
  refine WL.val run_move rfl rfl (WL.eff (eff_call Tryz.call89 (host_ok h)) rfl rfl ?_)
  rintro _ w ⟨hv, h⟩
  have hcs := Bool.eq_false_or_eq_true (hostB hh)
  rcases hcs with hb | hb <;> (rw [hb] at hv; subst hv)
  ·
   refine WL.val (run_not rfl) rfl rfl (WL.nil (W.condF rfl (W.skip (W.seq ?_))))
   have ob_ := hostB_iff.1 hb
   obtain ⟨hi0, hi8⟩ := ob_
   have ob_ := Int.eq_ofNat_of_zero_le hi0
   obtain ⟨i, rfl⟩ := ob_
   have hi : i < 8 := by omega
   refine W.region (WL.val run_move rfl rfl (WL.val run_move rfl rfl (WL.val (run_nilCheck rfl) rfl rfl (WL.val (run_fieldAddr 0 Tryz.underlying152 rfl Tryz.sizeOf102 rfl rfl) rfl rfl (WL.val (run_indexAddrArr Tryz.underlying102 Tryz.sizeOf23 rfl rfl (by omega) (by omega)) rfl rfl (WL.val (run_load1 Tryz.isAgg23 rfl (h.cellB (cells_at hi))) rfl rfl (WL.val run_assign rfl rfl ?_)))))))
   refine WL.nil (W.ret (bodyQ.r1 (v := .int .u64 _) Tryz.results104 rfl ?_))
   exact ⟨by rw [if_pos hb]; rfl, h⟩
  refine WL.val (run_not rfl) rfl rfl (WL.nil (W.condT rfl (W.seq (W.region (WL.val run_assign rfl rfl (WL.nil (W.ret ?_)))))))
  refine bodyQ.r1 (v := .int .u64 _) Tryz.results104 rfl ?_
  exact ⟨by rw [hb]; rfl, h⟩

theorem uact_ok {bu i : Nat} {u : Un} {pool : PoolL} {ms : List Nat} {kind at_ n key new typ : Int} {force : Bool} {data : List UInt8} {ax : Option Addr} {cx : Nat} (hi : i < 8) (hk1 : 1 ≤ kind) (hk : kind ≤ 18) (hk9 : kind ≠ 9) (hsm : small 999000 u) (hgu_ : goodU u) (hcm : okCm (⟨kind, at_, n, data, key, new, typ, force⟩ : Cm)) (h : On W0 (UnP 84 146 152 bu pool ms u :: L) w) (C : Gives L (Bytes (.slice ax data.length cx) data)) (hd : data.length ≤ 1000000) : Calls Tryz.prog 41 #[.pointer (some ⟨bu, 0, none⟩), .int .i64 (i : Int), (⟨kind, at_, n, data, key, new, typ, force⟩ : Cm).val (.slice ax data.length cx)] w (Ret fun v w' => ∃ u' r dv, actM u i (⟨kind, at_, n, data, key, new, typ, force⟩ : Cm) = (u', r) ∧ v = r.val dv ∧ On W0 (OwnB dv r.data :: UnP 84 146 152 bu pool ms u' :: L) w') := by
  refine enter Tryz.func41 rfl Tryz.ntmps41 rfl ?_
  have hul := On.unLen h
  obtain ⟨hl8, hwf⟩ := hul
  have hgt := hgu_.1
  have hgok := hgt.1
  have egen : u.t.gen = ((u.t.gen.toNat : Nat) : Int) := by have := hgok.2; omega
  have hsm1 := small_le hsm (show 999000 ≤ 1000000 by decide)
  refine W.seq (W.region (WL.eff (eff_box (v := .agg _) (l := (⟨kind, at_, n, data, key, new, typ, force⟩ : Cm).cells (.slice ax data.length cx)) h rfl rfl) rfl rfl ?_))
  rintro _ w ⟨b5, rfl, h⟩
  have h : On W0 (blk b5 [.int .i64 kind, .int .i64 at_, .int .i64 n, .slice ax data.length cx, .int .u64 key, .int .u64 new, .int .i64 typ, .bool force] 25 :: _) w := h
  refine WL.eff (eff_alloc h Tryz.zeroValue36 rfl) rfl rfl ?_
  rintro _ w ⟨b6, rfl, h⟩
  refine WL.nil (W.seq (W.seq (W.region (WL.val (run_fieldAddr 0 Tryz.underlying25 rfl Tryz.sizeOf3 rfl rfl) rfl rfl (WL.val (run_load1 Tryz.isAgg3 rfl (h.cellB rfl)) rfl rfl (WL.nil (W.block ?_)))))))
  refine W.seq (W.block (W.seq (W.block (W.seq (W.block (W.seq (W.block ?_)))))))
  refine W.seq (W.block (W.seq (W.block (W.seq (W.block (W.block (W.seq ?_)))))))
  refine W.block (W.seq (W.block (W.seq (W.block (W.seq (W.block (W.seq ?_)))))))
  refine W.seq (W.seq (W.region (WL.val (run_eql rfl rfl) rfl rfl (WL.val run_assign rfl rfl (WL.nil ?_)))))
  refine W.condIf rfl (fun c16 => ?_) (fun c16 => ?_)
  ·
   refine W.exit (W.seq (W.seq (W.region (WL.val (run_buildS (pl := [(0, 1), (1, 1), (2, 1), (3, 1), (4, 1)]) (out := [.int .i64 _, .int .i64 _, .int .i64 _, .slice _ _ _, .int .i64 _]) Tryz.underlying36 Tryz.zeroValue36 (fun w => by kernel_rfl) rfl (trivial) rfl) rfl rfl (WL.eff (eff_storeW (vs := [.int .i64 _, .int .i64 _, .int .i64 _, .slice _ _ _, .int .i64 _]) h Tryz.sizeOf36 rfl rfl rfl rfl rfl) rfl rfl ?_)))))
   rintro _ w h
   refine WL.nil (W.ret (bodyQ.rcB (vs := [.int .i64 _, .int .i64 _, .int .i64 _, .slice _ _ _, .int .i64 _]) h Tryz.results41 Tryz.isAgg36 Tryz.sizeOf36 rfl rfl rfl ?_))
   have h : On W0 (OwnB (.slice none 0 0) (plain 0 0 0 : Rp).data :: _) w := h.ownEmpty 1 none
   exact ⟨u, plain 0 0 0, .slice none 0 0, (by unfold actM; rw [if_pos c16]), rfl, h.to⟩
  refine W.skip (W.seq (W.seq (W.region (WL.val (run_eql rfl rfl) rfl rfl (WL.val run_assign rfl rfl (WL.nil ?_))))))
  refine W.condIf rfl (fun c20 => ?_) (fun c20 => ?_)
  ·
   refine W.exit (W.seq (W.seq (W.region (WL.eff (eff_call Tryz.call90 (inquiry_ok h)) rfl rfl ?_))))
   rintro _ w ⟨a41, rfl, h⟩
   refine WL.eff (eff_call Tryz.call38 (sgood_ok (bs := inqB) h (Gives.ownO (v := .slice a41 inqB.length inqB.length)) (by decide))) rfl rfl ?_
   rintro _ w ⟨a42, rfl, h⟩
   refine WL.eff (eff_storeW (vs := [.int .i64 _, .int .i64 _, .int .i64 _, .slice _ _ _, .int .i64 _]) h Tryz.sizeOf36 rfl rfl rfl rfl rfl) rfl rfl ?_
   rintro _ w h
   refine WL.nil (W.ret (bodyQ.rcB (vs := [.int .i64 _, .int .i64 _, .int .i64 _, .slice _ _ _, .int .i64 _]) h Tryz.results41 Tryz.isAgg36 Tryz.sizeOf36 rfl rfl rfl ?_))
   have h : On W0 (OwnB (.slice a42 (inqB).length (inqB).length) (gave (inqB)).data :: _) w := h.fetch (OwnB (.slice a42 (inqB).length (inqB).length) (inqB))
   exact ⟨u, gave (inqB), .slice a42 (inqB).length (inqB).length, (by unfold actM; rw [if_neg c16, if_pos c20]), rfl, h.to⟩
  refine W.skip (W.seq (W.seq (W.region (WL.val (run_eql rfl rfl) rfl rfl (WL.val run_assign rfl rfl (WL.nil ?_))))))
  refine W.condIf rfl (fun c24 => ?_) (fun c24 => ?_)
  ·
   refine W.exit (W.seq (W.seq (W.region (WL.val run_move rfl rfl (WL.eff (eff_call Tryz.call14 (ublocks_ok (h.fetch (UnP 84 146 152 bu pool ms u)))) rfl rfl ?_)))))
   rintro _ w ⟨rfl, h⟩
   refine WL.eff (eff_call Tryz.call91 (capacity_ok (n := u.s.N) hwf.2.1 hwf.2.2.1 h)) rfl rfl ?_
   rintro _ w ⟨a45, rfl, h⟩
   refine WL.eff (eff_call Tryz.call38 (sgood_ok (bs := capB u.s.N) h (Gives.ownO (v := .slice a45 (capB u.s.N).length (capB u.s.N).length)) (by unfold capB; rw [List.length_append, be_length, be_length]; decide))) rfl rfl ?_
   rintro _ w ⟨a46, rfl, h⟩
   refine WL.eff (eff_storeW (vs := [.int .i64 _, .int .i64 _, .int .i64 _, .slice _ _ _, .int .i64 _]) h Tryz.sizeOf36 rfl rfl rfl rfl rfl) rfl rfl ?_
   rintro _ w h
   refine WL.nil (W.ret (bodyQ.rcB (vs := [.int .i64 _, .int .i64 _, .int .i64 _, .slice _ _ _, .int .i64 _]) h Tryz.results41 Tryz.isAgg36 Tryz.sizeOf36 rfl rfl rfl ?_))
   have h : On W0 (OwnB (.slice a46 ((capB u.s.N)).length ((capB u.s.N)).length) (gave ((capB u.s.N))).data :: _) w := h.fetch (OwnB (.slice a46 ((capB u.s.N)).length ((capB u.s.N)).length) ((capB u.s.N)))
   exact ⟨u, gave ((capB u.s.N)), .slice a46 ((capB u.s.N)).length ((capB u.s.N)).length, (by unfold actM; rw [if_neg c16, if_neg c20, if_pos c24]), rfl, h.to⟩
  refine W.skip (W.seq (W.seq (W.seq (W.region (WL.val (run_eql rfl rfl) rfl rfl (WL.val run_assign rfl rfl (WL.nil ?_)))))))
  refine W.condIf rfl (fun c28 => ?_) (fun c28 => ?_)
  ·
   refine W.skip ?_
   refine W.condIf rfl (fun c40 => ?_) (fun c40 => ?_)
   ·
    refine W.exit (W.seq (W.seq (W.region (WL.val run_move rfl rfl (WL.val (run_loadB (vs := [.int .i64 _, .int .i64 _, .int .i64 _, .slice _ _ _, .int .u64 _, .int .u64 _, .int .i64 _, .bool _]) h Tryz.isAgg25 Tryz.sizeOf25 rfl rfl rfl) rfl rfl (WL.eff (eff_call Tryz.call92 (urun_ok (u := u) (h.fetch (UnP 84 146 152 bu pool ms u)) (Gives.to C) hd)) rfl rfl ?_))))))
    rintro _ w ⟨s', r', dv', heq, rfl, h⟩
    have of_ := Own.form h
    obtain ⟨ad, cd, hdv, _⟩ := of_
    subst hdv
    refine WL.eff (eff_storeW (vs := [.int .i64 _, .int .i64 _, .int .i64 _, .slice _ _ _, .int .i64 _]) h Tryz.sizeOf36 rfl rfl rfl rfl rfl) rfl rfl ?_
    rintro _ w h
    refine WL.nil (W.ret (bodyQ.rcB (vs := [.int .i64 _, .int .i64 _, .int .i64 _, .slice _ _ _, .int .i64 _]) h Tryz.results41 Tryz.isAgg36 Tryz.sizeOf36 rfl rfl rfl ?_))
    have he : actM u i (⟨kind, at_, n, data, key, new, typ, force⟩ : Cm) = (u.setS s', r') := by rw [actM_run (by show 2 ≤ kind; omega) (by show kind ≤ 6; omega), heq]
    exact ⟨u.setS s', r', _, he, rfl, h.to⟩
   exact absurd c40 (not_not_intro (by omega))
  refine W.seq (W.region (WL.val (run_eql rfl rfl) rfl rfl (WL.val run_assign rfl rfl (WL.nil ?_))))
  refine W.condIf rfl (fun c31 => ?_) (fun c31 => ?_)
  ·
   refine W.skip ?_
   refine W.condIf rfl (fun c40 => ?_) (fun c40 => ?_)
   ·
    refine W.exit (W.seq (W.seq (W.region (WL.val run_move rfl rfl (WL.val (run_loadB (vs := [.int .i64 _, .int .i64 _, .int .i64 _, .slice _ _ _, .int .u64 _, .int .u64 _, .int .i64 _, .bool _]) h Tryz.isAgg25 Tryz.sizeOf25 rfl rfl rfl) rfl rfl (WL.eff (eff_call Tryz.call92 (urun_ok (u := u) (h.fetch (UnP 84 146 152 bu pool ms u)) (Gives.to C) hd)) rfl rfl ?_))))))
    rintro _ w ⟨s', r', dv', heq, rfl, h⟩
    have of_ := Own.form h
    obtain ⟨ad, cd, hdv, _⟩ := of_
    subst hdv
    refine WL.eff (eff_storeW (vs := [.int .i64 _, .int .i64 _, .int .i64 _, .slice _ _ _, .int .i64 _]) h Tryz.sizeOf36 rfl rfl rfl rfl rfl) rfl rfl ?_
    rintro _ w h
    refine WL.nil (W.ret (bodyQ.rcB (vs := [.int .i64 _, .int .i64 _, .int .i64 _, .slice _ _ _, .int .i64 _]) h Tryz.results41 Tryz.isAgg36 Tryz.sizeOf36 rfl rfl rfl ?_))
    have he : actM u i (⟨kind, at_, n, data, key, new, typ, force⟩ : Cm) = (u.setS s', r') := by rw [actM_run (by show 2 ≤ kind; omega) (by show kind ≤ 6; omega), heq]
    exact ⟨u.setS s', r', _, he, rfl, h.to⟩
   exact absurd c40 (not_not_intro (by omega))
  refine W.seq (W.region (WL.val (run_eql rfl rfl) rfl rfl (WL.val run_assign rfl rfl (WL.nil ?_))))
  refine W.condIf rfl (fun c34 => ?_) (fun c34 => ?_)
  ·
   refine W.skip ?_
   refine W.condIf rfl (fun c40 => ?_) (fun c40 => ?_)
   ·
    refine W.exit (W.seq (W.seq (W.region (WL.val run_move rfl rfl (WL.val (run_loadB (vs := [.int .i64 _, .int .i64 _, .int .i64 _, .slice _ _ _, .int .u64 _, .int .u64 _, .int .i64 _, .bool _]) h Tryz.isAgg25 Tryz.sizeOf25 rfl rfl rfl) rfl rfl (WL.eff (eff_call Tryz.call92 (urun_ok (u := u) (h.fetch (UnP 84 146 152 bu pool ms u)) (Gives.to C) hd)) rfl rfl ?_))))))
    rintro _ w ⟨s', r', dv', heq, rfl, h⟩
    have of_ := Own.form h
    obtain ⟨ad, cd, hdv, _⟩ := of_
    subst hdv
    refine WL.eff (eff_storeW (vs := [.int .i64 _, .int .i64 _, .int .i64 _, .slice _ _ _, .int .i64 _]) h Tryz.sizeOf36 rfl rfl rfl rfl rfl) rfl rfl ?_
    rintro _ w h
    refine WL.nil (W.ret (bodyQ.rcB (vs := [.int .i64 _, .int .i64 _, .int .i64 _, .slice _ _ _, .int .i64 _]) h Tryz.results41 Tryz.isAgg36 Tryz.sizeOf36 rfl rfl rfl ?_))
    have he : actM u i (⟨kind, at_, n, data, key, new, typ, force⟩ : Cm) = (u.setS s', r') := by rw [actM_run (by show 2 ≤ kind; omega) (by show kind ≤ 6; omega), heq]
    exact ⟨u.setS s', r', _, he, rfl, h.to⟩
   exact absurd c40 (not_not_intro (by omega))
  refine W.seq (W.region (WL.val (run_eql rfl rfl) rfl rfl (WL.val run_assign rfl rfl (WL.nil ?_))))
  refine W.condIf rfl (fun c37 => ?_) (fun c37 => ?_)
  ·
   refine W.skip ?_
   refine W.condIf rfl (fun c40 => ?_) (fun c40 => ?_)
   ·
    refine W.exit (W.seq (W.seq (W.region (WL.val run_move rfl rfl (WL.val (run_loadB (vs := [.int .i64 _, .int .i64 _, .int .i64 _, .slice _ _ _, .int .u64 _, .int .u64 _, .int .i64 _, .bool _]) h Tryz.isAgg25 Tryz.sizeOf25 rfl rfl rfl) rfl rfl (WL.eff (eff_call Tryz.call92 (urun_ok (u := u) (h.fetch (UnP 84 146 152 bu pool ms u)) (Gives.to C) hd)) rfl rfl ?_))))))
    rintro _ w ⟨s', r', dv', heq, rfl, h⟩
    have of_ := Own.form h
    obtain ⟨ad, cd, hdv, _⟩ := of_
    subst hdv
    refine WL.eff (eff_storeW (vs := [.int .i64 _, .int .i64 _, .int .i64 _, .slice _ _ _, .int .i64 _]) h Tryz.sizeOf36 rfl rfl rfl rfl rfl) rfl rfl ?_
    rintro _ w h
    refine WL.nil (W.ret (bodyQ.rcB (vs := [.int .i64 _, .int .i64 _, .int .i64 _, .slice _ _ _, .int .i64 _]) h Tryz.results41 Tryz.isAgg36 Tryz.sizeOf36 rfl rfl rfl ?_))
    have he : actM u i (⟨kind, at_, n, data, key, new, typ, force⟩ : Cm) = (u.setS s', r') := by rw [actM_run (by show 2 ≤ kind; omega) (by show kind ≤ 6; omega), heq]
    exact ⟨u.setS s', r', _, he, rfl, h.to⟩
   exact absurd c40 (not_not_intro (by omega))
  refine W.region (WL.val (run_eql rfl rfl) rfl rfl (WL.val run_assign rfl rfl (WL.nil ?_)))
  refine W.condIf rfl (fun c40 => ?_) (fun c40 => ?_)
  ·
   refine W.exit (W.seq (W.seq (W.region (WL.val run_move rfl rfl (WL.val (run_loadB (vs := [.int .i64 _, .int .i64 _, .int .i64 _, .slice _ _ _, .int .u64 _, .int .u64 _, .int .i64 _, .bool _]) h Tryz.isAgg25 Tryz.sizeOf25 rfl rfl rfl) rfl rfl (WL.eff (eff_call Tryz.call92 (urun_ok (u := u) (h.fetch (UnP 84 146 152 bu pool ms u)) (Gives.to C) hd)) rfl rfl ?_))))))
   rintro _ w ⟨s', r', dv', heq, rfl, h⟩
   have of_ := Own.form h
   obtain ⟨ad, cd, hdv, _⟩ := of_
   subst hdv
   refine WL.eff (eff_storeW (vs := [.int .i64 _, .int .i64 _, .int .i64 _, .slice _ _ _, .int .i64 _]) h Tryz.sizeOf36 rfl rfl rfl rfl rfl) rfl rfl ?_
   rintro _ w h
   refine WL.nil (W.ret (bodyQ.rcB (vs := [.int .i64 _, .int .i64 _, .int .i64 _, .slice _ _ _, .int .i64 _]) h Tryz.results41 Tryz.isAgg36 Tryz.sizeOf36 rfl rfl rfl ?_))
   have he : actM u i (⟨kind, at_, n, data, key, new, typ, force⟩ : Cm) = (u.setS s', r') := by rw [actM_run (by show 2 ≤ kind; omega) (by show kind ≤ 6; omega), heq]
   exact ⟨u.setS s', r', _, he, rfl, h.to⟩
  refine W.skip (W.seq (W.seq (W.region (WL.val (run_eql rfl rfl) rfl rfl (WL.val run_assign rfl rfl (WL.nil ?_))))))
  refine W.condIf rfl (fun c44 => ?_) (fun c44 => ?_)
  ·
   refine W.exit (W.seq (W.seq ?_))
   have ob_ := openU (h.fetch (UnP 84 146 152 bu pool ms u))
   obtain ⟨bs, bt, gs, hm, hl, h⟩ := ob_
   refine W.draw Tryz.follows h (fun w h => ?_)
   refine WT.pure 0 rfl (by kernel_rfl) (fun w' => run_move) rfl rfl (WT.pure 1 rfl (by kernel_rfl) (fun w' => run_move) rfl rfl (WT.pure 2 rfl (by kernel_rfl) (fun w' => (run_nilCheck rfl)) rfl rfl (WT.pure 3 rfl (by kernel_rfl) (fun w' => (run_fieldAddr 1 Tryz.underlying84 rfl Tryz.sizeOf76 rfl rfl)) rfl rfl (WT.load1 4 rfl (by kernel_rfl) Tryz.isAgg76 rfl (h.cellB rfl) rfl rfl (WT.pure 5 rfl (by kernel_rfl) (fun w' => run_move) rfl rfl (WT.pure 6 rfl (by kernel_rfl) (fun w' => (run_fieldAddr 4 Tryz.underlying25 rfl Tryz.sizeOf23 rfl rfl)) rfl rfl (WT.load1 7 rfl (by kernel_rfl) Tryz.isAgg23 rfl (h.cellB rfl) rfl rfl ?_)))))))
   refine WT.pure 8 rfl (by kernel_rfl) (fun w' => (run_fieldAddr 5 Tryz.underlying25 rfl Tryz.sizeOf23 rfl rfl)) rfl rfl (WT.load1 9 rfl (by kernel_rfl) Tryz.isAgg23 rfl (h.cellB rfl) rfl rfl (WT.pure 10 rfl (by kernel_rfl) (fun w' => (run_fieldAddr 0 Tryz.underlying25 rfl Tryz.sizeOf3 rfl rfl)) rfl rfl (WT.load1 11 rfl (by kernel_rfl) Tryz.isAgg3 rfl (h.cellB rfl) rfl rfl (WT.pure 12 rfl (by kernel_rfl) (fun w' => (run_eql rfl rfl)) rfl rfl (WT.eff 13 [false, false, false, false] rfl (by kernel_rfl) (by kernel_rfl) (eff_call Tryz.call94 (uregister_ok (key := key) (fresh := new) (ign := decide (kind = 11)) (i := i) (t := u.t) hi (h.fetch (blk bt u.t.cells 152)))) rfl rfl ?_)))))
   rintro v63 w ⟨a63, c63, hv63, h⟩
   have hX := rvM_reg (t := u.t) (i := i) (c := (⟨kind, at_, n, data, key, new, typ, force⟩ : Cm)) (show kind = 10 ∨ kind = 11 by omega)
   rw [← hX] at hv63 h
   subst hv63
   have h := closeU (bu := bu) (u := u.setT (rvM u.t i (⟨kind, at_, n, data, key, new, typ, force⟩ : Cm)).t) hm hl ((((h.fetch (Big (GOwn pool) gs)).fetch (blk bt (rvM u.t i (⟨kind, at_, n, data, key, new, typ, force⟩ : Cm)).t.cells 152)).fetch (SpP 146 bs u.s)).fetch (blk bu (ucells bs bt gs) 84))
   refine ⟨trivial, ?_⟩
   refine WT.pure 14 rfl (by kernel_rfl) (fun w' => (run_extract rfl rfl)) rfl rfl (WT.pure 15 rfl (by kernel_rfl) (fun w' => (run_extract rfl rfl)) rfl rfl ?_)
   refine WT.eff 16 [] rfl (by kernel_rfl) (by kernel_rfl) (eff_call Tryz.call93 (unoticed_ok (bu := bu) (u := u.setT (rvM u.t i (⟨kind, at_, n, data, key, new, typ, force⟩ : Cm)).t) (l := (rvM u.t i (⟨kind, at_, n, data, key, new, typ, force⟩ : Cm)).l) (code := (rvM u.t i (⟨kind, at_, n, data, key, new, typ, force⟩ : Cm)).code) (a := a63) (c := c63) (rv := (rvM u.t i (⟨kind, at_, n, data, key, new, typ, force⟩ : Cm)).r.val (.slice none 0 0)) (z0 := (rvM u.t i (⟨kind, at_, n, data, key, new, typ, force⟩ : Cm)).r.st) (z1 := (rvM u.t i (⟨kind, at_, n, data, key, new, typ, force⟩ : Cm)).r.key) (z2 := (rvM u.t i (⟨kind, at_, n, data, key, new, typ, force⟩ : Cm)).r.code) (z4 := (rvM u.t i (⟨kind, at_, n, data, key, new, typ, force⟩ : Cm)).r.info) rvM_l.2.2.2 rvM_l.2.1 hsm rfl ((h.fetch (Own 2 (.slice a63 (rvM u.t i (⟨kind, at_, n, data, key, new, typ, force⟩ : Cm)).l.length c63) (rvM u.t i (⟨kind, at_, n, data, key, new, typ, force⟩ : Cm)).l.length (notesV (rvM u.t i (⟨kind, at_, n, data, key, new, typ, force⟩ : Cm)).code (rvM u.t i (⟨kind, at_, n, data, key, new, typ, force⟩ : Cm)).l))).fetch (UnP 84 146 152 bu pool ms (u.setT (rvM u.t i (⟨kind, at_, n, data, key, new, typ, force⟩ : Cm)).t))))) rfl rfl ?_
   rintro _ w ⟨rfl, h⟩
   refine ⟨trivial, ?_⟩
   refine WT.eff 17 [] rfl (by kernel_rfl) (by kernel_rfl) (eff_storeW (vs := [.int .i64 _, .int .i64 _, .int .i64 _, .slice _ _ _, .int .i64 _]) h Tryz.sizeOf36 rfl rfl rfl rfl rfl) rfl rfl ?_
   rintro _ w h
   refine ⟨trivial, ?_⟩
   refine WT.done (by kernel_rfl) (W.ret (bodyQ.rcB (vs := [.int .i64 _, .int .i64 _, .int .i64 _, .slice _ _ _, .int .i64 _]) h Tryz.results41 Tryz.isAgg36 Tryz.sizeOf36 rfl rfl rfl ?_))
   have he := actM_rv (u := u) (i := i) (c := (⟨kind, at_, n, data, key, new, typ, force⟩ : Cm)) (by show 10 ≤ kind; omega) (by show kind ≤ 15; omega)
   have h := On.nilData (r := (rvM u.t i (⟨kind, at_, n, data, key, new, typ, force⟩ : Cm)).r) rvM_r h
   exact ⟨_, _, .slice none 0 0, he, rfl, h.to⟩
  refine W.skip (W.seq (W.seq (W.region (WL.val (run_eql rfl rfl) rfl rfl (WL.val run_assign rfl rfl (WL.nil ?_))))))
  refine W.condIf rfl (fun c48 => ?_) (fun c48 => ?_)
  ·
   refine W.exit (W.seq (W.seq ?_))
   have ob_ := openU (h.fetch (UnP 84 146 152 bu pool ms u))
   obtain ⟨bs, bt, gs, hm, hl, h⟩ := ob_
   refine W.draw Tryz.follows h (fun w h => ?_)
   refine WT.pure 0 rfl (by kernel_rfl) (fun w' => run_move) rfl rfl (WT.pure 1 rfl (by kernel_rfl) (fun w' => run_move) rfl rfl (WT.pure 2 rfl (by kernel_rfl) (fun w' => (run_nilCheck rfl)) rfl rfl (WT.pure 3 rfl (by kernel_rfl) (fun w' => (run_fieldAddr 1 Tryz.underlying84 rfl Tryz.sizeOf76 rfl rfl)) rfl rfl (WT.load1 4 rfl (by kernel_rfl) Tryz.isAgg76 rfl (h.cellB rfl) rfl rfl (WT.pure 5 rfl (by kernel_rfl) (fun w' => run_move) rfl rfl (WT.pure 6 rfl (by kernel_rfl) (fun w' => (run_fieldAddr 4 Tryz.underlying25 rfl Tryz.sizeOf23 rfl rfl)) rfl rfl (WT.load1 7 rfl (by kernel_rfl) Tryz.isAgg23 rfl (h.cellB rfl) rfl rfl ?_)))))))
   refine WT.pure 8 rfl (by kernel_rfl) (fun w' => (run_fieldAddr 5 Tryz.underlying25 rfl Tryz.sizeOf23 rfl rfl)) rfl rfl (WT.load1 9 rfl (by kernel_rfl) Tryz.isAgg23 rfl (h.cellB rfl) rfl rfl (WT.pure 10 rfl (by kernel_rfl) (fun w' => (run_fieldAddr 0 Tryz.underlying25 rfl Tryz.sizeOf3 rfl rfl)) rfl rfl (WT.load1 11 rfl (by kernel_rfl) Tryz.isAgg3 rfl (h.cellB rfl) rfl rfl (WT.pure 12 rfl (by kernel_rfl) (fun w' => (run_eql rfl rfl)) rfl rfl (WT.eff 13 [false, false, false, false] rfl (by kernel_rfl) (by kernel_rfl) (eff_call Tryz.call94 (uregister_ok (key := key) (fresh := new) (ign := decide (kind = 11)) (i := i) (t := u.t) hi (h.fetch (blk bt u.t.cells 152)))) rfl rfl ?_)))))
   rintro v63 w ⟨a63, c63, hv63, h⟩
   have hX := rvM_reg (t := u.t) (i := i) (c := (⟨kind, at_, n, data, key, new, typ, force⟩ : Cm)) (show kind = 10 ∨ kind = 11 by omega)
   rw [← hX] at hv63 h
   subst hv63
   have h := closeU (bu := bu) (u := u.setT (rvM u.t i (⟨kind, at_, n, data, key, new, typ, force⟩ : Cm)).t) hm hl ((((h.fetch (Big (GOwn pool) gs)).fetch (blk bt (rvM u.t i (⟨kind, at_, n, data, key, new, typ, force⟩ : Cm)).t.cells 152)).fetch (SpP 146 bs u.s)).fetch (blk bu (ucells bs bt gs) 84))
   refine ⟨trivial, ?_⟩
   refine WT.pure 14 rfl (by kernel_rfl) (fun w' => (run_extract rfl rfl)) rfl rfl (WT.pure 15 rfl (by kernel_rfl) (fun w' => (run_extract rfl rfl)) rfl rfl ?_)
   refine WT.eff 16 [] rfl (by kernel_rfl) (by kernel_rfl) (eff_call Tryz.call93 (unoticed_ok (bu := bu) (u := u.setT (rvM u.t i (⟨kind, at_, n, data, key, new, typ, force⟩ : Cm)).t) (l := (rvM u.t i (⟨kind, at_, n, data, key, new, typ, force⟩ : Cm)).l) (code := (rvM u.t i (⟨kind, at_, n, data, key, new, typ, force⟩ : Cm)).code) (a := a63) (c := c63) (rv := (rvM u.t i (⟨kind, at_, n, data, key, new, typ, force⟩ : Cm)).r.val (.slice none 0 0)) (z0 := (rvM u.t i (⟨kind, at_, n, data, key, new, typ, force⟩ : Cm)).r.st) (z1 := (rvM u.t i (⟨kind, at_, n, data, key, new, typ, force⟩ : Cm)).r.key) (z2 := (rvM u.t i (⟨kind, at_, n, data, key, new, typ, force⟩ : Cm)).r.code) (z4 := (rvM u.t i (⟨kind, at_, n, data, key, new, typ, force⟩ : Cm)).r.info) rvM_l.2.2.2 rvM_l.2.1 hsm rfl ((h.fetch (Own 2 (.slice a63 (rvM u.t i (⟨kind, at_, n, data, key, new, typ, force⟩ : Cm)).l.length c63) (rvM u.t i (⟨kind, at_, n, data, key, new, typ, force⟩ : Cm)).l.length (notesV (rvM u.t i (⟨kind, at_, n, data, key, new, typ, force⟩ : Cm)).code (rvM u.t i (⟨kind, at_, n, data, key, new, typ, force⟩ : Cm)).l))).fetch (UnP 84 146 152 bu pool ms (u.setT (rvM u.t i (⟨kind, at_, n, data, key, new, typ, force⟩ : Cm)).t))))) rfl rfl ?_
   rintro _ w ⟨rfl, h⟩
   refine ⟨trivial, ?_⟩
   refine WT.eff 17 [] rfl (by kernel_rfl) (by kernel_rfl) (eff_storeW (vs := [.int .i64 _, .int .i64 _, .int .i64 _, .slice _ _ _, .int .i64 _]) h Tryz.sizeOf36 rfl rfl rfl rfl rfl) rfl rfl ?_
   rintro _ w h
   refine ⟨trivial, ?_⟩
   refine WT.done (by kernel_rfl) (W.ret (bodyQ.rcB (vs := [.int .i64 _, .int .i64 _, .int .i64 _, .slice _ _ _, .int .i64 _]) h Tryz.results41 Tryz.isAgg36 Tryz.sizeOf36 rfl rfl rfl ?_))
   have he := actM_rv (u := u) (i := i) (c := (⟨kind, at_, n, data, key, new, typ, force⟩ : Cm)) (by show 10 ≤ kind; omega) (by show kind ≤ 15; omega)
   have h := On.nilData (r := (rvM u.t i (⟨kind, at_, n, data, key, new, typ, force⟩ : Cm)).r) rvM_r h
   exact ⟨_, _, .slice none 0 0, he, rfl, h.to⟩
  refine W.skip (W.seq (W.seq (W.region (WL.val (run_eql rfl rfl) rfl rfl (WL.val run_assign rfl rfl (WL.nil ?_))))))
  refine W.condIf rfl (fun c52 => ?_) (fun c52 => ?_)
  ·
   refine W.exit (W.seq (W.seq ?_))
   have ob_ := openU (h.fetch (UnP 84 146 152 bu pool ms u))
   obtain ⟨bs, bt, gs, hm, hl, h⟩ := ob_
   refine W.draw Tryz.follows h (fun w h => ?_)
   refine WT.pure 0 rfl (by kernel_rfl) (fun w' => run_move) rfl rfl (WT.pure 1 rfl (by kernel_rfl) (fun w' => (run_nilCheck rfl)) rfl rfl (WT.pure 2 rfl (by kernel_rfl) (fun w' => (run_fieldAddr 1 Tryz.underlying84 rfl Tryz.sizeOf76 rfl rfl)) rfl rfl (WT.load1 3 rfl (by kernel_rfl) Tryz.isAgg76 rfl (h.cellB rfl) rfl rfl (WT.pure 4 rfl (by kernel_rfl) (fun w' => run_move) rfl rfl (WT.pure 5 rfl (by kernel_rfl) (fun w' => (run_fieldAddr 4 Tryz.underlying25 rfl Tryz.sizeOf23 rfl rfl)) rfl rfl (WT.load1 6 rfl (by kernel_rfl) Tryz.isAgg23 rfl (h.cellB rfl) rfl rfl (WT.pure 7 rfl (by kernel_rfl) (fun w' => (run_fieldAddr 6 Tryz.underlying25 rfl Tryz.sizeOf3 rfl rfl)) rfl rfl ?_)))))))
   refine WT.load1 8 rfl (by kernel_rfl) Tryz.isAgg3 rfl (h.cellB rfl) rfl rfl (WT.eff 9 [false, false, false] rfl (by kernel_rfl) (by kernel_rfl) (eff_call Tryz.call95 (ureserve_ok (key := key) (typ := typ) (i := i) (t := u.t) hi (h.fetch (blk bt u.t.cells 152)))) rfl rfl ?_)
   rintro v76 w ⟨hv76, h⟩
   have hX := rvM_rsv (t := u.t) (i := i) (c := (⟨kind, at_, n, data, key, new, typ, force⟩ : Cm)) (show kind = 12 by omega)
   rw [← hX] at hv76 h
   subst hv76
   have h := closeU (bu := bu) (u := u.setT (rvM u.t i (⟨kind, at_, n, data, key, new, typ, force⟩ : Cm)).t) hm hl ((((h.fetch (Big (GOwn pool) gs)).fetch (blk bt (rvM u.t i (⟨kind, at_, n, data, key, new, typ, force⟩ : Cm)).t.cells 152)).fetch (SpP 146 bs u.s)).fetch (blk bu (ucells bs bt gs) 84))
   refine ⟨trivial, ?_⟩
   refine WT.eff 10 [] rfl (by kernel_rfl) (by kernel_rfl) (eff_storeW (vs := [.int .i64 _, .int .i64 _, .int .i64 _, .slice _ _ _, .int .i64 _]) h Tryz.sizeOf36 rfl rfl rfl rfl rfl) rfl rfl ?_
   rintro _ w h
   refine ⟨trivial, ?_⟩
   refine WT.done (by kernel_rfl) (W.ret (bodyQ.rcB (vs := [.int .i64 _, .int .i64 _, .int .i64 _, .slice _ _ _, .int .i64 _]) h Tryz.results41 Tryz.isAgg36 Tryz.sizeOf36 rfl rfl rfl ?_))
   have he := actM_rv (u := u) (i := i) (c := (⟨kind, at_, n, data, key, new, typ, force⟩ : Cm)) (by show 10 ≤ kind; omega) (by show kind ≤ 15; omega)
   have hX0 : (rvM u.t i (⟨kind, at_, n, data, key, new, typ, force⟩ : Cm)).l = [] := by rw [hX]; exact rsvF_l
   have he : actM u i (⟨kind, at_, n, data, key, new, typ, force⟩ : Cm) = (u.setT (rvM u.t i (⟨kind, at_, n, data, key, new, typ, force⟩ : Cm)).t, (rvM u.t i (⟨kind, at_, n, data, key, new, typ, force⟩ : Cm)).r) := by rw [he, hX0]; rfl
   have h := On.nilData (r := (rvM u.t i (⟨kind, at_, n, data, key, new, typ, force⟩ : Cm)).r) rvM_r h
   exact ⟨_, _, .slice none 0 0, he, rfl, h.to⟩
  refine W.skip (W.seq (W.seq (W.region (WL.val (run_eql rfl rfl) rfl rfl (WL.val run_assign rfl rfl (WL.nil ?_))))))
  refine W.condIf rfl (fun c56 => ?_) (fun c56 => ?_)
  ·
   refine W.exit (W.seq (W.seq ?_))
   have ob_ := openU (h.fetch (UnP 84 146 152 bu pool ms u))
   obtain ⟨bs, bt, gs, hm, hl, h⟩ := ob_
   refine W.draw Tryz.follows h (fun w h => ?_)
   refine WT.pure 0 rfl (by kernel_rfl) (fun w' => run_move) rfl rfl (WT.pure 1 rfl (by kernel_rfl) (fun w' => run_move) rfl rfl (WT.pure 2 rfl (by kernel_rfl) (fun w' => (run_nilCheck rfl)) rfl rfl (WT.pure 3 rfl (by kernel_rfl) (fun w' => (run_fieldAddr 1 Tryz.underlying84 rfl Tryz.sizeOf76 rfl rfl)) rfl rfl (WT.load1 4 rfl (by kernel_rfl) Tryz.isAgg76 rfl (h.cellB rfl) rfl rfl (WT.pure 5 rfl (by kernel_rfl) (fun w' => run_move) rfl rfl (WT.pure 6 rfl (by kernel_rfl) (fun w' => (run_fieldAddr 4 Tryz.underlying25 rfl Tryz.sizeOf23 rfl rfl)) rfl rfl (WT.load1 7 rfl (by kernel_rfl) Tryz.isAgg23 rfl (h.cellB rfl) rfl rfl ?_)))))))
   refine WT.pure 8 rfl (by kernel_rfl) (fun w' => (run_fieldAddr 6 Tryz.underlying25 rfl Tryz.sizeOf3 rfl rfl)) rfl rfl (WT.load1 9 rfl (by kernel_rfl) Tryz.isAgg3 rfl (h.cellB rfl) rfl rfl (WT.eff 10 [false, false, false] rfl (by kernel_rfl) (by kernel_rfl) (eff_call Tryz.call96 (urelease_ok (key := key) (typ := typ) (i := i) (t := u.t) hi (h.fetch (blk bt u.t.cells 152)))) rfl rfl ?_))
   rintro v87 w ⟨a87, c87, hv87, h⟩
   have hX := rvM_rel (t := u.t) (i := i) (c := (⟨kind, at_, n, data, key, new, typ, force⟩ : Cm)) (show kind = 13 by omega)
   rw [← hX] at hv87 h
   subst hv87
   have h := closeU (bu := bu) (u := u.setT (rvM u.t i (⟨kind, at_, n, data, key, new, typ, force⟩ : Cm)).t) hm hl ((((h.fetch (Big (GOwn pool) gs)).fetch (blk bt (rvM u.t i (⟨kind, at_, n, data, key, new, typ, force⟩ : Cm)).t.cells 152)).fetch (SpP 146 bs u.s)).fetch (blk bu (ucells bs bt gs) 84))
   refine ⟨trivial, ?_⟩
   refine WT.pure 11 rfl (by kernel_rfl) (fun w' => (run_extract rfl rfl)) rfl rfl (WT.pure 12 rfl (by kernel_rfl) (fun w' => (run_extract rfl rfl)) rfl rfl ?_)
   refine WT.eff 13 [] rfl (by kernel_rfl) (by kernel_rfl) (eff_call Tryz.call93 (unoticed_ok (bu := bu) (u := u.setT (rvM u.t i (⟨kind, at_, n, data, key, new, typ, force⟩ : Cm)).t) (l := (rvM u.t i (⟨kind, at_, n, data, key, new, typ, force⟩ : Cm)).l) (code := (rvM u.t i (⟨kind, at_, n, data, key, new, typ, force⟩ : Cm)).code) (a := a87) (c := c87) (rv := (rvM u.t i (⟨kind, at_, n, data, key, new, typ, force⟩ : Cm)).r.val (.slice none 0 0)) (z0 := (rvM u.t i (⟨kind, at_, n, data, key, new, typ, force⟩ : Cm)).r.st) (z1 := (rvM u.t i (⟨kind, at_, n, data, key, new, typ, force⟩ : Cm)).r.key) (z2 := (rvM u.t i (⟨kind, at_, n, data, key, new, typ, force⟩ : Cm)).r.code) (z4 := (rvM u.t i (⟨kind, at_, n, data, key, new, typ, force⟩ : Cm)).r.info) rvM_l.2.2.2 rvM_l.2.1 hsm rfl ((h.fetch (Own 2 (.slice a87 (rvM u.t i (⟨kind, at_, n, data, key, new, typ, force⟩ : Cm)).l.length c87) (rvM u.t i (⟨kind, at_, n, data, key, new, typ, force⟩ : Cm)).l.length (notesV (rvM u.t i (⟨kind, at_, n, data, key, new, typ, force⟩ : Cm)).code (rvM u.t i (⟨kind, at_, n, data, key, new, typ, force⟩ : Cm)).l))).fetch (UnP 84 146 152 bu pool ms (u.setT (rvM u.t i (⟨kind, at_, n, data, key, new, typ, force⟩ : Cm)).t))))) rfl rfl ?_
   rintro _ w ⟨rfl, h⟩
   refine ⟨trivial, ?_⟩
   refine WT.eff 14 [] rfl (by kernel_rfl) (by kernel_rfl) (eff_storeW (vs := [.int .i64 _, .int .i64 _, .int .i64 _, .slice _ _ _, .int .i64 _]) h Tryz.sizeOf36 rfl rfl rfl rfl rfl) rfl rfl ?_
   rintro _ w h
   refine ⟨trivial, ?_⟩
   refine WT.done (by kernel_rfl) (W.ret (bodyQ.rcB (vs := [.int .i64 _, .int .i64 _, .int .i64 _, .slice _ _ _, .int .i64 _]) h Tryz.results41 Tryz.isAgg36 Tryz.sizeOf36 rfl rfl rfl ?_))
   have he := actM_rv (u := u) (i := i) (c := (⟨kind, at_, n, data, key, new, typ, force⟩ : Cm)) (by show 10 ≤ kind; omega) (by show kind ≤ 15; omega)
   have h := On.nilData (r := (rvM u.t i (⟨kind, at_, n, data, key, new, typ, force⟩ : Cm)).r) rvM_r h
   exact ⟨_, _, .slice none 0 0, he, rfl, h.to⟩
  refine W.skip (W.seq (W.seq (W.region (WL.val (run_eql rfl rfl) rfl rfl (WL.val run_assign rfl rfl (WL.nil ?_))))))
  refine W.condIf rfl (fun c60 => ?_) (fun c60 => ?_)
  ·
   refine W.exit (W.seq (W.seq ?_))
   have ob_ := openU (h.fetch (UnP 84 146 152 bu pool ms u))
   obtain ⟨bs, bt, gs, hm, hl, h⟩ := ob_
   refine W.draw Tryz.follows h (fun w h => ?_)
   refine WT.pure 0 rfl (by kernel_rfl) (fun w' => run_move) rfl rfl (WT.pure 1 rfl (by kernel_rfl) (fun w' => run_move) rfl rfl (WT.pure 2 rfl (by kernel_rfl) (fun w' => (run_nilCheck rfl)) rfl rfl (WT.pure 3 rfl (by kernel_rfl) (fun w' => (run_fieldAddr 1 Tryz.underlying84 rfl Tryz.sizeOf76 rfl rfl)) rfl rfl (WT.load1 4 rfl (by kernel_rfl) Tryz.isAgg76 rfl (h.cellB rfl) rfl rfl (WT.pure 5 rfl (by kernel_rfl) (fun w' => run_move) rfl rfl (WT.pure 6 rfl (by kernel_rfl) (fun w' => (run_fieldAddr 4 Tryz.underlying25 rfl Tryz.sizeOf23 rfl rfl)) rfl rfl (WT.load1 7 rfl (by kernel_rfl) Tryz.isAgg23 rfl (h.cellB rfl) rfl rfl ?_)))))))
   refine WT.eff 8 [false, false] rfl (by kernel_rfl) (by kernel_rfl) (eff_call Tryz.call97 (uclear_ok (key := key) (i := i) (t := u.t) hi (h.fetch (blk bt u.t.cells 152)))) rfl rfl ?_
   rintro v99 w ⟨a99, c99, hv99, h⟩
   have hX := rvM_clr (t := u.t) (i := i) (c := (⟨kind, at_, n, data, key, new, typ, force⟩ : Cm)) (show kind = 14 by omega)
   rw [← hX] at hv99 h
   subst hv99
   have h := closeU (bu := bu) (u := u.setT (rvM u.t i (⟨kind, at_, n, data, key, new, typ, force⟩ : Cm)).t) hm hl ((((h.fetch (Big (GOwn pool) gs)).fetch (blk bt (rvM u.t i (⟨kind, at_, n, data, key, new, typ, force⟩ : Cm)).t.cells 152)).fetch (SpP 146 bs u.s)).fetch (blk bu (ucells bs bt gs) 84))
   refine ⟨trivial, ?_⟩
   refine WT.pure 9 rfl (by kernel_rfl) (fun w' => (run_extract rfl rfl)) rfl rfl (WT.pure 10 rfl (by kernel_rfl) (fun w' => (run_extract rfl rfl)) rfl rfl ?_)
   refine WT.eff 11 [] rfl (by kernel_rfl) (by kernel_rfl) (eff_call Tryz.call93 (unoticed_ok (bu := bu) (u := u.setT (rvM u.t i (⟨kind, at_, n, data, key, new, typ, force⟩ : Cm)).t) (l := (rvM u.t i (⟨kind, at_, n, data, key, new, typ, force⟩ : Cm)).l) (code := (rvM u.t i (⟨kind, at_, n, data, key, new, typ, force⟩ : Cm)).code) (a := a99) (c := c99) (rv := (rvM u.t i (⟨kind, at_, n, data, key, new, typ, force⟩ : Cm)).r.val (.slice none 0 0)) (z0 := (rvM u.t i (⟨kind, at_, n, data, key, new, typ, force⟩ : Cm)).r.st) (z1 := (rvM u.t i (⟨kind, at_, n, data, key, new, typ, force⟩ : Cm)).r.key) (z2 := (rvM u.t i (⟨kind, at_, n, data, key, new, typ, force⟩ : Cm)).r.code) (z4 := (rvM u.t i (⟨kind, at_, n, data, key, new, typ, force⟩ : Cm)).r.info) rvM_l.2.2.2 rvM_l.2.1 hsm rfl ((h.fetch (Own 2 (.slice a99 (rvM u.t i (⟨kind, at_, n, data, key, new, typ, force⟩ : Cm)).l.length c99) (rvM u.t i (⟨kind, at_, n, data, key, new, typ, force⟩ : Cm)).l.length (notesV (rvM u.t i (⟨kind, at_, n, data, key, new, typ, force⟩ : Cm)).code (rvM u.t i (⟨kind, at_, n, data, key, new, typ, force⟩ : Cm)).l))).fetch (UnP 84 146 152 bu pool ms (u.setT (rvM u.t i (⟨kind, at_, n, data, key, new, typ, force⟩ : Cm)).t))))) rfl rfl ?_
   rintro _ w ⟨rfl, h⟩
   refine ⟨trivial, ?_⟩
   refine WT.eff 12 [] rfl (by kernel_rfl) (by kernel_rfl) (eff_storeW (vs := [.int .i64 _, .int .i64 _, .int .i64 _, .slice _ _ _, .int .i64 _]) h Tryz.sizeOf36 rfl rfl rfl rfl rfl) rfl rfl ?_
   rintro _ w h
   refine ⟨trivial, ?_⟩
   refine WT.done (by kernel_rfl) (W.ret (bodyQ.rcB (vs := [.int .i64 _, .int .i64 _, .int .i64 _, .slice _ _ _, .int .i64 _]) h Tryz.results41 Tryz.isAgg36 Tryz.sizeOf36 rfl rfl rfl ?_))
   have he := actM_rv (u := u) (i := i) (c := (⟨kind, at_, n, data, key, new, typ, force⟩ : Cm)) (by show 10 ≤ kind; omega) (by show kind ≤ 15; omega)
   have h := On.nilData (r := (rvM u.t i (⟨kind, at_, n, data, key, new, typ, force⟩ : Cm)).r) rvM_r h
   exact ⟨_, _, .slice none 0 0, he, rfl, h.to⟩
  refine W.skip (W.seq (W.seq (W.region (WL.val (run_eql rfl rfl) rfl rfl (WL.val run_assign rfl rfl (WL.nil ?_))))))
  refine W.condIf rfl (fun c64 => ?_) (fun c64 => ?_)
  ·
   refine W.exit (W.seq (W.seq ?_))
   have ob_ := openU (h.fetch (UnP 84 146 152 bu pool ms u))
   obtain ⟨bs, bt, gs, hm, hl, h⟩ := ob_
   refine W.draw Tryz.follows h (fun w h => ?_)
   refine WT.pure 0 rfl (by kernel_rfl) (fun w' => run_move) rfl rfl (WT.pure 1 rfl (by kernel_rfl) (fun w' => run_move) rfl rfl (WT.pure 2 rfl (by kernel_rfl) (fun w' => (run_nilCheck rfl)) rfl rfl (WT.pure 3 rfl (by kernel_rfl) (fun w' => (run_fieldAddr 1 Tryz.underlying84 rfl Tryz.sizeOf76 rfl rfl)) rfl rfl (WT.load1 4 rfl (by kernel_rfl) Tryz.isAgg76 rfl (h.cellB rfl) rfl rfl (WT.pure 5 rfl (by kernel_rfl) (fun w' => run_move) rfl rfl (WT.pure 6 rfl (by kernel_rfl) (fun w' => (run_fieldAddr 4 Tryz.underlying25 rfl Tryz.sizeOf23 rfl rfl)) rfl rfl (WT.load1 7 rfl (by kernel_rfl) Tryz.isAgg23 rfl (h.cellB rfl) rfl rfl ?_)))))))
   refine WT.pure 8 rfl (by kernel_rfl) (fun w' => (run_fieldAddr 5 Tryz.underlying25 rfl Tryz.sizeOf23 rfl rfl)) rfl rfl (WT.load1 9 rfl (by kernel_rfl) Tryz.isAgg23 rfl (h.cellB rfl) rfl rfl (WT.pure 10 rfl (by kernel_rfl) (fun w' => (run_fieldAddr 6 Tryz.underlying25 rfl Tryz.sizeOf3 rfl rfl)) rfl rfl (WT.load1 11 rfl (by kernel_rfl) Tryz.isAgg3 rfl (h.cellB rfl) rfl rfl (WT.eff 12 [false, false, false, false] rfl (by kernel_rfl) (by kernel_rfl) (eff_call Tryz.call98 (upreempt_ok (key := key) (other := new) (typ := typ) (ii := i) (t := u.t) hi (goodT_hold hgu_.1) (h.fetch (blk bt u.t.cells 152)))) rfl rfl ?_))))
   rintro v115 w ⟨a115, c115, hv115, h⟩
   have hX := rvM_pre (t := u.t) (i := i) (c := (⟨kind, at_, n, data, key, new, typ, force⟩ : Cm)) (show kind = 15 by omega)
   rw [← hX] at hv115 h
   subst hv115
   have h := closeU (bu := bu) (u := u.setT (rvM u.t i (⟨kind, at_, n, data, key, new, typ, force⟩ : Cm)).t) hm hl ((((h.fetch (Big (GOwn pool) gs)).fetch (blk bt (rvM u.t i (⟨kind, at_, n, data, key, new, typ, force⟩ : Cm)).t.cells 152)).fetch (SpP 146 bs u.s)).fetch (blk bu (ucells bs bt gs) 84))
   refine ⟨trivial, ?_⟩
   refine WT.pure 13 rfl (by kernel_rfl) (fun w' => (run_extract rfl rfl)) rfl rfl (WT.pure 14 rfl (by kernel_rfl) (fun w' => (run_extract rfl rfl)) rfl rfl ?_)
   refine WT.eff 15 [] rfl (by kernel_rfl) (by kernel_rfl) (eff_call Tryz.call93 (unoticed_ok (bu := bu) (u := u.setT (rvM u.t i (⟨kind, at_, n, data, key, new, typ, force⟩ : Cm)).t) (l := (rvM u.t i (⟨kind, at_, n, data, key, new, typ, force⟩ : Cm)).l) (code := (rvM u.t i (⟨kind, at_, n, data, key, new, typ, force⟩ : Cm)).code) (a := a115) (c := c115) (rv := (rvM u.t i (⟨kind, at_, n, data, key, new, typ, force⟩ : Cm)).r.val (.slice none 0 0)) (z0 := (rvM u.t i (⟨kind, at_, n, data, key, new, typ, force⟩ : Cm)).r.st) (z1 := (rvM u.t i (⟨kind, at_, n, data, key, new, typ, force⟩ : Cm)).r.key) (z2 := (rvM u.t i (⟨kind, at_, n, data, key, new, typ, force⟩ : Cm)).r.code) (z4 := (rvM u.t i (⟨kind, at_, n, data, key, new, typ, force⟩ : Cm)).r.info) rvM_l.2.2.2 rvM_l.2.1 hsm rfl ((h.fetch (Own 2 (.slice a115 (rvM u.t i (⟨kind, at_, n, data, key, new, typ, force⟩ : Cm)).l.length c115) (rvM u.t i (⟨kind, at_, n, data, key, new, typ, force⟩ : Cm)).l.length (notesV (rvM u.t i (⟨kind, at_, n, data, key, new, typ, force⟩ : Cm)).code (rvM u.t i (⟨kind, at_, n, data, key, new, typ, force⟩ : Cm)).l))).fetch (UnP 84 146 152 bu pool ms (u.setT (rvM u.t i (⟨kind, at_, n, data, key, new, typ, force⟩ : Cm)).t))))) rfl rfl ?_
   rintro _ w ⟨rfl, h⟩
   refine ⟨trivial, ?_⟩
   refine WT.eff 16 [] rfl (by kernel_rfl) (by kernel_rfl) (eff_storeW (vs := [.int .i64 _, .int .i64 _, .int .i64 _, .slice _ _ _, .int .i64 _]) h Tryz.sizeOf36 rfl rfl rfl rfl rfl) rfl rfl ?_
   rintro _ w h
   refine ⟨trivial, ?_⟩
   refine WT.done (by kernel_rfl) (W.ret (bodyQ.rcB (vs := [.int .i64 _, .int .i64 _, .int .i64 _, .slice _ _ _, .int .i64 _]) h Tryz.results41 Tryz.isAgg36 Tryz.sizeOf36 rfl rfl rfl ?_))
   have he := actM_rv (u := u) (i := i) (c := (⟨kind, at_, n, data, key, new, typ, force⟩ : Cm)) (by show 10 ≤ kind; omega) (by show kind ≤ 15; omega)
   have h := On.nilData (r := (rvM u.t i (⟨kind, at_, n, data, key, new, typ, force⟩ : Cm)).r) rvM_r h
   exact ⟨_, _, .slice none 0 0, he, rfl, h.to⟩
  refine W.skip (W.seq (W.seq (W.region (WL.val (run_eql rfl rfl) rfl rfl (WL.val run_assign rfl rfl (WL.nil ?_))))))
  refine W.condIf rfl (fun c68 => ?_) (fun c68 => ?_)
  ·
   refine W.exit (W.seq (W.seq ?_))
   have ob_ := openU (h.fetch (UnP 84 146 152 bu pool ms u))
   obtain ⟨bs, bt, gs, hm, hl, h⟩ := ob_
   refine W.draw Tryz.follows h (fun w h => ?_)
   refine WT.pure 0 rfl (by kernel_rfl) (fun w' => run_move) rfl rfl (WT.pure 1 rfl (by kernel_rfl) (fun w' => (run_nilCheck rfl)) rfl rfl (WT.pure 2 rfl (by kernel_rfl) (fun w' => (run_fieldAddr 1 Tryz.underlying84 rfl Tryz.sizeOf76 rfl rfl)) rfl rfl (WT.load1 3 rfl (by kernel_rfl) Tryz.isAgg76 rfl (h.cellB rfl) rfl rfl (WT.pure 5 rfl (by kernel_rfl) (fun w' => run_move) rfl rfl (WT.pure 6 rfl (by kernel_rfl) (fun w' => (run_nilCheck rfl)) rfl rfl (WT.pure 7 rfl (by kernel_rfl) (fun w' => (run_fieldAddr 1 Tryz.underlying84 rfl Tryz.sizeOf76 rfl rfl)) rfl rfl (WT.load1 8 rfl (by kernel_rfl) Tryz.isAgg76 rfl (h.cellB rfl) rfl rfl ?_)))))))
   refine WT.eff 4 [true, false] rfl (by kernel_rfl) (by kernel_rfl) (eff_call Tryz.call100 (generation_ok (t := u.t) (h.fetch (blk bt u.t.cells 152)))) rfl rfl ?_
   rintro v123 w ⟨hv123, h⟩
   rw [egen] at hv123
   subst hv123
   refine ⟨⟨h.cellB rfl, trivial⟩, ?_⟩
   refine WT.eff 9 [false] rfl (by kernel_rfl) (by kernel_rfl) (eff_call Tryz.call101 (ukeys_ok (t := u.t) (b := bt) (h.fetch (blk bt u.t.cells 152)))) rfl rfl ?_
   rintro _ w ⟨a128, rfl, h⟩
   refine ⟨trivial, ?_⟩
   refine WT.eff 10 [] rfl (by kernel_rfl) (by kernel_rfl) (eff_call Tryz.call99 (pkeys_ok (g := u.t.gen.toNat) (ks := keysN u.t.K 8) (ak := a128) (ck := (keysN u.t.K 8).length) (by have := hgok.2; omega) (fun x hx => by have hm := keysN_mem hx; obtain ⟨q, hq, e⟩ := hm; rw [e]; exact hgok.1 q hq) (keysN_len ..) h (Gives.ownO (v := .slice a128 (keysN u.t.K 8).length (keysN u.t.K 8).length)))) rfl rfl ?_
   rintro v129 w ⟨a129, hv129, h⟩
   rw [keysP_all] at hv129 h
   subst hv129
   refine ⟨trivial, ?_⟩
   refine WT.eff 11 [] rfl (by kernel_rfl) (by kernel_rfl) (eff_call Tryz.call38 (sgood_ok (bs := keysB u.t) h (Gives.ownO (v := .slice a129 (keysB u.t).length (keysB u.t).length)) (by have := keysN_len u.t.K 8; rw [keysB_len]; omega))) rfl rfl ?_
   rintro _ w ⟨a130, rfl, h⟩
   have h := closeU (bu := bu) (u := u) hm hl ((((h.fetch (Big (GOwn pool) gs)).fetch (blk bt u.t.cells 152)).fetch (SpP 146 bs u.s)).fetch (blk bu (ucells bs bt gs) 84))
   refine ⟨trivial, ?_⟩
   refine WT.eff 12 [] rfl (by kernel_rfl) (by kernel_rfl) (eff_storeW (vs := [.int .i64 _, .int .i64 _, .int .i64 _, .slice _ _ _, .int .i64 _]) h Tryz.sizeOf36 rfl rfl rfl rfl rfl) rfl rfl ?_
   rintro _ w h
   refine ⟨trivial, ?_⟩
   refine WT.done (by kernel_rfl) (W.ret (bodyQ.rcB (vs := [.int .i64 _, .int .i64 _, .int .i64 _, .slice _ _ _, .int .i64 _]) h Tryz.results41 Tryz.isAgg36 Tryz.sizeOf36 rfl rfl rfl ?_))
   have h : On W0 (OwnB (.slice a130 ((keysB u.t)).length ((keysB u.t)).length) (gave ((keysB u.t))).data :: _) w := h.fetch (OwnB (.slice a130 ((keysB u.t)).length ((keysB u.t)).length) ((keysB u.t)))
   exact ⟨u, gave ((keysB u.t)), .slice a130 ((keysB u.t)).length ((keysB u.t)).length, (actM_keys (show kind = 16 by omega)), rfl, h.to⟩
  refine W.skip (W.seq (W.region (WL.val (run_eql rfl rfl) rfl rfl (WL.val run_assign rfl rfl (WL.nil ?_)))))
  refine W.condIf rfl (fun c72 => ?_) (fun c72 => ?_)
  ·
   refine W.exit (W.seq (W.seq ?_))
   have ob_ := openU (h.fetch (UnP 84 146 152 bu pool ms u))
   obtain ⟨bs, bt, gs, hm, hl, h⟩ := ob_
   refine W.region (WL.val run_move rfl rfl (WL.val (run_nilCheck rfl) rfl rfl (WL.val (run_fieldAddr 1 Tryz.underlying84 rfl Tryz.sizeOf76 rfl rfl) rfl rfl (WL.val (run_load1 Tryz.isAgg76 rfl (h.cellB rfl)) rfl rfl (WL.eff (eff_call Tryz.call102 (holder_ok (t := u.t) (b := bt) (h.fetch (blk bt u.t.cells 152)))) rfl rfl ?_)))))
   rintro v136 w ⟨hv136, h⟩
   have htyp := goodT_typ hgt
   have etyp : u.t.typ = ((u.t.typ.toNat : Nat) : Int) := by omega
   rw [etyp] at hv136
   subst hv136
   refine WL.val run_move rfl rfl (WL.val (run_extract rfl rfl) rfl rfl (WL.val (run_extract rfl rfl) rfl rfl (WL.val run_assign rfl rfl (WL.val run_assign rfl rfl (WL.nil (W.seq ?_))))))
   refine W.draw Tryz.follows h (fun w h => ?_)
   refine WT.pure 0 rfl (by kernel_rfl) (fun w' => run_move) rfl rfl (WT.pure 1 rfl (by kernel_rfl) (fun w' => (run_nilCheck rfl)) rfl rfl (WT.pure 2 rfl (by kernel_rfl) (fun w' => (run_fieldAddr 1 Tryz.underlying84 rfl Tryz.sizeOf76 rfl rfl)) rfl rfl (WT.load1 3 rfl (by kernel_rfl) Tryz.isAgg76 rfl (h.cellB rfl) rfl rfl (WT.pure 5 rfl (by kernel_rfl) (fun w' => run_move) rfl rfl (WT.pure 6 rfl (by kernel_rfl) (fun w' => (run_nilCheck rfl)) rfl rfl (WT.pure 7 rfl (by kernel_rfl) (fun w' => (run_fieldAddr 1 Tryz.underlying84 rfl Tryz.sizeOf76 rfl rfl)) rfl rfl (WT.load1 8 rfl (by kernel_rfl) Tryz.isAgg76 rfl (h.cellB rfl) rfl rfl ?_)))))))
   refine WT.pure 9 rfl (by kernel_rfl) (fun w' => run_move) rfl rfl (WT.pure 11 rfl (by kernel_rfl) (fun w' => run_move) rfl rfl (WT.eff 4 [true, false] rfl (by kernel_rfl) (by kernel_rfl) (eff_call Tryz.call100 (generation_ok (t := u.t) (h.fetch (blk bt u.t.cells 152)))) rfl rfl ?_))
   rintro v143 w ⟨hv143, h⟩
   rw [egen] at hv143
   subst hv143
   refine ⟨⟨h.cellB rfl, trivial⟩, ?_⟩
   refine WT.eff 10 [false] rfl (by kernel_rfl) (by kernel_rfl) (eff_call Tryz.call104 (ukey_ok (t := u.t) (b := bt) (hh := u.t.hold) (h.fetch (blk bt u.t.cells 152)))) rfl rfl ?_
   rintro v149 w ⟨hv149, h⟩
   have hv149 : v149 = .int .u64 (holdK u.t) := hv149
   have hkk : 0 ≤ holdK u.t ∧ holdK u.t < 18446744073709551616 := by
     unfold holdK
     split
     · rename_i hb
       have hb := hostB_iff.1 hb
       exact hgok.1 _ (by omega)
     · exact ⟨Int.le_refl 0, by decide⟩
   have ekk : holdK u.t = (((holdK u.t).toNat : Nat) : Int) := by omega
   rw [ekk] at hv149
   subst hv149
   refine ⟨trivial, ?_⟩
   refine WT.eff 12 [] rfl (by kernel_rfl) (by kernel_rfl) (eff_call Tryz.call103 (pholder_ok (g := u.t.gen.toNat) (key := (holdK u.t).toNat) (y := u.t.typ.toNat) (by have := hgok.2; omega) (by omega) (by omega) h)) rfl rfl ?_
   rintro v151 w ⟨a151, hv151, h⟩
   rw [← holdB_P htyp.1] at hv151 h
   subst hv151
   refine ⟨trivial, ?_⟩
   refine WT.eff 13 [] rfl (by kernel_rfl) (by kernel_rfl) (eff_call Tryz.call38 (sgood_ok (bs := holdB u.t) h (Gives.ownO (v := .slice a151 (holdB u.t).length (holdB u.t).length)) (by have := holdB_len u.t; omega))) rfl rfl ?_
   rintro _ w ⟨a152, rfl, h⟩
   have h := closeU (bu := bu) (u := u) hm hl ((((h.fetch (Big (GOwn pool) gs)).fetch (blk bt u.t.cells 152)).fetch (SpP 146 bs u.s)).fetch (blk bu (ucells bs bt gs) 84))
   refine ⟨trivial, ?_⟩
   refine WT.eff 14 [] rfl (by kernel_rfl) (by kernel_rfl) (eff_storeW (vs := [.int .i64 _, .int .i64 _, .int .i64 _, .slice _ _ _, .int .i64 _]) h Tryz.sizeOf36 rfl rfl rfl rfl rfl) rfl rfl ?_
   rintro _ w h
   refine ⟨trivial, ?_⟩
   refine WT.done (by kernel_rfl) (W.ret (bodyQ.rcB (vs := [.int .i64 _, .int .i64 _, .int .i64 _, .slice _ _ _, .int .i64 _]) h Tryz.results41 Tryz.isAgg36 Tryz.sizeOf36 rfl rfl rfl ?_))
   have h : On W0 (OwnB (.slice a152 ((holdB u.t)).length ((holdB u.t)).length) (gave ((holdB u.t))).data :: _) w := h.fetch (OwnB (.slice a152 ((holdB u.t)).length ((holdB u.t)).length) ((holdB u.t)))
   exact ⟨u, gave ((holdB u.t)), .slice a152 ((holdB u.t)).length ((holdB u.t)).length, (actM_hold (show kind = 17 by omega)), rfl, h.to⟩
  refine W.skip (W.exit (W.seq (W.seq (W.region (WL.val run_move rfl rfl (WL.nil (W.block ?_)))))))
  refine W.loop (fun (k : Nat) env w => k ≤ 8 ∧ ∃ j, env = mkE j [(0, .pointer (some ⟨bu, 0, none⟩)), (153, .int .i64 (k : Int)), (6, .pointer (some ⟨b6, 0, none⟩))] ∧ On W0 (UnP 84 146 152 bu pool ms (resetN u k) :: blk b6 [.int .i64 0, .int .i64 0, .int .i64 0, .slice none 0 0, .int .i64 0] 36 :: L) w) (fun k => 8 - k) (0) ?_ ?_
  · have h : On W0 (UnP 84 146 152 bu pool ms (resetN u 0) :: _) w := h.fetch (UnP 84 146 152 bu pool ms u)
    exact ⟨Nat.zero_le _, _, mkE_of ⟨rfl, rfl, rfl, trivial⟩, h.to⟩
  rintro k env w ⟨hk8, j, rfl, h⟩
  refine W.seq (W.region (WL.val (run_lss rfl rfl) rfl rfl (WL.nil (W.seq ?_))))
  refine W.condIf rfl (fun c114 => ?_) (fun c114 => ?_)
  ·
   refine W.skip (W.seq ?_)
   have hk7 : k < 8 := by omega
   have hsk : ((resetN u k).guest k).codes.length ≤ 1000000 := by rw [resetN_guest k (Nat.le_refl _)]; exact hsm1 k hk7
   refine W.block (W.seq (W.region (WL.val run_move rfl rfl (WL.val run_assign rfl rfl (WL.nil (W.region (WL.val run_move rfl rfl ?_)))))))
   refine WL.val run_move rfl rfl (WL.eff (eff_call Tryz.call105 (tell_ok (i := k) hk7 hsk h)) rfl rfl ?_)
   rintro _ w h
   have h : On W0 (UnP 84 146 152 bu pool ms (resetN u (k + 1)) :: _) w := h
   refine WL.nil (W.region (WL.val (run_incN rfl rfl (by omega)) rfl rfl (WL.val run_move rfl rfl (WL.nil ?_))))
   exact ⟨k + 1, ⟨by omega, _, mkE_of ⟨rfl, rfl, rfl, trivial⟩, h⟩, by show 8 - (k + 1) < 8 - k; omega⟩
  refine W.exit (W.seq (W.region (WL.val (run_buildS (pl := [(0, 1), (1, 1), (2, 1), (3, 1), (4, 1)]) (out := [.int .i64 _, .int .i64 _, .int .i64 _, .slice _ _ _, .int .i64 _]) Tryz.underlying36 Tryz.zeroValue36 (fun w => by kernel_rfl) rfl (trivial) rfl) rfl rfl (WL.eff (eff_storeW (vs := [.int .i64 _, .int .i64 _, .int .i64 _, .slice _ _ _, .int .i64 _]) h Tryz.sizeOf36 rfl rfl rfl rfl rfl) rfl rfl ?_))))
  rintro _ w h
  refine WL.nil (W.ret (bodyQ.rcB (vs := [.int .i64 _, .int .i64 _, .int .i64 _, .slice _ _ _, .int .i64 _]) h Tryz.results41 Tryz.isAgg36 Tryz.sizeOf36 rfl rfl rfl ?_))
  have ob_ : k = 8 := by omega
  obtain rfl := ob_
  have h : On W0 (OwnB (.slice none 0 0) (plain 0 0 0 : Rp).data :: _) w := h.ownEmpty 1 none
  exact ⟨(resetN u 8), plain 0 0 0, .slice none 0 0, (actM_reset (by show kind = 18; omega)), rfl, h.to⟩

theorem udo_ok {bu : Nat} {hh : Int} {u : Un} {pool : PoolL} {ms : List Nat} {kind at_ n key new typ : Int} {force : Bool} {data : List UInt8} {ax : Option Addr} {cx : Nat} (hsm : small 999000 u) (hgu_ : goodU u) (hcm : okCm (⟨kind, at_, n, data, key, new, typ, force⟩ : Cm)) (h : On W0 (UnP 84 146 152 bu pool ms u :: L) w) (C : Gives L (Bytes (.slice ax data.length cx) data)) (hd : data.length ≤ 1000000) : Calls Tryz.prog 13 #[.pointer (some ⟨bu, 0, none⟩), .int .i64 hh, (⟨kind, at_, n, data, key, new, typ, force⟩ : Cm).val (.slice ax data.length cx)] w (Ret fun v w' => ∃ u' r dv, doM u hh (⟨kind, at_, n, data, key, new, typ, force⟩ : Cm) = (u', r) ∧ v = r.val dv ∧ On W0 (OwnB dv r.data :: UnP 84 146 152 bu pool ms u' :: L) w') := by
  refine enter Tryz.func13 rfl Tryz.ntmps13 rfl (W.seq (W.region (WL.eff (eff_box (v := .agg _) (l := (⟨kind, at_, n, data, key, new, typ, force⟩ : Cm).cells (.slice ax data.length cx)) h rfl rfl) rfl rfl ?_)))
  rintro _ w ⟨b5, rfl, h⟩
  have h : On W0 (blk b5 [.int .i64 kind, .int .i64 at_, .int .i64 n, .slice ax data.length cx, .int .u64 key, .int .u64 new, .int .i64 typ, .bool force] 25 :: _) w := h
  refine WL.eff (eff_alloc h Tryz.zeroValue36 rfl) rfl rfl ?_
  rintro _ w ⟨b6, rfl, h⟩
  refine WL.nil (W.seq (W.seq (W.region (WL.val run_move rfl rfl (WL.eff (eff_call Tryz.call35 (uhost_ok h)) rfl rfl ?_)))))
  rintro _ w ⟨hv, h⟩
  have hcs := Bool.eq_false_or_eq_true (hostB hh)
  rcases hcs with hb | hb <;> (rw [hb] at hv; subst hv)
  ·
   refine WL.val (run_not rfl) rfl rfl (WL.val run_move rfl rfl (WL.val (run_fieldAddr 0 Tryz.underlying25 rfl Tryz.sizeOf3 rfl rfl) rfl rfl (WL.val (run_load1 Tryz.isAgg3 rfl (h.cellB rfl)) rfl rfl ?_)))
   refine WL.dec (run_lss rfl rfl) rfl rfl (fun c17 => ?_) (fun c17 => ?_)
   ·
    refine WL.val (run_pickF rfl) rfl rfl (WL.val run_move rfl rfl (WL.skip rfl rfl (WL.skip rfl rfl (WL.skip rfl rfl (WL.val (run_pickT rfl) rfl rfl (WL.nil (W.condT rfl ?_)))))))
    refine W.seq (W.region (WL.eff (eff_call Tryz.call36 (wrong_ok h)) rfl rfl ?_))
    rintro _ w ⟨rfl, h⟩
    refine WL.eff (eff_storeW (vs := [.int .i64 _, .int .i64 _, .int .i64 _, .slice _ _ _, .int .i64 _]) h Tryz.sizeOf36 rfl rfl rfl rfl rfl) rfl rfl ?_
    rintro _ w h
    refine WL.nil (W.ret (bodyQ.rcB (vs := [.int .i64 _, .int .i64 _, .int .i64 _, .slice _ _ _, .int .i64 _]) h Tryz.results13 Tryz.isAgg36 Tryz.sizeOf36 rfl rfl rfl ?_))
    have h : On W0 (OwnB (.slice none 0 0) (plain 2 5 8192 : Rp).data :: _) w := h.ownEmpty 1 none
    exact ⟨u, plain 2 5 8192, .slice none 0 0, (doM_bad (.inr (.inl c17))), rfl, h.to⟩
   refine WL.val (run_pickF rfl) rfl rfl (WL.val run_move rfl rfl (WL.val (run_fieldAddr 0 Tryz.underlying25 rfl Tryz.sizeOf3 rfl rfl) rfl rfl (WL.val (run_load1 Tryz.isAgg3 rfl (h.cellB rfl)) rfl rfl (WL.val (run_gtr rfl rfl) rfl rfl (WL.val (run_pickF rfl) rfl rfl (WL.nil ?_))))))
   refine W.condIf rfl (fun c2 => ?_) (fun c2 => ?_)
   ·
    refine W.seq (W.region (WL.eff (eff_call Tryz.call36 (wrong_ok h)) rfl rfl ?_))
    rintro _ w ⟨rfl, h⟩
    refine WL.eff (eff_storeW (vs := [.int .i64 _, .int .i64 _, .int .i64 _, .slice _ _ _, .int .i64 _]) h Tryz.sizeOf36 rfl rfl rfl rfl rfl) rfl rfl ?_
    rintro _ w h
    refine WL.nil (W.ret (bodyQ.rcB (vs := [.int .i64 _, .int .i64 _, .int .i64 _, .slice _ _ _, .int .i64 _]) h Tryz.results13 Tryz.isAgg36 Tryz.sizeOf36 rfl rfl rfl ?_))
    have h : On W0 (OwnB (.slice none 0 0) (plain 2 5 8192 : Rp).data :: _) w := h.ownEmpty 1 none
    exact ⟨u, plain 2 5 8192, .slice none 0 0, (doM_bad (.inr (.inr (by show 18 < kind; omega)))), rfl, h.to⟩
   refine W.skip (W.seq (W.seq ?_))
   have hb2 := hostB_iff.1 hb
   have ob_ := Int.eq_ofNat_of_zero_le hb2.1
   obtain ⟨i, hhi⟩ := ob_
   subst hhi
   have hi : i < 8 := by omega
   refine W.region (WL.val (run_fieldAddr 0 Tryz.underlying25 rfl Tryz.sizeOf3 rfl rfl) rfl rfl (WL.val (run_load1 Tryz.isAgg3 rfl (h.cellB rfl)) rfl rfl (WL.nil (W.block (W.seq (W.region (WL.val (run_eql rfl rfl) rfl rfl ?_)))))))
   refine WL.val run_assign rfl rfl (WL.nil ?_)
   refine W.condIf rfl (fun c9 => ?_) (fun c9 => ?_)
   ·
    refine W.seq (W.region (WL.val run_move rfl rfl (WL.val run_move rfl rfl (WL.eff (eff_call Tryz.call37 (told_ok hi (small_le hsm (by decide) i hi) (h.fetch (UnP 84 146 152 bu pool ms u)))) rfl rfl ?_))))
    rintro _ w hv
    rcases hv with ⟨x, l, hxl, rfl, h⟩ | ⟨hnil, rfl, h⟩
    ·
     have hx0 := hgu_.2 i hi x (by rw [hxl]; exact List.mem_cons_self ..)
     have ob_ := Int.eq_ofNat_of_zero_le hx0.1
     obtain ⟨x, hx1⟩ := ob_
     subst hx1
     refine WL.val run_move rfl rfl (WL.val (run_extract rfl rfl) rfl rfl (WL.val (run_extract rfl rfl) rfl rfl (WL.eff (eff_alloc h Tryz.zeroValue36 rfl) rfl rfl ?_)))
     rintro _ w ⟨b7, rfl, h⟩
     refine WL.eff (eff_storeW (vs := [.int .i64 _, .int .i64 _, .int .i64 _, .slice _ _ _, .int .i64 _]) h Tryz.sizeOf36 rfl rfl rfl rfl rfl) rfl rfl ?_
     rintro _ w h
     refine WL.val run_assign rfl rfl (WL.nil (W.seq (W.region (WL.val (run_loadB (vs := [.int .i64 _, .int .i64 _, .int .i64 _, .slice _ _ _, .int .i64 _]) h Tryz.isAgg36 Tryz.sizeOf36 rfl rfl rfl) rfl rfl (WL.eff (eff_call Tryz.call39 (senc_ok (s := 2) (k := 6) (c := x) (by decide) (by omega) h)) rfl rfl ?_)))))
     rintro _ w ⟨a44, rfl, h⟩
     refine WL.eff (eff_call Tryz.call38 (sgood_ok (bs := senseB 6 x) h (Gives.ownO (v := .slice a44 (senseB 6 x).length (senseB 6 x).length)) (by rw [senseB_len]; decide))) rfl rfl ?_
     rintro _ w ⟨a45, rfl, h⟩
     refine WL.eff (eff_storeW (vs := [.int .i64 _, .int .i64 _, .int .i64 _, .slice _ _ _, .int .i64 _]) h Tryz.sizeOf36 rfl rfl rfl rfl rfl) rfl rfl ?_
     rintro _ w h
     refine WL.nil (W.ret (bodyQ.rcB (vs := [.int .i64 _, .int .i64 _, .int .i64 _, .slice _ _ _, .int .i64 _]) h Tryz.results13 Tryz.isAgg36 Tryz.sizeOf36 rfl rfl rfl ?_))
     have h : On W0 (OwnB (.slice a45 ((senseB 6 x)).length ((senseB 6 x)).length) (gave ((senseB 6 x))).data :: _) w := h.fetch (OwnB (.slice a45 ((senseB 6 x)).length ((senseB 6 x)).length) ((senseB 6 x)))
     exact ⟨(u.putG i (u.guest i).pop), gave ((senseB 6 x)), .slice a45 ((senseB 6 x)).length ((senseB 6 x)).length, (by rw [doM_sense1 hi c9 hxl]; rfl), rfl, h.to⟩
    refine WL.val run_move rfl rfl (WL.val (run_extract rfl rfl) rfl rfl (WL.val (run_extract rfl rfl) rfl rfl (WL.eff (eff_alloc h Tryz.zeroValue36 rfl) rfl rfl ?_)))
    rintro _ w ⟨b7, rfl, h⟩
    refine WL.eff (eff_storeW (vs := [.int .i64 _, .int .i64 _, .int .i64 _, .slice _ _ _, .int .i64 _]) h Tryz.sizeOf36 rfl rfl rfl rfl rfl) rfl rfl ?_
    rintro _ w h
    refine WL.val run_assign rfl rfl (WL.nil (W.seq (W.region (WL.val (run_loadB (vs := [.int .i64 _, .int .i64 _, .int .i64 _, .slice _ _ _, .int .i64 _]) h Tryz.isAgg36 Tryz.sizeOf36 rfl rfl rfl) rfl rfl (WL.eff (eff_call Tryz.call39 (senc_ok (s := 0) (k := 0) (c := 0) (by decide) (by decide) h)) rfl rfl ?_)))))
    rintro _ w ⟨a44, rfl, h⟩
    refine WL.eff (eff_call Tryz.call38 (sgood_ok (bs := senseB 0 0) h (Gives.ownO (v := .slice a44 (senseB 0 0).length (senseB 0 0).length)) (by rw [senseB_len]; decide))) rfl rfl ?_
    rintro _ w ⟨a45, rfl, h⟩
    refine WL.eff (eff_storeW (vs := [.int .i64 _, .int .i64 _, .int .i64 _, .slice _ _ _, .int .i64 _]) h Tryz.sizeOf36 rfl rfl rfl rfl rfl) rfl rfl ?_
    rintro _ w h
    refine WL.nil (W.ret (bodyQ.rcB (vs := [.int .i64 _, .int .i64 _, .int .i64 _, .slice _ _ _, .int .i64 _]) h Tryz.results13 Tryz.isAgg36 Tryz.sizeOf36 rfl rfl rfl ?_))
    have h : On W0 (OwnB (.slice a45 ((senseB 0 0)).length ((senseB 0 0)).length) (gave ((senseB 0 0))).data :: _) w := h.fetch (OwnB (.slice a45 ((senseB 0 0)).length ((senseB 0 0)).length) ((senseB 0 0)))
    exact ⟨u, gave ((senseB 0 0)), .slice a45 ((senseB 0 0)).length ((senseB 0 0)).length, (doM_sense0 hi c9 hnil), rfl, h.to⟩
   refine W.seq (W.region (WL.val (run_eql rfl rfl) rfl rfl (WL.val run_assign rfl rfl (WL.nil ?_))))
   refine W.condIf rfl (fun c14 => ?_) (fun c14 => ?_)
   ·
    refine W.skip (W.seq (W.seq ?_))
    have ob_ := openU (h.fetch (UnP 84 146 152 bu pool ms u))
    obtain ⟨bs, bt, gs, hm, hl, h⟩ := ob_
    refine W.draw Tryz.follows h (fun w h => ?_)
    refine WT.pure 0 rfl (by kernel_rfl) (fun w' => run_move) rfl rfl (WT.pure 1 rfl (by kernel_rfl) (fun w' => (run_nilCheck rfl)) rfl rfl (WT.pure 2 rfl (by kernel_rfl) (fun w' => (run_fieldAddr 1 Tryz.underlying84 rfl Tryz.sizeOf76 rfl rfl)) rfl rfl (WT.load1 3 rfl (by kernel_rfl) Tryz.isAgg76 rfl (h.cellB rfl) rfl rfl (WT.pure 4 rfl (by kernel_rfl) (fun w' => run_move) rfl rfl (WT.pure 5 rfl (by kernel_rfl) (fun w' => (run_fieldAddr 0 Tryz.underlying25 rfl Tryz.sizeOf3 rfl rfl)) rfl rfl (WT.load1 6 rfl (by kernel_rfl) Tryz.isAgg3 rfl (h.cellB rfl) rfl rfl (WT.eff 7 [false, false] rfl (by kernel_rfl) (by kernel_rfl) (eff_call Tryz.call40 (allows_ok (b := bt) (t := u.t) (h.fetch (blk bt u.t.cells 152)))) rfl rfl ?_)))))))
    rintro _ w ⟨⟨r, rfl, hr⟩, h⟩
    have hcs := Bool.eq_false_or_eq_true r
    rcases hcs with hr2 | hr2 <;> (subst hr2)
    all_goals (refine ⟨trivial, ?_⟩)
    ·
     refine WT.pure 8 rfl (by kernel_rfl) (fun w' => (run_not rfl)) rfl rfl (WT.done (by kernel_rfl) ?_)
     have h := closeU (bu := bu) (u := u) hm hl ((((h.fetch (Big (GOwn pool) gs)).fetch (blk bt u.t.cells 152)).fetch (SpP 146 bs u.s)).fetch (blk bu (ucells bs bt gs) 84))
     refine W.condF rfl (W.skip (W.seq (W.region (WL.val run_move rfl rfl (WL.val run_move rfl rfl (WL.val (run_loadB (vs := [.int .i64 _, .int .i64 _, .int .i64 _, .slice _ _ _, .int .u64 _, .int .u64 _, .int .i64 _, .bool _]) h Tryz.isAgg25 Tryz.sizeOf25 rfl rfl rfl) rfl rfl (WL.eff (eff_call Tryz.call41 (uact_ok (u := u) (i := i) hi (by omega) (by omega) c9 hsm hgu_ hcm (h.fetch (UnP 84 146 152 bu pool ms u)) (Gives.to C) hd)) rfl rfl ?_)))))))
     rintro _ w ⟨u', r', dv', heq, rfl, h⟩
     have of_ := Own.form h
     obtain ⟨ad, cd, hdv, _⟩ := of_
     subst hdv
     refine WL.eff (eff_storeW (vs := [.int .i64 _, .int .i64 _, .int .i64 _, .slice _ _ _, .int .i64 _]) h Tryz.sizeOf36 rfl rfl rfl rfl rfl) rfl rfl ?_
     rintro _ w h
     refine WL.nil (W.ret (bodyQ.rcB (vs := [.int .i64 _, .int .i64 _, .int .i64 _, .slice _ _ _, .int .i64 _]) h Tryz.results13 Tryz.isAgg36 Tryz.sizeOf36 rfl rfl rfl ?_))
     have he : doM u i (⟨kind, at_, n, data, key, new, typ, force⟩ : Cm) = (u', r') := by rw [doM_go hi (by show 1 ≤ kind; omega) (by show kind ≤ 18; omega) c9 (.inl c14) (hr.1 rfl), heq]
     exact ⟨u', r', _, he, rfl, h.to⟩
    refine WT.pure 8 rfl (by kernel_rfl) (fun w' => (run_not rfl)) rfl rfl (WT.done (by kernel_rfl) ?_)
    have h := closeU (bu := bu) (u := u) hm hl ((((h.fetch (Big (GOwn pool) gs)).fetch (blk bt u.t.cells 152)).fetch (SpP 146 bs u.s)).fetch (blk bu (ucells bs bt gs) 84))
    refine W.condT rfl (W.seq (W.region (WL.val (run_buildS (pl := [(0, 1), (1, 1), (2, 1), (3, 1), (4, 1)]) (out := [.int .i64 _, .int .i64 _, .int .i64 _, .slice _ _ _, .int .i64 _]) Tryz.underlying36 Tryz.zeroValue36 (fun w => by kernel_rfl) rfl (⟨⟨_, _, rfl, rfl, by decide⟩, trivial⟩) rfl) rfl rfl (WL.eff (eff_storeW (vs := [.int .i64 _, .int .i64 _, .int .i64 _, .slice _ _ _, .int .i64 _]) h Tryz.sizeOf36 rfl rfl rfl rfl rfl) rfl rfl ?_))))
    rintro _ w h
    refine WL.nil (W.ret (bodyQ.rcB (vs := [.int .i64 _, .int .i64 _, .int .i64 _, .slice _ _ _, .int .i64 _]) h Tryz.results13 Tryz.isAgg36 Tryz.sizeOf36 rfl rfl rfl ?_))
    have h : On W0 (OwnB (.slice none 0 0) (plain 24 0 0 : Rp).data :: _) w := h.ownEmpty 1 none
    exact ⟨u, plain 24 0 0, .slice none 0 0, (doM_no hi (by show 1 ≤ kind; omega) (by show kind ≤ 18; omega) c9 (.inl c14) (fun ha => by cases hr.2 ha)), rfl, h.to⟩
   refine W.seq (W.region (WL.val run_move rfl rfl (WL.val run_move rfl rfl (WL.eff (eff_call Tryz.call37 (told_ok hi (small_le hsm (by decide) i hi) (h.fetch (UnP 84 146 152 bu pool ms u)))) rfl rfl ?_))))
   rintro _ w hv
   rcases hv with ⟨x, l, hxl, rfl, h⟩ | ⟨hnil, rfl, h⟩
   ·
    refine WL.val run_move rfl rfl (WL.val (run_extract rfl rfl) rfl rfl (WL.val (run_extract rfl rfl) rfl rfl (WL.eff (eff_alloc h Tryz.zeroValue36 rfl) rfl rfl ?_)))
    rintro _ w ⟨b9, rfl, h⟩
    refine WL.eff (eff_storeW (vs := [.int .i64 _, .int .i64 _, .int .i64 _, .slice _ _ _, .int .i64 _]) h Tryz.sizeOf36 rfl rfl rfl rfl rfl) rfl rfl ?_
    rintro _ w h
    refine WL.val run_assign rfl rfl (WL.nil (W.seq (W.region (WL.val run_move rfl rfl (WL.nil (W.condT rfl (W.seq ?_)))))))
    refine W.region (WL.val (run_loadB (vs := [.int .i64 _, .int .i64 _, .int .i64 _, .slice _ _ _, .int .i64 _]) h Tryz.isAgg36 Tryz.sizeOf36 rfl rfl rfl) rfl rfl (WL.eff (eff_storeW (vs := [.int .i64 _, .int .i64 _, .int .i64 _, .slice _ _ _, .int .i64 _]) h Tryz.sizeOf36 rfl rfl rfl rfl rfl) rfl rfl ?_))
    rintro _ w h
    refine WL.nil (W.ret (bodyQ.rcB (vs := [.int .i64 _, .int .i64 _, .int .i64 _, .slice _ _ _, .int .i64 _]) h Tryz.results13 Tryz.isAgg36 Tryz.sizeOf36 rfl rfl rfl ?_))
    have h : On W0 (OwnB (.slice none 0 0) (plain 2 6 x : Rp).data :: _) w := h.ownEmpty 1 none
    exact ⟨(u.putG i (u.guest i).pop), plain 2 6 x, .slice none 0 0, (doM_pop hi (by show 1 ≤ kind; omega) (by show kind ≤ 18; omega) c9 c14 hxl), rfl, h.to⟩
   refine WL.val run_move rfl rfl (WL.val (run_extract rfl rfl) rfl rfl (WL.val (run_extract rfl rfl) rfl rfl (WL.eff (eff_alloc h Tryz.zeroValue36 rfl) rfl rfl ?_)))
   rintro _ w ⟨b9, rfl, h⟩
   refine WL.eff (eff_storeW (vs := [.int .i64 _, .int .i64 _, .int .i64 _, .slice _ _ _, .int .i64 _]) h Tryz.sizeOf36 rfl rfl rfl rfl rfl) rfl rfl ?_
   rintro _ w h
   refine WL.val run_assign rfl rfl (WL.nil (W.seq (W.region (WL.val run_move rfl rfl (WL.nil (W.condF rfl (W.skip ?_)))))))
   refine W.seq (W.seq ?_)
   have ob_ := openU (h.fetch (UnP 84 146 152 bu pool ms u))
   obtain ⟨bs, bt, gs, hm, hl, h⟩ := ob_
   refine W.draw Tryz.follows h (fun w h => ?_)
   refine WT.pure 0 rfl (by kernel_rfl) (fun w' => run_move) rfl rfl (WT.pure 1 rfl (by kernel_rfl) (fun w' => (run_nilCheck rfl)) rfl rfl (WT.pure 2 rfl (by kernel_rfl) (fun w' => (run_fieldAddr 1 Tryz.underlying84 rfl Tryz.sizeOf76 rfl rfl)) rfl rfl (WT.load1 3 rfl (by kernel_rfl) Tryz.isAgg76 rfl (h.cellB rfl) rfl rfl (WT.pure 4 rfl (by kernel_rfl) (fun w' => run_move) rfl rfl (WT.pure 5 rfl (by kernel_rfl) (fun w' => (run_fieldAddr 0 Tryz.underlying25 rfl Tryz.sizeOf3 rfl rfl)) rfl rfl (WT.load1 6 rfl (by kernel_rfl) Tryz.isAgg3 rfl (h.cellB rfl) rfl rfl (WT.eff 7 [false, false] rfl (by kernel_rfl) (by kernel_rfl) (eff_call Tryz.call40 (allows_ok (b := bt) (t := u.t) (h.fetch (blk bt u.t.cells 152)))) rfl rfl ?_)))))))
   rintro _ w ⟨⟨r, rfl, hr⟩, h⟩
   have hcs := Bool.eq_false_or_eq_true r
   rcases hcs with hr2 | hr2 <;> (subst hr2)
   all_goals (refine ⟨trivial, ?_⟩)
   ·
    refine WT.pure 8 rfl (by kernel_rfl) (fun w' => (run_not rfl)) rfl rfl (WT.done (by kernel_rfl) ?_)
    have h := closeU (bu := bu) (u := u) hm hl ((((h.fetch (Big (GOwn pool) gs)).fetch (blk bt u.t.cells 152)).fetch (SpP 146 bs u.s)).fetch (blk bu (ucells bs bt gs) 84))
    refine W.condF rfl (W.skip (W.seq (W.region (WL.val run_move rfl rfl (WL.val run_move rfl rfl (WL.val (run_loadB (vs := [.int .i64 _, .int .i64 _, .int .i64 _, .slice _ _ _, .int .u64 _, .int .u64 _, .int .i64 _, .bool _]) h Tryz.isAgg25 Tryz.sizeOf25 rfl rfl rfl) rfl rfl (WL.eff (eff_call Tryz.call41 (uact_ok (u := u) (i := i) hi (by omega) (by omega) c9 hsm hgu_ hcm (h.fetch (UnP 84 146 152 bu pool ms u)) (Gives.to C) hd)) rfl rfl ?_)))))))
    rintro _ w ⟨u', r', dv', heq, rfl, h⟩
    have of_ := Own.form h
    obtain ⟨ad, cd, hdv, _⟩ := of_
    subst hdv
    refine WL.eff (eff_storeW (vs := [.int .i64 _, .int .i64 _, .int .i64 _, .slice _ _ _, .int .i64 _]) h Tryz.sizeOf36 rfl rfl rfl rfl rfl) rfl rfl ?_
    rintro _ w h
    refine WL.nil (W.ret (bodyQ.rcB (vs := [.int .i64 _, .int .i64 _, .int .i64 _, .slice _ _ _, .int .i64 _]) h Tryz.results13 Tryz.isAgg36 Tryz.sizeOf36 rfl rfl rfl ?_))
    have he : doM u i (⟨kind, at_, n, data, key, new, typ, force⟩ : Cm) = (u', r') := by rw [doM_go hi (by show 1 ≤ kind; omega) (by show kind ≤ 18; omega) c9 (.inr hnil) (hr.1 rfl), heq]
    exact ⟨u', r', _, he, rfl, h.to⟩
   refine WT.pure 8 rfl (by kernel_rfl) (fun w' => (run_not rfl)) rfl rfl (WT.done (by kernel_rfl) ?_)
   have h := closeU (bu := bu) (u := u) hm hl ((((h.fetch (Big (GOwn pool) gs)).fetch (blk bt u.t.cells 152)).fetch (SpP 146 bs u.s)).fetch (blk bu (ucells bs bt gs) 84))
   refine W.condT rfl (W.seq (W.region (WL.val (run_buildS (pl := [(0, 1), (1, 1), (2, 1), (3, 1), (4, 1)]) (out := [.int .i64 _, .int .i64 _, .int .i64 _, .slice _ _ _, .int .i64 _]) Tryz.underlying36 Tryz.zeroValue36 (fun w => by kernel_rfl) rfl (⟨⟨_, _, rfl, rfl, by decide⟩, trivial⟩) rfl) rfl rfl (WL.eff (eff_storeW (vs := [.int .i64 _, .int .i64 _, .int .i64 _, .slice _ _ _, .int .i64 _]) h Tryz.sizeOf36 rfl rfl rfl rfl rfl) rfl rfl ?_))))
   rintro _ w h
   refine WL.nil (W.ret (bodyQ.rcB (vs := [.int .i64 _, .int .i64 _, .int .i64 _, .slice _ _ _, .int .i64 _]) h Tryz.results13 Tryz.isAgg36 Tryz.sizeOf36 rfl rfl rfl ?_))
   have h : On W0 (OwnB (.slice none 0 0) (plain 24 0 0 : Rp).data :: _) w := h.ownEmpty 1 none
   exact ⟨u, plain 24 0 0, .slice none 0 0, (doM_no hi (by show 1 ≤ kind; omega) (by show kind ≤ 18; omega) c9 (.inr hnil) (fun ha => by cases hr.2 ha)), rfl, h.to⟩
  refine WL.val (run_not rfl) rfl rfl (WL.val run_move rfl rfl (WL.skip rfl rfl (WL.skip rfl rfl (WL.skip rfl rfl (WL.val (run_pickT rfl) rfl rfl (WL.val run_move rfl rfl (WL.skip rfl rfl ?_)))))))
  refine WL.skip rfl rfl (WL.skip rfl rfl (WL.val (run_pickT rfl) rfl rfl (WL.nil (W.condT rfl (W.seq (W.region (WL.eff (eff_call Tryz.call36 (wrong_ok h)) rfl rfl ?_)))))))
  rintro _ w ⟨rfl, h⟩
  refine WL.eff (eff_storeW (vs := [.int .i64 _, .int .i64 _, .int .i64 _, .slice _ _ _, .int .i64 _]) h Tryz.sizeOf36 rfl rfl rfl rfl rfl) rfl rfl ?_
  rintro _ w h
  refine WL.nil (W.ret (bodyQ.rcB (vs := [.int .i64 _, .int .i64 _, .int .i64 _, .slice _ _ _, .int .i64 _]) h Tryz.results13 Tryz.isAgg36 Tryz.sizeOf36 rfl rfl rfl ?_))
  have h : On W0 (OwnB (.slice none 0 0) (plain 2 5 8192 : Rp).data :: _) w := h.ownEmpty 1 none
  exact ⟨u, plain 2 5 8192, .slice none 0 0, (doM_bad (.inl hb)), rfl, h.to⟩

end Go.Proofs.YtdpakoefdpmebaaGreat
