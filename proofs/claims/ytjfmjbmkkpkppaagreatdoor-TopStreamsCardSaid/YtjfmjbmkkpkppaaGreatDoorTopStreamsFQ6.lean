/-
  Texts of a proof as one.
-/
import Derived.Test.YtjfmjbmkkpkppaaGreatDoorTopStreamsFQ5
import Derived.Test.YtjfmjbmkkpkppaaGreatDoorTopStreamsFQ4
import Derived.Test.YtjfmjbmkkpkppaaGreatDoorTopStreamsFQ1
import Derived.Test.YtjfmjbmkkpkppaaGreatDoorTopStreamsFQ3
import Derived.Test.YtjfmjbmkkpkppaaGreatDoorTopStreamsFQ2
set_option linter.unusedVariables false
set_option linter.unusedSimpArgs false
namespace Go.Proofs.YtjfmjbmkkpkppaaGreatDoor
open Go.Proofs.Tryz
open Go Go.Sl Go.Sl.BitM Go.Sl.SpM Go.Sl.RsM Go.Sl.ByM Go.Sl.UnM
set_option maxHeartbeats 1000000
set_option maxRecDepth 8000
variable {W0 w : World} {L F : List HProp}
theorem ukey_ok {b : Nat} {t : Tb} {hh : Int} (h : On W0 (blk b t.cells 154 :: L) w) : Calls Tryz.prog 96 #[.pointer (some ⟨b, 0, none⟩), .int .i64 hh] w (Ret fun v w' => v = .int .u64 (if hostB hh = true then t.K hh.toNat else 0) ∧ On W0 (blk b t.cells 154 :: L) w') := by
 refine enter func96 rfl ntmps96 rfl (W.sr (WL.z (W.seq (W.sr ?_))))
 refine WL.m (WL.e (eff_call call80 (host_ok h)) ?_)
 rintro _ w ⟨hv, h⟩
 have hcs := Bool.eq_false_or_eq_true (hostB hh)
 rcases hcs with hb | hb <;> (rw [hb] at hv; subst hv)
 ·
  refine WL.v (run_not rfl) (WL.nil (W.cs (W.seq ?_)))
  have ob_ := hostB_iff.1 hb
  obtain ⟨hi0, hi8⟩ := ob_
  have ob_ := Int.eq_ofNat_of_zero_le hi0
  obtain ⟨i, rfl⟩ := ob_
  have hi : i < 8 := by omega
  refine W.region (WL.m (WL.m (WL.n rfl (WL.f 0 underlying154 rfl sizeOf152 rfl rfl (WL.v (run_indexAddrArr underlying152 sizeOf27 rfl rfl (by omega) (by omega)) (WL.l isAgg27 rfl (h.cellB (cells_at hi)) (WL.a ?_)))))))
  refine WL.nil (W.ret (bodyQ.r1 (v := .int .u64 _) results96 rfl ?_))
  exact ⟨by rw [if_pos hb]; rfl, h⟩
 refine WL.v (run_not rfl) (WL.nil (W.ct (W.sr (WL.z (W.ret ?_)))))
 refine bodyQ.r1 (v := .int .u64 _) results96 rfl ?_
 exact ⟨by rw [hb]; rfl, h⟩
theorem uact_ok {bu i : Nat} {u : Un} {pool : PoolL} {ms : List Nat} {kind at_ n key new typ : Int} {force : Bool} {data : List UInt8} {ax : Option Addr} {cx : Nat} (hi : i < 8) (hk1 : 1 ≤ kind) (hk : kind ≤ 18) (hk9 : kind ≠ 9) (hsm : small 999000 u) (hgu_ : goodU u) (hcm : okCm (⟨kind, at_, n, data, key, new, typ, force⟩ : Cm)) (h : On W0 (UnP 108 151 154 bu pool ms u :: L) w) (C : Gives L (Bytes (.slice ax data.length cx) data)) (hd : data.length ≤ 1000000) : Calls Tryz.prog 60 #[.pointer (some ⟨bu, 0, none⟩), .int .i64 (i : Int), (⟨kind, at_, n, data, key, new, typ, force⟩ : Cm).val (.slice ax data.length cx)] w (Ret fun v w' => ∃ u' r dv, actM u i (⟨kind, at_, n, data, key, new, typ, force⟩ : Cm) = (u', r) ∧ v = r.val dv ∧ On W0 (OwnB dv r.data :: UnP 108 151 154 bu pool ms u' :: L) w') := by
 refine enter func60 rfl ntmps60 rfl ?_
 have hul := On.unLen h
 obtain ⟨hl8, hwf⟩ := hul
 have hgt := hgu_.1
 have hgok := hgt.1
 have egen : u.t.gen = ((u.t.gen.toNat : Nat) : Int) := by have := hgok.2; omega
 have hsm1 := small_le hsm (show 999000 ≤ 1000000 by decide)
 refine W.sr (WL.e (eff_box (v := .agg _) (l := (⟨kind, at_, n, data, key, new, typ, force⟩ : Cm).cells (.slice ax data.length cx)) h rfl rfl) ?_)
 rintro _ w ⟨b5, rfl, h⟩
 have h : On W0 (blk b5 [.int .i64 kind, .int .i64 at_, .int .i64 n, .slice ax data.length cx, .int .u64 key, .int .u64 new, .int .i64 typ, .bool force] 29 :: _) w := h
 refine WL.e (eff_alloc h zeroValue44 rfl) ?_
 rintro _ w ⟨b6, rfl, h⟩
 refine WL.nil (W.seq (W.sr (WL.c 0 underlying29 rfl sizeOf3 rfl isAgg3 h rfl (WL.nil (W.block ?_)))))
 refine W.seq (W.block (W.seq (W.block (W.seq (W.block (W.seq (W.block ?_)))))))
 refine W.seq (W.block (W.seq (W.block (W.seq (W.block (W.block (W.seq ?_)))))))
 refine W.block (W.seq (W.block (W.seq (W.block (W.seq (W.block (W.seq ?_)))))))
 refine W.seq (W.sr (WL.v (run_eql rfl rfl) (WL.z ?_)))
 refine W.condIf rfl (fun c16 => ?_) (fun c16 => ?_)
 ·
  refine W.exit (W.seq (W.sr (WL.v (run_buildS (pl := qp0) (out := qv0) underlying44 zeroValue44 (fun w => by kernel_rfl) rfl (trivial) rfl) (WL.e (eff_storeW (vs := qv0) h sizeOf44 rfl rfl rfl rfl rfl) ?_))))
  rintro _ w h
  refine WL.nil (W.ret (bodyQ.rcB (vs := qv0) h results60 isAgg44 sizeOf44 rfl rfl rfl ?_))
  have h : On W0 (OwnB (.slice none 0 0) (plain 0 0 0 : Rp).data :: _) w := h.ownEmpty 1 none
  exact ⟨u, plain 0 0 0, .slice none 0 0, (by unfold actM; rw [if_pos c16]), rfl, h.to⟩
 refine W.skip (W.seq (W.sr (WL.v (run_eql rfl rfl) (WL.z ?_))))
 refine W.condIf rfl (fun c20 => ?_) (fun c20 => ?_)
 ·
  refine W.exit (W.seq (W.sr (WL.e (eff_call call81 (inquiry_ok h)) ?_)))
  rintro _ w ⟨a41, rfl, h⟩
  refine WL.e (eff_call call58 (sgood_ok (bs := inqB) h (Gives.ownO (v := .slice a41 inqB.length inqB.length)) (by decide))) ?_
  rintro _ w ⟨a42, rfl, h⟩
  refine WL.e (eff_storeW (vs := qv0) h sizeOf44 rfl rfl rfl rfl rfl) ?_
  rintro _ w h
  refine WL.nil (W.ret (bodyQ.rcB (vs := qv0) h results60 isAgg44 sizeOf44 rfl rfl rfl ?_))
  have h : On W0 (OwnB (.slice a42 (inqB).length (inqB).length) (gave (inqB)).data :: _) w := h.fetch (OwnB (.slice a42 (inqB).length (inqB).length) (inqB))
  exact ⟨u, gave (inqB), .slice a42 (inqB).length (inqB).length, (by unfold actM; rw [if_neg c16, if_pos c20]), rfl, h.to⟩
 refine W.skip (W.seq (W.sr (WL.v (run_eql rfl rfl) (WL.z ?_))))
 refine W.condIf rfl (fun c24 => ?_) (fun c24 => ?_)
 ·
  refine W.exit (W.seq (W.sr (WL.m (WL.e (eff_call call83 (ublocks_ok (h.fetch (UnP 108 151 154 bu pool ms u)))) ?_))))
  rintro _ w ⟨rfl, h⟩
  refine WL.e (eff_call call82 (capacity_ok (n := u.s.N) hwf.2.1 hwf.2.2.1 h)) ?_
  rintro _ w ⟨a45, rfl, h⟩
  refine WL.e (eff_call call58 (sgood_ok (bs := capB u.s.N) h (Gives.ownO (v := .slice a45 (capB u.s.N).length (capB u.s.N).length)) (by unfold capB; rw [List.length_append, be_length, be_length]; decide))) ?_
  rintro _ w ⟨a46, rfl, h⟩
  refine WL.e (eff_storeW (vs := qv0) h sizeOf44 rfl rfl rfl rfl rfl) ?_
  rintro _ w h
  refine WL.nil (W.ret (bodyQ.rcB (vs := qv0) h results60 isAgg44 sizeOf44 rfl rfl rfl ?_))
  have h : On W0 (OwnB (.slice a46 ((capB u.s.N)).length ((capB u.s.N)).length) (gave ((capB u.s.N))).data :: _) w := h.fetch (OwnB (.slice a46 ((capB u.s.N)).length ((capB u.s.N)).length) ((capB u.s.N)))
  exact ⟨u, gave ((capB u.s.N)), .slice a46 ((capB u.s.N)).length ((capB u.s.N)).length, (by unfold actM; rw [if_neg c16, if_neg c20, if_pos c24]), rfl, h.to⟩
 refine W.skip (W.seq (W.seq (W.sr (WL.v (run_eql rfl rfl) (WL.z ?_)))))
 refine W.condIf rfl (fun c28 => ?_) (fun c28 => ?_)
 ·
  refine W.skip ?_
  refine W.condIf rfl (fun c40 => ?_) (fun c40 => ?_)
  ·
   refine W.exit (W.seq (W.sr (WL.m (WL.v (run_loadB (vs := qv3) h isAgg29 sizeOf29 rfl rfl rfl) (WL.e (eff_call call84 (urun_ok (u := u) (h.fetch (UnP 108 151 154 bu pool ms u)) (Gives.to C) hd)) ?_)))))
   rintro _ w ⟨s', r', dv', heq, rfl, h⟩
   have of_ := Own.form h
   obtain ⟨ad, cd, hdv, _⟩ := of_
   subst hdv
   refine WL.e (eff_storeW (vs := qv0) h sizeOf44 rfl rfl rfl rfl rfl) ?_
   rintro _ w h
   refine WL.nil (W.ret (bodyQ.rcB (vs := qv0) h results60 isAgg44 sizeOf44 rfl rfl rfl ?_))
   have he : actM u i (⟨kind, at_, n, data, key, new, typ, force⟩ : Cm) = (u.setS s', r') := by rw [actM_run (by show 2 ≤ kind; omega) (by show kind ≤ 6; omega), heq]
   exact ⟨u.setS s', r', _, he, rfl, h.to⟩
  exact absurd c40 (not_not_intro (by omega))
 refine W.sr (WL.v (run_eql rfl rfl) (WL.z ?_))
 refine W.condIf rfl (fun c31 => ?_) (fun c31 => ?_)
 ·
  refine W.skip ?_
  refine W.condIf rfl (fun c40 => ?_) (fun c40 => ?_)
  ·
   refine W.exit (W.seq (W.sr (WL.m (WL.v (run_loadB (vs := qv3) h isAgg29 sizeOf29 rfl rfl rfl) (WL.e (eff_call call84 (urun_ok (u := u) (h.fetch (UnP 108 151 154 bu pool ms u)) (Gives.to C) hd)) ?_)))))
   rintro _ w ⟨s', r', dv', heq, rfl, h⟩
   have of_ := Own.form h
   obtain ⟨ad, cd, hdv, _⟩ := of_
   subst hdv
   refine WL.e (eff_storeW (vs := qv0) h sizeOf44 rfl rfl rfl rfl rfl) ?_
   rintro _ w h
   refine WL.nil (W.ret (bodyQ.rcB (vs := qv0) h results60 isAgg44 sizeOf44 rfl rfl rfl ?_))
   have he : actM u i (⟨kind, at_, n, data, key, new, typ, force⟩ : Cm) = (u.setS s', r') := by rw [actM_run (by show 2 ≤ kind; omega) (by show kind ≤ 6; omega), heq]
   exact ⟨u.setS s', r', _, he, rfl, h.to⟩
  exact absurd c40 (not_not_intro (by omega))
 refine W.sr (WL.v (run_eql rfl rfl) (WL.z ?_))
 refine W.condIf rfl (fun c34 => ?_) (fun c34 => ?_)
 ·
  refine W.skip ?_
  refine W.condIf rfl (fun c40 => ?_) (fun c40 => ?_)
  ·
   refine W.exit (W.seq (W.sr (WL.m (WL.v (run_loadB (vs := qv3) h isAgg29 sizeOf29 rfl rfl rfl) (WL.e (eff_call call84 (urun_ok (u := u) (h.fetch (UnP 108 151 154 bu pool ms u)) (Gives.to C) hd)) ?_)))))
   rintro _ w ⟨s', r', dv', heq, rfl, h⟩
   have of_ := Own.form h
   obtain ⟨ad, cd, hdv, _⟩ := of_
   subst hdv
   refine WL.e (eff_storeW (vs := qv0) h sizeOf44 rfl rfl rfl rfl rfl) ?_
   rintro _ w h
   refine WL.nil (W.ret (bodyQ.rcB (vs := qv0) h results60 isAgg44 sizeOf44 rfl rfl rfl ?_))
   have he : actM u i (⟨kind, at_, n, data, key, new, typ, force⟩ : Cm) = (u.setS s', r') := by rw [actM_run (by show 2 ≤ kind; omega) (by show kind ≤ 6; omega), heq]
   exact ⟨u.setS s', r', _, he, rfl, h.to⟩
  exact absurd c40 (not_not_intro (by omega))
 refine W.sr (WL.v (run_eql rfl rfl) (WL.z ?_))
 refine W.condIf rfl (fun c37 => ?_) (fun c37 => ?_)
 ·
  refine W.skip ?_
  refine W.condIf rfl (fun c40 => ?_) (fun c40 => ?_)
  ·
   refine W.exit (W.seq (W.sr (WL.m (WL.v (run_loadB (vs := qv3) h isAgg29 sizeOf29 rfl rfl rfl) (WL.e (eff_call call84 (urun_ok (u := u) (h.fetch (UnP 108 151 154 bu pool ms u)) (Gives.to C) hd)) ?_)))))
   rintro _ w ⟨s', r', dv', heq, rfl, h⟩
   have of_ := Own.form h
   obtain ⟨ad, cd, hdv, _⟩ := of_
   subst hdv
   refine WL.e (eff_storeW (vs := qv0) h sizeOf44 rfl rfl rfl rfl rfl) ?_
   rintro _ w h
   refine WL.nil (W.ret (bodyQ.rcB (vs := qv0) h results60 isAgg44 sizeOf44 rfl rfl rfl ?_))
   have he : actM u i (⟨kind, at_, n, data, key, new, typ, force⟩ : Cm) = (u.setS s', r') := by rw [actM_run (by show 2 ≤ kind; omega) (by show kind ≤ 6; omega), heq]
   exact ⟨u.setS s', r', _, he, rfl, h.to⟩
  exact absurd c40 (not_not_intro (by omega))
 refine W.region (WL.v (run_eql rfl rfl) (WL.z ?_))
 refine W.condIf rfl (fun c40 => ?_) (fun c40 => ?_)
 ·
  refine W.exit (W.seq (W.sr (WL.m (WL.v (run_loadB (vs := qv3) h isAgg29 sizeOf29 rfl rfl rfl) (WL.e (eff_call call84 (urun_ok (u := u) (h.fetch (UnP 108 151 154 bu pool ms u)) (Gives.to C) hd)) ?_)))))
  rintro _ w ⟨s', r', dv', heq, rfl, h⟩
  have of_ := Own.form h
  obtain ⟨ad, cd, hdv, _⟩ := of_
  subst hdv
  refine WL.e (eff_storeW (vs := qv0) h sizeOf44 rfl rfl rfl rfl rfl) ?_
  rintro _ w h
  refine WL.nil (W.ret (bodyQ.rcB (vs := qv0) h results60 isAgg44 sizeOf44 rfl rfl rfl ?_))
  have he : actM u i (⟨kind, at_, n, data, key, new, typ, force⟩ : Cm) = (u.setS s', r') := by rw [actM_run (by show 2 ≤ kind; omega) (by show kind ≤ 6; omega), heq]
  exact ⟨u.setS s', r', _, he, rfl, h.to⟩
 refine W.skip (W.seq (W.sr (WL.v (run_eql rfl rfl) (WL.z ?_))))
 refine W.condIf rfl (fun c44 => ?_) (fun c44 => ?_)
 ·
  refine W.exit (W.seq (W.seq ?_))
  have ob_ := openU (h.fetch (UnP 108 151 154 bu pool ms u))
  obtain ⟨bs, bt, gs, hm, hl, h⟩ := ob_
  refine W.draw Tryz.follows h (fun w h => ?_)
  refine WT.m 0 rfl (WT.m 1 rfl (WT.n 2 rfl rfl (WT.f 3 1 rfl underlying108 rfl sizeOf100 rfl rfl (WT.l 4 rfl isAgg100 rfl (h.cellB rfl) (WT.m 5 rfl (WT.f 6 4 rfl underlying29 rfl sizeOf27 rfl rfl (WT.l 7 rfl isAgg27 rfl (h.cellB rfl) ?_)))))))
  refine WT.f 8 5 rfl underlying29 rfl sizeOf27 rfl rfl (WT.l 9 rfl isAgg27 rfl (h.cellB rfl) (WT.f 10 0 rfl underlying29 rfl sizeOf3 rfl rfl (WT.l 11 rfl isAgg3 rfl (h.cellB rfl) (WT.p 12 rfl (fun w' => (run_eql rfl rfl)) (WT.e 13 [false, false, false, false] rfl (eff_call call86 (uregister_ok (key := key) (fresh := new) (ign := decide (kind = 11)) (i := i) (t := u.t) hi (h.fetch (blk bt u.t.cells 154)))) ?_)))))
  rintro v63 w ⟨a63, c63, hv63, h⟩
  have hX := rvM_reg (t := u.t) (i := i) (c := (⟨kind, at_, n, data, key, new, typ, force⟩ : Cm)) (show kind = 10 ∨ kind = 11 by omega)
  rw [← hX] at hv63 h
  subst hv63
  have h := closeU (bu := bu) (u := u.setT (rvM u.t i (⟨kind, at_, n, data, key, new, typ, force⟩ : Cm)).t) hm hl ((((h.fetch (Big (GOwn pool) gs)).fetch (blk bt (rvM u.t i (⟨kind, at_, n, data, key, new, typ, force⟩ : Cm)).t.cells 154)).fetch (SpP 151 bs u.s)).fetch (blk bu (ucells bs bt gs) 108))
  refine ⟨trivial, ?_⟩
  refine WT.p 14 rfl (fun w' => (run_extract rfl rfl)) (WT.p 15 rfl (fun w' => (run_extract rfl rfl)) ?_)
  refine WT.e 16 [] rfl (eff_call call85 (unoticed_ok (bu := bu) (u := u.setT (rvM u.t i (⟨kind, at_, n, data, key, new, typ, force⟩ : Cm)).t) (l := (rvM u.t i (⟨kind, at_, n, data, key, new, typ, force⟩ : Cm)).l) (code := (rvM u.t i (⟨kind, at_, n, data, key, new, typ, force⟩ : Cm)).code) (a := a63) (c := c63) (rv := (rvM u.t i (⟨kind, at_, n, data, key, new, typ, force⟩ : Cm)).r.val (.slice none 0 0)) (z0 := (rvM u.t i (⟨kind, at_, n, data, key, new, typ, force⟩ : Cm)).r.st) (z1 := (rvM u.t i (⟨kind, at_, n, data, key, new, typ, force⟩ : Cm)).r.key) (z2 := (rvM u.t i (⟨kind, at_, n, data, key, new, typ, force⟩ : Cm)).r.code) (z4 := (rvM u.t i (⟨kind, at_, n, data, key, new, typ, force⟩ : Cm)).r.info) rvM_l.2.2.2 rvM_l.2.1 hsm rfl ((h.fetch (Own 2 (.slice a63 (rvM u.t i (⟨kind, at_, n, data, key, new, typ, force⟩ : Cm)).l.length c63) (rvM u.t i (⟨kind, at_, n, data, key, new, typ, force⟩ : Cm)).l.length (notesV (rvM u.t i (⟨kind, at_, n, data, key, new, typ, force⟩ : Cm)).code (rvM u.t i (⟨kind, at_, n, data, key, new, typ, force⟩ : Cm)).l))).fetch (UnP 108 151 154 bu pool ms (u.setT (rvM u.t i (⟨kind, at_, n, data, key, new, typ, force⟩ : Cm)).t))))) ?_
  rintro _ w ⟨rfl, h⟩
  refine ⟨trivial, ?_⟩
  refine WT.e 17 [] rfl (eff_storeW (vs := qv0) h sizeOf44 rfl rfl rfl rfl rfl) ?_
  rintro _ w h
  refine ⟨trivial, ?_⟩
  refine WT.dn (W.ret (bodyQ.rcB (vs := qv0) h results60 isAgg44 sizeOf44 rfl rfl rfl ?_))
  have he := actM_rv (u := u) (i := i) (c := (⟨kind, at_, n, data, key, new, typ, force⟩ : Cm)) (by show 10 ≤ kind; omega) (by show kind ≤ 15; omega)
  have h := On.nilData (r := (rvM u.t i (⟨kind, at_, n, data, key, new, typ, force⟩ : Cm)).r) rvM_r h
  exact ⟨_, _, .slice none 0 0, he, rfl, h.to⟩
 refine W.skip (W.seq (W.sr (WL.v (run_eql rfl rfl) (WL.z ?_))))
 refine W.condIf rfl (fun c48 => ?_) (fun c48 => ?_)
 ·
  refine W.exit (W.seq (W.seq ?_))
  have ob_ := openU (h.fetch (UnP 108 151 154 bu pool ms u))
  obtain ⟨bs, bt, gs, hm, hl, h⟩ := ob_
  refine W.draw Tryz.follows h (fun w h => ?_)
  refine WT.m 0 rfl (WT.m 1 rfl (WT.n 2 rfl rfl (WT.f 3 1 rfl underlying108 rfl sizeOf100 rfl rfl (WT.l 4 rfl isAgg100 rfl (h.cellB rfl) (WT.m 5 rfl (WT.f 6 4 rfl underlying29 rfl sizeOf27 rfl rfl (WT.l 7 rfl isAgg27 rfl (h.cellB rfl) ?_)))))))
  refine WT.f 8 5 rfl underlying29 rfl sizeOf27 rfl rfl (WT.l 9 rfl isAgg27 rfl (h.cellB rfl) (WT.f 10 0 rfl underlying29 rfl sizeOf3 rfl rfl (WT.l 11 rfl isAgg3 rfl (h.cellB rfl) (WT.p 12 rfl (fun w' => (run_eql rfl rfl)) (WT.e 13 [false, false, false, false] rfl (eff_call call86 (uregister_ok (key := key) (fresh := new) (ign := decide (kind = 11)) (i := i) (t := u.t) hi (h.fetch (blk bt u.t.cells 154)))) ?_)))))
  rintro v63 w ⟨a63, c63, hv63, h⟩
  have hX := rvM_reg (t := u.t) (i := i) (c := (⟨kind, at_, n, data, key, new, typ, force⟩ : Cm)) (show kind = 10 ∨ kind = 11 by omega)
  rw [← hX] at hv63 h
  subst hv63
  have h := closeU (bu := bu) (u := u.setT (rvM u.t i (⟨kind, at_, n, data, key, new, typ, force⟩ : Cm)).t) hm hl ((((h.fetch (Big (GOwn pool) gs)).fetch (blk bt (rvM u.t i (⟨kind, at_, n, data, key, new, typ, force⟩ : Cm)).t.cells 154)).fetch (SpP 151 bs u.s)).fetch (blk bu (ucells bs bt gs) 108))
  refine ⟨trivial, ?_⟩
  refine WT.p 14 rfl (fun w' => (run_extract rfl rfl)) (WT.p 15 rfl (fun w' => (run_extract rfl rfl)) ?_)
  refine WT.e 16 [] rfl (eff_call call85 (unoticed_ok (bu := bu) (u := u.setT (rvM u.t i (⟨kind, at_, n, data, key, new, typ, force⟩ : Cm)).t) (l := (rvM u.t i (⟨kind, at_, n, data, key, new, typ, force⟩ : Cm)).l) (code := (rvM u.t i (⟨kind, at_, n, data, key, new, typ, force⟩ : Cm)).code) (a := a63) (c := c63) (rv := (rvM u.t i (⟨kind, at_, n, data, key, new, typ, force⟩ : Cm)).r.val (.slice none 0 0)) (z0 := (rvM u.t i (⟨kind, at_, n, data, key, new, typ, force⟩ : Cm)).r.st) (z1 := (rvM u.t i (⟨kind, at_, n, data, key, new, typ, force⟩ : Cm)).r.key) (z2 := (rvM u.t i (⟨kind, at_, n, data, key, new, typ, force⟩ : Cm)).r.code) (z4 := (rvM u.t i (⟨kind, at_, n, data, key, new, typ, force⟩ : Cm)).r.info) rvM_l.2.2.2 rvM_l.2.1 hsm rfl ((h.fetch (Own 2 (.slice a63 (rvM u.t i (⟨kind, at_, n, data, key, new, typ, force⟩ : Cm)).l.length c63) (rvM u.t i (⟨kind, at_, n, data, key, new, typ, force⟩ : Cm)).l.length (notesV (rvM u.t i (⟨kind, at_, n, data, key, new, typ, force⟩ : Cm)).code (rvM u.t i (⟨kind, at_, n, data, key, new, typ, force⟩ : Cm)).l))).fetch (UnP 108 151 154 bu pool ms (u.setT (rvM u.t i (⟨kind, at_, n, data, key, new, typ, force⟩ : Cm)).t))))) ?_
  rintro _ w ⟨rfl, h⟩
  refine ⟨trivial, ?_⟩
  refine WT.e 17 [] rfl (eff_storeW (vs := qv0) h sizeOf44 rfl rfl rfl rfl rfl) ?_
  rintro _ w h
  refine ⟨trivial, ?_⟩
  refine WT.dn (W.ret (bodyQ.rcB (vs := qv0) h results60 isAgg44 sizeOf44 rfl rfl rfl ?_))
  have he := actM_rv (u := u) (i := i) (c := (⟨kind, at_, n, data, key, new, typ, force⟩ : Cm)) (by show 10 ≤ kind; omega) (by show kind ≤ 15; omega)
  have h := On.nilData (r := (rvM u.t i (⟨kind, at_, n, data, key, new, typ, force⟩ : Cm)).r) rvM_r h
  exact ⟨_, _, .slice none 0 0, he, rfl, h.to⟩
 refine W.skip (W.seq (W.sr (WL.v (run_eql rfl rfl) (WL.z ?_))))
 refine W.condIf rfl (fun c52 => ?_) (fun c52 => ?_)
 ·
  refine W.exit (W.seq (W.seq ?_))
  have ob_ := openU (h.fetch (UnP 108 151 154 bu pool ms u))
  obtain ⟨bs, bt, gs, hm, hl, h⟩ := ob_
  refine W.draw Tryz.follows h (fun w h => ?_)
  refine WT.m 0 rfl (WT.n 1 rfl rfl (WT.f 2 1 rfl underlying108 rfl sizeOf100 rfl rfl (WT.l 3 rfl isAgg100 rfl (h.cellB rfl) (WT.m 4 rfl (WT.f 5 4 rfl underlying29 rfl sizeOf27 rfl rfl (WT.l 6 rfl isAgg27 rfl (h.cellB rfl) (WT.f 7 6 rfl underlying29 rfl sizeOf3 rfl rfl ?_)))))))
  refine WT.l 8 rfl isAgg3 rfl (h.cellB rfl) (WT.e 9 [false, false, false] rfl (eff_call call87 (ureserve_ok (key := key) (typ := typ) (i := i) (t := u.t) hi (h.fetch (blk bt u.t.cells 154)))) ?_)
  rintro v76 w ⟨hv76, h⟩
  have hX := rvM_rsv (t := u.t) (i := i) (c := (⟨kind, at_, n, data, key, new, typ, force⟩ : Cm)) (show kind = 12 by omega)
  rw [← hX] at hv76 h
  subst hv76
  have h := closeU (bu := bu) (u := u.setT (rvM u.t i (⟨kind, at_, n, data, key, new, typ, force⟩ : Cm)).t) hm hl ((((h.fetch (Big (GOwn pool) gs)).fetch (blk bt (rvM u.t i (⟨kind, at_, n, data, key, new, typ, force⟩ : Cm)).t.cells 154)).fetch (SpP 151 bs u.s)).fetch (blk bu (ucells bs bt gs) 108))
  refine ⟨trivial, ?_⟩
  refine WT.e 10 [] rfl (eff_storeW (vs := qv0) h sizeOf44 rfl rfl rfl rfl rfl) ?_
  rintro _ w h
  refine ⟨trivial, ?_⟩
  refine WT.dn (W.ret (bodyQ.rcB (vs := qv0) h results60 isAgg44 sizeOf44 rfl rfl rfl ?_))
  have he := actM_rv (u := u) (i := i) (c := (⟨kind, at_, n, data, key, new, typ, force⟩ : Cm)) (by show 10 ≤ kind; omega) (by show kind ≤ 15; omega)
  have hX0 : (rvM u.t i (⟨kind, at_, n, data, key, new, typ, force⟩ : Cm)).l = [] := by rw [hX]; exact rsvF_l
  have he : actM u i (⟨kind, at_, n, data, key, new, typ, force⟩ : Cm) = (u.setT (rvM u.t i (⟨kind, at_, n, data, key, new, typ, force⟩ : Cm)).t, (rvM u.t i (⟨kind, at_, n, data, key, new, typ, force⟩ : Cm)).r) := by rw [he, hX0]; rfl
  have h := On.nilData (r := (rvM u.t i (⟨kind, at_, n, data, key, new, typ, force⟩ : Cm)).r) rvM_r h
  exact ⟨_, _, .slice none 0 0, he, rfl, h.to⟩
 refine W.skip (W.seq (W.sr (WL.v (run_eql rfl rfl) (WL.z ?_))))
 refine W.condIf rfl (fun c56 => ?_) (fun c56 => ?_)
 ·
  refine W.exit (W.seq (W.seq ?_))
  have ob_ := openU (h.fetch (UnP 108 151 154 bu pool ms u))
  obtain ⟨bs, bt, gs, hm, hl, h⟩ := ob_
  refine W.draw Tryz.follows h (fun w h => ?_)
  refine WT.m 0 rfl (WT.m 1 rfl (WT.n 2 rfl rfl (WT.f 3 1 rfl underlying108 rfl sizeOf100 rfl rfl (WT.l 4 rfl isAgg100 rfl (h.cellB rfl) (WT.m 5 rfl (WT.f 6 4 rfl underlying29 rfl sizeOf27 rfl rfl (WT.l 7 rfl isAgg27 rfl (h.cellB rfl) ?_)))))))
  refine WT.f 8 6 rfl underlying29 rfl sizeOf3 rfl rfl (WT.l 9 rfl isAgg3 rfl (h.cellB rfl) (WT.e 10 [false, false, false] rfl (eff_call call88 (urelease_ok (key := key) (typ := typ) (i := i) (t := u.t) hi (h.fetch (blk bt u.t.cells 154)))) ?_))
  rintro v87 w ⟨a87, c87, hv87, h⟩
  have hX := rvM_rel (t := u.t) (i := i) (c := (⟨kind, at_, n, data, key, new, typ, force⟩ : Cm)) (show kind = 13 by omega)
  rw [← hX] at hv87 h
  subst hv87
  have h := closeU (bu := bu) (u := u.setT (rvM u.t i (⟨kind, at_, n, data, key, new, typ, force⟩ : Cm)).t) hm hl ((((h.fetch (Big (GOwn pool) gs)).fetch (blk bt (rvM u.t i (⟨kind, at_, n, data, key, new, typ, force⟩ : Cm)).t.cells 154)).fetch (SpP 151 bs u.s)).fetch (blk bu (ucells bs bt gs) 108))
  refine ⟨trivial, ?_⟩
  refine WT.p 11 rfl (fun w' => (run_extract rfl rfl)) (WT.p 12 rfl (fun w' => (run_extract rfl rfl)) ?_)
  refine WT.e 13 [] rfl (eff_call call85 (unoticed_ok (bu := bu) (u := u.setT (rvM u.t i (⟨kind, at_, n, data, key, new, typ, force⟩ : Cm)).t) (l := (rvM u.t i (⟨kind, at_, n, data, key, new, typ, force⟩ : Cm)).l) (code := (rvM u.t i (⟨kind, at_, n, data, key, new, typ, force⟩ : Cm)).code) (a := a87) (c := c87) (rv := (rvM u.t i (⟨kind, at_, n, data, key, new, typ, force⟩ : Cm)).r.val (.slice none 0 0)) (z0 := (rvM u.t i (⟨kind, at_, n, data, key, new, typ, force⟩ : Cm)).r.st) (z1 := (rvM u.t i (⟨kind, at_, n, data, key, new, typ, force⟩ : Cm)).r.key) (z2 := (rvM u.t i (⟨kind, at_, n, data, key, new, typ, force⟩ : Cm)).r.code) (z4 := (rvM u.t i (⟨kind, at_, n, data, key, new, typ, force⟩ : Cm)).r.info) rvM_l.2.2.2 rvM_l.2.1 hsm rfl ((h.fetch (Own 2 (.slice a87 (rvM u.t i (⟨kind, at_, n, data, key, new, typ, force⟩ : Cm)).l.length c87) (rvM u.t i (⟨kind, at_, n, data, key, new, typ, force⟩ : Cm)).l.length (notesV (rvM u.t i (⟨kind, at_, n, data, key, new, typ, force⟩ : Cm)).code (rvM u.t i (⟨kind, at_, n, data, key, new, typ, force⟩ : Cm)).l))).fetch (UnP 108 151 154 bu pool ms (u.setT (rvM u.t i (⟨kind, at_, n, data, key, new, typ, force⟩ : Cm)).t))))) ?_
  rintro _ w ⟨rfl, h⟩
  refine ⟨trivial, ?_⟩
  refine WT.e 14 [] rfl (eff_storeW (vs := qv0) h sizeOf44 rfl rfl rfl rfl rfl) ?_
  rintro _ w h
  refine ⟨trivial, ?_⟩
  refine WT.dn (W.ret (bodyQ.rcB (vs := qv0) h results60 isAgg44 sizeOf44 rfl rfl rfl ?_))
  have he := actM_rv (u := u) (i := i) (c := (⟨kind, at_, n, data, key, new, typ, force⟩ : Cm)) (by show 10 ≤ kind; omega) (by show kind ≤ 15; omega)
  have h := On.nilData (r := (rvM u.t i (⟨kind, at_, n, data, key, new, typ, force⟩ : Cm)).r) rvM_r h
  exact ⟨_, _, .slice none 0 0, he, rfl, h.to⟩
 refine W.skip (W.seq (W.sr (WL.v (run_eql rfl rfl) (WL.z ?_))))
 refine W.condIf rfl (fun c60 => ?_) (fun c60 => ?_)
 ·
  refine W.exit (W.seq (W.seq ?_))
  have ob_ := openU (h.fetch (UnP 108 151 154 bu pool ms u))
  obtain ⟨bs, bt, gs, hm, hl, h⟩ := ob_
  refine W.draw Tryz.follows h (fun w h => ?_)
  refine WT.m 0 rfl (WT.m 1 rfl (WT.n 2 rfl rfl (WT.f 3 1 rfl underlying108 rfl sizeOf100 rfl rfl (WT.l 4 rfl isAgg100 rfl (h.cellB rfl) (WT.m 5 rfl (WT.f 6 4 rfl underlying29 rfl sizeOf27 rfl rfl (WT.l 7 rfl isAgg27 rfl (h.cellB rfl) ?_)))))))
  refine WT.e 8 [false, false] rfl (eff_call call89 (uclear_ok (key := key) (i := i) (t := u.t) hi (h.fetch (blk bt u.t.cells 154)))) ?_
  rintro v99 w ⟨a99, c99, hv99, h⟩
  have hX := rvM_clr (t := u.t) (i := i) (c := (⟨kind, at_, n, data, key, new, typ, force⟩ : Cm)) (show kind = 14 by omega)
  rw [← hX] at hv99 h
  subst hv99
  have h := closeU (bu := bu) (u := u.setT (rvM u.t i (⟨kind, at_, n, data, key, new, typ, force⟩ : Cm)).t) hm hl ((((h.fetch (Big (GOwn pool) gs)).fetch (blk bt (rvM u.t i (⟨kind, at_, n, data, key, new, typ, force⟩ : Cm)).t.cells 154)).fetch (SpP 151 bs u.s)).fetch (blk bu (ucells bs bt gs) 108))
  refine ⟨trivial, ?_⟩
  refine WT.p 9 rfl (fun w' => (run_extract rfl rfl)) (WT.p 10 rfl (fun w' => (run_extract rfl rfl)) ?_)
  refine WT.e 11 [] rfl (eff_call call85 (unoticed_ok (bu := bu) (u := u.setT (rvM u.t i (⟨kind, at_, n, data, key, new, typ, force⟩ : Cm)).t) (l := (rvM u.t i (⟨kind, at_, n, data, key, new, typ, force⟩ : Cm)).l) (code := (rvM u.t i (⟨kind, at_, n, data, key, new, typ, force⟩ : Cm)).code) (a := a99) (c := c99) (rv := (rvM u.t i (⟨kind, at_, n, data, key, new, typ, force⟩ : Cm)).r.val (.slice none 0 0)) (z0 := (rvM u.t i (⟨kind, at_, n, data, key, new, typ, force⟩ : Cm)).r.st) (z1 := (rvM u.t i (⟨kind, at_, n, data, key, new, typ, force⟩ : Cm)).r.key) (z2 := (rvM u.t i (⟨kind, at_, n, data, key, new, typ, force⟩ : Cm)).r.code) (z4 := (rvM u.t i (⟨kind, at_, n, data, key, new, typ, force⟩ : Cm)).r.info) rvM_l.2.2.2 rvM_l.2.1 hsm rfl ((h.fetch (Own 2 (.slice a99 (rvM u.t i (⟨kind, at_, n, data, key, new, typ, force⟩ : Cm)).l.length c99) (rvM u.t i (⟨kind, at_, n, data, key, new, typ, force⟩ : Cm)).l.length (notesV (rvM u.t i (⟨kind, at_, n, data, key, new, typ, force⟩ : Cm)).code (rvM u.t i (⟨kind, at_, n, data, key, new, typ, force⟩ : Cm)).l))).fetch (UnP 108 151 154 bu pool ms (u.setT (rvM u.t i (⟨kind, at_, n, data, key, new, typ, force⟩ : Cm)).t))))) ?_
  rintro _ w ⟨rfl, h⟩
  refine ⟨trivial, ?_⟩
  refine WT.e 12 [] rfl (eff_storeW (vs := qv0) h sizeOf44 rfl rfl rfl rfl rfl) ?_
  rintro _ w h
  refine ⟨trivial, ?_⟩
  refine WT.dn (W.ret (bodyQ.rcB (vs := qv0) h results60 isAgg44 sizeOf44 rfl rfl rfl ?_))
  have he := actM_rv (u := u) (i := i) (c := (⟨kind, at_, n, data, key, new, typ, force⟩ : Cm)) (by show 10 ≤ kind; omega) (by show kind ≤ 15; omega)
  have h := On.nilData (r := (rvM u.t i (⟨kind, at_, n, data, key, new, typ, force⟩ : Cm)).r) rvM_r h
  exact ⟨_, _, .slice none 0 0, he, rfl, h.to⟩
 refine W.skip (W.seq (W.sr (WL.v (run_eql rfl rfl) (WL.z ?_))))
 refine W.condIf rfl (fun c64 => ?_) (fun c64 => ?_)
 ·
  refine W.exit (W.seq (W.seq ?_))
  have ob_ := openU (h.fetch (UnP 108 151 154 bu pool ms u))
  obtain ⟨bs, bt, gs, hm, hl, h⟩ := ob_
  refine W.draw Tryz.follows h (fun w h => ?_)
  refine WT.m 0 rfl (WT.m 1 rfl (WT.n 2 rfl rfl (WT.f 3 1 rfl underlying108 rfl sizeOf100 rfl rfl (WT.l 4 rfl isAgg100 rfl (h.cellB rfl) (WT.m 5 rfl (WT.f 6 4 rfl underlying29 rfl sizeOf27 rfl rfl (WT.l 7 rfl isAgg27 rfl (h.cellB rfl) ?_)))))))
  refine WT.f 8 5 rfl underlying29 rfl sizeOf27 rfl rfl (WT.l 9 rfl isAgg27 rfl (h.cellB rfl) (WT.f 10 6 rfl underlying29 rfl sizeOf3 rfl rfl (WT.l 11 rfl isAgg3 rfl (h.cellB rfl) (WT.e 12 [false, false, false, false] rfl (eff_call call90 (upreempt_ok (key := key) (other := new) (typ := typ) (ii := i) (t := u.t) hi (goodT_hold hgu_.1) (h.fetch (blk bt u.t.cells 154)))) ?_))))
  rintro v115 w ⟨a115, c115, hv115, h⟩
  have hX := rvM_pre (t := u.t) (i := i) (c := (⟨kind, at_, n, data, key, new, typ, force⟩ : Cm)) (show kind = 15 by omega)
  rw [← hX] at hv115 h
  subst hv115
  have h := closeU (bu := bu) (u := u.setT (rvM u.t i (⟨kind, at_, n, data, key, new, typ, force⟩ : Cm)).t) hm hl ((((h.fetch (Big (GOwn pool) gs)).fetch (blk bt (rvM u.t i (⟨kind, at_, n, data, key, new, typ, force⟩ : Cm)).t.cells 154)).fetch (SpP 151 bs u.s)).fetch (blk bu (ucells bs bt gs) 108))
  refine ⟨trivial, ?_⟩
  refine WT.p 13 rfl (fun w' => (run_extract rfl rfl)) (WT.p 14 rfl (fun w' => (run_extract rfl rfl)) ?_)
  refine WT.e 15 [] rfl (eff_call call85 (unoticed_ok (bu := bu) (u := u.setT (rvM u.t i (⟨kind, at_, n, data, key, new, typ, force⟩ : Cm)).t) (l := (rvM u.t i (⟨kind, at_, n, data, key, new, typ, force⟩ : Cm)).l) (code := (rvM u.t i (⟨kind, at_, n, data, key, new, typ, force⟩ : Cm)).code) (a := a115) (c := c115) (rv := (rvM u.t i (⟨kind, at_, n, data, key, new, typ, force⟩ : Cm)).r.val (.slice none 0 0)) (z0 := (rvM u.t i (⟨kind, at_, n, data, key, new, typ, force⟩ : Cm)).r.st) (z1 := (rvM u.t i (⟨kind, at_, n, data, key, new, typ, force⟩ : Cm)).r.key) (z2 := (rvM u.t i (⟨kind, at_, n, data, key, new, typ, force⟩ : Cm)).r.code) (z4 := (rvM u.t i (⟨kind, at_, n, data, key, new, typ, force⟩ : Cm)).r.info) rvM_l.2.2.2 rvM_l.2.1 hsm rfl ((h.fetch (Own 2 (.slice a115 (rvM u.t i (⟨kind, at_, n, data, key, new, typ, force⟩ : Cm)).l.length c115) (rvM u.t i (⟨kind, at_, n, data, key, new, typ, force⟩ : Cm)).l.length (notesV (rvM u.t i (⟨kind, at_, n, data, key, new, typ, force⟩ : Cm)).code (rvM u.t i (⟨kind, at_, n, data, key, new, typ, force⟩ : Cm)).l))).fetch (UnP 108 151 154 bu pool ms (u.setT (rvM u.t i (⟨kind, at_, n, data, key, new, typ, force⟩ : Cm)).t))))) ?_
  rintro _ w ⟨rfl, h⟩
  refine ⟨trivial, ?_⟩
  refine WT.e 16 [] rfl (eff_storeW (vs := qv0) h sizeOf44 rfl rfl rfl rfl rfl) ?_
  rintro _ w h
  refine ⟨trivial, ?_⟩
  refine WT.dn (W.ret (bodyQ.rcB (vs := qv0) h results60 isAgg44 sizeOf44 rfl rfl rfl ?_))
  have he := actM_rv (u := u) (i := i) (c := (⟨kind, at_, n, data, key, new, typ, force⟩ : Cm)) (by show 10 ≤ kind; omega) (by show kind ≤ 15; omega)
  have h := On.nilData (r := (rvM u.t i (⟨kind, at_, n, data, key, new, typ, force⟩ : Cm)).r) rvM_r h
  exact ⟨_, _, .slice none 0 0, he, rfl, h.to⟩
 refine W.skip (W.seq (W.sr (WL.v (run_eql rfl rfl) (WL.z ?_))))
 refine W.condIf rfl (fun c68 => ?_) (fun c68 => ?_)
 ·
  refine W.exit (W.seq (W.seq ?_))
  have ob_ := openU (h.fetch (UnP 108 151 154 bu pool ms u))
  obtain ⟨bs, bt, gs, hm, hl, h⟩ := ob_
  refine W.draw Tryz.follows h (fun w h => ?_)
  refine WT.m 0 rfl (WT.n 1 rfl rfl (WT.f 2 1 rfl underlying108 rfl sizeOf100 rfl rfl (WT.l 3 rfl isAgg100 rfl (h.cellB rfl) (WT.m 5 rfl (WT.n 6 rfl rfl (WT.f 7 1 rfl underlying108 rfl sizeOf100 rfl rfl (WT.l 8 rfl isAgg100 rfl (h.cellB rfl) ?_)))))))
  refine WT.e 4 [true, false] rfl (eff_call call92 (generation_ok (t := u.t) (h.fetch (blk bt u.t.cells 154)))) ?_
  rintro v123 w ⟨hv123, h⟩
  rw [egen] at hv123
  subst hv123
  refine ⟨⟨h.cellB rfl, trivial⟩, ?_⟩
  refine WT.e 9 [false] rfl (eff_call call93 (ukeys_ok (t := u.t) (b := bt) (h.fetch (blk bt u.t.cells 154)))) ?_
  rintro _ w ⟨a128, rfl, h⟩
  refine ⟨trivial, ?_⟩
  refine WT.e 10 [] rfl (eff_call call91 (pkeys_ok (g := u.t.gen.toNat) (ks := keysN u.t.K 8) (ak := a128) (ck := (keysN u.t.K 8).length) (by have := hgok.2; omega) (fun x hx => by have hm := keysN_mem hx; obtain ⟨q, hq, e⟩ := hm; rw [e]; exact hgok.1 q hq) (keysN_len ..) h (Gives.ownO (v := .slice a128 (keysN u.t.K 8).length (keysN u.t.K 8).length)))) ?_
  rintro v129 w ⟨a129, hv129, h⟩
  rw [keysP_all] at hv129 h
  subst hv129
  refine ⟨trivial, ?_⟩
  refine WT.e 11 [] rfl (eff_call call58 (sgood_ok (bs := keysB u.t) h (Gives.ownO (v := .slice a129 (keysB u.t).length (keysB u.t).length)) (by have := keysN_len u.t.K 8; rw [keysB_len]; omega))) ?_
  rintro _ w ⟨a130, rfl, h⟩
  have h := closeU (bu := bu) (u := u) hm hl ((((h.fetch (Big (GOwn pool) gs)).fetch (blk bt u.t.cells 154)).fetch (SpP 151 bs u.s)).fetch (blk bu (ucells bs bt gs) 108))
  refine ⟨trivial, ?_⟩
  refine WT.e 12 [] rfl (eff_storeW (vs := qv0) h sizeOf44 rfl rfl rfl rfl rfl) ?_
  rintro _ w h
  refine ⟨trivial, ?_⟩
  refine WT.dn (W.ret (bodyQ.rcB (vs := qv0) h results60 isAgg44 sizeOf44 rfl rfl rfl ?_))
  have h : On W0 (OwnB (.slice a130 ((keysB u.t)).length ((keysB u.t)).length) (gave ((keysB u.t))).data :: _) w := h.fetch (OwnB (.slice a130 ((keysB u.t)).length ((keysB u.t)).length) ((keysB u.t)))
  exact ⟨u, gave ((keysB u.t)), .slice a130 ((keysB u.t)).length ((keysB u.t)).length, (actM_keys (show kind = 16 by omega)), rfl, h.to⟩
 refine W.skip (W.sr (WL.v (run_eql rfl rfl) (WL.z ?_)))
 refine W.condIf rfl (fun c72 => ?_) (fun c72 => ?_)
 ·
  refine W.exit (W.seq (W.seq ?_))
  have ob_ := openU (h.fetch (UnP 108 151 154 bu pool ms u))
  obtain ⟨bs, bt, gs, hm, hl, h⟩ := ob_
  refine W.region (WL.m (WL.n rfl (WL.c 1 underlying108 rfl sizeOf100 rfl isAgg100 h rfl (WL.e (eff_call call94 (holder_ok (t := u.t) (b := bt) (h.fetch (blk bt u.t.cells 154)))) ?_))))
  rintro v136 w ⟨hv136, h⟩
  have htyp := goodT_typ hgt
  have etyp : u.t.typ = ((u.t.typ.toNat : Nat) : Int) := by omega
  rw [etyp] at hv136
  subst hv136
  refine WL.m (WL.v (run_extract rfl rfl) (WL.v (run_extract rfl rfl) (WL.a (WL.z (W.seq ?_)))))
  refine W.draw Tryz.follows h (fun w h => ?_)
  refine WT.m 0 rfl (WT.n 1 rfl rfl (WT.f 2 1 rfl underlying108 rfl sizeOf100 rfl rfl (WT.l 3 rfl isAgg100 rfl (h.cellB rfl) (WT.m 5 rfl (WT.n 6 rfl rfl (WT.f 7 1 rfl underlying108 rfl sizeOf100 rfl rfl (WT.l 8 rfl isAgg100 rfl (h.cellB rfl) ?_)))))))
  refine WT.m 9 rfl (WT.m 11 rfl (WT.e 4 [true, false] rfl (eff_call call92 (generation_ok (t := u.t) (h.fetch (blk bt u.t.cells 154)))) ?_))
  rintro v143 w ⟨hv143, h⟩
  rw [egen] at hv143
  subst hv143
  refine ⟨⟨h.cellB rfl, trivial⟩, ?_⟩
  refine WT.e 10 [false] rfl (eff_call call96 (ukey_ok (t := u.t) (b := bt) (hh := u.t.hold) (h.fetch (blk bt u.t.cells 154)))) ?_
  rintro v149 w ⟨hv149, h⟩
  have hv149 : v149 = .int .u64 (holdK u.t) := hv149
  have hkk : 0 ≤ holdK u.t ∧ holdK u.t < 18446744073709551616 := by
    unfold holdK
    split
    · rename_i hb
      have hb := hostB_iff.1 hb
      exact hgok.1 _ (by omega)
    exact ⟨Int.le_refl 0, by decide⟩
  have ekk : holdK u.t = (((holdK u.t).toNat : Nat) : Int) := by omega
  rw [ekk] at hv149
  subst hv149
  refine ⟨trivial, ?_⟩
  refine WT.e 12 [] rfl (eff_call call95 (pholder_ok (g := u.t.gen.toNat) (key := (holdK u.t).toNat) (y := u.t.typ.toNat) (by have := hgok.2; omega) (by omega) (by omega) h)) ?_
  rintro v151 w ⟨a151, hv151, h⟩
  rw [← holdB_P htyp.1] at hv151 h
  subst hv151
  refine ⟨trivial, ?_⟩
  refine WT.e 13 [] rfl (eff_call call58 (sgood_ok (bs := holdB u.t) h (Gives.ownO (v := .slice a151 (holdB u.t).length (holdB u.t).length)) (by have := holdB_len u.t; omega))) ?_
  rintro _ w ⟨a152, rfl, h⟩
  have h := closeU (bu := bu) (u := u) hm hl ((((h.fetch (Big (GOwn pool) gs)).fetch (blk bt u.t.cells 154)).fetch (SpP 151 bs u.s)).fetch (blk bu (ucells bs bt gs) 108))
  refine ⟨trivial, ?_⟩
  refine WT.e 14 [] rfl (eff_storeW (vs := qv0) h sizeOf44 rfl rfl rfl rfl rfl) ?_
  rintro _ w h
  refine ⟨trivial, ?_⟩
  refine WT.dn (W.ret (bodyQ.rcB (vs := qv0) h results60 isAgg44 sizeOf44 rfl rfl rfl ?_))
  have h : On W0 (OwnB (.slice a152 ((holdB u.t)).length ((holdB u.t)).length) (gave ((holdB u.t))).data :: _) w := h.fetch (OwnB (.slice a152 ((holdB u.t)).length ((holdB u.t)).length) ((holdB u.t)))
  exact ⟨u, gave ((holdB u.t)), .slice a152 ((holdB u.t)).length ((holdB u.t)).length, (actM_hold (show kind = 17 by omega)), rfl, h.to⟩
 refine W.skip (W.exit (W.seq (W.sr (WL.m (WL.nil (W.block ?_))))))
 refine W.loop (fun (k : Nat) env w => k ≤ 8 ∧ ∃ j, env = mkE j [(0, .pointer (some ⟨bu, 0, none⟩)), (153, .int .i64 (k : Int)), (6, .pointer (some ⟨b6, 0, none⟩))] ∧ On W0 (UnP 108 151 154 bu pool ms (resetN u k) :: blk b6 [.int .i64 0, .int .i64 0, .int .i64 0, .slice none 0 0, .int .i64 0] 44 :: L) w) (fun k => 8 - k) (0) ?_ ?_
 · have h : On W0 (UnP 108 151 154 bu pool ms (resetN u 0) :: _) w := h.fetch (UnP 108 151 154 bu pool ms u)
   exact ⟨Nat.zero_le _, _, mkE_of ⟨rfl, rfl, rfl, trivial⟩, h.to⟩
 rintro k env w ⟨hk8, j, rfl, h⟩
 refine W.sr (WL.v (run_lss rfl rfl) (WL.nil (W.seq ?_)))
 refine W.condIf rfl (fun c114 => ?_) (fun c114 => ?_)
 ·
  refine W.skip (W.seq ?_)
  have hk7 : k < 8 := by omega
  have hsk : ((resetN u k).guest k).codes.length ≤ 1000000 := by rw [resetN_guest k (Nat.le_refl _)]; exact hsm1 k hk7
  refine W.block (W.sr (WL.m (WL.z (W.region (WL.m ?_)))))
  refine WL.m (WL.e (eff_call call97 (tell_ok (i := k) hk7 hsk h)) ?_)
  rintro _ w h
  have h : On W0 (UnP 108 151 154 bu pool ms (resetN u (k + 1)) :: _) w := h
  refine WL.nil (W.region (WL.v (run_incN rfl rfl (by omega)) (WL.m (WL.nil ?_))))
  exact ⟨k + 1, ⟨by omega, _, mkE_of ⟨rfl, rfl, rfl, trivial⟩, h⟩, by show 8 - (k + 1) < 8 - k; omega⟩
 refine W.exit (W.sr (WL.v (run_buildS (pl := qp0) (out := qv0) underlying44 zeroValue44 (fun w => by kernel_rfl) rfl (trivial) rfl) (WL.e (eff_storeW (vs := qv0) h sizeOf44 rfl rfl rfl rfl rfl) ?_)))
 rintro _ w h
 refine WL.nil (W.ret (bodyQ.rcB (vs := qv0) h results60 isAgg44 sizeOf44 rfl rfl rfl ?_))
 have ob_ : k = 8 := by omega
 obtain rfl := ob_
 have h : On W0 (OwnB (.slice none 0 0) (plain 0 0 0 : Rp).data :: _) w := h.ownEmpty 1 none
 exact ⟨(resetN u 8), plain 0 0 0, .slice none 0 0, (actM_reset (by show kind = 18; omega)), rfl, h.to⟩
theorem udo_ok {bu : Nat} {hh : Int} {u : Un} {pool : PoolL} {ms : List Nat} {kind at_ n key new typ : Int} {force : Bool} {data : List UInt8} {ax : Option Addr} {cx : Nat} (hsm : small 999000 u) (hgu_ : goodU u) (hcm : okCm (⟨kind, at_, n, data, key, new, typ, force⟩ : Cm)) (h : On W0 (UnP 108 151 154 bu pool ms u :: L) w) (C : Gives L (Bytes (.slice ax data.length cx) data)) (hd : data.length ≤ 1000000) : Calls Tryz.prog 18 #[.pointer (some ⟨bu, 0, none⟩), .int .i64 hh, (⟨kind, at_, n, data, key, new, typ, force⟩ : Cm).val (.slice ax data.length cx)] w (Ret fun v w' => ∃ u' r dv, doM u hh (⟨kind, at_, n, data, key, new, typ, force⟩ : Cm) = (u', r) ∧ v = r.val dv ∧ On W0 (OwnB dv r.data :: UnP 108 151 154 bu pool ms u' :: L) w') := by
 refine enter func18 rfl ntmps18 rfl (W.sr (WL.e (eff_box (v := .agg _) (l := (⟨kind, at_, n, data, key, new, typ, force⟩ : Cm).cells (.slice ax data.length cx)) h rfl rfl) ?_))
 rintro _ w ⟨b5, rfl, h⟩
 have h : On W0 (blk b5 [.int .i64 kind, .int .i64 at_, .int .i64 n, .slice ax data.length cx, .int .u64 key, .int .u64 new, .int .i64 typ, .bool force] 29 :: _) w := h
 refine WL.e (eff_alloc h zeroValue44 rfl) ?_
 rintro _ w ⟨b6, rfl, h⟩
 refine WL.nil (W.seq (W.sr (WL.m (WL.e (eff_call call56 (uhost_ok h)) ?_))))
 rintro _ w ⟨hv, h⟩
 have hcs := Bool.eq_false_or_eq_true (hostB hh)
 rcases hcs with hb | hb <;> (rw [hb] at hv; subst hv)
 ·
  refine WL.v (run_not rfl) (WL.m (WL.c 0 underlying29 rfl sizeOf3 rfl isAgg3 h rfl ?_))
  refine WL.q (run_lss rfl rfl) (fun c17 => ?_) (fun c17 => ?_)
  ·
   refine WL.pf (WL.m (WL.s (WL.s (WL.s (WL.pt (WL.nil (W.ct ?_)))))))
   refine W.sr (WL.e (eff_call call49 (wrong_ok h)) ?_)
   rintro _ w ⟨rfl, h⟩
   refine WL.e (eff_storeW (vs := qv0) h sizeOf44 rfl rfl rfl rfl rfl) ?_
   rintro _ w h
   refine WL.nil (W.ret (bodyQ.rcB (vs := qv0) h results18 isAgg44 sizeOf44 rfl rfl rfl ?_))
   have h : On W0 (OwnB (.slice none 0 0) (plain 2 5 8192 : Rp).data :: _) w := h.ownEmpty 1 none
   exact ⟨u, plain 2 5 8192, .slice none 0 0, (doM_bad (.inr (.inl c17))), rfl, h.to⟩
  refine WL.pf (WL.m (WL.c 0 underlying29 rfl sizeOf3 rfl isAgg3 h rfl (WL.v (run_gtr rfl rfl) (WL.pf (WL.nil ?_)))))
  refine W.condIf rfl (fun c2 => ?_) (fun c2 => ?_)
  ·
   refine W.sr (WL.e (eff_call call49 (wrong_ok h)) ?_)
   rintro _ w ⟨rfl, h⟩
   refine WL.e (eff_storeW (vs := qv0) h sizeOf44 rfl rfl rfl rfl rfl) ?_
   rintro _ w h
   refine WL.nil (W.ret (bodyQ.rcB (vs := qv0) h results18 isAgg44 sizeOf44 rfl rfl rfl ?_))
   have h : On W0 (OwnB (.slice none 0 0) (plain 2 5 8192 : Rp).data :: _) w := h.ownEmpty 1 none
   exact ⟨u, plain 2 5 8192, .slice none 0 0, (doM_bad (.inr (.inr (by show 18 < kind; omega)))), rfl, h.to⟩
  refine W.skip (W.seq (W.seq ?_))
  have hb2 := hostB_iff.1 hb
  have ob_ := Int.eq_ofNat_of_zero_le hb2.1
  obtain ⟨i, hhi⟩ := ob_
  subst hhi
  have hi : i < 8 := by omega
  refine W.region (WL.c 0 underlying29 rfl sizeOf3 rfl isAgg3 h rfl (WL.nil (W.block (W.sr (WL.v (run_eql rfl rfl) ?_)))))
  refine WL.z ?_
  refine W.condIf rfl (fun c9 => ?_) (fun c9 => ?_)
  ·
   refine W.sr (WL.m (WL.m (WL.e (eff_call call57 (told_ok hi (small_le hsm (by decide) i hi) (h.fetch (UnP 108 151 154 bu pool ms u)))) ?_)))
   rintro _ w hv
   rcases hv with ⟨x, l, hxl, rfl, h⟩ | ⟨hnil, rfl, h⟩
   ·
    have hx0 := hgu_.2 i hi x (by rw [hxl]; exact List.mem_cons_self ..)
    have ob_ := Int.eq_ofNat_of_zero_le hx0.1
    obtain ⟨x, hx1⟩ := ob_
    subst hx1
    refine WL.m (WL.v (run_extract rfl rfl) (WL.v (run_extract rfl rfl) (WL.e (eff_alloc h zeroValue44 rfl) ?_)))
    rintro _ w ⟨b7, rfl, h⟩
    refine WL.e (eff_storeW (vs := qv0) h sizeOf44 rfl rfl rfl rfl rfl) ?_
    rintro _ w h
    refine WL.z (W.sr (WL.v (run_loadB (vs := qv0) h isAgg44 sizeOf44 rfl rfl rfl) (WL.e (eff_call call20 (senc_ok (s := 2) (k := 6) (c := x) (by decide) (by omega) h)) ?_)))
    rintro _ w ⟨a44, rfl, h⟩
    refine WL.e (eff_call call58 (sgood_ok (bs := senseB 6 x) h (Gives.ownO (v := .slice a44 (senseB 6 x).length (senseB 6 x).length)) (by rw [senseB_len]; decide))) ?_
    rintro _ w ⟨a45, rfl, h⟩
    refine WL.e (eff_storeW (vs := qv0) h sizeOf44 rfl rfl rfl rfl rfl) ?_
    rintro _ w h
    refine WL.nil (W.ret (bodyQ.rcB (vs := qv0) h results18 isAgg44 sizeOf44 rfl rfl rfl ?_))
    have h : On W0 (OwnB (.slice a45 ((senseB 6 x)).length ((senseB 6 x)).length) (gave ((senseB 6 x))).data :: _) w := h.fetch (OwnB (.slice a45 ((senseB 6 x)).length ((senseB 6 x)).length) ((senseB 6 x)))
    exact ⟨(u.putG i (u.guest i).pop), gave ((senseB 6 x)), .slice a45 ((senseB 6 x)).length ((senseB 6 x)).length, (by rw [doM_sense1 hi c9 hxl]; rfl), rfl, h.to⟩
   refine WL.m (WL.v (run_extract rfl rfl) (WL.v (run_extract rfl rfl) (WL.e (eff_alloc h zeroValue44 rfl) ?_)))
   rintro _ w ⟨b7, rfl, h⟩
   refine WL.e (eff_storeW (vs := qv0) h sizeOf44 rfl rfl rfl rfl rfl) ?_
   rintro _ w h
   refine WL.z (W.sr (WL.v (run_loadB (vs := qv0) h isAgg44 sizeOf44 rfl rfl rfl) (WL.e (eff_call call20 (senc_ok (s := 0) (k := 0) (c := 0) (by decide) (by decide) h)) ?_)))
   rintro _ w ⟨a44, rfl, h⟩
   refine WL.e (eff_call call58 (sgood_ok (bs := senseB 0 0) h (Gives.ownO (v := .slice a44 (senseB 0 0).length (senseB 0 0).length)) (by rw [senseB_len]; decide))) ?_
   rintro _ w ⟨a45, rfl, h⟩
   refine WL.e (eff_storeW (vs := qv0) h sizeOf44 rfl rfl rfl rfl rfl) ?_
   rintro _ w h
   refine WL.nil (W.ret (bodyQ.rcB (vs := qv0) h results18 isAgg44 sizeOf44 rfl rfl rfl ?_))
   have h : On W0 (OwnB (.slice a45 ((senseB 0 0)).length ((senseB 0 0)).length) (gave ((senseB 0 0))).data :: _) w := h.fetch (OwnB (.slice a45 ((senseB 0 0)).length ((senseB 0 0)).length) ((senseB 0 0)))
   exact ⟨u, gave ((senseB 0 0)), .slice a45 ((senseB 0 0)).length ((senseB 0 0)).length, (doM_sense0 hi c9 hnil), rfl, h.to⟩
  refine W.sr (WL.v (run_eql rfl rfl) (WL.z ?_))
  refine W.condIf rfl (fun c14 => ?_) (fun c14 => ?_)
  ·
   refine W.skip (W.seq (W.seq ?_))
   have ob_ := openU (h.fetch (UnP 108 151 154 bu pool ms u))
   obtain ⟨bs, bt, gs, hm, hl, h⟩ := ob_
   refine W.draw Tryz.follows h (fun w h => ?_)
   refine WT.m 0 rfl (WT.n 1 rfl rfl (WT.f 2 1 rfl underlying108 rfl sizeOf100 rfl rfl (WT.l 3 rfl isAgg100 rfl (h.cellB rfl) (WT.m 4 rfl (WT.f 5 0 rfl underlying29 rfl sizeOf3 rfl rfl (WT.l 6 rfl isAgg3 rfl (h.cellB rfl) (WT.e 7 [false, false] rfl (eff_call call59 (allows_ok (b := bt) (t := u.t) (h.fetch (blk bt u.t.cells 154)))) ?_)))))))
   rintro _ w ⟨⟨r, rfl, hr⟩, h⟩
   have hcs := Bool.eq_false_or_eq_true r
   rcases hcs with hr2 | hr2 <;> (subst hr2)
   all_goals (refine ⟨trivial, ?_⟩)
   ·
    refine WT.p 8 rfl (fun w' => (run_not rfl)) (WT.dn ?_)
    have h := closeU (bu := bu) (u := u) hm hl ((((h.fetch (Big (GOwn pool) gs)).fetch (blk bt u.t.cells 154)).fetch (SpP 151 bs u.s)).fetch (blk bu (ucells bs bt gs) 108))
    refine W.cs (W.sr (WL.m (WL.m (WL.v (run_loadB (vs := qv3) h isAgg29 sizeOf29 rfl rfl rfl) (WL.e (eff_call call60 (uact_ok (u := u) (i := i) hi (by omega) (by omega) c9 hsm hgu_ hcm (h.fetch (UnP 108 151 154 bu pool ms u)) (Gives.to C) hd)) ?_)))))
    rintro _ w ⟨u', r', dv', heq, rfl, h⟩
    have of_ := Own.form h
    obtain ⟨ad, cd, hdv, _⟩ := of_
    subst hdv
    refine WL.e (eff_storeW (vs := qv0) h sizeOf44 rfl rfl rfl rfl rfl) ?_
    rintro _ w h
    refine WL.nil (W.ret (bodyQ.rcB (vs := qv0) h results18 isAgg44 sizeOf44 rfl rfl rfl ?_))
    have he : doM u i (⟨kind, at_, n, data, key, new, typ, force⟩ : Cm) = (u', r') := by rw [doM_go hi (by show 1 ≤ kind; omega) (by show kind ≤ 18; omega) c9 (.inl c14) (hr.1 rfl), heq]
    exact ⟨u', r', _, he, rfl, h.to⟩
   refine WT.p 8 rfl (fun w' => (run_not rfl)) (WT.dn ?_)
   have h := closeU (bu := bu) (u := u) hm hl ((((h.fetch (Big (GOwn pool) gs)).fetch (blk bt u.t.cells 154)).fetch (SpP 151 bs u.s)).fetch (blk bu (ucells bs bt gs) 108))
   refine W.ct (W.sr (WL.v (run_buildS (pl := qp0) (out := qv0) underlying44 zeroValue44 (fun w => by kernel_rfl) rfl (⟨⟨_, _, rfl, rfl, by decide⟩, trivial⟩) rfl) (WL.e (eff_storeW (vs := qv0) h sizeOf44 rfl rfl rfl rfl rfl) ?_)))
   rintro _ w h
   refine WL.nil (W.ret (bodyQ.rcB (vs := qv0) h results18 isAgg44 sizeOf44 rfl rfl rfl ?_))
   have h : On W0 (OwnB (.slice none 0 0) (plain 24 0 0 : Rp).data :: _) w := h.ownEmpty 1 none
   exact ⟨u, plain 24 0 0, .slice none 0 0, (doM_no hi (by show 1 ≤ kind; omega) (by show kind ≤ 18; omega) c9 (.inl c14) (fun ha => by cases hr.2 ha)), rfl, h.to⟩
  refine W.sr (WL.m (WL.m (WL.e (eff_call call57 (told_ok hi (small_le hsm (by decide) i hi) (h.fetch (UnP 108 151 154 bu pool ms u)))) ?_)))
  rintro _ w hv
  rcases hv with ⟨x, l, hxl, rfl, h⟩ | ⟨hnil, rfl, h⟩
  ·
   refine WL.m (WL.v (run_extract rfl rfl) (WL.v (run_extract rfl rfl) (WL.e (eff_alloc h zeroValue44 rfl) ?_)))
   rintro _ w ⟨b9, rfl, h⟩
   refine WL.e (eff_storeW (vs := qv0) h sizeOf44 rfl rfl rfl rfl rfl) ?_
   rintro _ w h
   refine WL.z (W.sr (WL.m (WL.nil (W.ct (W.seq ?_)))))
   refine W.region (WL.v (run_loadB (vs := qv0) h isAgg44 sizeOf44 rfl rfl rfl) (WL.e (eff_storeW (vs := qv0) h sizeOf44 rfl rfl rfl rfl rfl) ?_))
   rintro _ w h
   refine WL.nil (W.ret (bodyQ.rcB (vs := qv0) h results18 isAgg44 sizeOf44 rfl rfl rfl ?_))
   have h : On W0 (OwnB (.slice none 0 0) (plain 2 6 x : Rp).data :: _) w := h.ownEmpty 1 none
   exact ⟨(u.putG i (u.guest i).pop), plain 2 6 x, .slice none 0 0, (doM_pop hi (by show 1 ≤ kind; omega) (by show kind ≤ 18; omega) c9 c14 hxl), rfl, h.to⟩
  refine WL.m (WL.v (run_extract rfl rfl) (WL.v (run_extract rfl rfl) (WL.e (eff_alloc h zeroValue44 rfl) ?_)))
  rintro _ w ⟨b9, rfl, h⟩
  refine WL.e (eff_storeW (vs := qv0) h sizeOf44 rfl rfl rfl rfl rfl) ?_
  rintro _ w h
  refine WL.z (W.sr (WL.m (WL.nil (W.cs ?_))))
  refine W.seq (W.seq ?_)
  have ob_ := openU (h.fetch (UnP 108 151 154 bu pool ms u))
  obtain ⟨bs, bt, gs, hm, hl, h⟩ := ob_
  refine W.draw Tryz.follows h (fun w h => ?_)
  refine WT.m 0 rfl (WT.n 1 rfl rfl (WT.f 2 1 rfl underlying108 rfl sizeOf100 rfl rfl (WT.l 3 rfl isAgg100 rfl (h.cellB rfl) (WT.m 4 rfl (WT.f 5 0 rfl underlying29 rfl sizeOf3 rfl rfl (WT.l 6 rfl isAgg3 rfl (h.cellB rfl) (WT.e 7 [false, false] rfl (eff_call call59 (allows_ok (b := bt) (t := u.t) (h.fetch (blk bt u.t.cells 154)))) ?_)))))))
  rintro _ w ⟨⟨r, rfl, hr⟩, h⟩
  have hcs := Bool.eq_false_or_eq_true r
  rcases hcs with hr2 | hr2 <;> (subst hr2)
  all_goals (refine ⟨trivial, ?_⟩)
  ·
   refine WT.p 8 rfl (fun w' => (run_not rfl)) (WT.dn ?_)
   have h := closeU (bu := bu) (u := u) hm hl ((((h.fetch (Big (GOwn pool) gs)).fetch (blk bt u.t.cells 154)).fetch (SpP 151 bs u.s)).fetch (blk bu (ucells bs bt gs) 108))
   refine W.cs (W.sr (WL.m (WL.m (WL.v (run_loadB (vs := qv3) h isAgg29 sizeOf29 rfl rfl rfl) (WL.e (eff_call call60 (uact_ok (u := u) (i := i) hi (by omega) (by omega) c9 hsm hgu_ hcm (h.fetch (UnP 108 151 154 bu pool ms u)) (Gives.to C) hd)) ?_)))))
   rintro _ w ⟨u', r', dv', heq, rfl, h⟩
   have of_ := Own.form h
   obtain ⟨ad, cd, hdv, _⟩ := of_
   subst hdv
   refine WL.e (eff_storeW (vs := qv0) h sizeOf44 rfl rfl rfl rfl rfl) ?_
   rintro _ w h
   refine WL.nil (W.ret (bodyQ.rcB (vs := qv0) h results18 isAgg44 sizeOf44 rfl rfl rfl ?_))
   have he : doM u i (⟨kind, at_, n, data, key, new, typ, force⟩ : Cm) = (u', r') := by rw [doM_go hi (by show 1 ≤ kind; omega) (by show kind ≤ 18; omega) c9 (.inr hnil) (hr.1 rfl), heq]
   exact ⟨u', r', _, he, rfl, h.to⟩
  refine WT.p 8 rfl (fun w' => (run_not rfl)) (WT.dn ?_)
  have h := closeU (bu := bu) (u := u) hm hl ((((h.fetch (Big (GOwn pool) gs)).fetch (blk bt u.t.cells 154)).fetch (SpP 151 bs u.s)).fetch (blk bu (ucells bs bt gs) 108))
  refine W.ct (W.sr (WL.v (run_buildS (pl := qp0) (out := qv0) underlying44 zeroValue44 (fun w => by kernel_rfl) rfl (⟨⟨_, _, rfl, rfl, by decide⟩, trivial⟩) rfl) (WL.e (eff_storeW (vs := qv0) h sizeOf44 rfl rfl rfl rfl rfl) ?_)))
  rintro _ w h
  refine WL.nil (W.ret (bodyQ.rcB (vs := qv0) h results18 isAgg44 sizeOf44 rfl rfl rfl ?_))
  have h : On W0 (OwnB (.slice none 0 0) (plain 24 0 0 : Rp).data :: _) w := h.ownEmpty 1 none
  exact ⟨u, plain 24 0 0, .slice none 0 0, (doM_no hi (by show 1 ≤ kind; omega) (by show kind ≤ 18; omega) c9 (.inr hnil) (fun ha => by cases hr.2 ha)), rfl, h.to⟩
 refine WL.v (run_not rfl) (WL.m (WL.s (WL.s (WL.s (WL.pt (WL.m (WL.s ?_)))))))
 refine WL.s (WL.s (WL.pt (WL.nil (W.ct (W.sr (WL.e (eff_call call49 (wrong_ok h)) ?_))))))
 rintro _ w ⟨rfl, h⟩
 refine WL.e (eff_storeW (vs := qv0) h sizeOf44 rfl rfl rfl rfl rfl) ?_
 rintro _ w h
 refine WL.nil (W.ret (bodyQ.rcB (vs := qv0) h results18 isAgg44 sizeOf44 rfl rfl rfl ?_))
 have h : On W0 (OwnB (.slice none 0 0) (plain 2 5 8192 : Rp).data :: _) w := h.ownEmpty 1 none
 exact ⟨u, plain 2 5 8192, .slice none 0 0, (doM_bad (.inl hb)), rfl, h.to⟩
end Go.Proofs.YtjfmjbmkkpkppaaGreatDoor
namespace Go.Proofs.YtjfmjbmkkpkppaaGreatDoor
open Go.Proofs.Tryz
open Go Go.Sl Go.Sl.BitM Go.Sl.SpM Go.Sl.RsM Go.Sl.ByM Go.Sl.UnM Go.Sl.TpM
set_option maxHeartbeats 1000000
set_option maxRecDepth 8000
variable {W0 w : World} {L F : List HProp}
theorem and7 (m : Nat) : ((m &&& 7 : Nat) : Int) = ((m % 8 : Nat) : Int) := by
 rw [show m &&& 7 = m % 2 ^ 3 from Nat.and_two_pow_sub_one_eq_mod m 3]
theorem dkdo_ok {bd : Nat} {u : Un} {name : Str} {kind at_ n key new typ : Int} {force : Bool} {data : List UInt8} {ax : Option Addr} {cx : Nat} (hnl : name.length ≤ 1000) (hall : u.g.all (fun g => g.codes.isEmpty) = true) (hcm : okCm (⟨kind, at_, n, data, key, new, typ, force⟩ : Cm)) (h : On W0 (DeskP 123 108 151 154 bd u :: L) w) (C : Gives L (Bytes (.slice ax data.length cx) data)) (hd : data.length ≤ 1000000) : Calls Tryz.prog 69 #[.pointer (some ⟨bd, 0, none⟩), .string ⟨name.toArray⟩, (⟨kind, at_, n, data, key, new, typ, force⟩ : Cm).val (.slice ax data.length cx)] w (Ret fun v w' => ∃ dv, v = (doM u ((name.length % 8 : Nat) : Int) (⟨kind, at_, n, data, key, new, typ, force⟩ : Cm)).2.val dv ∧ On W0 (OwnB dv (doM u ((name.length % 8 : Nat) : Int) (⟨kind, at_, n, data, key, new, typ, force⟩ : Cm)).2.data :: DeskP 123 108 151 154 bd (doM u ((name.length % 8 : Nat) : Int) (⟨kind, at_, n, data, key, new, typ, force⟩ : Cm)).1 :: L) w') := by
 refine enter func69 rfl ntmps69 rfl ?_
 have hmx := maxLen_eq
 have ho_ := openDk h
 obtain ⟨bu, ms, hgu, h⟩ := ho_
 have hul := On.unLen (h.fetch (UnP 108 151 154 bu [] ms u))
 obtain ⟨hl8, hwf⟩ := hul
 have hsm := small_of hl8 hall
 refine W.sr (WL.e (eff_box (v := (⟨kind, at_, n, data, key, new, typ, force⟩ : Cm).val (.slice ax data.length cx)) (l := (⟨kind, at_, n, data, key, new, typ, force⟩ : Cm).cells (.slice ax data.length cx)) h rfl rfl) ?_)
 rintro _ w ⟨b5, rfl, h⟩
 refine WL.e (eff_alloc h zeroValue44 rfl) ?_
 rintro _ w ⟨b6, rfl, h⟩
 refine WL.nil (W.seq ?_)
 refine W.draw Tryz.follows h (fun w h => ?_)
 refine WT.m 0 rfl (WT.n 1 rfl rfl (WT.f 2 0 rfl underlying123 rfl sizeOf51 rfl rfl (WT.l 3 rfl isAgg51 rfl (h.cellB rfl) (WT.m 4 rfl (WT.p 5 rfl (fun w' => (run_lenStr underlying9 rfl)) (WT.p 6 rfl (fun w' => (run_andV (m := name.length) (n := 7) (and7 _) (congrArg (Value.int .i64) (by show ((name.toArray.size : Nat) : Int) = _; rw [List.size_toArray])) rfl (by show _ ≤ (9223372036854775807 : Int); omega) (by decide))) (WT.loadN 7 rfl (by kernel_rfl) isAgg29 sizeOf29 rfl rfl (h.rowV (n := 8) rfl) rfl rfl ?_)))))))
 refine WT.e 8 [false, false] rfl (eff_call call18 (udo_ok (fun i hi => Nat.le_trans (hsm i hi) (by decide)) hgu hcm (h.fetch (UnP 108 151 154 bu [] ms u)) (Gives.to C) hd)) ?_
 rintro _ w ⟨u2, r2, dv, hdo, rfl, h⟩
 have hfm := Own.form h
 obtain ⟨ad, cd, hdv, _, _, _⟩ := hfm
 subst hdv
 refine ⟨trivial, ?_⟩
 refine WT.e 9 [] rfl (eff_storeW (vs := r2.cells (.slice ad r2.data.length cd)) h sizeOf44 rfl rfl rfl rfl rfl) ?_
 rintro _ w h
 refine ⟨trivial, ?_⟩
 refine WT.dn (W.ret (bodyQ.rcB (vs := r2.cells (.slice ad r2.data.length cd)) h results69 isAgg44 sizeOf44 rfl rfl rfl ?_))
 have hgu2 := goodU_do (hh := ((name.length % 8 : Nat) : Int)) hl8 hgu hcm
 rw [hdo] at hgu2 ⊢
 have h := closeDk (bd := bd) hgu2 (h.to (T := blk bd [.pointer (some ⟨bu, 0, none⟩)] 123 :: UnP 108 151 154 bu [] ms u2   :: OwnB (.slice ad r2.data.length cd) r2.data :: L))
 exact ⟨_, rfl, h.to⟩
theorem run_minE {P : Program} {w : World} {ρ : Operand → Value} {d : Option Tmp} {ty : TypeId} {pos : String} {af : Array Edge} {g : Option (Nat × Bool)} {tys : Array TypeId} {x y : Operand} {m n z : Int} (hx : ρ x = .int .i64 m) (hy : ρ y = .int .i64 n) (hz : min m n = z) : (execOp ρ ⟨d, .call { callee := .builtin .min, args := #[x, y], argTypes := tys }, ty, pos, af, g⟩).run P w = .ok (.value (.int .i64 z)) w := by
 rw [run_minI hx hy, hz]
theorem done_some {s s' : Se} {u u' : Un} {tag : Nat} {c : Cm} {data : List UInt8} {q : Un × Rp} (hq : q = doM u ((s.p.name.length % 8 : Nat) : Int) { c with data := data }) (h : s.done u tag c data = some (s', u')) :
   (u.g.all (fun g => g.codes.isEmpty) = true ∧ q.2.st = 0 ∧ q.2.data.length ≤ s.p.maxd ∧ 0 < s.p.maxd ∧ data.length ≤ 4096 ∧ q.2.data.length ≤ 4096) ∧ u' = q.1 ∧
     s' = (if q.2.data = [] then s else s.say { zPd with op := 37, tag := tag, off := 0, data := q.2.data, fin := true }).sayer 33 { zPd with tag := tag, st := 0, fin := true, len := q.2.data.length } := by
 unfold Se.done at h
 simp only [] at h
 rw [show doM u (hostN s.p.name : Nat) { c with data := data } = q from hq.symm] at h
 split at h
 · rename_i hc; cases h; exact ⟨hc, rfl, rfl⟩
 cases h
theorem okData {tag : Nat} {d : List UInt8} (ht : tag < 4294967296) (hd : d.length ≤ 4096) : okPd ({ zPd with op := 37, tag := tag, off := 0, data := d, fin := true } : Pd) := by
 refine ⟨⟨rfl, rfl, (show (0 : Nat) < 128 by decide), (show (0 : Nat) < 256 by decide)⟩, hd, ?_⟩
 intro v hv
 simp only [nums, zPd, List.mem_cons, List.not_mem_nil, or_false] at hv
 rcases hv with rfl | rfl | rfl | rfl | rfl | rfl <;> first | exact ht | decide
theorem run_addE {P : Program} {w : World} {ρ : Operand → Value} {d : Option Tmp} {t ty yt : TypeId} {pos : String} {af : Array Edge} {g : Option (Nat × Bool)} {x y : Operand} {m n z : Int} (hx : ρ x = .int .i64 m) (hy : ρ y = .int .i64 n) (hz : m + n = z) (h : -9223372036854775808 ≤ m + n) (h' : m + n ≤ 9223372036854775807) : (execOp ρ ⟨d, .binOp .add t x y yt, ty, pos, af, g⟩).run P w = .ok (.value (.int .i64 z)) w := by
 rw [run_add hx hy h h', hz]
theorem seMono {T TR K K' b : Nat} {acl : List Str} {dof : Value} {s : Se} (hk : K ≤ K') (H : On W0 (SeP T TR K b acl dof s :: L) w) : On W0 (SeP T TR K' b acl dof s :: L) w := by
 obtain ⟨x, h1, h2, h3⟩ := openSe H
 exact closeSe x h1 (Nat.le_trans h2 hk) h3
theorem sedone_ok {bs bd K tag : Nat} {acl : List Str} {s s' : Se} {u u' : Un} {ac_ : Option Addr} {nc_ cc_ : Nat} {cdat : List UInt8} {kind at_ n key new typ : Int} {force : Bool} {data : List UInt8} {ax : Option Addr} {cx : Nat} (hk : kind = 2 ∨ kind = 3) (hcm : okCm (⟨kind, at_, n, cdat, key, new, typ, force⟩ : Cm)) (ht : tag < 4294967296) (hm : s.done u tag (⟨kind, at_, n, cdat, key, new, typ, force⟩ : Cm) data = some (s', u')) (hK0 : K ≤ 90000) (h : On W0 (SeP 183 117 K bs acl (.func (.func 69) #[.pointer (some ⟨bd, 0, none⟩)] #[]) s :: DeskP 123 108 151 154 bd u :: L) w) (C : Gives L (Bytes (.slice ax data.length cx) data)) : Calls Tryz.prog 165 #[.pointer (some ⟨bs, 0, none⟩), .int .u32 (tag : Int), .agg #[.int .i64 kind, .int .i64 at_, .int .i64 n, .slice ac_ nc_ cc_, .int .u64 key, .int .u64 new, .int .i64 typ, .bool force], .slice ax data.length cx] w (Ret fun v w' => On W0 (SeP 183 117 (K + 8400) bs acl (.func (.func 69) #[.pointer (some ⟨bd, 0, none⟩)] #[]) s' :: DeskP 123 108 151 154 bd u' :: L) w') := by
 refine enter func165 rfl ntmps165 rfl ?_
 have hmx := maxLen_eq
 have ob_ : ∃ q, q = doM u ((s.p.name.length % 8 : Nat) : Int) ⟨kind, at_, n, data, key, new, typ, force⟩ := ⟨_, rfl⟩
 obtain ⟨q, hq⟩ := ob_
 have hds := done_some (c := (⟨kind, at_, n, cdat, key, new, typ, force⟩ : Cm)) hq hm
 obtain ⟨⟨hall, hst, hle, hmx0, hdl, hql⟩, hu, hs'⟩ := hds
 clear hm
 subst hu
 subst hs'
 have ho_ := openSe h
 obtain ⟨x, hok, hK, h⟩ := ho_
 have h : On W0 (blk bs [.slice x.aa acl.length x.ca, (.func (.func 69) #[.pointer (some ⟨bd, 0, none⟩)] #[]), .pointer (some ⟨x.br, 0, none⟩), .string ⟨s.p.name.toArray⟩, .int .i64 (s.p.maxd : Int), .int .i64 (s.p.burst : Int), .bool s.p.imm, .bool s.p.dig, .bool s.open_, .bool false, .int .u32 (s.exp : Int), .int .u32 (s.sn : Int), .slice none 0 0, .slice x.at_ s.told.length x.ct] 183 :: _) w := h
 have hok0 := hok
 obtain ⟨okp, ok2, ok3⟩ := hok
 have okn := okp.name
 have okm := okp.maxd
 refine W.sr (WL.e (eff_box (v := .agg #[.int .i64 kind, .int .i64 at_, .int .i64 n, .slice ac_ nc_ cc_, .int .u64 key, .int .u64 new, .int .i64 typ, .bool force]) (l := [.int .i64 kind, .int .i64 at_, .int .i64 n, .slice ac_ nc_ cc_, .int .u64 key, .int .u64 new, .int .i64 typ, .bool force]) h rfl rfl) ?_)
 rintro _ w ⟨b6, rfl, h⟩
 refine WL.nil (W.seq (W.sr (WL.c 0 underlying29 rfl sizeOf3 rfl isAgg3 h rfl (WL.nil (W.block ?_)))))
 refine W.seq (W.sr (WL.v (run_eqlF rfl rfl (by omega)) (WL.z (W.cf (W.seq ?_)))))
 refine W.region (WL.v (run_eqlF rfl rfl (by omega)) (WL.z (W.cf (W.sr (WL.v (run_eqlF rfl rfl (by omega)) ?_)))))
 refine WL.z (W.cf (W.sr (WL.v (run_eqlF rfl rfl (by omega)) (WL.z ?_))))
 refine W.cf (W.sr (WL.v (run_eqlF rfl rfl (by omega)) (WL.z (W.cf (W.region ?_)))))
 refine WL.v (run_eqlF rfl rfl (by omega)) (WL.z (W.cf (W.region (WL.m (WL.e (eff_call call47 (clone_bytes (ao := ax) (cap := cx) (bs := data) h (Gives.to C) (by omega))) ?_)))))
 rintro _ w ⟨a19, c19, rfl, h⟩
 refine WL.f 3 underlying29 rfl sizeOf26 rfl rfl (WL.e (eff_store (v := .slice _ _ _) h sizeOf26 rfl rfl rfl rfl rfl) ?_)
 rintro _ w h
 try simp only [Nat.zero_add, Nat.add_zero, List.set_cons_zero, List.set_cons_succ] at h
 refine WL.nil (W.seq ?_)
 refine W.draw Tryz.follows h (fun w h => ?_)
 refine WT.m 0 rfl (WT.n 1 rfl rfl (WT.f 2 1 rfl underlying183 rfl sizeOf133 rfl rfl (WT.l 3 rfl isAgg133 rfl (h.cellB rfl) (WT.m 4 rfl (WT.n 5 rfl rfl (WT.f 6 3 rfl underlying183 rfl sizeOf127 rfl rfl (WT.f 7 0 rfl underlying127 rfl sizeOf9 rfl rfl ?_)))))))
 refine WT.l 8 rfl isAgg9 rfl (h.cellB rfl) (WT.loadN (vs := qv3) 9 rfl (by kernel_rfl) isAgg29 sizeOf29 rfl rfl (h.rowV (n := 8) rfl) rfl rfl ?_)
 refine WT.two 10 11 (by kernel_rfl) ?_ ?_
 ·
  refine WT.opOf 10 [false, false, false] rfl (by kernel_rfl) (eff_callV (xs := [_, _]) rfl call69 (dkdo_ok (u := u) (name := s.p.name) (kind := kind) (at_ := at_) (n := n) (data := data) (key := key) (new := new) (typ := typ) (force := force) (ax := a19) (cx := c19) okn hall hcm (h.fetch (DeskP 123 108 151 154 bd u)) (Gives.ownO (v := .slice a19 data.length c19)) (by omega))) rfl rfl ?_
  rintro _ w ⟨dv, rfl, h⟩
  rw [← hq] at h ⊢
  have hfm := Own.form h
  obtain ⟨ad, cd, hdv, hcl, hcm2, _⟩ := hfm
  subst hdv
  refine ⟨trivial, ?_⟩
  refine WT.e 11 [] rfl (eff_alloc h zeroValue44 rfl) ?_
  rintro _ w ⟨b12, rfl, h⟩
  refine ⟨trivial, ?_⟩
  refine WT.e 12 [] rfl (eff_storeW (vs := q.2.cells (.slice ad q.2.data.length cd)) h sizeOf44 rfl rfl rfl rfl rfl) ?_
  rintro _ w h
  refine ⟨trivial, ?_⟩
  refine WT.dn (W.sr (WL.z (W.seq (W.sr ?_))))
  refine WL.c 0 underlying44 rfl sizeOf3 rfl isAgg3 h rfl (WL.v (run_eqlT rfl rfl (hst)) (WL.nil (W.ct (W.region (WL.c 3 underlying44 rfl sizeOf26 rfl isAgg26 h rfl ?_)))))
  refine WL.v (run_lenSlice underlying26 rfl) (WL.z (W.seq (W.sr (WL.z ?_))))
  refine W.block ?_
  refine W.loop (fun (k : Nat) env w => k ≤ 1 ∧ ∃ (j : Env) (z : Int) (ss : Se) (KK : Nat), ((k = 0 ∧ 0 = z ∧ s = ss ∧ K = KK) ∨ (k = 1 ∧ (s.p.maxd : Int) = z ∧ (s.say ({ zPd with op := 37, tag := tag, off := 0, data := q.2.data, fin := true } : Pd)) = ss ∧ K + 4200 = KK ∧ q.2.data ≠ [])) ∧ env = mkE j [(0, .pointer (some ⟨bs, 0, none⟩)), (1, .int .u32 (tag : Int)), (12, .pointer (some ⟨b12, 0, none⟩)), (13, .int .i64 (q.2.data.length : Int)), (14, .int .i64 z)] ∧ On W0 (SeP 183 117 KK bs acl (.func (.func 69) #[.pointer (some ⟨bd, 0, none⟩)] #[]) ss :: blk b12 (q.2.cells (.slice ad q.2.data.length cd)) 44 :: OwnB (.slice ad q.2.data.length cd) q.2.data :: DeskP 123 108 151 154 bd q.1 :: L) w) (fun k => 1 - k) (0) ?_ ?_
  · have h := closeSe (s := s) x hok0 hK (h.to (T := blk bs [.slice x.aa acl.length x.ca, (.func (.func 69) #[.pointer (some ⟨bd, 0, none⟩)] #[]), .pointer (some ⟨x.br, 0, none⟩), .string ⟨s.p.name.toArray⟩, .int .i64 (s.p.maxd : Int), .int .i64 (s.p.burst : Int), .bool s.p.imm, .bool s.p.dig, .bool s.open_, .bool false, .int .u32 (s.exp : Int), .int .u32 (s.sn : Int), .slice none 0 0, .slice x.at_ s.told.length x.ct] 183 :: RdrP 117 x.br s.r :: Own 1 (.slice x.aa acl.length x.ca) acl.length (acl.map fun t => Value.string ⟨t.toArray⟩) :: OwnB (.slice x.at_ s.told.length x.ct) s.told :: blk b12 (q.2.cells (.slice ad q.2.data.length cd)) 44 :: OwnB (.slice ad q.2.data.length cd) q.2.data :: DeskP 123 108 151 154 bd q.1 :: L))
    exact ⟨by decide, _, 0, s, K, .inl ⟨rfl, rfl, rfl, rfl⟩, mkE_of ⟨rfl, rfl, rfl, rfl, rfl, trivial⟩, h⟩
  clear h hok0
  rintro k env w ⟨hk1, j, z, ss, KK, hcs, rfl, h⟩
  refine W.seq (W.sr (WL.m (WL.m (WL.v (run_lss rfl rfl) (WL.nil ?_)))))
  refine W.condIf rfl (fun c38 => ?_) (fun c38 => ?_)
  ·
   have hcs0 : k = 0 ∧ 0 = z ∧ s = ss ∧ K = KK := by
     rcases hcs with q_ | ⟨_, qz, _⟩
     · exact q_
     omega
   obtain ⟨hk0, hz0, hss, hKK⟩ := hcs0
   clear hcs
   subst hk0
   subst hz0
   subst hss
   subst hKK
   have hne : q.2.data ≠ [] := by
     intro e
     have := congrArg List.length e
     simp only [List.length_nil] at this
     omega
   have ho_ := openSe h
   obtain ⟨y, hoks, hKs, h⟩ := ho_
   have h : On W0 (blk bs [.slice y.aa acl.length y.ca, (.func (.func 69) #[.pointer (some ⟨bd, 0, none⟩)] #[]), .pointer (some ⟨y.br, 0, none⟩), .string ⟨s.p.name.toArray⟩, .int .i64 (s.p.maxd : Int), .int .i64 (s.p.burst : Int), .bool s.p.imm, .bool s.p.dig, .bool s.open_, .bool false, .int .u32 (s.exp : Int), .int .u32 (s.sn : Int), .slice none 0 0, .slice y.at_ s.told.length y.ct] 183 :: _) w := h
   have gD : Gives [OwnB (.slice ad q.2.data.length cd) q.2.data] (Bytes (.slice ad q.2.data.length cd) q.2.data) := Gives.ownO (v := .slice ad q.2.data.length cd)
   have hct := cut_bytes (l := 0) (h := q.2.data.length) gD hcl (Nat.zero_le _) (Nat.le_refl _)
   rw [show (q.2.data.drop 0).take (q.2.data.length - 0) = q.2.data by rw [List.drop_zero, Nat.sub_zero, List.take_length]] at hct
   obtain ⟨aX, cX, hcut, gX⟩ := hct
   refine W.skip (W.seq (W.block (W.sr (WL.m (WL.m (WL.n rfl ?_))))))
   refine WL.f 3 underlying183 rfl sizeOf127 rfl rfl (WL.c 1 underlying127 rfl sizeOf3 rfl isAgg3 h rfl (WL.v (run_add rfl rfl (by omega) (by omega)) (WL.m (WL.v (run_minE (z := (q.2.data.length : Int)) rfl rfl (by omega)) (WL.z ?_)))))
   refine W.region (WL.m (WL.m (WL.m (WL.v (run_convIn underlying3 underlying24 rfl (by decide) (by decide)) (WL.c 3 underlying44 rfl sizeOf26 rfl isAgg26 h rfl (WL.m ?_))))))
   refine WL.m (WL.v (run_cutLHV (l := 0) (h := q.2.data.length) underlying26 sizeOf5 rfl rfl rfl (by omega) (by omega) hcut) (WL.m (WL.m (WL.v (run_eqlT rfl rfl (rfl)) ?_))))
   refine WL.v (run_buildS (pl := qp2) (out := qv1) underlying36 zeroValue36 (fun w => by kernel_rfl) rfl (⟨⟨_, _, rfl, rfl, by decide⟩, ⟨⟨_, _, rfl, rfl, by decide⟩, ⟨⟨_, _, rfl, rfl, by decide⟩, ⟨⟨_, _, rfl, rfl, by decide⟩, ⟨⟨_, _, rfl, rfl, by decide⟩, trivial⟩⟩⟩⟩⟩) rfl) ?_
   refine WL.e (eff_call call170 (ssay_ok (s := s) (p := ({ zPd with op := 37, tag := tag, off := 0, data := q.2.data, fin := true } : Pd)) (ap := aX) (cp := cX) (okData ht hql) (by omega) (closeSe (s := s) y hoks hKs (h.to (T := blk bs [.slice y.aa acl.length y.ca, (.func (.func 69) #[.pointer (some ⟨bd, 0, none⟩)] #[]), .pointer (some ⟨y.br, 0, none⟩), .string ⟨s.p.name.toArray⟩, .int .i64 (s.p.maxd : Int), .int .i64 (s.p.burst : Int), .bool s.p.imm, .bool s.p.dig, .bool s.open_, .bool false, .int .u32 (s.exp : Int), .int .u32 (s.sn : Int), .slice none 0 0, .slice y.at_ s.told.length y.ct] 183 :: RdrP 117 y.br s.r :: Own 1 (.slice y.aa acl.length y.ca) acl.length (acl.map fun t => Value.string ⟨t.toArray⟩) :: OwnB (.slice y.at_ s.told.length y.ct) s.told :: blk b12 (q.2.cells (.slice ad q.2.data.length cd)) 44 :: OwnB (.slice ad q.2.data.length cd) q.2.data :: DeskP 123 108 151 154 bd q.1 :: L))) (Gives.to (T := [OwnB (.slice ad q.2.data.length cd) q.2.data]) gX))) ?_
   rintro _ w h
   refine WL.nil ?_
   have ho_ := openSe h
   obtain ⟨z, hoks, hKz, h⟩ := ho_
   have h : On W0 (blk bs [.slice z.aa acl.length z.ca, (.func (.func 69) #[.pointer (some ⟨bd, 0, none⟩)] #[]), .pointer (some ⟨z.br, 0, none⟩), .string ⟨(s.say ({ zPd with op := 37, tag := tag, off := 0, data := q.2.data, fin := true } : Pd)).p.name.toArray⟩, .int .i64 ((s.say ({ zPd with op := 37, tag := tag, off := 0, data := q.2.data, fin := true } : Pd)).p.maxd : Int), .int .i64 ((s.say ({ zPd with op := 37, tag := tag, off := 0, data := q.2.data, fin := true } : Pd)).p.burst : Int), .bool (s.say ({ zPd with op := 37, tag := tag, off := 0, data := q.2.data, fin := true } : Pd)).p.imm, .bool (s.say ({ zPd with op := 37, tag := tag, off := 0, data := q.2.data, fin := true } : Pd)).p.dig, .bool (s.say ({ zPd with op := 37, tag := tag, off := 0, data := q.2.data, fin := true } : Pd)).open_, .bool false, .int .u32 ((s.say ({ zPd with op := 37, tag := tag, off := 0, data := q.2.data, fin := true } : Pd)).exp : Int), .int .u32 ((s.say ({ zPd with op := 37, tag := tag, off := 0, data := q.2.data, fin := true } : Pd)).sn : Int), .slice none 0 0, .slice z.at_ (s.say ({ zPd with op := 37, tag := tag, off := 0, data := q.2.data, fin := true } : Pd)).told.length z.ct] 183 :: _) w := h
   refine W.region (WL.m (WL.m (WL.n rfl (WL.f 3 underlying183 rfl sizeOf127 rfl rfl (WL.c 1 underlying127 rfl sizeOf3 rfl isAgg3 h rfl (WL.v (run_addE (z := (s.p.maxd : Int)) rfl rfl (Int.zero_add _) (by omega) (by omega)) ?_))))))
   refine WL.z ?_
   have h := closeSe (s := (s.say ({ zPd with op := 37, tag := tag, off := 0, data := q.2.data, fin := true } : Pd))) z hoks hKz (h.to (T := blk bs [.slice z.aa acl.length z.ca, (.func (.func 69) #[.pointer (some ⟨bd, 0, none⟩)] #[]), .pointer (some ⟨z.br, 0, none⟩), .string ⟨(s.say ({ zPd with op := 37, tag := tag, off := 0, data := q.2.data, fin := true } : Pd)).p.name.toArray⟩, .int .i64 ((s.say ({ zPd with op := 37, tag := tag, off := 0, data := q.2.data, fin := true } : Pd)).p.maxd : Int), .int .i64 ((s.say ({ zPd with op := 37, tag := tag, off := 0, data := q.2.data, fin := true } : Pd)).p.burst : Int), .bool (s.say ({ zPd with op := 37, tag := tag, off := 0, data := q.2.data, fin := true } : Pd)).p.imm, .bool (s.say ({ zPd with op := 37, tag := tag, off := 0, data := q.2.data, fin := true } : Pd)).p.dig, .bool (s.say ({ zPd with op := 37, tag := tag, off := 0, data := q.2.data, fin := true } : Pd)).open_, .bool false, .int .u32 ((s.say ({ zPd with op := 37, tag := tag, off := 0, data := q.2.data, fin := true } : Pd)).exp : Int), .int .u32 ((s.say ({ zPd with op := 37, tag := tag, off := 0, data := q.2.data, fin := true } : Pd)).sn : Int), .slice none 0 0, .slice z.at_ (s.say ({ zPd with op := 37, tag := tag, off := 0, data := q.2.data, fin := true } : Pd)).told.length z.ct] 183 :: RdrP 117 z.br (s.say ({ zPd with op := 37, tag := tag, off := 0, data := q.2.data, fin := true } : Pd)).r :: Own 1 (.slice z.aa acl.length z.ca) acl.length (acl.map fun t => Value.string ⟨t.toArray⟩) :: OwnB (.slice z.at_ (s.say ({ zPd with op := 37, tag := tag, off := 0, data := q.2.data, fin := true } : Pd)).told.length z.ct) (s.say ({ zPd with op := 37, tag := tag, off := 0, data := q.2.data, fin := true } : Pd)).told :: blk b12 (q.2.cells (.slice ad q.2.data.length cd)) 44 :: OwnB (.slice ad q.2.data.length cd) q.2.data :: DeskP 123 108 151 154 bd q.1 :: L))
   exact ⟨1, ⟨Nat.le_refl _, _, _, _, _, .inr ⟨rfl, rfl, rfl, rfl, hne⟩, mkE_of ⟨rfl, rfl, rfl, rfl, rfl, trivial⟩, h.to⟩, by decide⟩
  have hsf : (if q.2.data = [] then s else (s.say ({ zPd with op := 37, tag := tag, off := 0, data := q.2.data, fin := true } : Pd))) = ss ∧ KK ≤ K + 4200 ∧ ss.sn = s.sn := by
    rcases hcs with ⟨_, qz, q1, q2⟩ | ⟨_, _, q1, q2, q3⟩
    · rw [if_pos (List.eq_nil_of_length_eq_zero (by omega))]
      exact ⟨q1, by omega, by rw [← q1]⟩
    rw [if_neg q3]
    exact ⟨q1, by omega, by rw [← q1]; rfl⟩
  obtain ⟨hsf, hKK, hsn⟩ := hsf
  refine W.exit ?_
  have h := h.fetch (blk b12 (q.2.cells (.slice ad q.2.data.length cd)) 44)
  have h : On W0 (blk b12 [.int .i64 q.2.st, .int .i64 q.2.key, .int .i64 q.2.code, .slice ad q.2.data.length cd, .int .i64 q.2.info] 44 :: _) w := h
  rw [hst] at h
  refine W.region (WL.m (WL.m (WL.v (run_loadB (vs := qv0) h isAgg44 sizeOf44 rfl rfl rfl) (WL.m (WL.e (eff_call call164 (srespond_ok (K := KK) (s := ss) (tag := tag) (n := q.2.data.length) ht (by omega) (by omega) (by rw [hsn]; exact ok3) (h.fetch (SeP 183 117 KK bs acl (.func (.func 69) #[.pointer (some ⟨bd, 0, none⟩)] #[]) ss)))) ?_)))))
  rintro _ w h
  refine WL.nil (bodyQ.fall (bodyQ.r0 results165 ?_))
  rw [hsf]
  exact seMono (K := KK + 4200) (by omega) h.to
 refine WT.opOf 11 [true, true, true] rfl (by kernel_rfl) (eff_alloc h zeroValue44 rfl) rfl rfl ?_
 rintro _ w ⟨b12, rfl, h⟩
 refine ⟨⟨(h.rowV (n := 8) rfl), h.cellB rfl, h.cellB rfl, trivial⟩, ?_⟩
 refine WT.e 10 [false, false, false] rfl (eff_callV (xs := [_, _]) rfl call69 (dkdo_ok (u := u) (name := s.p.name) (kind := kind) (at_ := at_) (n := n) (data := data) (key := key) (new := new) (typ := typ) (force := force) (ax := a19) (cx := c19) okn hall hcm (h.fetch (DeskP 123 108 151 154 bd u)) (Gives.ownO (v := .slice a19 data.length c19)) (by omega))) ?_
 rintro _ w ⟨dv, rfl, h⟩
 rw [← hq] at h ⊢
 have hfm := Own.form h
 obtain ⟨ad, cd, hdv, hcl, hcm2, _⟩ := hfm
 subst hdv
 refine ⟨trivial, ?_⟩
 refine WT.e 12 [] rfl (eff_storeW (vs := q.2.cells (.slice ad q.2.data.length cd)) h sizeOf44 rfl rfl rfl rfl rfl) ?_
 rintro _ w h
 refine ⟨trivial, ?_⟩
 refine WT.dn (W.sr (WL.z (W.seq (W.sr ?_))))
 refine WL.c 0 underlying44 rfl sizeOf3 rfl isAgg3 h rfl (WL.v (run_eqlT rfl rfl (hst)) (WL.nil (W.ct (W.region (WL.c 3 underlying44 rfl sizeOf26 rfl isAgg26 h rfl ?_)))))
 refine WL.v (run_lenSlice underlying26 rfl) (WL.z (W.seq (W.sr (WL.z ?_))))
 refine W.block ?_
 refine W.loop (fun (k : Nat) env w => k ≤ 1 ∧ ∃ (j : Env) (z : Int) (ss : Se) (KK : Nat), ((k = 0 ∧ 0 = z ∧ s = ss ∧ K = KK) ∨ (k = 1 ∧ (s.p.maxd : Int) = z ∧ (s.say ({ zPd with op := 37, tag := tag, off := 0, data := q.2.data, fin := true } : Pd)) = ss ∧ K + 4200 = KK ∧ q.2.data ≠ [])) ∧ env = mkE j [(0, .pointer (some ⟨bs, 0, none⟩)), (1, .int .u32 (tag : Int)), (12, .pointer (some ⟨b12, 0, none⟩)), (13, .int .i64 (q.2.data.length : Int)), (14, .int .i64 z)] ∧ On W0 (SeP 183 117 KK bs acl (.func (.func 69) #[.pointer (some ⟨bd, 0, none⟩)] #[]) ss :: blk b12 (q.2.cells (.slice ad q.2.data.length cd)) 44 :: OwnB (.slice ad q.2.data.length cd) q.2.data :: DeskP 123 108 151 154 bd q.1 :: L) w) (fun k => 1 - k) (0) ?_ ?_
 · have h := closeSe (s := s) x hok0 hK (h.to (T := blk bs [.slice x.aa acl.length x.ca, (.func (.func 69) #[.pointer (some ⟨bd, 0, none⟩)] #[]), .pointer (some ⟨x.br, 0, none⟩), .string ⟨s.p.name.toArray⟩, .int .i64 (s.p.maxd : Int), .int .i64 (s.p.burst : Int), .bool s.p.imm, .bool s.p.dig, .bool s.open_, .bool false, .int .u32 (s.exp : Int), .int .u32 (s.sn : Int), .slice none 0 0, .slice x.at_ s.told.length x.ct] 183 :: RdrP 117 x.br s.r :: Own 1 (.slice x.aa acl.length x.ca) acl.length (acl.map fun t => Value.string ⟨t.toArray⟩) :: OwnB (.slice x.at_ s.told.length x.ct) s.told :: blk b12 (q.2.cells (.slice ad q.2.data.length cd)) 44 :: OwnB (.slice ad q.2.data.length cd) q.2.data :: DeskP 123 108 151 154 bd q.1 :: L))
   exact ⟨by decide, _, 0, s, K, .inl ⟨rfl, rfl, rfl, rfl⟩, mkE_of ⟨rfl, rfl, rfl, rfl, rfl, trivial⟩, h⟩
 clear h hok0
 rintro k env w ⟨hk1, j, z, ss, KK, hcs, rfl, h⟩
 refine W.seq (W.sr (WL.m (WL.m (WL.v (run_lss rfl rfl) (WL.nil ?_)))))
 refine W.condIf rfl (fun c38 => ?_) (fun c38 => ?_)
 ·
  have hcs0 : k = 0 ∧ 0 = z ∧ s = ss ∧ K = KK := by
    rcases hcs with q_ | ⟨_, qz, _⟩
    · exact q_
    omega
  obtain ⟨hk0, hz0, hss, hKK⟩ := hcs0
  clear hcs
  subst hk0
  subst hz0
  subst hss
  subst hKK
  have hne : q.2.data ≠ [] := by
    intro e
    have := congrArg List.length e
    simp only [List.length_nil] at this
    omega
  have ho_ := openSe h
  obtain ⟨y, hoks, hKs, h⟩ := ho_
  have h : On W0 (blk bs [.slice y.aa acl.length y.ca, (.func (.func 69) #[.pointer (some ⟨bd, 0, none⟩)] #[]), .pointer (some ⟨y.br, 0, none⟩), .string ⟨s.p.name.toArray⟩, .int .i64 (s.p.maxd : Int), .int .i64 (s.p.burst : Int), .bool s.p.imm, .bool s.p.dig, .bool s.open_, .bool false, .int .u32 (s.exp : Int), .int .u32 (s.sn : Int), .slice none 0 0, .slice y.at_ s.told.length y.ct] 183 :: _) w := h
  have gD : Gives [OwnB (.slice ad q.2.data.length cd) q.2.data] (Bytes (.slice ad q.2.data.length cd) q.2.data) := Gives.ownO (v := .slice ad q.2.data.length cd)
  have hct := cut_bytes (l := 0) (h := q.2.data.length) gD hcl (Nat.zero_le _) (Nat.le_refl _)
  rw [show (q.2.data.drop 0).take (q.2.data.length - 0) = q.2.data by rw [List.drop_zero, Nat.sub_zero, List.take_length]] at hct
  obtain ⟨aX, cX, hcut, gX⟩ := hct
  refine W.skip (W.seq (W.block (W.sr (WL.m (WL.m (WL.n rfl ?_))))))
  refine WL.f 3 underlying183 rfl sizeOf127 rfl rfl (WL.c 1 underlying127 rfl sizeOf3 rfl isAgg3 h rfl (WL.v (run_add rfl rfl (by omega) (by omega)) (WL.m (WL.v (run_minE (z := (q.2.data.length : Int)) rfl rfl (by omega)) (WL.z ?_)))))
  refine W.region (WL.m (WL.m (WL.m (WL.v (run_convIn underlying3 underlying24 rfl (by decide) (by decide)) (WL.c 3 underlying44 rfl sizeOf26 rfl isAgg26 h rfl (WL.m ?_))))))
  refine WL.m (WL.v (run_cutLHV (l := 0) (h := q.2.data.length) underlying26 sizeOf5 rfl rfl rfl (by omega) (by omega) hcut) (WL.m (WL.m (WL.v (run_eqlT rfl rfl (rfl)) ?_))))
  refine WL.v (run_buildS (pl := qp2) (out := qv1) underlying36 zeroValue36 (fun w => by kernel_rfl) rfl (⟨⟨_, _, rfl, rfl, by decide⟩, ⟨⟨_, _, rfl, rfl, by decide⟩, ⟨⟨_, _, rfl, rfl, by decide⟩, ⟨⟨_, _, rfl, rfl, by decide⟩, ⟨⟨_, _, rfl, rfl, by decide⟩, trivial⟩⟩⟩⟩⟩) rfl) ?_
  refine WL.e (eff_call call170 (ssay_ok (s := s) (p := ({ zPd with op := 37, tag := tag, off := 0, data := q.2.data, fin := true } : Pd)) (ap := aX) (cp := cX) (okData ht hql) (by omega) (closeSe (s := s) y hoks hKs (h.to (T := blk bs [.slice y.aa acl.length y.ca, (.func (.func 69) #[.pointer (some ⟨bd, 0, none⟩)] #[]), .pointer (some ⟨y.br, 0, none⟩), .string ⟨s.p.name.toArray⟩, .int .i64 (s.p.maxd : Int), .int .i64 (s.p.burst : Int), .bool s.p.imm, .bool s.p.dig, .bool s.open_, .bool false, .int .u32 (s.exp : Int), .int .u32 (s.sn : Int), .slice none 0 0, .slice y.at_ s.told.length y.ct] 183 :: RdrP 117 y.br s.r :: Own 1 (.slice y.aa acl.length y.ca) acl.length (acl.map fun t => Value.string ⟨t.toArray⟩) :: OwnB (.slice y.at_ s.told.length y.ct) s.told :: blk b12 (q.2.cells (.slice ad q.2.data.length cd)) 44 :: OwnB (.slice ad q.2.data.length cd) q.2.data :: DeskP 123 108 151 154 bd q.1 :: L))) (Gives.to (T := [OwnB (.slice ad q.2.data.length cd) q.2.data]) gX))) ?_
  rintro _ w h
  refine WL.nil ?_
  have ho_ := openSe h
  obtain ⟨z, hoks, hKz, h⟩ := ho_
  have h : On W0 (blk bs [.slice z.aa acl.length z.ca, (.func (.func 69) #[.pointer (some ⟨bd, 0, none⟩)] #[]), .pointer (some ⟨z.br, 0, none⟩), .string ⟨(s.say ({ zPd with op := 37, tag := tag, off := 0, data := q.2.data, fin := true } : Pd)).p.name.toArray⟩, .int .i64 ((s.say ({ zPd with op := 37, tag := tag, off := 0, data := q.2.data, fin := true } : Pd)).p.maxd : Int), .int .i64 ((s.say ({ zPd with op := 37, tag := tag, off := 0, data := q.2.data, fin := true } : Pd)).p.burst : Int), .bool (s.say ({ zPd with op := 37, tag := tag, off := 0, data := q.2.data, fin := true } : Pd)).p.imm, .bool (s.say ({ zPd with op := 37, tag := tag, off := 0, data := q.2.data, fin := true } : Pd)).p.dig, .bool (s.say ({ zPd with op := 37, tag := tag, off := 0, data := q.2.data, fin := true } : Pd)).open_, .bool false, .int .u32 ((s.say ({ zPd with op := 37, tag := tag, off := 0, data := q.2.data, fin := true } : Pd)).exp : Int), .int .u32 ((s.say ({ zPd with op := 37, tag := tag, off := 0, data := q.2.data, fin := true } : Pd)).sn : Int), .slice none 0 0, .slice z.at_ (s.say ({ zPd with op := 37, tag := tag, off := 0, data := q.2.data, fin := true } : Pd)).told.length z.ct] 183 :: _) w := h
  refine W.region (WL.m (WL.m (WL.n rfl (WL.f 3 underlying183 rfl sizeOf127 rfl rfl (WL.c 1 underlying127 rfl sizeOf3 rfl isAgg3 h rfl (WL.v (run_addE (z := (s.p.maxd : Int)) rfl rfl (Int.zero_add _) (by omega) (by omega)) ?_))))))
  refine WL.z ?_
  have h := closeSe (s := (s.say ({ zPd with op := 37, tag := tag, off := 0, data := q.2.data, fin := true } : Pd))) z hoks hKz (h.to (T := blk bs [.slice z.aa acl.length z.ca, (.func (.func 69) #[.pointer (some ⟨bd, 0, none⟩)] #[]), .pointer (some ⟨z.br, 0, none⟩), .string ⟨(s.say ({ zPd with op := 37, tag := tag, off := 0, data := q.2.data, fin := true } : Pd)).p.name.toArray⟩, .int .i64 ((s.say ({ zPd with op := 37, tag := tag, off := 0, data := q.2.data, fin := true } : Pd)).p.maxd : Int), .int .i64 ((s.say ({ zPd with op := 37, tag := tag, off := 0, data := q.2.data, fin := true } : Pd)).p.burst : Int), .bool (s.say ({ zPd with op := 37, tag := tag, off := 0, data := q.2.data, fin := true } : Pd)).p.imm, .bool (s.say ({ zPd with op := 37, tag := tag, off := 0, data := q.2.data, fin := true } : Pd)).p.dig, .bool (s.say ({ zPd with op := 37, tag := tag, off := 0, data := q.2.data, fin := true } : Pd)).open_, .bool false, .int .u32 ((s.say ({ zPd with op := 37, tag := tag, off := 0, data := q.2.data, fin := true } : Pd)).exp : Int), .int .u32 ((s.say ({ zPd with op := 37, tag := tag, off := 0, data := q.2.data, fin := true } : Pd)).sn : Int), .slice none 0 0, .slice z.at_ (s.say ({ zPd with op := 37, tag := tag, off := 0, data := q.2.data, fin := true } : Pd)).told.length z.ct] 183 :: RdrP 117 z.br (s.say ({ zPd with op := 37, tag := tag, off := 0, data := q.2.data, fin := true } : Pd)).r :: Own 1 (.slice z.aa acl.length z.ca) acl.length (acl.map fun t => Value.string ⟨t.toArray⟩) :: OwnB (.slice z.at_ (s.say ({ zPd with op := 37, tag := tag, off := 0, data := q.2.data, fin := true } : Pd)).told.length z.ct) (s.say ({ zPd with op := 37, tag := tag, off := 0, data := q.2.data, fin := true } : Pd)).told :: blk b12 (q.2.cells (.slice ad q.2.data.length cd)) 44 :: OwnB (.slice ad q.2.data.length cd) q.2.data :: DeskP 123 108 151 154 bd q.1 :: L))
  exact ⟨1, ⟨Nat.le_refl _, _, _, _, _, .inr ⟨rfl, rfl, rfl, rfl, hne⟩, mkE_of ⟨rfl, rfl, rfl, rfl, rfl, trivial⟩, h.to⟩, by decide⟩
 have hsf : (if q.2.data = [] then s else (s.say ({ zPd with op := 37, tag := tag, off := 0, data := q.2.data, fin := true } : Pd))) = ss ∧ KK ≤ K + 4200 ∧ ss.sn = s.sn := by
   rcases hcs with ⟨_, qz, q1, q2⟩ | ⟨_, _, q1, q2, q3⟩
   · rw [if_pos (List.eq_nil_of_length_eq_zero (by omega))]
     exact ⟨q1, by omega, by rw [← q1]⟩
   rw [if_neg q3]
   exact ⟨q1, by omega, by rw [← q1]; rfl⟩
 obtain ⟨hsf, hKK, hsn⟩ := hsf
 refine W.exit ?_
 have h := h.fetch (blk b12 (q.2.cells (.slice ad q.2.data.length cd)) 44)
 have h : On W0 (blk b12 [.int .i64 q.2.st, .int .i64 q.2.key, .int .i64 q.2.code, .slice ad q.2.data.length cd, .int .i64 q.2.info] 44 :: _) w := h
 rw [hst] at h
 refine W.region (WL.m (WL.m (WL.v (run_loadB (vs := qv0) h isAgg44 sizeOf44 rfl rfl rfl) (WL.m (WL.e (eff_call call164 (srespond_ok (K := KK) (s := ss) (tag := tag) (n := q.2.data.length) ht (by omega) (by omega) (by rw [hsn]; exact ok3) (h.fetch (SeP 183 117 KK bs acl (.func (.func 69) #[.pointer (some ⟨bd, 0, none⟩)] #[]) ss)))) ?_)))))
 rintro _ w h
 refine WL.nil (bodyQ.fall (bodyQ.r0 results165 ?_))
 rw [hsf]
 exact seMono (K := KK + 4200) (by omega) h.to
theorem decC_some {b : List UInt8} (hl : b.length = 16) {kind at_ n : Int} (h : decC b = some ⟨kind, at_, n, [], 0, 0, 0, false⟩) (hk : kind = 2 ∨ kind = 3) : ((kind = 2 ∧ b.getD 0 0 = 136) ∨ (kind = 3 ∧ b.getD 0 0 = 138)) ∧ (b.getD 1 0 = 0 ∧ b.getD 14 0 = 0 ∧ b.getD 15 0 = 0) ∧ beV ((b.drop 2).take 8) ≤ 4611686018427387904 ∧ at_ = ((beV ((b.drop 2).take 8) : Nat) : Int) ∧ n = ((beV ((b.drop 10).take 4) : Nat) : Int) := by
 unfold decC at h
 cases hf : codesL.find? (fun x => decide (x.op = b.getD 0 0) && (!x.par || decide (x.sub = b.getD 1 0))) with
 | none => rw [hf] at h; cases h
 | some x =>
   rw [hf] at h
   simp only [Option.bind_some] at h
   have hm := List.mem_of_find?_eq_some hf
   have hp := List.find?_some hf
   simp only [Bool.and_eq_true, decide_eq_true_eq] at hp
   split at h
   · rename_i hc
     simp only [Bool.and_eq_true, decide_eq_true_eq] at hc
     simp only [Option.some.injEq, Cm.mk.injEq] at h
     obtain ⟨h1, h2, h3, _⟩ := h
     obtain ⟨⟨⟨⟨_, _⟩, hz1⟩, hz2⟩, hat⟩ := hc
     have e14 : b.getD 14 0 = 0 ∧ b.getD 15 0 = 0 := by
       have g0 : ((b.drop 14).take 2)[0]? = some (0 : UInt8) := by rw [hz2]; rfl
       have g1 : ((b.drop 14).take 2)[1]? = some (0 : UInt8) := by rw [hz2]; rfl
       simp only [List.getElem?_take, List.getElem?_drop] at g0 g1
       constructor
       · rw [List.getD_eq_getElem?_getD]; simp at g0; rw [g0]; rfl
       rw [List.getD_eq_getElem?_getD]; simp at g1; rw [g1]; rfl
     refine ⟨?_, ⟨hz1, e14.1, e14.2⟩, hat, h2.symm, h3.symm⟩
     simp only [codesL, List.mem_cons, List.not_mem_nil, or_false] at hm
     rcases hm with rfl | rfl | rfl | rfl | rfl | rfl | rfl | rfl | rfl | rfl | rfl | rfl | rfl | rfl | rfl | rfl | rfl <;> simp only at h1 hp <;> first
       | (exfalso; omega)
       | exact .inl ⟨h1.symm, hp.1.symm⟩
       | exact .inr ⟨h1.symm, hp.1.symm⟩
   cases h
theorem sdec_ok {bb ob cb : Nat} {bs : List UInt8} {kind at_ n : Int} (hl : bs.length = 16) (hm : decC bs = some ⟨kind, at_, n, [], 0, 0, 0, false⟩) (hk : kind = 2 ∨ kind = 3) (h : On W0 L w) (C : Gives L (Bytes (.slice (some ⟨bb, ob, none⟩) 16 cb) bs)) : Calls Tryz.prog 14 #[.slice (some ⟨bb, ob, none⟩) 16 cb] w (Ret fun v w' => v = .tuple #[.agg #[.int .i64 kind, .int .i64 at_, .int .i64 n, .slice none 0 0, .int .u64 0, .int .u64 0, .int .i64 0, .bool false], .agg #[.int .i64 0, .int .i64 0, .int .i64 0, .slice none 0 0, .int .i64 0], .bool true] ∧ On W0 L w') := by
 obtain ⟨hop, hz, hat, e1, e2⟩ := decC_some hl hm hk
 rcases hop with ⟨hk2, h0⟩ | ⟨hk2, h0⟩
 · subst hk2; subst e1; subst e2; have q := dec_2_ok (cb := cb) hl h0 hz hat h (by rw [hl]; exact C); rw [hl] at q; exact q
 subst hk2; subst e1; subst e2; have q := dec_3_ok (cb := cb) hl h0 hz hat h (by rw [hl]; exact C); rw [hl] at q; exact q
theorem okCmZ {kind at_ n : Int} : okCm (⟨kind, at_, n, [], 0, 0, 0, false⟩ : Cm) := ⟨⟨(show (0 : Int) ≤ 0 by decide), (show (0 : Int) < 18446744073709551616 by decide)⟩, (show (0 : Int) ≤ 0 by decide), (show (0 : Int) < 18446744073709551616 by decide)⟩
theorem secommand_ok {bs bd K : Nat} {acl : List Str} {s s' : Se} {u u' : Un} {p : Pd} {ap : Option Addr} {cp : Nat} {kind at_ n : Int} (hcd : p.cdb.length = 16) (hdc : decC p.cdb = some (⟨kind, at_, n, [], 0, 0, 0, false⟩ : Cm)) (hkk : kind = 2 ∨ kind = 3) (hlen : (p.data.length : Int) = outN (⟨kind, at_, n, [], 0, 0, 0, false⟩ : Cm)) (himm : outN (⟨kind, at_, n, [], 0, 0, 0, false⟩ : Cm) = 0 ∨ s.p.imm = true) (ht : p.tag < 4294967296) (hm : s.done u p.tag (⟨kind, at_, n, [], 0, 0, 0, false⟩ : Cm) p.data = some (s', u')) (hK0 : K ≤ 90000) (h : On W0 (SeP 183 117 K bs acl (.func (.func 69) #[.pointer (some ⟨bd, 0, none⟩)] #[]) s :: DeskP 123 108 151 154 bd u :: L) w) (C : Gives L (Bytes (.slice ap p.data.length cp) p.data)) : Calls Tryz.prog 144 #[.pointer (some ⟨bs, 0, none⟩), .agg (Pd.cells p (.slice ap p.data.length cp)).toArray] w (Ret fun v w' => On W0 (SeP 183 117 (K + 8400) bs acl (.func (.func 69) #[.pointer (some ⟨bd, 0, none⟩)] #[]) s' :: DeskP 123 108 151 154 bd u' :: L) w') := by
 refine enter func144 rfl ntmps144 rfl ?_
 have hmx := maxLen_eq
 have ho_ := openSe h
 obtain ⟨x, hoks, hKs, h⟩ := ho_
 have h : On W0 (blk bs [.slice x.aa acl.length x.ca, (.func (.func 69) #[.pointer (some ⟨bd, 0, none⟩)] #[]), .pointer (some ⟨x.br, 0, none⟩), .string ⟨s.p.name.toArray⟩, .int .i64 (s.p.maxd : Int), .int .i64 (s.p.burst : Int), .bool s.p.imm, .bool s.p.dig, .bool s.open_, .bool false, .int .u32 (s.exp : Int), .int .u32 (s.sn : Int), .slice none 0 0, .slice x.at_ s.told.length x.ct] 183 :: _) w := h
 refine W.sr (WL.e (eff_box (v := .agg (Pd.cells p (.slice ap p.data.length cp)).toArray) (l := Pd.cells p (.slice ap p.data.length cp)) h rfl rfl) ?_)
 rintro _ w ⟨b3, rfl, h⟩
 refine WL.nil (W.sr (WL.f 10 underlying36 rfl sizeOf34 rfl rfl (WL.v (run_cutArr underlying34 sizeOf5 rfl) ?_)))
 refine WL.e (eff_call call14 (sdec_ok (bb := b3) (ob := 0 + 10) (cb := 16) (bs := p.cdb) hcd hdc hkk h (by have gp := Gives.part (L := blk b3 (Pd.cells p (.slice ap p.data.length cp)) 36 :: blk bs [.slice x.aa acl.length x.ca, (.func (.func 69) #[.pointer (some ⟨bd, 0, none⟩)] #[]), .pointer (some ⟨x.br, 0, none⟩), .string ⟨s.p.name.toArray⟩, .int .i64 (s.p.maxd : Int), .int .i64 (s.p.burst : Int), .bool s.p.imm, .bool s.p.dig, .bool s.open_, .bool false, .int .u32 (s.exp : Int), .int .u32 (s.sn : Int), .slice none 0 0, .slice x.at_ s.told.length x.ct] 183 :: RdrP 117 x.br s.r :: Own 1 (.slice x.aa acl.length x.ca) acl.length (acl.map fun t => Value.string ⟨t.toArray⟩) :: OwnB (.slice x.at_ s.told.length x.ct) s.told :: DeskP 123 108 151 154 bd u :: L) (b := b3) (o := 0 + 10) (n := 16) (cells_cdb (dv := (.slice ap p.data.length cp)) hcd) (by rw [cells_len hcd]; decide) (by decide); rw [← hcd] at gp ⊢; exact gp))) ?_
 rintro _ w ⟨rfl, h⟩
 refine WL.m (WL.v (run_extract rfl rfl) (WL.v (run_extract rfl rfl) (WL.v (run_extract rfl rfl) (WL.e (eff_alloc h zeroValue29 rfl) ?_))))
 rintro _ w ⟨b4, rfl, h⟩
 refine WL.e (eff_alloc h zeroValue44 rfl) ?_
 rintro _ w ⟨b5, rfl, h⟩
 refine WL.e (eff_storeW (vs := [.int .i64 kind, .int .i64 at_, .int .i64 n, .slice none 0 0, .int .u64 0, .int .u64 0, .int .i64 0, .bool false]) h sizeOf29 rfl rfl rfl rfl rfl) ?_
 rintro _ w h
 refine WL.e (eff_storeW (vs := [.int .i64 0, .int .i64 0, .int .i64 0, .slice none 0 0, .int .i64 0]) h sizeOf44 rfl rfl rfl rfl rfl) ?_
 rintro _ w h
 refine WL.z (W.sr (WL.v (run_loadB (vs := qv3) h isAgg29 sizeOf29 rfl rfl rfl) (WL.e (eff_call call16 (cout_n_ok (kind := kind) (at_ := at_) (n := n) (key := 0) (new := 0) (typ := 0) (force := false) (data := []) (ax := none) (cx := 0) h)) ?_)))
 rintro _ w ⟨rfl, h⟩
 refine WL.z (W.sr (WL.e (eff_call call49 (wrong_ok h)) ?_))
 rintro _ w ⟨rfl, h⟩
 refine WL.e (eff_alloc h zeroValue44 rfl) ?_
 rintro _ w ⟨b8, rfl, h⟩
 refine WL.e (eff_storeW (vs := qv0) h sizeOf44 rfl rfl rfl rfl rfl) ?_
 rintro _ w h
 refine WL.nil (W.block (W.sr (WL.m (WL.v (run_not rfl) (WL.z ?_)))))
 refine W.cf (W.sr (WL.m (WL.v (run_eql rfl rfl) (WL.z ?_))))
 refine W.condIf rfl (fun c9 => ?_) (fun c9 => ?_)
 ·
  have hp0 : p.data = [] := List.eq_nil_of_length_eq_zero (by omega)
  rw [hp0] at hm
  refine W.region (WL.m (WL.c 4 underlying36 rfl sizeOf24 rfl isAgg24 h rfl (WL.v (run_loadB (vs := qv3) h isAgg29 sizeOf29 rfl rfl rfl) ?_)))
  refine WL.e (eff_call call165 (sedone_ok (kind := kind) (at_ := at_) (n := n) (key := 0) (new := 0) (typ := 0) (force := false) (cdat := []) (ac_ := none) (nc_ := 0) (cc_ := 0) (data := []) (ax := none) (cx := 0) hkk okCmZ ht hm hK0 (closeSe (s := s) x hoks hKs (h.to (T := blk bs [.slice x.aa acl.length x.ca, (.func (.func 69) #[.pointer (some ⟨bd, 0, none⟩)] #[]), .pointer (some ⟨x.br, 0, none⟩), .string ⟨s.p.name.toArray⟩, .int .i64 (s.p.maxd : Int), .int .i64 (s.p.burst : Int), .bool s.p.imm, .bool s.p.dig, .bool s.open_, .bool false, .int .u32 (s.exp : Int), .int .u32 (s.sn : Int), .slice none 0 0, .slice x.at_ s.told.length x.ct] 183 :: RdrP 117 x.br s.r :: Own 1 (.slice x.aa acl.length x.ca) acl.length (acl.map fun t => Value.string ⟨t.toArray⟩) :: OwnB (.slice x.at_ s.told.length x.ct) s.told :: DeskP 123 108 151 154 bd u :: L))) Gives.nilB)) ?_
  rintro _ w h
  refine WL.nil (bodyQ.fall (bodyQ.r0 results144 ?_))
  exact h
 have hiq : s.p.imm = true := himm.resolve_left c9
 refine W.sr (WL.f 26 underlying36 rfl sizeOf26 rfl rfl (WL.l isAgg26 rfl (h.cellB (cells_data hcd)) (WL.v (run_lenSlice underlying26 rfl) (WL.v (run_gtrT rfl rfl (by omega)) (WL.m (WL.m ?_))))))
 refine WL.n rfl (WL.f 3 underlying183 rfl sizeOf127 rfl rfl (WL.f 3 underlying127 rfl sizeOf4 rfl rfl (WL.l isAgg4 rfl (h.cellB (v := .bool true) (by rw [← hiq]; rfl)) (WL.v (run_not rfl) (WL.pt (WL.m (WL.f 26 underlying36 rfl sizeOf26 rfl rfl ?_)))))))
 refine WL.l isAgg26 rfl (h.cellB (cells_data hcd)) (WL.v (run_lenSlice underlying26 rfl) (WL.m (WL.v (run_gtrF rfl rfl (by omega)) (WL.pf (WL.z (W.cf ?_))))))
 refine W.sr (WL.f 26 underlying36 rfl sizeOf26 rfl rfl (WL.l isAgg26 rfl (h.cellB (cells_data hcd)) (WL.v (run_lenSlice underlying26 rfl) (WL.m (WL.v (run_eqlT rfl rfl (by omega)) (WL.a ?_))))))
 refine WL.nil (W.ct (W.region (WL.m (WL.c 4 underlying36 rfl sizeOf24 rfl isAgg24 h rfl (WL.v (run_loadB (vs := qv3) h isAgg29 sizeOf29 rfl rfl rfl) (WL.f 26 underlying36 rfl sizeOf26 rfl rfl ?_))))))
 refine WL.l isAgg26 rfl (h.cellB (cells_data hcd)) ?_
 refine WL.e (eff_call call165 (sedone_ok (kind := kind) (at_ := at_) (n := n) (key := 0) (new := 0) (typ := 0) (force := false) (cdat := []) (ac_ := none) (nc_ := 0) (cc_ := 0) (data := p.data) (ax := ap) (cx := cp) hkk okCmZ ht hm hK0 (closeSe (s := s) x hoks hKs (h.to (T := blk bs [.slice x.aa acl.length x.ca, (.func (.func 69) #[.pointer (some ⟨bd, 0, none⟩)] #[]), .pointer (some ⟨x.br, 0, none⟩), .string ⟨s.p.name.toArray⟩, .int .i64 (s.p.maxd : Int), .int .i64 (s.p.burst : Int), .bool s.p.imm, .bool s.p.dig, .bool s.open_, .bool false, .int .u32 (s.exp : Int), .int .u32 (s.sn : Int), .slice none 0 0, .slice x.at_ s.told.length x.ct] 183 :: RdrP 117 x.br s.r :: Own 1 (.slice x.aa acl.length x.ca) acl.length (acl.map fun t => Value.string ⟨t.toArray⟩) :: OwnB (.slice x.at_ s.told.length x.ct) s.told :: DeskP 123 108 151 154 bd u :: L))) C)) ?_
 rintro _ w h
 refine WL.nil (bodyQ.fall (bodyQ.r0 results144 ?_))
 exact h
theorem setake_some {s s' : Se} {u u' : Un} {p : Pd} (h : Se.take s u p = some (s', u')) : p.op = 1 ∧ p.sn = s.exp ∧ ∃ kind at_ n : Int, decC p.cdb = some (⟨kind, at_, n, [], 0, 0, 0, false⟩ : Cm) ∧ (kind = 2 ∨ kind = 3) ∧ (p.data.length : Int) = outN (⟨kind, at_, n, [], 0, 0, 0, false⟩ : Cm) ∧ (outN (⟨kind, at_, n, [], 0, 0, 0, false⟩ : Cm) = 0 ∨ s.p.imm = true) ∧ Se.done ({ s with exp := (s.exp + 1) % 4294967296 } : Se) u p.tag (⟨kind, at_, n, [], 0, 0, 0, false⟩ : Cm) p.data = some (s', u') := by
 unfold Se.take at h
 split at h
 · rename_i h1
   cases hd : decC p.cdb with
   | none => rw [hd] at h; cases h
   | some c =>
     rw [hd] at h
     simp only [Option.bind_some] at h
     split at h
     · rename_i h2
       have hc : c = ⟨c.kind, c.at_, c.n, [], 0, 0, 0, false⟩ := by
         unfold decC at hd
         cases hf : codesL.find? (fun x => decide (x.op = p.cdb.getD 0 0) && (!x.par || decide (x.sub = p.cdb.getD 1 0))) with
         | none => rw [hf] at hd; cases hd
         | some x =>
           rw [hf] at hd
           simp only [Option.bind_some] at hd
           split at hd
           · cases hd; rfl
           cases hd
       refine ⟨h1.1, h1.2, c.kind, c.at_, c.n, by rw [← hc], h2.1, by rw [← hc]; exact h2.2.1, by rw [← hc]; exact h2.2.2, by rw [← hc]; exact h⟩
     cases h
 cases h
theorem setake_ok {bs bd K : Nat} {acl : List Str} {s s' : Se} {u u' : Un} {p : Pd} {ap : Option Addr} {cp : Nat} (hcd : p.cdb.length = 16) (hnu : ∀ v ∈ nums p, v < 4294967296) (hm : Se.take s u p = some (s', u')) (hK0 : K ≤ 90000) (h : On W0 (SeP 183 117 K bs acl (.func (.func 69) #[.pointer (some ⟨bd, 0, none⟩)] #[]) s :: DeskP 123 108 151 154 bd u :: L) w) (C : Gives L (Bytes (.slice ap p.data.length cp) p.data)) : Calls Tryz.prog 133 #[.pointer (some ⟨bs, 0, none⟩), .agg (Pd.cells p (.slice ap p.data.length cp)).toArray] w (Ret fun v w' => On W0 (SeP 183 117 (K + 8400) bs acl (.func (.func 69) #[.pointer (some ⟨bd, 0, none⟩)] #[]) s' :: DeskP 123 108 151 154 bd u' :: L) w') := by
 refine enter func133 rfl ntmps133 rfl ?_
 have hmx := maxLen_eq
 have hts := setake_some hm
 obtain ⟨hop, hsn, kind, at_, n, hdc, hkk, hlen, himm, hdn⟩ := hts
 have ho_ := openSe h
 obtain ⟨x, hoks, hKs, h⟩ := ho_
 have h : On W0 (blk bs [.slice x.aa acl.length x.ca, (.func (.func 69) #[.pointer (some ⟨bd, 0, none⟩)] #[]), .pointer (some ⟨x.br, 0, none⟩), .string ⟨s.p.name.toArray⟩, .int .i64 (s.p.maxd : Int), .int .i64 (s.p.burst : Int), .bool s.p.imm, .bool s.p.dig, .bool s.open_, .bool false, .int .u32 (s.exp : Int), .int .u32 (s.sn : Int), .slice none 0 0, .slice x.at_ s.told.length x.ct] 183 :: _) w := h
 obtain ⟨ok1, ok2, ok3⟩ := hoks
 refine W.sr (WL.e (eff_box (v := .agg (Pd.cells p (.slice ap p.data.length cp)).toArray) (l := Pd.cells p (.slice ap p.data.length cp)) h rfl rfl) ?_)
 rintro _ w ⟨b3, rfl, h⟩
 refine WL.nil (W.sr (WL.c 0 underlying36 rfl sizeOf3 rfl isAgg3 h rfl (WL.nil (W.block (W.seq ?_)))))
 refine W.region (WL.v (run_eqlT rfl rfl (by omega)) (WL.z (W.ct (W.seq ?_))))
 refine W.draw Tryz.follows h (fun w h => ?_)
 refine WT.f 0 5 rfl underlying36 rfl sizeOf24 rfl rfl (WT.l 1 rfl isAgg24 rfl (h.cellB rfl) (WT.m 2 rfl (WT.n 3 rfl rfl (WT.f 4 10 rfl underlying183 rfl sizeOf24 rfl rfl (WT.l 5 rfl isAgg24 rfl (h.cellB rfl) (WT.p 6 rfl (fun w' => run_eqlT rfl rfl (by omega)) (WT.dn ?_)))))))
 refine W.ct (W.sr (WL.m (WL.n rfl (WL.c 10 underlying183 rfl sizeOf24 rfl isAgg24 h rfl (WL.v (run_addU32 (m := s.exp) (n := 1) rfl rfl) ?_)))))
 refine WL.n rfl (WL.f 10 underlying183 rfl sizeOf24 rfl rfl (WL.e (eff_store (v := .int .u32 (((s.exp + 1) % 4294967296 : Nat) : Int)) h sizeOf24 rfl rfl rfl rfl rfl) ?_))
 rintro _ w h
 try simp only [Nat.zero_add, Nat.add_zero, List.set_cons_zero, List.set_cons_succ] at h
 refine WL.nil (W.region (WL.m (WL.v (run_loadB (vs := Pd.cells p (.slice ap p.data.length cp)) h isAgg36 sizeOf36 rfl (List.take_of_length_le (Nat.le_of_eq (cells_len hcd))) (cells_len hcd)) ?_)))
 refine WL.e (eff_call call144 (secommand_ok (s := ({ s with exp := (s.exp + 1) % 4294967296 } : Se)) (ap := ap) (cp := cp) hcd hdc hkk hlen himm (hnu _ (by simp [nums])) hdn hK0 (closeSe (s := ({ s with exp := (s.exp + 1) % 4294967296 } : Se)) x ⟨ok1, (show (s.exp + 1) % 4294967296 < _ by omega), ok3⟩ hKs (h.to (T := blk bs [.slice x.aa acl.length x.ca, (.func (.func 69) #[.pointer (some ⟨bd, 0, none⟩)] #[]), .pointer (some ⟨x.br, 0, none⟩), .string ⟨s.p.name.toArray⟩, .int .i64 (s.p.maxd : Int), .int .i64 (s.p.burst : Int), .bool s.p.imm, .bool s.p.dig, .bool s.open_, .bool false, .int .u32 (((s.exp + 1) % 4294967296 : Nat) : Int), .int .u32 (s.sn : Int), .slice none 0 0, .slice x.at_ s.told.length x.ct] 183 :: RdrP 117 x.br s.r :: Own 1 (.slice x.aa acl.length x.ca) acl.length (acl.map fun t => Value.string ⟨t.toArray⟩) :: OwnB (.slice x.at_ s.told.length x.ct) s.told :: DeskP 123 108 151 154 bd u :: L))) C)) ?_
 rintro _ w h
 refine WL.nil (bodyQ.fall (bodyQ.r0 results133 ?_))
 exact h
theorem selogin_some {acl : List Str} {s s' : Se} {p : Pd} (h : Se.login acl s p = some s') : p.op = 3 ∧ ∃ l q b, decTx p.data = some l ∧ l.length ≤ 1000 ∧ negB acl l = some q ∧ encT' q.2 = some b ∧ s' = ({ (Se.sayer ({ s with p := q.1, exp := (p.sn + 1) % 4294967296 } : Se) 35 ({ zPd with tag := p.tag, st := 0, data := b, fin := true } : Pd)) with open_ := true } : Se) := by
 unfold Se.login at h
 split at h
 · rename_i h1
   cases hd : decTx p.data with
   | none => rw [hd] at h; cases h
   | some l =>
     rw [hd] at h
     simp only [Option.bind_some] at h
     split at h
     · cases h
     rename_i h2
     cases hn : negB acl l with
     | none => rw [hn] at h; cases h
     | some q =>
       rw [hn] at h
       simp only [Option.bind_some] at h
       cases he : encT' q.2 with
       | none => rw [he] at h; cases h
       | some b => rw [he] at h; cases h; exact ⟨h1, l, q, b, rfl, by omega, hn, he, rfl⟩
 cases h
theorem negK_len : ∀ {l : List Pr} {p q : Pm} {o1 o2 : List Pr}, negK p o1 l = some (q, o2) → o2.length ≤ o1.length + l.length
 | [], p, q, o1, o2, h => by cases h; exact Nat.le_refl _
 | x :: l, p, q, o1, o2, h => by
   unfold negK at h
   cases hk : keyB p x with
   | none => rw [hk] at h; cases h
   | some z =>
     rw [hk] at h
     simp only [Option.bind_some] at h
     obtain ⟨z1, z2⟩ := z
     have h1 := keyB_ok hk
     have h2 := negK_len h
     dsimp only at h2
     rw [List.length_append] at h2
     rw [List.length_cons]; omega
theorem negB_len {acl : List Str} {l : List Pr} {q : Pm × List Pr} (h : negB acl l = some q) : q.2.length ≤ l.length := by
 unfold negB at h
 cases hk : negK { ours with name := [], dig := false } [] l with
 | none => rw [hk] at h; cases h
 | some z =>
   rw [hk] at h
   simp only [Option.bind_some] at h
   split at h
   · cases h
     have := negK_len hk
     simpa using this
   cases h
theorem okLog35 {tag sn : Nat} {b : Str} (ht : tag < 4294967296) (hs : sn < 4294967296) (hb : b.length ≤ 4096) : okPd ({ ({ zPd with tag := tag, st := 0, data := b, fin := true } : Pd) with op := 35, sn := sn } : Pd) := by
 refine ⟨⟨rfl, rfl, (show (0 : Nat) < 128 by decide), (show (0 : Nat) < 256 by decide)⟩, hb, ?_⟩
 intro v hv
 simp only [nums, zPd, List.mem_cons, List.not_mem_nil, or_false] at hv
 rcases hv with rfl | rfl | rfl | rfl | rfl | rfl <;> first | exact ht | exact hs | decide
theorem log35_lit {tag : Nat} {b : Str} {ap : Option Addr} {cp : Nat} : (.agg #[.int .i64 0, .bool true, .int .i64 0, .int .i64 0, .int .u32 (tag : Int), .int .u32 0, .int .u32 0, .int .u32 0, .int .u32 0, .int .u32 0, .int .u8 0, .int .u8 0, .int .u8 0, .int .u8 0, .int .u8 0, .int .u8 0, .int .u8 0, .int .u8 0, .int .u8 0, .int .u8 0, .int .u8 0, .int .u8 0, .int .u8 0, .int .u8 0, .int .u8 0, .int .u8 0, .slice ap b.length cp] : Value) = .agg (Pd.cells ({ zPd with tag := tag, st := 0, data := b, fin := true } : Pd) (.slice ap b.length cp)).toArray := rfl
theorem log35_ok {fd : Fn} {fa fc : Array Value} {acl : List Str} {bs K : Nat} {s : Se} {b2 b3 tag : Nat} {b : Str} {ap : Option Addr} {cp : Nat} (ht : tag < 4294967296) (hs : s.sn < 4294967296) (hb : b.length ≤ 4096) (hK0 : K ≤ 100000) (h : On W0 (SeP 183 117 K bs acl (.func fd fa fc) s :: blk b2 [.pointer (some ⟨bs, 0, none⟩)] 129 :: blk b3 [.int .i64 35] 3 :: L) w) (C : Gives L (Bytes (.slice ap b.length cp) b)) : Calls Tryz.prog 169 #[.agg #[.int .i64 0, .bool true, .int .i64 0, .int .i64 0, .int .u32 (tag : Int), .int .u32 0, .int .u32 0, .int .u32 0, .int .u32 0, .int .u32 0, .int .u8 0, .int .u8 0, .int .u8 0, .int .u8 0, .int .u8 0, .int .u8 0, .int .u8 0, .int .u8 0, .int .u8 0, .int .u8 0, .int .u8 0, .int .u8 0, .int .u8 0, .int .u8 0, .int .u8 0, .int .u8 0, .slice ap b.length cp], .pointer (some ⟨b3, 0, none⟩), .pointer (some ⟨b2, 0, none⟩)] w (Ret fun v w' => On W0 (SeP 183 117 (K + 4200) bs acl (.func fd fa fc) (s.sayer 35 ({ zPd with tag := tag, st := 0, data := b, fin := true } : Pd)) :: L) w') := by
 rw [log35_lit]
 exact ssayer1_ok (K := K) (s := s) (op := 35) (p := ({ zPd with tag := tag, st := 0, data := b, fin := true } : Pd)) (ap := ap) (cp := cp) (okLog35 ht hs hb) hK0 h C
theorem selogin_ok {bs bd K : Nat} {acl : List Str} {s s' : Se} {p : Pd} {ap : Option Addr} {cp : Nat} {m : Int} (G : Gives L (GlP m)) (ha0 : 0 < acl.length) (ha1 : acl.length ≤ 1000) (hcd : p.cdb.length = 16) (hnu : ∀ v ∈ nums p, v < 4294967296) (hm : Se.login acl s p = some s') (hK0 : K ≤ 90000) (h : On W0 (SeP 183 117 K bs acl (.func (.func 69) #[.pointer (some ⟨bd, 0, none⟩)] #[]) s :: L) w) (C : Gives L (Bytes (.slice ap p.data.length cp) p.data)) : Calls Tryz.prog 134 #[.pointer (some ⟨bs, 0, none⟩), .agg (Pd.cells p (.slice ap p.data.length cp)).toArray] w (Ret fun v w' => On W0 (SeP 183 117 (K + 8400) bs acl (.func (.func 69) #[.pointer (some ⟨bd, 0, none⟩)] #[]) s' :: L) w') := by
 refine enter func134 rfl ntmps134 rfl ?_
 have hmx := maxLen_eq
 have hls := selogin_some hm
 obtain ⟨hop, l, q, b, hdt, hll, hng, hen, hs'⟩ := hls
 subst hs'
 clear hm
 have hql := negB_len hng
 have hbl := encT_small hen
 have hlen : ∀ x ∈ l, x.1.length ≤ 1000 ∧ x.2.length ≤ 1000 := fun x hx => by
   have := decT_lens (decTx_some hdt).2 x hx
   omega
 have hpt : p.tag < 4294967296 := hnu _ (by simp [nums])
 have ho_ := openSe h
 obtain ⟨x, hoks, hKs, h⟩ := ho_
 have h : On W0 (blk bs [.slice x.aa acl.length x.ca, (.func (.func 69) #[.pointer (some ⟨bd, 0, none⟩)] #[]), .pointer (some ⟨x.br, 0, none⟩), .string ⟨s.p.name.toArray⟩, .int .i64 (s.p.maxd : Int), .int .i64 (s.p.burst : Int), .bool s.p.imm, .bool s.p.dig, .bool s.open_, .bool false, .int .u32 (s.exp : Int), .int .u32 (s.sn : Int), .slice none 0 0, .slice x.at_ s.told.length x.ct] 183 :: _) w := h
 obtain ⟨ok1, ok2, ok3⟩ := hoks
 refine W.sr (WL.e (eff_box (v := .agg (Pd.cells p (.slice ap p.data.length cp)).toArray) (l := Pd.cells p (.slice ap p.data.length cp)) h rfl rfl) ?_)
 rintro _ w ⟨b3, rfl, h⟩
 refine WL.nil (W.seq (W.sr (WL.c 0 underlying36 rfl sizeOf3 rfl isAgg3 h rfl (WL.v (run_neqF rfl rfl (by omega)) (WL.nil ?_)))))
 refine W.cs (W.sr (WL.z (W.sr ?_)))
 refine WL.a (WL.z ?_)
 refine W.cut (fun env w => ∃ (j : Env) (a31 : Option Addr), okPm q.1 ∧ env = mkE j [(0, .pointer (some ⟨bs, 0, none⟩)), (3, .pointer (some ⟨b3, 0, none⟩)), (4, .int .i64 0), (5, .slice a31 q.2.length q.2.length)] ∧ On W0 (blk bs [.slice x.aa acl.length x.ca, (.func (.func 69) #[.pointer (some ⟨bd, 0, none⟩)] #[]), .pointer (some ⟨x.br, 0, none⟩), .string ⟨q.1.name.toArray⟩, .int .i64 (q.1.maxd : Int), .int .i64 (q.1.burst : Int), .bool q.1.imm, .bool q.1.dig, .bool s.open_, .bool false, .int .u32 (s.exp : Int), .int .u32 (s.sn : Int), .slice none 0 0, .slice x.at_ s.told.length x.ct] 183 :: RdrP 117 x.br s.r :: Own 1 (.slice x.aa acl.length x.ca) acl.length (acl.map fun t => Value.string ⟨t.toArray⟩) :: OwnB (.slice x.at_ s.told.length x.ct) s.told :: blk b3 (Pd.cells p (.slice ap p.data.length cp)) 36 :: Own 2 (.slice a31 q.2.length q.2.length) q.2.length (q.2.flatMap prCells) :: L) w) ?_ ?_
 ·
  refine W.sr (WL.f 26 underlying36 rfl sizeOf26 rfl rfl (WL.l isAgg26 rfl (h.cellB (cells_data hcd)) (WL.e (eff_call call149 (tdecode_ok (bs := p.data) (Gives.to G) hdt h (Gives.to C))) ?_)))
  rintro _ w ⟨a18, rfl, h⟩
  refine WL.m (WL.v (run_extract rfl rfl) (WL.v (run_extract rfl rfl) (WL.a (WL.z (W.sr ?_)))))
  refine WL.m (WL.v (run_eqlT rfl rfl (rfl)) (WL.nil (W.ct ?_)))
  refine W.draw Tryz.follows h (fun w h => ?_)
  refine WT.m 0 rfl (WT.m 2 rfl (WT.n 3 rfl rfl (WT.f 4 0 rfl underlying183 rfl sizeOf131 rfl rfl (WT.l 5 rfl isAgg131 rfl (h.cellB rfl) (WT.m 6 rfl (WT.e 1 [true] rfl (eff_call call151 (ours_ok h)) ?_))))))
  rintro _ w ⟨rfl, h⟩
  refine ⟨⟨h.cellB rfl, trivial⟩, ?_⟩
  refine WT.e 7 [false] rfl (eff_call call150 (negotiate_ok (acl := acl) (l := l) (q := q.1) (outF := q.2) (Gives.to G) hll ha0 ha1 hlen hng h (Gives.ownO (v := .slice x.aa acl.length x.ca)) (Gives.ownO (v := .slice a18 l.length l.length)))) ?_
  rintro _ w ⟨a31, hokq, rfl, h⟩
  refine ⟨trivial, ?_⟩
  refine WT.m 8 rfl (WT.p 9 rfl (fun w' => (run_extract rfl rfl)) (WT.p 10 rfl (fun w' => (run_extract rfl rfl)) (WT.p 11 rfl (fun w' => (run_extract rfl rfl)) (WT.a 12 rfl (WT.n 13 rfl rfl (WT.f 14 3 rfl underlying183 rfl sizeOf127 rfl rfl (WT.e 15 [] rfl (eff_storeN (vs := q.1.cells) h sizeOf127 rfl rfl rfl rfl rfl (fun k _ _ => free0 k)) ?_)))))))
  rintro _ w h
  refine ⟨trivial, ?_⟩
  refine WT.a 16 rfl (WT.dn ?_)
  have h := h.p3
  have h : On W0 (blk bs [.slice x.aa acl.length x.ca, (.func (.func 69) #[.pointer (some ⟨bd, 0, none⟩)] #[]), .pointer (some ⟨x.br, 0, none⟩), .string ⟨q.1.name.toArray⟩, .int .i64 (q.1.maxd : Int), .int .i64 (q.1.burst : Int), .bool q.1.imm, .bool q.1.dig, .bool s.open_, .bool false, .int .u32 (s.exp : Int), .int .u32 (s.sn : Int), .slice none 0 0, .slice x.at_ s.told.length x.ct] 183 :: _) w := h
  exact ⟨_, a31, hokq, mkE_of ⟨rfl, rfl, rfl, rfl, trivial⟩, h.to⟩
 clear h
 rintro env w ⟨j, a31, hokq, rfl, h⟩
 refine W.cut (fun env w => ∃ (j : Env) (a41 : Option Addr), env = mkE j [(0, .pointer (some ⟨bs, 0, none⟩)), (3, .pointer (some ⟨b3, 0, none⟩)), (4, .int .i64 0), (6, .slice a41 b.length b.length)] ∧ On W0 (blk bs [.slice x.aa acl.length x.ca, (.func (.func 69) #[.pointer (some ⟨bd, 0, none⟩)] #[]), .pointer (some ⟨x.br, 0, none⟩), .string ⟨q.1.name.toArray⟩, .int .i64 (q.1.maxd : Int), .int .i64 (q.1.burst : Int), .bool q.1.imm, .bool q.1.dig, .bool s.open_, .bool false, .int .u32 (s.exp : Int), .int .u32 (s.sn : Int), .slice none 0 0, .slice x.at_ s.told.length x.ct] 183 :: RdrP 117 x.br s.r :: Own 1 (.slice x.aa acl.length x.ca) acl.length (acl.map fun t => Value.string ⟨t.toArray⟩) :: OwnB (.slice x.at_ s.told.length x.ct) s.told :: blk b3 (Pd.cells p (.slice ap p.data.length cp)) 36 :: OwnB (.slice a41 b.length b.length) b :: L) w) ?_ ?_
 ·
  refine W.sr (WL.m (WL.v (run_eqlT rfl rfl (rfl)) (WL.nil (W.ct (W.sr ?_)))))
  refine WL.z (W.sr (WL.m (WL.e (eff_call call127 (tencode_ok (l := q.2) (b := b) (by omega) hen h (Gives.ownO (v := .slice a31 q.2.length q.2.length)))) ?_)))
  rintro _ w ⟨a41, rfl, h⟩
  refine WL.m (WL.v (run_extract rfl rfl) (WL.v (run_extract rfl rfl) (WL.a (WL.z (W.sr ?_)))))
  refine WL.m (WL.v (run_neqF rfl rfl (by decide)) (WL.nil (W.cs ?_)))
  exact ⟨_, a41, mkE_of ⟨rfl, rfl, rfl, rfl, trivial⟩, h.to⟩
 clear h
 rintro env w ⟨j, a41, rfl, h⟩
 refine W.sr (WL.m (WL.c 5 underlying36 rfl sizeOf24 rfl isAgg24 h rfl (WL.v (run_addU32 (m := p.sn) (n := 1) rfl rfl) (WL.n rfl (WL.f 10 underlying183 rfl sizeOf24 rfl rfl ?_)))))
 refine WL.e (eff_store (v := .int .u32 (((p.sn + 1) % 4294967296 : Nat) : Int)) h sizeOf24 rfl rfl rfl rfl rfl) ?_
 rintro _ w h
 try simp only [Nat.zero_add, Nat.add_zero, List.set_cons_zero, List.set_cons_succ] at h
 refine WL.nil (W.seq ?_)
 refine W.draw Tryz.follows h (fun w h => ?_)
 refine WT.m 0 rfl (WT.f 2 4 rfl underlying36 rfl sizeOf24 rfl rfl (WT.l 3 rfl isAgg24 rfl (h.cellB rfl) (WT.m 4 rfl (WT.m 5 rfl ?_))))
 refine WT.p 6 rfl (fun w' => (run_buildS (pl := qp2) (out := qv1) underlying36 zeroValue36 (fun w => by kernel_rfl) rfl (⟨⟨_, _, rfl, rfl, by decide⟩, ⟨⟨_, _, rfl, rfl, by decide⟩, ⟨⟨_, _, rfl, rfl, by decide⟩, ⟨⟨_, _, rfl, rfl, by decide⟩, trivial⟩⟩⟩⟩) rfl)) ?_
 refine WT.e 1 [true] rfl (eff_call call146 (ssayer_ok (bs := bs) (op := 35) h)) ?_
 rintro _ w ⟨b2, b3_, rfl, h⟩
 have h := closeSe (s := ({ s with p := q.1, exp := (p.sn + 1) % 4294967296 } : Se)) (K := K) (acl := acl) (dof := (.func (.func 69) #[.pointer (some ⟨bd, 0, none⟩)] #[])) (T := 183) (TR := 117) (b := bs) x ⟨hokq, (show (p.sn + 1) % 4294967296 < 4294967296 by omega), ok3⟩ hKs (h.to (T := blk bs [.slice x.aa acl.length x.ca, (.func (.func 69) #[.pointer (some ⟨bd, 0, none⟩)] #[]), .pointer (some ⟨x.br, 0, none⟩), .string ⟨q.1.name.toArray⟩, .int .i64 (q.1.maxd : Int), .int .i64 (q.1.burst : Int), .bool q.1.imm, .bool q.1.dig, .bool s.open_, .bool false, .int .u32 (((p.sn + 1) % 4294967296 : Nat) : Int), .int .u32 (s.sn : Int), .slice none 0 0, .slice x.at_ s.told.length x.ct] 183 :: RdrP 117 x.br s.r :: Own 1 (.slice x.aa acl.length x.ca) acl.length (acl.map fun t => Value.string ⟨t.toArray⟩) :: OwnB (.slice x.at_ s.told.length x.ct) s.told :: blk b2 [.pointer (some ⟨bs, 0, none⟩)] 129 :: blk b3_ [.int .i64 ((35 : Nat) : Int)] 3 :: OwnB (.slice a41 b.length b.length) b :: blk b3 (Pd.cells p (.slice ap p.data.length cp)) 36 :: L))
 refine ⟨⟨h.cellB rfl, trivial⟩, ?_⟩
 refine WT.e 7 [false] rfl (eff_callV (xs := [_]) rfl call169 (log35_ok (K := K) (s := ({ s with p := q.1, exp := (p.sn + 1) % 4294967296 } : Se)) (tag := p.tag) (b := b) (ap := a41) (cp := b.length) hpt ok3 hbl (Nat.le_trans hK0 (by decide)) h (Gives.ownO (v := .slice a41 b.length b.length)))) ?_
 rintro _ w h
 refine ⟨trivial, ?_⟩
 refine WT.dn (W.seq ?_)
 have ho_ := openSe h
 obtain ⟨y, hoks, hKy, h⟩ := ho_
 have h : On W0 (blk bs [.slice y.aa acl.length y.ca, (.func (.func 69) #[.pointer (some ⟨bd, 0, none⟩)] #[]), .pointer (some ⟨y.br, 0, none⟩), .string ⟨(Se.sayer ({ s with p := q.1, exp := (p.sn + 1) % 4294967296 } : Se) 35 ({ zPd with tag := p.tag, st := 0, data := b, fin := true } : Pd)).p.name.toArray⟩, .int .i64 ((Se.sayer ({ s with p := q.1, exp := (p.sn + 1) % 4294967296 } : Se) 35 ({ zPd with tag := p.tag, st := 0, data := b, fin := true } : Pd)).p.maxd : Int), .int .i64 ((Se.sayer ({ s with p := q.1, exp := (p.sn + 1) % 4294967296 } : Se) 35 ({ zPd with tag := p.tag, st := 0, data := b, fin := true } : Pd)).p.burst : Int), .bool (Se.sayer ({ s with p := q.1, exp := (p.sn + 1) % 4294967296 } : Se) 35 ({ zPd with tag := p.tag, st := 0, data := b, fin := true } : Pd)).p.imm, .bool (Se.sayer ({ s with p := q.1, exp := (p.sn + 1) % 4294967296 } : Se) 35 ({ zPd with tag := p.tag, st := 0, data := b, fin := true } : Pd)).p.dig, .bool (Se.sayer ({ s with p := q.1, exp := (p.sn + 1) % 4294967296 } : Se) 35 ({ zPd with tag := p.tag, st := 0, data := b, fin := true } : Pd)).open_, .bool false, .int .u32 ((Se.sayer ({ s with p := q.1, exp := (p.sn + 1) % 4294967296 } : Se) 35 ({ zPd with tag := p.tag, st := 0, data := b, fin := true } : Pd)).exp : Int), .int .u32 ((Se.sayer ({ s with p := q.1, exp := (p.sn + 1) % 4294967296 } : Se) 35 ({ zPd with tag := p.tag, st := 0, data := b, fin := true } : Pd)).sn : Int), .slice none 0 0, .slice y.at_ (Se.sayer ({ s with p := q.1, exp := (p.sn + 1) % 4294967296 } : Se) 35 ({ zPd with tag := p.tag, st := 0, data := b, fin := true } : Pd)).told.length y.ct] 183 :: _) w := h
 refine W.region (WL.m (WL.m (WL.v (run_eqlT rfl rfl (rfl)) (WL.n rfl (WL.f 8 underlying183 rfl sizeOf4 rfl rfl (WL.e (eff_store (v := .bool _) h sizeOf4 rfl rfl rfl rfl rfl) ?_))))))
 rintro _ w h
 try simp only [Nat.zero_add, Nat.add_zero, List.set_cons_zero, List.set_cons_succ] at h
 refine WL.nil (W.sr (WL.m (WL.n rfl (WL.c 8 underlying183 rfl sizeOf4 rfl isAgg4 h rfl (WL.v (run_not rfl) ?_)))))
 refine WL.nil (W.cs (bodyQ.fall (bodyQ.r0 results134 ?_)))
 have h := h.to (T := blk bs [.slice y.aa acl.length y.ca, (.func (.func 69) #[.pointer (some ⟨bd, 0, none⟩)] #[]), .pointer (some ⟨y.br, 0, none⟩), .string ⟨(Se.sayer ({ s with p := q.1, exp := (p.sn + 1) % 4294967296 } : Se) 35 ({ zPd with tag := p.tag, st := 0, data := b, fin := true } : Pd)).p.name.toArray⟩, .int .i64 ((Se.sayer ({ s with p := q.1, exp := (p.sn + 1) % 4294967296 } : Se) 35 ({ zPd with tag := p.tag, st := 0, data := b, fin := true } : Pd)).p.maxd : Int), .int .i64 ((Se.sayer ({ s with p := q.1, exp := (p.sn + 1) % 4294967296 } : Se) 35 ({ zPd with tag := p.tag, st := 0, data := b, fin := true } : Pd)).p.burst : Int), .bool (Se.sayer ({ s with p := q.1, exp := (p.sn + 1) % 4294967296 } : Se) 35 ({ zPd with tag := p.tag, st := 0, data := b, fin := true } : Pd)).p.imm, .bool (Se.sayer ({ s with p := q.1, exp := (p.sn + 1) % 4294967296 } : Se) 35 ({ zPd with tag := p.tag, st := 0, data := b, fin := true } : Pd)).p.dig, .bool true, .bool false, .int .u32 ((Se.sayer ({ s with p := q.1, exp := (p.sn + 1) % 4294967296 } : Se) 35 ({ zPd with tag := p.tag, st := 0, data := b, fin := true } : Pd)).exp : Int), .int .u32 ((Se.sayer ({ s with p := q.1, exp := (p.sn + 1) % 4294967296 } : Se) 35 ({ zPd with tag := p.tag, st := 0, data := b, fin := true } : Pd)).sn : Int), .slice none 0 0, .slice y.at_ (Se.sayer ({ s with p := q.1, exp := (p.sn + 1) % 4294967296 } : Se) 35 ({ zPd with tag := p.tag, st := 0, data := b, fin := true } : Pd)).told.length y.ct] 183 :: RdrP 117 y.br (Se.sayer ({ s with p := q.1, exp := (p.sn + 1) % 4294967296 } : Se) 35 ({ zPd with tag := p.tag, st := 0, data := b, fin := true } : Pd)).r :: Own 1 (.slice y.aa acl.length y.ca) acl.length (acl.map fun t => Value.string ⟨t.toArray⟩) :: OwnB (.slice y.at_ (Se.sayer ({ s with p := q.1, exp := (p.sn + 1) % 4294967296 } : Se) 35 ({ zPd with tag := p.tag, st := 0, data := b, fin := true } : Pd)).told.length y.ct) (Se.sayer ({ s with p := q.1, exp := (p.sn + 1) % 4294967296 } : Se) 35 ({ zPd with tag := p.tag, st := 0, data := b, fin := true } : Pd)).told :: L)
 exact On.exI y (On.pack ⟨hoks, (show _ ≤ K + 8400 from Nat.le_trans hKy (by omega))⟩ h)
theorem sein_some {acl : List Str} {s s' : Se} {u u' : Un} {b o : List UInt8} (h : Se.in_ acl s u b = some (o, s', u')) : s.r.b.length + b.length ≤ 900000 ∧ ∃ s1, Se.inK acl (b.length + 1) { s with r := s.r.put b, told := [] } u = some (s1, u') ∧ o = s1.told ∧ s' = { s1 with told := [] } := by
 unfold Se.in_ at h
 split at h
 · cases h
 rename_i h1
 cases hk : Se.inK acl (b.length + 1) { s with r := s.r.put b, told := [] } u with
 | none => rw [hk] at h; cases h
 | some q =>
   rw [hk] at h
   obtain ⟨q1, q2⟩ := q
   cases h
   exact ⟨by omega, q1, rfl, rfl, rfl⟩
theorem seinK_some {acl : List Str} {f : Nat} {s s1 : Se} {u u1 : Un} (h : Se.inK acl f s u = some (s1, u1)) : ∃ f', f = f' + 1 ∧ s.told.length ≤ 80000 ∧ s.r.b.length ≤ 900000 ∧ ((s.r.next.1.2 = true ∧ ∃ s2 u2, ((s.open_ = true ∧ Se.take { s with r := s.r.next.2 } u s.r.next.1.1 = some (s2, u2)) ∨ (s.open_ = false ∧ Se.login acl { s with r := s.r.next.2 } s.r.next.1.1 = some s2 ∧ u2 = u)) ∧ Se.inK acl f' s2 u2 = some (s1, u1)) ∨ (s.r.next.1.2 = false ∧ s.r.next.2.err = 0 ∧ s1 = { s with r := s.r.next.2 } ∧ u1 = u)) := by
 match f, h with
 | f + 1, h =>
   unfold Se.inK at h
   split at h
   · cases h
   rename_i h1
   refine ⟨f, rfl, by omega, by omega, ?_⟩
   split at h
   · rename_i h2
     refine .inl ⟨h2, ?_⟩
     split at h
     · rename_i h3
       cases ht : Se.take { s with r := s.r.next.2 } u s.r.next.1.1 with
       | none => rw [ht] at h; cases h
       | some q => rw [ht] at h; obtain ⟨s2, u2⟩ := q; exact ⟨s2, u2, .inl ⟨h3, rfl⟩, h⟩
     rename_i h3
     cases ht : Se.login acl { s with r := s.r.next.2 } s.r.next.1.1 with
     | none => rw [ht] at h; cases h
     | some s2 => rw [ht] at h; exact ⟨s2, u, .inr ⟨by simpa using h3, rfl, rfl⟩, h⟩
   rename_i h2
   split at h
   · rename_i h3; cases h; exact .inr ⟨by simpa using h2, h3, rfl, rfl⟩
   cases h
theorem sein_ok {ax : Option Addr} {cx : Nat} {bs_ : List UInt8} {bs bd K : Nat} {acl : List Str} {s s' : Se} {u u' : Un} {o : List UInt8} {m : Int} (G : Gives L (GlP m)) (ha0 : 0 < acl.length) (ha1 : acl.length ≤ 1000) (hm : Se.in_ acl s u bs_ = some (o, s', u')) (h : On W0 (SeP 183 117 K bs acl (.func (.func 69) #[.pointer (some ⟨bd, 0, none⟩)] #[]) s :: DeskP 123 108 151 154 bd u :: L) w) (C : Gives L (Bytes (.slice ax bs_.length cx) bs_)) : Calls Tryz.prog 105 #[.pointer (some ⟨bs, 0, none⟩), .slice ax bs_.length cx] w (Ret fun v w' => ∃ a, v = .slice a o.length o.length ∧ On W0 (SeP 183 117 0 bs acl (.func (.func 69) #[.pointer (some ⟨bd, 0, none⟩)] #[]) s' :: OwnB (.slice a o.length o.length) o :: DeskP 123 108 151 154 bd u' :: L) w') := by
 refine enter func105 rfl ntmps105 rfl ?_
 have hmx := maxLen_eq
 have hss := sein_some hm
 obtain ⟨hlen, s1, hik, ho, hs'⟩ := hss
 clear hm
 have ho_ := openSe h
 obtain ⟨x, hoks, hKs, h⟩ := ho_
 have h : On W0 (blk bs [.slice x.aa acl.length x.ca, (.func (.func 69) #[.pointer (some ⟨bd, 0, none⟩)] #[]), .pointer (some ⟨x.br, 0, none⟩), .string ⟨s.p.name.toArray⟩, .int .i64 (s.p.maxd : Int), .int .i64 (s.p.burst : Int), .bool s.p.imm, .bool s.p.dig, .bool s.open_, .bool false, .int .u32 (s.exp : Int), .int .u32 (s.sn : Int), .slice none 0 0, .slice x.at_ s.told.length x.ct] 183 :: _) w := h
 refine W.sr (WL.z (W.scope (W.sr (WL.m ?_))))
 refine WL.n rfl (WL.f 13 underlying183 rfl sizeOf26 rfl rfl (WL.e (eff_store (v := .slice none 0 0) h sizeOf26 rfl rfl rfl rfl rfl) ?_))
 rintro _ w h
 try simp only [Nat.zero_add, Nat.add_zero, List.set_cons_zero, List.set_cons_succ] at h
 refine WL.nil (W.seq (W.sr (WL.m (WL.n rfl (WL.c 9 underlying183 rfl sizeOf4 rfl isAgg4 h rfl ?_)))))
 refine WL.nil (W.cs (W.sr (WL.m (WL.n rfl (WL.f 2 underlying183 rfl sizeOf61 rfl rfl ?_)))))
 refine WL.l isAgg61 rfl (h.cellB rfl) (WL.m (WL.e (eff_call call27 (rput_ok (bs := bs_) (r := s.r) (by omega) (h.fetch (RdrP 117 x.br s.r)) (Gives.to C))) ?_))
 rintro _ w h
 refine WL.nil (W.seq (W.label (W.seq (W.block ?_))))
 refine W.loop (fun (f : Nat) env w => ∃ (j : Env) (ss : Se) (uu : Un) (KK : Nat), Se.inK acl f ss uu = some (s1, u') ∧ env = mkE j [(0, .pointer (some ⟨bs, 0, none⟩))] ∧ On W0 (SeP 183 117 KK bs acl (.func (.func 69) #[.pointer (some ⟨bd, 0, none⟩)] #[]) ss :: DeskP 123 108 151 154 bd uu :: L) w) (fun f => f) (bs_.length + 1) ?_ ?_
 · have h := h.ownEmpty 1 none
   have h : On W0 (OwnB (.slice none ([] : List UInt8).length 0) [] :: _) w := h
   have h := closeSe (s := { s with r := s.r.put bs_, told := [] }) (K := 0) (acl := acl) (dof := (.func (.func 69) #[.pointer (some ⟨bd, 0, none⟩)] #[])) (T := 183) (TR := 117) (b := bs) { x with at_ := none, ct := 0 } hoks (Nat.le_refl _) (h.to (T := blk bs [.slice x.aa acl.length x.ca, (.func (.func 69) #[.pointer (some ⟨bd, 0, none⟩)] #[]), .pointer (some ⟨x.br, 0, none⟩), .string ⟨s.p.name.toArray⟩, .int .i64 (s.p.maxd : Int), .int .i64 (s.p.burst : Int), .bool s.p.imm, .bool s.p.dig, .bool s.open_, .bool false, .int .u32 (s.exp : Int), .int .u32 (s.sn : Int), .slice none 0 0, .slice none 0 0] 183 :: RdrP 117 x.br (s.r.put bs_) :: Own 1 (.slice x.aa acl.length x.ca) acl.length (acl.map fun t => Value.string ⟨t.toArray⟩) :: OwnB (.slice none ([] : List UInt8).length 0) [] :: DeskP 123 108 151 154 bd u :: L))
   exact ⟨_, _, _, 0, hik, mkE_of ⟨rfl, trivial⟩, h⟩
 clear h hoks hKs hik hlen
 rintro f env w ⟨j, ss, uu, KK, hik, rfl, h⟩
 have hks := seinK_some hik
 obtain ⟨f1, hf, h80, hlen, hks⟩ := hks
 subst hf
 have ho_ := openSe h
 obtain ⟨x, hoks, _, h⟩ := ho_
 have h : On W0 (blk bs [.slice x.aa acl.length x.ca, (.func (.func 69) #[.pointer (some ⟨bd, 0, none⟩)] #[]), .pointer (some ⟨x.br, 0, none⟩), .string ⟨ss.p.name.toArray⟩, .int .i64 (ss.p.maxd : Int), .int .i64 (ss.p.burst : Int), .bool ss.p.imm, .bool ss.p.dig, .bool ss.open_, .bool false, .int .u32 (ss.exp : Int), .int .u32 (ss.sn : Int), .slice none 0 0, .slice x.at_ ss.told.length x.ct] 183 :: _) w := h
 refine W.block (W.sr (WL.m (WL.n rfl (WL.c 2 underlying183 rfl sizeOf61 rfl isAgg61 h rfl (WL.e (eff_call call29 (rnext_ok (r := ss.r) (by omega) (h.fetch (RdrP 117 x.br ss.r)))) ?_)))))
 rintro _ w hv
 rcases hv with ⟨hnx, rfl, h⟩ | ⟨hnx, hcd, an, cn, rfl, h⟩
 ·
  have hks2 : ss.r.next.2.err = 0 ∧ s1 = ({ ss with r := ss.r.next.2 } : Se) ∧ u' = uu := by
    rcases hks with ⟨q, _⟩ | ⟨_, q⟩
    · rw [hnx] at q; cases q
    exact q
  obtain ⟨her, hs1, hu1⟩ := hks2
  refine WL.m (WL.v (run_extract rfl rfl) (WL.v (run_extract rfl rfl) (WL.e (eff_alloc h zeroValue36 rfl) ?_)))
  rintro _ w ⟨b5, rfl, h⟩
  refine WL.e (eff_storeW (vs := (Pd.cells zPd (.slice none 0 0))) h sizeOf36 rfl rfl rfl rfl rfl) ?_
  rintro _ w h
  refine WL.z (W.seq (W.block (W.sr (WL.m (WL.v (run_not rfl) ?_)))))
  refine WL.z (W.ct (W.seq (W.sr (WL.m (WL.n rfl ?_)))))
  refine WL.c 2 underlying183 rfl sizeOf61 rfl isAgg61 h rfl (WL.e (eff_call call31 (rerr_ok (r := ss.r.next.2) (h.fetch (RdrP 117 x.br ss.r.next.2)))) ?_)
  rintro _ w ⟨rfl, h⟩
  refine WL.v (run_neqF rfl rfl (by omega)) (WL.nil (W.cs (W.exit (W.sr (WL.m ?_)))))
  refine WL.n rfl (WL.c 13 underlying183 rfl sizeOf26 rfl isAgg26 h rfl (WL.e (eff_call call43 (clip_bytes (h.own (.slice x.at_ ss.told.length x.ct)))) ?_))
  rintro _ w ⟨rfl, h⟩
  refine WL.z (W.sr (WL.m (WL.n rfl (WL.f 13 underlying183 rfl sizeOf26 rfl rfl (WL.e (eff_store (v := .slice _ _ _) h sizeOf26 rfl rfl rfl rfl rfl) ?_)))))
  rintro _ w h
  try simp only [Nat.zero_add, Nat.add_zero, List.set_cons_zero, List.set_cons_succ] at h
  refine WL.nil (W.sr (WL.m (WL.z (W.ret (bodyQ.r1 (v := .slice _ _ _) results105 rfl ?_)))))
  subst ho
  subst hs'
  subst hs1
  subst hu1
  have h := h.ownEmpty 1 none
  have h : On W0 (OwnB (.slice none ([] : List UInt8).length 0) [] :: _) w := h
  refine ⟨x.at_, rfl, closeSe (s := { ({ ss with r := ss.r.next.2 } : Se) with told := [] }) (K := 0) { x with at_ := none, ct := 0 } hoks (Nat.le_refl _) ?_⟩
  show On W0 (blk bs [.slice x.aa acl.length x.ca, (.func (.func 69) #[.pointer (some ⟨bd, 0, none⟩)] #[]), .pointer (some ⟨x.br, 0, none⟩), .string ⟨ss.p.name.toArray⟩, .int .i64 (ss.p.maxd : Int), .int .i64 (ss.p.burst : Int), .bool ss.p.imm, .bool ss.p.dig, .bool ss.open_, .bool false, .int .u32 (ss.exp : Int), .int .u32 (ss.sn : Int), .slice none 0 0, .slice none 0 0] 183 :: RdrP 117 x.br ss.r.next.2 :: Own 1 (.slice x.aa acl.length x.ca) acl.length (acl.map fun t => Value.string ⟨t.toArray⟩) :: OwnB (.slice none ([] : List UInt8).length 0) [] :: OwnB (.slice x.at_ ss.told.length ss.told.length) ss.told :: DeskP 123 108 151 154 bd u' :: L) w
  exact h.to
 have hks2 : ∃ s2 u2, ((ss.open_ = true ∧ Se.take ({ ss with r := ss.r.next.2 } : Se) uu ss.r.next.1.1 = some (s2, u2)) ∨ (ss.open_ = false ∧ Se.login acl ({ ss with r := ss.r.next.2 } : Se) ss.r.next.1.1 = some s2 ∧ u2 = uu)) ∧ Se.inK acl f1 s2 u2 = some (s1, u') := by
   rcases hks with ⟨_, q⟩ | ⟨q, _⟩
   · exact q
   rw [hnx] at q; cases q
 obtain ⟨s2, u2, hst, hik2⟩ := hks2
 have hnu := next_nums hnx
 refine WL.m (WL.v (run_extract rfl rfl) (WL.v (run_extract rfl rfl) (WL.e (eff_alloc h zeroValue36 rfl) ?_)))
 rintro _ w ⟨b5, rfl, h⟩
 refine WL.e (eff_storeW (vs := Pd.cells ss.r.next.1.1 (.slice an ss.r.next.1.1.data.length cn)) h sizeOf36 rfl rfl (cells_len hcd) (cells_one rfl) rfl) ?_
 rintro _ w h
 refine WL.z (W.seq (W.block (W.sr (WL.m (WL.v (run_not rfl) ?_)))))
 refine WL.z (W.cf (W.sr (WL.m (WL.n rfl (WL.f 8 underlying183 rfl sizeOf4 rfl rfl ?_)))))
 refine WL.l isAgg4 rfl (h.cellB rfl) (WL.z ?_)
 refine W.condB rfl (fun c23 => ?_) (fun c23 => ?_)
 ·
  have htk : Se.take ({ ss with r := ss.r.next.2 } : Se) uu ss.r.next.1.1 = some (s2, u2) := by
    rcases hst with ⟨_, q⟩ | ⟨q, _⟩
    · exact q
    rw [c23] at q; cases q
  refine W.region (WL.m (WL.v (run_loadB (vs := Pd.cells ss.r.next.1.1 (.slice an ss.r.next.1.1.data.length cn)) h isAgg36 sizeOf36 rfl (List.take_of_length_le (Nat.le_of_eq (cells_len hcd))) (cells_len hcd)) ?_))
  refine WL.e (eff_call call133 (setake_ok (K := 80000) (s := ({ ss with r := ss.r.next.2 } : Se)) (p := ss.r.next.1.1) (ap := an) (cp := cn) hcd hnu htk (by decide) (closeSe (s := ({ ss with r := ss.r.next.2 } : Se)) x hoks h80 (h.to (T := blk bs [.slice x.aa acl.length x.ca, (.func (.func 69) #[.pointer (some ⟨bd, 0, none⟩)] #[]), .pointer (some ⟨x.br, 0, none⟩), .string ⟨ss.p.name.toArray⟩, .int .i64 (ss.p.maxd : Int), .int .i64 (ss.p.burst : Int), .bool ss.p.imm, .bool ss.p.dig, .bool ss.open_, .bool false, .int .u32 (ss.exp : Int), .int .u32 (ss.sn : Int), .slice none 0 0, .slice x.at_ ss.told.length x.ct] 183 :: RdrP 117 x.br ss.r.next.2 :: Own 1 (.slice x.aa acl.length x.ca) acl.length (acl.map fun t => Value.string ⟨t.toArray⟩) :: OwnB (.slice x.at_ ss.told.length x.ct) ss.told :: DeskP 123 108 151 154 bd uu :: OwnB (.slice an ss.r.next.1.1.data.length cn) ss.r.next.1.1.data :: L))) (Gives.ownO (v := (.slice an ss.r.next.1.1.data.length cn))))) ?_
  rintro _ w h
  have h : On W0 (SeP 183 117 (80000 + 8400) bs acl (.func (.func 69) #[.pointer (some ⟨bd, 0, none⟩)] #[]) s2 :: DeskP 123 108 151 154 bd u2 :: L) w := h.to
  refine WL.nil (W.seq ?_)
  have ho_ := openSe h
  obtain ⟨y, hoks, _, h⟩ := ho_
  have h : On W0 (blk bs [.slice y.aa acl.length y.ca, (.func (.func 69) #[.pointer (some ⟨bd, 0, none⟩)] #[]), .pointer (some ⟨y.br, 0, none⟩), .string ⟨s2.p.name.toArray⟩, .int .i64 (s2.p.maxd : Int), .int .i64 (s2.p.burst : Int), .bool s2.p.imm, .bool s2.p.dig, .bool s2.open_, .bool false, .int .u32 (s2.exp : Int), .int .u32 (s2.sn : Int), .slice none 0 0, .slice y.at_ s2.told.length y.ct] 183 :: _) w := h
  refine W.region (WL.m (WL.n rfl (WL.c 9 underlying183 rfl sizeOf4 rfl isAgg4 h rfl (WL.nil (W.cs ?_)))))
  have h := h.to (T := blk bs [.slice y.aa acl.length y.ca, (.func (.func 69) #[.pointer (some ⟨bd, 0, none⟩)] #[]), .pointer (some ⟨y.br, 0, none⟩), .string ⟨s2.p.name.toArray⟩, .int .i64 (s2.p.maxd : Int), .int .i64 (s2.p.burst : Int), .bool s2.p.imm, .bool s2.p.dig, .bool s2.open_, .bool false, .int .u32 (s2.exp : Int), .int .u32 (s2.sn : Int), .slice none 0 0, .slice y.at_ s2.told.length y.ct] 183 :: RdrP 117 y.br s2.r :: Own 1 (.slice y.aa acl.length y.ca) acl.length (acl.map fun t => Value.string ⟨t.toArray⟩) :: OwnB (.slice y.at_ s2.told.length y.ct) s2.told :: DeskP 123 108 151 154 bd u2 :: L)
  exact ⟨f1, ⟨_, s2, u2, s2.told.length, hik2, mkE_of ⟨rfl, trivial⟩, On.exI y (On.pack ⟨hoks, Nat.le_refl _⟩ h)⟩, Nat.lt_succ_self f1⟩
 have htk : Se.login acl ({ ss with r := ss.r.next.2 } : Se) ss.r.next.1.1 = some s2 ∧ u2 = uu := by
   rcases hst with ⟨q, _⟩ | ⟨_, q⟩
   · rw [c23] at q; cases q
   exact q
 obtain ⟨htk, hu2⟩ := htk
 refine W.region (WL.m (WL.v (run_loadB (vs := Pd.cells ss.r.next.1.1 (.slice an ss.r.next.1.1.data.length cn)) h isAgg36 sizeOf36 rfl (List.take_of_length_le (Nat.le_of_eq (cells_len hcd))) (cells_len hcd)) ?_))
 refine WL.e (eff_call call134 (selogin_ok (bd := bd) (K := 80000) (s := ({ ss with r := ss.r.next.2 } : Se)) (p := ss.r.next.1.1) (ap := an) (cp := cn) (Gives.to G) ha0 ha1 hcd hnu htk (by decide) (closeSe (s := ({ ss with r := ss.r.next.2 } : Se)) x hoks h80 (h.to (T := blk bs [.slice x.aa acl.length x.ca, (.func (.func 69) #[.pointer (some ⟨bd, 0, none⟩)] #[]), .pointer (some ⟨x.br, 0, none⟩), .string ⟨ss.p.name.toArray⟩, .int .i64 (ss.p.maxd : Int), .int .i64 (ss.p.burst : Int), .bool ss.p.imm, .bool ss.p.dig, .bool ss.open_, .bool false, .int .u32 (ss.exp : Int), .int .u32 (ss.sn : Int), .slice none 0 0, .slice x.at_ ss.told.length x.ct] 183 :: RdrP 117 x.br ss.r.next.2 :: Own 1 (.slice x.aa acl.length x.ca) acl.length (acl.map fun t => Value.string ⟨t.toArray⟩) :: OwnB (.slice x.at_ ss.told.length x.ct) ss.told :: DeskP 123 108 151 154 bd uu :: OwnB (.slice an ss.r.next.1.1.data.length cn) ss.r.next.1.1.data :: L))) (Gives.ownO (v := (.slice an ss.r.next.1.1.data.length cn))))) ?_
 rintro _ w h
 rw [← hu2] at h
 have h : On W0 (SeP 183 117 (80000 + 8400) bs acl (.func (.func 69) #[.pointer (some ⟨bd, 0, none⟩)] #[]) s2 :: DeskP 123 108 151 154 bd u2 :: L) w := h.to
 refine WL.nil (W.seq ?_)
 have ho_ := openSe h
 obtain ⟨y, hoks, _, h⟩ := ho_
 have h : On W0 (blk bs [.slice y.aa acl.length y.ca, (.func (.func 69) #[.pointer (some ⟨bd, 0, none⟩)] #[]), .pointer (some ⟨y.br, 0, none⟩), .string ⟨s2.p.name.toArray⟩, .int .i64 (s2.p.maxd : Int), .int .i64 (s2.p.burst : Int), .bool s2.p.imm, .bool s2.p.dig, .bool s2.open_, .bool false, .int .u32 (s2.exp : Int), .int .u32 (s2.sn : Int), .slice none 0 0, .slice y.at_ s2.told.length y.ct] 183 :: _) w := h
 refine W.region (WL.m (WL.n rfl (WL.c 9 underlying183 rfl sizeOf4 rfl isAgg4 h rfl (WL.nil (W.cs ?_)))))
 have h := h.to (T := blk bs [.slice y.aa acl.length y.ca, (.func (.func 69) #[.pointer (some ⟨bd, 0, none⟩)] #[]), .pointer (some ⟨y.br, 0, none⟩), .string ⟨s2.p.name.toArray⟩, .int .i64 (s2.p.maxd : Int), .int .i64 (s2.p.burst : Int), .bool s2.p.imm, .bool s2.p.dig, .bool s2.open_, .bool false, .int .u32 (s2.exp : Int), .int .u32 (s2.sn : Int), .slice none 0 0, .slice y.at_ s2.told.length y.ct] 183 :: RdrP 117 y.br s2.r :: Own 1 (.slice y.aa acl.length y.ca) acl.length (acl.map fun t => Value.string ⟨t.toArray⟩) :: OwnB (.slice y.at_ s2.told.length y.ct) s2.told :: DeskP 123 108 151 154 bd u2 :: L)
 exact ⟨f1, ⟨_, s2, u2, s2.told.length, hik2, mkE_of ⟨rfl, trivial⟩, On.exI y (On.pack ⟨hoks, Nat.le_refl _⟩ h)⟩, Nat.lt_succ_self f1⟩
end Go.Proofs.YtjfmjbmkkpkppaaGreatDoor
namespace Go.Sl.TpM
open Go Go.Sl Go.Sl.ByM Go.Sl.UnM
theorem sealB_len (b : List UInt8) : (sealB b).length = b.length + 4 := by
 unfold sealB; rw [List.length_append]; rfl
theorem packet_len (c : Cn) (fr : Nat) (b : List UInt8) : (c.packet fr b).length = b.length + 21 := by
 unfold Cn.packet
 rw [sealB_len, List.length_append, packK_len c fr 4 (Nat.le_refl _)]; omega
theorem chunks_small (c : Cn) : ∀ (f s : Nat), ∀ p ∈ c.chunks f s, p.length ≤ 2000
 | 0, _, p, h => by cases h
 | f + 1, s, p, h => by
   unfold Cn.chunks at h
   split at h
   · cases h
   rcases List.mem_cons.1 h with e | h
   · rw [e, packet_len, List.length_take]; omega
   exact chunks_small c f _ p h
theorem outL_small (c : Cn) : ∀ p ∈ c.outL, p.length ≤ 2000 := by
 intro p h
 unfold Cn.outL at h
 split at h
 · cases h
 have h : p ∈ (if c.say && (if c.known then c.chunks 5 c.sent else []).isEmpty then [c.packet (if c.known then c.out.length else c.sent) []] else (if c.known then c.chunks 5 c.sent else [])) := h
 by_cases hs : (c.say && (if c.known then c.chunks 5 c.sent else []).isEmpty) = true
 · rw [if_pos hs] at h
   rw [List.mem_singleton.1 h, packet_len]; simp
 rw [if_neg hs] at h
 split at h
 · exact chunks_small c _ _ p h
 cases h
theorem ownTail {W0 w : World} {L : List HProp} {a : Option Addr} {c l : Nat} {bs : List UInt8} (H : On W0 (OwnB (.slice a bs.length c) bs :: L) w) (hl : l ≤ bs.length) : bs.length ≤ c ∧ ∃ a' c', sliced a l bs.length c 1 = .slice a' (bs.drop l).length c' ∧ On W0 (OwnB (.slice a' (bs.drop l).length c') (bs.drop l) :: L) w := by
 have hf := Own.form H
 obtain ⟨a1, c1, hv, h1, h2, h3⟩ := hf
 simp only [Value.slice.injEq] at hv
 obtain ⟨rfl, _, rfl⟩ := hv
 refine ⟨h1, ?_⟩
 have hd : (bytesV bs).drop (l * 1) = bytesV (bs.drop l) := by unfold bytesV; rw [Nat.mul_one, List.map_drop]
 have hfact : (bs.length = 0 ∧ c = 0) ∨ ∃ g off, a = some ⟨g, off, none⟩ := by
   obtain ⟨h1, s, ho⟩ := H.sat.fact
   rcases ho.2 with ⟨h0, ao, hv⟩ | ⟨g, off, cap, cur, e, fr, hv, _⟩
   · simp only [Value.slice.injEq] at hv
     exact .inl ⟨h0, hv.2.2⟩
   simp only [Value.slice.injEq] at hv
   exact .inr ⟨g, off, hv.1⟩
 rcases hfact with ⟨hb, hc⟩ | ⟨g, off, ha⟩
 · subst hc
   have hb : bs = [] := List.eq_nil_of_length_eq_zero (by omega)
   subst hb
   have hl0 : l = 0 := by simpa using hl
   subst hl0
   exact ⟨a, 0, rfl, H⟩
 subst ha
 have ht := Own.tail H hl
 rw [hd] at ht
 have hlen : bs.length - l = (bs.drop l).length := by rw [List.length_drop]
 rw [hlen] at ht
 exact ⟨_, _, by rw [sliced_tail, hlen], ht⟩
structure LnA where
 bc : Nat
 bs : Nat
 ba : Nat
 bb : Nat
 aw : Option Addr
 cw : Nat
 av : Option Addr
 cv : Nat
 bd : Nat
 n : Int
structure Tys where
 TL : Nat
 TC : Nat
 TR : Nat
 TS : Nat
 TN : Nat
 TD : Nat
 TU : Nat
 TP : Nat
 TT : Nat
def lnCells (l : Ln) (x : LnA) : List Value := [.pointer (some ⟨x.bc, 0, none⟩), .pointer (some ⟨x.bs, 0, none⟩), .pointer (some ⟨x.ba, 0, none⟩), .pointer (some ⟨x.bb, 0, none⟩), .int .i64 0, .int .i64 x.n, .slice x.aw l.w.length x.cw, .slice x.av l.v.length x.cv]
def LnP (t : Tys) (fd : FuncId) (bl : Nat) (l : Ln) : HProp := Ex fun (x : LnA) => Pack (l.w.length ≤ 100000 ∧ l.v.length ≤ 100000) [blk bl (lnCells l x) t.TL, ClP t.TC t.TR x.bc l.c, SeP t.TS t.TR 0 x.bs aclL (.func (.func fd) #[.pointer (some ⟨x.bd, 0, none⟩)] #[]) l.s, ConnP t.TN x.ba l.a, ConnP t.TN x.bb l.b, OwnB (.slice x.aw l.w.length x.cw) l.w, OwnB (.slice x.av l.v.length x.cv) l.v, DeskP t.TD t.TU t.TP t.TT x.bd l.u]
theorem openLn {W0 w : World} {L : List HProp} {t : Tys} {fd : FuncId} {bl : Nat} {l : Ln} (H : On W0 (LnP t fd bl l :: L) w) : ∃ x : LnA, l.w.length ≤ 100000 ∧ l.v.length ≤ 100000 ∧ On W0 (blk bl (lnCells l x) t.TL :: ClP t.TC t.TR x.bc l.c :: SeP t.TS t.TR 0 x.bs aclL (.func (.func fd) #[.pointer (some ⟨x.bd, 0, none⟩)] #[]) l.s :: ConnP t.TN x.ba l.a :: ConnP t.TN x.bb l.b :: OwnB (.slice x.aw l.w.length x.cw) l.w :: OwnB (.slice x.av l.v.length x.cv) l.v :: DeskP t.TD t.TU t.TP t.TT x.bd l.u :: L) w := by
 obtain ⟨x, H⟩ := H.ex
 obtain ⟨hw, H⟩ := H.unpack
 exact ⟨x, hw.1, hw.2, H⟩
theorem closeLn {W0 w : World} {L : List HProp} {t : Tys} {fd : FuncId} {bl : Nat} {l : Ln} (x : LnA) (h1 : l.w.length ≤ 100000) (h2 : l.v.length ≤ 100000) (H : On W0 (blk bl (lnCells l x) t.TL :: ClP t.TC t.TR x.bc l.c :: SeP t.TS t.TR 0 x.bs aclL (.func (.func fd) #[.pointer (some ⟨x.bd, 0, none⟩)] #[]) l.s :: ConnP t.TN x.ba l.a :: ConnP t.TN x.bb l.b :: OwnB (.slice x.aw l.w.length x.cw) l.w :: OwnB (.slice x.av l.v.length x.cv) l.v :: DeskP t.TD t.TU t.TP t.TT x.bd l.u :: L) w) : On W0 (LnP t fd bl l :: L) w := On.exI x (On.pack ⟨h1, h2⟩ H)
theorem round_some {l l' : Ln} (h : l.round = some l') : ∃ o c1 c2 q, l.c.out = some (o, c1) ∧
   l.s.in_ aclL l.u (((l.a.send (l.w ++ o)).tick.outL).foldl Cn.inP (l.b.send l.v).tick.outC).inb = some q ∧
   c1.in_ ((((l.b.send l.v).tick.outL).foldl Cn.inP (l.a.send (l.w ++ o)).tick.outC).inb) = some c2 ∧
   l' = ⟨c2, q.2.1, (((l.b.send l.v).tick.outL).foldl Cn.inP (l.a.send (l.w ++ o)).tick.outC).recv, (((l.a.send (l.w ++ o)).tick.outL).foldl Cn.inP (l.b.send l.v).tick.outC).recv, (l.w ++ o).drop (l.a.sendN (l.w ++ o)), l.v.drop (l.b.sendN l.v) ++ q.1, q.2.2⟩ ∧ (l.w ++ o).length ≤ 100000 ∧ (l.v.drop (l.b.sendN l.v) ++ q.1).length ≤ 100000 := by
 unfold Ln.round at h
 cases ho : l.c.out with
 | none => rw [ho] at h; cases h
 | some oc =>
   rw [ho] at h
   obtain ⟨o, c1⟩ := oc
   simp only [Option.bind_some] at h
   split at h
   · cases h
   rename_i h1
   cases hs : l.s.in_ aclL l.u (((l.a.send (l.w ++ o)).tick.outL).foldl Cn.inP (l.b.send l.v).tick.outC).inb with
   | none => rw [hs] at h; cases h
   | some q =>
     rw [hs] at h
     simp only [Option.bind_some] at h
     split at h
     · cases h
     rename_i h2
     cases hc : c1.in_ ((((l.b.send l.v).tick.outL).foldl Cn.inP (l.a.send (l.w ++ o)).tick.outC).inb) with
     | none => rw [hc] at h; cases h
     | some c2 =>
       rw [hc] at h
       cases h
       exact ⟨o, c1, c2, q, rfl, hs, hc, rfl, by omega, by omega⟩
end Go.Sl.TpM
namespace Go.Proofs.YtjfmjbmkkpkppaaGreatDoor
open Go.Proofs.Tryz
open Go Go.Sl Go.Sl.BitM Go.Sl.SpM Go.Sl.RsM Go.Sl.ByM Go.Sl.UnM
set_option maxHeartbeats 1000000
set_option maxRecDepth 8000
variable {W0 w : World} {L F : List HProp}
theorem unewR_ok {n : Int} {pool : PoolL} (h : On W0 L w) : Calls Tryz.prog 17 #[.int .i64 n] w (Ret fun v w' => (∃ N : Nat, n = N ∧ 1 ≤ N ∧ N ≤ 1024 ∧ ∃ (bu bs bt : Nat) (mbs : List Nat), mbs.length = 8 ∧ v = .tuple #[.pointer (some ⟨bu, 0, none⟩), .int .i64 0] ∧ On W0 (blk bu (ucells bs bt (mbs.map zG)) 108 :: SpP 151 bs (newS N) :: blk bt newT.cells 154 :: Big (GOwn pool) (mbs.map zG) :: L) w') ∨ (¬ (1 ≤ n ∧ n ≤ 1024) ∧ v = .tuple #[.pointer none, .int .i64 1] ∧ On W0 L w')) := by
 refine enter func17 rfl ntmps17 rfl (W.sr (WL.a (WL.z (W.sr ?_))))
 refine WL.m (WL.e (eff_call call54 (snew_ok (n := n) h)) ?_)
 rintro _ w hv
 rcases hv with ⟨N, rfl, h1, h2b, bs, rfl, h⟩ | ⟨hno, rfl, h⟩
 ·
  refine WL.m (WL.v (run_extract rfl rfl) (WL.v (run_extract rfl rfl) (WL.a (WL.z (W.seq (W.seq ?_))))))
  refine W.region (WL.m (WL.v (run_neqF rfl rfl (by decide)) (WL.nil (W.cs (W.sr ?_)))))
  refine WL.m (WL.e (eff_call call55 (rnew_ok h)) ?_)
  rintro _ w ⟨bt, rfl, h⟩
  refine WL.v (run_buildS (pl := [(0, 1), (1, 1), (2, 24)]) (out := [.pointer _, .pointer _, .slice _ _ _, .int .u64 _, .map _, .slice _ _ _, .int .u64 _, .map _, .slice _ _ _, .int .u64 _, .map _, .slice _ _ _, .int .u64 _, .map _, .slice _ _ _, .int .u64 _, .map _, .slice _ _ _, .int .u64 _, .map _, .slice _ _ _, .int .u64 _, .map _, .slice _ _ _, .int .u64 _, .map _]) underlying108 zeroValue108 (fun w => by kernel_rfl) rfl (⟨⟨_, _, rfl, rfl, by decide⟩, ⟨⟨_, _, rfl, rfl, by decide⟩, trivial⟩⟩) rfl) ?_
  refine WL.e (eff_box (v := .agg _) (l := [.pointer _, .pointer _, .slice _ _ _, .int .u64 _, .map _, .slice _ _ _, .int .u64 _, .map _, .slice _ _ _, .int .u64 _, .map _, .slice _ _ _, .int .u64 _, .map _, .slice _ _ _, .int .u64 _, .map _, .slice _ _ _, .int .u64 _, .map _, .slice _ _ _, .int .u64 _, .map _, .slice _ _ _, .int .u64 _, .map _]) h rfl rfl) ?_
  rintro _ w ⟨b19, rfl, h⟩
  refine WL.z (W.seq (W.sr (WL.m (WL.nil (W.block ?_)))))
  refine W.loop (fun (k : Nat) env w => k ≤ 8 ∧ ∃ (j : Env) (mbs : List Nat), mbs.length = k ∧ env = mkE j [(6, .pointer (some ⟨b19, 0, none⟩)), (20, .int .i64 (k : Int))] ∧ On W0 (blk b19 (ncells bs bt (mbs.map zG) (8 - k)) 108 :: SpP 151 bs (newS N) :: blk bt newT.cells 154 :: Big (GOwn pool) (mbs.map zG) :: L) w) (fun k => 8 - k) (0) ?_ ?_
  · have h : On W0 (Big (GOwn pool) (([] : List Nat).map zG) :: blk b19 (ncells bs bt (([] : List Nat).map zG) (8 - 0)) 108 :: _) w := Big.nil h
    exact ⟨Nat.zero_le _, _, [], rfl, mkE_of ⟨rfl, rfl, trivial⟩, h.to⟩
  rintro k env w ⟨hk8, j, mbs, hml, rfl, h⟩
  have hgl : (mbs.map zG).length = k := by rw [List.length_map, hml]
  refine W.sr (WL.v (run_lss rfl rfl) (WL.nil (W.seq ?_)))
  refine W.condIf rfl (fun c12 => ?_) (fun c12 => ?_)
  ·
   refine W.skip (W.seq (W.block (W.seq ?_)))
   have h8k : 8 - k = 8 - (k + 1) + 1 := by omega
   rw [h8k] at h
   refine W.region (WL.m (WL.z (W.region (WL.m (WL.m (WL.e (eff_makeMap (kd := .u64) h) ?_))))))
   rintro _ w ⟨b25, rfl, h⟩
   refine WL.n rfl (WL.f 2 underlying108 rfl sizeOf106 rfl rfl (WL.v (run_indexAddrArr underlying106 sizeOf105 rfl rfl (by omega) (by omega)) (WL.f 2 underlying105 rfl sizeOf103 rfl rfl (WL.e (eff_store (v := .map (some b25)) h sizeOf103 rfl rfl rfl (nlt (bs := bs) (bt := bt) hgl) (free0 _)) ?_))))
   rintro _ w h
   rw [nset (bs := bs) (bt := bt) hgl] at h
   have h := zG_own (pool := pool) (h.fetch (MapC b25 .u64 [] 0))
   have h := Big.push ((h.fetch (Big (GOwn pool) (mbs.map zG))).fetch (GOwn pool (zG b25)))
   rw [show mbs.map zG ++ [zG b25] = (mbs ++ [b25]).map zG by rw [List.map_append]; rfl] at h
   refine WL.nil (W.region (WL.v (run_incN rfl rfl (by omega)) (WL.m (WL.nil ?_))))
   exact ⟨k + 1, ⟨by omega, _, mbs ++ [b25], by rw [List.length_append, hml]; rfl, mkE_of ⟨rfl, rfl, trivial⟩, h.to⟩, by show 8 - (k + 1) < 8 - k; omega⟩
  refine W.exit (W.sr (WL.m (WL.a (WL.z (W.ret ?_)))))
  refine bodyQ.r2 (v1 := .pointer _) (v2 := .int .i64 _) results17 rfl rfl ?_
  have ob_ : k = 8 := by omega
  obtain rfl := ob_
  have h2 : On W0 (blk b19 (ucells bs bt (mbs.map zG)) 108 :: SpP 151 bs (newS N) :: blk bt newT.cells 154 :: Big (GOwn pool) (mbs.map zG) :: L) w := by
    have e : ncells bs bt (mbs.map zG) (8 - 8) = ucells bs bt (mbs.map zG) := by show _ :: _ :: ((mbs.map zG).flatMap GX.row ++ []) = _; rw [List.append_nil]
    rw [e] at h
    exact h
  exact .inl ⟨N, rfl, h1, h2b, b19, bs, bt, mbs, hml, rfl, h2⟩
 refine WL.m (WL.v (run_extract rfl rfl) (WL.v (run_extract rfl rfl) (WL.a (WL.z (W.seq (W.seq ?_))))))
 refine W.region (WL.m (WL.v (run_neqT rfl rfl (by decide)) (WL.nil (W.ct (W.sr (WL.m ?_))))))
 refine WL.a (WL.z (W.ret (bodyQ.r2 (v1 := .pointer _) (v2 := .int .i64 _) results17 rfl rfl ?_)))
 exact .inr ⟨hno, rfl, h⟩
theorem unew_ok {n : Int} {pool : PoolL} (h : On W0 L w) : Calls Tryz.prog 17 #[.int .i64 n] w (Ret fun v w' => (∃ N : Nat, n = N ∧ 1 ≤ N ∧ N ≤ 1024 ∧ ∃ bu ms, v = .tuple #[.pointer (some ⟨bu, 0, none⟩), .int .i64 0] ∧ On W0 (UnP 108 151 154 bu pool ms (newU N) :: L) w') ∨ (¬ (1 ≤ n ∧ n ≤ 1024) ∧ v = .tuple #[.pointer none, .int .i64 1] ∧ On W0 L w')) := by
 skip
 exact (unewR_ok (pool := pool) h).mono fun e w' he => by
   obtain ⟨v, he, hv⟩ := he
   refine ⟨v, he, ?_⟩
   rcases hv with ⟨N, hN, h1, h2, bu, bs, bt, mbs, hml, hv, h⟩ | hv
   · refine .inl ⟨N, hN, h1, h2, bu, _, hv, closeU (u := newU N) ⟨?_, rfl⟩ rfl h⟩
     rw [List.map_map]
     show mbs.map (fun _ => (⟨[], 0, []⟩ : Gs)) = List.replicate 8 ⟨[], 0, []⟩
     rw [List.map_const', hml]
   exact .inr hv
end Go.Proofs.YtjfmjbmkkpkppaaGreatDoor
namespace Go.Proofs.YtjfmjbmkkpkppaaGreatDoor
open Go.Proofs.Tryz
open Go Go.Sl Go.Sl.BitM Go.Sl.SpM Go.Sl.RsM Go.Sl.ByM Go.Sl.UnM Go.Sl.TpM
set_option maxHeartbeats 1000000
set_option maxRecDepth 8000
variable {W0 w : World} {L F : List HProp}
theorem givesBig {rows : List BX} {k : Nat} {x : BX} (hx : rows[k]? = some x) : Gives [Big OwnBX rows] (Bytes x.v x.b) := fun h H => by
 obtain ⟨h1, s, hb⟩ := H.fact
 have hb : Sat (rows.map OwnBX) h1 := hb
 have hg := Sat.get k (A := OwnBX x) (by rw [List.getElem?_map, hx]; rfl) (Own_mono _ _ _ _) hb
 exact Cells_mono _ _ _ _ _ _ s (Own.cells hg)
theorem fold_snoc {rows : List BX} {k : Nat} {x : BX} {c : Cn} (hx : rows[k]? = some x) : ((rows.map BX.b).take (k + 1)).foldl Cn.inP c = (((rows.map BX.b).take k).foldl Cn.inP c).inP x.b := by
 rw [List.take_add_one, List.getElem?_map, hx, List.foldl_append]; rfl
theorem fold_all {rows : List BX} {c : Cn} : ((rows.map BX.b).take rows.length).foldl Cn.inP c = (rows.map BX.b).foldl Cn.inP c := by
 rw [List.take_of_length_le (by rw [List.length_map]; exact Nat.le_refl _)]
theorem sendN_le (c : Cn) (b : List UInt8) : c.sendN b ≤ b.length := by
 unfold Cn.sendN
 split
 · exact Nat.zero_le _
 exact Nat.min_le_left _ _
theorem one_set {x : UInt8} {k : Nat} (hk : k < 8) : (bytesV (List.replicate k x ++ List.replicate (8 - k) 0)).set k (.int .u8 (x.toNat : Int)) = bytesV (List.replicate (k + 1) x ++ List.replicate (8 - (k + 1)) 0) := by
 rw [bytes_set, List.set_append_right _ _ (by simp), List.length_replicate, Nat.sub_self, show 8 - k = (8 - (k + 1)) + 1 by omega, List.replicate_succ, List.set_cons_zero, List.replicate_succ', List.append_assoc]; rfl
theorem lparams_ok {name : Str} {burst : Nat} (h : On W0 L w) : Calls Tryz.prog 66 #[.string ⟨name.toArray⟩, .int .i64 (burst : Int)] w (Ret fun v w' => v = .agg (Pm.cells ⟨name, 512, burst, true, true⟩).toArray ∧ On W0 L w') := by
 refine enter func66 rfl ntmps66 rfl (W.sr (WL.e (eff_alloc h zeroValue127 rfl) ?_))
 rintro _ w ⟨b4, rfl, h⟩
 refine WL.nil (W.sr (WL.m (WL.m (WL.v (run_buildS (pl := qp0) (out := [.string _, .int .i64 _, .int .i64 _, .bool _, .bool _]) underlying127 zeroValue127 (fun w => by kernel_rfl) rfl (⟨⟨_, _, rfl, rfl, by decide⟩, ⟨⟨_, _, rfl, rfl, by decide⟩, ⟨⟨_, _, rfl, rfl, by decide⟩, ⟨⟨_, _, rfl, rfl, by decide⟩, ⟨⟨_, _, rfl, rfl, by decide⟩, trivial⟩⟩⟩⟩⟩) rfl) (WL.e (eff_storeW (vs := Pm.cells ⟨name, 512, burst, true, true⟩) h sizeOf127 rfl rfl rfl rfl rfl) ?_)))))
 rintro _ w h
 refine WL.nil (W.ret (bodyQ.rcB (vs := Pm.cells ⟨name, 512, burst, true, true⟩) h results66 isAgg127 sizeOf127 rfl rfl rfl ?_))
 exact ⟨rfl, h.to⟩
theorem lacl_ok (h : On W0 L w) : Calls Tryz.prog 68 #[] w (Ret fun v w' => ∃ a, v = .slice a aclL.length aclL.length ∧ On W0 (Own 1 (.slice a aclL.length aclL.length) aclL.length (aclL.map fun t => Value.string ⟨t.toArray⟩) :: L) w') := by
 refine enter func68 rfl ntmps68 rfl (W.sr (WL.z (W.sr ?_)))
 refine WL.e (eff_mkSlice (zl := [.string (ByteArray.mk #[]), .string (ByteArray.mk #[]), .string (ByteArray.mk #[])]) (out := [.string _, .string _, .string _]) h underlying131 sizeOf9 zeroValue9 (by decide) (by kernel_rfl) rfl rfl (by simp) (⟨⟨_, _, rfl, rfl, by decide⟩, ⟨⟨_, _, rfl, rfl, by decide⟩, ⟨⟨_, _, rfl, rfl, by decide⟩, trivial⟩⟩⟩) rfl rfl (by simp [maxLen])) ?_
 rintro _ w ⟨b1, rfl, h⟩
 refine WL.z (W.ret (bodyQ.r1 (v := .slice _ _ _) results68 rfl ?_))
 exact ⟨_, rfl, h⟩
theorem lone_ok {x : UInt8} (h : On W0 L w) : Calls Tryz.prog 35 #[.int .u8 (x.toNat : Int)] w (Ret fun v w' => ∃ a, v = .slice a (List.replicate 8 x).length (List.replicate 8 x).length ∧ On W0 (OwnB (.slice a (List.replicate 8 x).length (List.replicate 8 x).length) (List.replicate 8 x) :: L) w') := by
 refine enter func35 rfl ntmps35 rfl ?_
 have hmx := maxLen_eq
 refine W.sr (WL.z (W.sr (WL.e (eff_make (n := 8) (bytes := 1) h (rfl) (rfl) underlying26 rfl rfl rfl rfl rfl (by omega) (by omega)) ?_)))
 rintro _ w ⟨b5, rfl, h⟩
 refine WL.z (W.seq (W.sr (WL.z (W.block ?_))))
 refine W.loop (fun (k : Nat) env w => k ≤ 8 ∧ ∃ (j : Env), env = mkE j [(0, .int .u8 (x.toNat : Int)), (3, .slice (some ⟨b5, 0, none⟩) 8 8), (4, .int .i64 (k : Int))] ∧ On W0 (Own 1 (.slice (some ⟨b5, 0, none⟩) 8 8) 8 (bytesV (List.replicate k x ++ List.replicate (8 - k) 0)) :: L) w) (fun k => 8 - k) (0) ?_ ?_
 · exact ⟨by decide, _, mkE_of ⟨rfl, rfl, rfl, trivial⟩, h⟩
 clear h
 rintro k env w ⟨hk, j, rfl, h⟩
 refine W.seq (W.sr (WL.m (WL.v (run_lss rfl rfl) (WL.nil ?_))))
 refine W.condIf rfl (fun c6 => ?_) (fun c6 => ?_)
 ·
  refine W.skip (W.seq (W.block (W.region (WL.m (WL.m (WL.m (WL.v (run_indexAddr underlying26 sizeOf5 rfl rfl (by omega) (by omega)) ?_)))))))
  refine WL.e (eff_storeOwn (k := k * 1) (v := .int .u8 (x.toNat : Int)) h sizeOf5 rfl rfl rfl (by omega)) ?_
  rintro _ w h
  rw [Nat.mul_one] at h
  refine WL.nil (W.region (WL.m (WL.v (run_incN rfl rfl (by omega)) (WL.z ?_))))
  have h : On W0 (Own 1 (.slice (some ⟨b5, 0, none⟩) 8 8) 8 ((bytesV (List.replicate k x ++ List.replicate (8 - k) 0)).set k (.int .u8 (x.toNat : Int))) :: L) w := h
  rw [one_set (by omega)] at h
  exact ⟨k + 1, ⟨by omega, _, mkE_of ⟨rfl, rfl, rfl, trivial⟩, h⟩, by show 8 - (k + 1) < 8 - k; omega⟩
 refine W.exit (W.sr (WL.m (WL.z (W.ret (bodyQ.r1 (v := .slice _ _ _) results35 rfl ?_)))))
 have ek : k = 8 := by omega
 subst ek
 exact ⟨_, rfl, h⟩
theorem ldesk_ok (h : On W0 L w) : Calls Tryz.prog 32 #[.int .i64 8] w (Ret fun v w' => ∃ bd, v = .pointer (some ⟨bd, 0, none⟩) ∧ On W0 (DeskP 123 108 151 154 bd (newU 8) :: L) w') := by
 refine enter func32 rfl ntmps32 rfl (W.sr (WL.z (W.sr (WL.m ?_))))
 refine WL.e (eff_call call17 (unew_ok (n := 8) (pool := []) h)) ?_
 rintro _ w hv
 rcases hv with ⟨N, hN, h1, h2, bu, ms, rfl, h⟩ | ⟨hn, _⟩
 rotate_left
 · exact (hn (by decide)).elim
 have ob_ : N = 8 := by omega
 obtain rfl := ob_
 refine WL.m (WL.v (run_extract rfl rfl) (WL.v (run_extract rfl rfl) (WL.a (WL.z (W.seq (W.seq ?_))))))
 refine W.region (WL.m (WL.v (run_neqF rfl rfl (by decide)) (WL.m (WL.m (WL.v (run_eqlPtrNil underlying51 rfl rfl) (WL.pf (WL.nil ?_)))))))
 refine W.cs (W.sr (WL.m (WL.v (run_buildS (pl := [(0, 1)]) (out := [.pointer _]) underlying123 zeroValue123 (fun w => by kernel_rfl) rfl (⟨⟨_, _, rfl, rfl, by decide⟩, trivial⟩) rfl) (WL.e (eff_box (v := .agg _) (l := [.pointer _]) h rfl rfl) ?_))))
 rintro _ w ⟨b18, rfl, h⟩
 refine WL.z (W.ret (bodyQ.r1 (v := .pointer _) results32 rfl ?_))
 exact ⟨_, rfl, closeDk (goodU_new 8) h⟩
theorem lnew_ok {bd burst : Nat} {name : Str} {u : Un} (hn : name.length ≤ 1000) (hb : burst ≤ 1000000) (h : On W0 (DeskP 123 108 151 154 bd u :: L) w) : Calls Tryz.prog 33 #[.pointer (some ⟨bd, 0, none⟩), .string ⟨name.toArray⟩, .int .i64 (burst : Int), .int .i64 0] w (Ret fun v w' => ∃ bl, v = .pointer (some ⟨bl, 0, none⟩) ∧ On W0 (LnP ⟨135, 179, 117, 183, 115, 123, 108, 151, 154⟩ 69 bl ⟨newCl ⟨name, 512, burst, true, true⟩, newSe, newC 1 true, newC 2 false, [], [], u⟩ :: L) w') := by
 refine enter func33 rfl ntmps33 rfl (W.sr (WL.z (W.sr (WL.m ?_))))
 refine WL.m (WL.e (eff_call call66 (lparams_ok h)) ?_)
 rintro _ w ⟨rfl, h⟩
 refine WL.e (eff_call call65 (cnewc_ok ⟨hn, (show (512 : Nat) ≤ 1000000 by decide), hb⟩ h)) ?_
 rintro _ w ⟨bc, rfl, h⟩
 refine WL.e (eff_call call68 (lacl_ok h)) ?_
 rintro _ w ⟨aa, rfl, h⟩
 refine WL.m (WL.v run_makeFunc (WL.e (eff_call call67 (senew_ok (fd := .func 69) (fa := #[.pointer (some ⟨bd, 0, none⟩)]) (fc := #[]) (acl := aclL) (by decide) h (Gives.ownO (v := .slice aa aclL.length aclL.length)))) ?_))
 rintro _ w ⟨bs, rfl, h⟩
 refine WL.e (eff_call call21 (cnew_ok (own := 1) (by decide) h)) ?_
 rintro _ w ⟨ba, rfl, h⟩
 refine WL.e (eff_call call21 (cnew_ok (own := 2) (by decide) h)) ?_
 rintro _ w ⟨bb, rfl, h⟩
 refine WL.m ?_
 refine WL.v (run_buildS (pl := qp4) (out := [.pointer _, .pointer _, .pointer _, .pointer _, .int .i64 _, .int .i64 _, .slice _ _ _, .slice _ _ _]) underlying135 zeroValue135 (fun w => by kernel_rfl) rfl (⟨⟨_, _, rfl, rfl, by decide⟩, ⟨⟨_, _, rfl, rfl, by decide⟩, ⟨⟨_, _, rfl, rfl, by decide⟩, ⟨⟨_, _, rfl, rfl, by decide⟩, ⟨⟨_, _, rfl, rfl, by decide⟩, trivial⟩⟩⟩⟩⟩) rfl) ?_
 refine WL.e (eff_box (v := .agg _) (l := [.pointer _, .pointer _, .pointer _, .pointer _, .int .i64 _, .int .i64 _, .slice _ _ _, .slice _ _ _]) h rfl rfl) ?_
 rintro _ w ⟨b21, rfl, h⟩
 refine WL.z (W.ret (bodyQ.r1 (v := .pointer _) results33 rfl ?_))
 have h : On W0 (blk b21 [.pointer (some ⟨bc, 0, none⟩), .pointer (some ⟨bs, 0, none⟩), .pointer (some ⟨ba, 0, none⟩), .pointer (some ⟨bb, 0, none⟩), .int .i64 0, .int .i64 0, .slice none 0 0, .slice none 0 0] 135 :: _) w := h
 have h := h.ownEmpty 1 none
 have h : On W0 (OwnB (.slice none ([] : List UInt8).length 0) [] :: _) w := h
 have h := h.ownEmpty 1 none
 have h : On W0 (OwnB (.slice none ([] : List UInt8).length 0) [] :: _) w := h
 refine ⟨b21, rfl, closeLn (l := ⟨newCl ⟨name, 512, burst, true, true⟩, newSe, newC 1 true, newC 2 false, [], [], u⟩) ⟨bc, bs, ba, bb, none, 0, none, 0, bd, 0⟩ (Nat.zero_le _) (Nat.zero_le _) ?_⟩
 exact h.to (T := blk b21 [.pointer (some ⟨bc, 0, none⟩), .pointer (some ⟨bs, 0, none⟩), .pointer (some ⟨ba, 0, none⟩), .pointer (some ⟨bb, 0, none⟩), .int .i64 0, .int .i64 0, .slice none 0 0, .slice none 0 0] 135 :: ClP 179 117 bc (newCl ⟨name, 512, burst, true, true⟩) :: SeP 183 117 0 bs aclL (.func (.func 69) #[.pointer (some ⟨bd, 0, none⟩)] #[]) newSe :: ConnP 115 ba (newC 1 true) :: ConnP 115 bb (newC 2 false) :: OwnB (.slice none ([] : List UInt8).length 0) [] :: OwnB (.slice none ([] : List UInt8).length 0) [] :: DeskP 123 108 151 154 bd u :: L)
theorem llost_ok {bl : Nat} {z : Int} {p0 p1 p2 p3 p6 p7 : Value} (h : On W0 (blk bl [p0, p1, p2, p3, .int .i64 0, .int .i64 z, p6, p7] 135 :: L) w) : Calls Tryz.prog 104 #[.pointer (some ⟨bl, 0, none⟩)] w (Ret fun v w' => ∃ z', v = .bool false ∧ On W0 (blk bl [p0, p1, p2, p3, .int .i64 0, .int .i64 z', p6, p7] 135 :: L) w') := by
 refine enter func104 rfl ntmps104 rfl (W.sr (WL.z (W.sr (WL.m ?_))))
 refine WL.n rfl (WL.c 5 underlying135 rfl sizeOf3 rfl isAgg3 h rfl (WL.v (run_addW rfl rfl) (WL.n rfl (WL.f 5 underlying135 rfl sizeOf3 rfl rfl (WL.e (eff_store (v := .int .i64 _) h sizeOf3 rfl rfl rfl rfl rfl) ?_)))))
 rintro _ w h
 try simp only [Nat.zero_add, Nat.add_zero, List.set_cons_zero, List.set_cons_succ] at h
 refine WL.nil (W.seq ?_)
 refine W.draw Tryz.follows h (fun w h => ?_)
 refine WT.m 0 rfl (WT.n 1 rfl rfl (WT.f 2 4 rfl underlying135 rfl sizeOf3 rfl rfl (WT.l 3 rfl isAgg3 rfl (h.cellB rfl) (WT.p 4 rfl (fun w' => run_gtrF rfl rfl (by decide)) (WT.m 5 rfl (WT.skip 6 rfl (by kernel_rfl) rfl rfl (WT.skip 7 rfl (by kernel_rfl) rfl rfl ?_)))))))
 refine WT.skip 8 rfl (by kernel_rfl) rfl rfl (WT.skip 9 rfl (by kernel_rfl) rfl rfl (WT.skip 10 rfl (by kernel_rfl) rfl rfl (WT.skip 11 rfl (by kernel_rfl) rfl rfl (WT.skip 12 rfl (by kernel_rfl) rfl rfl (WT.skip 13 rfl (by kernel_rfl) rfl rfl (WT.skip 14 rfl (by kernel_rfl) rfl rfl (WT.skip 15 rfl (by kernel_rfl) rfl rfl ?_)))))))
 refine WT.p 16 rfl (fun w' => (run_pickF rfl)) (WT.a 17 rfl (WT.dn (W.ret (bodyQ.r1 (v := .bool _) results104 rfl ?_))))
 exact ⟨_, rfl, h⟩
theorem lround_ok {m : Int} (G : Gives L (GlP m)) {bl : Nat} {l l' : Ln} (hm : l.round = some l') (h : On W0 (LnP ⟨135, 179, 117, 183, 115, 123, 108, 151, 154⟩ 69 bl l :: L) w) : Calls Tryz.prog 71 #[.pointer (some ⟨bl, 0, none⟩)] w (Ret fun v w' => On W0 (LnP ⟨135, 179, 117, 183, 115, 123, 108, 151, 154⟩ 69 bl l' :: L) w') := by
 refine enter func71 rfl ntmps71 rfl ?_
 have hmx := maxLen_eq
 have hrs := round_some hm
 obtain ⟨o, c1, c2, q, hco, hsi, hci, hl', hWl, hVl⟩ := hrs
 obtain ⟨o2, s2, u2⟩ := q
 dsimp only at hl' hVl
 clear hm
 have ob_ : ∃ Wv, Wv = l.w ++ o := ⟨_, rfl⟩
 obtain ⟨Wv, hW⟩ := ob_
 rw [← hW] at hsi hci hl' hWl
 have ho_ := openLn h
 obtain ⟨x, hw0, hv0, h⟩ := ho_
 have h : On W0 (blk bl [.pointer (some ⟨x.bc, 0, none⟩), .pointer (some ⟨x.bs, 0, none⟩), .pointer (some ⟨x.ba, 0, none⟩), .pointer (some ⟨x.bb, 0, none⟩), .int .i64 0, .int .i64 x.n, .slice x.aw (l.w.length) x.cw, .slice x.av (l.v.length) x.cv] 135 :: ClP 179 117 x.bc l.c :: SeP 183 117 0 x.bs aclL (.func (.func 69) #[.pointer (some ⟨x.bd, 0, none⟩)] #[]) l.s :: ConnP 115 x.ba l.a :: ConnP 115 x.bb l.b :: _) w := h
 have hVl2 := hVl
 rw [List.length_append] at hVl2
 have hol : o.length ≤ 100000 := by rw [hW, List.length_append] at hWl; omega
 refine W.seq ?_
 refine W.draw Tryz.follows h (fun w h => ?_)
 refine WT.m 0 rfl (WT.m 1 rfl (WT.n 2 rfl rfl (WT.f 3 6 rfl underlying135 rfl sizeOf26 rfl rfl (WT.l 4 rfl isAgg26 rfl (h.cellB rfl) (WT.m 5 rfl (WT.n 6 rfl rfl (WT.f 7 0 rfl underlying135 rfl sizeOf124 rfl rfl ?_)))))))
 refine WT.l 8 rfl isAgg124 rfl (h.cellB rfl) (WT.e 9 [false, true] rfl (eff_call call103 (clout_ok (Gives.to G) hco (h.fetch (ClP 179 117 x.bc l.c)))) ?_)
 rintro _ w ⟨ao, rfl, h⟩
 refine ⟨⟨h.cellB rfl, trivial⟩, ?_⟩
 refine WT.e 10 [false] rfl (eff_app (c2 := o.length) (bytes := 1) (h.own (.slice x.aw l.w.length x.cw)) rfl rfl (h.cellsO (v := .slice ao o.length o.length)) underlying26 rfl rfl rfl rfl rfl (by omega) (by omega) bytes_one) ?_
 rintro _ w ⟨a16, c16, hv16, h⟩
 have el : l.w.length + o.length = Wv.length := by rw [hW, List.length_append]
 have ev : bytesV l.w ++ bytesV o = bytesV Wv := by rw [hW]; simp [bytesV]
 rw [ev, el] at h
 rw [el] at hv16
 subst hv16
 refine ⟨trivial, ?_⟩
 refine WT.n 11 rfl rfl (WT.f 12 6 rfl underlying135 rfl sizeOf26 rfl rfl (WT.e 13 [] rfl (eff_store (v := .slice a16 Wv.length c16) h sizeOf26 rfl rfl rfl rfl rfl) ?_))
 rintro _ w h
 try simp only [Nat.zero_add, Nat.add_zero, List.set_cons_zero, List.set_cons_succ] at h
 refine ⟨trivial, ?_⟩
 refine WT.dn (W.seq ?_)
 refine W.draw Tryz.follows h (fun w h => ?_)
 refine WT.m 0 rfl (WT.m 1 rfl (WT.n 2 rfl rfl (WT.f 3 6 rfl underlying135 rfl sizeOf26 rfl rfl (WT.l 4 rfl isAgg26 rfl (h.cellB rfl) (WT.m 5 rfl (WT.n 6 rfl rfl (WT.f 7 2 rfl underlying135 rfl sizeOf59 rfl rfl ?_)))))))
 refine WT.l 8 rfl isAgg59 rfl (h.cellB rfl) (WT.m 9 rfl (WT.n 10 rfl rfl (WT.f 11 6 rfl underlying135 rfl sizeOf26 rfl rfl (WT.l 12 rfl isAgg26 rfl (h.cellB rfl) (WT.e 13 [false, false, true] rfl (eff_call call23 (csend_ok (bs := Wv) (c := l.a) (by omega) (h.fetch (ConnP 115 x.ba l.a)) (Gives.ownO (v := .slice a16 Wv.length c16)))) ?_)))))
 rintro _ w ⟨rfl, h⟩
 have hot := ownTail (l := (l.a.sendN Wv)) (h.own (.slice a16 Wv.length c16)) (sendN_le _ _)
 obtain ⟨hWc, aw2, cw2, hcut, h⟩ := hot
 refine ⟨⟨h.cellB rfl, trivial⟩, ?_⟩
 refine WT.p 14 rfl (fun w' => (run_cutLV (n := Wv.length) (l := (l.a.sendN Wv)) underlying26 sizeOf5 rfl rfl (sendN_le _ _) hcut)) (WT.n 15 rfl rfl (WT.f 16 6 rfl underlying135 rfl sizeOf26 rfl rfl (WT.e 17 [false] rfl (eff_store (v := .slice aw2 (Wv.drop (l.a.sendN Wv)).length cw2) h sizeOf26 rfl rfl rfl rfl rfl) ?_)))
 rintro _ w h
 try simp only [Nat.zero_add, Nat.add_zero, List.set_cons_zero, List.set_cons_succ] at h
 refine ⟨trivial, ?_⟩
 refine WT.dn (W.seq ?_)
 refine W.draw Tryz.follows h (fun w h => ?_)
 refine WT.m 0 rfl (WT.m 1 rfl (WT.n 2 rfl rfl (WT.f 3 7 rfl underlying135 rfl sizeOf26 rfl rfl (WT.l 4 rfl isAgg26 rfl (h.cellB rfl) (WT.m 5 rfl (WT.n 6 rfl rfl (WT.f 7 3 rfl underlying135 rfl sizeOf59 rfl rfl ?_)))))))
 refine WT.l 8 rfl isAgg59 rfl (h.cellB rfl) (WT.m 9 rfl (WT.n 10 rfl rfl (WT.f 11 7 rfl underlying135 rfl sizeOf26 rfl rfl (WT.l 12 rfl isAgg26 rfl (h.cellB rfl) (WT.e 13 [false, false, true] rfl (eff_call call23 (csend_ok (bs := l.v) (c := l.b) (by omega) (h.fetch (ConnP 115 x.bb l.b)) (Gives.ownO (v := .slice x.av l.v.length x.cv)))) ?_)))))
 rintro _ w ⟨rfl, h⟩
 have hot := ownTail (l := (l.b.sendN l.v)) (h.own (.slice x.av l.v.length x.cv)) (sendN_le _ _)
 obtain ⟨hVc, av2, cv2, hcut2, h⟩ := hot
 refine ⟨⟨h.cellB rfl, trivial⟩, ?_⟩
 refine WT.p 14 rfl (fun w' => (run_cutLV (n := l.v.length) (l := (l.b.sendN l.v)) underlying26 sizeOf5 rfl rfl (sendN_le _ _) hcut2)) (WT.n 15 rfl rfl (WT.f 16 7 rfl underlying135 rfl sizeOf26 rfl rfl (WT.e 17 [false] rfl (eff_store (v := .slice av2 (l.v.drop (l.b.sendN l.v)).length cv2) h sizeOf26 rfl rfl rfl rfl rfl) ?_)))
 rintro _ w h
 try simp only [Nat.zero_add, Nat.add_zero, List.set_cons_zero, List.set_cons_succ] at h
 refine ⟨trivial, ?_⟩
 refine WT.dn (W.sr (WL.m (WL.n rfl (WL.c 2 underlying135 rfl sizeOf59 rfl isAgg59 h rfl (WL.e (eff_call call24 (ctick_ok (h.fetch (ConnP 115 x.ba (l.a.send Wv))))) ?_)))))
 rintro _ w h
 refine WL.nil (W.sr (WL.m (WL.n rfl (WL.c 3 underlying135 rfl sizeOf59 rfl isAgg59 h rfl (WL.e (eff_call call24 (ctick_ok (h.fetch (ConnP 115 x.bb (l.b.send l.v))))) ?_)))))
 rintro _ w h
 refine WL.nil (W.sr (WL.m (WL.n rfl (WL.c 2 underlying135 rfl sizeOf59 rfl isAgg59 h rfl (WL.e (eff_call call25 (cout_ok (h.fetch (ConnP 115 x.ba ((l.a.send Wv).tick))))) ?_)))))
 rintro _ w ⟨rows, al, hrows, rfl, h⟩
 refine WL.z (W.sr (WL.m (WL.n rfl (WL.c 3 underlying135 rfl sizeOf59 rfl isAgg59 h rfl ?_))))
 refine WL.e (eff_call call25 (cout_ok (h.fetch (ConnP 115 x.bb ((l.b.send l.v).tick))))) ?_
 rintro _ w ⟨rows2, al2, hrows2, rfl, h⟩
 refine WL.z (W.seq (W.seq ?_))
 have hr1 := (Own.bounds (h.own (.slice al rows.length rows.length))).2
 have hr2 := (Own.bounds (h.own (.slice al2 rows2.length rows2.length))).2
 have hsm1 : ∀ {k : Nat} {y : BX}, rows[k]? = some y → y.b.length ≤ 2000 := fun {k y} hx => outL_small ((l.a.send Wv).tick) y.b (by rw [← hrows]; exact List.mem_map_of_mem (List.mem_of_getElem? hx))
 have hsm2 : ∀ {k : Nat} {y : BX}, rows2[k]? = some y → y.b.length ≤ 2000 := fun {k y} hx => outL_small ((l.b.send l.v).tick) y.b (by rw [← hrows2]; exact List.mem_map_of_mem (List.mem_of_getElem? hx))
 rw [← hrows] at hsi
 rw [← hrows2] at hci
 rw [← hrows, ← hrows2] at hl'
 refine W.region (WL.z (W.block ?_))
 refine W.loop (fun (k : Nat) env w => k ≤ rows.length ∧ ∃ (j : Env) (z : Int), env = mkE j [(0, .pointer (some ⟨bl, 0, none⟩)), (2, .slice al rows.length rows.length), (3, .slice al2 rows2.length rows2.length), (4, .int .i64 (k : Int))] ∧ On W0 (blk bl [.pointer (some ⟨x.bc, 0, none⟩), .pointer (some ⟨x.bs, 0, none⟩), .pointer (some ⟨x.ba, 0, none⟩), .pointer (some ⟨x.bb, 0, none⟩), .int .i64 0, .int .i64 z, .slice aw2 ((Wv.drop (l.a.sendN Wv)).length) cw2, .slice av2 ((l.v.drop (l.b.sendN l.v)).length) cv2] 135 :: ClP 179 117 x.bc c1 :: SeP 183 117 0 x.bs aclL (.func (.func 69) #[.pointer (some ⟨x.bd, 0, none⟩)] #[]) l.s :: ConnP 115 x.ba ((l.a.send Wv).tick).outC :: ConnP 115 x.bb (((rows.map BX.b).take k).foldl Cn.inP ((l.b.send l.v).tick).outC) :: OwnB (.slice aw2 ((Wv.drop (l.a.sendN Wv))).length cw2) ((Wv.drop (l.a.sendN Wv))) :: OwnB (.slice av2 ((l.v.drop (l.b.sendN l.v))).length cv2) ((l.v.drop (l.b.sendN l.v))) :: DeskP 123 108 151 154 x.bd l.u :: Own 1 (.slice al rows.length rows.length) rows.length (rows.map BX.v) :: Big OwnBX rows :: Own 1 (.slice al2 rows2.length rows2.length) rows2.length (rows2.map BX.v) :: Big OwnBX rows2 :: L) w) (fun k => rows.length - k) (0) ?_ ?_
 · have h := h.fetch (ConnP 115 x.bb ((l.b.send l.v).tick).outC)
   have h : On W0 (ConnP 115 x.bb (((rows.map BX.b).take 0).foldl Cn.inP ((l.b.send l.v).tick).outC) :: _) w := h
   exact ⟨Nat.zero_le _, _, x.n, mkE_of ⟨rfl, rfl, rfl, rfl, trivial⟩, h.to⟩
 clear h
 rintro k env w ⟨hk, j, z, rfl, h⟩
 refine W.seq (W.sr (WL.m (WL.m (WL.v (run_lenSlice underlying64 rfl) (WL.v (run_lss rfl rfl) (WL.nil ?_))))))
 refine W.condIf rfl (fun c11 => ?_) (fun c11 => ?_)
 ·
  refine W.skip (W.seq (W.block (W.sr (WL.m (WL.e (eff_call call104 (llost_ok (h.fetch (blk bl [.pointer (some ⟨x.bc, 0, none⟩), .pointer (some ⟨x.bs, 0, none⟩), .pointer (some ⟨x.ba, 0, none⟩), .pointer (some ⟨x.bb, 0, none⟩), .int .i64 0, .int .i64 z, .slice aw2 ((Wv.drop (l.a.sendN Wv)).length) cw2, .slice av2 ((l.v.drop (l.b.sendN l.v)).length) cv2] 135)))) ?_)))))
  rintro _ w ⟨z2, rfl, h⟩
  refine WL.v (run_not rfl) (WL.nil (W.ct ?_))
  have ob_ : ∃ y, rows[k]? = some y := ⟨rows[k]'(by omega), List.getElem?_eq_getElem _⟩
  obtain ⟨y, hx⟩ := ob_
  have hys : y.b.length ≤ 2000 := hsm1 hx
  have had_ := (h.cellsO (v := .slice al rows.length rows.length)).addr (by omega)
  obtain ⟨bal, oal, hal⟩ := had_
  refine W.draw Tryz.follows h (fun w h => ?_)
  refine WT.m 0 rfl (WT.n 1 rfl rfl (WT.f 2 3 rfl underlying135 rfl sizeOf59 rfl rfl (WT.l 3 rfl isAgg59 rfl (h.cellB rfl) (WT.m 4 rfl (WT.m 5 rfl (WT.p 6 rfl (fun w' => (run_indexAddr underlying64 sizeOf26 (congrArg (fun q => Value.slice q rows.length rows.length) hal) rfl (by omega) (by omega))) (WT.l 7 rfl isAgg26 rfl ((by rw [hal] at h; exact (h.cellsO (v := .slice (some ⟨bal, oal, none⟩) rows.length rows.length)).elem (i := k) (vs := [.slice y.1 y.2.2.length y.2.1]) (by omega) (row_v hx) 0 _ rfl)) ?_)))))))
  refine WT.e 8 [false, false] rfl (eff_call call26 (cin_ok (bs := y.b) (by omega) (h.fetch (ConnP 115 x.bb (((rows.map BX.b).take k).foldl Cn.inP ((l.b.send l.v).tick).outC))) (Gives.to (givesBig hx)))) ?_
  rintro _ w h
  refine ⟨trivial, ?_⟩
  refine WT.dn (W.region (WL.m (WL.v (run_incN rfl rfl (by omega)) (WL.z ?_))))
  rw [← fold_snoc hx] at h
  exact ⟨k + 1, ⟨by omega, _, z2, mkE_of ⟨rfl, rfl, rfl, rfl, trivial⟩, h.to⟩, by show rows.length - (k + 1) < rows.length - k; omega⟩
 refine W.exit (W.seq (W.sr (WL.z (W.block ?_))))
 refine W.loop (fun (k : Nat) env w => k ≤ rows2.length ∧ ∃ (j : Env) (z : Int), env = mkE j [(0, .pointer (some ⟨bl, 0, none⟩)), (2, .slice al rows.length rows.length), (3, .slice al2 rows2.length rows2.length), (5, .int .i64 (k : Int))] ∧ On W0 (blk bl [.pointer (some ⟨x.bc, 0, none⟩), .pointer (some ⟨x.bs, 0, none⟩), .pointer (some ⟨x.ba, 0, none⟩), .pointer (some ⟨x.bb, 0, none⟩), .int .i64 0, .int .i64 z, .slice aw2 ((Wv.drop (l.a.sendN Wv)).length) cw2, .slice av2 ((l.v.drop (l.b.sendN l.v)).length) cv2] 135 :: ClP 179 117 x.bc c1 :: SeP 183 117 0 x.bs aclL (.func (.func 69) #[.pointer (some ⟨x.bd, 0, none⟩)] #[]) l.s :: ConnP 115 x.ba (((rows2.map BX.b).take k).foldl Cn.inP ((l.a.send Wv).tick).outC) :: ConnP 115 x.bb (((rows.map BX.b).take rows.length).foldl Cn.inP ((l.b.send l.v).tick).outC) :: OwnB (.slice aw2 ((Wv.drop (l.a.sendN Wv))).length cw2) ((Wv.drop (l.a.sendN Wv))) :: OwnB (.slice av2 ((l.v.drop (l.b.sendN l.v))).length cv2) ((l.v.drop (l.b.sendN l.v))) :: DeskP 123 108 151 154 x.bd l.u :: Own 1 (.slice al rows.length rows.length) rows.length (rows.map BX.v) :: Big OwnBX rows :: Own 1 (.slice al2 rows2.length rows2.length) rows2.length (rows2.map BX.v) :: Big OwnBX rows2 :: L) w) (fun k => rows2.length - k) (0) ?_ ?_
 · have ek : k = rows.length := by omega
   subst ek
   have h := h.fetch (ConnP 115 x.ba ((l.a.send Wv).tick).outC)
   have h : On W0 (ConnP 115 x.ba (((rows2.map BX.b).take 0).foldl Cn.inP ((l.a.send Wv).tick).outC) :: _) w := h
   exact ⟨Nat.zero_le _, _, z, mkE_of ⟨rfl, rfl, rfl, rfl, trivial⟩, h.to⟩
 clear h
 rintro k env w ⟨hk, j, z, rfl, h⟩
 refine W.seq (W.sr (WL.m (WL.m (WL.v (run_lenSlice underlying64 rfl) (WL.v (run_lss rfl rfl) (WL.nil ?_))))))
 refine W.condIf rfl (fun c24 => ?_) (fun c24 => ?_)
 ·
  refine W.skip (W.seq (W.block (W.sr (WL.m (WL.e (eff_call call104 (llost_ok (h.fetch (blk bl [.pointer (some ⟨x.bc, 0, none⟩), .pointer (some ⟨x.bs, 0, none⟩), .pointer (some ⟨x.ba, 0, none⟩), .pointer (some ⟨x.bb, 0, none⟩), .int .i64 0, .int .i64 z, .slice aw2 ((Wv.drop (l.a.sendN Wv)).length) cw2, .slice av2 ((l.v.drop (l.b.sendN l.v)).length) cv2] 135)))) ?_)))))
  rintro _ w ⟨z2, rfl, h⟩
  refine WL.v (run_not rfl) (WL.nil (W.ct ?_))
  have ob_ : ∃ y, rows2[k]? = some y := ⟨rows2[k]'(by omega), List.getElem?_eq_getElem _⟩
  obtain ⟨y, hx⟩ := ob_
  have hys : y.b.length ≤ 2000 := hsm2 hx
  have had_ := (h.cellsO (v := .slice al2 rows2.length rows2.length)).addr (by omega)
  obtain ⟨bal, oal, hal⟩ := had_
  refine W.draw Tryz.follows h (fun w h => ?_)
  refine WT.m 0 rfl (WT.n 1 rfl rfl (WT.f 2 2 rfl underlying135 rfl sizeOf59 rfl rfl (WT.l 3 rfl isAgg59 rfl (h.cellB rfl) (WT.m 4 rfl (WT.m 5 rfl (WT.p 6 rfl (fun w' => (run_indexAddr underlying64 sizeOf26 (congrArg (fun q => Value.slice q rows2.length rows2.length) hal) rfl (by omega) (by omega))) (WT.l 7 rfl isAgg26 rfl ((by rw [hal] at h; exact (h.cellsO (v := .slice (some ⟨bal, oal, none⟩) rows2.length rows2.length)).elem (i := k) (vs := [.slice y.1 y.2.2.length y.2.1]) (by omega) (row_v hx) 0 _ rfl)) ?_)))))))
  refine WT.e 8 [false, false] rfl (eff_call call26 (cin_ok (bs := y.b) (by omega) (h.fetch (ConnP 115 x.ba (((rows2.map BX.b).take k).foldl Cn.inP ((l.a.send Wv).tick).outC))) (Gives.to (givesBig hx)))) ?_
  rintro _ w h
  refine ⟨trivial, ?_⟩
  refine WT.dn (W.region (WL.m (WL.v (run_incN rfl rfl (by omega)) (WL.z ?_))))
  rw [← fold_snoc hx] at h
  exact ⟨k + 1, ⟨by omega, _, z2, mkE_of ⟨rfl, rfl, rfl, rfl, trivial⟩, h.to⟩, by show rows2.length - (k + 1) < rows2.length - k; omega⟩
 refine W.exit (W.seq ?_)
 have ek : k = rows2.length := by omega
 subst ek
 rw [fold_all, fold_all] at h
 have ob_ : ∃ AF, AF = (rows2.map BX.b).foldl Cn.inP ((l.a.send Wv).tick).outC := ⟨_, rfl⟩
 obtain ⟨AF, hAF⟩ := ob_
 have ob_ : ∃ BF, BF = (rows.map BX.b).foldl Cn.inP ((l.b.send l.v).tick).outC := ⟨_, rfl⟩
 obtain ⟨BF, hBF⟩ := ob_
 rw [← hAF, ← hBF] at h
 rw [← hBF] at hsi
 rw [← hAF] at hci
 rw [← hAF, ← hBF] at hl'
 refine W.draw Tryz.follows h (fun w h => ?_)
 refine WT.m 0 rfl (WT.m 1 rfl (WT.n 2 rfl rfl (WT.f 3 7 rfl underlying135 rfl sizeOf26 rfl rfl (WT.l 4 rfl isAgg26 rfl (h.cellB rfl) (WT.m 5 rfl (WT.n 6 rfl rfl (WT.f 7 1 rfl underlying135 rfl sizeOf129 rfl rfl ?_)))))))
 refine WT.l 8 rfl isAgg129 rfl (h.cellB rfl) (WT.m 9 rfl (WT.n 10 rfl rfl (WT.f 11 3 rfl underlying135 rfl sizeOf59 rfl rfl (WT.l 12 rfl isAgg59 rfl (h.cellB rfl) (WT.e 13 [false, true, true] rfl (eff_call call28 (crecv_ok (c := BF) (h.fetch (ConnP 115 x.bb BF)))) ?_)))))
 rintro _ w ⟨a122, rfl, h⟩
 refine ⟨⟨h.cellB rfl, h.cellB rfl, trivial⟩, ?_⟩
 refine WT.e 14 [false, true] rfl (eff_call call105 (sein_ok (K := 0) (bd := x.bd) (bs_ := BF.inb) (Gives.to G) (by decide) (by decide) hsi ((h.fetch (DeskP 123 108 151 154 x.bd l.u)).fetch (SeP 183 117 0 x.bs aclL (.func (.func 69) #[.pointer (some ⟨x.bd, 0, none⟩)] #[]) l.s)) (Gives.ownO (v := .slice a122 BF.inb.length BF.inb.length)))) ?_
 rintro _ w ⟨a123, rfl, h⟩
 refine ⟨⟨h.cellB rfl, trivial⟩, ?_⟩
 refine WT.e 15 [false] rfl (eff_app (c2 := o2.length) (bytes := 1) (h.own (.slice av2 (l.v.drop (l.b.sendN l.v)).length cv2)) rfl rfl (h.cellsO (v := .slice a123 o2.length o2.length)) underlying26 rfl rfl rfl rfl rfl (by omega) (by omega) bytes_one) ?_
 rintro _ w ⟨a124, c124, hv124, h⟩
 have el : (l.v.drop (l.b.sendN l.v)).length + o2.length = ((l.v.drop (l.b.sendN l.v)) ++ o2).length := List.length_append.symm
 have ev : bytesV (l.v.drop (l.b.sendN l.v)) ++ bytesV o2 = bytesV ((l.v.drop (l.b.sendN l.v)) ++ o2) := by simp [bytesV]
 rw [ev, el] at h
 rw [el] at hv124
 subst hv124
 refine ⟨trivial, ?_⟩
 refine WT.n 16 rfl rfl (WT.f 17 7 rfl underlying135 rfl sizeOf26 rfl rfl (WT.e 18 [] rfl (eff_store (v := .slice a124 ((l.v.drop (l.b.sendN l.v)) ++ o2).length c124) h sizeOf26 rfl rfl rfl rfl rfl) ?_))
 rintro _ w h
 try simp only [Nat.zero_add, Nat.add_zero, List.set_cons_zero, List.set_cons_succ] at h
 refine ⟨trivial, ?_⟩
 refine WT.dn ?_
 refine W.draw Tryz.follows h (fun w h => ?_)
 refine WT.m 0 rfl (WT.n 1 rfl rfl (WT.f 2 0 rfl underlying135 rfl sizeOf124 rfl rfl (WT.l 3 rfl isAgg124 rfl (h.cellB rfl) (WT.m 4 rfl (WT.n 5 rfl rfl (WT.f 6 2 rfl underlying135 rfl sizeOf59 rfl rfl (WT.l 7 rfl isAgg59 rfl (h.cellB rfl) ?_)))))))
 refine WT.e 8 [false, true] rfl (eff_call call28 (crecv_ok (c := AF) (h.fetch (ConnP 115 x.ba AF)))) ?_
 rintro _ w ⟨a135, rfl, h⟩
 refine ⟨⟨h.cellB rfl, trivial⟩, ?_⟩
 refine WT.e 9 [false] rfl (eff_call call106 (clin_ok (bs := AF.inb) (Gives.to G) hci (h.fetch (ClP 179 117 x.bc c1)) (Gives.ownO (v := .slice a135 AF.inb.length AF.inb.length)))) ?_
 rintro _ w h
 refine ⟨trivial, ?_⟩
 refine WT.dn (bodyQ.fall (bodyQ.r0 results71 ?_))
 subst hl'
 have hWl2 : (Wv.drop (l.a.sendN Wv)).length ≤ 100000 := by rw [List.length_drop]; omega
 have h := h.to (T := blk bl [.pointer (some ⟨x.bc, 0, none⟩), .pointer (some ⟨x.bs, 0, none⟩), .pointer (some ⟨x.ba, 0, none⟩), .pointer (some ⟨x.bb, 0, none⟩), .int .i64 0, .int .i64 z, .slice aw2 ((Wv.drop (l.a.sendN Wv)).length) cw2, .slice a124 (((l.v.drop (l.b.sendN l.v)) ++ o2).length) c124] 135 :: ClP 179 117 x.bc c2 :: SeP 183 117 0 x.bs aclL (.func (.func 69) #[.pointer (some ⟨x.bd, 0, none⟩)] #[]) s2 :: ConnP 115 x.ba AF.recv :: ConnP 115 x.bb BF.recv :: OwnB (.slice aw2 ((Wv.drop (l.a.sendN Wv))).length cw2) ((Wv.drop (l.a.sendN Wv))) :: OwnB (.slice a124 ((l.v.drop (l.b.sendN l.v)) ++ o2).length c124) ((l.v.drop (l.b.sendN l.v)) ++ o2) :: DeskP 123 108 151 154 x.bd u2 :: L)
 exact closeLn (l := ⟨c2, s2, AF.recv, BF.recv, (Wv.drop (l.a.sendN Wv)), (l.v.drop (l.b.sendN l.v)) ++ o2, u2⟩) { x with n := z, aw := aw2, cw := cw2, av := a124, cv := c124 } hWl2 hVl h
end Go.Proofs.YtjfmjbmkkpkppaaGreatDoor
namespace Go.Sl.TpM
open Go Go.Sl Go.Sl.ByM Go.Sl.UnM
theorem runK_is : runK = some ([], one7) := by kernel_rfl
end Go.Sl.TpM
namespace Go.Proofs.YtjfmjbmkkpkppaaGreatDoor
open Go.Proofs.Tryz
open Go Go.Sl Go.Sl.BitM Go.Sl.SpM Go.Sl.RsM Go.Sl.ByM Go.Sl.UnM Go.Sl.TpM
set_option maxHeartbeats 1000000
set_option maxRecDepth 8000
variable {W0 w : World} {L F : List HProp}
theorem cldone_ok {bc : Nat} {c : Cl} (h : On W0 (ClP 179 117 bc c :: L) w) : Calls Tryz.prog 72 #[.pointer (some ⟨bc, 0, none⟩)] w (Ret fun v w' => (∃ a, c.done = none ∧ v = .slice a 0 0 ∧ On W0 (ClP 179 117 bc ({ c with done := none } : Cl) :: L) w') ∨ (∃ a d, c.done = some d ∧ v = .slice a 1 1 ∧ On W0 (ClP 179 117 bc ({ c with done := none } : Cl) :: DnP a 1 (some d) :: L) w')) := by
 cases hd : c.done with
 | none =>
   exact (cldone0_ok hd h).mono fun e w' he => by
     obtain ⟨v, he, a, hv, h⟩ := he
     exact ⟨v, he, .inl ⟨a, rfl, hv, h.d1⟩⟩
 | some d =>
   exact (cldone1_ok hd h).mono fun e w' he => by
     obtain ⟨v, he, a, hv, h⟩ := he
     exact ⟨v, he, .inr ⟨a, d, rfl, hv, h⟩⟩
theorem askK_some {f t : Nat} {l l' : Ln} {out : List UInt8} (h : Ln.askK f l t = some (out, l')) : ∃ f1 l1, f = f1 + 1 ∧ l.round = some l1 ∧ ((∃ d, l1.c.done = some d ∧ d.1 = t ∧ out = d.2 ∧ l' = { l1 with c := { l1.c with done := none } }) ∨ (l1.c.done = none ∧ Ln.askK f1 l1 t = some (out, l'))) := by
 match f, h with
 | f + 1, h =>
   unfold Ln.askK at h
   cases hr : l.round with
   | none => rw [hr] at h; cases h
   | some l1 =>
     rw [hr] at h
     simp only [Option.bind_some] at h
     refine ⟨f, l1, rfl, rfl, ?_⟩
     cases hd : l1.c.done with
     | none => rw [hd] at h; exact .inr ⟨rfl, h⟩
     | some d =>
       rw [hd] at h
       simp only [] at h
       split at h
       · rename_i h1; cases h; exact .inl ⟨d, rfl, h1, rfl, rfl⟩
       cases h
theorem ask_some {l l' : Ln} {x : Cm} {out : List UInt8} (h : l.ask x = some (out, l')) : ∃ c, l.c.do_ x = some c ∧ Ln.askK 200 { l with c := c } c.tag = some (out, l') := by
 unfold Ln.ask at h
 cases hd : l.c.do_ x with
 | none => rw [hd] at h; cases h
 | some c => rw [hd] at h; exact ⟨c, rfl, h⟩
theorem none_done (c : Cl) (h : c.done = none) : ({ c with done := none } : Cl) = c := by rw [← h]
theorem lask2_ok {m : Int} (G : Gives L (GlP m)) {bl : Nat} {l l' : Ln} {out : List UInt8} {kind : Int} {at_ n : Nat} {key new : Int} {typ : Nat} {data : List UInt8} {ax : Option Addr} {cx : Nat} (hat : at_ ≤ 4611686018427387904) (hn : n ≤ 4294967295) (htyp : typ ≤ 15) (hm : l.ask (⟨kind, (at_ : Int), (n : Int), data, key, new, (typ : Int), false⟩ : Cm) = some (out, l')) (h : On W0 (LnP ⟨135, 179, 117, 183, 115, 123, 108, 151, 154⟩ 69 bl l :: L) w) (C : Gives L (Bytes (.slice ax data.length cx) data)) : Calls Tryz.prog 34 #[.pointer (some ⟨bl, 0, none⟩), .agg #[.int .i64 kind, .int .i64 (at_ : Int), .int .i64 (n : Int), .slice ax data.length cx, .int .u64 key, .int .u64 new, .int .i64 (typ : Int), .bool false], .int .i64 200] w (Ret fun v w' => ∃ a c, v = .tuple #[.agg #[.int .i64 0, .int .i64 0, .int .i64 0, .slice a out.length c, .int .i64 0], .bool true] ∧ On W0 (LnP ⟨135, 179, 117, 183, 115, 123, 108, 151, 154⟩ 69 bl l' :: OwnB (.slice a out.length c) out :: L) w') := by
 refine enter func34 rfl ntmps34 rfl ?_
 have hmx := maxLen_eq
 have has_ := ask_some hm
 obtain ⟨cc, hdo, hak⟩ := has_
 clear hm
 have ho_ := openLn h
 obtain ⟨x, hwl, hvl, h⟩ := ho_
 have h : On W0 (blk bl [.pointer (some ⟨x.bc, 0, none⟩), .pointer (some ⟨x.bs, 0, none⟩), .pointer (some ⟨x.ba, 0, none⟩), .pointer (some ⟨x.bb, 0, none⟩), .int .i64 0, .int .i64 x.n, .slice x.aw (l.w.length) x.cw, .slice x.av (l.v.length) x.cv] 135 :: ClP 179 117 x.bc l.c :: SeP 183 117 0 x.bs aclL (.func (.func 69) #[.pointer (some ⟨x.bd, 0, none⟩)] #[]) l.s :: ConnP 115 x.ba l.a :: ConnP 115 x.bb l.b :: _) w := h
 refine W.sr (WL.e (eff_box (v := .agg #[.int .i64 kind, .int .i64 (at_ : Int), .int .i64 (n : Int), .slice ax data.length cx, .int .u64 key, .int .u64 new, .int .i64 (typ : Int), .bool false]) (l := [.int .i64 kind, .int .i64 (at_ : Int), .int .i64 (n : Int), .slice ax data.length cx, .int .u64 key, .int .u64 new, .int .i64 (typ : Int), .bool false]) h rfl rfl) ?_)
 rintro _ w ⟨b4, rfl, h⟩
 refine WL.e (eff_alloc h zeroValue44 rfl) ?_
 rintro _ w ⟨b6, rfl, h⟩
 refine WL.z (W.seq ?_)
 refine W.draw Tryz.follows h (fun w h => ?_)
 refine WT.m 0 rfl (WT.n 1 rfl rfl (WT.f 2 0 rfl underlying135 rfl sizeOf124 rfl rfl (WT.l 3 rfl isAgg124 rfl (h.cellB rfl) (WT.loadN (vs := qv3) 4 rfl (by kernel_rfl) isAgg29 sizeOf29 rfl rfl (h.rowV (n := 8) rfl) rfl rfl (WT.e 5 [false, false] rfl (eff_call call70 (cdo_ok hat hn htyp hdo (h.fetch (ClP 179 117 x.bc l.c)) (Gives.to C))) ?_)))))
 rintro _ w ⟨rfl, h⟩
 refine ⟨trivial, ?_⟩
 refine WT.m 6 rfl (WT.p 7 rfl (fun w' => (run_extract rfl rfl)) (WT.p 8 rfl (fun w' => (run_extract rfl rfl)) (WT.a 9 rfl (WT.a 10 rfl (WT.dn (W.seq (W.seq ?_)))))))
 refine W.region (WL.m (WL.v (run_neqF rfl rfl (by decide)) (WL.nil (W.cs (W.seq (W.seq ?_))))))
 refine W.region (WL.z (W.block ?_))
 refine W.loop (fun (f : Nat) env w => f ≤ 200 ∧ ∃ (j : Env) (ll : Ln), Ln.askK f ll cc.tag = some (out, l') ∧ env = mkE j [(0, .pointer (some ⟨bl, 0, none⟩)), (2, .int .i64 200), (6, .pointer (some ⟨b6, 0, none⟩)), (7, .bool false), (8, .int .u32 (cc.tag : Int)), (10, .int .i64 (200 - (f : Int)))] ∧ On W0 (LnP ⟨135, 179, 117, 183, 115, 123, 108, 151, 154⟩ 69 bl ll :: blk b6 [.int .i64 0, .int .i64 0, .int .i64 0, .slice none 0 0, .int .i64 0] 44 :: L) w) (fun f => f) (200) ?_ ?_
 · have h := h.p1
   have h : On W0 (blk b6 [.int .i64 0, .int .i64 0, .int .i64 0, .slice none 0 0, .int .i64 0] 44 :: _) w := h
   have h := closeLn (l := ({ l with c := cc } : Ln)) (t := ⟨135, 179, 117, 183, 115, 123, 108, 151, 154⟩) (fd := 69) (bl := bl) x hwl hvl (h.to (T := blk bl [.pointer (some ⟨x.bc, 0, none⟩), .pointer (some ⟨x.bs, 0, none⟩), .pointer (some ⟨x.ba, 0, none⟩), .pointer (some ⟨x.bb, 0, none⟩), .int .i64 0, .int .i64 x.n, .slice x.aw (l.w.length) x.cw, .slice x.av (l.v.length) x.cv] 135 :: ClP 179 117 x.bc cc :: SeP 183 117 0 x.bs aclL (.func (.func 69) #[.pointer (some ⟨x.bd, 0, none⟩)] #[]) l.s :: ConnP 115 x.ba l.a :: ConnP 115 x.bb l.b :: OwnB (.slice x.aw (l.w).length x.cw) (l.w) :: OwnB (.slice x.av (l.v).length x.cv) (l.v) :: DeskP 123 108 151 154 x.bd l.u :: blk b6 [.int .i64 0, .int .i64 0, .int .i64 0, .slice none 0 0, .int .i64 0] 44 :: L))
   exact ⟨Nat.le_refl _, _, _, hak, mkE_of ⟨rfl, rfl, rfl, rfl, rfl, rfl, trivial⟩, h⟩
 clear h hak
 rintro f env w ⟨hf, j, ll, hak, rfl, h⟩
 have hks := askK_some hak
 obtain ⟨f1, l1, hf1, hrd, hks⟩ := hks
 subst hf1
 have h : On W0 (LnP ⟨135, 179, 117, 183, 115, 123, 108, 151, 154⟩ 69 bl ll :: blk b6 [.int .i64 0, .int .i64 0, .int .i64 0, .slice none 0 0, .int .i64 0] 44 :: L) w := h
 refine W.seq (W.sr (WL.m (WL.m (WL.v (run_lssT rfl rfl (by omega)) (WL.nil (W.ct ?_))))))
 refine W.skip (W.seq (W.block (W.sr (WL.m (WL.e (eff_call call71 (lround_ok (Gives.to G) hrd h)) ?_)))))
 rintro _ w h
 have ho_ := openLn h
 obtain ⟨x, hwl, hvl, h⟩ := ho_
 have h : On W0 (blk bl [.pointer (some ⟨x.bc, 0, none⟩), .pointer (some ⟨x.bs, 0, none⟩), .pointer (some ⟨x.ba, 0, none⟩), .pointer (some ⟨x.bb, 0, none⟩), .int .i64 0, .int .i64 x.n, .slice x.aw (l1.w.length) x.cw, .slice x.av (l1.v.length) x.cv] 135 :: ClP 179 117 x.bc l1.c :: SeP 183 117 0 x.bs aclL (.func (.func 69) #[.pointer (some ⟨x.bd, 0, none⟩)] #[]) l1.s :: ConnP 115 x.ba l1.a :: ConnP 115 x.bb l1.b :: _) w := h
 refine WL.nil (W.sr (WL.m (WL.n rfl (WL.c 0 underlying135 rfl sizeOf124 rfl isAgg124 h rfl (WL.e (eff_call call72 (cldone_ok (h.fetch (ClP 179 117 x.bc l1.c)))) ?_)))))
 rintro _ w hv
 rcases hv with ⟨a36, hd, rfl, h⟩ | ⟨a36, d, hd, rfl, h⟩
 ·
  refine WL.z (W.sr (WL.z (W.block ?_)))
  refine W.loop (fun (k : Nat) env w => ∃ (j : Env), env = mkE j [(0, .pointer (some ⟨bl, 0, none⟩)), (2, .int .i64 200), (6, .pointer (some ⟨b6, 0, none⟩)), (7, .bool false), (8, .int .u32 (cc.tag : Int)), (10, .int .i64 (200 - (f1 + 1 : Int))), (11, .slice a36 0 0), (12, .int .i64 0)] ∧ On W0 (LnP ⟨135, 179, 117, 183, 115, 123, 108, 151, 154⟩ 69 bl l1 :: blk b6 [.int .i64 0, .int .i64 0, .int .i64 0, .slice none 0 0, .int .i64 0] 44 :: L) w) (fun k => k) (0) ?_ ?_
  · have h := closeLn (l := ({ l1 with c := ({ l1.c with done := none } : Cl) } : Ln)) (t := ⟨135, 179, 117, 183, 115, 123, 108, 151, 154⟩) (fd := 69) (bl := bl) x hwl hvl (h.to (T := blk bl [.pointer (some ⟨x.bc, 0, none⟩), .pointer (some ⟨x.bs, 0, none⟩), .pointer (some ⟨x.ba, 0, none⟩), .pointer (some ⟨x.bb, 0, none⟩), .int .i64 0, .int .i64 x.n, .slice x.aw (l1.w.length) x.cw, .slice x.av (l1.v.length) x.cv] 135 :: ClP 179 117 x.bc ({ l1.c with done := none } : Cl) :: SeP 183 117 0 x.bs aclL (.func (.func 69) #[.pointer (some ⟨x.bd, 0, none⟩)] #[]) l1.s :: ConnP 115 x.ba l1.a :: ConnP 115 x.bb l1.b :: OwnB (.slice x.aw (l1.w).length x.cw) (l1.w) :: OwnB (.slice x.av (l1.v).length x.cv) (l1.v) :: DeskP 123 108 151 154 x.bd l1.u :: blk b6 [.int .i64 0, .int .i64 0, .int .i64 0, .slice none 0 0, .int .i64 0] 44 :: L))
    rw [none_done _ hd] at h
    exact ⟨_, mkE_of ⟨rfl, rfl, rfl, rfl, rfl, rfl, rfl, rfl, trivial⟩, h⟩
  clear h
  rintro k env w ⟨j, rfl, h⟩
  refine W.seq (W.sr (WL.m (WL.m (WL.v (run_lenSlice underlying138 rfl) (WL.v (run_lssF rfl rfl (by decide)) (WL.nil ?_))))))
  refine W.cf (W.exit (W.region (WL.m (WL.v (run_add rfl rfl (by omega) (by omega)) (WL.z ?_)))))
  have hak2 : Ln.askK f1 l1 cc.tag = some (out, l') := by
    rcases hks with ⟨d, q, _⟩ | ⟨_, q⟩
    · rw [hd] at q; cases q
    exact q
  exact ⟨f1, ⟨by omega, _, l1, hak2, mkE_of ⟨rfl, rfl, rfl, rfl, rfl, congrArg (Value.int .i64) (show (200 : Int) - ((f1 + 1 : Nat) : Int) + 1 = 200 - (f1 : Int) by omega), trivial⟩, h⟩, Nat.lt_succ_self f1⟩
 refine WL.z (W.sr (WL.z (W.block ?_)))
 refine W.loop (fun (k : Nat) env w => ∃ (j : Env), env = mkE j [(0, .pointer (some ⟨bl, 0, none⟩)), (2, .int .i64 200), (6, .pointer (some ⟨b6, 0, none⟩)), (7, .bool false), (8, .int .u32 (cc.tag : Int)), (10, .int .i64 (200 - (f1 + 1 : Int))), (11, .slice a36 1 1), (12, .int .i64 0)] ∧ On W0 (LnP ⟨135, 179, 117, 183, 115, 123, 108, 151, 154⟩ 69 bl ({ l1 with c := { l1.c with done := none } } : Ln) :: DnP a36 1 (some d) :: blk b6 [.int .i64 0, .int .i64 0, .int .i64 0, .slice none 0 0, .int .i64 0] 44 :: L) w) (fun k => k) (0) ?_ ?_
 · have h := closeLn (l := ({ l1 with c := ({ l1.c with done := none } : Cl) } : Ln)) (t := ⟨135, 179, 117, 183, 115, 123, 108, 151, 154⟩) (fd := 69) (bl := bl) x hwl hvl (h.to (T := blk bl [.pointer (some ⟨x.bc, 0, none⟩), .pointer (some ⟨x.bs, 0, none⟩), .pointer (some ⟨x.ba, 0, none⟩), .pointer (some ⟨x.bb, 0, none⟩), .int .i64 0, .int .i64 x.n, .slice x.aw (l1.w.length) x.cw, .slice x.av (l1.v.length) x.cv] 135 :: ClP 179 117 x.bc ({ l1.c with done := none } : Cl) :: SeP 183 117 0 x.bs aclL (.func (.func 69) #[.pointer (some ⟨x.bd, 0, none⟩)] #[]) l1.s :: ConnP 115 x.ba l1.a :: ConnP 115 x.bb l1.b :: OwnB (.slice x.aw (l1.w).length x.cw) (l1.w) :: OwnB (.slice x.av (l1.v).length x.cv) (l1.v) :: DeskP 123 108 151 154 x.bd l1.u :: DnP a36 1 (some d) :: blk b6 [.int .i64 0, .int .i64 0, .int .i64 0, .slice none 0 0, .int .i64 0] 44 :: L))
   exact ⟨_, mkE_of ⟨rfl, rfl, rfl, rfl, rfl, rfl, rfl, rfl, trivial⟩, h⟩
 clear h
 rintro k env w ⟨j, rfl, h⟩
 refine W.seq (W.sr (WL.m (WL.m (WL.v (run_lenSlice underlying138 rfl) (WL.v (run_lssT rfl rfl (by decide)) (WL.nil ?_))))))
 refine W.ct (W.skip (W.seq (W.block (W.seq ?_))))
 have hks2 : d.1 = cc.tag ∧ out = d.2 ∧ l' = ({ l1 with c := { l1.c with done := none } } : Ln) := by
   rcases hks with ⟨d2, q1, q2, q3, q4⟩ | ⟨q, _⟩
   · rw [hd] at q1; cases q1; exact ⟨q2, q3, q4⟩
   rw [hd] at q; cases q
 obtain ⟨htg, hou, hl'⟩ := hks2
 have h := h.fetch (DnP a36 1 (some d))
 have hod_ := openDn h
 obtain ⟨y, h⟩ := hod_
 have had_ := (h.cellsO (v := .slice a36 1 1)).addr (by decide)
 obtain ⟨ba, oa, had⟩ := had_
 rw [had] at h
 refine W.region (WL.m (WL.m (WL.v (run_indexAddr underlying138 sizeOf141 (congrArg (fun q => Value.slice q 1 1) had) rfl (by decide) (by decide)) (WL.f 0 underlying141 rfl sizeOf24 rfl rfl (WL.l isAgg24 rfl ((h.cellsO (v := .slice (some ⟨ba, oa, none⟩) 1 1)).elem (i := 0) (vs := dnCells d y) (by decide) rfl 0 _ rfl) (WL.m (WL.v (run_eqlT rfl rfl (by omega)) ?_)))))))
 refine WL.nil (W.ct (W.sr (WL.m (WL.m (WL.v (run_indexAddr underlying138 sizeOf141 (congrArg (fun q => Value.slice q 1 1) had) rfl (by decide) (by decide)) (WL.f 1 underlying141 rfl sizeOf44 rfl rfl ?_))))))
 refine WL.v (run_loadN (vs := [.int .i64 0, .int .i64 0, .int .i64 0, .slice y.1 d.2.length y.2, .int .i64 0]) isAgg44 sizeOf44 rfl rfl (fun j u hj => by have q := (h.cellsO (v := .slice (some ⟨ba, oa, none⟩) 1 1)).elem (i := 0) (vs := dnCells d y) (by decide) rfl (1 + j) u (by rw [Nat.add_comm]; exact hj); rw [← Nat.add_assoc] at q; exact q)) (WL.e (eff_storeW (vs := qv0) h sizeOf44 rfl rfl rfl rfl rfl) ?_)
 rintro _ w h
 refine WL.z (W.ret (bodyQ.rctB (vs := [.int .i64 0, .int .i64 0, .int .i64 0, .slice y.1 d.2.length y.2, .int .i64 0]) (v2 := .bool true) h results34 isAgg44 sizeOf44 rfl rfl rfl rfl ?_))
 subst hl'
 subst hou
 exact ⟨y.1, y.2, rfl, h.to⟩
theorem runK_parts : ∃ l1 l2, newLn.ask ⟨3, ((1 : Nat) : Int), ((1 : Nat) : Int), one7, 0, 0, ((0 : Nat) : Int), false⟩ = some ([], l1) ∧ l1.ask ⟨2, ((1 : Nat) : Int), ((1 : Nat) : Int), [], 0, 0, ((0 : Nat) : Int), false⟩ = some (one7, l2) := by
 have hr := runK_is
 unfold runK at hr
 cases h1 : newLn.ask ⟨3, 1, 1, one7, 0, 0, 0, false⟩ with
 | none => rw [h1] at hr; cases hr
 | some q =>
   rw [h1] at hr
   simp only [Option.bind_some] at hr
   cases h2 : q.2.ask ⟨2, 1, 1, [], 0, 0, 0, false⟩ with
   | none => rw [h2] at hr; cases hr
   | some r =>
     rw [h2] at hr
     simp only [Option.map_some, Option.some.injEq, Prod.mk.injEq] at hr
     obtain ⟨q1, q2⟩ := q
     obtain ⟨r1, r2⟩ := r
     obtain ⟨e1, e2⟩ := hr
     dsimp only at e1 e2
     subst e1
     subst e2
     exact ⟨q2, r2, rfl, h2⟩
theorem tknown_ok {m : Int} (G : Gives L (GlP m)) (h : On W0 L w) : Calls Tryz.prog 6 #[] w (Ret fun v w' => v = .bool true ∧ On W0 L w') := by
 refine enter func6 rfl ntmps6 rfl ?_
 have hmx := maxLen_eq
 have hrk := runK_parts
 obtain ⟨l1, l2, hm1, hm2⟩ := hrk
 refine W.sr (WL.z (W.sr (WL.e (eff_call call32 (ldesk_ok h)) ?_)))
 rintro _ w ⟨bd, rfl, h⟩
 refine WL.z (W.seq (W.sr (WL.m (WL.v (run_eqlPtrNil underlying73 rfl rfl) (WL.nil ?_)))))
 refine W.cs (W.sr (WL.m (WL.e (eff_call call33 (lnew_ok (name := [105, 113, 110, 46, 97]) (burst := 1000) (by decide) (by decide) h)) ?_)))
 rintro _ w ⟨bl, rfl, h⟩
 have h : On W0 (LnP ⟨135, 179, 117, 183, 115, 123, 108, 151, 154⟩ 69 bl newLn :: L) w := h
 refine WL.z (W.sr (WL.m (WL.e (eff_call call35 (lone_ok (x := 7) h)) ?_)))
 rintro _ w ⟨a14, rfl, h⟩
 have h : On W0 (OwnB (.slice a14 one7.length one7.length) one7 :: _) w := h
 refine WL.v (run_buildS (pl := qp4) (out := qv3) underlying29 zeroValue29 (fun w => by kernel_rfl) rfl (⟨⟨_, _, rfl, rfl, by decide⟩, ⟨⟨_, _, rfl, rfl, by decide⟩, ⟨⟨_, _, rfl, rfl, by decide⟩, ⟨⟨_, _, rfl, rfl, by decide⟩, trivial⟩⟩⟩⟩) rfl) ?_
 refine WL.e (eff_call call34 (lask2_ok (kind := 3) (at_ := 1) (n := 1) (key := 0) (new := 0) (typ := 0) (data := one7) (ax := a14) (cx := one7.length) (Gives.to G) (by decide) (by decide) (by decide) hm1 (h.fetch (LnP ⟨135, 179, 117, 183, 115, 123, 108, 151, 154⟩ 69 bl newLn)) (Gives.ownO (v := .slice a14 one7.length one7.length)))) ?_
 rintro _ w ⟨a16, c16, rfl, h⟩
 refine WL.m (WL.v (run_extract rfl rfl) (WL.v (run_extract rfl rfl) (WL.e (eff_alloc h zeroValue44 rfl) ?_)))
 rintro _ w ⟨b3, rfl, h⟩
 refine WL.e (eff_storeW (vs := [.int .i64 0, .int .i64 0, .int .i64 0, .slice a16 (([] : List UInt8)).length c16, .int .i64 0]) h sizeOf44 rfl rfl rfl rfl rfl) ?_
 rintro _ w h
 refine WL.z (W.sr (WL.m (WL.v (run_buildS (pl := qp4) (out := qv3) underlying29 zeroValue29 (fun w => by kernel_rfl) rfl (⟨⟨_, _, rfl, rfl, by decide⟩, ⟨⟨_, _, rfl, rfl, by decide⟩, ⟨⟨_, _, rfl, rfl, by decide⟩, trivial⟩⟩⟩) rfl) (WL.e (eff_call call34 (lask2_ok (kind := 2) (at_ := 1) (n := 1) (key := 0) (new := 0) (typ := 0) (data := []) (ax := none) (cx := 0) (Gives.to G) (by decide) (by decide) (by decide) hm2 (h.fetch (LnP ⟨135, 179, 117, 183, 115, 123, 108, 151, 154⟩ 69 bl l1)) Gives.nilB)) ?_))))
 rintro _ w ⟨a22, c22, rfl, h⟩
 refine WL.m (WL.v (run_extract rfl rfl) (WL.v (run_extract rfl rfl) (WL.e (eff_alloc h zeroValue44 rfl) ?_)))
 rintro _ w ⟨b5, rfl, h⟩
 refine WL.e (eff_storeW (vs := [.int .i64 0, .int .i64 0, .int .i64 0, .slice a22 (one7).length c22, .int .i64 0]) h sizeOf44 rfl rfl rfl rfl rfl) ?_
 rintro _ w h
 refine WL.z (W.seq ?_)
 refine W.draw Tryz.follows h (fun w h => ?_)
 refine WT.m 0 rfl (WT.m 1 rfl (WT.m 2 rfl (WT.p 3 rfl (fun w' => (run_pickT rfl)) (WT.m 4 rfl (WT.f 5 0 rfl underlying44 rfl sizeOf3 rfl rfl (WT.l 6 rfl isAgg3 rfl (h.cellB rfl) (WT.p 7 rfl (fun w' => run_eqlT rfl rfl (rfl)) ?_)))))))
 refine WT.p 8 rfl (fun w' => (run_pickT rfl)) (WT.m 9 rfl (WT.f 10 3 rfl underlying44 rfl sizeOf26 rfl rfl (WT.l 11 rfl isAgg26 rfl (h.cellB rfl) (WT.take 12 (fun w => Bytes (.slice a22 one7.length c22) (one7) (hp w)) rfl (by kernel_rfl) rfl rfl (h.cellsO (v := .slice a22 one7.length c22)) (fun w' hC => run_bytesStr underlying26 underlying5 underlying9 rfl hC) (WT.e 13 [true, true, false] rfl (eff_call call35 (lone_ok (x := 7) h)) ?_)))))
 rintro _ w ⟨a38, rfl, h⟩
 have h : On W0 (OwnB (.slice a38 one7.length one7.length) one7 :: _) w := h
 refine ⟨⟨h.cellsO (v := .slice a22 one7.length c22), h.cellB rfl, trivial⟩, ?_⟩
 refine WT.take 14 (fun w => Bytes (.slice a38 one7.length one7.length) (one7) (hp w)) rfl (by kernel_rfl) rfl rfl (h.cellsO (v := .slice a38 one7.length one7.length)) (fun w' hC => run_bytesStr underlying26 underlying5 underlying9 rfl hC) (WT.p 15 rfl (fun w' => run_eqlStrT rfl rfl (rfl)) (WT.p 16 rfl (fun w' => (run_pickT rfl)) (WT.a 17 rfl (WT.dn (W.ret (bodyQ.r1 (v := .bool _) results6 rfl ?_))))))
 exact ⟨rfl, h.to⟩
end Go.Proofs.YtjfmjbmkkpkppaaGreatDoor
namespace Go.Sl.TpM
open Go Go.Sl Go.Sl.ByM
theorem take_app {A B : List UInt8} {n : Nat} (h : A.length = n) : (A ++ B).take n = A := by rw [List.take_append_of_le_length (by omega), List.take_of_length_le (by omega)]
theorem drop_app {A B : List UInt8} {n : Nat} (h : A.length = n) : (A ++ B).drop n = B := by rw [List.drop_append, List.drop_of_length_le (by omega), List.nil_append, h, Nat.sub_self, List.drop_zero]
theorem encP_app (p : Pd) (s : List UInt8) : encP p ++ s = head48 p ++ (four (crcS (head48 p)) ++ (tailB p.data ++ s)) := by
 unfold encP; rw [List.append_assoc, List.append_assoc]
theorem enc_0 (p : Pd) (s : List UInt8) : (encP p ++ s).getD 0 0 = UInt8.ofNat p.op := rfl
theorem enc_1 (p : Pd) (s : List UInt8) : (encP p ++ s).getD 1 0 = UInt8.ofNat (flagM p) := rfl
theorem enc_2 (p : Pd) (s : List UInt8) : (encP p ++ s).getD 2 0 = UInt8.ofNat p.st := rfl
theorem enc_3 (p : Pd) (s : List UInt8) : (encP p ++ s).getD 3 0 = 0 := rfl
theorem enc_len (p : Pd) (s : List UInt8) : ((encP p ++ s).drop 4).take 4 = be p.data.length 4 := rfl
theorem enc_n0 (p : Pd) (s : List UInt8) : ((encP p ++ s).drop 8).take 4 = be p.tag 4 := rfl
theorem enc_n1 (p : Pd) (s : List UInt8) : ((encP p ++ s).drop 12).take 4 = be p.sn 4 := rfl
theorem enc_n2 (p : Pd) (s : List UInt8) : ((encP p ++ s).drop 16).take 4 = be p.exp 4 := rfl
theorem enc_n3 (p : Pd) (s : List UInt8) : ((encP p ++ s).drop 20).take 4 = be p.max 4 := rfl
theorem enc_n4 (p : Pd) (s : List UInt8) : ((encP p ++ s).drop 24).take 4 = be p.off 4 := rfl
theorem enc_n5 (p : Pd) (s : List UInt8) : ((encP p ++ s).drop 28).take 4 = be p.len 4 := rfl
theorem enc_cdb {p : Pd} (s : List UInt8) (h : p.cdb.length = 16) : ((encP p ++ s).drop 32).take 16 = p.cdb := by
 have e : (encP p ++ s).drop 32 = p.cdb ++ (four (crcS (head48 p)) ++ (tailB p.data ++ s)) := by rw [encP_app]; rfl
 rw [e, take_app h]
theorem known_lt {op : Nat} (h : knownOp op = true) : op < 256 := by
 unfold knownOp at h
 simp only [Bool.or_eq_true, decide_eq_true_eq] at h
 omega
theorem dataN_enc {p : Pd} (s : List UInt8) (h : p.data.length ≤ 4096) : dataN (encP p ++ s) = p.data.length := by
 unfold dataN; rw [enc_len, beV_be (by have : (256 : Nat) ^ 4 = 4294967296 := rfl
                                       omega)]
theorem drop52 {p : Pd} (s : List UInt8) (h : p.cdb.length = 16) : (encP p ++ s).drop 52 = tailB p.data ++ s := by
 have e : (52 : Nat) = 48 + 4 := rfl
 rw [encP_app, e, ← List.drop_drop, drop_app (head48_len h)]; rfl
theorem frontE_enc {p : Pd} (s : List UInt8) (h : okPd p) : frontE (encP p ++ s) = 0 := by
 obtain ⟨⟨h1, h2, h3, h4⟩, h5, h6⟩ := h
 have hl : 52 ≤ (encP p ++ s).length := by
   rw [encP_app, List.length_append, head48_len h1, List.length_append]
   have : (four (crcS (head48 p))).length = 4 := rfl
   omega
 unfold frontE
 rw [if_neg (by omega), if_neg, if_neg, if_neg]
 · rw [dataN_enc s h5]; omega
 · rw [enc_0, enc_3]
   have e : (UInt8.ofNat p.op).toNat = p.op := by
     have := known_lt h2
     simp only [UInt8.toNat_ofNat']; omega
   rw [e, h2]
   rintro (q | q)
   · cases q
   exact q rfl
 have e1 : (encP p ++ s).take 48 = head48 p := by rw [encP_app, take_app (head48_len h1)]
 have e2 : ((encP p ++ s).drop 48).take 4 = four (crcS (head48 p)) := by rw [encP_app, drop_app (head48_len h1)]; rfl
 rw [e1, e2]; exact fun q => q rfl
theorem numAt_enc {p : Pd} (s : List UInt8) (h : ∀ v ∈ nums p, v < 4294967296) : numAt (encP p ++ s) 0 = p.tag ∧ numAt (encP p ++ s) 1 = p.sn ∧ numAt (encP p ++ s) 2 = p.exp ∧ numAt (encP p ++ s) 3 = p.max ∧ numAt (encP p ++ s) 4 = p.off ∧ numAt (encP p ++ s) 5 = p.len := by
 have e : (256 : Nat) ^ 4 = 4294967296 := rfl
 have hh : ∀ v ∈ nums p, beV (be v 4) = v := fun v hv => beV_be (by rw [e]; exact h v hv)
 unfold numAt
 refine ⟨?_, ?_, ?_, ?_, ?_, ?_⟩
 · rw [enc_n0]; exact hh _ (by simp [nums])
 · rw [enc_n1]; exact hh _ (by simp [nums])
 · rw [enc_n2]; exact hh _ (by simp [nums])
 · rw [enc_n3]; exact hh _ (by simp [nums])
 · rw [enc_n4]; exact hh _ (by simp [nums])
 rw [enc_n5]; exact hh _ (by simp [nums])
theorem getP_enc {p : Pd} (s : List UInt8) (h : okPd p) : getP (encP p ++ s) = { p with data := [] } := by
 obtain ⟨⟨h1, h2, h3, h4⟩, h5, h6⟩ := h
 obtain ⟨n0, n1, n2, n3, n4, n5⟩ := numAt_enc s h6
 have e0 : ((encP p ++ s).getD 0 0).toNat = p.op := by
   have := known_lt h2
   rw [enc_0]; simp only [UInt8.toNat_ofNat']; omega
 have e1 : ((encP p ++ s).getD 1 0).toNat = flagM p := by
   rw [enc_1]
   unfold flagM
   simp only [UInt8.toNat_ofNat']
   split <;> omega
 have e2 : ((encP p ++ s).getD 2 0).toNat = p.st := by rw [enc_2]; simp only [UInt8.toNat_ofNat']; omega
 unfold getP
 rw [e0, e1, e2, n0, n1, n2, n3, n4, n5, enc_cdb s h1]
 have ef : decide (128 ≤ flagM p) = p.fin := by
   unfold flagM
   cases p.fin
   · rw [decide_eq_false]; simp; omega
   rw [decide_eq_true]; simp
 have eg : flagM p % 128 = p.flags := by
   unfold flagM
   split <;> omega
 rw [ef, eg]
theorem decE_enc {p : Pd} (s : List UInt8) (h : okPd p) : decE (encP p ++ s) = 0 ∧ decN (encP p ++ s) = (encP p).length ∧ decP (encP p ++ s) = p := by
 have hf := frontE_enc s h
 have hg := getP_enc s h
 obtain ⟨⟨h1, h2, h3, h4⟩, h5, h6⟩ := h
 have hd := dataN_enc s h5
 have h52 := drop52 s h1
 have h48 : (head48 p).length = 48 := head48_len h1
 have h4l : (four (crcS (head48 p))).length = 4 := rfl
 by_cases he : p.data = []
 · refine ⟨?_, ?_, ?_⟩
   · unfold decE; rw [hf, if_neg (fun q => q rfl), if_pos (by rw [hd, he]; rfl)]
   · unfold decN; rw [if_pos (by rw [hd, he]; rfl)]
     unfold encP tailB
     rw [if_pos he, List.length_append, List.length_append, h48, h4l]; rfl
   unfold decP; rw [hg, hd, he]
   show ({ p with data := List.take 0 _ } : Pd) = p
   rw [List.take_zero, ← he]
 have hn : p.data.length ≠ 0 := fun q => he (List.eq_nil_of_length_eq_zero q)
 have ht : tailB p.data = padM p.data ++ four (crcS (padM p.data)) := by unfold tailB; rw [if_neg he]
 have hp : (padM p.data).length = wholeN p.data.length := by
   unfold padM wholeN
   rw [List.length_append, List.length_replicate]; omega
 have h4p : (four (crcS (padM p.data))).length = 4 := rfl
 rw [ht] at h52
 refine ⟨?_, ?_, ?_⟩
 · unfold decE
   rw [hf, if_neg (fun q => q rfl), hd, if_neg hn, h52, if_neg, if_neg, if_neg]
   · rw [Bool.not_eq_false]
     have e : (((padM p.data ++ four (crcS (padM p.data)) ++ s).drop p.data.length).take (wholeN p.data.length - p.data.length)) = List.replicate ((4 - p.data.length % 4) % 4) 0 := by
       have e1 : (padM p.data ++ four (crcS (padM p.data)) ++ s).drop p.data.length = List.replicate ((4 - p.data.length % 4) % 4) 0 ++ (four (crcS (padM p.data)) ++ s) := by
         rw [List.append_assoc]
         unfold padM
         rw [List.append_assoc, drop_app rfl]
       rw [e1, take_app]
       rw [List.length_replicate]; unfold wholeN; omega
     rw [e, List.all_eq_true]
     intro x hx
     rw [List.eq_of_mem_replicate hx]; rfl
   · rw [List.append_assoc, take_app hp, drop_app hp]
     exact fun q => q rfl
   rw [List.length_append, List.length_append, hp, h4p]; omega
 · unfold decN
   rw [hd, if_neg hn]
   unfold encP
   rw [ht, List.length_append, List.length_append, List.length_append, h48, h4l, hp, h4p]
   omega
 unfold decP
 rw [hg, hd, h52, List.append_assoc]
 unfold padM
 rw [List.append_assoc, take_app rfl]
theorem open_seal1 (bs : List UInt8) : openB (sealB bs) = (bs, 0) := by
 have hl : (sealB bs).length = bs.length + 4 := by unfold sealB; rw [List.length_append]; rfl
 have e1 : (sealB bs).take ((sealB bs).length - 4) = bs := by
   rw [hl, Nat.add_sub_cancel]
   unfold sealB
   exact List.take_left
 have e2 : (sealB bs).drop ((sealB bs).length - 4) = ByM.four (crcS bs) := by
   rw [hl, Nat.add_sub_cancel]
   unfold sealB
   exact List.drop_left
 unfold openB
 rw [if_neg (by omega), e1, e2, if_neg (fun q => q rfl)]
theorem gapM_small {a b : Nat} (ha : a < 1000000) (hb : b < 1000000) : gapM a b = (b : Int) - (a : Int) := by
 unfold gapM
 simp only []
 by_cases h : a ≤ b
 · have e : (b + 4294967296 - a) % 4294967296 = b - a := by omega
   rw [e, if_pos (by omega)]; omega
 have e : (b + 4294967296 - a) % 4294967296 = b + 4294967296 - a := by omega
 rw [e, if_neg (by omega)]; omega
def Cn.kindN (c : Cn) : Nat := if c.met then 2 else if c.known then 1 else 0
def Cn.inM (c : Cn) (k life mine ack at_ : Nat) (bs : List UInt8) : Cn :=
 if c.known && decide (life ≠ c.peer) then { c with reset := true } else
 if k = 0 ∨ mine ≠ c.own then { c with peer := life, known := true, say := true } else
 Cn.take { c with say := c.say || !c.met || decide (k = 1), peer := life, known := true, met := true } ack at_ bs
theorem inP_packet {c p : Cn} {fr : Nat} {bs : List UInt8} (h1 : p.own < 4294967296) (h2 : p.peer < 4294967296) (h3 : p.got < 4294967296) (hr : c.reset = false) :
   c.inP (p.packet fr bs) = c.inM p.kindN p.own p.peer p.got ((p.base + fr) % 4294967296) bs := by
 have e256 : (256 : Nat) ^ 4 = 4294967296 := rfl
 have v0 : valN (p.packK fr 4 ++ bs) 0 = p.own := by show beV (be p.own 4) = _; exact beV_be (by omega)
 have v1 : valN (p.packK fr 4 ++ bs) 1 = p.peer := by show beV (be p.peer 4) = _; exact beV_be (by omega)
 have v2 : valN (p.packK fr 4 ++ bs) 2 = p.got := by show beV (be p.got 4) = _; exact beV_be (by omega)
 have v3 : valN (p.packK fr 4 ++ bs) 3 = (p.base + fr) % 4294967296 := by show beV (be ((p.base + fr) % 4294967296) 4) = _; exact beV_be (by omega)
 have vb : (p.packK fr 4 ++ bs).drop 17 = bs := rfl
 have vk : ((p.packK fr 4 ++ bs).getD 0 0).toNat = p.kindN := by
   show p.kind.toNat = _
   unfold Cn.kind Cn.kindN
   split
   · rfl
   split <;> rfl
 have vl : (p.packK fr 4 ++ bs).length = 17 + bs.length := by rw [List.length_append]; rfl
 have kl : p.kindN ≤ 2 := by unfold Cn.kindN; split; omega; split <;> omega
 unfold Cn.inP Cn.packet
 rw [open_seal1, if_neg (by rw [vk, vl, hr]; simp; omega)]
 unfold Cn.inB Cn.inM
 rw [v0, v1, v2, v3, vb, vk]
def deliver (i k : Nat) : Nat → List (List UInt8) → Cn → Cn
 | _, [], c => c
 | n, p :: ps, c => deliver i k (n + 1) ps (if 100 ≤ i ∨ (n + 1) % k ≠ 0 then c.inP p else c)
theorem deliver_ind {P : Cn → Prop} {i k : Nat} {xs : List (List UInt8)} : ∀ {n : Nat} {c : Cn}, (∀ p ∈ xs, ∀ c, P c → P (c.inP p)) → P c → P (deliver i k n xs c) := by
 induction xs with
 | nil => intro n c _ h; exact h
 | cons p ps ih =>
   intro n c hs h
   unfold deliver
   refine ih (fun q hq => hs q (List.mem_cons_of_mem _ hq)) ?_
   split
   · exact hs p (List.mem_cons_self ..) c h
   exact h
theorem deliver_all {i k : Nat} (hi : 100 ≤ i) : ∀ (xs : List (List UInt8)) (n : Nat) (c : Cn), deliver i k n xs c = xs.foldl Cn.inP c
 | [], _, _ => rfl
 | p :: ps, n, c => by
   unfold deliver
   rw [if_pos (.inl hi), deliver_all hi ps]; rfl
structure AOk (S : List UInt8) (a : Cn) (al : List UInt8) : Prop where
 own : a.own = 1
 reset : a.reset = false
 first : a.first = true
 peer : a.known = true → a.peer = 2
 plt : a.peer < 4294967296
 met : a.met = true → a.known = true
 inb : a.inb = []
 got : a.got = 0
 out : S.drop a.base = a.out ++ al
 base : a.base ≤ S.length
 len : a.out.length ≤ 4096
structure BOk (b : Cn) : Prop where
 own : b.own = 2
 reset : b.reset = false
 peer : b.known = true → b.peer = 1
 plt : b.peer < 4294967296
 met : b.met = true → b.known = true
 out : b.out = []
 base : b.base = 0
 sent : b.sent = 0
structure BDat (S : List UInt8) (g0 hi : Nat) (b : Cn) : Prop where
 lo : g0 ≤ b.got
 hi : b.got ≤ hi
 dat : b.inb = (S.take b.got).drop g0
theorem AOk.sum {S al : List UInt8} {a : Cn} (h : AOk S a al) : a.base + a.out.length + al.length = S.length := by
 have h1 := congrArg List.length h.out
 have h2 := h.base
 rw [List.length_drop, List.length_append] at h1
 omega
theorem a_prep {S al : List UInt8} {a : Cn} (h : AOk S a al) : AOk S (a.send al).tick (al.drop (a.sendN al)) ∧ (a.send al).tick.sent = 0 ∧ (a.send al).tick.base = a.base ∧ (a.send al).tick.known = a.known ∧ (a.send al).tick.out.length = min 4096 (S.length - a.base) ∧ (0 < (a.send al).tick.out.length → (a.send al).tick.say = true) := by
 have hs := h.sum
 have hl := h.len
 have hn : a.sendN al = min al.length (4096 - a.out.length) := by unfold Cn.sendN; rw [if_neg (by rw [h.reset]; decide)]
 have he : a.send al = { a with out := a.out ++ al.take (a.sendN al) } := by unfold Cn.send; rw [if_neg (by rw [h.reset]; decide)]
 have hol : (a.out ++ al.take (a.sendN al)).length = min 4096 (S.length - a.base) := by
   rw [List.length_append, List.length_take, hn]; omega
 rw [he]
 refine ⟨⟨h.own, h.reset, h.first, h.peer, h.plt, h.met, h.inb, h.got, ?_, h.base, ?_⟩, rfl, rfl, rfl, hol, fun hp => ?_⟩
 · show S.drop a.base = a.out ++ al.take (a.sendN al) ++ al.drop (a.sendN al)
   rw [List.append_assoc, List.take_append_drop]; exact h.out
 · show (a.out ++ al.take (a.sendN al)).length ≤ 4096
   rw [hol]; omega
 show (a.say || (a.first && !a.known) || (a.known && !a.met) || decide (0 < (a.out ++ al.take (a.sendN al)).length)) = true
 have hp2 : 0 < (a.out ++ al.take (a.sendN al)).length := hp
 rw [decide_eq_true hp2, Bool.or_true]
theorem b_tick {b : Cn} (h : BOk b) : BOk b.tick := ⟨h.own, h.reset, h.peer, h.plt, h.met, h.out, h.base, rfl⟩
theorem b_outL {b : Cn} (h : BOk b) : b.outL = if b.say = true then [b.packet 0 []] else [] := by
 have hc : b.chunks 5 b.sent = [] := by
   unfold Cn.chunks
   rw [if_pos (by rw [h.out, h.sent]; rfl)]
 have e0 : (if b.known = true then b.out.length else b.sent) = 0 := by rw [h.out, h.sent]; split <;> rfl
 have e1 : (if b.known = true then ([] : List (List UInt8)) else []) = [] := by split <;> rfl
 unfold Cn.outL
 rw [if_neg (by rw [h.reset]; decide), hc, e0, e1]
 cases b.say <;> rfl
theorem b_outC {b : Cn} (h : BOk b) : BOk b.outC ∧ b.outC.got = b.got ∧ b.outC.inb = b.inb ∧ b.outC.known = b.known := by
 have e : b.outC = { b with sent := 0, say := false } := by
   unfold Cn.outC
   rw [if_neg (by rw [h.reset]; decide)]
   have e0 : (if b.known = true then b.out.length else b.sent) = 0 := by rw [h.out, h.sent]; split <;> rfl
   rw [e0]
 rw [e]
 exact ⟨⟨h.own, h.reset, h.peer, h.plt, h.met, h.out, h.base, rfl⟩, rfl, rfl, rfl⟩
theorem a_outC {S al : List UInt8} {a : Cn} (h : AOk S a al) : AOk S a.outC al ∧ a.outC.base = a.base ∧ a.outC.out = a.out ∧ a.outC.known = a.known := by
 have e : a.outC = { a with sent := if a.known then a.out.length else a.sent, say := false } := by
   unfold Cn.outC
   rw [if_neg (by rw [h.reset]; decide)]
 rw [e]
 exact ⟨⟨h.own, h.reset, h.first, h.peer, h.plt, h.met, h.inb, h.got, h.out, h.base, h.len⟩, rfl, rfl, rfl⟩
theorem chunks_form {a : Cn} : ∀ (f s : Nat), s ≤ a.out.length → ∀ p ∈ a.chunks f s, ∃ s' m, s' + m ≤ a.out.length ∧ p = a.packet s' ((a.out.drop s').take m)
 | 0, s, _, p, hp => by cases hp
 | f + 1, s, hs, p, hp => by
   unfold Cn.chunks at hp
   split at hp
   · cases hp
   rcases List.mem_cons.1 hp with e | hp
   · exact ⟨s, min (a.out.length - s) 1024, by omega, e⟩
   exact chunks_form f _ (by omega) p hp
theorem outL_form {a : Cn} (hs : a.sent = 0) : ∀ p ∈ a.outL, ∃ s' m, s' + m ≤ a.out.length ∧ p = a.packet s' ((a.out.drop s').take m) := by
 intro p hp
 unfold Cn.outL at hp
 split at hp
 · cases hp
 simp only [] at hp
 split at hp
 · split at hp
   · rw [List.mem_singleton] at hp
     exact ⟨a.out.length, 0, by omega, by rw [List.take_zero]; exact hp⟩
   exact chunks_form _ _ (by omega) p hp
 split at hp
 · rw [List.mem_singleton] at hp
   rw [hs] at hp
   exact ⟨0, 0, by omega, by rw [List.take_zero]; exact hp⟩
 cases hp
theorem kindN_pos {c : Cn} (h : c.known = true) : c.kindN ≠ 0 := by
 unfold Cn.kindN
 split
 · omega
 first | (rw [if_pos h]; omega) | omega
theorem kindN_zero {c : Cn} (hm : c.met = true → c.known = true) (h : c.known = false) : c.kindN = 0 := by
 have hm2 : c.met = false := by
   cases hc : c.met
   · rfl
   rw [hm hc] at h; cases h
 unfold Cn.kindN
 rw [hm2, h]; rfl
theorem inM_new {c : Cn} {k life mine ack at_ : Nat} {bs : List UInt8} (h1 : c.known = true → life = c.peer) (h2 : k = 0) : c.inM k life mine ack at_ bs = { c with peer := life, known := true, say := true } := by
 unfold Cn.inM
 rw [if_neg, if_pos (.inl h2)]
 intro q
 rw [Bool.and_eq_true, decide_eq_true_eq] at q
 exact q.2 (h1 q.1)
theorem inM_take {c : Cn} {k life mine ack at_ : Nat} {bs : List UInt8} (h1 : c.known = true → life = c.peer) (h2 : k ≠ 0) (h3 : mine = c.own) : c.inM k life mine ack at_ bs = Cn.take { c with say := c.say || !c.met || decide (k = 1), peer := life, known := true, met := true } ack at_ bs := by
 unfold Cn.inM
 rw [if_neg, if_neg (by rw [h3]; simp; exact h2)]
 intro q
 rw [Bool.and_eq_true, decide_eq_true_eq] at q
 exact q.2 (h1 q.1)
theorem b_in {S al : List UInt8} {a b : Cn} {g0 s m : Nat} (hT : S.length ≤ 8000) (ha : AOk S a al) (hb : BOk b) (hd : BDat S g0 (a.base + a.out.length) b) (hg : a.base ≤ g0) (hsm : s + m ≤ a.out.length) :
   BOk (b.inP (a.packet s ((a.out.drop s).take m))) ∧ BDat S g0 (a.base + a.out.length) (b.inP (a.packet s ((a.out.drop s).take m))) ∧ b.got ≤ (b.inP (a.packet s ((a.out.drop s).take m))).got ∧ (b.inP (a.packet s ((a.out.drop s).take m))).known = true ∧ (b.say = true ∨ a.known = false ∨ m ≠ 0 → (b.inP (a.packet s ((a.out.drop s).take m))).say = true) ∧ (a.known = true → a.base + s ≤ b.got → a.base + s + m ≤ (b.inP (a.packet s ((a.out.drop s).take m))).got) := by
 have hsum := ha.sum
 have hlen := ha.len
 obtain ⟨d1, d2, d3⟩ := hd
 have hbl : b.inb.length = b.got - g0 := by rw [d3, List.length_drop, List.length_take]; omega
 have e := inP_packet (c := b) (p := a) (fr := s) (bs := (a.out.drop s).take m) (by rw [ha.own]; decide) ha.plt (by rw [ha.got]; decide) hb.reset
 rw [e, ha.own, ha.got]
 have hp1 : b.known = true → 1 = b.peer := fun q => (hb.peer q).symm
 cases hk : a.known with
 | false =>
   rw [inM_new hp1 (kindN_zero ha.met hk)]
   exact ⟨⟨hb.own, hb.reset, fun _ => rfl, (show (1 : Nat) < 4294967296 by decide), fun _ => rfl, hb.out, hb.base, hb.sent⟩, ⟨d1, d2, d3⟩, Nat.le_refl _, rfl, fun _ => rfl, fun q => by cases q⟩
 | true =>
   rw [inM_take hp1 (kindN_pos hk) (by rw [ha.peer hk, hb.own])]
   rw [Nat.mod_eq_of_lt (by omega)]
   unfold Cn.take
   obtain ⟨sy, hsy⟩ : ∃ sy, sy = (b.say || !b.met || decide (a.kindN = 1)) := ⟨_, rfl⟩
   rw [← hsy]
   have hsb : b.say = true → sy = true := fun q => by rw [hsy, q]; rfl
   have hak : Cn.ackd { b with say := sy, peer := 1, known := true, met := true } 0 = { b with say := sy, peer := 1, known := true, met := true } := by
     unfold Cn.ackd
     rw [if_neg]
     show ¬ (0 < gapM b.base 0 ∧ _)
     rw [hb.base, gapM_small (by decide) (by decide)]
     omega
   rw [hak]
   have hcl : ((a.out.drop s).take m).length = m := by rw [List.length_take, List.length_drop]; omega
   by_cases hm : m = 0
   · rw [takes_nil (by rw [hcl]; exact hm)]
     exact ⟨⟨hb.own, hb.reset, fun _ => rfl, (show (1 : Nat) < 4294967296 by decide), fun _ => rfl, hb.out, hb.base, hb.sent⟩, ⟨d1, d2, d3⟩, Nat.le_refl _, rfl, fun q => by rcases q with q | q | q; exact hsb q; cases q; exact (q hm).elim, fun _ q => by show _ ≤ b.got; omega⟩
   have hgi : GapIs (a.base + s) b.got ((b.got : Int) - ((a.base + s : Nat) : Int)) := (gapM_small (by omega) (by omega)).symm
   have hne : ¬ ((a.out.drop s).take m).length = 0 := by rw [hcl]; exact hm
   by_cases hw : (b.got : Int) - ((a.base + s : Nat) : Int) < 0 ∨ (((a.out.drop s).take m).length : Int) ≤ (b.got : Int) - ((a.base + s : Nat) : Int)
   · have e2 := takes_no (c := { b with say := sy, peer := 1, known := true, met := true }) hgi hne hw
     rw [e2]
     rw [hcl] at hw
     refine ⟨⟨hb.own, hb.reset, fun _ => rfl, (show (1 : Nat) < 4294967296 by decide), fun _ => rfl, hb.out, hb.base, hb.sent⟩, ⟨d1, d2, d3⟩, Nat.le_refl _, rfl, fun _ => rfl, fun _ q => ?_⟩
     show _ ≤ b.got
     clear hgi e2 e
     omega
   obtain ⟨d, hdd⟩ : ∃ d, b.got = a.base + s + d := ⟨b.got - (a.base + s), by clear hgi e; omega⟩
   have hgd : (b.got : Int) - ((a.base + s : Nat) : Int) = (d : Int) := by clear hgi e; omega
   have hdm : d < m := by clear hgi e; rw [hcl] at hw; omega
   have hx : (((a.out.drop s).take m).drop d).take (4096 - b.inb.length) = (S.drop b.got).take (m - d) := by
     rw [List.drop_take, List.drop_drop, List.take_take, hbl, Nat.min_eq_right (by clear hgi e; omega)]
     have e1 : S.drop b.got = (a.out ++ al).drop (s + d) := by
       rw [← ha.out, List.drop_drop, hdd]; congr 1; omega
     rw [e1, List.drop_append_of_le_length (by clear hgi e; omega), List.take_append_of_le_length (by rw [List.length_drop]; clear hgi e; omega)]
   have hxl : ((S.drop b.got).take (m - d)).length = m - d := by rw [List.length_take, List.length_drop]; clear hgi e; omega
   have e2 := takes_yes (c := { b with say := sy, peer := 1, known := true, met := true }) hgi hne hw hgd hx
   rw [e2]
   have hnew : (b.got + (m - d)) % 4294967296 = b.got + (m - d) := Nat.mod_eq_of_lt (by clear hgi e e2; omega)
   rw [hxl, hnew]
   clear hgi e e2
   refine ⟨⟨hb.own, hb.reset, fun _ => rfl, (show (1 : Nat) < 4294967296 by decide), fun _ => rfl, hb.out, hb.base, hb.sent⟩, ⟨?_, ?_, ?_⟩, ?_, rfl, fun _ => rfl, fun _ q => ?_⟩
   · show g0 ≤ b.got + (m - d); omega
   · show b.got + (m - d) ≤ _; omega
   · show b.inb ++ (S.drop b.got).take (m - d) = (S.take (b.got + (m - d))).drop g0
     rw [List.take_add, List.drop_append_of_le_length (by rw [List.length_take]; omega), d3]
   · show b.got ≤ b.got + (m - d); omega
   show _ ≤ b.got + (m - d); omega
theorem a_in {S al : List UInt8} {a b : Cn} (hT : S.length ≤ 8000) (ha : AOk S a al) (hb : BOk b) (h1 : a.base ≤ b.got) (h2 : b.got ≤ a.base + a.out.length) :
   AOk S (a.inP (b.packet 0 [])) al ∧ (a.inP (b.packet 0 [])).base + (a.inP (b.packet 0 [])).out.length = a.base + a.out.length ∧ (a.inP (b.packet 0 [])).base ≤ b.got ∧ (a.inP (b.packet 0 [])).known = true ∧ (b.known = true → (a.inP (b.packet 0 [])).base = b.got) := by
 have hsum := ha.sum
 have hlen := ha.len
 have e := inP_packet (c := a) (p := b) (fr := 0) (bs := []) (by rw [hb.own]; decide) hb.plt (by omega) ha.reset
 rw [e, hb.own, hb.base]
 have hp1 : a.known = true → 2 = a.peer := fun q => (ha.peer q).symm
 cases hk : b.known with
 | false =>
   rw [inM_new hp1 (kindN_zero hb.met hk)]
   exact ⟨⟨ha.own, ha.reset, ha.first, fun _ => rfl, (show (2 : Nat) < 4294967296 by decide), fun _ => rfl, ha.inb, ha.got, ha.out, ha.base, ha.len⟩, rfl, h1, rfl, fun q => by cases q⟩
 | true =>
   rw [inM_take hp1 (kindN_pos hk) (by rw [hb.peer hk, ha.own])]
   unfold Cn.take
   rw [takes_nil rfl]
   obtain ⟨sy, hsy⟩ : ∃ sy, sy = (a.say || !a.met || decide (b.kindN = 1)) := ⟨_, rfl⟩
   rw [← hsy]
   clear e
   have hgi : GapIs a.base b.got ((b.got : Int) - (a.base : Int)) := (gapM_small (by omega) (by omega)).symm
   by_cases hw : (0 : Int) < (b.got : Int) - (a.base : Int)
   · have hw2 : (b.got : Int) - (a.base : Int) ≤ (a.out.length : Int) := by clear hgi; omega
     have ht : (b.got : Int) - (a.base : Int) = ((b.got - a.base : Nat) : Int) := by clear hgi; omega
     have e2 := ackd_yes (c := { a with say := sy, peer := 2, known := true, met := true }) (ack := b.got) hgi hw hw2 ht
     rw [e2]
     clear e2 hgi
     refine ⟨⟨ha.own, ha.reset, ha.first, fun _ => rfl, (show (2 : Nat) < 4294967296 by decide), fun _ => rfl, ha.inb, ha.got, ?_, ?_, ?_⟩, ?_, Nat.le_refl _, rfl, fun _ => rfl⟩
     · show S.drop b.got = a.out.drop (b.got - a.base) ++ al
       rw [← List.drop_append_of_le_length (by omega), ← ha.out, List.drop_drop]; congr 1; omega
     · show b.got ≤ S.length; omega
     · show (a.out.drop (b.got - a.base)).length ≤ 4096; rw [List.length_drop]; omega
     show b.got + (a.out.drop (b.got - a.base)).length = _; rw [List.length_drop]; omega
   have e2 := ackd_no (c := { a with say := sy, peer := 2, known := true, met := true }) (ack := b.got) hgi (fun q => hw q.1)
   rw [e2]
   clear e2 hgi
   refine ⟨⟨ha.own, ha.reset, ha.first, fun _ => rfl, (show (2 : Nat) < 4294967296 by decide), fun _ => rfl, ha.inb, ha.got, ha.out, ha.base, ha.len⟩, rfl, h1, rfl, fun _ => ?_⟩
   show a.base = b.got
   omega
theorem chunks_got {S al : List UInt8} {a : Cn} {g0 : Nat} (hT : S.length ≤ 8000) (ha : AOk S a al) (hk : a.known = true) (hg : a.base ≤ g0) : ∀ (f s : Nat) (c : Cn), BOk c → BDat S g0 (a.base + a.out.length) c → a.base + s ≤ c.got → s ≤ a.out.length → a.out.length ≤ s + 1024 * f →
   a.base + a.out.length ≤ ((a.chunks f s).foldl Cn.inP c).got
 | 0, s, c, _, _, h1, _, h2 => by show _ ≤ c.got; omega
 | f + 1, s, c, hb, hd, h1, h3, h2 => by
   unfold Cn.chunks
   split
   · show _ ≤ c.got; omega
   rename_i hm
   have q := b_in (s := s) (m := min (a.out.length - s) 1024) hT ha hb hd hg (by omega)
   obtain ⟨q1, q2, q3, q4, q5, q6⟩ := q
   exact chunks_got hT ha hk hg f _ _ q1 q2 (by have := q6 hk h1; omega) (by omega) (by omega)
theorem fold_say {S al : List UInt8} {a : Cn} {g0 : Nat} (hT : S.length ≤ 8000) (ha : AOk S a al) (hg : a.base ≤ g0) : ∀ (xs : List (List UInt8)) (c : Cn), (∀ p ∈ xs, ∃ s m, s + m ≤ a.out.length ∧ p = a.packet s ((a.out.drop s).take m)) → BOk c → BDat S g0 (a.base + a.out.length) c → c.say = true → c.known = true → (xs.foldl Cn.inP c).say = true ∧ (xs.foldl Cn.inP c).known = true
 | [], c, _, _, _, h1, h2 => ⟨h1, h2⟩
 | p :: ps, c, hf, hb, hd, h1, h2 => by
   obtain ⟨s, m, hsm, e⟩ := hf p (List.mem_cons_self ..)
   have q := b_in (s := s) (m := m) hT ha hb hd hg hsm
   rw [← e] at q
   obtain ⟨q1, q2, q3, q4, q5, q6⟩ := q
   exact fold_say hT ha hg ps _ (fun x hx => hf x (List.mem_cons_of_mem _ hx)) q1 q2 (q5 (.inl h1)) q4
structure SInv (S : List UInt8) (a b : Cn) (al : List UInt8) : Prop where
 ia : AOk S a al
 ib : BOk b
 inb : b.inb = []
 lo : a.base ≤ b.got
 hi : b.got ≤ a.base + a.out.length
def Prog (S : List UInt8) (j : Nat) (a b : Cn) : Prop :=
 b.got = S.length ∨ ((1 ≤ j → b.known = true ∧ b.say = true) ∧ (2 ≤ j → a.known = true) ∧ (3 ≤ j → min 4096 S.length ≤ b.got) ∧ (4 ≤ j → min 4096 S.length ≤ a.base) ∧ j < 5)
section
variable (i k n : Nat) (a b : Cn) (al : List UInt8)
def ra : Cn := (a.send al).tick
def rb : Cn := deliver i k n (ra a al).outL b.tick.outC
def rn : Nat := n + (ra a al).outL.length
def rfa : Cn := deliver i k (rn n a al) b.tick.outL (ra a al).outC
end
theorem round_ok {S : List UInt8} {i k n : Nat} {a b : Cn} {al : List UInt8} (hT : S.length ≤ 8000) (hI : SInv S a b al) :
   SInv S (rfa i k n a b al) (rb i k n a b al).recv (al.drop (a.sendN al)) ∧ b.got ≤ (rb i k n a b al).got ∧ (rb i k n a b al).got ≤ S.length ∧ (rb i k n a b al).inb = (S.take (rb i k n a b al).got).drop b.got ∧
     (100 ≤ i → ∀ j, Prog S j a b → Prog S (min (j + 1) 5) (rfa i k n a b al) (rb i k n a b al).recv) := by
 obtain ⟨hA, hB, hi0, hlo, hhi⟩ := hI
 have hp := a_prep hA
 have hsum0 := hA.sum
 have hlen0 := hA.len
 obtain ⟨ha1, hs0, hbase, hkn, hol, hsay⟩ := hp
 have hbt := b_tick hB
 have hbo := b_outC hbt
 obtain ⟨hb2, hbg, hbi, hbk⟩ := hbo
 have hao := a_outC ha1
 obtain ⟨ha2, hab, haou, hakn⟩ := hao
 have hsum := ha1.sum
 obtain ⟨a1, hea⟩ : ∃ a1, a1 = ra a al := ⟨_, rfl⟩
 have hea2 : (a.send al).tick = a1 := hea.symm
 rw [hea2] at ha1 hs0 hbase hkn hol hsay ha2 hab haou hakn hsum
 have hhi1 : b.got ≤ a1.base + a1.out.length := by rw [hbase, hol]; omega
 have hd0 : BDat S b.got (a1.base + a1.out.length) b.tick.outC := by
   refine ⟨by rw [hbg]; exact Nat.le_refl _, by rw [hbg]; exact hhi1, ?_⟩
   rw [hbg, hbi]
   show b.inb = (S.take b.got).drop b.got
   rw [hi0, List.drop_of_length_le (by rw [List.length_take]; omega)]
 have hgl : a1.base ≤ b.got := by omega
 have hform := outL_form hs0
 have hBr : BOk (rb i k n a b al) ∧ BDat S b.got (a1.base + a1.out.length) (rb i k n a b al) := by
   unfold rb
   rw [← hea]
   refine deliver_ind (P := fun c => BOk c ∧ BDat S b.got (a1.base + a1.out.length) c) (fun p hpm c hc => ?_) ⟨hb2, hd0⟩
   obtain ⟨s, m, hsm, e⟩ := hform p hpm
   have q := b_in (s := s) (m := m) hT ha1 hc.1 hc.2 hgl hsm
   rw [← e] at q
   exact ⟨q.1, q.2.1⟩
 obtain ⟨hB3, hD3⟩ := hBr
 have hin := a_in hT ha2 hbt (by rw [hab]; show a1.base ≤ b.got; omega) (by rw [hab, haou]; show b.got ≤ _; omega)
 obtain ⟨q1, q2, q3, q4, q5⟩ := hin
 have hyl := b_outL hbt
 have hAr : AOk S (rfa i k n a b al) (al.drop (a.sendN al)) ∧ (rfa i k n a b al).base + (rfa i k n a b al).out.length = a1.base + a1.out.length ∧ (rfa i k n a b al).base ≤ b.got ∧ (a.known = true → (rfa i k n a b al).known = true) ∧ (100 ≤ i → b.known = true → b.say = true → (rfa i k n a b al).known = true ∧ (rfa i k n a b al).base = b.got) ∧ a1.base ≤ (rfa i k n a b al).base := by
   unfold rfa
   rw [← hea, hyl]
   have hno : AOk S a1.outC (al.drop (a.sendN al)) ∧ a1.outC.base + a1.outC.out.length = a1.base + a1.out.length ∧ a1.outC.base ≤ b.got ∧ (a.known = true → a1.outC.known = true) ∧ a1.base ≤ a1.outC.base := ⟨ha2, by rw [hab, haou], by rw [hab]; exact hgl, fun q => by rw [hakn, hkn]; exact q, by rw [hab]; exact Nat.le_refl _⟩
   have hyes : a1.base ≤ (a1.outC.inP (b.tick.packet 0 [])).base := by
     cases hk3 : b.tick.known with
     | true => rw [q5 hk3]; exact hgl
     | false =>
       have e := inP_packet (c := a1.outC) (p := b.tick) (fr := 0) (bs := []) (by rw [hbt.own]; decide) hbt.plt (by show b.got < _; omega) ha2.reset
       rw [e, hbt.own, inM_new (fun q => (ha2.peer q).symm) (kindN_zero hbt.met hk3)]
       show a1.base ≤ a1.outC.base
       rw [hab]; exact Nat.le_refl _
   by_cases hs : b.tick.say = true
   · rw [if_pos hs]
     show AOk S (if 100 ≤ i ∨ (rn n a al + 1) % k ≠ 0 then a1.outC.inP (b.tick.packet 0 []) else a1.outC) _ ∧ _
     unfold deliver
     by_cases hw : 100 ≤ i ∨ (rn n a al + 1) % k ≠ 0
     · rw [if_pos hw]
       exact ⟨q1, by rw [show (deliver i k (rn n a al + 1) [] (a1.outC.inP (b.tick.packet 0 []))) = a1.outC.inP (b.tick.packet 0 []) from rfl, q2, hab, haou], q3, fun _ => q4, fun _ hk2 _ => ⟨q4, q5 hk2⟩, hyes⟩
     rw [if_neg hw]
     exact ⟨hno.1, hno.2.1, hno.2.2.1, hno.2.2.2.1, fun q => (hw (.inl q)).elim, hno.2.2.2.2⟩
   rw [if_neg hs]
   exact ⟨hno.1, hno.2.1, hno.2.2.1, hno.2.2.2.1, fun _ hk2 hs2 => (hs (by show (b.say || _ || _ || _) = true; rw [hs2]; rfl)).elim, hno.2.2.2.2⟩
 obtain ⟨r1, r2, r3, r4, r5, r6⟩ := hAr
 have hD3l := hD3.lo
 have hD3h := hD3.hi
 refine ⟨⟨r1, ⟨hB3.own, hB3.reset, hB3.peer, hB3.plt, hB3.met, hB3.out, hB3.base, hB3.sent⟩, rfl, (by show _ ≤ (rb i k n a b al).got; omega), (by show (rb i k n a b al).got ≤ _; omega)⟩, hD3l, by omega, hD3.dat, fun hi j hj => ?_⟩
 have hall : rb i k n a b al = a1.outL.foldl Cn.inP b.tick.outC := by unfold rb; rw [← hea, deliver_all hi]
 show (rb i k n a b al).got = S.length ∨ _
 by_cases hdone : b.got = S.length
 · exact .inl (by omega)
 have hpos : 0 < a1.out.length := by rw [hol]; omega
 have hs1 : a1.say = true := hsay hpos
 have hF1 : (rb i k n a b al).say = true ∧ (rb i k n a b al).known = true := by
   rw [hall]
   have hne : ∃ p ps, a1.outL = p :: ps ∧ ∃ s m, s + m ≤ a1.out.length ∧ p = a1.packet s ((a1.out.drop s).take m) ∧ (a1.known = false ∨ m ≠ 0) := by
     unfold Cn.outL
     rw [if_neg (by rw [ha1.reset]; decide), hs1, hs0]
     cases hk1 : a1.known with
     | false => exact ⟨_, [], rfl, 0, 0, by omega, by rw [List.take_zero]; rfl, .inl rfl⟩
     | true =>
       have hc : a1.chunks 5 0 = a1.packet 0 ((a1.out.drop 0).take (min (a1.out.length - 0) 1024)) :: a1.chunks 4 (0 + min (a1.out.length - 0) 1024) := chunks_cons (by omega)
       show ∃ p ps, (if (true && (a1.chunks 5 0).isEmpty) = true then _ else a1.chunks 5 0) = _ ∧ _
       rw [hc]
       exact ⟨_, _, rfl, 0, min (a1.out.length - 0) 1024, by omega, rfl, .inr (by omega)⟩
   obtain ⟨p, ps, e, s, m, hsm, ep, hw⟩ := hne
   rw [e]
   have q := b_in (s := s) (m := m) hT ha1 hb2 hd0 hgl hsm
   rw [← ep] at q
   exact fold_say hT ha1 hgl ps _ (fun x hx => hform x (by rw [e]; exact List.mem_cons_of_mem _ hx)) q.1 q.2.1 (q.2.2.2.2.1 (.inr hw)) q.2.2.2.1
 have hF3 : a.known = true → a1.base + a1.out.length ≤ (rb i k n a b al).got := by
   intro hk
   rw [hall]
   have e : a1.outL = a1.chunks 5 0 := by
     have hc : a1.chunks 5 0 = a1.packet 0 ((a1.out.drop 0).take (min (a1.out.length - 0) 1024)) :: a1.chunks 4 (0 + min (a1.out.length - 0) 1024) := chunks_cons (by omega)
     unfold Cn.outL
     rw [if_neg (by rw [ha1.reset]; decide), hs1, hs0, hkn, hk]
     show (if (true && (a1.chunks 5 0).isEmpty) = true then _ else a1.chunks 5 0) = _
     rw [hc]; rfl
   rw [e]
   have hl := ha1.len
   exact chunks_got hT ha1 (by rw [hkn]; exact hk) hgl 5 0 _ hb2 hd0 (by rw [hbg]; exact hgl) (by omega) (by omega)
 rcases hj with hj | ⟨j1, j2, j3, j4, j5⟩
 · exact (hdone hj).elim
 by_cases hj4 : 4 ≤ j
 · have h1 := hF3 (j2 (by omega))
   have h2 := j4 hj4
   exact .inl (by omega)
 refine .inr ⟨fun _ => ⟨hF1.2, hF1.1⟩, fun q => ?_, fun q => ?_, fun q => ?_, by omega⟩
 · have h1 := j1 (by omega)
   exact (r5 hi h1.1 h1.2).1
 · have h1 := hF3 (j2 (by omega))
   show _ ≤ (rb i k n a b al).got
   omega
 have h1 := j1 (by omega)
 have h2 := (r5 hi h1.1 h1.2).2
 have h3 := j3 (by omega)
 show _ ≤ (rfa i k n a b al).base
 omega
def catP (ps : List Pd) : List UInt8 := ps.flatMap encP
def offP (ps : List Pd) (g : Nat) : Nat := (catP (ps.take g)).length
structure RInv (ps : List Pd) (G g : Nat) (r : Rdr) : Prop where
 b : r.b = ((catP ps).take G).drop (offP ps g)
 err : r.err = 0
 le : offP ps g ≤ G
 g : g ≤ ps.length
theorem frontE_take {b : List UInt8} {m : Nat} (hm : 52 ≤ m) (hb : 52 ≤ b.length) : frontE (b.take m) = frontE b := by
 have e1 : (b.take m).take 48 = b.take 48 := by rw [List.take_take, Nat.min_eq_left (by omega)]
 have e2 : ((b.take m).drop 48).take 4 = (b.drop 48).take 4 := by rw [List.drop_take, List.take_take, Nat.min_eq_left (by omega)]
 have e3 : ((b.take m).drop 4).take 4 = (b.drop 4).take 4 := by rw [List.drop_take, List.take_take, Nat.min_eq_left (by omega)]
 have e4 : ∀ i, i < 52 → (b.take m).getD i 0 = b.getD i 0 := fun i hi => by
   rw [List.getD_eq_getElem?_getD, List.getD_eq_getElem?_getD, List.getElem?_take, if_pos (by omega)]
 unfold frontE dataN
 rw [e1, e2, e3, e4 0 (by omega), e4 3 (by omega), if_neg (show ¬ (b.take m).length < 52 by rw [List.length_take]; omega), if_neg (show ¬ b.length < 52 by omega)]
theorem short_dec {p : Pd} {m : Nat} (h : okPd p) (hm : m < (encP p).length) : decE ((encP p).take m) = 3 := by
 by_cases h52 : m < 52
 · have hf : frontE ((encP p).take m) = 3 := front3 (by rw [List.length_take]; omega)
   rw [dec_front (by rw [hf]; decide), hf]
 have hfe := frontE_enc [] h
 rw [List.append_nil] at hfe
 have hl : 52 ≤ (encP p).length := by omega
 have hf : frontE ((encP p).take m) = 0 := by rw [frontE_take (by omega) hl, hfe]
 have hdn : dataN ((encP p).take m) = p.data.length := by
   have e := dataN_enc (p := p) [] h.2.1
   rw [List.append_nil] at e
   unfold dataN at e ⊢
   rw [List.drop_take, List.take_take, Nat.min_eq_left (by omega)]; exact e
 have hd := decE_enc [] h
 rw [List.append_nil] at hd
 have hdN := hd.2.1
 have hdn2 := dataN_enc (p := p) [] h.2.1
 rw [List.append_nil] at hdn2
 by_cases h0 : p.data.length = 0
 · rw [decN_none (by rw [hdn2]; exact h0)] at hdN
   omega
 rw [decN_some (by rw [hdn2]; exact h0), hdn2] at hdN
 refine dec3 rfl hf (by rw [hdn]; exact h0) ?_
 rw [hdn, List.length_drop, List.length_take]
 omega
theorem catP_split {ps : List Pd} {g : Nat} {p : Pd} (h : ps[g]? = some p) : (catP ps).drop (offP ps g) = encP p ++ (catP ps).drop (offP ps (g + 1)) ∧ offP ps (g + 1) = offP ps g + (encP p).length := by
 have hg := (List.getElem?_eq_some_iff.1 h).1
 have he := (List.getElem?_eq_some_iff.1 h).2
 have e : ∀ g, catP ps = catP (ps.take g) ++ catP (ps.drop g) := fun g => by unfold catP; rw [← List.flatMap_append, List.take_append_drop]
 have e1 : ∀ g, (catP ps).drop (offP ps g) = catP (ps.drop g) := fun g => by
   unfold offP
   have := e g
   generalize catP ps = X at this ⊢
   rw [this, List.drop_left]
 have e2 : catP (ps.drop g) = encP p ++ catP (ps.drop (g + 1)) := by
   unfold catP
   rw [List.drop_eq_getElem_cons hg, List.flatMap_cons, he]
 refine ⟨by rw [e1, e1, e2], ?_⟩
 unfold offP
 rw [List.take_add_one, h]
 unfold catP
 rw [List.flatMap_append, List.length_append]; simp
theorem offP_le (ps : List Pd) (g : Nat) : offP ps g ≤ (catP ps).length := by
 unfold offP catP
 have e : ps = ps.take g ++ ps.drop g := (List.take_append_drop ..).symm
 have h : ps.flatMap encP = (ps.take g).flatMap encP ++ (ps.drop g).flatMap encP := by rw [← List.flatMap_append, ← e]
 rw [h, List.length_append]; omega
theorem next_cases {ps : List Pd} {G g : Nat} {r : Rdr} (hok : ∀ p ∈ ps, okPd p) (hG : G ≤ (catP ps).length) (h : RInv ps G g r) :
   (r.next.1.2 = false ∧ r.next.2 = r ∧ (G = (catP ps).length → g = ps.length ∧ r.b = [])) ∨ (∃ p, ps[g]? = some p ∧ r.next.1 = (p, true) ∧ RInv ps G (g + 1) r.next.2) := by
 obtain ⟨hb, he, hle, hg⟩ := h
 by_cases hgl : g = ps.length
 · have ho : offP ps g = (catP ps).length := by unfold offP; rw [hgl, List.take_length]
   have hbn : r.b = [] := by rw [hb, List.drop_of_length_le (by rw [List.length_take]; omega)]
   have hn := next_short (r := r) he (by rw [hbn]; exact (dec_front (bs := []) (by decide)).trans rfl)
   rw [hn]
   exact .inl ⟨rfl, rfl, fun _ => ⟨hgl, hbn⟩⟩
 obtain ⟨p, hp⟩ : ∃ p, ps[g]? = some p := ⟨ps[g]'(by omega), List.getElem?_eq_getElem _⟩
 have hpm := hok p (List.mem_of_getElem? hp)
 obtain ⟨s1, s2⟩ := catP_split hp
 have hb2 : r.b = (encP p ++ (catP ps).drop (offP ps (g + 1))).take (G - offP ps g) := by rw [hb, List.drop_take, s1]
 by_cases hsh : G - offP ps g < (encP p).length
 · rw [List.take_append_of_le_length (by omega)] at hb2
   have hn := next_short (r := r) he (by rw [hb2]; exact short_dec hpm hsh)
   rw [hn]
   refine .inl ⟨rfl, rfl, fun q => ?_⟩
   have := offP_le ps (g + 1)
   omega
 have hb3 : r.b = encP p ++ ((catP ps).drop (offP ps (g + 1))).take (G - offP ps (g + 1)) := by
   rw [hb2, List.take_append, List.take_of_length_le (by omega), s2, Nat.sub_sub]
 have hd := decE_enc (((catP ps).drop (offP ps (g + 1))).take (G - offP ps (g + 1))) hpm
 rw [← hb3] at hd
 have hn := next_ok (r := r) he hd.1
 rw [hn]
 refine .inr ⟨p, hp, by rw [hd.2.2], ⟨?_, rfl, by omega, by have := (List.getElem?_eq_some_iff.1 hp).1; omega⟩⟩
 show r.b.drop (decN r.b) = _
 rw [hd.2.1, hb3, List.drop_left, List.drop_take]
theorem put_inv {ps : List Pd} {G G2 g : Nat} {r : Rdr} {x : List UInt8} (h : RInv ps G g r) (h2 : G ≤ G2) (hl : G ≤ (catP ps).length) (hx : x = ((catP ps).take G2).drop G) : RInv ps G2 g (r.put x) := by
 obtain ⟨hb, he, hle, hg⟩ := h
 rw [put_ok he]
 refine ⟨?_, he, by omega, hg⟩
 show r.b ++ x = _
 obtain ⟨d, rfl⟩ : ∃ d, G2 = G + d := ⟨G2 - G, by omega⟩
 have e : ((catP ps).take (G + d)).drop G = ((catP ps).drop G).take d := by rw [List.drop_take]; congr 1; omega
 rw [hb, hx, e, List.take_add, List.drop_append_of_le_length (by rw [List.length_take]; omega)]
def pdK (i n : Nat) : Pd := { zPd with tag := i, data := List.replicate n 0 }
def psK (l : List UInt8) (k : Nat) : List Pd := (List.range k).map fun i => pdK i (l.getD i 0).toNat
theorem psK_len (l : List UInt8) (k : Nat) : (psK l k).length = k := by unfold psK; rw [List.length_map, List.length_range]
theorem psK_succ (l : List UInt8) (k : Nat) : catP (psK l (k + 1)) = catP (psK l k) ++ encP (pdK k (l.getD k 0).toNat) := by
 unfold psK catP
 rw [List.range_succ, List.map_append, List.flatMap_append]; simp
theorem psK_get {l : List UInt8} {k g : Nat} {p : Pd} (h : (psK l k)[g]? = some p) : g < k ∧ p = pdK g (l.getD g 0).toNat := by
 have hg := (List.getElem?_eq_some_iff.1 h).1
 rw [psK_len] at hg
 refine ⟨hg, ?_⟩
 unfold psK at h
 rw [List.getElem?_map, List.getElem?_range hg] at h
 exact (Option.some.inj h).symm
theorem pdK_ok {i n : Nat} (hi : i < 4294967296) (hn : n ≤ 255) : okPd (pdK i n) := by
 refine ⟨⟨rfl, rfl, (show (0 : Nat) < 128 by decide), (show (0 : Nat) < 256 by decide)⟩, ?_, ?_⟩
 · show (List.replicate n (0 : UInt8)).length ≤ 4096
   rw [List.length_replicate]; omega
 intro v hv
 simp only [nums, pdK, zPd, List.mem_cons, List.not_mem_nil, or_false] at hv
 rcases hv with rfl | rfl | rfl | rfl | rfl | rfl <;> first | exact hi | decide
theorem pdK_len {i n : Nat} (hi : i < 4294967296) (hn : n ≤ 255) : (encP (pdK i n)).length ≤ 312 := by
 have h := pdK_ok hi hn
 have hd := (decE_enc [] h).2.1
 rw [List.append_nil] at hd
 have hn2 := dataN_enc (p := pdK i n) [] h.2.1
 rw [List.append_nil] at hn2
 have e : (pdK i n).data.length = n := List.length_replicate
 rw [← hd]
 unfold decN wholeN
 rw [hn2, e]
 split <;> omega
theorem psK_ok {l : List UInt8} {k : Nat} (hk : k ≤ 20) : ∀ p ∈ psK l k, okPd p := by
 intro p hp
 obtain ⟨g, hg⟩ := List.mem_iff_getElem?.1 hp
 obtain ⟨h1, h2⟩ := psK_get hg
 rw [h2]
 exact pdK_ok (by omega) (by have := (l.getD g 0).toNat_lt; omega)
theorem psK_cat {l : List UInt8} : ∀ k, k ≤ 20 → (catP (psK l k)).length ≤ 312 * k
 | 0, _ => by show (0 : Nat) ≤ 0; omega
 | k + 1, h => by
   have h1 := psK_cat (l := l) k (by omega)
   have h2 := pdK_len (i := k) (n := (l.getD k 0).toNat) (by omega) (by have := (l.getD k 0).toNat_lt; omega)
   rw [psK_succ, List.length_append]; omega
end Go.Sl.TpM
