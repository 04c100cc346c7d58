/-
  The document's unit: commands: the contracts. Lines of walks printed by a program of the prover's.
-/
import Derived.Test.YtdpakoefdpmebaaGreatRef4
namespace Go.Proofs.YtdpakoefdpmebaaGreat
open Go Go.Sl Go.Sl.BitM Go.Sl.SpM Go.Sl.RsM Go.Sl.ByM Go.Sl.UnM
set_option linter.unusedVariables false
set_option linter.unusedSimpArgs false
set_option maxHeartbeats 1000000
set_option maxRecDepth 8000
variable {W0 w : World} {L F : List HProp}


theorem rslice_of {pc : PoolK} {A : HProp} {v : Value} {bs : List UInt8} (h : On W0 (A :: PoolC pc :: L) w) (hm : inB pc v bs) : ∃ a c, v = .slice a bs.length c := by
  have C := h.reads (Gives.poolC (L := L) hm).b
  have hf := C.form
  obtain ⟨a, c, hv, _⟩ := hf
  exact ⟨a, c, hv⟩

theorem rdo_ok {bu : Nat} {u : Un} {pc : PoolK} {hh : Int} {kind at_ n key new typ : Int} {force : Bool} {data : List UInt8} {ax : Option Addr} {cx : Nat} (hsm : small 999000 u) (hgu_ : goodU u) (hcm : okCm (⟨kind, at_, n, data, key, new, typ, force⟩ : Cm)) (h : On W0 (RefU 106 110 128 bu pc u :: PoolC pc :: L) w) (C : Gives L (Bytes (.slice ax data.length cx) data)) (hd : data.length ≤ 1000000) : Calls Tryz.prog 24 #[.pointer (some ⟨bu, 0, none⟩), .int .i64 hh, (⟨kind, at_, n, data, key, new, typ, force⟩ : Cm).val (.slice ax data.length cx)] w (Ret fun v w' => ∃ pc' u' r dv, doM u hh (⟨kind, at_, n, data, key, new, typ, force⟩ : Cm) = (u', r) ∧ v = r.val dv ∧ subK pc pc' ∧ inB pc' dv r.data ∧ On W0 (RefU 106 110 128 bu pc' u' :: PoolC pc' :: L) w') := by
  refine enter Tryz.func24 rfl Tryz.ntmps24 rfl ?_
  have hmx := maxLen_eq
  have hu := RefU_nil h
  obtain ⟨hnil, hg8, hwf⟩ := hu
  have hgt := hgu_.1
  have hgok := hgt.1
  have hty6 := goodT_le hgt
  have egen : u.t.gen = ((u.t.gen.toNat : Nat) : Int) := by have := hgok.2; omega
  refine W.seq (W.region (WL.eff (eff_box (v := .agg _) (l := (⟨kind, at_, n, data, key, new, typ, force⟩ : Cm).cells (.slice ax data.length cx)) h rfl rfl) rfl rfl ?_))
  rintro _ w ⟨b5, rfl, h⟩
  have h : On W0 (blk b5 [.int .i64 kind, .int .i64 at_, .int .i64 n, .slice ax data.length cx, .int .u64 key, .int .u64 new, .int .i64 typ, .bool force] 25 :: _) w := h
  refine WL.eff (eff_alloc h Tryz.zeroValue36 rfl) rfl rfl ?_
  rintro _ w ⟨b6, rfl, h⟩
  refine WL.nil (W.seq (W.seq (W.region (WL.val run_move rfl rfl ?_))))
  refine WL.dec (run_lss rfl rfl) rfl rfl (fun c21 => ?_) (fun c21 => ?_)
  ·
   refine WL.val run_move rfl rfl (WL.skip rfl rfl (WL.skip rfl rfl (WL.val (run_pickT rfl) rfl rfl (WL.val run_move rfl rfl (WL.skip rfl rfl (WL.skip rfl rfl (WL.skip rfl rfl ?_)))))))
   refine WL.val (run_pickT rfl) rfl rfl (WL.val run_move rfl rfl (WL.skip rfl rfl (WL.skip rfl rfl (WL.skip rfl rfl (WL.val (run_pickT rfl) rfl rfl (WL.nil (W.condT rfl ?_)))))))
   refine W.seq (W.region (WL.eff (eff_call Tryz.call55 (rwrong5_ok h)) rfl rfl ?_))
   rintro _ w ⟨rfl, h⟩
   refine WL.eff (eff_storeW (vs := [.int .i64 _, .int .i64 _, .int .i64 _, .slice _ _ _, .int .i64 _]) h Tryz.sizeOf36 rfl rfl rfl rfl rfl) rfl rfl ?_
   rintro _ w h
   refine WL.nil (W.ret (bodyQ.rcB (vs := [.int .i64 _, .int .i64 _, .int .i64 _, .slice _ _ _, .int .i64 _]) h Tryz.results24 Tryz.isAgg36 Tryz.sizeOf36 rfl rfl rfl ?_))
   exact ⟨pc, u, plain 2 5 8192, .slice none 0 0, doM_bad (.inl (hostB_no.2 (by omega))), rfl, subK_refl, hnil, h.to⟩
  refine WL.val run_move rfl rfl (WL.val run_move rfl rfl ?_)
  refine WL.dec (run_geq rfl rfl) rfl rfl (fun c24 => ?_) (fun c24 => ?_)
  ·
   refine WL.val (run_pickF rfl) rfl rfl (WL.val run_move rfl rfl (WL.skip rfl rfl (WL.skip rfl rfl (WL.skip rfl rfl (WL.val (run_pickT rfl) rfl rfl (WL.val run_move rfl rfl (WL.skip rfl rfl ?_)))))))
   refine WL.skip rfl rfl (WL.skip rfl rfl (WL.val (run_pickT rfl) rfl rfl (WL.nil (W.condT rfl (W.seq (W.region (WL.eff (eff_call Tryz.call55 (rwrong5_ok h)) rfl rfl ?_)))))))
   rintro _ w ⟨rfl, h⟩
   refine WL.eff (eff_storeW (vs := [.int .i64 _, .int .i64 _, .int .i64 _, .slice _ _ _, .int .i64 _]) h Tryz.sizeOf36 rfl rfl rfl rfl rfl) rfl rfl ?_
   rintro _ w h
   refine WL.nil (W.ret (bodyQ.rcB (vs := [.int .i64 _, .int .i64 _, .int .i64 _, .slice _ _ _, .int .i64 _]) h Tryz.results24 Tryz.isAgg36 Tryz.sizeOf36 rfl rfl rfl ?_))
   exact ⟨pc, u, plain 2 5 8192, .slice none 0 0, doM_bad (.inl (hostB_no.2 (by omega))), rfl, subK_refl, hnil, h.to⟩
  refine WL.val (run_pickF rfl) rfl rfl (WL.val run_move rfl rfl (WL.val (run_fieldAddr 0 Tryz.underlying25 rfl Tryz.sizeOf3 rfl rfl) rfl rfl (WL.val (run_load1 Tryz.isAgg3 rfl (h.cellB rfl)) rfl rfl ?_)))
  refine WL.dec (run_lss rfl rfl) rfl rfl (fun c29 => ?_) (fun c29 => ?_)
  ·
   refine WL.val (run_pickF rfl) rfl rfl (WL.val run_move rfl rfl (WL.skip rfl rfl (WL.skip rfl rfl (WL.skip rfl rfl (WL.val (run_pickT rfl) rfl rfl (WL.nil (W.condT rfl ?_)))))))
   refine W.seq (W.region (WL.eff (eff_call Tryz.call55 (rwrong5_ok h)) rfl rfl ?_))
   rintro _ w ⟨rfl, h⟩
   refine WL.eff (eff_storeW (vs := [.int .i64 _, .int .i64 _, .int .i64 _, .slice _ _ _, .int .i64 _]) h Tryz.sizeOf36 rfl rfl rfl rfl rfl) rfl rfl ?_
   rintro _ w h
   refine WL.nil (W.ret (bodyQ.rcB (vs := [.int .i64 _, .int .i64 _, .int .i64 _, .slice _ _ _, .int .i64 _]) h Tryz.results24 Tryz.isAgg36 Tryz.sizeOf36 rfl rfl rfl ?_))
   exact ⟨pc, u, plain 2 5 8192, .slice none 0 0, doM_bad (.inr (.inl (show kind < 1 by omega))), rfl, subK_refl, hnil, h.to⟩
  refine WL.val (run_pickF rfl) rfl rfl (WL.val run_move rfl rfl (WL.val (run_fieldAddr 0 Tryz.underlying25 rfl Tryz.sizeOf3 rfl rfl) rfl rfl (WL.val (run_load1 Tryz.isAgg3 rfl (h.cellB rfl)) rfl rfl (WL.val (run_gtr rfl rfl) rfl rfl (WL.val (run_pickF rfl) rfl rfl (WL.nil ?_))))))
  refine W.condIf rfl (fun c2 => ?_) (fun c2 => ?_)
  ·
   refine W.seq (W.region (WL.eff (eff_call Tryz.call55 (rwrong5_ok h)) rfl rfl ?_))
   rintro _ w ⟨rfl, h⟩
   refine WL.eff (eff_storeW (vs := [.int .i64 _, .int .i64 _, .int .i64 _, .slice _ _ _, .int .i64 _]) h Tryz.sizeOf36 rfl rfl rfl rfl rfl) rfl rfl ?_
   rintro _ w h
   refine WL.nil (W.ret (bodyQ.rcB (vs := [.int .i64 _, .int .i64 _, .int .i64 _, .slice _ _ _, .int .i64 _]) h Tryz.results24 Tryz.isAgg36 Tryz.sizeOf36 rfl rfl rfl ?_))
   exact ⟨pc, u, plain 2 5 8192, .slice none 0 0, doM_bad (.inr (.inr (show 18 < kind by omega))), rfl, subK_refl, hnil, h.to⟩
  refine W.skip (W.seq (W.seq ?_))
  have hh0 := Int.eq_ofNat_of_zero_le (show 0 ≤ hh by omega)
  obtain ⟨i, hh0⟩ := hh0
  subst hh0
  have hi : i < 8 := by omega
  have hsi := small_le hsm (show 999000 ≤ 1000000 by decide) i hi
  refine W.region (WL.val (run_fieldAddr 0 Tryz.underlying25 rfl Tryz.sizeOf3 rfl rfl) rfl rfl (WL.val (run_load1 Tryz.isAgg3 rfl (h.cellB rfl)) rfl rfl (WL.val (run_eql rfl rfl) rfl rfl (WL.nil ?_))))
  refine W.condIf rfl (fun c7 => ?_) (fun c7 => ?_)
  ·
   refine W.seq (W.region (WL.val run_move rfl rfl (WL.val run_move rfl rfl (WL.eff (eff_call Tryz.call56 (rpop_ok (i := i) (u := u) hi hsi ((h.fetch (PoolC pc)).fetch (RefU 106 110 128 bu pc u)))) rfl rfl ?_))))
   rintro _ w hv
   rcases hv with ⟨x, l, hcx, rfl, pc2, hs2, h⟩ | ⟨hc0, rfl, h⟩
   ·
    refine WL.val run_move rfl rfl (WL.val (run_extract rfl rfl) rfl rfl (WL.val (run_extract rfl rfl) rfl rfl (WL.eff (eff_alloc h Tryz.zeroValue36 rfl) rfl rfl ?_)))
    rintro _ w ⟨b7, rfl, h⟩
    refine WL.eff (eff_storeW (vs := [.int .i64 _, .int .i64 _, .int .i64 _, .slice _ _ _, .int .i64 _]) h Tryz.sizeOf36 rfl rfl rfl rfl rfl) rfl rfl ?_
    rintro _ w h
    refine WL.val run_assign rfl rfl (WL.nil (W.seq ?_))
    have hxc := hgu_.2 i hi x (by rw [hcx]; exact List.mem_cons_self ..)
    have hxn := Int.eq_ofNat_of_zero_le hxc.1
    obtain ⟨xn, hxn⟩ := hxn
    subst hxn
    refine W.region (WL.val (run_loadB (vs := [.int .i64 _, .int .i64 _, .int .i64 _, .slice _ _ _, .int .i64 _]) h Tryz.isAgg36 Tryz.sizeOf36 rfl rfl rfl) rfl rfl (WL.eff (eff_call Tryz.call57 (renc5_ok (s := 2) (k := 6) (c := xn) (by decide) (by omega) h)) rfl rfl ?_))
    rintro _ w ⟨a47, rfl, h⟩
    refine WL.val (run_buildS (pl := [(0, 1), (1, 1), (2, 1), (3, 1), (4, 1)]) (out := [.int .i64 _, .int .i64 _, .int .i64 _, .slice _ _ _, .int .i64 _]) Tryz.underlying36 Tryz.zeroValue36 (fun w => by kernel_rfl) rfl (⟨⟨_, _, rfl, rfl, by decide⟩, trivial⟩) rfl) rfl rfl (WL.eff (eff_storeW (vs := [.int .i64 _, .int .i64 _, .int .i64 _, .slice _ _ _, .int .i64 _]) h Tryz.sizeOf36 rfl rfl rfl rfl rfl) rfl rfl ?_)
    rintro _ w h
    refine WL.nil (W.ret (bodyQ.rcB (vs := [.int .i64 _, .int .i64 _, .int .i64 _, .slice _ _ _, .int .i64 _]) h Tryz.results24 Tryz.isAgg36 Tryz.sizeOf36 rfl rfl rfl ?_))
    have hf := finB (L := L) (a := a47) (c := 18) (ys := senseB 6 xn) (h.to : On W0 (OwnB (.slice a47 (senseB 6 xn).length 18) (senseB 6 xn) :: RefU 106 110 128 bu pc2 (u.putG i (u.guest i).pop) :: PoolC pc2 :: L) _)
    obtain ⟨pc3, hs3, hin3, h⟩ := hf
    exact ⟨pc3, _, gave (senseB 6 xn), _, doM_sense1 (c := (⟨kind, at_, n, data, key, new, typ, force⟩ : Cm)) hi c7 hcx, rfl, hs2.trans hs3, hin3, h⟩
   refine WL.val run_move rfl rfl (WL.val (run_extract rfl rfl) rfl rfl (WL.val (run_extract rfl rfl) rfl rfl (WL.eff (eff_alloc h Tryz.zeroValue36 rfl) rfl rfl ?_)))
   rintro _ w ⟨b7, rfl, h⟩
   refine WL.eff (eff_storeW (vs := [.int .i64 _, .int .i64 _, .int .i64 _, .slice _ _ _, .int .i64 _]) h Tryz.sizeOf36 rfl rfl rfl rfl rfl) rfl rfl ?_
   rintro _ w h
   refine WL.val run_assign rfl rfl (WL.nil (W.seq (W.region (WL.val (run_loadB (vs := [.int .i64 _, .int .i64 _, .int .i64 _, .slice _ _ _, .int .i64 _]) h Tryz.isAgg36 Tryz.sizeOf36 rfl rfl rfl) rfl rfl (WL.eff (eff_call Tryz.call57 (renc5_ok (s := 0) (k := 0) (c := 0) (by decide) (by decide) h)) rfl rfl ?_)))))
   rintro _ w ⟨a47, rfl, h⟩
   refine WL.val (run_buildS (pl := [(0, 1), (1, 1), (2, 1), (3, 1), (4, 1)]) (out := [.int .i64 _, .int .i64 _, .int .i64 _, .slice _ _ _, .int .i64 _]) Tryz.underlying36 Tryz.zeroValue36 (fun w => by kernel_rfl) rfl (⟨⟨_, _, rfl, rfl, by decide⟩, trivial⟩) rfl) rfl rfl (WL.eff (eff_storeW (vs := [.int .i64 _, .int .i64 _, .int .i64 _, .slice _ _ _, .int .i64 _]) h Tryz.sizeOf36 rfl rfl rfl rfl rfl) rfl rfl ?_)
   rintro _ w h
   refine WL.nil (W.ret (bodyQ.rcB (vs := [.int .i64 _, .int .i64 _, .int .i64 _, .slice _ _ _, .int .i64 _]) h Tryz.results24 Tryz.isAgg36 Tryz.sizeOf36 rfl rfl rfl ?_))
   have hf := finB (L := L) (a := a47) (c := 18) (ys := senseB 0 0) (h.to : On W0 (OwnB (.slice a47 (senseB 0 0).length 18) (senseB 0 0) :: RefU 106 110 128 bu pc u :: PoolC pc :: L) _)
   obtain ⟨pc2, hs2, hin2, h⟩ := hf
   exact ⟨pc2, u, gave (senseB 0 0), _, doM_sense0 (c := (⟨kind, at_, n, data, key, new, typ, force⟩ : Cm)) hi c7 hc0, rfl, hs2, hin2, h⟩
  refine W.skip (W.seq (W.seq (W.region (WL.val (run_fieldAddr 0 Tryz.underlying25 rfl Tryz.sizeOf3 rfl rfl) rfl rfl (WL.val (run_load1 Tryz.isAgg3 rfl (h.cellB rfl)) rfl rfl (WL.val (run_neq rfl rfl) rfl rfl (WL.nil ?_)))))))
  refine W.condIf rfl (fun c13 => ?_) (fun c13 => ?_)
  ·
   refine W.seq (W.region (WL.val run_move rfl rfl (WL.val run_move rfl rfl (WL.eff (eff_call Tryz.call56 (rpop_ok (i := i) (u := u) hi hsi ((h.fetch (PoolC pc)).fetch (RefU 106 110 128 bu pc u)))) rfl rfl ?_))))
   rintro _ w hv
   rcases hv with ⟨x, l, hcx, rfl, pc2, hs2, h⟩ | ⟨hc0, rfl, h⟩
   ·
    refine WL.val run_move rfl rfl (WL.val (run_extract rfl rfl) rfl rfl (WL.val (run_extract rfl rfl) rfl rfl (WL.eff (eff_alloc h Tryz.zeroValue36 rfl) rfl rfl ?_)))
    rintro _ w ⟨b9, rfl, h⟩
    refine WL.eff (eff_storeW (vs := [.int .i64 _, .int .i64 _, .int .i64 _, .slice _ _ _, .int .i64 _]) h Tryz.sizeOf36 rfl rfl rfl rfl rfl) rfl rfl ?_
    rintro _ w h
    refine WL.val run_assign rfl rfl (WL.nil (W.seq (W.region (WL.val run_move rfl rfl (WL.nil (W.condT rfl (W.seq ?_)))))))
    refine W.region (WL.val (run_loadB (vs := [.int .i64 _, .int .i64 _, .int .i64 _, .slice _ _ _, .int .i64 _]) h Tryz.isAgg36 Tryz.sizeOf36 rfl rfl rfl) rfl rfl (WL.eff (eff_storeW (vs := [.int .i64 _, .int .i64 _, .int .i64 _, .slice _ _ _, .int .i64 _]) h Tryz.sizeOf36 rfl rfl rfl rfl rfl) rfl rfl ?_))
    rintro _ w h
    refine WL.nil (W.ret (bodyQ.rcB (vs := [.int .i64 _, .int .i64 _, .int .i64 _, .slice _ _ _, .int .i64 _]) h Tryz.results24 Tryz.isAgg36 Tryz.sizeOf36 rfl rfl rfl ?_))
    exact ⟨pc2, _, _, .slice none 0 0, doM_pop (c := (⟨kind, at_, n, data, key, new, typ, force⟩ : Cm)) hi (show 1 ≤ kind by omega) (show kind ≤ 18 by omega) (show kind ≠ 9 from c7) (show kind ≠ 8 from c13) hcx, rfl, hs2, hs2 _ hnil, h.to⟩
   refine WL.val run_move rfl rfl (WL.val (run_extract rfl rfl) rfl rfl (WL.val (run_extract rfl rfl) rfl rfl (WL.eff (eff_alloc h Tryz.zeroValue36 rfl) rfl rfl ?_)))
   rintro _ w ⟨b9, rfl, h⟩
   refine WL.eff (eff_storeW (vs := [.int .i64 _, .int .i64 _, .int .i64 _, .slice _ _ _, .int .i64 _]) h Tryz.sizeOf36 rfl rfl rfl rfl rfl) rfl rfl ?_
   rintro _ w h
   refine WL.val run_assign rfl rfl (WL.nil (W.seq (W.region (WL.val run_move rfl rfl (WL.nil (W.condF rfl (W.skip ?_)))))))
   refine W.seq (W.seq ?_)
   have hmx := maxLen_eq
   have ho := openF (h.fetch (RefU 106 110 128 bu pc u))
   obtain ⟨bs, bt, xs, hpk, h⟩ := ho
   have hl8 := xs_len hpk
   refine W.draw Tryz.follows h (fun w h => ?_)
   refine WT.pure 0 rfl (by kernel_rfl) (fun w' => run_move) rfl rfl (WT.pure 1 rfl (by kernel_rfl) (fun w' => (run_nilCheck rfl)) rfl rfl (WT.pure 2 rfl (by kernel_rfl) (fun w' => (run_fieldAddr 1 Tryz.underlying106 rfl Tryz.sizeOf99 rfl rfl)) rfl rfl (WT.load1 3 rfl (by kernel_rfl) Tryz.isAgg99 rfl (h.cellB rfl) rfl rfl (WT.pure 4 rfl (by kernel_rfl) (fun w' => run_move) rfl rfl (WT.pure 5 rfl (by kernel_rfl) (fun w' => (run_fieldAddr 0 Tryz.underlying25 rfl Tryz.sizeOf3 rfl rfl)) rfl rfl (WT.load1 6 rfl (by kernel_rfl) Tryz.isAgg3 rfl (h.cellB rfl) rfl rfl (WT.eff 7 [false, false] rfl (by kernel_rfl) (by kernel_rfl) (eff_call Tryz.call58 (rallows_ok (i := i) (t := u.t) (b := bt) (kind := kind) hi hty6 (goodT_hold hgt) (h.fetch (blk bt u.t.cells 128)))) rfl rfl ?_)))))))
   rintro _ w ⟨hv, h⟩
   have hcs := Bool.eq_false_or_eq_true (allowB u.t i kind)
   rcases hcs with hal | hal <;> (rw [hal] at hv; subst hv)
   all_goals (refine ⟨trivial, ?_⟩)
   ·
    refine WT.pure 8 rfl (by kernel_rfl) (fun w' => (run_not rfl)) rfl rfl (WT.done (by kernel_rfl) (W.condF rfl (W.skip (W.seq (W.seq ?_)))))
    have hfree : ((⟨kind, at_, n, data, key, new, typ, force⟩ : Cm).kind = 8 ∨ (u.guest i).codes = []) := .inr hc0
    refine W.region (WL.val (run_fieldAddr 0 Tryz.underlying25 rfl Tryz.sizeOf3 rfl rfl) rfl rfl (WL.val (run_load1 Tryz.isAgg3 rfl (h.cellB rfl)) rfl rfl (WL.nil (W.block (W.seq (W.region (WL.val (run_eql rfl rfl) rfl rfl ?_)))))))
    refine WL.val run_assign rfl rfl (WL.nil ?_)
    refine W.condIf rfl (fun c29 => ?_) (fun c29 => ?_)
    ·
     exact absurd c29 c13
    refine W.seq (W.region (WL.val (run_eql rfl rfl) rfl rfl (WL.val run_assign rfl rfl (WL.nil ?_))))
    refine W.condIf rfl (fun c33 => ?_) (fun c33 => ?_)
    ·
     refine W.seq ?_
     have ho := openR (h.fetch (RSpP 110 bs pc u.s))
     obtain ⟨bv, mv, m, hps, h⟩ := ho
     refine W.region (WL.val run_move rfl rfl (WL.val (run_nilCheck rfl) rfl rfl (WL.val (run_fieldAddr 0 Tryz.underlying106 rfl Tryz.sizeOf96 rfl rfl) rfl rfl (WL.val (run_load1 Tryz.isAgg96 rfl (h.cellB rfl)) rfl rfl (WL.val (run_nilCheck rfl) rfl rfl (WL.val (run_fieldAddr 0 Tryz.underlying110 rfl Tryz.sizeOf3 rfl rfl) rfl rfl (WL.val (run_load1 Tryz.isAgg3 rfl (h.cellB rfl)) rfl rfl ?_)))))))
     refine WL.eff (eff_call Tryz.call60 (rcap5_ok (n := u.s.N) hwf.2.1 hwf.2.2.1 h)) rfl rfl ?_
     rintro _ w ⟨a85, c85, rfl, h⟩
     refine WL.val (run_buildS (pl := [(0, 1), (1, 1), (2, 1), (3, 1), (4, 1)]) (out := [.int .i64 _, .int .i64 _, .int .i64 _, .slice _ _ _, .int .i64 _]) Tryz.underlying36 Tryz.zeroValue36 (fun w => by kernel_rfl) rfl (⟨⟨_, _, rfl, rfl, by decide⟩, trivial⟩) rfl) rfl rfl (WL.eff (eff_storeW (vs := [.int .i64 _, .int .i64 _, .int .i64 _, .slice _ _ _, .int .i64 _]) h Tryz.sizeOf36 rfl rfl rfl rfl rfl) rfl rfl ?_)
     rintro _ w h
     refine WL.nil (W.ret (bodyQ.rcB (vs := [.int .i64 _, .int .i64 _, .int .i64 _, .slice _ _ _, .int .i64 _]) h Tryz.results24 Tryz.isAgg36 Tryz.sizeOf36 rfl rfl rfl ?_))
     have h := closeR (b := bs) (s := u.s) hps (h.fetch (blk bs [.int .i64 (u.s.N : Int), bv, mv] 110))
     have h := closeF (bu := bu) (u := u) hpk ((((h.fetch (PoolC pc)).fetch (blk bt u.t.cells 128)).fetch (RSpP 110 bs pc u.s)).fetch (blk bu (rcells bs bt xs) 106))
     have hf := finB (L := L) (a := a85) (c := c85) (ys := capB u.s.N) (h.to : On W0 (OwnB (.slice a85 (capB u.s.N).length c85) (capB u.s.N) :: RefU 106 110 128 bu pc u :: PoolC pc :: L) _)
     obtain ⟨pc2, hs2, hin2, h⟩ := hf
     have he : actM u i (⟨kind, at_, n, data, key, new, typ, force⟩ : Cm) = (u, gave (capB u.s.N)) := by unfold actM; rw [if_neg (show ¬ kind = 1 by omega), if_neg (show ¬ kind = 8 by omega), if_pos (show kind = 7 by omega)]
     have hd := (doM_go (u := u) (i := i) (c := (⟨kind, at_, n, data, key, new, typ, force⟩ : Cm)) hi (show 1 ≤ kind by omega) (show kind ≤ 18 by omega) c7 hfree (allowB_iff.1 hal)).trans he
     exact ⟨pc2, u, gave (capB u.s.N), _, hd, rfl, hs2, hin2, h.to⟩
    refine W.seq (W.seq (W.region (WL.val (run_eql rfl rfl) rfl rfl (WL.val run_assign rfl rfl (WL.nil ?_)))))
    refine W.condIf rfl (fun c37 => ?_) (fun c37 => ?_)
    ·
     refine W.skip (W.condT (congrArg Value.bool (decide_eq_true c37)) (W.seq ?_))
     have h := closeF (bu := bu) (u := u) hpk ((((h.fetch (PoolC pc)).fetch (blk bt u.t.cells 128)).fetch (RSpP 110 bs pc u.s)).fetch (blk bu (rcells bs bt xs) 106))
     refine W.region (WL.val run_move rfl rfl (WL.val (run_loadB (vs := [.int .i64 _, .int .i64 _, .int .i64 _, .slice _ _ _, .int .u64 _, .int .u64 _, .int .i64 _, .bool _]) h Tryz.isAgg25 Tryz.sizeOf25 rfl rfl rfl) rfl rfl (WL.eff (eff_call Tryz.call61 (rblocks_ok (bu := bu) (u := u) (pc := pc) ((h.fetch (PoolC pc)).fetch (RefU 106 110 128 bu pc u)) (Gives.to C) hd)) rfl rfl ?_)))
     rintro _ w ⟨pc2, s', r', dv', heq, rfl, hs2, hin2, h⟩
     have hq := hs2
     have hdf := rslice_of h hin2
     obtain ⟨ad, cd, hdv⟩ := hdf
     subst hdv
     refine WL.eff (eff_storeW (vs := [.int .i64 _, .int .i64 _, .int .i64 _, .slice _ _ _, .int .i64 _]) h Tryz.sizeOf36 rfl rfl rfl rfl rfl) rfl rfl ?_
     rintro _ w h
     refine WL.nil (W.ret (bodyQ.rcB (vs := [.int .i64 _, .int .i64 _, .int .i64 _, .slice _ _ _, .int .i64 _]) h Tryz.results24 Tryz.isAgg36 Tryz.sizeOf36 rfl rfl rfl ?_))
     have he : actM u i (⟨kind, at_, n, data, key, new, typ, force⟩ : Cm) = (u.setS s', r') := by rw [actM_run (by show 2 ≤ kind; omega) (by show kind ≤ 6; omega), heq]
     have hd := (doM_go (u := u) (i := i) (c := (⟨kind, at_, n, data, key, new, typ, force⟩ : Cm)) hi (show 1 ≤ kind by omega) (show kind ≤ 18 by omega) c7 hfree (allowB_iff.1 hal)).trans he
     exact ⟨pc2, (u.setS s'), r', _, hd, rfl, hs2, hin2, h.to⟩
    refine W.seq (W.region (WL.val (run_eql rfl rfl) rfl rfl (WL.val run_assign rfl rfl (WL.nil ?_))))
    refine W.condIf rfl (fun c40 => ?_) (fun c40 => ?_)
    ·
     refine W.skip (W.condT (congrArg Value.bool (decide_eq_true c40)) (W.seq ?_))
     have h := closeF (bu := bu) (u := u) hpk ((((h.fetch (PoolC pc)).fetch (blk bt u.t.cells 128)).fetch (RSpP 110 bs pc u.s)).fetch (blk bu (rcells bs bt xs) 106))
     refine W.region (WL.val run_move rfl rfl (WL.val (run_loadB (vs := [.int .i64 _, .int .i64 _, .int .i64 _, .slice _ _ _, .int .u64 _, .int .u64 _, .int .i64 _, .bool _]) h Tryz.isAgg25 Tryz.sizeOf25 rfl rfl rfl) rfl rfl (WL.eff (eff_call Tryz.call61 (rblocks_ok (bu := bu) (u := u) (pc := pc) ((h.fetch (PoolC pc)).fetch (RefU 106 110 128 bu pc u)) (Gives.to C) hd)) rfl rfl ?_)))
     rintro _ w ⟨pc2, s', r', dv', heq, rfl, hs2, hin2, h⟩
     have hq := hs2
     have hdf := rslice_of h hin2
     obtain ⟨ad, cd, hdv⟩ := hdf
     subst hdv
     refine WL.eff (eff_storeW (vs := [.int .i64 _, .int .i64 _, .int .i64 _, .slice _ _ _, .int .i64 _]) h Tryz.sizeOf36 rfl rfl rfl rfl rfl) rfl rfl ?_
     rintro _ w h
     refine WL.nil (W.ret (bodyQ.rcB (vs := [.int .i64 _, .int .i64 _, .int .i64 _, .slice _ _ _, .int .i64 _]) h Tryz.results24 Tryz.isAgg36 Tryz.sizeOf36 rfl rfl rfl ?_))
     have he : actM u i (⟨kind, at_, n, data, key, new, typ, force⟩ : Cm) = (u.setS s', r') := by rw [actM_run (by show 2 ≤ kind; omega) (by show kind ≤ 6; omega), heq]
     have hd := (doM_go (u := u) (i := i) (c := (⟨kind, at_, n, data, key, new, typ, force⟩ : Cm)) hi (show 1 ≤ kind by omega) (show kind ≤ 18 by omega) c7 hfree (allowB_iff.1 hal)).trans he
     exact ⟨pc2, (u.setS s'), r', _, hd, rfl, hs2, hin2, h.to⟩
    refine W.seq (W.region (WL.val (run_eql rfl rfl) rfl rfl (WL.val run_assign rfl rfl (WL.nil ?_))))
    refine W.condIf rfl (fun c43 => ?_) (fun c43 => ?_)
    ·
     refine W.skip (W.condT (congrArg Value.bool (decide_eq_true c43)) (W.seq ?_))
     have h := closeF (bu := bu) (u := u) hpk ((((h.fetch (PoolC pc)).fetch (blk bt u.t.cells 128)).fetch (RSpP 110 bs pc u.s)).fetch (blk bu (rcells bs bt xs) 106))
     refine W.region (WL.val run_move rfl rfl (WL.val (run_loadB (vs := [.int .i64 _, .int .i64 _, .int .i64 _, .slice _ _ _, .int .u64 _, .int .u64 _, .int .i64 _, .bool _]) h Tryz.isAgg25 Tryz.sizeOf25 rfl rfl rfl) rfl rfl (WL.eff (eff_call Tryz.call61 (rblocks_ok (bu := bu) (u := u) (pc := pc) ((h.fetch (PoolC pc)).fetch (RefU 106 110 128 bu pc u)) (Gives.to C) hd)) rfl rfl ?_)))
     rintro _ w ⟨pc2, s', r', dv', heq, rfl, hs2, hin2, h⟩
     have hq := hs2
     have hdf := rslice_of h hin2
     obtain ⟨ad, cd, hdv⟩ := hdf
     subst hdv
     refine WL.eff (eff_storeW (vs := [.int .i64 _, .int .i64 _, .int .i64 _, .slice _ _ _, .int .i64 _]) h Tryz.sizeOf36 rfl rfl rfl rfl rfl) rfl rfl ?_
     rintro _ w h
     refine WL.nil (W.ret (bodyQ.rcB (vs := [.int .i64 _, .int .i64 _, .int .i64 _, .slice _ _ _, .int .i64 _]) h Tryz.results24 Tryz.isAgg36 Tryz.sizeOf36 rfl rfl rfl ?_))
     have he : actM u i (⟨kind, at_, n, data, key, new, typ, force⟩ : Cm) = (u.setS s', r') := by rw [actM_run (by show 2 ≤ kind; omega) (by show kind ≤ 6; omega), heq]
     have hd := (doM_go (u := u) (i := i) (c := (⟨kind, at_, n, data, key, new, typ, force⟩ : Cm)) hi (show 1 ≤ kind by omega) (show kind ≤ 18 by omega) c7 hfree (allowB_iff.1 hal)).trans he
     exact ⟨pc2, (u.setS s'), r', _, hd, rfl, hs2, hin2, h.to⟩
    refine W.seq (W.region (WL.val (run_eql rfl rfl) rfl rfl (WL.val run_assign rfl rfl (WL.nil ?_))))
    refine W.condIf rfl (fun c46 => ?_) (fun c46 => ?_)
    ·
     refine W.skip (W.condT (congrArg Value.bool (decide_eq_true c46)) (W.seq ?_))
     have h := closeF (bu := bu) (u := u) hpk ((((h.fetch (PoolC pc)).fetch (blk bt u.t.cells 128)).fetch (RSpP 110 bs pc u.s)).fetch (blk bu (rcells bs bt xs) 106))
     refine W.region (WL.val run_move rfl rfl (WL.val (run_loadB (vs := [.int .i64 _, .int .i64 _, .int .i64 _, .slice _ _ _, .int .u64 _, .int .u64 _, .int .i64 _, .bool _]) h Tryz.isAgg25 Tryz.sizeOf25 rfl rfl rfl) rfl rfl (WL.eff (eff_call Tryz.call61 (rblocks_ok (bu := bu) (u := u) (pc := pc) ((h.fetch (PoolC pc)).fetch (RefU 106 110 128 bu pc u)) (Gives.to C) hd)) rfl rfl ?_)))
     rintro _ w ⟨pc2, s', r', dv', heq, rfl, hs2, hin2, h⟩
     have hq := hs2
     have hdf := rslice_of h hin2
     obtain ⟨ad, cd, hdv⟩ := hdf
     subst hdv
     refine WL.eff (eff_storeW (vs := [.int .i64 _, .int .i64 _, .int .i64 _, .slice _ _ _, .int .i64 _]) h Tryz.sizeOf36 rfl rfl rfl rfl rfl) rfl rfl ?_
     rintro _ w h
     refine WL.nil (W.ret (bodyQ.rcB (vs := [.int .i64 _, .int .i64 _, .int .i64 _, .slice _ _ _, .int .i64 _]) h Tryz.results24 Tryz.isAgg36 Tryz.sizeOf36 rfl rfl rfl ?_))
     have he : actM u i (⟨kind, at_, n, data, key, new, typ, force⟩ : Cm) = (u.setS s', r') := by rw [actM_run (by show 2 ≤ kind; omega) (by show kind ≤ 6; omega), heq]
     have hd := (doM_go (u := u) (i := i) (c := (⟨kind, at_, n, data, key, new, typ, force⟩ : Cm)) hi (show 1 ≤ kind by omega) (show kind ≤ 18 by omega) c7 hfree (allowB_iff.1 hal)).trans he
     exact ⟨pc2, (u.setS s'), r', _, hd, rfl, hs2, hin2, h.to⟩
    refine W.region (WL.val (run_eql rfl rfl) rfl rfl (WL.val run_assign rfl rfl (WL.nil ?_)))
    refine W.condIf rfl (fun c49 => ?_) (fun c49 => ?_)
    ·
     refine W.seq ?_
     have h := closeF (bu := bu) (u := u) hpk ((((h.fetch (PoolC pc)).fetch (blk bt u.t.cells 128)).fetch (RSpP 110 bs pc u.s)).fetch (blk bu (rcells bs bt xs) 106))
     refine W.region (WL.val run_move rfl rfl (WL.val (run_loadB (vs := [.int .i64 _, .int .i64 _, .int .i64 _, .slice _ _ _, .int .u64 _, .int .u64 _, .int .i64 _, .bool _]) h Tryz.isAgg25 Tryz.sizeOf25 rfl rfl rfl) rfl rfl (WL.eff (eff_call Tryz.call61 (rblocks_ok (bu := bu) (u := u) (pc := pc) ((h.fetch (PoolC pc)).fetch (RefU 106 110 128 bu pc u)) (Gives.to C) hd)) rfl rfl ?_)))
     rintro _ w ⟨pc2, s', r', dv', heq, rfl, hs2, hin2, h⟩
     have hq := hs2
     have hdf := rslice_of h hin2
     obtain ⟨ad, cd, hdv⟩ := hdf
     subst hdv
     refine WL.eff (eff_storeW (vs := [.int .i64 _, .int .i64 _, .int .i64 _, .slice _ _ _, .int .i64 _]) h Tryz.sizeOf36 rfl rfl rfl rfl rfl) rfl rfl ?_
     rintro _ w h
     refine WL.nil (W.ret (bodyQ.rcB (vs := [.int .i64 _, .int .i64 _, .int .i64 _, .slice _ _ _, .int .i64 _]) h Tryz.results24 Tryz.isAgg36 Tryz.sizeOf36 rfl rfl rfl ?_))
     have he : actM u i (⟨kind, at_, n, data, key, new, typ, force⟩ : Cm) = (u.setS s', r') := by rw [actM_run (by show 2 ≤ kind; omega) (by show kind ≤ 6; omega), heq]
     have hd := (doM_go (u := u) (i := i) (c := (⟨kind, at_, n, data, key, new, typ, force⟩ : Cm)) hi (show 1 ≤ kind by omega) (show kind ≤ 18 by omega) c7 hfree (allowB_iff.1 hal)).trans he
     exact ⟨pc2, (u.setS s'), r', _, hd, rfl, hs2, hin2, h.to⟩
    refine W.seq (W.seq (W.region (WL.val (run_eql rfl rfl) rfl rfl (WL.val run_assign rfl rfl (WL.nil ?_)))))
    refine W.condIf rfl (fun c53 => ?_) (fun c53 => ?_)
    ·
     refine W.skip (W.condT (congrArg Value.bool (decide_eq_true c53)) (W.seq ?_))
     refine W.draw Tryz.follows h (fun w h => ?_)
     refine WT.pure 0 rfl (by kernel_rfl) (fun w' => run_move) rfl rfl (WT.pure 1 rfl (by kernel_rfl) (fun w' => (run_nilCheck rfl)) rfl rfl (WT.pure 2 rfl (by kernel_rfl) (fun w' => (run_fieldAddr 1 Tryz.underlying106 rfl Tryz.sizeOf99 rfl rfl)) rfl rfl (WT.load1 3 rfl (by kernel_rfl) Tryz.isAgg99 rfl (h.cellB rfl) rfl rfl (WT.pure 4 rfl (by kernel_rfl) (fun w' => run_move) rfl rfl (WT.pure 5 rfl (by kernel_rfl) (fun w' => (run_fieldAddr 4 Tryz.underlying25 rfl Tryz.sizeOf23 rfl rfl)) rfl rfl (WT.load1 6 rfl (by kernel_rfl) Tryz.isAgg23 rfl (h.cellB rfl) rfl rfl (WT.pure 7 rfl (by kernel_rfl) (fun w' => (run_fieldAddr 5 Tryz.underlying25 rfl Tryz.sizeOf23 rfl rfl)) rfl rfl ?_)))))))
     refine WT.load1 8 rfl (by kernel_rfl) Tryz.isAgg23 rfl (h.cellB rfl) rfl rfl (WT.pure 9 rfl (by kernel_rfl) (fun w' => (run_fieldAddr 0 Tryz.underlying25 rfl Tryz.sizeOf3 rfl rfl)) rfl rfl (WT.load1 10 rfl (by kernel_rfl) Tryz.isAgg3 rfl (h.cellB rfl) rfl rfl (WT.pure 11 rfl (by kernel_rfl) (fun w' => (run_eql rfl rfl)) rfl rfl ?_)))
     -- SEVERAL MAY COME UP: [(12, ' (*gemel/gemelref15.Table).Register(t103, t104, t106, t108, t111)'), (16, 'alloc api.Reply')]
     refine WT.two 12 16 (by kernel_rfl) ?_ ?_
     ·
      refine WT.opOf 12 [false, false, false, false] rfl (by kernel_rfl) (eff_call Tryz.call62 (rregister_ok (key := key) (fresh := new) (ign := decide (kind = 11)) (i := i) (t := u.t) (b := bt) hi hty6 (h.fetch (blk bt u.t.cells 128)))) rfl rfl ?_
      rintro v112 w ⟨a112, c112, hv112, h⟩
      have hX := rvM_reg (t := u.t) (i := i) (c := (⟨kind, at_, n, data, key, new, typ, force⟩ : Cm)) (show kind = 10 ∨ kind = 11 by omega)
      rw [← hX] at hv112 h
      subst hv112
      have h := setTb (bu := bu) (bs := bs) (t' := (rvM u.t i (⟨kind, at_, n, data, key, new, typ, force⟩ : Cm)).t) (u := u) hpk ((((h.fetch (PoolC pc)).fetch (blk bt (rvM u.t i (⟨kind, at_, n, data, key, new, typ, force⟩ : Cm)).t.cells 128)).fetch (RSpP 110 bs pc u.s)).fetch (blk bu (rcells bs bt xs) 106))
      refine ⟨trivial, ?_⟩
      refine WT.pure 13 rfl (by kernel_rfl) (fun w' => run_move) rfl rfl (WT.pure 14 rfl (by kernel_rfl) (fun w' => (run_extract rfl rfl)) rfl rfl (WT.pure 15 rfl (by kernel_rfl) (fun w' => (run_extract rfl rfl)) rfl rfl (WT.eff 16 [] rfl (by kernel_rfl) (by kernel_rfl) (eff_alloc h Tryz.zeroValue36 rfl) rfl rfl ?_)))
      rintro _ w ⟨b11, rfl, h⟩
      refine ⟨trivial, ?_⟩
      refine WT.eff 17 [] rfl (by kernel_rfl) (by kernel_rfl) (eff_storeW (vs := [.int .i64 _, .int .i64 _, .int .i64 _, .slice _ _ _, .int .i64 _]) h Tryz.sizeOf36 rfl rfl rfl rfl rfl) rfl rfl ?_
      rintro _ w h
      refine ⟨trivial, ?_⟩
      refine WT.pure 18 rfl (by kernel_rfl) (fun w' => run_assign) rfl rfl (WT.done (by kernel_rfl) (W.seq (W.region (WL.val run_move rfl rfl (WL.val run_move rfl rfl ?_)))))
      refine WL.eff (eff_call Tryz.call63 (rnotes_ok (bu := bu) (u := u.setT (rvM u.t i (⟨kind, at_, n, data, key, new, typ, force⟩ : Cm)).t) (pc := pc) (l := (rvM u.t i (⟨kind, at_, n, data, key, new, typ, force⟩ : Cm)).l) (code := (rvM u.t i (⟨kind, at_, n, data, key, new, typ, force⟩ : Cm)).code) (a := a112) (c := c112) rvM_l.2.2.2 rvM_l.2.1 hsm (((h.fetch (PoolC pc)).fetch (RefU 106 110 128 bu pc (u.setT (rvM u.t i (⟨kind, at_, n, data, key, new, typ, force⟩ : Cm)).t))).fetch (Own 2 (.slice a112 (rvM u.t i (⟨kind, at_, n, data, key, new, typ, force⟩ : Cm)).l.length c112) (rvM u.t i (⟨kind, at_, n, data, key, new, typ, force⟩ : Cm)).l.length (notesV (rvM u.t i (⟨kind, at_, n, data, key, new, typ, force⟩ : Cm)).code (rvM u.t i (⟨kind, at_, n, data, key, new, typ, force⟩ : Cm)).l))))) rfl rfl ?_
      rintro _ w ⟨pc2, hs2, h⟩
      refine WL.nil (W.seq (W.region (WL.val (run_loadB (vs := [.int .i64 _, .int .i64 _, .int .i64 _, .slice _ _ _, .int .i64 _]) h Tryz.isAgg36 Tryz.sizeOf36 rfl rfl rfl) rfl rfl (WL.eff (eff_storeW (vs := [.int .i64 _, .int .i64 _, .int .i64 _, .slice _ _ _, .int .i64 _]) h Tryz.sizeOf36 rfl rfl rfl rfl rfl) rfl rfl ?_))))
      rintro _ w h
      refine WL.nil (W.ret (bodyQ.rcB (vs := [.int .i64 _, .int .i64 _, .int .i64 _, .slice _ _ _, .int .i64 _]) h Tryz.results24 Tryz.isAgg36 Tryz.sizeOf36 rfl rfl rfl ?_))
      have he := actM_rv (u := u) (i := i) (c := (⟨kind, at_, n, data, key, new, typ, force⟩ : Cm)) (by show 10 ≤ kind; omega) (by show kind ≤ 15; omega)
      have hd := (doM_go (u := u) (i := i) (c := (⟨kind, at_, n, data, key, new, typ, force⟩ : Cm)) hi (show 1 ≤ kind by omega) (show kind ≤ 18 by omega) c7 hfree (allowB_iff.1 hal)).trans he
      exact ⟨pc2, _, (rvM u.t i (⟨kind, at_, n, data, key, new, typ, force⟩ : Cm)).r, .slice none 0 0, hd, rfl, hs2, (by rw [rvM_r]; exact hs2 _ hnil), h.to⟩
     refine WT.opOf 16 [true, true, true, true] rfl (by kernel_rfl) (eff_alloc h Tryz.zeroValue36 rfl) rfl rfl ?_
     rintro _ w ⟨b11, rfl, h⟩
     refine ⟨⟨h.cellB rfl, h.cellB rfl, h.cellB rfl, h.cellB rfl, trivial⟩, ?_⟩
     refine WT.eff 12 [false, false, false, false] rfl (by kernel_rfl) (by kernel_rfl) (eff_call Tryz.call62 (rregister_ok (key := key) (fresh := new) (ign := decide (kind = 11)) (i := i) (t := u.t) (b := bt) hi hty6 (h.fetch (blk bt u.t.cells 128)))) rfl rfl ?_
     rintro v112 w ⟨a112, c112, hv112, h⟩
     have hX := rvM_reg (t := u.t) (i := i) (c := (⟨kind, at_, n, data, key, new, typ, force⟩ : Cm)) (show kind = 10 ∨ kind = 11 by omega)
     rw [← hX] at hv112 h
     subst hv112
     have h := setTb (bu := bu) (bs := bs) (t' := (rvM u.t i (⟨kind, at_, n, data, key, new, typ, force⟩ : Cm)).t) (u := u) hpk ((((h.fetch (PoolC pc)).fetch (blk bt (rvM u.t i (⟨kind, at_, n, data, key, new, typ, force⟩ : Cm)).t.cells 128)).fetch (RSpP 110 bs pc u.s)).fetch (blk bu (rcells bs bt xs) 106))
     refine ⟨trivial, ?_⟩
     refine WT.pure 13 rfl (by kernel_rfl) (fun w' => run_move) rfl rfl (WT.pure 14 rfl (by kernel_rfl) (fun w' => (run_extract rfl rfl)) rfl rfl (WT.pure 15 rfl (by kernel_rfl) (fun w' => (run_extract rfl rfl)) rfl rfl (WT.eff 17 [] rfl (by kernel_rfl) (by kernel_rfl) (eff_storeW (vs := [.int .i64 _, .int .i64 _, .int .i64 _, .slice _ _ _, .int .i64 _]) h Tryz.sizeOf36 rfl rfl rfl rfl rfl) rfl rfl ?_)))
     rintro _ w h
     refine ⟨trivial, ?_⟩
     refine WT.pure 18 rfl (by kernel_rfl) (fun w' => run_assign) rfl rfl (WT.done (by kernel_rfl) (W.seq (W.region (WL.val run_move rfl rfl (WL.val run_move rfl rfl ?_)))))
     refine WL.eff (eff_call Tryz.call63 (rnotes_ok (bu := bu) (u := u.setT (rvM u.t i (⟨kind, at_, n, data, key, new, typ, force⟩ : Cm)).t) (pc := pc) (l := (rvM u.t i (⟨kind, at_, n, data, key, new, typ, force⟩ : Cm)).l) (code := (rvM u.t i (⟨kind, at_, n, data, key, new, typ, force⟩ : Cm)).code) (a := a112) (c := c112) rvM_l.2.2.2 rvM_l.2.1 hsm (((h.fetch (PoolC pc)).fetch (RefU 106 110 128 bu pc (u.setT (rvM u.t i (⟨kind, at_, n, data, key, new, typ, force⟩ : Cm)).t))).fetch (Own 2 (.slice a112 (rvM u.t i (⟨kind, at_, n, data, key, new, typ, force⟩ : Cm)).l.length c112) (rvM u.t i (⟨kind, at_, n, data, key, new, typ, force⟩ : Cm)).l.length (notesV (rvM u.t i (⟨kind, at_, n, data, key, new, typ, force⟩ : Cm)).code (rvM u.t i (⟨kind, at_, n, data, key, new, typ, force⟩ : Cm)).l))))) rfl rfl ?_
     rintro _ w ⟨pc2, hs2, h⟩
     refine WL.nil (W.seq (W.region (WL.val (run_loadB (vs := [.int .i64 _, .int .i64 _, .int .i64 _, .slice _ _ _, .int .i64 _]) h Tryz.isAgg36 Tryz.sizeOf36 rfl rfl rfl) rfl rfl (WL.eff (eff_storeW (vs := [.int .i64 _, .int .i64 _, .int .i64 _, .slice _ _ _, .int .i64 _]) h Tryz.sizeOf36 rfl rfl rfl rfl rfl) rfl rfl ?_))))
     rintro _ w h
     refine WL.nil (W.ret (bodyQ.rcB (vs := [.int .i64 _, .int .i64 _, .int .i64 _, .slice _ _ _, .int .i64 _]) h Tryz.results24 Tryz.isAgg36 Tryz.sizeOf36 rfl rfl rfl ?_))
     have he := actM_rv (u := u) (i := i) (c := (⟨kind, at_, n, data, key, new, typ, force⟩ : Cm)) (by show 10 ≤ kind; omega) (by show kind ≤ 15; omega)
     have hd := (doM_go (u := u) (i := i) (c := (⟨kind, at_, n, data, key, new, typ, force⟩ : Cm)) hi (show 1 ≤ kind by omega) (show kind ≤ 18 by omega) c7 hfree (allowB_iff.1 hal)).trans he
     exact ⟨pc2, _, (rvM u.t i (⟨kind, at_, n, data, key, new, typ, force⟩ : Cm)).r, .slice none 0 0, hd, rfl, hs2, (by rw [rvM_r]; exact hs2 _ hnil), h.to⟩
    refine W.region (WL.val (run_eql rfl rfl) rfl rfl (WL.val run_assign rfl rfl (WL.nil ?_)))
    refine W.condIf rfl (fun c56 => ?_) (fun c56 => ?_)
    ·
     refine W.seq ?_
     refine W.draw Tryz.follows h (fun w h => ?_)
     refine WT.pure 0 rfl (by kernel_rfl) (fun w' => run_move) rfl rfl (WT.pure 1 rfl (by kernel_rfl) (fun w' => (run_nilCheck rfl)) rfl rfl (WT.pure 2 rfl (by kernel_rfl) (fun w' => (run_fieldAddr 1 Tryz.underlying106 rfl Tryz.sizeOf99 rfl rfl)) rfl rfl (WT.load1 3 rfl (by kernel_rfl) Tryz.isAgg99 rfl (h.cellB rfl) rfl rfl (WT.pure 4 rfl (by kernel_rfl) (fun w' => run_move) rfl rfl (WT.pure 5 rfl (by kernel_rfl) (fun w' => (run_fieldAddr 4 Tryz.underlying25 rfl Tryz.sizeOf23 rfl rfl)) rfl rfl (WT.load1 6 rfl (by kernel_rfl) Tryz.isAgg23 rfl (h.cellB rfl) rfl rfl (WT.pure 7 rfl (by kernel_rfl) (fun w' => (run_fieldAddr 5 Tryz.underlying25 rfl Tryz.sizeOf23 rfl rfl)) rfl rfl ?_)))))))
     refine WT.load1 8 rfl (by kernel_rfl) Tryz.isAgg23 rfl (h.cellB rfl) rfl rfl (WT.pure 9 rfl (by kernel_rfl) (fun w' => (run_fieldAddr 0 Tryz.underlying25 rfl Tryz.sizeOf3 rfl rfl)) rfl rfl (WT.load1 10 rfl (by kernel_rfl) Tryz.isAgg3 rfl (h.cellB rfl) rfl rfl (WT.pure 11 rfl (by kernel_rfl) (fun w' => (run_eql rfl rfl)) rfl rfl ?_)))
     -- SEVERAL MAY COME UP: [(12, ' (*gemel/gemelref15.Table).Register(t103, t104, t106, t108, t111)'), (16, 'alloc api.Reply')]
     refine WT.two 12 16 (by kernel_rfl) ?_ ?_
     ·
      refine WT.opOf 12 [false, false, false, false] rfl (by kernel_rfl) (eff_call Tryz.call62 (rregister_ok (key := key) (fresh := new) (ign := decide (kind = 11)) (i := i) (t := u.t) (b := bt) hi hty6 (h.fetch (blk bt u.t.cells 128)))) rfl rfl ?_
      rintro v112 w ⟨a112, c112, hv112, h⟩
      have hX := rvM_reg (t := u.t) (i := i) (c := (⟨kind, at_, n, data, key, new, typ, force⟩ : Cm)) (show kind = 10 ∨ kind = 11 by omega)
      rw [← hX] at hv112 h
      subst hv112
      have h := setTb (bu := bu) (bs := bs) (t' := (rvM u.t i (⟨kind, at_, n, data, key, new, typ, force⟩ : Cm)).t) (u := u) hpk ((((h.fetch (PoolC pc)).fetch (blk bt (rvM u.t i (⟨kind, at_, n, data, key, new, typ, force⟩ : Cm)).t.cells 128)).fetch (RSpP 110 bs pc u.s)).fetch (blk bu (rcells bs bt xs) 106))
      refine ⟨trivial, ?_⟩
      refine WT.pure 13 rfl (by kernel_rfl) (fun w' => run_move) rfl rfl (WT.pure 14 rfl (by kernel_rfl) (fun w' => (run_extract rfl rfl)) rfl rfl (WT.pure 15 rfl (by kernel_rfl) (fun w' => (run_extract rfl rfl)) rfl rfl (WT.eff 16 [] rfl (by kernel_rfl) (by kernel_rfl) (eff_alloc h Tryz.zeroValue36 rfl) rfl rfl ?_)))
      rintro _ w ⟨b11, rfl, h⟩
      refine ⟨trivial, ?_⟩
      refine WT.eff 17 [] rfl (by kernel_rfl) (by kernel_rfl) (eff_storeW (vs := [.int .i64 _, .int .i64 _, .int .i64 _, .slice _ _ _, .int .i64 _]) h Tryz.sizeOf36 rfl rfl rfl rfl rfl) rfl rfl ?_
      rintro _ w h
      refine ⟨trivial, ?_⟩
      refine WT.pure 18 rfl (by kernel_rfl) (fun w' => run_assign) rfl rfl (WT.done (by kernel_rfl) (W.seq (W.region (WL.val run_move rfl rfl (WL.val run_move rfl rfl ?_)))))
      refine WL.eff (eff_call Tryz.call63 (rnotes_ok (bu := bu) (u := u.setT (rvM u.t i (⟨kind, at_, n, data, key, new, typ, force⟩ : Cm)).t) (pc := pc) (l := (rvM u.t i (⟨kind, at_, n, data, key, new, typ, force⟩ : Cm)).l) (code := (rvM u.t i (⟨kind, at_, n, data, key, new, typ, force⟩ : Cm)).code) (a := a112) (c := c112) rvM_l.2.2.2 rvM_l.2.1 hsm (((h.fetch (PoolC pc)).fetch (RefU 106 110 128 bu pc (u.setT (rvM u.t i (⟨kind, at_, n, data, key, new, typ, force⟩ : Cm)).t))).fetch (Own 2 (.slice a112 (rvM u.t i (⟨kind, at_, n, data, key, new, typ, force⟩ : Cm)).l.length c112) (rvM u.t i (⟨kind, at_, n, data, key, new, typ, force⟩ : Cm)).l.length (notesV (rvM u.t i (⟨kind, at_, n, data, key, new, typ, force⟩ : Cm)).code (rvM u.t i (⟨kind, at_, n, data, key, new, typ, force⟩ : Cm)).l))))) rfl rfl ?_
      rintro _ w ⟨pc2, hs2, h⟩
      refine WL.nil (W.seq (W.region (WL.val (run_loadB (vs := [.int .i64 _, .int .i64 _, .int .i64 _, .slice _ _ _, .int .i64 _]) h Tryz.isAgg36 Tryz.sizeOf36 rfl rfl rfl) rfl rfl (WL.eff (eff_storeW (vs := [.int .i64 _, .int .i64 _, .int .i64 _, .slice _ _ _, .int .i64 _]) h Tryz.sizeOf36 rfl rfl rfl rfl rfl) rfl rfl ?_))))
      rintro _ w h
      refine WL.nil (W.ret (bodyQ.rcB (vs := [.int .i64 _, .int .i64 _, .int .i64 _, .slice _ _ _, .int .i64 _]) h Tryz.results24 Tryz.isAgg36 Tryz.sizeOf36 rfl rfl rfl ?_))
      have he := actM_rv (u := u) (i := i) (c := (⟨kind, at_, n, data, key, new, typ, force⟩ : Cm)) (by show 10 ≤ kind; omega) (by show kind ≤ 15; omega)
      have hd := (doM_go (u := u) (i := i) (c := (⟨kind, at_, n, data, key, new, typ, force⟩ : Cm)) hi (show 1 ≤ kind by omega) (show kind ≤ 18 by omega) c7 hfree (allowB_iff.1 hal)).trans he
      exact ⟨pc2, _, (rvM u.t i (⟨kind, at_, n, data, key, new, typ, force⟩ : Cm)).r, .slice none 0 0, hd, rfl, hs2, (by rw [rvM_r]; exact hs2 _ hnil), h.to⟩
     refine WT.opOf 16 [true, true, true, true] rfl (by kernel_rfl) (eff_alloc h Tryz.zeroValue36 rfl) rfl rfl ?_
     rintro _ w ⟨b11, rfl, h⟩
     refine ⟨⟨h.cellB rfl, h.cellB rfl, h.cellB rfl, h.cellB rfl, trivial⟩, ?_⟩
     refine WT.eff 12 [false, false, false, false] rfl (by kernel_rfl) (by kernel_rfl) (eff_call Tryz.call62 (rregister_ok (key := key) (fresh := new) (ign := decide (kind = 11)) (i := i) (t := u.t) (b := bt) hi hty6 (h.fetch (blk bt u.t.cells 128)))) rfl rfl ?_
     rintro v112 w ⟨a112, c112, hv112, h⟩
     have hX := rvM_reg (t := u.t) (i := i) (c := (⟨kind, at_, n, data, key, new, typ, force⟩ : Cm)) (show kind = 10 ∨ kind = 11 by omega)
     rw [← hX] at hv112 h
     subst hv112
     have h := setTb (bu := bu) (bs := bs) (t' := (rvM u.t i (⟨kind, at_, n, data, key, new, typ, force⟩ : Cm)).t) (u := u) hpk ((((h.fetch (PoolC pc)).fetch (blk bt (rvM u.t i (⟨kind, at_, n, data, key, new, typ, force⟩ : Cm)).t.cells 128)).fetch (RSpP 110 bs pc u.s)).fetch (blk bu (rcells bs bt xs) 106))
     refine ⟨trivial, ?_⟩
     refine WT.pure 13 rfl (by kernel_rfl) (fun w' => run_move) rfl rfl (WT.pure 14 rfl (by kernel_rfl) (fun w' => (run_extract rfl rfl)) rfl rfl (WT.pure 15 rfl (by kernel_rfl) (fun w' => (run_extract rfl rfl)) rfl rfl (WT.eff 17 [] rfl (by kernel_rfl) (by kernel_rfl) (eff_storeW (vs := [.int .i64 _, .int .i64 _, .int .i64 _, .slice _ _ _, .int .i64 _]) h Tryz.sizeOf36 rfl rfl rfl rfl rfl) rfl rfl ?_)))
     rintro _ w h
     refine ⟨trivial, ?_⟩
     refine WT.pure 18 rfl (by kernel_rfl) (fun w' => run_assign) rfl rfl (WT.done (by kernel_rfl) (W.seq (W.region (WL.val run_move rfl rfl (WL.val run_move rfl rfl ?_)))))
     refine WL.eff (eff_call Tryz.call63 (rnotes_ok (bu := bu) (u := u.setT (rvM u.t i (⟨kind, at_, n, data, key, new, typ, force⟩ : Cm)).t) (pc := pc) (l := (rvM u.t i (⟨kind, at_, n, data, key, new, typ, force⟩ : Cm)).l) (code := (rvM u.t i (⟨kind, at_, n, data, key, new, typ, force⟩ : Cm)).code) (a := a112) (c := c112) rvM_l.2.2.2 rvM_l.2.1 hsm (((h.fetch (PoolC pc)).fetch (RefU 106 110 128 bu pc (u.setT (rvM u.t i (⟨kind, at_, n, data, key, new, typ, force⟩ : Cm)).t))).fetch (Own 2 (.slice a112 (rvM u.t i (⟨kind, at_, n, data, key, new, typ, force⟩ : Cm)).l.length c112) (rvM u.t i (⟨kind, at_, n, data, key, new, typ, force⟩ : Cm)).l.length (notesV (rvM u.t i (⟨kind, at_, n, data, key, new, typ, force⟩ : Cm)).code (rvM u.t i (⟨kind, at_, n, data, key, new, typ, force⟩ : Cm)).l))))) rfl rfl ?_
     rintro _ w ⟨pc2, hs2, h⟩
     refine WL.nil (W.seq (W.region (WL.val (run_loadB (vs := [.int .i64 _, .int .i64 _, .int .i64 _, .slice _ _ _, .int .i64 _]) h Tryz.isAgg36 Tryz.sizeOf36 rfl rfl rfl) rfl rfl (WL.eff (eff_storeW (vs := [.int .i64 _, .int .i64 _, .int .i64 _, .slice _ _ _, .int .i64 _]) h Tryz.sizeOf36 rfl rfl rfl rfl rfl) rfl rfl ?_))))
     rintro _ w h
     refine WL.nil (W.ret (bodyQ.rcB (vs := [.int .i64 _, .int .i64 _, .int .i64 _, .slice _ _ _, .int .i64 _]) h Tryz.results24 Tryz.isAgg36 Tryz.sizeOf36 rfl rfl rfl ?_))
     have he := actM_rv (u := u) (i := i) (c := (⟨kind, at_, n, data, key, new, typ, force⟩ : Cm)) (by show 10 ≤ kind; omega) (by show kind ≤ 15; omega)
     have hd := (doM_go (u := u) (i := i) (c := (⟨kind, at_, n, data, key, new, typ, force⟩ : Cm)) hi (show 1 ≤ kind by omega) (show kind ≤ 18 by omega) c7 hfree (allowB_iff.1 hal)).trans he
     exact ⟨pc2, _, (rvM u.t i (⟨kind, at_, n, data, key, new, typ, force⟩ : Cm)).r, .slice none 0 0, hd, rfl, hs2, (by rw [rvM_r]; exact hs2 _ hnil), h.to⟩
    refine W.seq (W.region (WL.val (run_eql rfl rfl) rfl rfl (WL.val run_assign rfl rfl (WL.nil ?_))))
    refine W.condIf rfl (fun c62 => ?_) (fun c62 => ?_)
    ·
     refine W.seq ?_
     refine W.draw Tryz.follows h (fun w h => ?_)
     refine WT.pure 0 rfl (by kernel_rfl) (fun w' => run_move) rfl rfl (WT.pure 1 rfl (by kernel_rfl) (fun w' => (run_nilCheck rfl)) rfl rfl (WT.pure 2 rfl (by kernel_rfl) (fun w' => (run_fieldAddr 1 Tryz.underlying106 rfl Tryz.sizeOf99 rfl rfl)) rfl rfl (WT.load1 3 rfl (by kernel_rfl) Tryz.isAgg99 rfl (h.cellB rfl) rfl rfl (WT.pure 4 rfl (by kernel_rfl) (fun w' => run_move) rfl rfl (WT.pure 5 rfl (by kernel_rfl) (fun w' => (run_fieldAddr 4 Tryz.underlying25 rfl Tryz.sizeOf23 rfl rfl)) rfl rfl (WT.load1 6 rfl (by kernel_rfl) Tryz.isAgg23 rfl (h.cellB rfl) rfl rfl (WT.pure 7 rfl (by kernel_rfl) (fun w' => (run_fieldAddr 6 Tryz.underlying25 rfl Tryz.sizeOf3 rfl rfl)) rfl rfl ?_)))))))
     refine WT.load1 8 rfl (by kernel_rfl) Tryz.isAgg3 rfl (h.cellB rfl) rfl rfl (WT.eff 9 [false, false, false] rfl (by kernel_rfl) (by kernel_rfl) (eff_call Tryz.call64 (rreserve_ok (key := key) (typ := typ) (i := i) (t := u.t) (b := bt) hi (goodT_hold hgt) (h.fetch (blk bt u.t.cells 128)))) rfl rfl ?_)
     rintro v130 w ⟨hv130, h⟩
     have hX := rvM_rsv (t := u.t) (i := i) (c := (⟨kind, at_, n, data, key, new, typ, force⟩ : Cm)) (show kind = 12 by omega)
     rw [← hX] at hv130 h
     subst hv130
     have h := setTb (bu := bu) (bs := bs) (t' := (rvM u.t i (⟨kind, at_, n, data, key, new, typ, force⟩ : Cm)).t) (u := u) hpk ((((h.fetch (PoolC pc)).fetch (blk bt (rvM u.t i (⟨kind, at_, n, data, key, new, typ, force⟩ : Cm)).t.cells 128)).fetch (RSpP 110 bs pc u.s)).fetch (blk bu (rcells bs bt xs) 106))
     refine ⟨trivial, ?_⟩
     refine WT.eff 10 [] rfl (by kernel_rfl) (by kernel_rfl) (eff_storeW (vs := [.int .i64 _, .int .i64 _, .int .i64 _, .slice _ _ _, .int .i64 _]) h Tryz.sizeOf36 rfl rfl rfl rfl rfl) rfl rfl ?_
     rintro _ w h
     refine ⟨trivial, ?_⟩
     refine WT.done (by kernel_rfl) (W.ret (bodyQ.rcB (vs := [.int .i64 _, .int .i64 _, .int .i64 _, .slice _ _ _, .int .i64 _]) h Tryz.results24 Tryz.isAgg36 Tryz.sizeOf36 rfl rfl rfl ?_))
     have he := actM_rv (u := u) (i := i) (c := (⟨kind, at_, n, data, key, new, typ, force⟩ : Cm)) (by show 10 ≤ kind; omega) (by show kind ≤ 15; omega)
     have hX0 : (rvM u.t i (⟨kind, at_, n, data, key, new, typ, force⟩ : Cm)).l = [] := by rw [hX]; exact rsvF_l
     have he : actM u i (⟨kind, at_, n, data, key, new, typ, force⟩ : Cm) = (u.setT (rvM u.t i (⟨kind, at_, n, data, key, new, typ, force⟩ : Cm)).t, (rvM u.t i (⟨kind, at_, n, data, key, new, typ, force⟩ : Cm)).r) := by rw [he, hX0]; rfl
     skip
     have hd := (doM_go (u := u) (i := i) (c := (⟨kind, at_, n, data, key, new, typ, force⟩ : Cm)) hi (show 1 ≤ kind by omega) (show kind ≤ 18 by omega) c7 hfree (allowB_iff.1 hal)).trans he
     exact ⟨pc, _, (rvM u.t i (⟨kind, at_, n, data, key, new, typ, force⟩ : Cm)).r, .slice none 0 0, hd, rfl, subK_refl, (by rw [rvM_r]; exact hnil), h.to⟩
    refine W.seq (W.region (WL.val (run_eql rfl rfl) rfl rfl (WL.val run_assign rfl rfl (WL.nil ?_))))
    refine W.condIf rfl (fun c66 => ?_) (fun c66 => ?_)
    ·
     refine W.seq ?_
     refine W.draw Tryz.follows h (fun w h => ?_)
     refine WT.pure 0 rfl (by kernel_rfl) (fun w' => run_move) rfl rfl (WT.pure 1 rfl (by kernel_rfl) (fun w' => (run_nilCheck rfl)) rfl rfl (WT.pure 2 rfl (by kernel_rfl) (fun w' => (run_fieldAddr 1 Tryz.underlying106 rfl Tryz.sizeOf99 rfl rfl)) rfl rfl (WT.load1 3 rfl (by kernel_rfl) Tryz.isAgg99 rfl (h.cellB rfl) rfl rfl (WT.pure 4 rfl (by kernel_rfl) (fun w' => run_move) rfl rfl (WT.pure 5 rfl (by kernel_rfl) (fun w' => (run_fieldAddr 4 Tryz.underlying25 rfl Tryz.sizeOf23 rfl rfl)) rfl rfl (WT.load1 6 rfl (by kernel_rfl) Tryz.isAgg23 rfl (h.cellB rfl) rfl rfl (WT.pure 7 rfl (by kernel_rfl) (fun w' => (run_fieldAddr 6 Tryz.underlying25 rfl Tryz.sizeOf3 rfl rfl)) rfl rfl ?_)))))))
     refine WT.load1 8 rfl (by kernel_rfl) Tryz.isAgg3 rfl (h.cellB rfl) rfl rfl ?_
     -- SEVERAL MAY COME UP: [(9, ' (*gemel/gemelref15.Table).Release(t137, t138, t140, t142)'), (13, 'alloc api.Reply')]
     refine WT.two 9 13 (by kernel_rfl) ?_ ?_
     ·
      refine WT.opOf 9 [false, false, false] rfl (by kernel_rfl) (eff_call Tryz.call65 (rrelease_ok (key := key) (typ := typ) (i := i) (t := u.t) (b := bt) hi hty6 (h.fetch (blk bt u.t.cells 128)))) rfl rfl ?_
      rintro v142 w ⟨a142, c142, hv142, h⟩
      have hX := rvM_rel (t := u.t) (i := i) (c := (⟨kind, at_, n, data, key, new, typ, force⟩ : Cm)) (show kind = 13 by omega)
      rw [← hX] at hv142 h
      subst hv142
      have h := setTb (bu := bu) (bs := bs) (t' := (rvM u.t i (⟨kind, at_, n, data, key, new, typ, force⟩ : Cm)).t) (u := u) hpk ((((h.fetch (PoolC pc)).fetch (blk bt (rvM u.t i (⟨kind, at_, n, data, key, new, typ, force⟩ : Cm)).t.cells 128)).fetch (RSpP 110 bs pc u.s)).fetch (blk bu (rcells bs bt xs) 106))
      refine ⟨trivial, ?_⟩
      refine WT.pure 10 rfl (by kernel_rfl) (fun w' => run_move) rfl rfl (WT.pure 11 rfl (by kernel_rfl) (fun w' => (run_extract rfl rfl)) rfl rfl (WT.pure 12 rfl (by kernel_rfl) (fun w' => (run_extract rfl rfl)) rfl rfl (WT.eff 13 [] rfl (by kernel_rfl) (by kernel_rfl) (eff_alloc h Tryz.zeroValue36 rfl) rfl rfl ?_)))
      rintro _ w ⟨b13, rfl, h⟩
      refine ⟨trivial, ?_⟩
      refine WT.eff 14 [] rfl (by kernel_rfl) (by kernel_rfl) (eff_storeW (vs := [.int .i64 _, .int .i64 _, .int .i64 _, .slice _ _ _, .int .i64 _]) h Tryz.sizeOf36 rfl rfl rfl rfl rfl) rfl rfl ?_
      rintro _ w h
      refine ⟨trivial, ?_⟩
      refine WT.pure 15 rfl (by kernel_rfl) (fun w' => run_assign) rfl rfl (WT.done (by kernel_rfl) (W.seq (W.region (WL.val run_move rfl rfl (WL.val run_move rfl rfl ?_)))))
      refine WL.eff (eff_call Tryz.call63 (rnotes_ok (bu := bu) (u := u.setT (rvM u.t i (⟨kind, at_, n, data, key, new, typ, force⟩ : Cm)).t) (pc := pc) (l := (rvM u.t i (⟨kind, at_, n, data, key, new, typ, force⟩ : Cm)).l) (code := (rvM u.t i (⟨kind, at_, n, data, key, new, typ, force⟩ : Cm)).code) (a := a142) (c := c142) rvM_l.2.2.2 rvM_l.2.1 hsm (((h.fetch (PoolC pc)).fetch (RefU 106 110 128 bu pc (u.setT (rvM u.t i (⟨kind, at_, n, data, key, new, typ, force⟩ : Cm)).t))).fetch (Own 2 (.slice a142 (rvM u.t i (⟨kind, at_, n, data, key, new, typ, force⟩ : Cm)).l.length c142) (rvM u.t i (⟨kind, at_, n, data, key, new, typ, force⟩ : Cm)).l.length (notesV (rvM u.t i (⟨kind, at_, n, data, key, new, typ, force⟩ : Cm)).code (rvM u.t i (⟨kind, at_, n, data, key, new, typ, force⟩ : Cm)).l))))) rfl rfl ?_
      rintro _ w ⟨pc2, hs2, h⟩
      refine WL.nil (W.seq (W.region (WL.val (run_loadB (vs := [.int .i64 _, .int .i64 _, .int .i64 _, .slice _ _ _, .int .i64 _]) h Tryz.isAgg36 Tryz.sizeOf36 rfl rfl rfl) rfl rfl (WL.eff (eff_storeW (vs := [.int .i64 _, .int .i64 _, .int .i64 _, .slice _ _ _, .int .i64 _]) h Tryz.sizeOf36 rfl rfl rfl rfl rfl) rfl rfl ?_))))
      rintro _ w h
      refine WL.nil (W.ret (bodyQ.rcB (vs := [.int .i64 _, .int .i64 _, .int .i64 _, .slice _ _ _, .int .i64 _]) h Tryz.results24 Tryz.isAgg36 Tryz.sizeOf36 rfl rfl rfl ?_))
      have he := actM_rv (u := u) (i := i) (c := (⟨kind, at_, n, data, key, new, typ, force⟩ : Cm)) (by show 10 ≤ kind; omega) (by show kind ≤ 15; omega)
      have hd := (doM_go (u := u) (i := i) (c := (⟨kind, at_, n, data, key, new, typ, force⟩ : Cm)) hi (show 1 ≤ kind by omega) (show kind ≤ 18 by omega) c7 hfree (allowB_iff.1 hal)).trans he
      exact ⟨pc2, _, (rvM u.t i (⟨kind, at_, n, data, key, new, typ, force⟩ : Cm)).r, .slice none 0 0, hd, rfl, hs2, (by rw [rvM_r]; exact hs2 _ hnil), h.to⟩
     refine WT.opOf 13 [true, true, true] rfl (by kernel_rfl) (eff_alloc h Tryz.zeroValue36 rfl) rfl rfl ?_
     rintro _ w ⟨b13, rfl, h⟩
     refine ⟨⟨h.cellB rfl, h.cellB rfl, h.cellB rfl, trivial⟩, ?_⟩
     refine WT.eff 9 [false, false, false] rfl (by kernel_rfl) (by kernel_rfl) (eff_call Tryz.call65 (rrelease_ok (key := key) (typ := typ) (i := i) (t := u.t) (b := bt) hi hty6 (h.fetch (blk bt u.t.cells 128)))) rfl rfl ?_
     rintro v142 w ⟨a142, c142, hv142, h⟩
     have hX := rvM_rel (t := u.t) (i := i) (c := (⟨kind, at_, n, data, key, new, typ, force⟩ : Cm)) (show kind = 13 by omega)
     rw [← hX] at hv142 h
     subst hv142
     have h := setTb (bu := bu) (bs := bs) (t' := (rvM u.t i (⟨kind, at_, n, data, key, new, typ, force⟩ : Cm)).t) (u := u) hpk ((((h.fetch (PoolC pc)).fetch (blk bt (rvM u.t i (⟨kind, at_, n, data, key, new, typ, force⟩ : Cm)).t.cells 128)).fetch (RSpP 110 bs pc u.s)).fetch (blk bu (rcells bs bt xs) 106))
     refine ⟨trivial, ?_⟩
     refine WT.pure 10 rfl (by kernel_rfl) (fun w' => run_move) rfl rfl (WT.pure 11 rfl (by kernel_rfl) (fun w' => (run_extract rfl rfl)) rfl rfl (WT.pure 12 rfl (by kernel_rfl) (fun w' => (run_extract rfl rfl)) rfl rfl (WT.eff 14 [] rfl (by kernel_rfl) (by kernel_rfl) (eff_storeW (vs := [.int .i64 _, .int .i64 _, .int .i64 _, .slice _ _ _, .int .i64 _]) h Tryz.sizeOf36 rfl rfl rfl rfl rfl) rfl rfl ?_)))
     rintro _ w h
     refine ⟨trivial, ?_⟩
     refine WT.pure 15 rfl (by kernel_rfl) (fun w' => run_assign) rfl rfl (WT.done (by kernel_rfl) (W.seq (W.region (WL.val run_move rfl rfl (WL.val run_move rfl rfl ?_)))))
     refine WL.eff (eff_call Tryz.call63 (rnotes_ok (bu := bu) (u := u.setT (rvM u.t i (⟨kind, at_, n, data, key, new, typ, force⟩ : Cm)).t) (pc := pc) (l := (rvM u.t i (⟨kind, at_, n, data, key, new, typ, force⟩ : Cm)).l) (code := (rvM u.t i (⟨kind, at_, n, data, key, new, typ, force⟩ : Cm)).code) (a := a142) (c := c142) rvM_l.2.2.2 rvM_l.2.1 hsm (((h.fetch (PoolC pc)).fetch (RefU 106 110 128 bu pc (u.setT (rvM u.t i (⟨kind, at_, n, data, key, new, typ, force⟩ : Cm)).t))).fetch (Own 2 (.slice a142 (rvM u.t i (⟨kind, at_, n, data, key, new, typ, force⟩ : Cm)).l.length c142) (rvM u.t i (⟨kind, at_, n, data, key, new, typ, force⟩ : Cm)).l.length (notesV (rvM u.t i (⟨kind, at_, n, data, key, new, typ, force⟩ : Cm)).code (rvM u.t i (⟨kind, at_, n, data, key, new, typ, force⟩ : Cm)).l))))) rfl rfl ?_
     rintro _ w ⟨pc2, hs2, h⟩
     refine WL.nil (W.seq (W.region (WL.val (run_loadB (vs := [.int .i64 _, .int .i64 _, .int .i64 _, .slice _ _ _, .int .i64 _]) h Tryz.isAgg36 Tryz.sizeOf36 rfl rfl rfl) rfl rfl (WL.eff (eff_storeW (vs := [.int .i64 _, .int .i64 _, .int .i64 _, .slice _ _ _, .int .i64 _]) h Tryz.sizeOf36 rfl rfl rfl rfl rfl) rfl rfl ?_))))
     rintro _ w h
     refine WL.nil (W.ret (bodyQ.rcB (vs := [.int .i64 _, .int .i64 _, .int .i64 _, .slice _ _ _, .int .i64 _]) h Tryz.results24 Tryz.isAgg36 Tryz.sizeOf36 rfl rfl rfl ?_))
     have he := actM_rv (u := u) (i := i) (c := (⟨kind, at_, n, data, key, new, typ, force⟩ : Cm)) (by show 10 ≤ kind; omega) (by show kind ≤ 15; omega)
     have hd := (doM_go (u := u) (i := i) (c := (⟨kind, at_, n, data, key, new, typ, force⟩ : Cm)) hi (show 1 ≤ kind by omega) (show kind ≤ 18 by omega) c7 hfree (allowB_iff.1 hal)).trans he
     exact ⟨pc2, _, (rvM u.t i (⟨kind, at_, n, data, key, new, typ, force⟩ : Cm)).r, .slice none 0 0, hd, rfl, hs2, (by rw [rvM_r]; exact hs2 _ hnil), h.to⟩
    refine W.seq (W.region (WL.val (run_eql rfl rfl) rfl rfl (WL.val run_assign rfl rfl (WL.nil ?_))))
    refine W.condIf rfl (fun c72 => ?_) (fun c72 => ?_)
    ·
     refine W.seq ?_
     refine W.draw Tryz.follows h (fun w h => ?_)
     refine WT.pure 0 rfl (by kernel_rfl) (fun w' => run_move) rfl rfl (WT.pure 1 rfl (by kernel_rfl) (fun w' => (run_nilCheck rfl)) rfl rfl (WT.pure 2 rfl (by kernel_rfl) (fun w' => (run_fieldAddr 1 Tryz.underlying106 rfl Tryz.sizeOf99 rfl rfl)) rfl rfl (WT.load1 3 rfl (by kernel_rfl) Tryz.isAgg99 rfl (h.cellB rfl) rfl rfl (WT.pure 4 rfl (by kernel_rfl) (fun w' => run_move) rfl rfl (WT.pure 5 rfl (by kernel_rfl) (fun w' => (run_fieldAddr 4 Tryz.underlying25 rfl Tryz.sizeOf23 rfl rfl)) rfl rfl (WT.load1 6 rfl (by kernel_rfl) Tryz.isAgg23 rfl (h.cellB rfl) rfl rfl ?_))))))
     -- SEVERAL MAY COME UP: [(7, ' (*gemel/gemelref15.Table).Clear(t156, t157, t159)'), (11, 'alloc api.Reply')]
     refine WT.two 7 11 (by kernel_rfl) ?_ ?_
     ·
      refine WT.opOf 7 [false, false] rfl (by kernel_rfl) (eff_call Tryz.call66 (rclear_ok (key := key) (i := i) (t := u.t) (b := bt) hi (h.fetch (blk bt u.t.cells 128)))) rfl rfl ?_
      rintro v160 w ⟨a160, c160, hv160, h⟩
      have hX := rvM_clr (t := u.t) (i := i) (c := (⟨kind, at_, n, data, key, new, typ, force⟩ : Cm)) (show kind = 14 by omega)
      rw [← hX] at hv160 h
      subst hv160
      have h := setTb (bu := bu) (bs := bs) (t' := (rvM u.t i (⟨kind, at_, n, data, key, new, typ, force⟩ : Cm)).t) (u := u) hpk ((((h.fetch (PoolC pc)).fetch (blk bt (rvM u.t i (⟨kind, at_, n, data, key, new, typ, force⟩ : Cm)).t.cells 128)).fetch (RSpP 110 bs pc u.s)).fetch (blk bu (rcells bs bt xs) 106))
      refine ⟨trivial, ?_⟩
      refine WT.pure 8 rfl (by kernel_rfl) (fun w' => run_move) rfl rfl (WT.pure 9 rfl (by kernel_rfl) (fun w' => (run_extract rfl rfl)) rfl rfl (WT.pure 10 rfl (by kernel_rfl) (fun w' => (run_extract rfl rfl)) rfl rfl (WT.eff 11 [] rfl (by kernel_rfl) (by kernel_rfl) (eff_alloc h Tryz.zeroValue36 rfl) rfl rfl ?_)))
      rintro _ w ⟨b15, rfl, h⟩
      refine ⟨trivial, ?_⟩
      refine WT.eff 12 [] rfl (by kernel_rfl) (by kernel_rfl) (eff_storeW (vs := [.int .i64 _, .int .i64 _, .int .i64 _, .slice _ _ _, .int .i64 _]) h Tryz.sizeOf36 rfl rfl rfl rfl rfl) rfl rfl ?_
      rintro _ w h
      refine ⟨trivial, ?_⟩
      refine WT.pure 13 rfl (by kernel_rfl) (fun w' => run_assign) rfl rfl (WT.done (by kernel_rfl) (W.seq (W.region (WL.val run_move rfl rfl (WL.val run_move rfl rfl ?_)))))
      refine WL.eff (eff_call Tryz.call63 (rnotes_ok (bu := bu) (u := u.setT (rvM u.t i (⟨kind, at_, n, data, key, new, typ, force⟩ : Cm)).t) (pc := pc) (l := (rvM u.t i (⟨kind, at_, n, data, key, new, typ, force⟩ : Cm)).l) (code := (rvM u.t i (⟨kind, at_, n, data, key, new, typ, force⟩ : Cm)).code) (a := a160) (c := c160) rvM_l.2.2.2 rvM_l.2.1 hsm (((h.fetch (PoolC pc)).fetch (RefU 106 110 128 bu pc (u.setT (rvM u.t i (⟨kind, at_, n, data, key, new, typ, force⟩ : Cm)).t))).fetch (Own 2 (.slice a160 (rvM u.t i (⟨kind, at_, n, data, key, new, typ, force⟩ : Cm)).l.length c160) (rvM u.t i (⟨kind, at_, n, data, key, new, typ, force⟩ : Cm)).l.length (notesV (rvM u.t i (⟨kind, at_, n, data, key, new, typ, force⟩ : Cm)).code (rvM u.t i (⟨kind, at_, n, data, key, new, typ, force⟩ : Cm)).l))))) rfl rfl ?_
      rintro _ w ⟨pc2, hs2, h⟩
      refine WL.nil (W.seq (W.region (WL.val (run_loadB (vs := [.int .i64 _, .int .i64 _, .int .i64 _, .slice _ _ _, .int .i64 _]) h Tryz.isAgg36 Tryz.sizeOf36 rfl rfl rfl) rfl rfl (WL.eff (eff_storeW (vs := [.int .i64 _, .int .i64 _, .int .i64 _, .slice _ _ _, .int .i64 _]) h Tryz.sizeOf36 rfl rfl rfl rfl rfl) rfl rfl ?_))))
      rintro _ w h
      refine WL.nil (W.ret (bodyQ.rcB (vs := [.int .i64 _, .int .i64 _, .int .i64 _, .slice _ _ _, .int .i64 _]) h Tryz.results24 Tryz.isAgg36 Tryz.sizeOf36 rfl rfl rfl ?_))
      have he := actM_rv (u := u) (i := i) (c := (⟨kind, at_, n, data, key, new, typ, force⟩ : Cm)) (by show 10 ≤ kind; omega) (by show kind ≤ 15; omega)
      have hd := (doM_go (u := u) (i := i) (c := (⟨kind, at_, n, data, key, new, typ, force⟩ : Cm)) hi (show 1 ≤ kind by omega) (show kind ≤ 18 by omega) c7 hfree (allowB_iff.1 hal)).trans he
      exact ⟨pc2, _, (rvM u.t i (⟨kind, at_, n, data, key, new, typ, force⟩ : Cm)).r, .slice none 0 0, hd, rfl, hs2, (by rw [rvM_r]; exact hs2 _ hnil), h.to⟩
     refine WT.opOf 11 [true, true] rfl (by kernel_rfl) (eff_alloc h Tryz.zeroValue36 rfl) rfl rfl ?_
     rintro _ w ⟨b15, rfl, h⟩
     refine ⟨⟨h.cellB rfl, h.cellB rfl, trivial⟩, ?_⟩
     refine WT.eff 7 [false, false] rfl (by kernel_rfl) (by kernel_rfl) (eff_call Tryz.call66 (rclear_ok (key := key) (i := i) (t := u.t) (b := bt) hi (h.fetch (blk bt u.t.cells 128)))) rfl rfl ?_
     rintro v160 w ⟨a160, c160, hv160, h⟩
     have hX := rvM_clr (t := u.t) (i := i) (c := (⟨kind, at_, n, data, key, new, typ, force⟩ : Cm)) (show kind = 14 by omega)
     rw [← hX] at hv160 h
     subst hv160
     have h := setTb (bu := bu) (bs := bs) (t' := (rvM u.t i (⟨kind, at_, n, data, key, new, typ, force⟩ : Cm)).t) (u := u) hpk ((((h.fetch (PoolC pc)).fetch (blk bt (rvM u.t i (⟨kind, at_, n, data, key, new, typ, force⟩ : Cm)).t.cells 128)).fetch (RSpP 110 bs pc u.s)).fetch (blk bu (rcells bs bt xs) 106))
     refine ⟨trivial, ?_⟩
     refine WT.pure 8 rfl (by kernel_rfl) (fun w' => run_move) rfl rfl (WT.pure 9 rfl (by kernel_rfl) (fun w' => (run_extract rfl rfl)) rfl rfl (WT.pure 10 rfl (by kernel_rfl) (fun w' => (run_extract rfl rfl)) rfl rfl (WT.eff 12 [] rfl (by kernel_rfl) (by kernel_rfl) (eff_storeW (vs := [.int .i64 _, .int .i64 _, .int .i64 _, .slice _ _ _, .int .i64 _]) h Tryz.sizeOf36 rfl rfl rfl rfl rfl) rfl rfl ?_)))
     rintro _ w h
     refine ⟨trivial, ?_⟩
     refine WT.pure 13 rfl (by kernel_rfl) (fun w' => run_assign) rfl rfl (WT.done (by kernel_rfl) (W.seq (W.region (WL.val run_move rfl rfl (WL.val run_move rfl rfl ?_)))))
     refine WL.eff (eff_call Tryz.call63 (rnotes_ok (bu := bu) (u := u.setT (rvM u.t i (⟨kind, at_, n, data, key, new, typ, force⟩ : Cm)).t) (pc := pc) (l := (rvM u.t i (⟨kind, at_, n, data, key, new, typ, force⟩ : Cm)).l) (code := (rvM u.t i (⟨kind, at_, n, data, key, new, typ, force⟩ : Cm)).code) (a := a160) (c := c160) rvM_l.2.2.2 rvM_l.2.1 hsm (((h.fetch (PoolC pc)).fetch (RefU 106 110 128 bu pc (u.setT (rvM u.t i (⟨kind, at_, n, data, key, new, typ, force⟩ : Cm)).t))).fetch (Own 2 (.slice a160 (rvM u.t i (⟨kind, at_, n, data, key, new, typ, force⟩ : Cm)).l.length c160) (rvM u.t i (⟨kind, at_, n, data, key, new, typ, force⟩ : Cm)).l.length (notesV (rvM u.t i (⟨kind, at_, n, data, key, new, typ, force⟩ : Cm)).code (rvM u.t i (⟨kind, at_, n, data, key, new, typ, force⟩ : Cm)).l))))) rfl rfl ?_
     rintro _ w ⟨pc2, hs2, h⟩
     refine WL.nil (W.seq (W.region (WL.val (run_loadB (vs := [.int .i64 _, .int .i64 _, .int .i64 _, .slice _ _ _, .int .i64 _]) h Tryz.isAgg36 Tryz.sizeOf36 rfl rfl rfl) rfl rfl (WL.eff (eff_storeW (vs := [.int .i64 _, .int .i64 _, .int .i64 _, .slice _ _ _, .int .i64 _]) h Tryz.sizeOf36 rfl rfl rfl rfl rfl) rfl rfl ?_))))
     rintro _ w h
     refine WL.nil (W.ret (bodyQ.rcB (vs := [.int .i64 _, .int .i64 _, .int .i64 _, .slice _ _ _, .int .i64 _]) h Tryz.results24 Tryz.isAgg36 Tryz.sizeOf36 rfl rfl rfl ?_))
     have he := actM_rv (u := u) (i := i) (c := (⟨kind, at_, n, data, key, new, typ, force⟩ : Cm)) (by show 10 ≤ kind; omega) (by show kind ≤ 15; omega)
     have hd := (doM_go (u := u) (i := i) (c := (⟨kind, at_, n, data, key, new, typ, force⟩ : Cm)) hi (show 1 ≤ kind by omega) (show kind ≤ 18 by omega) c7 hfree (allowB_iff.1 hal)).trans he
     exact ⟨pc2, _, (rvM u.t i (⟨kind, at_, n, data, key, new, typ, force⟩ : Cm)).r, .slice none 0 0, hd, rfl, hs2, (by rw [rvM_r]; exact hs2 _ hnil), h.to⟩
    refine W.seq (W.region (WL.val (run_eql rfl rfl) rfl rfl (WL.val run_assign rfl rfl (WL.nil ?_))))
    refine W.condIf rfl (fun c78 => ?_) (fun c78 => ?_)
    ·
     refine W.seq ?_
     refine W.draw Tryz.follows h (fun w h => ?_)
     refine WT.pure 0 rfl (by kernel_rfl) (fun w' => run_move) rfl rfl (WT.pure 1 rfl (by kernel_rfl) (fun w' => (run_nilCheck rfl)) rfl rfl (WT.pure 2 rfl (by kernel_rfl) (fun w' => (run_fieldAddr 1 Tryz.underlying106 rfl Tryz.sizeOf99 rfl rfl)) rfl rfl (WT.load1 3 rfl (by kernel_rfl) Tryz.isAgg99 rfl (h.cellB rfl) rfl rfl (WT.pure 4 rfl (by kernel_rfl) (fun w' => run_move) rfl rfl (WT.pure 5 rfl (by kernel_rfl) (fun w' => (run_fieldAddr 4 Tryz.underlying25 rfl Tryz.sizeOf23 rfl rfl)) rfl rfl (WT.load1 6 rfl (by kernel_rfl) Tryz.isAgg23 rfl (h.cellB rfl) rfl rfl (WT.pure 7 rfl (by kernel_rfl) (fun w' => (run_fieldAddr 5 Tryz.underlying25 rfl Tryz.sizeOf23 rfl rfl)) rfl rfl ?_)))))))
     refine WT.load1 8 rfl (by kernel_rfl) Tryz.isAgg23 rfl (h.cellB rfl) rfl rfl (WT.pure 9 rfl (by kernel_rfl) (fun w' => (run_fieldAddr 6 Tryz.underlying25 rfl Tryz.sizeOf3 rfl rfl)) rfl rfl (WT.load1 10 rfl (by kernel_rfl) Tryz.isAgg3 rfl (h.cellB rfl) rfl rfl ?_))
     -- SEVERAL MAY COME UP: [(11, ' (*gemel/gemelref15.Table).Preempt(t173, t174, t176, t178, t180)'), (15, 'alloc api.Reply')]
     refine WT.two 11 15 (by kernel_rfl) ?_ ?_
     ·
      refine WT.opOf 11 [false, false, false, false] rfl (by kernel_rfl) (eff_call Tryz.call67 (rpreempt_ok (key := key) (other := new) (typ := typ) (i := i) (t := u.t) (b := bt) hi (goodT_hold hgt) (h.fetch (blk bt u.t.cells 128)))) rfl rfl ?_
      rintro v181 w ⟨a181, c181, hv181, h⟩
      have hX := rvM_pre (t := u.t) (i := i) (c := (⟨kind, at_, n, data, key, new, typ, force⟩ : Cm)) (show kind = 15 by omega)
      rw [← hX] at hv181 h
      subst hv181
      have h := setTb (bu := bu) (bs := bs) (t' := (rvM u.t i (⟨kind, at_, n, data, key, new, typ, force⟩ : Cm)).t) (u := u) hpk ((((h.fetch (PoolC pc)).fetch (blk bt (rvM u.t i (⟨kind, at_, n, data, key, new, typ, force⟩ : Cm)).t.cells 128)).fetch (RSpP 110 bs pc u.s)).fetch (blk bu (rcells bs bt xs) 106))
      refine ⟨trivial, ?_⟩
      refine WT.pure 12 rfl (by kernel_rfl) (fun w' => run_move) rfl rfl (WT.pure 13 rfl (by kernel_rfl) (fun w' => (run_extract rfl rfl)) rfl rfl (WT.pure 14 rfl (by kernel_rfl) (fun w' => (run_extract rfl rfl)) rfl rfl (WT.eff 15 [] rfl (by kernel_rfl) (by kernel_rfl) (eff_alloc h Tryz.zeroValue36 rfl) rfl rfl ?_)))
      rintro _ w ⟨b17, rfl, h⟩
      refine ⟨trivial, ?_⟩
      refine WT.eff 16 [] rfl (by kernel_rfl) (by kernel_rfl) (eff_storeW (vs := [.int .i64 _, .int .i64 _, .int .i64 _, .slice _ _ _, .int .i64 _]) h Tryz.sizeOf36 rfl rfl rfl rfl rfl) rfl rfl ?_
      rintro _ w h
      refine ⟨trivial, ?_⟩
      refine WT.pure 17 rfl (by kernel_rfl) (fun w' => run_assign) rfl rfl (WT.done (by kernel_rfl) (W.seq (W.region (WL.val run_move rfl rfl (WL.val run_move rfl rfl ?_)))))
      refine WL.eff (eff_call Tryz.call63 (rnotes_ok (bu := bu) (u := u.setT (rvM u.t i (⟨kind, at_, n, data, key, new, typ, force⟩ : Cm)).t) (pc := pc) (l := (rvM u.t i (⟨kind, at_, n, data, key, new, typ, force⟩ : Cm)).l) (code := (rvM u.t i (⟨kind, at_, n, data, key, new, typ, force⟩ : Cm)).code) (a := a181) (c := c181) rvM_l.2.2.2 rvM_l.2.1 hsm (((h.fetch (PoolC pc)).fetch (RefU 106 110 128 bu pc (u.setT (rvM u.t i (⟨kind, at_, n, data, key, new, typ, force⟩ : Cm)).t))).fetch (Own 2 (.slice a181 (rvM u.t i (⟨kind, at_, n, data, key, new, typ, force⟩ : Cm)).l.length c181) (rvM u.t i (⟨kind, at_, n, data, key, new, typ, force⟩ : Cm)).l.length (notesV (rvM u.t i (⟨kind, at_, n, data, key, new, typ, force⟩ : Cm)).code (rvM u.t i (⟨kind, at_, n, data, key, new, typ, force⟩ : Cm)).l))))) rfl rfl ?_
      rintro _ w ⟨pc2, hs2, h⟩
      refine WL.nil (W.seq (W.region (WL.val (run_loadB (vs := [.int .i64 _, .int .i64 _, .int .i64 _, .slice _ _ _, .int .i64 _]) h Tryz.isAgg36 Tryz.sizeOf36 rfl rfl rfl) rfl rfl (WL.eff (eff_storeW (vs := [.int .i64 _, .int .i64 _, .int .i64 _, .slice _ _ _, .int .i64 _]) h Tryz.sizeOf36 rfl rfl rfl rfl rfl) rfl rfl ?_))))
      rintro _ w h
      refine WL.nil (W.ret (bodyQ.rcB (vs := [.int .i64 _, .int .i64 _, .int .i64 _, .slice _ _ _, .int .i64 _]) h Tryz.results24 Tryz.isAgg36 Tryz.sizeOf36 rfl rfl rfl ?_))
      have he := actM_rv (u := u) (i := i) (c := (⟨kind, at_, n, data, key, new, typ, force⟩ : Cm)) (by show 10 ≤ kind; omega) (by show kind ≤ 15; omega)
      have hd := (doM_go (u := u) (i := i) (c := (⟨kind, at_, n, data, key, new, typ, force⟩ : Cm)) hi (show 1 ≤ kind by omega) (show kind ≤ 18 by omega) c7 hfree (allowB_iff.1 hal)).trans he
      exact ⟨pc2, _, (rvM u.t i (⟨kind, at_, n, data, key, new, typ, force⟩ : Cm)).r, .slice none 0 0, hd, rfl, hs2, (by rw [rvM_r]; exact hs2 _ hnil), h.to⟩
     refine WT.opOf 15 [true, true, true, true] rfl (by kernel_rfl) (eff_alloc h Tryz.zeroValue36 rfl) rfl rfl ?_
     rintro _ w ⟨b17, rfl, h⟩
     refine ⟨⟨h.cellB rfl, h.cellB rfl, h.cellB rfl, h.cellB rfl, trivial⟩, ?_⟩
     refine WT.eff 11 [false, false, false, false] rfl (by kernel_rfl) (by kernel_rfl) (eff_call Tryz.call67 (rpreempt_ok (key := key) (other := new) (typ := typ) (i := i) (t := u.t) (b := bt) hi (goodT_hold hgt) (h.fetch (blk bt u.t.cells 128)))) rfl rfl ?_
     rintro v181 w ⟨a181, c181, hv181, h⟩
     have hX := rvM_pre (t := u.t) (i := i) (c := (⟨kind, at_, n, data, key, new, typ, force⟩ : Cm)) (show kind = 15 by omega)
     rw [← hX] at hv181 h
     subst hv181
     have h := setTb (bu := bu) (bs := bs) (t' := (rvM u.t i (⟨kind, at_, n, data, key, new, typ, force⟩ : Cm)).t) (u := u) hpk ((((h.fetch (PoolC pc)).fetch (blk bt (rvM u.t i (⟨kind, at_, n, data, key, new, typ, force⟩ : Cm)).t.cells 128)).fetch (RSpP 110 bs pc u.s)).fetch (blk bu (rcells bs bt xs) 106))
     refine ⟨trivial, ?_⟩
     refine WT.pure 12 rfl (by kernel_rfl) (fun w' => run_move) rfl rfl (WT.pure 13 rfl (by kernel_rfl) (fun w' => (run_extract rfl rfl)) rfl rfl (WT.pure 14 rfl (by kernel_rfl) (fun w' => (run_extract rfl rfl)) rfl rfl (WT.eff 16 [] rfl (by kernel_rfl) (by kernel_rfl) (eff_storeW (vs := [.int .i64 _, .int .i64 _, .int .i64 _, .slice _ _ _, .int .i64 _]) h Tryz.sizeOf36 rfl rfl rfl rfl rfl) rfl rfl ?_)))
     rintro _ w h
     refine ⟨trivial, ?_⟩
     refine WT.pure 17 rfl (by kernel_rfl) (fun w' => run_assign) rfl rfl (WT.done (by kernel_rfl) (W.seq (W.region (WL.val run_move rfl rfl (WL.val run_move rfl rfl ?_)))))
     refine WL.eff (eff_call Tryz.call63 (rnotes_ok (bu := bu) (u := u.setT (rvM u.t i (⟨kind, at_, n, data, key, new, typ, force⟩ : Cm)).t) (pc := pc) (l := (rvM u.t i (⟨kind, at_, n, data, key, new, typ, force⟩ : Cm)).l) (code := (rvM u.t i (⟨kind, at_, n, data, key, new, typ, force⟩ : Cm)).code) (a := a181) (c := c181) rvM_l.2.2.2 rvM_l.2.1 hsm (((h.fetch (PoolC pc)).fetch (RefU 106 110 128 bu pc (u.setT (rvM u.t i (⟨kind, at_, n, data, key, new, typ, force⟩ : Cm)).t))).fetch (Own 2 (.slice a181 (rvM u.t i (⟨kind, at_, n, data, key, new, typ, force⟩ : Cm)).l.length c181) (rvM u.t i (⟨kind, at_, n, data, key, new, typ, force⟩ : Cm)).l.length (notesV (rvM u.t i (⟨kind, at_, n, data, key, new, typ, force⟩ : Cm)).code (rvM u.t i (⟨kind, at_, n, data, key, new, typ, force⟩ : Cm)).l))))) rfl rfl ?_
     rintro _ w ⟨pc2, hs2, h⟩
     refine WL.nil (W.seq (W.region (WL.val (run_loadB (vs := [.int .i64 _, .int .i64 _, .int .i64 _, .slice _ _ _, .int .i64 _]) h Tryz.isAgg36 Tryz.sizeOf36 rfl rfl rfl) rfl rfl (WL.eff (eff_storeW (vs := [.int .i64 _, .int .i64 _, .int .i64 _, .slice _ _ _, .int .i64 _]) h Tryz.sizeOf36 rfl rfl rfl rfl rfl) rfl rfl ?_))))
     rintro _ w h
     refine WL.nil (W.ret (bodyQ.rcB (vs := [.int .i64 _, .int .i64 _, .int .i64 _, .slice _ _ _, .int .i64 _]) h Tryz.results24 Tryz.isAgg36 Tryz.sizeOf36 rfl rfl rfl ?_))
     have he := actM_rv (u := u) (i := i) (c := (⟨kind, at_, n, data, key, new, typ, force⟩ : Cm)) (by show 10 ≤ kind; omega) (by show kind ≤ 15; omega)
     have hd := (doM_go (u := u) (i := i) (c := (⟨kind, at_, n, data, key, new, typ, force⟩ : Cm)) hi (show 1 ≤ kind by omega) (show kind ≤ 18 by omega) c7 hfree (allowB_iff.1 hal)).trans he
     exact ⟨pc2, _, (rvM u.t i (⟨kind, at_, n, data, key, new, typ, force⟩ : Cm)).r, .slice none 0 0, hd, rfl, hs2, (by rw [rvM_r]; exact hs2 _ hnil), h.to⟩
    refine W.seq (W.region (WL.val (run_eql rfl rfl) rfl rfl (WL.val run_assign rfl rfl (WL.nil ?_))))
    refine W.condIf rfl (fun c84 => ?_) (fun c84 => ?_)
    ·
     refine W.seq ?_
     refine W.draw Tryz.follows h (fun w h => ?_)
     refine WT.pure 0 rfl (by kernel_rfl) (fun w' => run_move) rfl rfl (WT.pure 1 rfl (by kernel_rfl) (fun w' => (run_nilCheck rfl)) rfl rfl (WT.pure 2 rfl (by kernel_rfl) (fun w' => (run_fieldAddr 1 Tryz.underlying106 rfl Tryz.sizeOf99 rfl rfl)) rfl rfl (WT.load1 3 rfl (by kernel_rfl) Tryz.isAgg99 rfl (h.cellB rfl) rfl rfl (WT.pure 4 rfl (by kernel_rfl) (fun w' => (run_nilCheck rfl)) rfl rfl (WT.pure 5 rfl (by kernel_rfl) (fun w' => (run_fieldAddr 10 Tryz.underlying128 rfl Tryz.sizeOf126 rfl rfl)) rfl rfl (WT.load1 6 rfl (by kernel_rfl) Tryz.isAgg126 rfl ((h.cellB rfl).trans (congrArg (fun z : Int => some (Value.int .u32 z)) egen)) rfl rfl (WT.pure 7 rfl (by kernel_rfl) (fun w' => run_move) rfl rfl ?_)))))))
     refine WT.pure 8 rfl (by kernel_rfl) (fun w' => (run_nilCheck rfl)) rfl rfl (WT.pure 9 rfl (by kernel_rfl) (fun w' => (run_fieldAddr 1 Tryz.underlying106 rfl Tryz.sizeOf99 rfl rfl)) rfl rfl (WT.load1 10 rfl (by kernel_rfl) Tryz.isAgg99 rfl (h.cellB rfl) rfl rfl (WT.eff 11 [false, true, true] rfl (by kernel_rfl) (by kernel_rfl) (eff_call Tryz.call69 (rlist_ok (t := u.t) (b := bt) (h.fetch (blk bt u.t.cells 128)))) rfl rfl ?_)))
     rintro _ w ⟨a201, c201, rfl, h⟩
     refine ⟨⟨(h.cellB rfl).trans (congrArg (fun z : Int => some (Value.int .u32 z)) egen), h.cellB rfl, trivial⟩, ?_⟩
     refine WT.eff 12 [false, false] rfl (by kernel_rfl) (by kernel_rfl) (eff_call Tryz.call68 (rkeys6_ok (g := u.t.gen.toNat) (ks := keysN u.t.K 8) (ak := a201) (ck := c201) (by have := hgok.2; omega) (fun x hx => by have hm := keysN_mem hx; obtain ⟨q, hq, e⟩ := hm; rw [e]; exact hgok.1 q hq) (keysN_len ..) h (Gives.ownO (v := .slice a201 (keysN u.t.K 8).length c201)))) rfl rfl ?_
     rintro v202 w ⟨a202, c202, hv202, h⟩
     rw [keysP_all] at hv202 h
     subst hv202
     refine ⟨trivial, ?_⟩
     refine WT.pure 13 rfl (by kernel_rfl) (fun w' => (run_buildS (pl := [(0, 1), (1, 1), (2, 1), (3, 1), (4, 1)]) (out := [.int .i64 _, .int .i64 _, .int .i64 _, .slice _ _ _, .int .i64 _]) Tryz.underlying36 Tryz.zeroValue36 (fun w => by kernel_rfl) rfl (⟨⟨_, _, rfl, rfl, by decide⟩, trivial⟩) rfl)) rfl rfl (WT.eff 14 [] rfl (by kernel_rfl) (by kernel_rfl) (eff_storeW (vs := [.int .i64 _, .int .i64 _, .int .i64 _, .slice _ _ _, .int .i64 _]) h Tryz.sizeOf36 rfl rfl rfl rfl rfl) rfl rfl ?_)
     rintro _ w h
     refine ⟨trivial, ?_⟩
     refine WT.done (by kernel_rfl) (W.ret (bodyQ.rcB (vs := [.int .i64 _, .int .i64 _, .int .i64 _, .slice _ _ _, .int .i64 _]) h Tryz.results24 Tryz.isAgg36 Tryz.sizeOf36 rfl rfl rfl ?_))
     have h := closeF (bu := bu) (u := u) hpk ((((h.fetch (PoolC pc)).fetch (blk bt u.t.cells 128)).fetch (RSpP 110 bs pc u.s)).fetch (blk bu (rcells bs bt xs) 106))
     have hf := finB (L := L) (a := a202) (c := c202) (ys := keysB u.t) (h.to : On W0 (OwnB (.slice a202 (keysB u.t).length c202) (keysB u.t) :: RefU 106 110 128 bu pc u :: PoolC pc :: L) _)
     obtain ⟨pc2, hs2, hin2, h⟩ := hf
     have he := actM_keys (u := u) (i := i) (c := (⟨kind, at_, n, data, key, new, typ, force⟩ : Cm)) (show kind = 16 by omega)
     have hd := (doM_go (u := u) (i := i) (c := (⟨kind, at_, n, data, key, new, typ, force⟩ : Cm)) hi (show 1 ≤ kind by omega) (show kind ≤ 18 by omega) c7 hfree (allowB_iff.1 hal)).trans he
     exact ⟨pc2, u, gave (keysB u.t), _, hd, rfl, hs2, hin2, h.to⟩
    refine W.seq (W.region (WL.val (run_eql rfl rfl) rfl rfl (WL.val run_assign rfl rfl (WL.nil ?_))))
    refine W.condIf rfl (fun c88 => ?_) (fun c88 => ?_)
    ·
     refine W.seq ?_
     have htyp := goodT_typ hgt
     have etyp : u.t.typ = ((u.t.typ.toNat : Nat) : Int) := by omega
     refine W.draw Tryz.follows h (fun w h => ?_)
     refine WT.pure 0 rfl (by kernel_rfl) (fun w' => run_move) rfl rfl (WT.pure 1 rfl (by kernel_rfl) (fun w' => (run_nilCheck rfl)) rfl rfl (WT.pure 2 rfl (by kernel_rfl) (fun w' => (run_fieldAddr 1 Tryz.underlying106 rfl Tryz.sizeOf99 rfl rfl)) rfl rfl (WT.load1 3 rfl (by kernel_rfl) Tryz.isAgg99 rfl (h.cellB rfl) rfl rfl (WT.pure 4 rfl (by kernel_rfl) (fun w' => (run_nilCheck rfl)) rfl rfl (WT.pure 5 rfl (by kernel_rfl) (fun w' => (run_fieldAddr 10 Tryz.underlying128 rfl Tryz.sizeOf126 rfl rfl)) rfl rfl (WT.load1 6 rfl (by kernel_rfl) Tryz.isAgg126 rfl ((h.cellB rfl).trans (congrArg (fun z : Int => some (Value.int .u32 z)) egen)) rfl rfl (WT.pure 7 rfl (by kernel_rfl) (fun w' => run_move) rfl rfl ?_)))))))
     refine WT.pure 8 rfl (by kernel_rfl) (fun w' => (run_nilCheck rfl)) rfl rfl (WT.pure 9 rfl (by kernel_rfl) (fun w' => (run_fieldAddr 1 Tryz.underlying106 rfl Tryz.sizeOf99 rfl rfl)) rfl rfl (WT.load1 10 rfl (by kernel_rfl) Tryz.isAgg99 rfl (h.cellB rfl) rfl rfl (WT.pure 11 rfl (by kernel_rfl) (fun w' => run_move) rfl rfl (WT.pure 12 rfl (by kernel_rfl) (fun w' => (run_nilCheck rfl)) rfl rfl (WT.pure 13 rfl (by kernel_rfl) (fun w' => (run_fieldAddr 1 Tryz.underlying106 rfl Tryz.sizeOf99 rfl rfl)) rfl rfl (WT.load1 14 rfl (by kernel_rfl) Tryz.isAgg99 rfl (h.cellB rfl) rfl rfl (WT.pure 15 rfl (by kernel_rfl) (fun w' => (run_nilCheck rfl)) rfl rfl ?_)))))))
     refine WT.pure 16 rfl (by kernel_rfl) (fun w' => (run_fieldAddr 8 Tryz.underlying128 rfl Tryz.sizeOf3 rfl rfl)) rfl rfl (WT.load1 17 rfl (by kernel_rfl) Tryz.isAgg3 rfl (h.cellB rfl) rfl rfl (WT.pure 19 rfl (by kernel_rfl) (fun w' => run_move) rfl rfl (WT.pure 20 rfl (by kernel_rfl) (fun w' => (run_nilCheck rfl)) rfl rfl (WT.pure 21 rfl (by kernel_rfl) (fun w' => (run_fieldAddr 1 Tryz.underlying106 rfl Tryz.sizeOf99 rfl rfl)) rfl rfl (WT.load1 22 rfl (by kernel_rfl) Tryz.isAgg99 rfl (h.cellB rfl) rfl rfl (WT.pure 23 rfl (by kernel_rfl) (fun w' => (run_nilCheck rfl)) rfl rfl (WT.pure 24 rfl (by kernel_rfl) (fun w' => (run_fieldAddr 9 Tryz.underlying128 rfl Tryz.sizeOf3 rfl rfl)) rfl rfl ?_)))))))
     refine WT.load1 25 rfl (by kernel_rfl) Tryz.isAgg3 rfl ((h.cellB rfl).trans (congrArg (fun z : Int => some (Value.int .i64 z)) etyp)) rfl rfl (WT.eff 18 [true, true, false, false, false, true, true] rfl (by kernel_rfl) (by kernel_rfl) (eff_call Tryz.call71 (rkey_ok (t := u.t) (b := bt) (hh := u.t.hold) (h.fetch (blk bt u.t.cells 128)))) rfl rfl ?_)
     rintro v149 w ⟨hv149, h⟩
     have hv149 : v149 = .int .u64 (holdK u.t) := hv149
     have hkk : 0 ≤ holdK u.t ∧ holdK u.t < 18446744073709551616 := by
       unfold holdK
       split
       · rename_i hb
         have hb := hostB_iff.1 hb
         exact hgok.1 _ (by omega)
       · exact ⟨Int.le_refl 0, by decide⟩
     have ekk : holdK u.t = (((holdK u.t).toNat : Nat) : Int) := by omega
     rw [ekk] at hv149
     subst hv149
     refine ⟨⟨(h.cellB rfl).trans (congrArg (fun z : Int => some (Value.int .i64 z)) etyp), h.cellB rfl, (h.cellB rfl).trans (congrArg (fun z : Int => some (Value.int .u32 z)) egen), h.cellB rfl, trivial⟩, ?_⟩
     refine WT.eff 26 [false, false, false, false] rfl (by kernel_rfl) (by kernel_rfl) (eff_call Tryz.call70 (rholder6_ok (g := u.t.gen.toNat) (key := (holdK u.t).toNat) (y := u.t.typ.toNat) (by have := hgok.2; omega) (by omega) (by omega) h)) rfl rfl ?_
     rintro v232 w ⟨a232, c232, hv232, h⟩
     rw [← holdB_P htyp.1] at hv232 h
     subst hv232
     refine ⟨trivial, ?_⟩
     refine WT.pure 27 rfl (by kernel_rfl) (fun w' => (run_buildS (pl := [(0, 1), (1, 1), (2, 1), (3, 1), (4, 1)]) (out := [.int .i64 _, .int .i64 _, .int .i64 _, .slice _ _ _, .int .i64 _]) Tryz.underlying36 Tryz.zeroValue36 (fun w => by kernel_rfl) rfl (⟨⟨_, _, rfl, rfl, by decide⟩, trivial⟩) rfl)) rfl rfl (WT.eff 28 [] rfl (by kernel_rfl) (by kernel_rfl) (eff_storeW (vs := [.int .i64 _, .int .i64 _, .int .i64 _, .slice _ _ _, .int .i64 _]) h Tryz.sizeOf36 rfl rfl rfl rfl rfl) rfl rfl ?_)
     rintro _ w h
     refine ⟨trivial, ?_⟩
     refine WT.done (by kernel_rfl) (W.ret (bodyQ.rcB (vs := [.int .i64 _, .int .i64 _, .int .i64 _, .slice _ _ _, .int .i64 _]) h Tryz.results24 Tryz.isAgg36 Tryz.sizeOf36 rfl rfl rfl ?_))
     have h := closeF (bu := bu) (u := u) hpk ((((h.fetch (PoolC pc)).fetch (blk bt u.t.cells 128)).fetch (RSpP 110 bs pc u.s)).fetch (blk bu (rcells bs bt xs) 106))
     have hf := finB (L := L) (a := a232) (c := c232) (ys := holdB u.t) (h.to : On W0 (OwnB (.slice a232 (holdB u.t).length c232) (holdB u.t) :: RefU 106 110 128 bu pc u :: PoolC pc :: L) _)
     obtain ⟨pc2, hs2, hin2, h⟩ := hf
     have he := actM_hold (u := u) (i := i) (c := (⟨kind, at_, n, data, key, new, typ, force⟩ : Cm)) (show kind = 17 by omega)
     have hd := (doM_go (u := u) (i := i) (c := (⟨kind, at_, n, data, key, new, typ, force⟩ : Cm)) hi (show 1 ≤ kind by omega) (show kind ≤ 18 by omega) c7 hfree (allowB_iff.1 hal)).trans he
     exact ⟨pc2, u, gave (holdB u.t), _, hd, rfl, hs2, hin2, h.to⟩
    refine W.seq (W.region (WL.val (run_eql rfl rfl) rfl rfl (WL.val run_assign rfl rfl (WL.nil ?_))))
    refine W.condIf rfl (fun c92 => ?_) (fun c92 => ?_)
    ·
     refine W.seq ?_
     have h := closeF (bu := bu) (u := u) hpk ((((h.fetch (PoolC pc)).fetch (blk bt u.t.cells 128)).fetch (RSpP 110 bs pc u.s)).fetch (blk bu (rcells bs bt xs) 106))
     refine W.region (WL.val run_assign rfl rfl (WL.nil (W.block ?_)))
     refine W.loop (fun (k : Nat) env w => k ≤ 8 ∧ ∃ (j : Env) (pq : PoolK), env = mkE j [(0, .pointer (some ⟨bu, 0, none⟩)), (6, .pointer (some ⟨b6, 0, none⟩)), (19, .int .i64 (k : Int))] ∧ subK pc pq ∧ On W0 (RefU 106 110 128 bu pq (resetN u k) :: PoolC pq :: blk b6 [.int .i64 0, .int .i64 0, .int .i64 0, .slice none 0 0, .int .i64 0] 36 :: L) w) (fun k => 8 - k) (0) ?_ ?_
     · have h : On W0 (RefU 106 110 128 bu pc (resetN u 0) :: _) w := h.fetch (RefU 106 110 128 bu pc u)
       exact ⟨Nat.zero_le _, _, pc, mkE_of ⟨rfl, rfl, rfl, trivial⟩, subK_refl, h.to⟩
     rintro k env w ⟨hk8, j, pq, rfl, hsq, h⟩
     refine W.seq (W.seq (W.region (WL.val run_move rfl rfl (WL.val (run_lss rfl rfl) rfl rfl (WL.nil ?_)))))
     refine W.condIf rfl (fun c97 => ?_) (fun c97 => ?_)
     ·
      refine W.skip (W.seq ?_)
      have hk7 : k < 8 := by omega
      have hsk : ((resetN u k).guest k).codes.length ≤ 1000000 := by rw [resetN_guest k (Nat.le_refl _)]; exact small_le hsm (by decide) k hk7
      refine W.block (W.region (WL.val run_move rfl rfl (WL.val run_move rfl rfl (WL.eff (eff_call Tryz.call72 (rnote_ok (i := k) (z := 10499) (u := resetN u k) (pc := pq) hk7 hsk ((h.fetch (PoolC pq)).fetch (RefU 106 110 128 bu pq (resetN u k))))) rfl rfl ?_))))
      rintro _ w ⟨pr, hsr, h⟩
      have h : On W0 (RefU 106 110 128 bu pr (resetN u (k + 1)) :: _) w := h
      refine WL.nil (W.region (WL.val run_move rfl rfl (WL.val (run_incN rfl rfl (by omega)) rfl rfl (WL.val run_assign rfl rfl (WL.nil ?_)))))
      exact ⟨k + 1, ⟨by omega, _, pr, mkE_of ⟨rfl, rfl, rfl, trivial⟩, hsq.trans hsr, h.to⟩, by show 8 - (k + 1) < 8 - k; omega⟩
     refine W.exit (W.seq (W.region (WL.val (run_buildS (pl := [(0, 1), (1, 1), (2, 1), (3, 1), (4, 1)]) (out := [.int .i64 _, .int .i64 _, .int .i64 _, .slice _ _ _, .int .i64 _]) Tryz.underlying36 Tryz.zeroValue36 (fun w => by kernel_rfl) rfl (trivial) rfl) rfl rfl (WL.eff (eff_storeW (vs := [.int .i64 _, .int .i64 _, .int .i64 _, .slice _ _ _, .int .i64 _]) h Tryz.sizeOf36 rfl rfl rfl rfl rfl) rfl rfl ?_))))
     rintro _ w h
     refine WL.nil (W.ret (bodyQ.rcB (vs := [.int .i64 _, .int .i64 _, .int .i64 _, .slice _ _ _, .int .i64 _]) h Tryz.results24 Tryz.isAgg36 Tryz.sizeOf36 rfl rfl rfl ?_))
     have ob_ : k = 8 := by omega
     obtain rfl := ob_
     have he := actM_reset (u := u) (i := i) (c := (⟨kind, at_, n, data, key, new, typ, force⟩ : Cm)) (show kind = 18 by omega)
     have hd := (doM_go (u := u) (i := i) (c := (⟨kind, at_, n, data, key, new, typ, force⟩ : Cm)) hi (show 1 ≤ kind by omega) (show kind ≤ 18 by omega) c7 hfree (allowB_iff.1 hal)).trans he
     exact ⟨pq, (resetN u 8), plain 0 0 0, .slice none 0 0, hd, rfl, hsq, (hsq _ hnil), h.to⟩
    have h := closeF (bu := bu) (u := u) hpk ((((h.fetch (PoolC pc)).fetch (blk bt u.t.cells 128)).fetch (RSpP 110 bs pc u.s)).fetch (blk bu (rcells bs bt xs) 106))
    refine W.skip (W.seq (W.region (WL.val (run_buildS (pl := [(0, 1), (1, 1), (2, 1), (3, 1), (4, 1)]) (out := [.int .i64 _, .int .i64 _, .int .i64 _, .slice _ _ _, .int .i64 _]) Tryz.underlying36 Tryz.zeroValue36 (fun w => by kernel_rfl) rfl (trivial) rfl) rfl rfl (WL.eff (eff_storeW (vs := [.int .i64 _, .int .i64 _, .int .i64 _, .slice _ _ _, .int .i64 _]) h Tryz.sizeOf36 rfl rfl rfl rfl rfl) rfl rfl ?_))))
    rintro _ w h
    refine WL.nil (W.ret (bodyQ.rcB (vs := [.int .i64 _, .int .i64 _, .int .i64 _, .slice _ _ _, .int .i64 _]) h Tryz.results24 Tryz.isAgg36 Tryz.sizeOf36 rfl rfl rfl ?_))
    have he : actM u i (⟨kind, at_, n, data, key, new, typ, force⟩ : Cm) = (u, plain 0 0 0) := by unfold actM; rw [if_pos (show kind = 1 by omega)]
    have hd := (doM_go (u := u) (i := i) (c := (⟨kind, at_, n, data, key, new, typ, force⟩ : Cm)) hi (show 1 ≤ kind by omega) (show kind ≤ 18 by omega) c7 hfree (allowB_iff.1 hal)).trans he
    exact ⟨pc, u, plain 0 0 0, .slice none 0 0, hd, rfl, subK_refl, (subK_refl _ hnil), h.to⟩
   refine WT.pure 8 rfl (by kernel_rfl) (fun w' => (run_not rfl)) rfl rfl (WT.done (by kernel_rfl) (W.condT rfl (W.seq (W.region (WL.val (run_buildS (pl := [(0, 1), (1, 1), (2, 1), (3, 1), (4, 1)]) (out := [.int .i64 _, .int .i64 _, .int .i64 _, .slice _ _ _, .int .i64 _]) Tryz.underlying36 Tryz.zeroValue36 (fun w => by kernel_rfl) rfl (⟨⟨_, _, rfl, rfl, by decide⟩, trivial⟩) rfl) rfl rfl (WL.eff (eff_storeW (vs := [.int .i64 _, .int .i64 _, .int .i64 _, .slice _ _ _, .int .i64 _]) h Tryz.sizeOf36 rfl rfl rfl rfl rfl) rfl rfl ?_))))))
   rintro _ w h
   refine WL.nil (W.ret (bodyQ.rcB (vs := [.int .i64 _, .int .i64 _, .int .i64 _, .slice _ _ _, .int .i64 _]) h Tryz.results24 Tryz.isAgg36 Tryz.sizeOf36 rfl rfl rfl ?_))
   have h := closeF (bu := bu) (u := u) hpk ((((h.fetch (PoolC pc)).fetch (blk bt u.t.cells 128)).fetch (RSpP 110 bs pc u.s)).fetch (blk bu (rcells bs bt xs) 106))
   exact ⟨pc, u, plain 24 0 0, .slice none 0 0, doM_no (c := (⟨kind, at_, n, data, key, new, typ, force⟩ : Cm)) hi (show 1 ≤ kind by omega) (show kind ≤ 18 by omega) c7 (.inr hc0) (by rw [← allowB_iff]; show ¬ allowB u.t i kind = true; rw [hal]; decide), rfl, subK_refl, hnil, h.to⟩
  refine W.skip (W.seq (W.seq ?_))
  have hmx := maxLen_eq
  have ho := openF (h.fetch (RefU 106 110 128 bu pc u))
  obtain ⟨bs, bt, xs, hpk, h⟩ := ho
  have hl8 := xs_len hpk
  refine W.draw Tryz.follows h (fun w h => ?_)
  refine WT.pure 0 rfl (by kernel_rfl) (fun w' => run_move) rfl rfl (WT.pure 1 rfl (by kernel_rfl) (fun w' => (run_nilCheck rfl)) rfl rfl (WT.pure 2 rfl (by kernel_rfl) (fun w' => (run_fieldAddr 1 Tryz.underlying106 rfl Tryz.sizeOf99 rfl rfl)) rfl rfl (WT.load1 3 rfl (by kernel_rfl) Tryz.isAgg99 rfl (h.cellB rfl) rfl rfl (WT.pure 4 rfl (by kernel_rfl) (fun w' => run_move) rfl rfl (WT.pure 5 rfl (by kernel_rfl) (fun w' => (run_fieldAddr 0 Tryz.underlying25 rfl Tryz.sizeOf3 rfl rfl)) rfl rfl (WT.load1 6 rfl (by kernel_rfl) Tryz.isAgg3 rfl (h.cellB rfl) rfl rfl (WT.eff 7 [false, false] rfl (by kernel_rfl) (by kernel_rfl) (eff_call Tryz.call58 (rallows_ok (i := i) (t := u.t) (b := bt) (kind := kind) hi hty6 (goodT_hold hgt) (h.fetch (blk bt u.t.cells 128)))) rfl rfl ?_)))))))
  rintro _ w ⟨hv, h⟩
  have hcs := Bool.eq_false_or_eq_true (allowB u.t i kind)
  rcases hcs with hal | hal <;> (rw [hal] at hv; subst hv)
  all_goals (refine ⟨trivial, ?_⟩)
  ·
   refine WT.pure 8 rfl (by kernel_rfl) (fun w' => (run_not rfl)) rfl rfl (WT.done (by kernel_rfl) (W.condF rfl (W.skip (W.seq (W.seq ?_)))))
   have hfree : ((⟨kind, at_, n, data, key, new, typ, force⟩ : Cm).kind = 8 ∨ (u.guest i).codes = []) := .inl (show kind = 8 by omega)
   refine W.region (WL.val (run_fieldAddr 0 Tryz.underlying25 rfl Tryz.sizeOf3 rfl rfl) rfl rfl (WL.val (run_load1 Tryz.isAgg3 rfl (h.cellB rfl)) rfl rfl (WL.nil (W.block (W.seq (W.region (WL.val (run_eql rfl rfl) rfl rfl ?_)))))))
   refine WL.val run_assign rfl rfl (WL.nil ?_)
   refine W.condIf rfl (fun c29 => ?_) (fun c29 => ?_)
   ·
    refine W.seq (W.region (WL.eff (eff_call Tryz.call59 (rinq5_ok h)) rfl rfl ?_))
    rintro _ w ⟨a74, c74, rfl, h⟩
    refine WL.val (run_buildS (pl := [(0, 1), (1, 1), (2, 1), (3, 1), (4, 1)]) (out := [.int .i64 _, .int .i64 _, .int .i64 _, .slice _ _ _, .int .i64 _]) Tryz.underlying36 Tryz.zeroValue36 (fun w => by kernel_rfl) rfl (⟨⟨_, _, rfl, rfl, by decide⟩, trivial⟩) rfl) rfl rfl (WL.eff (eff_storeW (vs := [.int .i64 _, .int .i64 _, .int .i64 _, .slice _ _ _, .int .i64 _]) h Tryz.sizeOf36 rfl rfl rfl rfl rfl) rfl rfl ?_)
    rintro _ w h
    refine WL.nil (W.ret (bodyQ.rcB (vs := [.int .i64 _, .int .i64 _, .int .i64 _, .slice _ _ _, .int .i64 _]) h Tryz.results24 Tryz.isAgg36 Tryz.sizeOf36 rfl rfl rfl ?_))
    have h := closeF (bu := bu) (u := u) hpk ((((h.fetch (PoolC pc)).fetch (blk bt u.t.cells 128)).fetch (RSpP 110 bs pc u.s)).fetch (blk bu (rcells bs bt xs) 106))
    have hf := finB (L := L) (a := a74) (c := c74) (ys := inqB) (h.to : On W0 (OwnB (.slice a74 (inqB).length c74) (inqB) :: RefU 106 110 128 bu pc u :: PoolC pc :: L) _)
    obtain ⟨pc2, hs2, hin2, h⟩ := hf
    have he : actM u i (⟨kind, at_, n, data, key, new, typ, force⟩ : Cm) = (u, gave inqB) := by unfold actM; rw [if_neg (show ¬ kind = 1 by omega), if_pos (show kind = 8 by omega)]
    have hd := (doM_go (u := u) (i := i) (c := (⟨kind, at_, n, data, key, new, typ, force⟩ : Cm)) hi (show 1 ≤ kind by omega) (show kind ≤ 18 by omega) c7 hfree (allowB_iff.1 hal)).trans he
    exact ⟨pc2, u, gave inqB, _, hd, rfl, hs2, hin2, h.to⟩
   exact (c13 c29).elim
  refine WT.pure 8 rfl (by kernel_rfl) (fun w' => (run_not rfl)) rfl rfl (WT.done (by kernel_rfl) (W.condT rfl (W.seq (W.region (WL.val (run_buildS (pl := [(0, 1), (1, 1), (2, 1), (3, 1), (4, 1)]) (out := [.int .i64 _, .int .i64 _, .int .i64 _, .slice _ _ _, .int .i64 _]) Tryz.underlying36 Tryz.zeroValue36 (fun w => by kernel_rfl) rfl (⟨⟨_, _, rfl, rfl, by decide⟩, trivial⟩) rfl) rfl rfl (WL.eff (eff_storeW (vs := [.int .i64 _, .int .i64 _, .int .i64 _, .slice _ _ _, .int .i64 _]) h Tryz.sizeOf36 rfl rfl rfl rfl rfl) rfl rfl ?_))))))
  rintro _ w h
  refine WL.nil (W.ret (bodyQ.rcB (vs := [.int .i64 _, .int .i64 _, .int .i64 _, .slice _ _ _, .int .i64 _]) h Tryz.results24 Tryz.isAgg36 Tryz.sizeOf36 rfl rfl rfl ?_))
  have h := closeF (bu := bu) (u := u) hpk ((((h.fetch (PoolC pc)).fetch (blk bt u.t.cells 128)).fetch (RSpP 110 bs pc u.s)).fetch (blk bu (rcells bs bt xs) 106))
  exact ⟨pc, u, plain 24 0 0, .slice none 0 0, doM_no (c := (⟨kind, at_, n, data, key, new, typ, force⟩ : Cm)) hi (show 1 ≤ kind by omega) (show kind ≤ 18 by omega) c7 (.inl (show kind = 8 by omega)) (by rw [← allowB_iff]; show ¬ allowB u.t i kind = true; rw [hal]; decide), rfl, subK_refl, hnil, h.to⟩

end Go.Proofs.YtdpakoefdpmebaaGreat
