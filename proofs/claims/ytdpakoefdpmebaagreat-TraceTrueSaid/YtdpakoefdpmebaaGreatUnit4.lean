/-
  A unit: commands of blocks: the contracts. Lines of walks printed by a program of the prover's.
-/
import Derived.Test.YtdpakoefdpmebaaGreatUnit3
namespace Go.Proofs.YtdpakoefdpmebaaGreat
open Go Go.Sl Go.Sl.BitM Go.Sl.SpM Go.Sl.RsM Go.Sl.ByM Go.Sl.UnM
set_option linter.unusedVariables false
set_option linter.unusedSimpArgs false
set_option maxHeartbeats 1000000
set_option maxRecDepth 8000
variable {W0 w : World} {L F : List HProp}


theorem runM_out {s : Sp} {c : Cm} (h : ¬ inS s c.at_ c.n) : runM s c = (s, plain 2 5 8448) := by unfold runM; rw [if_neg h]
theorem runM_read {s : Sp} {p q : Nat} {n : Int} {d : List UInt8} {key new typ : Int} {f : Bool} (hn : n = q) (h : inS s p n) : runM s ⟨2, p, n, d, key, new, typ, f⟩ = (s, gave (partS s p q)) := by
  subst hn; unfold runM; rw [if_pos h, if_pos rfl]; rfl
theorem runM_write {s : Sp} {p : Nat} {n : Int} {d : List UInt8} {key new typ : Int} {f : Bool} (h : inS s p n) (hl : (d.length : Int) = n * 8) : runM s ⟨3, p, n, d, key, new, typ, f⟩ = (writeS s p d, plain 0 0 0) := by
  unfold runM; rw [if_pos h, if_neg (show ¬ (3 : Int) = 2 by decide), if_pos rfl, if_pos hl]; rfl
theorem runM_write_no {s : Sp} {p n : Int} {d : List UInt8} {key new typ : Int} {f : Bool} (h : inS s p n) (hl : ¬ (d.length : Int) = n * 8) : runM s ⟨3, p, n, d, key, new, typ, f⟩ = (s, plain 2 5 9216) := by
  unfold runM; rw [if_pos h, if_neg (show ¬ (3 : Int) = 2 by decide), if_pos rfl, if_neg hl]
theorem runM_unmap {s : Sp} {p q : Nat} {n : Int} {d : List UInt8} {key new typ : Int} {f : Bool} (hn : n = q) (h : inS s p n) : runM s ⟨5, p, n, d, key, new, typ, f⟩ = (unmapS s p q, plain 0 0 0) := by
  subst hn; unfold runM; rw [if_pos h, if_neg (show ¬ (5 : Int) = 2 by decide), if_neg (show ¬ (5 : Int) = 3 by decide), if_pos rfl]; rfl
theorem runM_cmp {s : Sp} {p q : Nat} {n : Int} {d : List UInt8} {key new typ : Int} {f : Bool} (hn : n = q) (h : inS s p n) (hl : (d.length : Int) = 2 * (n * 8)) : runM s ⟨6, p, n, d, key, new, typ, f⟩ = cmpM s p q d := by
  subst hn; unfold runM; rw [if_pos h, if_neg (show ¬ (6 : Int) = 2 by decide), if_neg (show ¬ (6 : Int) = 3 by decide), if_neg (show ¬ (6 : Int) = 5 by decide), if_pos rfl, if_pos hl]; rfl
theorem runM_cmp_no {s : Sp} {p n : Int} {d : List UInt8} {key new typ : Int} {f : Bool} (h : inS s p n) (hl : ¬ (d.length : Int) = 2 * (n * 8)) : runM s ⟨6, p, n, d, key, new, typ, f⟩ = (s, plain 2 5 9216) := by
  unfold runM; rw [if_pos h, if_neg (show ¬ (6 : Int) = 2 by decide), if_neg (show ¬ (6 : Int) = 3 by decide), if_neg (show ¬ (6 : Int) = 5 by decide), if_pos rfl, if_neg hl]
theorem runM_else {s : Sp} {p n kind : Int} {d : List UInt8} {key new typ : Int} {f : Bool} (h : inS s p n) (h2 : kind ≠ 2) (h3 : kind ≠ 3) (h5 : kind ≠ 5) (h6 : kind ≠ 6) : runM s ⟨kind, p, n, d, key, new, typ, f⟩ = (s, plain 0 0 0) := by
  unfold runM; rw [if_pos h, if_neg h2, if_neg h3, if_neg h5, if_neg h6]
theorem cmpM_yes {s : Sp} {p q : Nat} {d : List UInt8} (h : partS s p q = d.take (8 * q)) : cmpM s p q d = (writeS s p (d.drop (8 * q)), plain 0 0 0) := by unfold cmpM; rw [if_pos h]
theorem cmpM_no {s : Sp} {p q i : Nat} {d : List UInt8} (hw : wfS s) (hpq : p + q ≤ s.N) (hd : d.length = 16 * q) (hi : i < 8 * q) (h1 : (partS s p q)[i]? ≠ d[i]?) (h2 : ∀ j, j < i → (partS s p q)[j]? = d[j]?) : cmpM s p q d = (s, ⟨2, 14, 7424, [], (i : Int)⟩) := by
  unfold cmpM
  rw [if_neg (fun e => h1 (by rw [e, List.getElem?_take, if_pos hi])), diffAt_eq _ _ i h1 (by rw [partS_length hw hpq]; exact hi) (by omega) h2]
theorem On.wfS {b : Nat} {s : Sp} (h : On W0 (SpP 146 b s :: L) w) : wfS s := by
  have ho := openS h
  obtain ⟨gd, od, cd, am, cm, hw, _⟩ := ho
  exact hw

theorem urun_ok {bu : Nat} {u : Un} {pool : PoolL} {ms : List Nat} {kind at_ n key new typ : Int} {force : Bool} {data : List UInt8} {ax : Option Addr} {cx : Nat} (h : On W0 (UnP 84 146 152 bu pool ms u :: L) w) (C : Gives L (Bytes (.slice ax data.length cx) data)) (hd : data.length ≤ 1000000) : Calls Tryz.prog 92 #[.pointer (some ⟨bu, 0, none⟩), (⟨kind, at_, n, data, key, new, typ, force⟩ : Cm).val (.slice ax data.length cx)] w (Ret fun v w' => ∃ s' r dv, runM u.s (⟨kind, at_, n, data, key, new, typ, force⟩ : Cm) = (s', r) ∧ v = r.val dv ∧ On W0 (OwnB dv r.data :: UnP 84 146 152 bu pool ms (u.setS s') :: L) w') := by
  refine enter Tryz.func92 rfl Tryz.ntmps92 rfl ?_
  have hmx := maxLen_eq
  have ob_ := openU h
  obtain ⟨bs, bt, gs, hm, hl, h⟩ := ob_
  have hwf := On.wfS (h.fetch (SpP 146 bs u.s))
  have hN := hwf.2.2.1
  refine W.seq (W.region (WL.eff (eff_box (v := .agg _) (l := (⟨kind, at_, n, data, key, new, typ, force⟩ : Cm).cells (.slice ax data.length cx)) h rfl rfl) rfl rfl ?_))
  rintro _ w ⟨b3, rfl, h⟩
  have h : On W0 (blk b3 [.int .i64 kind, .int .i64 at_, .int .i64 n, .slice ax data.length cx, .int .u64 key, .int .u64 new, .int .i64 typ, .bool force] 25 :: _) w := h
  refine WL.eff (eff_alloc h Tryz.zeroValue36 rfl) rfl rfl ?_
  rintro _ w ⟨b4, rfl, h⟩
  refine WL.nil (W.seq (W.seq ?_))
  refine W.draw Tryz.follows h (fun w h => ?_)
  refine WT.pure 0 rfl (by kernel_rfl) (fun w' => run_move) rfl rfl (WT.pure 1 rfl (by kernel_rfl) (fun w' => (run_nilCheck rfl)) rfl rfl (WT.pure 2 rfl (by kernel_rfl) (fun w' => (run_fieldAddr 0 Tryz.underlying84 rfl Tryz.sizeOf73 rfl rfl)) rfl rfl (WT.load1 3 rfl (by kernel_rfl) Tryz.isAgg73 rfl (h.cellB rfl) rfl rfl (WT.pure 4 rfl (by kernel_rfl) (fun w' => (run_fieldAddr 1 Tryz.underlying25 rfl Tryz.sizeOf3 rfl rfl)) rfl rfl (WT.load1 5 rfl (by kernel_rfl) Tryz.isAgg3 rfl (h.cellB rfl) rfl rfl (WT.pure 6 rfl (by kernel_rfl) (fun w' => (run_fieldAddr 2 Tryz.underlying25 rfl Tryz.sizeOf3 rfl rfl)) rfl rfl (WT.load1 7 rfl (by kernel_rfl) Tryz.isAgg3 rfl (h.cellB rfl) rfl rfl ?_)))))))
  refine WT.eff 8 [false, false, false] rfl (by kernel_rfl) (by kernel_rfl) (eff_call Tryz.call133 (sin_ok (h.fetch (SpP 146 bs u.s)))) rfl rfl ?_
  rintro _ w ⟨hv, h⟩
  rcases hv with ⟨rfl, hin⟩ | ⟨rfl, hin⟩
  all_goals (refine ⟨trivial, ?_⟩)
  ·
   refine WT.pure 9 rfl (by kernel_rfl) (fun w' => (run_not rfl)) rfl rfl (WT.done (by kernel_rfl) (W.condF rfl (W.skip (W.seq ?_))))
   have hin0 := hin
   unfold inS at hin0
   have ob_ := Int.eq_ofNat_of_zero_le (show 0 ≤ at_ by omega)
   obtain ⟨p, hp⟩ := ob_
   subst hp
   have ob_ := Int.eq_ofNat_of_zero_le (show 0 ≤ n by omega)
   obtain ⟨q, hq⟩ := ob_
   subst hq
   refine W.region (WL.val (run_fieldAddr 2 Tryz.underlying25 rfl Tryz.sizeOf3 rfl rfl) rfl rfl (WL.val (run_load1 Tryz.isAgg3 rfl (h.cellB rfl)) rfl rfl (WL.val (run_mulN (m := q) (n := 8) rfl rfl (by omega)) rfl rfl (WL.val run_assign rfl rfl (WL.nil (W.seq (W.seq ?_)))))))
   refine W.region (WL.val (run_fieldAddr 0 Tryz.underlying25 rfl Tryz.sizeOf3 rfl rfl) rfl rfl (WL.val (run_load1 Tryz.isAgg3 rfl (h.cellB rfl)) rfl rfl (WL.nil (W.block (W.seq (W.region (WL.val (run_eql rfl rfl) rfl rfl ?_)))))))
   refine WL.val run_assign rfl rfl (WL.nil ?_)
   refine W.condIf rfl (fun c10 => ?_) (fun c10 => ?_)
   ·
    refine W.seq ?_
    refine W.draw Tryz.follows h (fun w h => ?_)
    refine WT.pure 0 rfl (by kernel_rfl) (fun w' => run_move) rfl rfl (WT.pure 1 rfl (by kernel_rfl) (fun w' => (run_nilCheck rfl)) rfl rfl (WT.pure 2 rfl (by kernel_rfl) (fun w' => (run_fieldAddr 0 Tryz.underlying84 rfl Tryz.sizeOf73 rfl rfl)) rfl rfl (WT.load1 3 rfl (by kernel_rfl) Tryz.isAgg73 rfl (h.cellB rfl) rfl rfl (WT.pure 4 rfl (by kernel_rfl) (fun w' => (run_fieldAddr 1 Tryz.underlying25 rfl Tryz.sizeOf3 rfl rfl)) rfl rfl (WT.load1 5 rfl (by kernel_rfl) Tryz.isAgg3 rfl (h.cellB rfl) rfl rfl (WT.pure 6 rfl (by kernel_rfl) (fun w' => (run_fieldAddr 2 Tryz.underlying25 rfl Tryz.sizeOf3 rfl rfl)) rfl rfl (WT.load1 7 rfl (by kernel_rfl) Tryz.isAgg3 rfl (h.cellB rfl) rfl rfl ?_)))))))
    refine WT.eff 8 [false, false, false] rfl (by kernel_rfl) (by kernel_rfl) (eff_call Tryz.call134 (read_ok (s := u.s) (at_ := (p : Int)) (n := (q : Int)) (h.fetch (SpP 146 bs u.s)))) rfl rfl ?_
    rintro _ w hv
    rcases hv with ⟨p', q', hp', hq', hpq, hq32, a38, rfl, h⟩ | ⟨hno, _, _⟩
    rotate_left
    · exact absurd hin hno
    have ob_ : p = p' := by omega
    obtain rfl := ob_
    have ob_ : q = q' := by omega
    obtain rfl := ob_
    refine ⟨trivial, ?_⟩
    refine WT.pure 9 rfl (by kernel_rfl) (fun w' => run_move) rfl rfl (WT.pure 10 rfl (by kernel_rfl) (fun w' => (run_extract rfl rfl)) rfl rfl (WT.pure 11 rfl (by kernel_rfl) (fun w' => (run_extract rfl rfl)) rfl rfl (WT.pure 12 rfl (by kernel_rfl) (fun w' => run_assign) rfl rfl (WT.pure 13 rfl (by kernel_rfl) (fun w' => run_assign) rfl rfl (WT.done (by kernel_rfl) (W.seq (W.region ?_)))))))
    refine WL.val run_move rfl rfl (WL.eff (eff_call Tryz.call38 (sgood_ok (bs := partS u.s p q) h (Gives.ownO (v := .slice a38 (partS u.s p q).length (partS u.s p q).length)) (by rw [partS_length hwf hpq]; omega))) rfl rfl ?_)
    rintro _ w ⟨a42, rfl, h⟩
    refine WL.eff (eff_storeW (vs := [.int .i64 _, .int .i64 _, .int .i64 _, .slice _ _ _, .int .i64 _]) h Tryz.sizeOf36 rfl rfl rfl rfl rfl) rfl rfl ?_
    rintro _ w h
    refine WL.nil (W.ret (bodyQ.rcB (vs := [.int .i64 _, .int .i64 _, .int .i64 _, .slice _ _ _, .int .i64 _]) h Tryz.results92 Tryz.isAgg36 Tryz.sizeOf36 rfl rfl rfl ?_))
    have h := (closeU (bu := bu) (u := u.setS u.s) hm hl ((((h.fetch (Big (GOwn pool) gs)).fetch (blk bt u.t.cells 152)).fetch (SpP 146 bs u.s)).fetch (blk bu (ucells bs bt gs) 84)))
    have h : On W0 (OwnB (.slice a42 (partS u.s p q).length (partS u.s p q).length) (gave (partS u.s p q)).data :: _) w := h.fetch (OwnB (.slice a42 (partS u.s p q).length (partS u.s p q).length) (partS u.s p q))
    exact ⟨u.s, _, .slice a42 (partS u.s p q).length (partS u.s p q).length, (by rw [c10]; exact runM_read rfl hin), rfl, h.to⟩
   refine W.seq (W.region (WL.val (run_eql rfl rfl) rfl rfl (WL.val run_assign rfl rfl (WL.nil ?_))))
   refine W.condIf rfl (fun c15 => ?_) (fun c15 => ?_)
   ·
    refine W.seq (W.seq (W.region (WL.val (run_fieldAddr 3 Tryz.underlying25 rfl Tryz.sizeOf22 rfl rfl) rfl rfl (WL.val (run_load1 Tryz.isAgg22 rfl (h.cellB rfl)) rfl rfl (WL.val (run_lenSlice Tryz.underlying22 rfl) rfl rfl (WL.val run_move rfl rfl (WL.val (run_neq rfl rfl) rfl rfl ?_)))))))
    refine WL.nil ?_
    refine W.condIf rfl (fun c17 => ?_) (fun c17 => ?_)
    ·
     refine W.seq (W.region (WL.eff (eff_call Tryz.call36 (wrong_ok h)) rfl rfl ?_))
     rintro _ w ⟨rfl, h⟩
     refine WL.eff (eff_storeW (vs := [.int .i64 _, .int .i64 _, .int .i64 _, .slice _ _ _, .int .i64 _]) h Tryz.sizeOf36 rfl rfl rfl rfl rfl) rfl rfl ?_
     rintro _ w h
     refine WL.nil (W.ret (bodyQ.rcB (vs := [.int .i64 _, .int .i64 _, .int .i64 _, .slice _ _ _, .int .i64 _]) h Tryz.results92 Tryz.isAgg36 Tryz.sizeOf36 rfl rfl rfl ?_))
     have h : On W0 (OwnB (.slice none 0 0) (plain 2 5 9216 : Rp).data :: _) w := (closeU (bu := bu) (u := u.setS u.s) hm hl ((((h.fetch (Big (GOwn pool) gs)).fetch (blk bt u.t.cells 152)).fetch (SpP 146 bs u.s)).fetch (blk bu (ucells bs bt gs) 84))).ownEmpty 1 none
     exact ⟨u.s, plain 2 5 9216, .slice none 0 0, (by rw [c15]; exact runM_write_no hin (by omega)), rfl, h.to⟩
    refine W.skip ?_
    refine W.draw Tryz.follows h (fun w h => ?_)
    refine WT.pure 0 rfl (by kernel_rfl) (fun w' => run_move) rfl rfl (WT.pure 1 rfl (by kernel_rfl) (fun w' => (run_nilCheck rfl)) rfl rfl (WT.pure 2 rfl (by kernel_rfl) (fun w' => (run_fieldAddr 0 Tryz.underlying84 rfl Tryz.sizeOf73 rfl rfl)) rfl rfl (WT.load1 3 rfl (by kernel_rfl) Tryz.isAgg73 rfl (h.cellB rfl) rfl rfl (WT.pure 4 rfl (by kernel_rfl) (fun w' => (run_fieldAddr 1 Tryz.underlying25 rfl Tryz.sizeOf3 rfl rfl)) rfl rfl (WT.load1 5 rfl (by kernel_rfl) Tryz.isAgg3 rfl (h.cellB rfl) rfl rfl (WT.pure 6 rfl (by kernel_rfl) (fun w' => (run_fieldAddr 3 Tryz.underlying25 rfl Tryz.sizeOf22 rfl rfl)) rfl rfl (WT.load1 7 rfl (by kernel_rfl) Tryz.isAgg22 rfl (h.cellB rfl) rfl rfl ?_)))))))
    refine WT.eff 8 [false, false, false] rfl (by kernel_rfl) (by kernel_rfl) (eff_call Tryz.call135 (write_ok (s := u.s) (at_ := (p : Int)) (bs := data) (h.fetch (SpP 146 bs u.s)) (Gives.to C))) rfl rfl ?_
    rintro _ w hv
    rcases hv with ⟨p', hp', hm8, hpw, hq32, rfl, h⟩ | ⟨hno, _, _⟩
    rotate_left
    · exact absurd (show _ ∧ _ from ⟨by omega, by unfold inS; omega⟩) hno
    have ob_ : p = p' := by omega
    obtain rfl := ob_
    refine ⟨trivial, ?_⟩
    refine WT.done (by kernel_rfl) (W.seq (W.region (WL.val (run_buildS (pl := [(0, 1), (1, 1), (2, 1), (3, 1), (4, 1)]) (out := [.int .i64 _, .int .i64 _, .int .i64 _, .slice _ _ _, .int .i64 _]) Tryz.underlying36 Tryz.zeroValue36 (fun w => by kernel_rfl) rfl (trivial) rfl) rfl rfl (WL.eff (eff_storeW (vs := [.int .i64 _, .int .i64 _, .int .i64 _, .slice _ _ _, .int .i64 _]) h Tryz.sizeOf36 rfl rfl rfl rfl rfl) rfl rfl ?_))))
    rintro _ w h
    refine WL.nil (W.ret (bodyQ.rcB (vs := [.int .i64 _, .int .i64 _, .int .i64 _, .slice _ _ _, .int .i64 _]) h Tryz.results92 Tryz.isAgg36 Tryz.sizeOf36 rfl rfl rfl ?_))
    have h : On W0 (OwnB (.slice none 0 0) (plain 0 0 0 : Rp).data :: _) w := (closeU (bu := bu) (u := u.setS (writeS u.s p data)) hm hl ((((h.fetch (Big (GOwn pool) gs)).fetch (blk bt u.t.cells 152)).fetch (SpP 146 bs (writeS u.s p data))).fetch (blk bu (ucells bs bt gs) 84))).ownEmpty 1 none
    exact ⟨(writeS u.s p data), plain 0 0 0, .slice none 0 0, (by rw [c15]; exact runM_write hin (by omega)), rfl, h.to⟩
   refine W.seq (W.region (WL.val (run_eql rfl rfl) rfl rfl (WL.val run_assign rfl rfl (WL.nil ?_))))
   refine W.condIf rfl (fun c23 => ?_) (fun c23 => ?_)
   ·
    refine W.draw Tryz.follows h (fun w h => ?_)
    refine WT.pure 0 rfl (by kernel_rfl) (fun w' => run_move) rfl rfl (WT.pure 1 rfl (by kernel_rfl) (fun w' => (run_nilCheck rfl)) rfl rfl (WT.pure 2 rfl (by kernel_rfl) (fun w' => (run_fieldAddr 0 Tryz.underlying84 rfl Tryz.sizeOf73 rfl rfl)) rfl rfl (WT.load1 3 rfl (by kernel_rfl) Tryz.isAgg73 rfl (h.cellB rfl) rfl rfl (WT.pure 4 rfl (by kernel_rfl) (fun w' => (run_fieldAddr 1 Tryz.underlying25 rfl Tryz.sizeOf3 rfl rfl)) rfl rfl (WT.load1 5 rfl (by kernel_rfl) Tryz.isAgg3 rfl (h.cellB rfl) rfl rfl (WT.pure 6 rfl (by kernel_rfl) (fun w' => (run_fieldAddr 2 Tryz.underlying25 rfl Tryz.sizeOf3 rfl rfl)) rfl rfl (WT.load1 7 rfl (by kernel_rfl) Tryz.isAgg3 rfl (h.cellB rfl) rfl rfl ?_)))))))
    refine WT.eff 8 [false, false, false] rfl (by kernel_rfl) (by kernel_rfl) (eff_call Tryz.call136 (unmap_ok (s := u.s) (at_ := (p : Int)) (n := (q : Int)) (h.fetch (SpP 146 bs u.s)))) rfl rfl ?_
    rintro _ w hv
    rcases hv with ⟨p', q', hp', hq', hpq, hq32, rfl, h⟩ | ⟨hno, _, _⟩
    rotate_left
    · exact absurd hin hno
    have ob_ : p = p' := by omega
    obtain rfl := ob_
    have ob_ : q = q' := by omega
    obtain rfl := ob_
    refine ⟨trivial, ?_⟩
    refine WT.done (by kernel_rfl) (W.seq (W.region (WL.val (run_buildS (pl := [(0, 1), (1, 1), (2, 1), (3, 1), (4, 1)]) (out := [.int .i64 _, .int .i64 _, .int .i64 _, .slice _ _ _, .int .i64 _]) Tryz.underlying36 Tryz.zeroValue36 (fun w => by kernel_rfl) rfl (trivial) rfl) rfl rfl (WL.eff (eff_storeW (vs := [.int .i64 _, .int .i64 _, .int .i64 _, .slice _ _ _, .int .i64 _]) h Tryz.sizeOf36 rfl rfl rfl rfl rfl) rfl rfl ?_))))
    rintro _ w h
    refine WL.nil (W.ret (bodyQ.rcB (vs := [.int .i64 _, .int .i64 _, .int .i64 _, .slice _ _ _, .int .i64 _]) h Tryz.results92 Tryz.isAgg36 Tryz.sizeOf36 rfl rfl rfl ?_))
    have h : On W0 (OwnB (.slice none 0 0) (plain 0 0 0 : Rp).data :: _) w := (closeU (bu := bu) (u := u.setS (unmapS u.s p q)) hm hl ((((h.fetch (Big (GOwn pool) gs)).fetch (blk bt u.t.cells 152)).fetch (SpP 146 bs (unmapS u.s p q))).fetch (blk bu (ucells bs bt gs) 84))).ownEmpty 1 none
    exact ⟨(unmapS u.s p q), plain 0 0 0, .slice none 0 0, (by rw [c23]; exact runM_unmap rfl hin), rfl, h.to⟩
   refine W.seq (W.region (WL.val (run_eql rfl rfl) rfl rfl (WL.val run_assign rfl rfl (WL.nil ?_))))
   refine W.condIf rfl (fun c26 => ?_) (fun c26 => ?_)
   ·
    refine W.seq (W.seq (W.region (WL.val (run_fieldAddr 3 Tryz.underlying25 rfl Tryz.sizeOf22 rfl rfl) rfl rfl (WL.val (run_load1 Tryz.isAgg22 rfl (h.cellB rfl)) rfl rfl (WL.val (run_lenSlice Tryz.underlying22 rfl) rfl rfl (WL.val run_move rfl rfl (WL.val (run_mulN (m := 2) (n := q * 8) rfl rfl (by omega)) rfl rfl ?_)))))))
    refine WL.val (run_neq rfl rfl) rfl rfl (WL.nil ?_)
    refine W.condIf rfl (fun c28 => ?_) (fun c28 => ?_)
    ·
     refine W.seq (W.region (WL.eff (eff_call Tryz.call36 (wrong_ok h)) rfl rfl ?_))
     rintro _ w ⟨rfl, h⟩
     refine WL.eff (eff_storeW (vs := [.int .i64 _, .int .i64 _, .int .i64 _, .slice _ _ _, .int .i64 _]) h Tryz.sizeOf36 rfl rfl rfl rfl rfl) rfl rfl ?_
     rintro _ w h
     refine WL.nil (W.ret (bodyQ.rcB (vs := [.int .i64 _, .int .i64 _, .int .i64 _, .slice _ _ _, .int .i64 _]) h Tryz.results92 Tryz.isAgg36 Tryz.sizeOf36 rfl rfl rfl ?_))
     have h : On W0 (OwnB (.slice none 0 0) (plain 2 5 9216 : Rp).data :: _) w := (closeU (bu := bu) (u := u.setS u.s) hm hl ((((h.fetch (Big (GOwn pool) gs)).fetch (blk bt u.t.cells 152)).fetch (SpP 146 bs u.s)).fetch (blk bu (ucells bs bt gs) 84))).ownEmpty 1 none
     exact ⟨u.s, plain 2 5 9216, .slice none 0 0, (by rw [c26]; exact runM_cmp_no hin (by omega)), rfl, h.to⟩
    refine W.skip (W.seq ?_)
    refine W.draw Tryz.follows h (fun w h => ?_)
    refine WT.pure 0 rfl (by kernel_rfl) (fun w' => run_move) rfl rfl (WT.pure 1 rfl (by kernel_rfl) (fun w' => (run_nilCheck rfl)) rfl rfl (WT.pure 2 rfl (by kernel_rfl) (fun w' => (run_fieldAddr 0 Tryz.underlying84 rfl Tryz.sizeOf73 rfl rfl)) rfl rfl (WT.load1 3 rfl (by kernel_rfl) Tryz.isAgg73 rfl (h.cellB rfl) rfl rfl (WT.pure 4 rfl (by kernel_rfl) (fun w' => (run_fieldAddr 1 Tryz.underlying25 rfl Tryz.sizeOf3 rfl rfl)) rfl rfl (WT.load1 5 rfl (by kernel_rfl) Tryz.isAgg3 rfl (h.cellB rfl) rfl rfl (WT.pure 6 rfl (by kernel_rfl) (fun w' => (run_fieldAddr 3 Tryz.underlying25 rfl Tryz.sizeOf22 rfl rfl)) rfl rfl (WT.load1 7 rfl (by kernel_rfl) Tryz.isAgg22 rfl (h.cellB rfl) rfl rfl ?_)))))))
    refine WT.eff 8 [false, false, false] rfl (by kernel_rfl) (by kernel_rfl) (eff_call Tryz.call137 (compare_ok (s := u.s) (at_ := (p : Int)) (bs := data) (h.fetch (SpP 146 bs u.s)) (Gives.to C))) rfl rfl ?_
    rintro _ w hv
    rcases hv with ⟨p', q', hp', hq32b, hpq, hq32, hcs⟩ | ⟨hno, _, _⟩
    rotate_left
    · exact absurd (show _ ∧ _ from ⟨by omega, by unfold inS; omega⟩) hno
    have ob_ : p = p' := by omega
    obtain rfl := ob_
    have ob_ : q = q' := by omega
    obtain rfl := ob_
    rcases hcs with ⟨hsame, rfl, h⟩ | ⟨k, hk, hk1, hk2, rfl, h⟩
    all_goals (refine ⟨trivial, ?_⟩)
    ·
     refine WT.pure 9 rfl (by kernel_rfl) (fun w' => run_move) rfl rfl (WT.pure 10 rfl (by kernel_rfl) (fun w' => (run_extract rfl rfl)) rfl rfl (WT.pure 11 rfl (by kernel_rfl) (fun w' => (run_extract rfl rfl)) rfl rfl (WT.pure 12 rfl (by kernel_rfl) (fun w' => run_assign) rfl rfl (WT.pure 13 rfl (by kernel_rfl) (fun w' => run_assign) rfl rfl (WT.done (by kernel_rfl) (W.seq (W.region ?_)))))))
     refine WL.val run_move rfl rfl (WL.val (run_geq rfl rfl) rfl rfl (WL.nil ?_))
     refine W.condIf rfl (fun c34 => ?_) (fun c34 => ?_)
     ·
      exact absurd c34 (by decide)
     refine W.skip (W.seq (W.region (WL.val (run_buildS (pl := [(0, 1), (1, 1), (2, 1), (3, 1), (4, 1)]) (out := [.int .i64 _, .int .i64 _, .int .i64 _, .slice _ _ _, .int .i64 _]) Tryz.underlying36 Tryz.zeroValue36 (fun w => by kernel_rfl) rfl (trivial) rfl) rfl rfl (WL.eff (eff_storeW (vs := [.int .i64 _, .int .i64 _, .int .i64 _, .slice _ _ _, .int .i64 _]) h Tryz.sizeOf36 rfl rfl rfl rfl rfl) rfl rfl ?_))))
     rintro _ w h
     refine WL.nil (W.ret (bodyQ.rcB (vs := [.int .i64 _, .int .i64 _, .int .i64 _, .slice _ _ _, .int .i64 _]) h Tryz.results92 Tryz.isAgg36 Tryz.sizeOf36 rfl rfl rfl ?_))
     have h : On W0 (OwnB (.slice none 0 0) (plain 0 0 0 : Rp).data :: _) w := (closeU (bu := bu) (u := u.setS (writeS u.s p (data.drop (8 * q)))) hm hl ((((h.fetch (Big (GOwn pool) gs)).fetch (blk bt u.t.cells 152)).fetch (SpP 146 bs (writeS u.s p (data.drop (8 * q))))).fetch (blk bu (ucells bs bt gs) 84))).ownEmpty 1 none
     exact ⟨(writeS u.s p (data.drop (8 * q))), plain 0 0 0, .slice none 0 0, (by rw [c26, runM_cmp rfl hin (by omega)]; exact cmpM_yes hsame), rfl, h.to⟩
    refine WT.pure 9 rfl (by kernel_rfl) (fun w' => run_move) rfl rfl (WT.pure 10 rfl (by kernel_rfl) (fun w' => (run_extract rfl rfl)) rfl rfl (WT.pure 11 rfl (by kernel_rfl) (fun w' => (run_extract rfl rfl)) rfl rfl (WT.pure 12 rfl (by kernel_rfl) (fun w' => run_assign) rfl rfl (WT.pure 13 rfl (by kernel_rfl) (fun w' => run_assign) rfl rfl (WT.done (by kernel_rfl) (W.seq (W.region ?_)))))))
    refine WL.val run_move rfl rfl (WL.val (run_geq rfl rfl) rfl rfl (WL.nil ?_))
    refine W.condIf rfl (fun c34 => ?_) (fun c34 => ?_)
    ·
     refine W.seq (W.region (WL.eff (eff_call Tryz.call36 (wrong_ok h)) rfl rfl ?_))
     rintro _ w ⟨rfl, h⟩
     refine WL.eff (eff_alloc h Tryz.zeroValue36 rfl) rfl rfl ?_
     rintro _ w ⟨b10, rfl, h⟩
     refine WL.eff (eff_storeW (vs := [.int .i64 _, .int .i64 _, .int .i64 _, .slice _ _ _, .int .i64 _]) h Tryz.sizeOf36 rfl rfl rfl rfl rfl) rfl rfl ?_
     rintro _ w h
     refine WL.nil (W.seq (W.region (WL.val run_move rfl rfl (WL.val (run_fieldAddr 4 Tryz.underlying36 rfl Tryz.sizeOf3 rfl rfl) rfl rfl (WL.eff (eff_store (v := .int .i64 _) h Tryz.sizeOf3 rfl rfl rfl rfl rfl) rfl rfl ?_)))))
     rintro _ w h
     try simp only [Nat.zero_add, Nat.add_zero, List.set_cons_zero, List.set_cons_succ] at h
     refine WL.nil (W.seq (W.region (WL.val (run_loadB (vs := [.int .i64 _, .int .i64 _, .int .i64 _, .slice _ _ _, .int .i64 _]) h Tryz.isAgg36 Tryz.sizeOf36 rfl rfl rfl) rfl rfl (WL.eff (eff_storeW (vs := [.int .i64 _, .int .i64 _, .int .i64 _, .slice _ _ _, .int .i64 _]) h Tryz.sizeOf36 rfl rfl rfl rfl rfl) rfl rfl ?_))))
     rintro _ w h
     refine WL.nil (W.ret (bodyQ.rcB (vs := [.int .i64 _, .int .i64 _, .int .i64 _, .slice _ _ _, .int .i64 _]) h Tryz.results92 Tryz.isAgg36 Tryz.sizeOf36 rfl rfl rfl ?_))
     have h : On W0 (OwnB (.slice none 0 0) (⟨2, 14, 7424, [], (k : Int)⟩ : Rp).data :: _) w := (closeU (bu := bu) (u := u.setS u.s) hm hl ((((h.fetch (Big (GOwn pool) gs)).fetch (blk bt u.t.cells 152)).fetch (SpP 146 bs u.s)).fetch (blk bu (ucells bs bt gs) 84))).ownEmpty 1 none
     exact ⟨u.s, ⟨2, 14, 7424, [], (k : Int)⟩, .slice none 0 0, (by rw [c26, runM_cmp rfl hin (by omega)]; exact cmpM_no hwf hpq hq32b hk hk1 hk2), rfl, h.to⟩
    exact absurd (Int.natCast_nonneg k) c34
   refine W.skip (W.seq (W.region (WL.val (run_buildS (pl := [(0, 1), (1, 1), (2, 1), (3, 1), (4, 1)]) (out := [.int .i64 _, .int .i64 _, .int .i64 _, .slice _ _ _, .int .i64 _]) Tryz.underlying36 Tryz.zeroValue36 (fun w => by kernel_rfl) rfl (trivial) rfl) rfl rfl (WL.eff (eff_storeW (vs := [.int .i64 _, .int .i64 _, .int .i64 _, .slice _ _ _, .int .i64 _]) h Tryz.sizeOf36 rfl rfl rfl rfl rfl) rfl rfl ?_))))
   rintro _ w h
   refine WL.nil (W.ret (bodyQ.rcB (vs := [.int .i64 _, .int .i64 _, .int .i64 _, .slice _ _ _, .int .i64 _]) h Tryz.results92 Tryz.isAgg36 Tryz.sizeOf36 rfl rfl rfl ?_))
   have h : On W0 (OwnB (.slice none 0 0) (plain 0 0 0 : Rp).data :: _) w := (closeU (bu := bu) (u := u.setS u.s) hm hl ((((h.fetch (Big (GOwn pool) gs)).fetch (blk bt u.t.cells 152)).fetch (SpP 146 bs u.s)).fetch (blk bu (ucells bs bt gs) 84))).ownEmpty 1 none
   exact ⟨u.s, plain 0 0 0, .slice none 0 0, runM_else hin c10 c15 c23 c26, rfl, h.to⟩
  refine WT.pure 9 rfl (by kernel_rfl) (fun w' => (run_not rfl)) rfl rfl (WT.done (by kernel_rfl) (W.condT rfl (W.seq (W.region (WL.eff (eff_call Tryz.call36 (wrong_ok h)) rfl rfl ?_)))))
  rintro _ w ⟨rfl, h⟩
  refine WL.eff (eff_storeW (vs := [.int .i64 _, .int .i64 _, .int .i64 _, .slice _ _ _, .int .i64 _]) h Tryz.sizeOf36 rfl rfl rfl rfl rfl) rfl rfl ?_
  rintro _ w h
  refine WL.nil (W.ret (bodyQ.rcB (vs := [.int .i64 _, .int .i64 _, .int .i64 _, .slice _ _ _, .int .i64 _]) h Tryz.results92 Tryz.isAgg36 Tryz.sizeOf36 rfl rfl rfl ?_))
  have h : On W0 (OwnB (.slice none 0 0) (plain 2 5 8448 : Rp).data :: _) w := (closeU (bu := bu) (u := u.setS u.s) hm hl ((((h.fetch (Big (GOwn pool) gs)).fetch (blk bt u.t.cells 152)).fetch (SpP 146 bs u.s)).fetch (blk bu (ucells bs bt gs) 84))).ownEmpty 1 none
  exact ⟨u.s, plain 2 5 8448, .slice none 0 0, runM_out hin, rfl, h.to⟩

end Go.Proofs.YtdpakoefdpmebaaGreat
