/-
  A unit: commands of blocks: the contracts. Lines of walks printed by a program of the prover's.
-/
import Derived.Test.YtjbgiingimhnnaaGreatUnitBytesFQ2
import Derived.Test.YtjbgiingimhnnaaGreatUnitBytesFQ1
import Derived.RangeFuncIn
import Derived.RangeFuncRecord
import Derived.RangeFuncSeq
import Derived.TacticsIn
namespace Go.Proofs.YtjbgiingimhnnaaGreat
open Go.Proofs.Tryz
open Go Go.Sl Go.Sl.BitM Go.Sl.SpM Go.Sl.RsM Go.Sl.ByM Go.Sl.UnM
set_option linter.unusedVariables false
set_option linter.unusedSimpArgs false
set_option maxHeartbeats 1000000
set_option maxRecDepth 8000
variable {W0 w : World} {L F : List HProp}
theorem runM_out {s : Sp} {c : Cm} (h : ¬ inS s c.at_ c.n) : runM s c = (s, plain 2 5 8448) := by unfold runM; rw [if_neg h]
theorem runM_read {s : Sp} {p q : Nat} {n : Int} {d : List UInt8} {key new typ : Int} {f : Bool} (hn : n = q) (h : inS s p n) : runM s ⟨2, p, n, d, key, new, typ, f⟩ = (s, gave (partS s p q)) := by
  subst hn; unfold runM; rw [if_pos h, if_pos rfl]; rfl
theorem runM_write {s : Sp} {p : Nat} {n : Int} {d : List UInt8} {key new typ : Int} {f : Bool} (h : inS s p n) (hl : (d.length : Int) = n * 8) : runM s ⟨3, p, n, d, key, new, typ, f⟩ = (writeS s p d, plain 0 0 0) := by
  unfold runM; rw [if_pos h, if_neg (show ¬ (3 : Int) = 2 by decide), if_pos rfl, if_pos hl]; rfl
theorem runM_write_no {s : Sp} {p n : Int} {d : List UInt8} {key new typ : Int} {f : Bool} (h : inS s p n) (hl : ¬ (d.length : Int) = n * 8) : runM s ⟨3, p, n, d, key, new, typ, f⟩ = (s, plain 2 5 9216) := by
  unfold runM; rw [if_pos h, if_neg (show ¬ (3 : Int) = 2 by decide), if_pos rfl, if_neg hl]
theorem runM_unmap {s : Sp} {p q : Nat} {n : Int} {d : List UInt8} {key new typ : Int} {f : Bool} (hn : n = q) (h : inS s p n) : runM s ⟨5, p, n, d, key, new, typ, f⟩ = (unmapS s p q, plain 0 0 0) := by
  subst hn; unfold runM; rw [if_pos h, if_neg (show ¬ (5 : Int) = 2 by decide), if_neg (show ¬ (5 : Int) = 3 by decide), if_pos rfl]; rfl
theorem runM_cmp {s : Sp} {p q : Nat} {n : Int} {d : List UInt8} {key new typ : Int} {f : Bool} (hn : n = q) (h : inS s p n) (hl : (d.length : Int) = 2 * (n * 8)) : runM s ⟨6, p, n, d, key, new, typ, f⟩ = cmpM s p q d := by
  subst hn; unfold runM; rw [if_pos h, if_neg (show ¬ (6 : Int) = 2 by decide), if_neg (show ¬ (6 : Int) = 3 by decide), if_neg (show ¬ (6 : Int) = 5 by decide), if_pos rfl, if_pos hl]; rfl
theorem runM_cmp_no {s : Sp} {p n : Int} {d : List UInt8} {key new typ : Int} {f : Bool} (h : inS s p n) (hl : ¬ (d.length : Int) = 2 * (n * 8)) : runM s ⟨6, p, n, d, key, new, typ, f⟩ = (s, plain 2 5 9216) := by
  unfold runM; rw [if_pos h, if_neg (show ¬ (6 : Int) = 2 by decide), if_neg (show ¬ (6 : Int) = 3 by decide), if_neg (show ¬ (6 : Int) = 5 by decide), if_pos rfl, if_neg hl]
theorem runM_else {s : Sp} {p n kind : Int} {d : List UInt8} {key new typ : Int} {f : Bool} (h : inS s p n) (h2 : kind ≠ 2) (h3 : kind ≠ 3) (h5 : kind ≠ 5) (h6 : kind ≠ 6) : runM s ⟨kind, p, n, d, key, new, typ, f⟩ = (s, plain 0 0 0) := by
  unfold runM; rw [if_pos h, if_neg h2, if_neg h3, if_neg h5, if_neg h6]
theorem cmpM_yes {s : Sp} {p q : Nat} {d : List UInt8} (h : partS s p q = d.take (8 * q)) : cmpM s p q d = (writeS s p (d.drop (8 * q)), plain 0 0 0) := by unfold cmpM; rw [if_pos h]
theorem cmpM_no {s : Sp} {p q i : Nat} {d : List UInt8} (hw : wfS s) (hpq : p + q ≤ s.N) (hd : d.length = 16 * q) (hi : i < 8 * q) (h1 : (partS s p q)[i]? ≠ d[i]?) (h2 : ∀ j, j < i → (partS s p q)[j]? = d[j]?) : cmpM s p q d = (s, ⟨2, 14, 7424, [], (i : Int)⟩) := by
  unfold cmpM
  rw [if_neg (fun e => h1 (by rw [e, List.getElem?_take, if_pos hi])), diffAt_eq _ _ i h1 (by rw [partS_length hw hpq]; exact hi) (by omega) h2]
theorem On.wfS {b : Nat} {s : Sp} (h : On W0 (SpP 105 b s :: L) w) : wfS s := by
  have ho := openS h
  obtain ⟨gd, od, cd, am, cm, hw, _⟩ := ho
  exact hw
theorem urun_ok {bu : Nat} {u : Un} {pool : PoolL} {ms : List Nat} {kind at_ n key new typ : Int} {force : Bool} {data : List UInt8} {ax : Option Addr} {cx : Nat} (h : On W0 (UnP 68 105 113 bu pool ms u :: L) w) (C : Gives L (Bytes (.slice ax data.length cx) data)) (hd : data.length ≤ 1000000) : Calls Tryz.prog 64 #[.pointer (some ⟨bu, 0, none⟩), (⟨kind, at_, n, data, key, new, typ, force⟩ : Cm).val (.slice ax data.length cx)] w (Ret fun v w' => ∃ s' r dv, runM u.s (⟨kind, at_, n, data, key, new, typ, force⟩ : Cm) = (s', r) ∧ v = r.val dv ∧ On W0 (OwnB dv r.data :: UnP 68 105 113 bu pool ms (u.setS s') :: L) w') := by
  refine enter func64 rfl ntmps64 rfl ?_
  have hmx := maxLen_eq
  have ob_ := openU h
  obtain ⟨bs, bt, gs, hm, hl, h⟩ := ob_
  have hwf := On.wfS (h.fetch (SpP 105 bs u.s))
  have hN := hwf.2.2.1
  refine W.seq (W.region (WL.eff (eff_box (v := .agg _) (l := (⟨kind, at_, n, data, key, new, typ, force⟩ : Cm).cells (.slice ax data.length cx)) h rfl rfl) rfl rfl ?_))
  rintro _ w ⟨b3, rfl, h⟩
  have h : On W0 (blk b3 [.int .i64 kind, .int .i64 at_, .int .i64 n, .slice ax data.length cx, .int .u64 key, .int .u64 new, .int .i64 typ, .bool force] 25 :: _) w := h
  refine WL.eff (eff_alloc h zeroValue36 rfl) rfl rfl ?_
  rintro _ w ⟨b4, rfl, h⟩
  refine WL.nil (W.seq (W.seq ?_))
  refine W.draw Tryz.follows h (fun w h => ?_)
  refine WT.pure 0 rfl (by kernel_rfl) (fun w' => run_move) rfl rfl (WT.pure 1 rfl (by kernel_rfl) (fun w' => (run_nilCheck rfl)) rfl rfl (WT.pure 2 rfl (by kernel_rfl) (fun w' => (run_fieldAddr 0 underlying68 rfl sizeOf56 rfl rfl)) rfl rfl (WT.load1 3 rfl (by kernel_rfl) isAgg56 rfl (h.cellB rfl) rfl rfl (WT.pure 4 rfl (by kernel_rfl) (fun w' => (run_fieldAddr 1 underlying25 rfl sizeOf3 rfl rfl)) rfl rfl (WT.load1 5 rfl (by kernel_rfl) isAgg3 rfl (h.cellB rfl) rfl rfl (WT.pure 6 rfl (by kernel_rfl) (fun w' => (run_fieldAddr 2 underlying25 rfl sizeOf3 rfl rfl)) rfl rfl (WT.load1 7 rfl (by kernel_rfl) isAgg3 rfl (h.cellB rfl) rfl rfl ?_)))))))
  refine WT.eff 8 [false, false, false] rfl (by kernel_rfl) (by kernel_rfl) (eff_call call107 (sin_ok (h.fetch (SpP 105 bs u.s)))) rfl rfl ?_
  rintro _ w ⟨hv, h⟩
  rcases hv with ⟨rfl, hin⟩ | ⟨rfl, hin⟩
  all_goals (refine ⟨trivial, ?_⟩)
  ·
   refine WT.pure 9 rfl (by kernel_rfl) (fun w' => (run_not rfl)) rfl rfl (WT.done (by kernel_rfl) (W.condF rfl (W.skip (W.seq ?_))))
   have hin0 := hin
   unfold inS at hin0
   have ob_ := Int.eq_ofNat_of_zero_le (show 0 ≤ at_ by omega)
   obtain ⟨p, hp⟩ := ob_
   subst hp
   have ob_ := Int.eq_ofNat_of_zero_le (show 0 ≤ n by omega)
   obtain ⟨q, hq⟩ := ob_
   subst hq
   refine W.region (WL.val (run_fieldAddr 2 underlying25 rfl sizeOf3 rfl rfl) rfl rfl (WL.val (run_load1 isAgg3 rfl (h.cellB rfl)) rfl rfl (WL.val (run_mulN (m := q) (n := 8) rfl rfl (by omega)) rfl rfl (WL.val run_assign rfl rfl (WL.nil (W.seq (W.seq ?_)))))))
   refine W.region (WL.val (run_fieldAddr 0 underlying25 rfl sizeOf3 rfl rfl) rfl rfl (WL.val (run_load1 isAgg3 rfl (h.cellB rfl)) rfl rfl (WL.nil (W.block (W.seq (W.region (WL.val (run_eql rfl rfl) rfl rfl ?_)))))))
   refine WL.val run_assign rfl rfl (WL.nil ?_)
   refine W.condIf rfl (fun c10 => ?_) (fun c10 => ?_)
   ·
    refine W.seq ?_
    refine W.draw Tryz.follows h (fun w h => ?_)
    refine WT.pure 0 rfl (by kernel_rfl) (fun w' => run_move) rfl rfl (WT.pure 1 rfl (by kernel_rfl) (fun w' => (run_nilCheck rfl)) rfl rfl (WT.pure 2 rfl (by kernel_rfl) (fun w' => (run_fieldAddr 0 underlying68 rfl sizeOf56 rfl rfl)) rfl rfl (WT.load1 3 rfl (by kernel_rfl) isAgg56 rfl (h.cellB rfl) rfl rfl (WT.pure 4 rfl (by kernel_rfl) (fun w' => (run_fieldAddr 1 underlying25 rfl sizeOf3 rfl rfl)) rfl rfl (WT.load1 5 rfl (by kernel_rfl) isAgg3 rfl (h.cellB rfl) rfl rfl (WT.pure 6 rfl (by kernel_rfl) (fun w' => (run_fieldAddr 2 underlying25 rfl sizeOf3 rfl rfl)) rfl rfl (WT.load1 7 rfl (by kernel_rfl) isAgg3 rfl (h.cellB rfl) rfl rfl ?_)))))))
    refine WT.eff 8 [false, false, false] rfl (by kernel_rfl) (by kernel_rfl) (eff_call call108 (read_ok (s := u.s) (at_ := (p : Int)) (n := (q : Int)) (h.fetch (SpP 105 bs u.s)))) rfl rfl ?_
    rintro _ w hv
    rcases hv with ⟨p', q', hp', hq', hpq, hq32, a38, rfl, h⟩ | ⟨hno, _, _⟩
    rotate_left
    · exact absurd hin hno
    have ob_ : p = p' := by omega
    obtain rfl := ob_
    have ob_ : q = q' := by omega
    obtain rfl := ob_
    refine ⟨trivial, ?_⟩
    refine WT.pure 9 rfl (by kernel_rfl) (fun w' => run_move) rfl rfl (WT.pure 10 rfl (by kernel_rfl) (fun w' => (run_extract rfl rfl)) rfl rfl (WT.pure 11 rfl (by kernel_rfl) (fun w' => (run_extract rfl rfl)) rfl rfl (WT.pure 12 rfl (by kernel_rfl) (fun w' => run_assign) rfl rfl (WT.pure 13 rfl (by kernel_rfl) (fun w' => run_assign) rfl rfl (WT.done (by kernel_rfl) (W.seq (W.region ?_)))))))
    refine WL.val run_move rfl rfl (WL.eff (eff_call call28 (sgood_ok (bs := partS u.s p q) h (Gives.ownO (v := .slice a38 (partS u.s p q).length (partS u.s p q).length)) (by rw [partS_length hwf hpq]; omega))) rfl rfl ?_)
    rintro _ w ⟨a42, rfl, h⟩
    refine WL.eff (eff_storeW (vs := [.int .i64 _, .int .i64 _, .int .i64 _, .slice _ _ _, .int .i64 _]) h sizeOf36 rfl rfl rfl rfl rfl) rfl rfl ?_
    rintro _ w h
    refine WL.nil (W.ret (bodyQ.rcB (vs := [.int .i64 _, .int .i64 _, .int .i64 _, .slice _ _ _, .int .i64 _]) h results64 isAgg36 sizeOf36 rfl rfl rfl ?_))
    have h := (closeU (bu := bu) (u := u.setS u.s) hm hl ((((h.fetch (Big (GOwn pool) gs)).fetch (blk bt u.t.cells 113)).fetch (SpP 105 bs u.s)).fetch (blk bu (ucells bs bt gs) 68)))
    have h : On W0 (OwnB (.slice a42 (partS u.s p q).length (partS u.s p q).length) (gave (partS u.s p q)).data :: _) w := h.fetch (OwnB (.slice a42 (partS u.s p q).length (partS u.s p q).length) (partS u.s p q))
    exact ⟨u.s, _, .slice a42 (partS u.s p q).length (partS u.s p q).length, (by rw [c10]; exact runM_read rfl hin), rfl, h.to⟩
   refine W.seq (W.region (WL.val (run_eql rfl rfl) rfl rfl (WL.val run_assign rfl rfl (WL.nil ?_))))
   refine W.condIf rfl (fun c15 => ?_) (fun c15 => ?_)
   ·
    refine W.seq (W.seq (W.region (WL.val (run_fieldAddr 3 underlying25 rfl sizeOf22 rfl rfl) rfl rfl (WL.val (run_load1 isAgg22 rfl (h.cellB rfl)) rfl rfl (WL.val (run_lenSlice underlying22 rfl) rfl rfl (WL.val run_move rfl rfl (WL.val (run_neq rfl rfl) rfl rfl ?_)))))))
    refine WL.nil ?_
    refine W.condIf rfl (fun c17 => ?_) (fun c17 => ?_)
    ·
     refine W.seq (W.region (WL.eff (eff_call call26 (wrong_ok h)) rfl rfl ?_))
     rintro _ w ⟨rfl, h⟩
     refine WL.eff (eff_storeW (vs := [.int .i64 _, .int .i64 _, .int .i64 _, .slice _ _ _, .int .i64 _]) h sizeOf36 rfl rfl rfl rfl rfl) rfl rfl ?_
     rintro _ w h
     refine WL.nil (W.ret (bodyQ.rcB (vs := [.int .i64 _, .int .i64 _, .int .i64 _, .slice _ _ _, .int .i64 _]) h results64 isAgg36 sizeOf36 rfl rfl rfl ?_))
     have h : On W0 (OwnB (.slice none 0 0) (plain 2 5 9216 : Rp).data :: _) w := (closeU (bu := bu) (u := u.setS u.s) hm hl ((((h.fetch (Big (GOwn pool) gs)).fetch (blk bt u.t.cells 113)).fetch (SpP 105 bs u.s)).fetch (blk bu (ucells bs bt gs) 68))).ownEmpty 1 none
     exact ⟨u.s, plain 2 5 9216, .slice none 0 0, (by rw [c15]; exact runM_write_no hin (by omega)), rfl, h.to⟩
    refine W.skip ?_
    refine W.draw Tryz.follows h (fun w h => ?_)
    refine WT.pure 0 rfl (by kernel_rfl) (fun w' => run_move) rfl rfl (WT.pure 1 rfl (by kernel_rfl) (fun w' => (run_nilCheck rfl)) rfl rfl (WT.pure 2 rfl (by kernel_rfl) (fun w' => (run_fieldAddr 0 underlying68 rfl sizeOf56 rfl rfl)) rfl rfl (WT.load1 3 rfl (by kernel_rfl) isAgg56 rfl (h.cellB rfl) rfl rfl (WT.pure 4 rfl (by kernel_rfl) (fun w' => (run_fieldAddr 1 underlying25 rfl sizeOf3 rfl rfl)) rfl rfl (WT.load1 5 rfl (by kernel_rfl) isAgg3 rfl (h.cellB rfl) rfl rfl (WT.pure 6 rfl (by kernel_rfl) (fun w' => (run_fieldAddr 3 underlying25 rfl sizeOf22 rfl rfl)) rfl rfl (WT.load1 7 rfl (by kernel_rfl) isAgg22 rfl (h.cellB rfl) rfl rfl ?_)))))))
    refine WT.eff 8 [false, false, false] rfl (by kernel_rfl) (by kernel_rfl) (eff_call call109 (write_ok (s := u.s) (at_ := (p : Int)) (bs := data) (h.fetch (SpP 105 bs u.s)) (Gives.to C))) rfl rfl ?_
    rintro _ w hv
    rcases hv with ⟨p', hp', hm8, hpw, hq32, rfl, h⟩ | ⟨hno, _, _⟩
    rotate_left
    · exact absurd (show _ ∧ _ from ⟨by omega, by unfold inS; omega⟩) hno
    have ob_ : p = p' := by omega
    obtain rfl := ob_
    refine ⟨trivial, ?_⟩
    refine WT.done (by kernel_rfl) (W.seq (W.region (WL.val (run_buildS (pl := [(0, 1), (1, 1), (2, 1), (3, 1), (4, 1)]) (out := [.int .i64 _, .int .i64 _, .int .i64 _, .slice _ _ _, .int .i64 _]) underlying36 zeroValue36 (fun w => by kernel_rfl) rfl (trivial) rfl) rfl rfl (WL.eff (eff_storeW (vs := [.int .i64 _, .int .i64 _, .int .i64 _, .slice _ _ _, .int .i64 _]) h sizeOf36 rfl rfl rfl rfl rfl) rfl rfl ?_))))
    rintro _ w h
    refine WL.nil (W.ret (bodyQ.rcB (vs := [.int .i64 _, .int .i64 _, .int .i64 _, .slice _ _ _, .int .i64 _]) h results64 isAgg36 sizeOf36 rfl rfl rfl ?_))
    have h : On W0 (OwnB (.slice none 0 0) (plain 0 0 0 : Rp).data :: _) w := (closeU (bu := bu) (u := u.setS (writeS u.s p data)) hm hl ((((h.fetch (Big (GOwn pool) gs)).fetch (blk bt u.t.cells 113)).fetch (SpP 105 bs (writeS u.s p data))).fetch (blk bu (ucells bs bt gs) 68))).ownEmpty 1 none
    exact ⟨(writeS u.s p data), plain 0 0 0, .slice none 0 0, (by rw [c15]; exact runM_write hin (by omega)), rfl, h.to⟩
   refine W.seq (W.region (WL.val (run_eql rfl rfl) rfl rfl (WL.val run_assign rfl rfl (WL.nil ?_))))
   refine W.condIf rfl (fun c23 => ?_) (fun c23 => ?_)
   ·
    refine W.draw Tryz.follows h (fun w h => ?_)
    refine WT.pure 0 rfl (by kernel_rfl) (fun w' => run_move) rfl rfl (WT.pure 1 rfl (by kernel_rfl) (fun w' => (run_nilCheck rfl)) rfl rfl (WT.pure 2 rfl (by kernel_rfl) (fun w' => (run_fieldAddr 0 underlying68 rfl sizeOf56 rfl rfl)) rfl rfl (WT.load1 3 rfl (by kernel_rfl) isAgg56 rfl (h.cellB rfl) rfl rfl (WT.pure 4 rfl (by kernel_rfl) (fun w' => (run_fieldAddr 1 underlying25 rfl sizeOf3 rfl rfl)) rfl rfl (WT.load1 5 rfl (by kernel_rfl) isAgg3 rfl (h.cellB rfl) rfl rfl (WT.pure 6 rfl (by kernel_rfl) (fun w' => (run_fieldAddr 2 underlying25 rfl sizeOf3 rfl rfl)) rfl rfl (WT.load1 7 rfl (by kernel_rfl) isAgg3 rfl (h.cellB rfl) rfl rfl ?_)))))))
    refine WT.eff 8 [false, false, false] rfl (by kernel_rfl) (by kernel_rfl) (eff_call call110 (unmap_ok (s := u.s) (at_ := (p : Int)) (n := (q : Int)) (h.fetch (SpP 105 bs u.s)))) rfl rfl ?_
    rintro _ w hv
    rcases hv with ⟨p', q', hp', hq', hpq, hq32, rfl, h⟩ | ⟨hno, _, _⟩
    rotate_left
    · exact absurd hin hno
    have ob_ : p = p' := by omega
    obtain rfl := ob_
    have ob_ : q = q' := by omega
    obtain rfl := ob_
    refine ⟨trivial, ?_⟩
    refine WT.done (by kernel_rfl) (W.seq (W.region (WL.val (run_buildS (pl := [(0, 1), (1, 1), (2, 1), (3, 1), (4, 1)]) (out := [.int .i64 _, .int .i64 _, .int .i64 _, .slice _ _ _, .int .i64 _]) underlying36 zeroValue36 (fun w => by kernel_rfl) rfl (trivial) rfl) rfl rfl (WL.eff (eff_storeW (vs := [.int .i64 _, .int .i64 _, .int .i64 _, .slice _ _ _, .int .i64 _]) h sizeOf36 rfl rfl rfl rfl rfl) rfl rfl ?_))))
    rintro _ w h
    refine WL.nil (W.ret (bodyQ.rcB (vs := [.int .i64 _, .int .i64 _, .int .i64 _, .slice _ _ _, .int .i64 _]) h results64 isAgg36 sizeOf36 rfl rfl rfl ?_))
    have h : On W0 (OwnB (.slice none 0 0) (plain 0 0 0 : Rp).data :: _) w := (closeU (bu := bu) (u := u.setS (unmapS u.s p q)) hm hl ((((h.fetch (Big (GOwn pool) gs)).fetch (blk bt u.t.cells 113)).fetch (SpP 105 bs (unmapS u.s p q))).fetch (blk bu (ucells bs bt gs) 68))).ownEmpty 1 none
    exact ⟨(unmapS u.s p q), plain 0 0 0, .slice none 0 0, (by rw [c23]; exact runM_unmap rfl hin), rfl, h.to⟩
   refine W.seq (W.region (WL.val (run_eql rfl rfl) rfl rfl (WL.val run_assign rfl rfl (WL.nil ?_))))
   refine W.condIf rfl (fun c26 => ?_) (fun c26 => ?_)
   ·
    refine W.seq (W.seq (W.region (WL.val (run_fieldAddr 3 underlying25 rfl sizeOf22 rfl rfl) rfl rfl (WL.val (run_load1 isAgg22 rfl (h.cellB rfl)) rfl rfl (WL.val (run_lenSlice underlying22 rfl) rfl rfl (WL.val run_move rfl rfl (WL.val (run_mulN (m := 2) (n := q * 8) rfl rfl (by omega)) rfl rfl ?_)))))))
    refine WL.val (run_neq rfl rfl) rfl rfl (WL.nil ?_)
    refine W.condIf rfl (fun c28 => ?_) (fun c28 => ?_)
    ·
     refine W.seq (W.region (WL.eff (eff_call call26 (wrong_ok h)) rfl rfl ?_))
     rintro _ w ⟨rfl, h⟩
     refine WL.eff (eff_storeW (vs := [.int .i64 _, .int .i64 _, .int .i64 _, .slice _ _ _, .int .i64 _]) h sizeOf36 rfl rfl rfl rfl rfl) rfl rfl ?_
     rintro _ w h
     refine WL.nil (W.ret (bodyQ.rcB (vs := [.int .i64 _, .int .i64 _, .int .i64 _, .slice _ _ _, .int .i64 _]) h results64 isAgg36 sizeOf36 rfl rfl rfl ?_))
     have h : On W0 (OwnB (.slice none 0 0) (plain 2 5 9216 : Rp).data :: _) w := (closeU (bu := bu) (u := u.setS u.s) hm hl ((((h.fetch (Big (GOwn pool) gs)).fetch (blk bt u.t.cells 113)).fetch (SpP 105 bs u.s)).fetch (blk bu (ucells bs bt gs) 68))).ownEmpty 1 none
     exact ⟨u.s, plain 2 5 9216, .slice none 0 0, (by rw [c26]; exact runM_cmp_no hin (by omega)), rfl, h.to⟩
    refine W.skip (W.seq ?_)
    refine W.draw Tryz.follows h (fun w h => ?_)
    refine WT.pure 0 rfl (by kernel_rfl) (fun w' => run_move) rfl rfl (WT.pure 1 rfl (by kernel_rfl) (fun w' => (run_nilCheck rfl)) rfl rfl (WT.pure 2 rfl (by kernel_rfl) (fun w' => (run_fieldAddr 0 underlying68 rfl sizeOf56 rfl rfl)) rfl rfl (WT.load1 3 rfl (by kernel_rfl) isAgg56 rfl (h.cellB rfl) rfl rfl (WT.pure 4 rfl (by kernel_rfl) (fun w' => (run_fieldAddr 1 underlying25 rfl sizeOf3 rfl rfl)) rfl rfl (WT.load1 5 rfl (by kernel_rfl) isAgg3 rfl (h.cellB rfl) rfl rfl (WT.pure 6 rfl (by kernel_rfl) (fun w' => (run_fieldAddr 3 underlying25 rfl sizeOf22 rfl rfl)) rfl rfl (WT.load1 7 rfl (by kernel_rfl) isAgg22 rfl (h.cellB rfl) rfl rfl ?_)))))))
    refine WT.eff 8 [false, false, false] rfl (by kernel_rfl) (by kernel_rfl) (eff_call call111 (compare_ok (s := u.s) (at_ := (p : Int)) (bs := data) (h.fetch (SpP 105 bs u.s)) (Gives.to C))) rfl rfl ?_
    rintro _ w hv
    rcases hv with ⟨p', q', hp', hq32b, hpq, hq32, hcs⟩ | ⟨hno, _, _⟩
    rotate_left
    · exact absurd (show _ ∧ _ from ⟨by omega, by unfold inS; omega⟩) hno
    have ob_ : p = p' := by omega
    obtain rfl := ob_
    have ob_ : q = q' := by omega
    obtain rfl := ob_
    rcases hcs with ⟨hsame, rfl, h⟩ | ⟨k, hk, hk1, hk2, rfl, h⟩
    all_goals (refine ⟨trivial, ?_⟩)
    ·
     refine WT.pure 9 rfl (by kernel_rfl) (fun w' => run_move) rfl rfl (WT.pure 10 rfl (by kernel_rfl) (fun w' => (run_extract rfl rfl)) rfl rfl (WT.pure 11 rfl (by kernel_rfl) (fun w' => (run_extract rfl rfl)) rfl rfl (WT.pure 12 rfl (by kernel_rfl) (fun w' => run_assign) rfl rfl (WT.pure 13 rfl (by kernel_rfl) (fun w' => run_assign) rfl rfl (WT.done (by kernel_rfl) (W.seq (W.region ?_)))))))
     refine WL.val run_move rfl rfl (WL.val (run_geq rfl rfl) rfl rfl (WL.nil ?_))
     refine W.condIf rfl (fun c34 => ?_) (fun c34 => ?_)
     ·
      exact absurd c34 (by decide)
     refine W.skip (W.seq (W.region (WL.val (run_buildS (pl := [(0, 1), (1, 1), (2, 1), (3, 1), (4, 1)]) (out := [.int .i64 _, .int .i64 _, .int .i64 _, .slice _ _ _, .int .i64 _]) underlying36 zeroValue36 (fun w => by kernel_rfl) rfl (trivial) rfl) rfl rfl (WL.eff (eff_storeW (vs := [.int .i64 _, .int .i64 _, .int .i64 _, .slice _ _ _, .int .i64 _]) h sizeOf36 rfl rfl rfl rfl rfl) rfl rfl ?_))))
     rintro _ w h
     refine WL.nil (W.ret (bodyQ.rcB (vs := [.int .i64 _, .int .i64 _, .int .i64 _, .slice _ _ _, .int .i64 _]) h results64 isAgg36 sizeOf36 rfl rfl rfl ?_))
     have h : On W0 (OwnB (.slice none 0 0) (plain 0 0 0 : Rp).data :: _) w := (closeU (bu := bu) (u := u.setS (writeS u.s p (data.drop (8 * q)))) hm hl ((((h.fetch (Big (GOwn pool) gs)).fetch (blk bt u.t.cells 113)).fetch (SpP 105 bs (writeS u.s p (data.drop (8 * q))))).fetch (blk bu (ucells bs bt gs) 68))).ownEmpty 1 none
     exact ⟨(writeS u.s p (data.drop (8 * q))), plain 0 0 0, .slice none 0 0, (by rw [c26, runM_cmp rfl hin (by omega)]; exact cmpM_yes hsame), rfl, h.to⟩
    refine WT.pure 9 rfl (by kernel_rfl) (fun w' => run_move) rfl rfl (WT.pure 10 rfl (by kernel_rfl) (fun w' => (run_extract rfl rfl)) rfl rfl (WT.pure 11 rfl (by kernel_rfl) (fun w' => (run_extract rfl rfl)) rfl rfl (WT.pure 12 rfl (by kernel_rfl) (fun w' => run_assign) rfl rfl (WT.pure 13 rfl (by kernel_rfl) (fun w' => run_assign) rfl rfl (WT.done (by kernel_rfl) (W.seq (W.region ?_)))))))
    refine WL.val run_move rfl rfl (WL.val (run_geq rfl rfl) rfl rfl (WL.nil ?_))
    refine W.condIf rfl (fun c34 => ?_) (fun c34 => ?_)
    ·
     refine W.seq (W.region (WL.eff (eff_call call26 (wrong_ok h)) rfl rfl ?_))
     rintro _ w ⟨rfl, h⟩
     refine WL.eff (eff_alloc h zeroValue36 rfl) rfl rfl ?_
     rintro _ w ⟨b10, rfl, h⟩
     refine WL.eff (eff_storeW (vs := [.int .i64 _, .int .i64 _, .int .i64 _, .slice _ _ _, .int .i64 _]) h sizeOf36 rfl rfl rfl rfl rfl) rfl rfl ?_
     rintro _ w h
     refine WL.nil (W.seq (W.region (WL.val run_move rfl rfl (WL.val (run_fieldAddr 4 underlying36 rfl sizeOf3 rfl rfl) rfl rfl (WL.eff (eff_store (v := .int .i64 _) h sizeOf3 rfl rfl rfl rfl rfl) rfl rfl ?_)))))
     rintro _ w h
     try simp only [Nat.zero_add, Nat.add_zero, List.set_cons_zero, List.set_cons_succ] at h
     refine WL.nil (W.seq (W.region (WL.val (run_loadB (vs := [.int .i64 _, .int .i64 _, .int .i64 _, .slice _ _ _, .int .i64 _]) h isAgg36 sizeOf36 rfl rfl rfl) rfl rfl (WL.eff (eff_storeW (vs := [.int .i64 _, .int .i64 _, .int .i64 _, .slice _ _ _, .int .i64 _]) h sizeOf36 rfl rfl rfl rfl rfl) rfl rfl ?_))))
     rintro _ w h
     refine WL.nil (W.ret (bodyQ.rcB (vs := [.int .i64 _, .int .i64 _, .int .i64 _, .slice _ _ _, .int .i64 _]) h results64 isAgg36 sizeOf36 rfl rfl rfl ?_))
     have h : On W0 (OwnB (.slice none 0 0) (⟨2, 14, 7424, [], (k : Int)⟩ : Rp).data :: _) w := (closeU (bu := bu) (u := u.setS u.s) hm hl ((((h.fetch (Big (GOwn pool) gs)).fetch (blk bt u.t.cells 113)).fetch (SpP 105 bs u.s)).fetch (blk bu (ucells bs bt gs) 68))).ownEmpty 1 none
     exact ⟨u.s, ⟨2, 14, 7424, [], (k : Int)⟩, .slice none 0 0, (by rw [c26, runM_cmp rfl hin (by omega)]; exact cmpM_no hwf hpq hq32b hk hk1 hk2), rfl, h.to⟩
    exact absurd (Int.natCast_nonneg k) c34
   refine W.skip (W.seq (W.region (WL.val (run_buildS (pl := [(0, 1), (1, 1), (2, 1), (3, 1), (4, 1)]) (out := [.int .i64 _, .int .i64 _, .int .i64 _, .slice _ _ _, .int .i64 _]) underlying36 zeroValue36 (fun w => by kernel_rfl) rfl (trivial) rfl) rfl rfl (WL.eff (eff_storeW (vs := [.int .i64 _, .int .i64 _, .int .i64 _, .slice _ _ _, .int .i64 _]) h sizeOf36 rfl rfl rfl rfl rfl) rfl rfl ?_))))
   rintro _ w h
   refine WL.nil (W.ret (bodyQ.rcB (vs := [.int .i64 _, .int .i64 _, .int .i64 _, .slice _ _ _, .int .i64 _]) h results64 isAgg36 sizeOf36 rfl rfl rfl ?_))
   have h : On W0 (OwnB (.slice none 0 0) (plain 0 0 0 : Rp).data :: _) w := (closeU (bu := bu) (u := u.setS u.s) hm hl ((((h.fetch (Big (GOwn pool) gs)).fetch (blk bt u.t.cells 113)).fetch (SpP 105 bs u.s)).fetch (blk bu (ucells bs bt gs) 68))).ownEmpty 1 none
   exact ⟨u.s, plain 0 0 0, .slice none 0 0, runM_else hin c10 c15 c23 c26, rfl, h.to⟩
  refine WT.pure 9 rfl (by kernel_rfl) (fun w' => (run_not rfl)) rfl rfl (WT.done (by kernel_rfl) (W.condT rfl (W.seq (W.region (WL.eff (eff_call call26 (wrong_ok h)) rfl rfl ?_)))))
  rintro _ w ⟨rfl, h⟩
  refine WL.eff (eff_storeW (vs := [.int .i64 _, .int .i64 _, .int .i64 _, .slice _ _ _, .int .i64 _]) h sizeOf36 rfl rfl rfl rfl rfl) rfl rfl ?_
  rintro _ w h
  refine WL.nil (W.ret (bodyQ.rcB (vs := [.int .i64 _, .int .i64 _, .int .i64 _, .slice _ _ _, .int .i64 _]) h results64 isAgg36 sizeOf36 rfl rfl rfl ?_))
  have h : On W0 (OwnB (.slice none 0 0) (plain 2 5 8448 : Rp).data :: _) w := (closeU (bu := bu) (u := u.setS u.s) hm hl ((((h.fetch (Big (GOwn pool) gs)).fetch (blk bt u.t.cells 113)).fetch (SpP 105 bs u.s)).fetch (blk bu (ucells bs bt gs) 68))).ownEmpty 1 none
  exact ⟨u.s, plain 2 5 8448, .slice none 0 0, runM_out hin, rfl, h.to⟩
end Go.Proofs.YtjbgiingimhnnaaGreat
/-
  A unit: commands: the contracts. Lines of walks printed by a program of the prover's.
-/
namespace Go.Proofs.YtjbgiingimhnnaaGreat
open Go.Proofs.Tryz
open Go Go.Sl Go.Sl.BitM Go.Sl.SpM Go.Sl.RsM Go.Sl.ByM Go.Sl.UnM
set_option linter.unusedVariables false
set_option linter.unusedSimpArgs false
set_option maxHeartbeats 1000000
set_option maxRecDepth 8000
variable {W0 w : World} {L F : List HProp}
theorem uhost_ok {x : Int} (h : On W0 L w) : Calls Tryz.prog 25 #[.int .i64 x] w (Ret fun v w' => v = .bool (hostB x) ∧ On W0 L w') := by
  refine enter func25 rfl ntmps25 rfl (W.seq (W.region (WL.val run_assign rfl rfl (WL.nil (W.seq (W.region (WL.val run_move rfl rfl ?_)))))))
  refine WL.dec (run_geq rfl rfl) rfl rfl (fun c4 => ?_) (fun c4 => ?_)
  ·
   refine WL.val run_move rfl rfl (WL.val run_move rfl rfl ?_)
   refine WL.dec (run_lss rfl rfl) rfl rfl (fun c7 => ?_) (fun c7 => ?_)
   ·
    refine WL.val (run_pickT rfl) rfl rfl (WL.val run_assign rfl rfl (WL.nil (W.ret (bodyQ.r1 (v := .bool _) results25 rfl ?_))))
    exact ⟨by rw [hostB_iff.2 ⟨by omega, by omega⟩], h⟩
   refine WL.val (run_pickT rfl) rfl rfl (WL.val run_assign rfl rfl (WL.nil (W.ret (bodyQ.r1 (v := .bool _) results25 rfl ?_))))
   exact ⟨by rw [hostB_no.2 (by omega)], h⟩
  refine WL.val run_move rfl rfl (WL.skip rfl rfl (WL.skip rfl rfl (WL.val (run_pickF rfl) rfl rfl (WL.val run_assign rfl rfl (WL.nil (W.ret (bodyQ.r1 (v := .bool _) results25 rfl ?_)))))))
  exact ⟨by rw [hostB_no.2 (by omega)], h⟩
theorem ublocks_ok {bu : Nat} {u : Un} {pool : PoolL} {ms : List Nat} (h : On W0 (UnP 68 105 113 bu pool ms u :: L) w) : Calls Tryz.prog 9 #[.pointer (some ⟨bu, 0, none⟩)] w (Ret fun v w' => v = .int .i64 (u.s.N : Int) ∧ On W0 (UnP 68 105 113 bu pool ms u :: L) w') := by
  refine enter func9 rfl ntmps9 rfl ?_
  have ob_ := openU h
  obtain ⟨bs, bt, gs, hm, hl, h⟩ := ob_
  refine W.seq (W.region (WL.val run_assign rfl rfl (WL.nil (W.seq (W.region (WL.val run_move rfl rfl (WL.val (run_nilCheck rfl) rfl rfl ?_)))))))
  refine WL.val (run_fieldAddr 0 underlying68 rfl sizeOf56 rfl rfl) rfl rfl (WL.val (run_load1 isAgg56 rfl (h.cellB rfl)) rfl rfl (WL.eff (eff_call call22 (blocks_ok (h.fetch (SpP 105 bs u.s)))) rfl rfl ?_))
  rintro _ w ⟨rfl, h⟩
  refine WL.val run_assign rfl rfl (WL.nil (W.ret (bodyQ.r1 (v := .int .i64 _) results9 rfl ?_)))
  exact ⟨rfl, closeU (bu := bu) (u := u) hm hl ((((h.fetch (Big (GOwn pool) gs)).fetch (blk bt u.t.cells 113)).fetch (SpP 105 bs u.s)).fetch (blk bu (ucells bs bt gs) 68))⟩
theorem actM_run {u : Un} {i : Nat} {c : Cm} (h2 : 2 ≤ c.kind) (h6 : c.kind ≤ 6) : actM u i c = (u.setS (runM u.s c).1, (runM u.s c).2) := by
  unfold actM; rw [if_neg (by omega), if_neg (by omega), if_neg (by omega), if_pos h6]
theorem actM_reset {u : Un} {i : Nat} {c : Cm} (h : c.kind = 18) : actM u i c = (resetN u 8, plain 0 0 0) := by
  unfold actM; rw [if_neg (by omega), if_neg (by omega), if_neg (by omega), if_neg (by omega), if_pos h]
theorem On.unLen {bu : Nat} {u : Un} {pool : PoolL} {ms : List Nat} (h : On W0 (UnP 68 105 113 bu pool ms u :: L) w) : u.g.length = 8 ∧ Go.Sl.SpM.wfS u.s := by
  have ho := openU h
  obtain ⟨bs, bt, gs, hm, hl, h⟩ := ho
  exact ⟨hl, On.wfS (h.fetch (SpP 105 bs u.s))⟩
end Go.Proofs.YtjbgiingimhnnaaGreat
/-
  A unit: a command of a host: the contracts. Lines of walks printed by a program of the prover's.
-/
namespace Go.Proofs.YtjbgiingimhnnaaGreat
open Go Go.Sl Go.Sl.BitM Go.Sl.SpM Go.Sl.RsM Go.Sl.ByM Go.Sl.UnM
set_option linter.unusedVariables false
set_option linter.unusedSimpArgs false
set_option maxHeartbeats 1000000
set_option maxRecDepth 8000
variable {W0 w : World} {L F : List HProp}
end Go.Proofs.YtjbgiingimhnnaaGreat
/-
  A unit: a new one, the same, apart: the contracts. Lines of walks printed by a program of the prover's.
-/
namespace Go.Proofs.YtjbgiingimhnnaaGreat
open Go.Proofs.Tryz
open Go Go.Sl Go.Sl.BitM Go.Sl.SpM Go.Sl.RsM Go.Sl.ByM Go.Sl.UnM
set_option linter.unusedVariables false
set_option linter.unusedSimpArgs false
set_option maxHeartbeats 1000000
set_option maxRecDepth 8000
variable {W0 w : World} {L F : List HProp}
theorem usame_ok {s1 k1 c1 i1 : Int} {d1 : List UInt8} {a1 : Option Addr} {x1 : Nat} {s2 k2 c2 i2 : Int} {d2 : List UInt8} {a2 : Option Addr} {x2 : Nat} (h : On W0 L w) (C1 : Gives L (Bytes (.slice a1 d1.length x1) d1)) (C2 : Gives L (Bytes (.slice a2 d2.length x2) d2)) : Calls Tryz.prog 18 #[(⟨s1, k1, c1, d1, i1⟩ : Rp).val (.slice a1 d1.length x1), (⟨s2, k2, c2, d2, i2⟩ : Rp).val (.slice a2 d2.length x2)] w (Ret fun v w' => v = .bool (decide ((⟨s1, k1, c1, d1, i1⟩ : Rp) = (⟨s2, k2, c2, d2, i2⟩ : Rp))) ∧ On W0 L w') := by
  refine enter func18 rfl ntmps18 rfl (W.seq (W.region (WL.eff (eff_box (v := .agg _) (l := (⟨s1, k1, c1, d1, i1⟩ : Rp).cells (.slice a1 d1.length x1)) h rfl rfl) rfl rfl ?_)))
  rintro _ w ⟨b2, rfl, h⟩
  have h : On W0 (blk b2 [.int .i64 s1, .int .i64 k1, .int .i64 c1, .slice a1 d1.length x1, .int .i64 i1] 36 :: _) w := h
  refine WL.eff (eff_box (v := .agg _) (l := (⟨s2, k2, c2, d2, i2⟩ : Rp).cells (.slice a2 d2.length x2)) h rfl rfl) rfl rfl ?_
  rintro _ w ⟨b3, rfl, h⟩
  have h : On W0 (blk b3 [.int .i64 s2, .int .i64 k2, .int .i64 c2, .slice a2 d2.length x2, .int .i64 i2] 36 :: _) w := h
  refine WL.val run_assign rfl rfl (WL.nil (W.seq (W.region (WL.val (run_fieldAddr 0 underlying36 rfl sizeOf3 rfl rfl) rfl rfl (WL.val (run_load1 isAgg3 rfl (h.cellB rfl)) rfl rfl (WL.val (run_fieldAddr 0 underlying36 rfl sizeOf3 rfl rfl) rfl rfl (WL.val (run_load1 isAgg3 rfl (h.cellB rfl)) rfl rfl ?_)))))))
  refine WL.dec (run_eql rfl rfl) rfl rfl (fun c9 => ?_) (fun c9 => ?_)
  ·
   refine WL.val run_move rfl rfl (WL.val (run_fieldAddr 1 underlying36 rfl sizeOf3 rfl rfl) rfl rfl (WL.val (run_load1 isAgg3 rfl (h.cellB rfl)) rfl rfl (WL.val (run_fieldAddr 1 underlying36 rfl sizeOf3 rfl rfl) rfl rfl (WL.val (run_load1 isAgg3 rfl (h.cellB rfl)) rfl rfl ?_))))
   refine WL.dec (run_eql rfl rfl) rfl rfl (fun c15 => ?_) (fun c15 => ?_)
   ·
    refine WL.val (run_pickT rfl) rfl rfl (WL.val run_move rfl rfl (WL.val (run_fieldAddr 2 underlying36 rfl sizeOf3 rfl rfl) rfl rfl (WL.val (run_load1 isAgg3 rfl (h.cellB rfl)) rfl rfl (WL.val (run_fieldAddr 2 underlying36 rfl sizeOf3 rfl rfl) rfl rfl (WL.val (run_load1 isAgg3 rfl (h.cellB rfl)) rfl rfl ?_)))))
    refine WL.dec (run_eql rfl rfl) rfl rfl (fun c22 => ?_) (fun c22 => ?_)
    ·
     refine WL.val (run_pickT rfl) rfl rfl (WL.val run_move rfl rfl (WL.val (run_fieldAddr 4 underlying36 rfl sizeOf3 rfl rfl) rfl rfl (WL.val (run_load1 isAgg3 rfl (h.cellB rfl)) rfl rfl (WL.val (run_fieldAddr 4 underlying36 rfl sizeOf3 rfl rfl) rfl rfl (WL.val (run_load1 isAgg3 rfl (h.cellB rfl)) rfl rfl ?_)))))
     refine WL.dec (run_eql rfl rfl) rfl rfl (fun c29 => ?_) (fun c29 => ?_)
     ·
      refine WL.val (run_pickT rfl) rfl rfl (WL.val run_move rfl rfl (WL.val (run_fieldAddr 3 underlying36 rfl sizeOf22 rfl rfl) rfl rfl (WL.val (run_load1 isAgg22 rfl (h.cellB rfl)) rfl rfl (WL.val (run_fieldAddr 3 underlying36 rfl sizeOf22 rfl rfl) rfl rfl (WL.val (run_load1 isAgg22 rfl (h.cellB rfl)) rfl rfl (WL.eff (eff_call call24 (bequal_ok (bs := d1) (cs := d2) h (Gives.to C1) (Gives.to C2))) rfl rfl ?_))))))
      rintro _ w ⟨rfl, h⟩
      refine WL.val (run_pickT rfl) rfl rfl (WL.val run_assign rfl rfl (WL.nil (W.ret (bodyQ.r1 (v := .bool _) results18 rfl ?_))))
      exact ⟨congrArg Value.bool (decide_eq_decide.2 ⟨fun e => by rw [c9, c15, c22, c29, e], fun e => by cases e; rfl⟩), h.to⟩
     refine WL.val (run_pickT rfl) rfl rfl (WL.val run_move rfl rfl (WL.skip rfl rfl (WL.skip rfl rfl (WL.skip rfl rfl (WL.skip rfl rfl (WL.skip rfl rfl (WL.val (run_pickF rfl) rfl rfl ?_)))))))
     refine WL.val run_assign rfl rfl (WL.nil (W.ret (bodyQ.r1 (v := .bool _) results18 rfl ?_)))
     exact ⟨congrArg Value.bool (decide_eq_false (by intro e; cases e; exact c29 rfl)).symm, h.to⟩
    refine WL.val (run_pickT rfl) rfl rfl (WL.val run_move rfl rfl (WL.skip rfl rfl (WL.skip rfl rfl (WL.skip rfl rfl (WL.skip rfl rfl (WL.skip rfl rfl (WL.val (run_pickF rfl) rfl rfl ?_)))))))
    refine WL.val run_move rfl rfl (WL.skip rfl rfl (WL.skip rfl rfl (WL.skip rfl rfl (WL.skip rfl rfl (WL.skip rfl rfl (WL.val (run_pickF rfl) rfl rfl (WL.val run_assign rfl rfl ?_)))))))
    refine WL.nil (W.ret (bodyQ.r1 (v := .bool _) results18 rfl ?_))
    exact ⟨congrArg Value.bool (decide_eq_false (by intro e; cases e; exact c22 rfl)).symm, h.to⟩
   refine WL.val (run_pickT rfl) rfl rfl (WL.val run_move rfl rfl (WL.skip rfl rfl (WL.skip rfl rfl (WL.skip rfl rfl (WL.skip rfl rfl (WL.skip rfl rfl (WL.val (run_pickF rfl) rfl rfl ?_)))))))
   refine WL.val run_move rfl rfl (WL.skip rfl rfl (WL.skip rfl rfl (WL.skip rfl rfl (WL.skip rfl rfl (WL.skip rfl rfl (WL.val (run_pickF rfl) rfl rfl (WL.val run_move rfl rfl ?_)))))))
   refine WL.skip rfl rfl (WL.skip rfl rfl (WL.skip rfl rfl (WL.skip rfl rfl (WL.skip rfl rfl (WL.val (run_pickF rfl) rfl rfl (WL.val run_assign rfl rfl (WL.nil ?_)))))))
   refine W.ret (bodyQ.r1 (v := .bool _) results18 rfl ?_)
   exact ⟨congrArg Value.bool (decide_eq_false (by intro e; cases e; exact c15 rfl)).symm, h.to⟩
  refine WL.val run_move rfl rfl (WL.skip rfl rfl (WL.skip rfl rfl (WL.skip rfl rfl (WL.skip rfl rfl (WL.skip rfl rfl (WL.val (run_pickF rfl) rfl rfl (WL.val run_move rfl rfl ?_)))))))
  refine WL.skip rfl rfl (WL.skip rfl rfl (WL.skip rfl rfl (WL.skip rfl rfl (WL.skip rfl rfl (WL.val (run_pickF rfl) rfl rfl (WL.val run_move rfl rfl (WL.skip rfl rfl ?_)))))))
  refine WL.skip rfl rfl (WL.skip rfl rfl (WL.skip rfl rfl (WL.skip rfl rfl (WL.val (run_pickF rfl) rfl rfl (WL.val run_move rfl rfl (WL.skip rfl rfl (WL.skip rfl rfl ?_)))))))
  refine WL.skip rfl rfl (WL.skip rfl rfl (WL.skip rfl rfl (WL.val (run_pickF rfl) rfl rfl (WL.val run_assign rfl rfl (WL.nil (W.ret (bodyQ.r1 (v := .bool _) results18 rfl ?_)))))))
  exact ⟨congrArg Value.bool (decide_eq_false (by intro e; cases e; exact c9 rfl)).symm, h.to⟩
theorem uapart_ok {s1 k1 c1 i1 : Int} {d1 : List UInt8} {a1 : Option Addr} {x1 : Nat} (h : On W0 L w) (C1 : Gives L (Bytes (.slice a1 d1.length x1) d1)) (hd : d1.length ≤ 1000000) : Calls Tryz.prog 46 #[(⟨s1, k1, c1, d1, i1⟩ : Rp).val (.slice a1 d1.length x1)] w (Ret fun v w' => ∃ a, v = (⟨s1, k1, c1, d1, i1⟩ : Rp).val (.slice a d1.length d1.length) ∧ On W0 (OwnB (.slice a d1.length d1.length) d1 :: L) w') := by
  refine enter func46 rfl ntmps46 rfl (W.seq (W.region (WL.eff (eff_box (v := .agg _) (l := (⟨s1, k1, c1, d1, i1⟩ : Rp).cells (.slice a1 d1.length x1)) h rfl rfl) rfl rfl ?_)))
  rintro _ w ⟨b1, rfl, h⟩
  have h : On W0 (blk b1 [.int .i64 s1, .int .i64 k1, .int .i64 c1, .slice a1 d1.length x1, .int .i64 i1] 36 :: _) w := h
  refine WL.eff (eff_alloc h zeroValue36 rfl) rfl rfl ?_
  rintro _ w ⟨b2, rfl, h⟩
  refine WL.nil (W.seq (W.region (WL.val (run_fieldAddr 3 underlying36 rfl sizeOf22 rfl rfl) rfl rfl (WL.val (run_load1 isAgg22 rfl (h.cellB rfl)) rfl rfl (WL.eff (eff_call call57 (clone_bytes (bs := d1) h (Gives.to C1) (by omega))) rfl rfl ?_)))))
  rintro _ w ⟨a5, c5, rfl, h⟩
  refine WL.eff (eff_call call51 (clip_bytes h)) rfl rfl ?_
  rintro _ w ⟨rfl, h⟩
  refine WL.val (run_fieldAddr 3 underlying36 rfl sizeOf22 rfl rfl) rfl rfl (WL.eff (eff_store (v := .slice _ _ _) h sizeOf22 rfl rfl rfl rfl rfl) rfl rfl ?_)
  rintro _ w h
  try simp only [Nat.zero_add, Nat.add_zero, List.set_cons_zero, List.set_cons_succ] at h
  refine WL.nil (W.seq (W.region (WL.val (run_loadB (vs := [.int .i64 _, .int .i64 _, .int .i64 _, .slice _ _ _, .int .i64 _]) h isAgg36 sizeOf36 rfl rfl rfl) rfl rfl (WL.eff (eff_storeW (vs := [.int .i64 _, .int .i64 _, .int .i64 _, .slice _ _ _, .int .i64 _]) h sizeOf36 rfl rfl rfl rfl rfl) rfl rfl ?_))))
  rintro _ w h
  refine WL.nil (W.ret (bodyQ.rcB (vs := [.int .i64 _, .int .i64 _, .int .i64 _, .slice _ _ _, .int .i64 _]) h results46 isAgg36 sizeOf36 rfl rfl rfl ?_))
  exact ⟨a5, rfl, h.to⟩
theorem unewR_ok {n : Int} {pool : PoolL} (h : On W0 L w) : Calls Tryz.prog 10 #[.int .i64 n] w (Ret fun v w' => (∃ N : Nat, n = N ∧ 1 ≤ N ∧ N ≤ 1024 ∧ ∃ (bu bs bt : Nat) (mbs : List Nat), mbs.length = 8 ∧ v = .tuple #[.pointer (some ⟨bu, 0, none⟩), .int .i64 0] ∧ On W0 (blk bu (ucells bs bt (mbs.map zG)) 68 :: SpP 105 bs (newS N) :: blk bt newT.cells 113 :: Big (GOwn pool) (mbs.map zG) :: L) w') ∨ (¬ (1 ≤ n ∧ n ≤ 1024) ∧ v = .tuple #[.pointer none, .int .i64 1] ∧ On W0 L w')) := by
  refine enter func10 rfl ntmps10 rfl (W.seq (W.region (WL.val run_assign rfl rfl (WL.val run_assign rfl rfl (WL.nil (W.seq (W.region ?_)))))))
  refine WL.val run_move rfl rfl (WL.eff (eff_call call32 (snew_ok (n := n) h)) rfl rfl ?_)
  rintro _ w hv
  rcases hv with ⟨N, rfl, h1, h2b, bs, rfl, h⟩ | ⟨hno, rfl, h⟩
  ·
   refine WL.val run_move rfl rfl (WL.val (run_extract rfl rfl) rfl rfl (WL.val (run_extract rfl rfl) rfl rfl (WL.val run_assign rfl rfl (WL.val run_assign rfl rfl (WL.nil (W.seq (W.seq ?_)))))))
   refine W.region (WL.val run_move rfl rfl (WL.val (run_neqF rfl rfl (by decide)) rfl rfl (WL.nil (W.condF rfl (W.skip (W.seq (W.region ?_)))))))
   refine WL.val run_move rfl rfl (WL.eff (eff_call call33 (rnew_ok h)) rfl rfl ?_)
   rintro _ w ⟨bt, rfl, h⟩
   refine WL.val (run_buildS (pl := [(0, 1), (1, 1), (2, 24)]) (out := [.pointer _, .pointer _, .slice _ _ _, .int .u64 _, .map _, .slice _ _ _, .int .u64 _, .map _, .slice _ _ _, .int .u64 _, .map _, .slice _ _ _, .int .u64 _, .map _, .slice _ _ _, .int .u64 _, .map _, .slice _ _ _, .int .u64 _, .map _, .slice _ _ _, .int .u64 _, .map _, .slice _ _ _, .int .u64 _, .map _]) underlying68 zeroValue68 (fun w => by kernel_rfl) rfl (⟨⟨_, _, rfl, rfl, by decide⟩, ⟨⟨_, _, rfl, rfl, by decide⟩, trivial⟩⟩) rfl) rfl rfl ?_
   refine WL.eff (eff_box (v := .agg _) (l := [.pointer _, .pointer _, .slice _ _ _, .int .u64 _, .map _, .slice _ _ _, .int .u64 _, .map _, .slice _ _ _, .int .u64 _, .map _, .slice _ _ _, .int .u64 _, .map _, .slice _ _ _, .int .u64 _, .map _, .slice _ _ _, .int .u64 _, .map _, .slice _ _ _, .int .u64 _, .map _, .slice _ _ _, .int .u64 _, .map _]) h rfl rfl) rfl rfl ?_
   rintro _ w ⟨b19, rfl, h⟩
   refine WL.val run_assign rfl rfl (WL.nil (W.seq (W.seq (W.region (WL.val run_move rfl rfl (WL.nil (W.block ?_)))))))
   refine W.loop (fun (k : Nat) env w => k ≤ 8 ∧ ∃ (j : Env) (mbs : List Nat), mbs.length = k ∧ env = mkE j [(6, .pointer (some ⟨b19, 0, none⟩)), (20, .int .i64 (k : Int))] ∧ On W0 (blk b19 (ncells bs bt (mbs.map zG) (8 - k)) 68 :: SpP 105 bs (newS N) :: blk bt newT.cells 113 :: Big (GOwn pool) (mbs.map zG) :: L) w) (fun k => 8 - k) (0) ?_ ?_
   · have h : On W0 (Big (GOwn pool) (([] : List Nat).map zG) :: blk b19 (ncells bs bt (([] : List Nat).map zG) (8 - 0)) 68 :: _) w := Big.nil h
     exact ⟨Nat.zero_le _, _, [], rfl, mkE_of ⟨rfl, rfl, trivial⟩, h.to⟩
   rintro k env w ⟨hk8, j, mbs, hml, rfl, h⟩
   have hgl : (mbs.map zG).length = k := by rw [List.length_map, hml]
   refine W.seq (W.region (WL.val (run_lss rfl rfl) rfl rfl (WL.nil (W.seq ?_))))
   refine W.condIf rfl (fun c12 => ?_) (fun c12 => ?_)
   ·
    refine W.skip (W.seq (W.block (W.seq ?_)))
    have h8k : 8 - k = 8 - (k + 1) + 1 := by omega
    rw [h8k] at h
    refine W.region (WL.val run_move rfl rfl (WL.val run_assign rfl rfl (WL.nil (W.region (WL.val run_move rfl rfl (WL.val run_move rfl rfl (WL.eff (eff_makeMap (kd := .u64) h) rfl rfl ?_)))))))
    rintro _ w ⟨b25, rfl, h⟩
    refine WL.val (run_nilCheck rfl) rfl rfl (WL.val (run_fieldAddr 2 underlying68 rfl sizeOf66 rfl rfl) rfl rfl (WL.val (run_indexAddrArr underlying66 sizeOf65 rfl rfl (by omega) (by omega)) rfl rfl (WL.val (run_fieldAddr 2 underlying65 rfl sizeOf63 rfl rfl) rfl rfl (WL.eff (eff_store (v := .map (some b25)) h sizeOf63 rfl rfl rfl (nlt (bs := bs) (bt := bt) hgl) (free0 _)) rfl rfl ?_))))
    rintro _ w h
    rw [nset (bs := bs) (bt := bt) hgl] at h
    have h := zG_own (pool := pool) (h.fetch (MapC b25 .u64 [] 0))
    have h := Big.push ((h.fetch (Big (GOwn pool) (mbs.map zG))).fetch (GOwn pool (zG b25)))
    rw [show mbs.map zG ++ [zG b25] = (mbs ++ [b25]).map zG by rw [List.map_append]; rfl] at h
    refine WL.nil (W.region (WL.val (run_incN rfl rfl (by omega)) rfl rfl (WL.val run_move rfl rfl (WL.nil ?_))))
    exact ⟨k + 1, ⟨by omega, _, mbs ++ [b25], by rw [List.length_append, hml]; rfl, mkE_of ⟨rfl, rfl, trivial⟩, h.to⟩, by show 8 - (k + 1) < 8 - k; omega⟩
   refine W.exit (W.seq (W.region (WL.val run_move rfl rfl (WL.val run_assign rfl rfl (WL.val run_assign rfl rfl (WL.nil (W.ret ?_)))))))
   refine bodyQ.r2 (v1 := .pointer _) (v2 := .int .i64 _) results10 rfl rfl ?_
   have ob_ : k = 8 := by omega
   obtain rfl := ob_
   have h2 : On W0 (blk b19 (ucells bs bt (mbs.map zG)) 68 :: SpP 105 bs (newS N) :: blk bt newT.cells 113 :: Big (GOwn pool) (mbs.map zG) :: L) w := by
     have e : ncells bs bt (mbs.map zG) (8 - 8) = ucells bs bt (mbs.map zG) := by show _ :: _ :: ((mbs.map zG).flatMap GX.row ++ []) = _; rw [List.append_nil]
     rw [e] at h
     exact h
   exact .inl ⟨N, rfl, h1, h2b, b19, bs, bt, mbs, hml, rfl, h2⟩
  refine WL.val run_move rfl rfl (WL.val (run_extract rfl rfl) rfl rfl (WL.val (run_extract rfl rfl) rfl rfl (WL.val run_assign rfl rfl (WL.val run_assign rfl rfl (WL.nil (W.seq (W.seq ?_)))))))
  refine W.region (WL.val run_move rfl rfl (WL.val (run_neqT rfl rfl (by decide)) rfl rfl (WL.nil (W.condT rfl (W.seq (W.region (WL.val run_move rfl rfl ?_)))))))
  refine WL.val run_assign rfl rfl (WL.val run_assign rfl rfl (WL.nil (W.ret (bodyQ.r2 (v1 := .pointer _) (v2 := .int .i64 _) results10 rfl rfl ?_))))
  exact .inr ⟨hno, rfl, h⟩
theorem unew_ok {n : Int} {pool : PoolL} (h : On W0 L w) : Calls Tryz.prog 10 #[.int .i64 n] w (Ret fun v w' => (∃ N : Nat, n = N ∧ 1 ≤ N ∧ N ≤ 1024 ∧ ∃ bu ms, v = .tuple #[.pointer (some ⟨bu, 0, none⟩), .int .i64 0] ∧ On W0 (UnP 68 105 113 bu pool ms (newU N) :: L) w') ∨ (¬ (1 ≤ n ∧ n ≤ 1024) ∧ v = .tuple #[.pointer none, .int .i64 1] ∧ On W0 L w')) := by
  skip
  exact (unewR_ok (pool := pool) h).mono fun e w' he => by
    obtain ⟨v, he, hv⟩ := he
    refine ⟨v, he, ?_⟩
    rcases hv with ⟨N, hN, h1, h2, bu, bs, bt, mbs, hml, hv, h⟩ | hv
    · refine .inl ⟨N, hN, h1, h2, bu, _, hv, closeU (u := newU N) ⟨?_, rfl⟩ rfl h⟩
      rw [List.map_map]
      show mbs.map (fun _ => (⟨[], 0, []⟩ : Gs)) = List.replicate 8 ⟨[], 0, []⟩
      rw [List.map_const', hml]
    · exact .inr hv
end Go.Proofs.YtjbgiingimhnnaaGreat
/-
  Maps keyed by integers, more: looked up with a word whether it is there; how many; what a range has left.
-/
namespace Go.Sl
open Go
set_option linter.unusedVariables false
section
variable {P : Program} {W0 w : World} {L : List HProp} {ρ : Operand → Value} {d : Option Nat} {ty : TypeId} {pos : String} {af : Array Edge} {g : Option (Nat × Bool)}
theorem run_lookupOk {t kt et b : Nat} {q kd : IntKind} {k : Int} {x y : Operand} {z : Value} {kvs : List KV} {ck : Nat} (hb : w.heap[b]? = some (mapO kd kvs ck)) (hU : P.underlying t = some (.map kt et)) (hK : P.underlying kt = some (.int q)) (hZ : ∀ w, (zeroValue et).run P w = .ok z w) (hx : ρ x = .map (some b)) (hy : ρ y = .int kd k) :
    (execOp ρ ⟨d, .lookup t x y true, ty, pos, af, g⟩).run P w = .ok (.value (.tuple #[(lookM kvs k).getD z, .bool (lookM kvs k).isSome])) w := by
  have hf := findNow_ints (q := q) (kd := kd) (k := k) kvs 0
  have hl := lookM_idx kvs k
  have hgo : (getObj b).run P w = .ok (mapO kd kvs ck) w := MapKept.run_getObj_map (by exact hb)
  unfold mapO at hgo
  rw [hl]
  have hck : ∀ e, (Instr.checkKey e 10000 kt (.int kd k)).run P w = .ok () w := fun e => checkKey_int hK e 9999
  cases hfi : kvs.findIdx? fun x => x.1 == k with
  | none =>
    rw [hfi] at hf
    simp only [Option.bind_none] at hf ⊢
    simp [execOp, Instr.lookup, run_underlying hU, run_underlying hK, hx, hy, hgo, hck, Instr.findKey, hf, hZ]
  | some j =>
    rw [hfi] at hf
    have hj := (List.findIdx?_eq_some_iff_getElem.1 hfi).1
    have hg : kvs[j]? = some kvs[j] := by simp
    simp only [Option.bind_some, hg, Option.map_some] at hf ⊢
    simp [execOp, Instr.lookup, run_underlying hU, run_underlying hK, hx, hy, hgo, hck, Instr.findKey, hf]
theorem run_lookupOkV {t kt et b : Nat} {q kd : IntKind} {k : Int} {x y : Operand} {z v : Value} {o : Bool} {kvs : List KV} {ck : Nat} (hb : w.heap[b]? = some (mapO kd kvs ck)) (hU : P.underlying t = some (.map kt et)) (hK : P.underlying kt = some (.int q)) (hZ : ∀ w, (zeroValue et).run P w = .ok z w) (hx : ρ x = .map (some b)) (hy : ρ y = .int kd k)
    (hv : (lookM kvs k).getD z = v) (ho : (lookM kvs k).isSome = o) : (execOp ρ ⟨d, .lookup t x y true, ty, pos, af, g⟩).run P w = .ok (.value (.tuple #[v, .bool o])) w := by rw [← hv, ← ho]; exact run_lookupOk hb hU hK hZ hx hy
theorem run_lenMap {t kt et b n : Nat} {kd : IntKind} {x : Operand} {kvs : List KV} {ck : Nat} {tys : Array TypeId} (hb : w.heap[b]? = some (mapO kd kvs ck)) (ht : tys[0]? = some t) (hU : P.underlying t = some (.map kt et)) (hx : ρ x = .map (some b)) (hn : kvs.length = n) :
    (execOp ρ ⟨d, .call { callee := .builtin .len, args := #[x], argTypes := tys }, ty, pos, af, g⟩).run P w = .ok (.value (.int .i64 (n : Int))) w := by
  subst hn
  have hgo : (getObj b).run P w = .ok (mapO kd kvs ck) w := MapKept.run_getObj_map (by exact hb)
  unfold mapO at hgo
  simp [execOp, resolve, invoke, builtin, hx, Builtin.len_, ht, run_underlying hU, hgo, goInt]
theorem run_indexArrN {t e n size : Nat} {x y : Operand} {k : IntKind} {i : Nat} {cs vs : List Value} (hU : P.underlying t = some (.array n e)) (hS : ∀ w, (sizeOf e).run P w = .ok size w) (hA : ∀ w, (isAgg e).run P w = .ok true w)
    (hx : ρ x = .agg cs.toArray) (hy : ρ y = .int k (i : Int)) (h1 : i < n) (hv : (cs.drop (i * size)).take size = vs) : (execOp ρ ⟨d, .index t x y, ty, pos, af, g⟩).run P w = .ok (.value (.agg vs.toArray)) w := by
  simp [execOp, Instr.index, run_underlying hU, hx, hy, asIntOf, hS, h1, part, hA, hv]
end
section
variable {kvs : List KV} {seen : Array Nat}
theorem rem_inM {e : KV} (h : e ∈ remM kvs seen) : e ∈ kvs := (List.mem_filter.1 h).1
theorem contains_pushM {a b : Nat} : (seen.push a).contains b = (seen.contains b || b == a) := by
  rw [Bool.eq_iff_iff]
  simp [Array.contains_iff_mem, Array.mem_push]
theorem remM_less {e : KV} (h : e ∈ remM kvs seen) : (remM kvs (seen.push e.2.2)).length < (remM kvs seen).length := by
  have e1 : remM kvs (seen.push e.2.2) = (remM kvs seen).filter fun x => !(x.2.2 == e.2.2) := by
    unfold remM
    rw [List.filter_filter]
    refine List.filter_congr fun x _ => ?_
    rw [contains_pushM, Bool.not_or, Bool.and_comm]
  rw [e1]
  exact List.length_filter_lt_length_iff_exists.2 ⟨e, h, by simp⟩
theorem rem_allM (h : remM kvs seen = []) {x : KV} (hx : x ∈ kvs) : seen.contains x.2.2 = true := by
  have := List.filter_eq_nil_iff.1 h x hx
  simpa using this
end
end Go.Sl
/-
  Commands by their numbers, as plain data: what was done is kept, in whatever order. No program is named here.
-/
namespace Go.Sl.UnM
open Go Go.Sl Go.Sl.BitM Go.Sl.SpM Go.Sl.RsM Go.Sl.ByM
set_option linter.unusedVariables false
set_option linter.unusedSimpArgs false
def keepM (D : List (Int × Rp)) (fl : Int) : List (Int × Rp) := D.filter fun x => decide (fl ≤ x.1)
def lookD (D : List (Int × Rp)) (id : Int) : Option Rp := (D.find? fun x => x.1 == id).map (·.2)
def okK (kvs : List KV) (fl : Int) (seen : Array Nat) (ks : List KV) : Prop :=
  (∀ x ∈ ks, ∃ y ∈ kvs, y.1 = x.1 ∧ y.2.1 = x.2.1 ∧ seen.contains y.2.2 = true ∧ fl ≤ y.1) ∧ ∀ y ∈ kvs, seen.contains y.2.2 = true → fl ≤ y.1 → ∃ x ∈ ks, x.1 = y.1
section
variable {W0 w : World} {L : List HProp} {pool : PoolL} {D : List (Int × Rp)} {kvs ks : List KV} {fl id : Int} {seen : Array Nat} {ck : Nat}
theorem okK_start : okK kvs fl #[] [] := ⟨fun x hx => (by cases hx), fun y _ h => (by simp at h)⟩
theorem born_eq {kvs : List KV} (h : (kvs.map (·.2.2)).Nodup) {x y : KV} (hx : x ∈ kvs) (hy : y ∈ kvs) (e : x.2.2 = y.2.2) : x = y := by
  induction kvs with
  | nil => cases hx
  | cons z l ih =>
    rw [List.map_cons, List.nodup_cons] at h
    rcases List.mem_cons.1 hx with h1 | h1
    · rcases List.mem_cons.1 hy with h2 | h2
      · rw [h1, h2]
      · exact (h.1 (List.mem_map.2 ⟨y, h2, by rw [← e, h1]⟩)).elim
    · rcases List.mem_cons.1 hy with h2 | h2
      · exact (h.1 (List.mem_map.2 ⟨x, h1, by rw [e, h2]⟩)).elim
      · exact ih h.2 h1 h2
theorem okK_skip (H : okK kvs fl seen ks) (hf : (kvs.map (·.2.2)).Nodup) {e : KV} (he : e ∈ kvs) (hlt : ¬ fl ≤ e.1) : okK kvs fl (seen.push e.2.2) ks := by
  refine ⟨fun x hx => ?_, fun y hy hs hfl => ?_⟩
  · obtain ⟨y, hy, h1, h2, h3, h4⟩ := H.1 x hx
    exact ⟨y, hy, h1, h2, by rw [contains_pushM, h3]; rfl, h4⟩
  · rw [contains_pushM, Bool.or_eq_true] at hs
    rcases hs with hs | hs
    · exact H.2 y hy hs hfl
    · have := born_eq hf hy he (by simpa using hs)
      subst this
      exact absurd hfl hlt
theorem mem_putM {k : Int} {v : Value} {x : KV} (h : x ∈ putM ks k v ck) : (x.1 = k ∧ x.2.1 = v) ∨ (x ∈ ks ∧ x.1 ≠ k) := by
  unfold putM at h
  split at h
  · obtain ⟨y, hy, rfl⟩ := List.mem_map.1 h
    split
    · exact .inl ⟨rfl, rfl⟩
    · rename_i hne; exact .inr ⟨hy, hne⟩
  · rename_i hno
    rcases List.mem_append.1 h with h | h
    · refine .inr ⟨h, fun e => hno ?_⟩
      exact List.any_eq_true.2 ⟨x, h, by simp [e]⟩
    · simp at h; subst h; exact .inl ⟨rfl, rfl⟩
theorem putM_key {k : Int} {v : Value} : ∃ x ∈ putM ks k v ck, x.1 = k := by
  unfold putM
  split
  · rename_i h
    obtain ⟨y, hy, he⟩ := List.any_eq_true.1 h
    have he : y.1 = k := by simpa using he
    exact ⟨(k, v, y.2.2), List.mem_map.2 ⟨y, hy, by rw [if_pos he]⟩, rfl⟩
  · exact ⟨(k, v, ck), List.mem_append.2 (.inr (by simp)), rfl⟩
theorem putM_old {k : Int} {v : Value} {y : KV} (h : y ∈ ks) : ∃ x ∈ putM ks k v ck, x.1 = y.1 := by
  unfold putM
  split
  · by_cases e : y.1 = k
    · exact ⟨(k, v, y.2.2), List.mem_map.2 ⟨y, h, by rw [if_pos e]⟩, e.symm⟩
    · exact ⟨y, List.mem_map.2 ⟨y, h, by rw [if_neg e]⟩, rfl⟩
  · exact ⟨y, List.mem_append.2 (.inl h), rfl⟩
theorem okK_put (H : okK kvs fl seen ks) (hf : (kvs.map (·.2.2)).Nodup) {e : KV} (he : e ∈ kvs) (hle : fl ≤ e.1) : okK kvs fl (seen.push e.2.2) (putM ks e.1 e.2.1 ck) := by
  refine ⟨fun x hx => ?_, fun y hy hs hfl => ?_⟩
  · rcases mem_putM hx with ⟨h1, h2⟩ | ⟨hx, _⟩
    · exact ⟨e, he, h1.symm, h2.symm, by rw [contains_pushM]; simp, hle⟩
    · obtain ⟨y, hy, h1, h2, h3, h4⟩ := H.1 x hx
      exact ⟨y, hy, h1, h2, by rw [contains_pushM, h3]; rfl, h4⟩
  · rw [contains_pushM, Bool.or_eq_true] at hs
    rcases hs with hs | hs
    · obtain ⟨x, hx, h1⟩ := H.2 y hy hs hfl
      obtain ⟨z, hz, h2⟩ := putM_old (ck := ck) (k := e.1) (v := e.2.1) hx
      exact ⟨z, hz, by rw [h2, h1]⟩
    · have := born_eq hf hy he (by simpa using hs)
      subst this
      exact putM_key
theorem keep_nodup (h : (D.map (·.1)).Nodup) : ((keepM D fl).map (·.1)).Nodup := (List.filter_sublist.map _).nodup h
theorem okK_end (h : okD pool D kvs) (H : okK kvs fl seen ks) (hr : remM kvs seen = []) (hn : (ks.map (·.1)).Nodup) : okD pool (keepM D fl) ks := by
  obtain ⟨h1, h2, h3⟩ := h
  refine ⟨(List.perm_ext_iff_of_nodup hn (keep_nodup h2)).2 fun k => ⟨fun hk => ?_, fun hk => ?_⟩, keep_nodup h2, fun x hx => ?_⟩
  · obtain ⟨x, hx, rfl⟩ := List.mem_map.1 hk
    obtain ⟨y, hy, e1, e2, e3, e4⟩ := H.1 x hx
    obtain ⟨r, dv, hr, _⟩ := h3 y hy
    exact List.mem_map.2 ⟨(y.1, r), List.mem_filter.2 ⟨hr, by simpa using e4⟩, e1⟩
  · obtain ⟨p, hp, rfl⟩ := List.mem_map.1 hk
    obtain ⟨hp1, hp2⟩ := List.mem_filter.1 hp
    have : p.1 ∈ kvs.map (·.1) := h1.mem_iff.2 (List.mem_map.2 ⟨p, hp1, rfl⟩)
    obtain ⟨y, hy, e⟩ := List.mem_map.1 this
    obtain ⟨x, hx, e2⟩ := H.2 y hy (rem_allM hr hy) (by rw [e]; simpa using hp2)
    exact List.mem_map.2 ⟨x, hx, by rw [e2, e]⟩
  · obtain ⟨y, hy, e1, e2, e3, e4⟩ := H.1 x hx
    obtain ⟨r, dv, hr1, hr2, hr3⟩ := h3 y hy
    exact ⟨r, dv, List.mem_filter.2 ⟨by rw [← e1]; exact hr1, by rw [← e1]; simpa using e4⟩, by rw [← e2, hr2], hr3⟩
theorem lookD_mem {r : Rp} : ∀ {D : List (Int × Rp)}, (D.map (·.1)).Nodup → (id, r) ∈ D → lookD D id = some r
  | [], _, h => by cases h
  | p :: D, hn, h => by
    rw [List.map_cons, List.nodup_cons] at hn
    unfold lookD
    rw [List.find?_cons]
    rcases List.mem_cons.1 h with rfl | h
    · simp
    · have hne : (p.1 == id) = false := by
        simpa using fun e : p.1 = id => hn.1 (List.mem_map.2 ⟨(id, r), h, e.symm⟩)
      rw [hne]
      exact lookD_mem hn.2 h
theorem lookD_none (h : id ∉ D.map (·.1)) : lookD D id = none := by
  unfold lookD
  rw [List.find?_eq_none.2 (fun x hx => by simpa using fun e : x.1 = id => h (List.mem_map.2 ⟨x, hx, e⟩))]
  rfl
theorem look_ok (h : okD pool D kvs) (id : Int) : (∃ r dv, lookD D id = some r ∧ lookM kvs id = some (r.val dv) ∧ (dv, r.data) ∈ pool) ∨ (lookD D id = none ∧ lookM kvs id = none ∧ id ∉ D.map (·.1)) := by
  obtain ⟨h1, h2, h3⟩ := h
  unfold lookM
  cases hf : kvs.find? fun x => x.1 == id with
  | none =>
    have hno : id ∉ D.map (·.1) := fun hm => by
      obtain ⟨x, hx, e⟩ := List.mem_map.1 (h1.mem_iff.2 hm)
      have := List.find?_eq_none.1 hf x hx
      simp [e] at this
    exact .inr ⟨lookD_none hno, rfl, hno⟩
  | some x =>
    have hx := List.mem_of_find?_eq_some hf
    have he : x.1 = id := by simpa using List.find?_some hf
    obtain ⟨r, dv, hr1, hr2, hr3⟩ := h3 x hx
    rw [he] at hr1
    exact .inl ⟨r, dv, lookD_mem h2 hr1, by rw [Option.map_some, hr2], hr3⟩
theorem okD_more {p : Value × List UInt8} (h : okD pool D kvs) : okD (p :: pool) D kvs := by
  obtain ⟨h1, h2, h3⟩ := h
  refine ⟨h1, h2, fun x hx => ?_⟩
  obtain ⟨r, dv, hr1, hr2, hr3⟩ := h3 x hx
  exact ⟨r, dv, hr1, hr2, List.mem_cons_of_mem _ hr3⟩
theorem okD_put {r : Rp} {dv : Value} (h : okD pool D kvs) (hno : id ∉ D.map (·.1)) : okD ((dv, r.data) :: pool) (D ++ [(id, r)]) (putM kvs id (r.val dv) ck) := by
  obtain ⟨h1, h2, h3⟩ := h
  have hk : ¬ kvs.any (fun x => x.1 == id) = true := fun ha => by
    obtain ⟨x, hx, he⟩ := List.any_eq_true.1 ha
    exact hno (h1.mem_iff.1 (List.mem_map.2 ⟨x, hx, by simpa using he⟩))
  have e : putM kvs id (r.val dv) ck = kvs ++ [(id, r.val dv, ck)] := by unfold putM; rw [if_neg hk]
  rw [e]
  refine ⟨by rw [List.map_append, List.map_append]; exact h1.append_right _, ?_, fun x hx => ?_⟩
  · rw [List.map_append]
    refine List.nodup_append.2 ⟨h2, by simp, ?_⟩
    intro a ha b hb
    simp at hb
    subst hb
    rintro rfl
    exact hno ha
  · rcases List.mem_append.1 hx with hx | hx
    · obtain ⟨r', dv', hr1, hr2, hr3⟩ := h3 x hx
      exact ⟨r', dv', List.mem_append.2 (.inl hr1), hr2, List.mem_cons_of_mem _ hr3⟩
    · simp at hx
      subst hx
      exact ⟨r, dv, List.mem_append.2 (.inr (by simp)), rfl, List.mem_cons_self ..⟩
theorem okD_putIn {r : Rp} {dv : Value} (h : okD pool D kvs) (hp : (dv, r.data) ∈ pool) (hno : id ∉ D.map (·.1)) : okD pool (D ++ [(id, r)]) (putM kvs id (r.val dv) ck) := by
  obtain ⟨h1, h2, h3⟩ := okD_put (ck := ck) (r := r) (dv := dv) h hno
  refine ⟨h1, h2, fun x hx => ?_⟩
  obtain ⟨r', dv', hr1, hr2, hr3⟩ := h3 x hx
  refine ⟨r', dv', hr1, hr2, ?_⟩
  rcases List.mem_cons.1 hr3 with e | e
  · rw [e]; exact hp
  · exact e
theorem big_mono {α : Type} {A B : α → HProp} (h : ∀ x hh, A x hh → B x hh) : ∀ (l : List α) (hh : Hp), Big A l hh → Big B l hh
  | [], _, _ => trivial
  | x :: l, hh, H => by
    obtain ⟨h1, h2, d, s1, s2, a, r⟩ := H
    exact ⟨h1, h2, d, s1, s2, h x h1 a, big_mono h l h2 r⟩
theorem GOwn_more {p : Value × List UInt8} {g : GX} {hh : Hp} (h : GOwn pool g hh) : GOwn (p :: pool) g hh := ⟨okD_more h.1, h.2⟩
theorem UnP_more {TU TS TT bu : Nat} {ms : List Nat} {u : Un} {p : Value × List UInt8} (H : On W0 (UnP TU TS TT bu pool ms u :: L) w) : On W0 (UnP TU TS TT bu (p :: pool) ms u :: L) w := by
  obtain ⟨bs, bt, gs, hm, hl, H⟩ := openU H
  have H1 : On W0 (Big (GOwn pool) gs :: blk bu (ucells bs bt gs) TU :: SpP TS bs u.s :: blk bt u.t.cells TT :: L) w := H.to
  have H2 : On W0 (Big (GOwn (p :: pool)) gs :: blk bu (ucells bs bt gs) TU :: SpP TS bs u.s :: blk bt u.t.cells TT :: L) w := H1.head (big_mono (fun x hh => GOwn_more) gs)
  have H3 : On W0 (blk bu (ucells bs bt gs) TU :: SpP TS bs u.s :: blk bt u.t.cells TT :: Big (GOwn (p :: pool)) gs :: L) w := H2.to
  exact closeU hm hl H3
/-- What a command leaves as it was. -/
def kept (u u' : Un) : Prop := u'.g.length = u.g.length ∧ (∀ j, j < 8 → (u'.guest j).floor = (u.guest j).floor ∧ (u'.guest j).done = (u.guest j).done) ∧ ∀ k, small k u → small (k + 1) u'
theorem small_le {u : Un} {k m : Nat} (h : small k u) (hk : k ≤ m) : small m u := fun i hi => Nat.le_trans (h i hi) hk
theorem tellM_len (l : List Int) (x : Int) : (tellM l x).length ≤ l.length + 1 := by
  unfold tellM
  split
  · omega
  · simp
theorem kept_refl {u : Un} : kept u u := ⟨rfl, fun _ _ => ⟨rfl, rfl⟩, fun k h => small_le h (by omega)⟩
theorem kept_setS {u : Un} {s : Sp} : kept u (u.setS s) := ⟨rfl, fun _ _ => ⟨rfl, rfl⟩, fun k h => small_le h (by omega)⟩
theorem kept_pop {u : Un} {i : Nat} (h8 : u.g.length = 8) (hi : i < 8) : kept u (u.putG i (u.guest i).pop) := by
  refine ⟨by show (u.g.set i _).length = _; rw [List.length_set], fun j hj => ?_, fun k h j hj => ?_⟩
  · by_cases e : i = j
    · subst e; rw [guest_put h8 hi]; exact ⟨rfl, rfl⟩
    · rw [guest_other e]; exact ⟨rfl, rfl⟩
  · by_cases e : i = j
    · subst e; rw [guest_put h8 hi]
      show ((u.guest i).codes.drop 1).length ≤ _
      have := h i hi
      rw [List.length_drop]; omega
    · rw [guest_other e]; have := h j hj; omega
theorem kept_reset {u : Un} (h8 : u.g.length = 8) : kept u (resetN u 8) := by
  refine ⟨by rw [resetN_len h8, h8], fun j hj => ?_, fun k h j hj => ?_⟩
  · rw [resetN_done h8 8 hj (Nat.le_refl _)]; exact ⟨rfl, rfl⟩
  · rw [resetN_done h8 8 hj (Nat.le_refl _)]
    have := h j hj
    have := tellM_len (u.guest j).codes 10499
    show (tellM _ _).length ≤ _
    omega
theorem notM_len {u : Un} {code : Int} (h8 : u.g.length = 8) : ∀ l : List Nat, (notM u code l).g.length = 8 := fun l => by
  induction l generalizing u with
  | nil => exact h8
  | cons n l ih => exact ih (tell_len h8)
theorem tell_keeps {u : Un} {n : Nat} {x : Int} (h8 : u.g.length = 8) : ∀ j, j < 8 → ((u.tell n x).guest j).floor = (u.guest j).floor ∧ ((u.tell n x).guest j).done = (u.guest j).done := fun j hj => by
  unfold Un.tell
  by_cases e : n = j
  · subst e; rw [guest_put h8 hj]; exact ⟨rfl, rfl⟩
  · rw [guest_other e]; exact ⟨rfl, rfl⟩
theorem notM_keeps {code : Int} : ∀ (l : List Nat) {u : Un}, u.g.length = 8 → ∀ j, j < 8 → ((notM u code l).guest j).floor = (u.guest j).floor ∧ ((notM u code l).guest j).done = (u.guest j).done
  | [], u, _, j, _ => ⟨rfl, rfl⟩
  | n :: l, u, h8, j, hj => by
    have h1 := notM_keeps (code := code) l (u := u.tell n code) (tell_len h8) j hj
    have h2 := tell_keeps (n := n) (x := code) h8 j hj
    exact ⟨h1.1.trans h2.1, h1.2.trans h2.2⟩
theorem notM_out {code : Int} : ∀ (l : List Nat) {u : Un} {j : Nat}, j ∉ l → (notM u code l).guest j = u.guest j
  | [], u, _, _ => rfl
  | n :: l, u, j, h => by
    rw [List.mem_cons, not_or] at h
    have h1 := notM_out (code := code) l (u := u.tell n code) h.2
    refine h1.trans ?_
    unfold Un.tell
    exact guest_other (fun e => h.1 e.symm)
theorem notM_in {code : Int} : ∀ (l : List Nat) {u : Un} {j : Nat}, u.g.length = 8 → l.Nodup → j ∈ l → j < 8 → (notM u code l).guest j = (u.guest j).tell code
  | [], u, j, _, _, h, _ => by cases h
  | n :: l, u, j, h8, hn, h, hj => by
    rw [List.nodup_cons] at hn
    by_cases e : n = j
    · subst e
      refine (notM_out l (u := u.tell n code) hn.1).trans ?_
      unfold Un.tell
      exact guest_put h8 hj
    · have hm : j ∈ l := by rcases List.mem_cons.1 h with h | h; exact absurd h.symm e; exact h
      refine (notM_in l (u := u.tell n code) (tell_len h8) hn.2 hm hj).trans ?_
      unfold Un.tell
      rw [guest_other e]
theorem hosts_nodup {K : Nat → Int} {h : Int} {p : Int → Bool} {n : Nat} : (hostsN K h p n).Nodup := List.nodup_range.filter _
theorem told_nodup {t : Tb} {h : Int} : (t.told h).Nodup := by
  unfold Tb.told
  split
  · exact hosts_nodup
  · exact List.nodup_nil
theorem told_lt {t : Tb} {h : Int} : ∀ j ∈ t.told h, j < 8 := fun j hj => by
  unfold Tb.told at hj
  split at hj
  · exact (hostsN_mem.1 hj).1
  · cases hj
def okL (v : Rv) : Prop := v.l.Nodup ∧ (∀ j ∈ v.l, j < 8) ∧ (v.l ≠ [] → 0 ≤ v.code ∧ v.code < 65536) ∧ v.l.length ≤ 8
theorem okL_of {t : Tb} {r : Rp} {l : List Nat} {code : Int} (h1 : l.Nodup) (h2 : ∀ j ∈ l, j < 8) (h3 : 0 ≤ code ∧ code < 65536) (h4 : l.length ≤ 8) : okL ⟨t, r, l, code⟩ := ⟨h1, h2, fun _ => h3, h4⟩
theorem okL_no {t : Tb} {r : Rp} {code : Int} : okL ⟨t, r, [], code⟩ := ⟨List.nodup_nil, fun j hj => (by cases hj), fun h => absurd rfl h, Nat.zero_le _⟩
theorem hosts_lt {K : Nat → Int} {h : Int} {p : Int → Bool} {n : Nat} : ∀ j ∈ hostsN K h p n, j < n := fun j hj => (hostsN_mem.1 hj).1
theorem regF_l {t : Tb} {i : Nat} {key fresh : Int} {ign : Bool} : okL (regF t i key fresh ign) := by
  unfold regF
  split
  · unfold regO
    split
    · exact okL_of told_nodup told_lt ⟨by decide, by decide⟩ told_len
    · exact okL_no
  · exact okL_no
theorem rvM_l {t : Tb} {i : Nat} {c : Cm} : okL (rvM t i c) := by
  unfold rvM
  split
  · exact regF_l
  split
  · exact regF_l
  split
  · unfold rsvF
    repeat' split
    all_goals exact okL_no
  split
  · unfold relF
    repeat' split
    all_goals first
      | exact okL_no
      | exact okL_of told_nodup told_lt ⟨by decide, by decide⟩ told_len
  split
  · unfold clrF
    split
    · exact okL_no
    · exact okL_of hosts_nodup hosts_lt ⟨by decide, by decide⟩ (hostsN_len ..)
  · unfold preF
    repeat' split
    all_goals first
      | exact okL_no
      | exact okL_of (show (preL _ _ _).Nodup from hosts_nodup) (show ∀ j ∈ preL _ _ _, j < 8 from hosts_lt) ⟨by decide, by decide⟩ (show (preL _ _ _).length ≤ 8 from hostsN_len ..)
theorem rvM_r {t : Tb} {i : Nat} {c : Cm} : (rvM t i c).r.data = [] := by
  have hreg : ∀ key fresh ign, (regF t i key fresh ign).r.data = [] := fun key fresh ign => by unfold regF; split <;> rfl
  unfold rvM
  split
  · exact hreg _ _ _
  split
  · exact hreg _ _ _
  split
  · unfold rsvF; repeat' split
    all_goals rfl
  split
  · unfold relF; repeat' split
    all_goals rfl
  split
  · unfold clrF; split <;> rfl
  · unfold preF; repeat' split
    all_goals rfl
theorem kept_rv {u : Un} {i : Nat} {c : Cm} (h8 : u.g.length = 8) : kept u (resM u i c).1 := by
  unfold resM
  split
  · exact kept_refl
  split
  · exact kept_refl
  have hl := rvM_l (t := u.t) (i := i) (c := c)
  refine ⟨(notM_len (u := u.setT (rvM u.t i c).t) h8 _).trans h8.symm, fun j hj => notM_keeps _ (u := u.setT (rvM u.t i c).t) h8 j hj, fun k h j hj => ?_⟩
  by_cases hm : j ∈ (rvM u.t i c).l
  · rw [show (notM (u.setT (rvM u.t i c).t) (rvM u.t i c).code (rvM u.t i c).l).guest j = _ from notM_in _ (u := u.setT (rvM u.t i c).t) h8 hl.1 hm hj]
    have h1 := h j hj
    have h2 := tellM_len (u.guest j).codes (rvM u.t i c).code
    show (tellM _ _).length ≤ _
    exact Nat.le_trans h2 (by omega)
  · rw [show (notM (u.setT (rvM u.t i c).t) (rvM u.t i c).code (rvM u.t i c).l).guest j = _ from notM_out _ (u := u.setT (rvM u.t i c).t) hm]
    exact Nat.le_trans (h j hj) (by omega)
theorem keysN_len (K : Nat → Int) : ∀ n, (keysN K n).length ≤ n
  | 0 => Nat.le_refl _
  | n + 1 => by
    have := keysN_len K n
    unfold keysN
    rw [List.length_append]
    split
    · show _ + 0 ≤ _; omega
    · show _ + 1 ≤ _; omega
theorem flat8_len (l : List Int) : (l.flatMap fun k => be k.toNat 8).length = 8 * l.length := by
  induction l with
  | nil => rfl
  | cons x l ih => rw [List.flatMap_cons, List.length_append, be_length, ih, List.length_cons]; omega
theorem keysB_len (t : Tb) : (keysB t).length = 8 + 8 * (keysN t.K 8).length := by
  unfold keysB; rw [List.length_append, List.length_append, be_length, be_length, flat8_len]
theorem holdB_len (t : Tb) : (holdB t).length ≤ 24 := by
  unfold holdB
  split <;> simp only [List.length_append, be_length] <;> omega
theorem resM_dlen {u : Un} {i : Nat} {c : Cm} : (resM u i c).2.data.length ≤ 1000 := by
  unfold resM
  split
  · show (keysB _).length ≤ _; rw [keysB_len]; have := keysN_len u.t.K 8; omega
  split
  · exact Nat.le_trans (holdB_len _) (by omega)
  · show (rvM u.t i c).r.data.length ≤ _
    rw [rvM_r]; exact Nat.zero_le _
theorem kept_act {u : Un} {i : Nat} {c : Cm} (h8 : u.g.length = 8) : kept u (actM u i c).1 := by
  unfold actM
  split
  · exact kept_refl
  · split
    · exact kept_refl
    · split
      · exact kept_refl
      · split
        · exact kept_setS
        · split
          · exact kept_reset h8
          · exact kept_rv h8
theorem kept_do {u : Un} {hh : Int} {c : Cm} (h8 : u.g.length = 8) : kept u (doM u hh c).1 := by
  unfold doM
  split
  · exact kept_refl
  · rename_i hn
    have hh8 : hh.toNat < 8 := by
      cases hb : hostB hh with
      | false => exact absurd (.inl hb) hn
      | true => have := hostB_iff.1 hb; omega
    split
    · split
      · exact kept_refl
      · exact kept_pop h8 hh8
    · split
      · exact kept_pop h8 hh8
      · split
        · exact kept_refl
        · exact kept_act h8
theorem lookD_in {r : Rp} (h : lookD D id = some r) : (id, r) ∈ D := by
  unfold lookD at h
  cases hf : D.find? fun x => x.1 == id with
  | none => rw [hf] at h; cases h
  | some p =>
    rw [hf] at h
    have hp := List.mem_of_find?_eq_some hf
    have he : p.1 = id := by simpa using List.find?_some hf
    have hr : p.2 = r := by simpa using h
    rw [← he, ← hr]
    exact hp
theorem runM_len {s : Sp} {c : Cm} : (runM s c).2.data.length ≤ 1000 := by
  unfold runM
  split
  · rename_i hin
    unfold inS at hin
    split
    · show (partS s _ _).length ≤ _
      unfold partS
      rw [List.length_take]
      omega
    · split
      · split <;> exact Nat.zero_le _
      · split
        · exact Nat.zero_le _
        · split
          · split
            · unfold cmpM; split <;> exact Nat.zero_le _
            · exact Nat.zero_le _
          · exact Nat.zero_le _
  · exact Nat.zero_le _
theorem actM_dlen {u : Un} {i : Nat} {c : Cm} : (actM u i c).2.data.length ≤ 1000 := by
  unfold actM
  split
  · exact Nat.zero_le _
  · split
    · show inqB.length ≤ _; decide
    · split
      · show (capB _).length ≤ _; unfold capB; rw [List.length_append, be_length, be_length]; decide
      · split
        · exact runM_len
        · split
          · exact Nat.zero_le _
          · exact resM_dlen
theorem doM_dlen {u : Un} {hh : Int} {c : Cm} : (doM u hh c).2.data.length ≤ 1000 := by
  unfold doM
  split
  · exact Nat.zero_le _
  · split
    · split
      · show (senseB _ _).length ≤ _; rw [senseB_len]; decide
      · show (senseB _ _).length ≤ _; rw [senseB_len]; decide
    · split
      · exact Nat.zero_le _
      · split
        · exact Nat.zero_le _
        · exact actM_dlen
theorem rows_same {gs : List GX} {i : Nat} {g g' : GX} (h : gs[i]? = some g) (e : g'.row = g.row) : (gs.set i g').flatMap GX.row = gs.flatMap GX.row := by
  have hg : GX.row g = (g.row).set 0 (.slice g.a g.s.codes.length g.c) := rfl
  have := rows_set (g := g) (g' := g') (v := .slice g.a g.s.codes.length g.c) h (show 0 < 3 by decide) (by rw [e]; exact hg)
  rw [← this]
  have h2 := rows_set (g := g) (g' := g) (v := .slice g.a g.s.codes.length g.c) h (show 0 < 3 by decide) hg
  rw [h2, set_same h]
theorem mb_of {gs : List GX} {ms : List Nat} {i : Nat} {g : GX} (h : gs.map (·.mb) = ms) (hg : gs[i]? = some g) : ms[i]? = some g.mb := by rw [← h, List.getElem?_map, hg]; rfl
def Gs.setD (g : Gs) (fl : Int) (D : List (Int × Rp)) : Gs := { g with floor := fl, done := D }
def flM (g : Gs) (id floor : Int) : Int := max (min floor id) g.floor
def onceM (u : Un) (i : Nat) (id floor : Int) (c : Cm) : Un × Rp × Bool :=
  let g := u.guest i
  if id = 0 ∨ id < g.floor then (u, plain 8 0 0, false)
  else
    let fl := flM g id floor
    let kept := keepM g.done fl
    match lookD kept id with
    | some r => (u.putG i (g.setD fl kept), r, false)
    | none =>
      if 4 ≤ kept.length then (u, plain 8 0 0, false)
      else
        let p := doM (u.putG i (g.setD fl kept)) i c
        (p.1.putG i ((p.1.guest i).setD fl (kept ++ [(id, p.2)])), p.2, true)
section
variable {u : Un} {i : Nat} {c : Cm} {id floor : Int}
def onceG (u : Un) (i : Nat) (id floor : Int) : Gs := (u.guest i).setD (flM (u.guest i) id floor) (keepM (u.guest i).done (flM (u.guest i) id floor))
theorem once_busy (h : id = 0 ∨ id < (u.guest i).floor) : onceM u i id floor c = (u, plain 8 0 0, false) := by unfold onceM; simp only []; rw [if_pos h]
theorem once_old {r : Rp} (h : ¬ (id = 0 ∨ id < (u.guest i).floor)) (hl : lookD (keepM (u.guest i).done (flM (u.guest i) id floor)) id = some r) : onceM u i id floor c = (u.putG i (onceG u i id floor), r, false) := by
  unfold onceM; simp only []; rw [if_neg h, hl]; rfl
theorem once_full (h : ¬ (id = 0 ∨ id < (u.guest i).floor)) (hl : lookD (keepM (u.guest i).done (flM (u.guest i) id floor)) id = none) (h4 : 4 ≤ (keepM (u.guest i).done (flM (u.guest i) id floor)).length) : onceM u i id floor c = (u, plain 8 0 0, false) := by
  unfold onceM; simp only []; rw [if_neg h, hl]; simp only []; rw [if_pos h4]
theorem once_new {u' : Un} {r : Rp} (h : ¬ (id = 0 ∨ id < (u.guest i).floor)) (hl : lookD (keepM (u.guest i).done (flM (u.guest i) id floor)) id = none) (h4 : ¬ 4 ≤ (keepM (u.guest i).done (flM (u.guest i) id floor)).length) (hd : doM (u.putG i (onceG u i id floor)) i c = (u', r)) :
    onceM u i id floor c = (u'.putG i ((u'.guest i).setD (flM (u.guest i) id floor) (keepM (u.guest i).done (flM (u.guest i) id floor) ++ [(id, r)])), r, true) := by
  unfold onceM; simp only []; rw [if_neg h, hl]; simp only []; rw [if_neg h4]
  unfold onceG at hd
  rw [hd]
theorem setD_small {k : Nat} {fl : Int} {D : List (Int × Rp)} (h8 : u.g.length = 8) (hi : i < 8) (h : small k u) : small k (u.putG i ((u.guest i).setD fl D)) := fun j hj => by
  by_cases e : i = j
  · subst e; rw [guest_put h8 hi]; exact h i hi
  · rw [guest_other e]; exact h j hj
theorem setD_okC {fl : Int} {D : List (Int × Rp)} (h8 : u.g.length = 8) (hi : i < 8) (h : okC u) : okC (u.putG i ((u.guest i).setD fl D)) := fun j hj => by
  by_cases e : i = j
  · subst e; rw [guest_put h8 hi]; exact h i hi
  · rw [guest_other e]; exact h j hj
end
end
/-! ### Written -/
def partB (b v : List UInt8) : List UInt8 := b ++ be v.length 4 ++ v
def byteI (z : Int) : UInt8 := UInt8.ofNat (z % 256).toNat
def encTK (t : Tb) (k : Nat) : List UInt8 := be t.gen.toNat 4 ++ (List.range k).flatMap fun i => be (t.K i).toNat 8
def encT (t : Tb) : List UInt8 := encTK t 8 ++ [byteI t.hold, byteI t.typ]
def okT (t : Tb) : Prop := (∀ i, i < 8 → 0 ≤ t.K i ∧ t.K i < 18446744073709551616) ∧ 0 ≤ t.gen ∧ t.gen < 4294967296
theorem flat_len {f : Nat → List UInt8} {c : Nat} (h : ∀ i, (f i).length = c) : ∀ k, ((List.range k).flatMap f).length = k * c
  | 0 => by simp
  | k + 1 => by rw [List.range_succ, List.flatMap_append, List.length_append, flat_len h k, List.flatMap_cons, List.flatMap_nil, List.append_nil, h, Nat.succ_mul]
theorem encTK_len (t : Tb) (k : Nat) : (encTK t k).length = 4 + k * 8 := by unfold encTK; rw [List.length_append, be_length, flat_len (fun i => be_length ..)]
theorem encTK_succ (t : Tb) (k : Nat) : encTK t (k + 1) = encTK t k ++ be (t.K k).toNat 8 := by
  unfold encTK; rw [List.range_succ, List.flatMap_append, List.append_assoc, List.flatMap_cons, List.flatMap_nil, List.append_nil]
/-- One that was done. -/
def recB (x : Int × Rp) : List UInt8 := be x.1.toNat 8 ++ [byteI x.2.st, byteI x.2.key] ++ be x.2.code.toNat 2 ++ be x.2.info.toNat 4 ++ be x.2.data.length 4 ++ x.2.data
def codesB (l : List Int) (k : Nat) : List UInt8 := be l.length 2 ++ (l.take k).flatMap fun c => be c.toNat 2
def headB (g : Gs) : List UInt8 := codesB g.codes g.codes.length ++ be g.floor.toNat 8 ++ be g.done.length 2
def guestB (g : Gs) : List UInt8 := headB g ++ g.done.flatMap recB
def okR (r : Rp) : Prop := 0 ≤ r.st ∧ r.st < 256 ∧ 0 ≤ r.key ∧ r.key < 256 ∧ 0 ≤ r.code ∧ r.code < 65536 ∧ 0 ≤ r.info ∧ r.info < 4294967296 ∧ r.data.length ≤ 10000
def okG (g : Gs) : Prop := g.codes.length ≤ 10000 ∧ (∀ c ∈ g.codes, 0 ≤ c ∧ c < 65536) ∧ 0 ≤ g.floor ∧ g.floor < 18446744073709551616 ∧ ∀ x ∈ g.done, (0 ≤ x.1 ∧ x.1 < 18446744073709551616) ∧ okR x.2
theorem codesB_succ {l : List Int} {k : Nat} {c : Int} (h : l[k]? = some c) : codesB l (k + 1) = codesB l k ++ be c.toNat 2 := by
  unfold codesB; rw [List.take_add_one, h, List.flatMap_append, List.append_assoc]; simp
theorem codesB_len (l : List Int) : ∀ k, k ≤ l.length → (codesB l k).length = 2 + k * 2
  | 0, _ => by simp [codesB, be_length]
  | k + 1, h => by
    obtain ⟨c, hc⟩ : ∃ c, l[k]? = some c := ⟨l[k]'(by omega), by simp⟩
    rw [codesB_succ hc, List.length_append, codesB_len l k (by omega), be_length]; omega
theorem headB_len (g : Gs) : (headB g).length = 12 + g.codes.length * 2 := by
  unfold headB; rw [List.length_append, List.length_append, codesB_len _ _ (Nat.le_refl _), be_length, be_length]; omega
theorem recB_len {x : Int × Rp} (h : okR x.2) : (recB x).length ≤ 10020 := by
  unfold recB; simp only [List.length_append, be_length, List.length_cons, List.length_nil]
  have := h.2.2.2.2.2.2.2.2; omega
theorem one_rowU {l : List Value} {k : Nat} {v : Value} (h : l[k]? = some v) : (l.drop (k * 1)).take 1 = [v] := by
  have hlt := (List.getElem?_eq_some_iff.1 h).1
  have he := (List.getElem?_eq_some_iff.1 h).2
  rw [Nat.mul_one, List.drop_eq_getElem_cons hlt, List.take_succ_cons, List.take_zero, he]
theorem perm_one {α : Type} {l l' : List α} (h : l.Perm l') (h1 : l'.length ≤ 1) : l = l' := by
  match l', h1 with
  | [], _ => exact List.perm_nil.1 h
  | [x], _ => exact List.perm_singleton.1 h
theorem done_len {D : List (Int × Rp)} (h1 : D.length ≤ 1) (h : ∀ x ∈ D, okR x.2) (k : Nat) : ((D.take k).flatMap recB).length ≤ 10020 := by
  match D, h1, h with
  | [], _, _ => simp
  | [x], _, h =>
    cases k with
    | zero => simp
    | succ k =>
      rw [List.take_succ_cons, List.flatMap_cons, List.length_append]
      have := recB_len (h x (by simp))
      simp; omega
def encUK (u : Un) (s0 : List UInt8) : Nat → List UInt8
  | 0 => partB (partB [] s0) (encT u.t)
  | k + 1 => partB (encUK u s0 k) (guestB (u.guest k))
theorem guestB_len {g : Gs} (h : okG g) (h1 : g.done.length ≤ 1) : (guestB g).length ≤ 30100 := by
  unfold guestB
  rw [List.length_append, headB_len]
  have h2 := done_len h1 (fun x hx => (h.2.2.2.2 x hx).2) g.done.length
  rw [List.take_length] at h2
  have := h.1
  omega
theorem encUK_len {u : Un} {s0 : List UInt8} (h : ∀ i, i < 8 → okG (u.guest i) ∧ (u.guest i).done.length ≤ 1) : ∀ k, k ≤ 8 → (encUK u s0 k).length ≤ s0.length + 100 + k * 31000
  | 0, _ => by
    show (partB (partB [] s0) (encT u.t)).length ≤ _
    unfold partB encT
    simp only [List.length_append, be_length, encTK_len, List.length_cons, List.length_nil]
    omega
  | k + 1, hk => by
    have h1 := encUK_len (s0 := s0) h k (by omega)
    have h2 := guestB_len (h k (by omega)).1 (h k (by omega)).2
    show (partB (encUK u s0 k) (guestB (u.guest k))).length ≤ _
    generalize hq : encUK u s0 k = q at h1
    unfold partB
    simp only [List.length_append, be_length]
    omega
def encU (u : Un) (s0 : List UInt8) : List UInt8 := encUK u s0 8
end Go.Sl.UnM
/-
  A unit: commands by their numbers: the contracts. Lines of walks printed by a program of the prover's.
-/
namespace Go.Proofs.YtjbgiingimhnnaaGreat
open Go Go.Sl Go.Sl.BitM Go.Sl.SpM Go.Sl.RsM Go.Sl.ByM Go.Sl.UnM
set_option linter.unusedVariables false
set_option linter.unusedSimpArgs false
set_option maxHeartbeats 1000000
set_option maxRecDepth 8000
variable {W0 w : World} {L F : List HProp}
end Go.Proofs.YtjbgiingimhnnaaGreat
/-
  Walks of functions in whose code a range over a function stands, and of iterators that call yield: the rules of SlWalk over the kit's fenced walks, with the marks that such a loop leaves.
-/
namespace Go.Sl
open Go
set_option linter.unusedVariables false
@[reducible] def FR (o : Option Nat) : Fence := { Fence.wide with round := o }
theorem callsFR {o : Option Nat} {n : Nat} {P : Program} {f : FuncId} {args : Array Value} {w : World} {R : Ending → World → Prop} (h : Calls P f args w R) : CallsIn (FR o) n P f args w R := (callsIn_wide (n := n)).2 h
theorem callsOf {n : Nat} {P : Program} {f : FuncId} {args : Array Value} {w : World} {R : Ending → World → Prop} (h : CallsIn (FR none) n P f args w R) : Calls P f args w R := (callsIn_wide (n := n)).1 h
structure RelD (N : Nat) (ds : List Deferred) (a : Act) (env : Env) : Prop where
  size : a.tmps.size = N
  get : ∀ t, a.tmps.getD t undef = env t
  defers : a.defers = ds
theorem RelD.eval {N : Nat} {ds : List Deferred} {a : Act} {env : Env} (r : RelD N ds a env) : a.eval = evo env := by
  funext x
  cases x with
  | tmp t => exact r.get t
  | _ => rfl
theorem RelD.put {N : Nat} {ds : List Deferred} {a : Act} {env : Env} (r : RelD N ds a env) {d : Nat} (hd : Nat.ble (d + 1) N = true) (v : Value) : RelD N ds (a.put (some d) v) (upd env d v) := by
  have hlt : d < a.tmps.size := by rw [r.size]; exact Nat.le_of_ble_eq_true hd
  refine ⟨by simp [Act.put, r.size], fun t => ?_, r.defers⟩
  by_cases h : t = d
  · subst h; rw [upd_same]; simp [Act.put, hlt]
  · rw [upd_other _ _ h, ← r.get t]
    simp [Act.put, Array.getElem?_setIfInBounds_ne (Ne.symm h)]
theorem RelD.puto {N : Nat} {ds : List Deferred} {a : Act} {env : Env} (r : RelD N ds a env) {d : Option Nat} (hd : inN N d = true) (v : Value) : RelD N ds (a.put d v) (updo env d v) := by
  cases d with
  | none => exact r
  | some d => exact r.put hd v
theorem RelD.yielded {N : Nat} {ds : List Deferred} {a : Act} {env : Env} (r : RelD N ds a env) (ops : Array Oper) (j : Nat) : yielded ops a.tmps j = yieldedE ops env j := by
  have r' : Rel N { a with defers := [] } env := ⟨r.size, r.get, rfl⟩
  exact r'.yielded ops j
/-- An operation that is no defer. -/
def plainOp (o : Oper) : Bool := match o.op with | .defer _ => false | _ => true
theorem plain_sem {o : Oper} (h : plainOp o = true) (ro : Option Nat) (ρ : Operand → Value) : Oper.semAt ro ρ o = execOp ρ o := Oper.semAt_eq ro ρ o fun c e => by
  unfold plainOp at h; rw [e] at h; cases h
section
variable {P : Program} {N n : Nat} {fo : Option Nat} {ds : List Deferred} {ops : Array Oper} {K : List Deferred → Env → World → Prop} {env : Env} {w : World} {rest : List Oper} {o : Oper}
def liftKD (N : Nat) (K : List Deferred → Env → World → Prop) : Exit → Act → World → Prop := fun e a w => e = .normal ∧ ∃ ds env, RelD N ds a env ∧ K ds env w
def WLF (fo : Option Nat) (n : Nat) (P : Program) (N : Nat) (ops : Array Oper) (K : List Deferred → Env → World → Prop) (l : List Oper) (ds : List Deferred) (env : Env) (w : World) : Prop :=
  ∀ a, RelD N ds a env → wpListIn (FR fo) n P ops (liftKD N K) l a w
theorem WLF.nil (h : K ds env w) : WLF fo n P N ops K [] ds env w := fun a r => ⟨rfl, ds, env, r, h⟩
theorem WLF.val {v : Value} {w' : World} (hr : (execOp (evo env) o).run P w = .ok (.value v) w') (hp : plainOp o = true) (hw : Region.wanted o (yieldedE ops env) = true) (hd : inN N o.dst = true)
    (k : WLF fo n P N ops K rest ds (updo env o.dst v) w') : WLF fo n P N ops K (o :: rest) ds env w := fun a r => by
  unfold wpListIn
  have hy : yielded ops a.tmps = yieldedE ops env := funext fun j => r.yielded ops j
  rw [hy, if_pos hw]
  refine ⟨fun _ _ => trivial, ?_⟩
  rw [plain_sem hp, r.eval, hr]
  exact k _ (r.puto hd v)
theorem WLF.skip (hw : Region.wanted o (yieldedE ops env) = false) (hd : inN N o.dst = true) (k : WLF fo n P N ops K rest ds (updo env o.dst undef) w) : WLF fo n P N ops K (o :: rest) ds env w := fun a r => by
  unfold wpListIn
  have hy : yielded ops a.tmps = yieldedE ops env := funext fun j => r.yielded ops j
  rw [hy, hw]
  exact ⟨fun _ _ => trivial, k _ (r.puto hd undef)⟩
theorem WLF.eff {R : Value → World → Prop} (he : Eff P (evo env) o w R) (hp : plainOp o = true) (hw : Region.wanted o (yieldedE ops env) = true) (hd : inN N o.dst = true)
    (k : ∀ v w', R v w' → WLF fo n P N ops K rest ds (updo env o.dst v) w') : WLF fo n P N ops K (o :: rest) ds env w := fun a r => by
  unfold wpListIn
  have hy : yielded ops a.tmps = yieldedE ops env := funext fun j => r.yielded ops j
  rw [hy, if_pos hw]
  refine ⟨fun _ _ => trivial, ?_⟩
  rw [plain_sem hp, r.eval]
  rcases he with ⟨v, w', hr, hR⟩ | ⟨w', hr, hR⟩ | ⟨f, args, w1, hr, hc⟩
  · rw [hr]; exact k v w' hR _ (r.puto hd v)
  · rw [hr]; exact k undef w' hR _ (r.puto hd undef)
  · rw [hr]
    refine ⟨fun h => (by cases h), CallsIn.mono (callsFR hc) ?_⟩
    rintro e w' ⟨v, rfl, hR⟩
    exact k v w' hR _ (r.puto hd v)
/-- A call of yield. -/
theorem WLF.yield {R : Value → World → Prop} {l : Nat} {x y : Operand} {args : List Operand} {tys : Array TypeId} {d : Option Nat} {ty : TypeId} {pos : String} {af : Array Edge} {g : Option (Nat × Bool)}
    (ho : o = ⟨d, .call { callee := .value x, args := args.toArray, argTypes := tys }, ty, pos, af, g⟩) (hx : evo env x = .func (.yield l) #[] #[]) (hw : Region.wanted o (yieldedE ops env) = true) (hd : inN N o.dst = true)
    (hY : YieldAt (FR fo) (n - 1) P l (args.map (evo env)).toArray w (Ret R)) (k : ∀ v w', R v w' → WLF fo n P N ops K rest ds (updo env o.dst v) w') : WLF fo n P N ops K (o :: rest) ds env w := fun a r => by
  unfold wpListIn
  have hyy : yielded ops a.tmps = yieldedE ops env := funext fun j => r.yielded ops j
  rw [hyy, if_pos hw]
  refine ⟨fun _ _ => trivial, ?_⟩
  rw [plain_sem (by rw [ho]; rfl), r.eval]
  obtain ⟨fn, tmps, assign, body, hrun, hR⟩ := hY
  have hex : (execOp (evo env) o).run P w = .ok (.round l fn tmps assign body) w := by
    rw [ho]
    simp [execOp, resolve, Deferred.ofValue, hx, invoke, hrun]
  rw [hex]
  refine ⟨fun h => (by cases h), RoundIn.mono hR ?_⟩
  rintro e w' ⟨v, rfl, hR⟩
  exact k v w' hR _ (r.puto hd v)
end
section
variable {P : Program} {N n : Nat} {fo : Option Nat} {ds : List Deferred} {env : Env} {w : World}
def liftQD (N : Nat) (Q : Exit → List Deferred → Env → World → Prop) : Exit → Act → World → Prop := fun e a w => ∃ ds env, RelD N ds a env ∧ Q e ds env w
def WF (fo : Option Nat) (n : Nat) (P : Program) (N : Nat) (c : Code) (Q : Exit → List Deferred → Env → World → Prop) (ds : List Deferred) (env : Env) (w : World) : Prop :=
  ∀ a, RelD N ds a env → c.wpIn (FR fo) n P (liftQD N Q) a w
@[reducible] def thenF (fo : Option Nat) (n : Nat) (P : Program) (N : Nat) (b : Code) (Q : Exit → List Deferred → Env → World → Prop) : Exit → List Deferred → Env → World → Prop
  | .normal, ds, env, w => WF fo n P N b Q ds env w
  | e, ds, env, w => Q e ds env w
@[reducible] def blockF (id : Nat) (Q : Exit → List Deferred → Env → World → Prop) : Exit → List Deferred → Env → World → Prop
  | .exit i, ds, env, w => match Nat.beq i id with | true => Q .normal ds env w | false => Q (.exit i) ds env w
  | e, ds, env, w => Q e ds env w
variable {Q Q' : Exit → List Deferred → Env → World → Prop}
theorem WF.mono {c : Code} (h : WF fo n P N c Q ds env w) (i : ∀ e ds env w, Q e ds env w → Q' e ds env w) : WF fo n P N c Q' ds env w := fun a r =>
  wpIn_mono (h a r) fun e a' w' ⟨ds', env', r', q⟩ => ⟨ds', env', r', i _ _ _ _ q⟩
theorem WF.seq {x y : Code} (h : WF fo n P N x (thenF fo n P N y Q) ds env w) : WF fo n P N (.seq x y) Q ds env w := fun a r => by
  refine wpIn_seq (wpIn_mono (h a r) ?_)
  rintro e a' w' ⟨ds', env', r', q⟩
  cases e with
  | normal => exact q a' r'
  | _ => exact ⟨ds', env', r', q⟩
theorem WF.skip (h : Q .normal ds env w) : WF fo n P N .skip Q ds env w := fun _ r => wpIn_skip ⟨ds, env, r, h⟩
theorem WF.exit {id : Nat} (h : Q (.exit id) ds env w) : WF fo n P N (.exit id) Q ds env w := fun _ r => wpIn_exit ⟨ds, env, r, h⟩
theorem WF.ret (h : Q .ret ds env w) : WF fo n P N .ret Q ds env w := fun _ r => wpIn_ret ⟨ds, env, r, h⟩
theorem WF.block {id : Nat} {c : Code} (h : WF fo n P N c (blockF id Q) ds env w) : WF fo n P N (.block id c) Q ds env w := fun a r => by
  refine wpIn_block (wpIn_mono (h a r) ?_)
  rintro e a' w' ⟨ds', env', r', q⟩
  cases e with
  | exit i =>
    simp only [Exit.inBlock]
    by_cases hi : i = id
    · subst hi; simp only [blockF, Nat.beq_refl] at q; rw [if_pos rfl]; exact ⟨ds', env', r', q⟩
    · have hb : Nat.beq i id = false := by rw [← Bool.not_eq_true]; intro e; exact hi (Nat.eq_of_beq_eq_true e)
      simp only [blockF, hb] at q; rw [if_neg hi]; exact ⟨ds', env', r', q⟩
  | _ => exact ⟨ds', env', r', q⟩
theorem WF.cond {c : Operand} {x y : Code} (b : Bool) (hc : evo env c = .bool b) (h : WF fo n P N (if b then x else y) Q ds env w) : WF fo n P N (.cond c x y) Q ds env w := fun a r =>
  wpIn_cond (by rw [r.eval]; exact hc) (h a r)
theorem WF.condT {c : Operand} {x y : Code} (hc : evo env c = .bool true) (h : WF fo n P N x Q ds env w) : WF fo n P N (.cond c x y) Q ds env w := WF.cond true hc h
theorem WF.condF {c : Operand} {x y : Code} (hc : evo env c = .bool false) (h : WF fo n P N y Q ds env w) : WF fo n P N (.cond c x y) Q ds env w := WF.cond false hc h
theorem WF.condIf {c : Operand} {x y : Code} {p : Prop} [Decidable p] (hc : evo env c = .bool (decide p)) (ht : p → WF fo n P N x Q ds env w) (hf : ¬ p → WF fo n P N y Q ds env w) : WF fo n P N (.cond c x y) Q ds env w := by
  by_cases h : p
  · exact WF.condT (by rw [hc]; simp [h]) (ht h)
  · exact WF.condF (by rw [hc]; simp [h]) (hf h)
theorem WF.region {id : Nat} {l : List Oper} (h : WLF fo n P N l.toArray (fun ds' env' w' => Q .normal ds' env' w') l ds env w) : WF fo n P N (.region id l.toArray false) Q ds env w := fun a r => by
  refine wpIn_region_lit ?_
  refine weaken ?_ l a w (h a r)
  rintro e a' w' ⟨rfl, ds', env', r', k⟩
  exact ⟨ds', env', r', k⟩
where
  weaken {P : Program} {fo : Option Nat} {n : Nat} {ops : Array Oper} {Q Q' : Exit → Act → World → Prop} (i : ∀ e a w, Q e a w → Q' e a w) : ∀ (l : List Oper) (a : Act) (w : World), wpListIn (FR fo) n P ops Q l a w → wpListIn (FR fo) n P ops Q' l a w := by
    intro l
    induction l with
    | nil => exact fun a w h => i _ _ _ h
    | cons o rest ih =>
      intro a w h
      unfold wpListIn at h ⊢
      split
      · rename_i hw
        rw [if_pos hw] at h
        obtain ⟨h1, h2⟩ := h
        refine ⟨h1, ?_⟩
        generalize (Oper.semAt _ a.eval o).run P w = r at h2 ⊢
        cases r with
        | ok nx w' =>
          cases nx <;> simp only [Oper.uponIn] at h2 ⊢ <;>
            first
              | exact ih _ _ h2
              | exact ⟨h2.1, CallsIn.mono h2.2 (fun e w'' he => by
                  cases e
                  · exact ih _ _ he
                  · exact i _ _ _ he
                  · exact ⟨he.choose, he.choose_spec.choose, i _ _ _ he.choose_spec.choose_spec⟩)⟩
              | exact ⟨h2.1, RoundIn.mono h2.2 (fun e w'' he => by
                  cases e
                  · exact ih _ _ he
                  · exact i _ _ _ he
                  · exact ⟨he.choose, he.choose_spec.choose, i _ _ _ he.choose_spec.choose_spec⟩)⟩
              | exact ⟨h2.1, RowsIn.mono h2.2 (fun _ _ he => ih _ _ he)⟩
        | halt x w' =>
          cases x <;> simp only [Oper.uponIn] at h2 ⊢
          exact i _ _ _ h2
      · rename_i hw
        rw [if_neg hw] at h
        exact ⟨h.1, ih _ _ h.2⟩
@[reducible] def loopF {σ : Type} (I : σ → Env → World → Prop) (m : σ → Nat) (s : σ) (ds : List Deferred) (Q : Exit → List Deferred → Env → World → Prop) : Exit → List Deferred → Env → World → Prop
  | .normal, ds', env, w => ds' = ds ∧ ∃ s', I s' env w ∧ m s' < m s
  | e, ds', env, w => Q e ds' env w
theorem WF.loop {σ : Type} {c : Code} (I : σ → Env → World → Prop) (m : σ → Nat) (s0 : σ) (h0 : I s0 env w)
    (step : ∀ s env w, I s env w → WF fo n P N c (loopF I m s ds Q) ds env w) : WF fo n P N (.loop c) Q ds env w := fun a r => by
  intro b k cs hro hb hr
  have key : ∀ j a w, (∃ s env, RelD N ds a env ∧ I s env w ∧ m s = j) →
      ∃ e a' w', liftQD N Q e a' w' ∧ ArrivesIn (Machine.fenced P (FR fo)) P (lone (b.atR a (.code c :: .inLoop c :: k)) cs w) b k cs e a' w' := by
    intro j
    induction j using Nat.strongRecOn with
    | _ j ih =>
      rintro a w ⟨s, env, r, hI, hm⟩
      obtain ⟨e, a₁, w₁, ⟨ds', env', r', hq⟩, harr⟩ := step s env w hI a r b (.inLoop c :: k) cs hro hb hr
      cases e with
      | normal =>
        obtain ⟨rfl, s', hI', hlt⟩ := hq
        obtain ⟨e₂, a₂, w₂, hq₂, harr₂⟩ := ih (m s') (by omega) a₁ w₁ ⟨s', env', r', hI', rfl⟩
        exact ⟨e₂, a₂, w₂, hq₂, .of_steps (StepsIn.trans harr (.one (fenced_calm hb hr rfl) stepR_inLoop)) harr₂⟩
      | exit id => exact ⟨_, a₁, w₁, ⟨ds', env', r', hq⟩, .pass (x := .inLoop c) rfl (fun _ _ => .inl (by simp)) harr⟩
      | goto l => exact ⟨_, a₁, w₁, ⟨ds', env', r', hq⟩, .pass (x := .inLoop c) rfl (fun _ _ => .inl (by simp)) harr⟩
      | ret => exact ⟨_, a₁, w₁, ⟨ds', env', r', hq⟩, .pass (x := .inLoop c) rfl (fun _ _ => .inl (by simp)) harr⟩
      | panic ch => exact ⟨_, a₁, w₁, ⟨ds', env', r', hq⟩, .pass (x := .inLoop c) rfl (fun _ _ => .inl (by simp)) harr⟩
      | outgrown => exact ⟨_, a₁, w₁, ⟨ds', env', r', hq⟩, .pass (x := .inLoop c) rfl (fun _ _ => .inl (by simp)) harr⟩
  obtain ⟨e, a', w', hq, harr⟩ := key _ a w ⟨s0, env, r, h0, rfl⟩
  exact ⟨e, a', w', hq, .of_steps (.one (fenced_calm hb hr rfl) stepR_loop) harr⟩
end
theorem filt_perm {β γ : Type} [DecidableEq γ] (f : β → γ) : ∀ {l : List β} {e : β}, (l.map f).Nodup → e ∈ l → l.Perm (e :: l.filter fun x => !decide (f x = f e))
  | [], e, _, h => by cases h
  | y :: l, e, hn, h => by
    rw [List.map_cons, List.nodup_cons] at hn
    rcases List.mem_cons.1 h with h1 | h1
    · subst h1
      have e1 : ((e :: l).filter fun x => !decide (f x = f e)) = l := by
        rw [List.filter_cons, if_neg (by simp)]
        refine List.filter_eq_self.2 fun x hx => ?_
        have : f x ≠ f e := fun hh => hn.1 (List.mem_map.2 ⟨x, hx, hh⟩)
        simpa using this
      rw [e1]
    · have hne : f y ≠ f e := fun hh => hn.1 (List.mem_map.2 ⟨e, h1, hh.symm⟩)
      rw [List.filter_cons, if_pos (by simpa using hne)]
      exact ((filt_perm f hn.2 h1).cons y).trans (List.Perm.swap ..)
theorem remM_perm {kvs : List KV} {seen : Array Nat} {e : KV} (hf : (kvs.map (·.2.2)).Nodup) (h : e ∈ remM kvs seen) : (remM kvs seen).Perm (e :: remM kvs (seen.push e.2.2)) := by
  have hn : ((remM kvs seen).map (·.2.2)).Nodup := (List.filter_sublist.map _).nodup hf
  have h1 := filt_perm (fun x : KV => x.2.2) hn h
  have e1 : remM kvs (seen.push e.2.2) = (remM kvs seen).filter fun x => !decide (x.2.2 = e.2.2) := by
    unfold remM
    rw [List.filter_filter]
    refine List.filter_congr fun x _ => ?_
    rw [contains_pushM, Bool.not_or, Bool.and_comm]
    congr 1
  rw [e1]
  exact h1
section
variable {P : Program} {N n : Nat} {ds : List Deferred} {env : Env} {w W0 : World} {L : List HProp} {Q : Exit → List Deferred → Env → World → Prop}
theorem On.putPts {b : Nat} {o : Obj} (o' : Obj) (H : On W0 (pts b o :: L) w) : On W0 (pts b o' :: L) (w.putObj b o') := by
  have hb := H.block 0 rfl
  have hlt : b < w.heap.size := (Array.getElem?_eq_some_iff.1 hb).1
  refine H.set (w' := w.putObj b o') 0 rfl rfl rfl rfl (by simp [World.putObj]) ?_ ?_
  · simp [World.putObj, hlt]
  · intro k hk
    simp [World.putObj, Ne.symm hk]
/-- The slots that a round's values come into. -/
def putps (env : Env) : List (Nat × Value) → Env
  | [] => env
  | (p, v) :: l => putps (upd env p v) l
theorem RelD.putps : ∀ {l : List (Nat × Value)} {a : Act} {env : Env}, RelD N ds a env → (∀ p ∈ l, Nat.ble (p.1 + 1) N = true) → RelD N ds { a with tmps := l.foldl (fun t (x : Nat × Value) => t.setIfInBounds x.1 x.2) a.tmps } (putps env l)
  | [], a, env, r, _ => r
  | (p, v) :: l, a, env, r, h => by
    have r1 := r.put (h (p, v) (List.mem_cons_self ..)) v
    exact RelD.putps (l := l) (a := a.put (some p) v) r1 (fun q hq => h q (List.mem_cons_of_mem _ hq))
abbrev markD (D : Nat) : Deferred := { target := .collected D, args := #[] }
abbrev openD (D : Nat) : HProp := pts D (.deferred (some []))
/-- A range over a function. -/
theorem WF.rangeFunc {α : Type} {g : Operand} {ps : List Nat} {assign body : Code} {gf : FuncId} {caps : Array Value} (encs : α → List Value)
    (hg : evo env g = .func (.func gf) #[] caps) (hen : ∀ args w, (callFunc gf args).run P w = .ok (.enter gf args) w)
    (Y0 : List α → HProp) (S : List α → Prop) (Bd : List α → α → Prop) (env1 : Env → α → Env) (hps : ∀ x, (encs x).length = ps.length) (hpn : ∀ p ∈ ps, Nat.ble (p + 1) N = true)
    (hassign : ∀ l x w, WF (some l) (n - 1 - 1) P N assign (fun e ds' env' w' => e = .normal ∧ ds' = [] ∧ env' = env1 env x ∧ w' = w) [] (putps env (ps.zip (encs x))) w)
    (hbody : ∀ l pre x A w, Bd pre x → On W0 (Y0 pre :: A) w → WF (some l) (n - 1 - 1) P N body (fun e ds' env' w' => e = .normal ∧ On W0 (Y0 (pre ++ [x]) :: A) w') [] (env1 env x) w)
    (hseq : ∀ l (Y : List α → HProp) w, (∀ pre x A w, Bd pre x → On W0 (Y pre :: A) w → YieldAt (FR none) (n - 1 - 1) P l (encs x).toArray w (Ret fun v w' => v = .bool true ∧ On W0 (Y (pre ++ [x]) :: A) w')) →
      On W0 (Y [] :: L) w → CallsIn (FR none) (n - 1) P gf (#[.func (.yield l) #[] #[]] ++ caps) w (Ret fun v w' => ∃ ss, S ss ∧ On W0 (Y ss :: L) w'))
    (H : On W0 (Y0 [] :: L) w) (k : ∀ D ss w', S ss → On W0 (Y0 ss :: openD D :: L) w' → Q .normal (markD D :: ds) env w') :
    WF none n P N (.rangeFunc g ps.toArray assign body) Q ds env w := fun a r => by
  refine wpIn_rangeFunc ?_
  intro fn hfn
  obtain ⟨D, hD⟩ : ∃ D, D = w.heap.size := ⟨_, rfl⟩
  obtain ⟨rec, hrec⟩ : ∃ rec : LoopState → Loop, rec = fun st => { state := st, pending := none, fn, tmps := a.tmps, params := ps.toArray, assign, body, defers := D } := ⟨_, rfl⟩
  obtain ⟨W1, hW1⟩ : ∃ W1, W1 = (w.alloc (.deferred (some []))).alloc (.loop (rec .ready)) := ⟨_, rfl⟩
  have h1 := (H.alloc (.deferred (some []))).alloc (.loop (rec .ready))
  rw [← hD, ← hW1] at h1
  have hsz : (w.alloc (.deferred (some []))).heap.size = D + 1 := by rw [hD]; simp
  rw [hsz] at h1
  obtain ⟨Y, hYd⟩ : ∃ Y : List α → HProp, Y = fun pre => Pack True [Y0 pre, pts (D + 1) (.loop (rec .ready)), openD D] := ⟨_, rfl⟩
  have hYp : ∀ pre, Y pre = Pack True [Y0 pre, pts (D + 1) (.loop (rec .ready)), openD D] := fun pre => by rw [hYd]
  clear hYd
  have hround : ∀ pre x A w, Bd pre x → On W0 (Y pre :: A) w → YieldAt (FR none) (n - 1 - 1) P (D + 1) (encs x).toArray w (Ret fun v w' => v = .bool true ∧ On W0 (Y (pre ++ [x]) :: A) w') := by
    intro pre x A w hbd hY
    rw [hYp] at hY
    obtain ⟨_, hY⟩ := hY.unpack
    have hY : On W0 (Y0 pre :: pts (D + 1) (.loop (rec .ready)) :: openD D :: A) w := hY
    have hl : w.heap[D + 1]? = some (.loop (rec .ready)) := hY.block 1 rfl
    have hy := run_yield (P := P) (args := (encs x).toArray) hl (by rw [hrec]; simp [hps x])
    refine ⟨_, _, _, _, hy, roundIn_of_wpIn trivial ?_⟩
    have rr : RelD N [] { tmps := (((rec .ready).params.zip (encs x).toArray).foldl (fun tmps (t, a) => tmps.setIfInBounds t a) (rec .ready).tmps), defers := [] } (putps env (ps.zip (encs x))) := by
      have r0 : RelD N [] { tmps := a.tmps, defers := [] } env := ⟨r.size, r.get, rfl⟩
      have := r0.putps (l := ps.zip (encs x)) (fun p hp => hpn p.1 (List.of_mem_zip hp).1)
      rw [hrec]
      simpa using this
    have ea : (rec .ready).assign = assign := by rw [hrec]
    have eb : (rec .ready).body = body := by rw [hrec]
    rw [ea, eb]
    refine wpIn_mono (hassign (D + 1) x w _ rr) ?_
    rintro e a1 w1 ⟨ds1, env1', r1, rfl, rfl, rfl, rfl⟩
    have hb := run_beginRound (P := P) hl (by rw [hrec])
    refine ⟨_, hb, ?_⟩
    have h2 : On W0 (pts (D + 1) (.loop { rec .ready with state := .busy }) :: Y0 pre :: openD D :: A) (w1.putObj (D + 1) (.loop { rec .ready with state := .busy })) := On.putPts _ hY.p1
    refine wpIn_mono (hbody (D + 1) pre x _ _ hbd h2.p1 a1 r1) ?_
    rintro e a2 w2 ⟨ds2, env2, r2, rfl, h3⟩
    have hl3 := h3.block 1 rfl
    have he := run_endRound (P := P) none hl3
    refine ⟨_, _, he, _, rfl, rfl, ?_⟩
    rw [hYp]
    refine On.pack trivial ?_
    have h4 := On.putPts (.loop { { rec .ready with state := .busy } with state := if (none : Option Code).isNone then .ready else .done, pending := none }) h3.p1
    have e4 : ({ { rec .ready with state := .busy } with state := if (none : Option Code).isNone then .ready else .done, pending := none } : Loop) = rec .ready := by rw [hrec]; rfl
    rw [e4] at h4 ⊢
    exact h4.p1
  have h2 : On W0 (Y [] :: L) W1   := by
    rw [hYp]
    refine On.pack trivial ?_
    have h3 : On W0 (pts (D + 1) (.loop (rec .ready)) :: openD D :: Y0 [] :: L) _ := h1
    exact h3.p2
  have hcall := hseq (D + 1) Y W1 hround h2
  have hen1 : (Instr.enterLoop fn a.tmps ps.toArray assign body none).run P w = .ok (D + 1, [markD D]) W1 := by
    rw [hW1, hrec, hD]; exact run_enterLoop_outer _ _ _ _ _
  have hres : (resolve a.eval (rangeCall g (D + 1)) 0).run P W1 = .ok { target := .fn (.func gf) caps, args := #[.func (.yield (D + 1)) #[] #[]] } W1 := by
    have hge : a.eval g = .func (.func gf) #[] caps := by rw [r.eval]; exact hg
    simp only [resolve, hge]
    simp [go_sem]
  have hinv : (invoke (.fn (.func gf) caps) #[.func (.yield (D + 1)) #[] #[]]).run P W1 = .ok (.enter gf (#[.func (.yield (D + 1)) #[] #[]] ++ caps)) W1 := by
    simp [invoke, go_sem, hen]
  have hpost : ∀ (e : Ending) (w2 : World), Ret (fun v w' => ∃ ss, S ss ∧ On W0 (Y ss :: L) w') e w2 → rangePost (FR none) n P (D + 1) (liftQD N Q) { a with defers := [markD D] ++ a.defers } e w2 := by
    rintro e w2 ⟨v, rfl, ss, hS, h3⟩
    rw [hYp] at h3
    obtain ⟨_, h3⟩ := h3.unpack
    have h3 : On W0 (Y0 ss :: pts (D + 1) (.loop (rec .ready)) :: openD D :: L) w2 := h3
    have hl := h3.block 1 rfl
    have hp0 : (rec .ready).pending = none := by rw [hrec]
    have he : (Instr.endLoop (D + 1)).run P w2 = .ok none (w2.putObj (D + 1) (.loop { rec .ready with state := .exhausted })) := by
      have := run_endLoop (P := P) hl (by rw [hrec]; simp)
      rw [this]
      exact congrArg (fun q => Result.ok q _) hp0
    have h4 := On.putPts (.loop { rec .ready with state := .exhausted }) h3.p1
    refine ⟨none, _, he, markD D :: ds, env, ⟨r.size, r.get, by rw [← r.defers]; rfl⟩, k D ss _ hS h4.tail⟩
  exact ⟨D + 1, [markD D], W1, _, W1, gf, _, W1, hen1, hres, fun _ _ => trivial, hinv, fun h => (by cases h), CallsIn.mono hcall hpost⟩
theorem relD_enter {fn : Func} {args : List Value} (hn : fn.ntmps = N) (hl : Nat.ble args.length N = true) : RelD N [] { tmps := args.toArray ++ Array.replicate (fn.ntmps - args.toArray.size) undef, defers := [] } (nthV args) := by
  have hle : args.length ≤ N := Nat.le_of_ble_eq_true hl
  refine ⟨?_, fun t => ?_, rfl⟩
  · simp [hn]; omega
  · have nth : ∀ (l : List Value) (t : Nat), nthV l t = l.getD t undef := by
      intro l
      induction l with
      | nil => intro t; simp [nthV]
      | cons v l ih => intro t; cases t with
        | zero => simp [nthV]
        | succ t => simp [nthV, ih]
    rw [nth]
    simp only [Array.getD_eq_getD_getElem?, List.getD_eq_getElem?_getD]
    rw [Array.getElem?_append]
    split
    · simp
    · rename_i hge
      simp at hge
      rw [List.getElem?_eq_none hge, Array.getElem?_replicate]
      split <;> rfl
@[reducible] def bodyF (P : Program) (fn : Func) (R : Value → World → Prop) : Exit → List Deferred → Env → World → Prop := fun e ds env w => ds = [] ∧ bodyQ P fn R e env w
/-- A function that ends with the mark of a loop over a function. -/
@[reducible] def bodyM (P : Program) (fn : Func) (R : Value → World → Prop) : Exit → List Deferred → Env → World → Prop
  | .ret, ds, env, w => ∃ D, ds = [markD D] ∧ w.heap[D]? = some (.deferred (some [])) ∧ bodyQ P fn R .ret env (w.putObj D (.deferred none))
  | _, _, _, _ => False
theorem enterF {f : FuncId} {fn : Func} {c : Code} {args : List Value} {R : Value → World → Prop} (hf : P.funcs[f]? = some fn) (hb : fn.body = some c) (hn : fn.ntmps = N) (hl : Nat.ble args.length N = true)
    (h : WF none n P N c (bodyF P fn R) [] (nthV args) w) : CallsIn (FR none) n P f args.toArray w (Ret R) := by
  refine callsIn_of_wp hf hb trivial ?_
  refine wpIn_mono (h _ (relD_enter hn hl)) ?_
  rintro e a' w' ⟨ds', env', r', rfl, q⟩
  cases e with
  | normal => obtain ⟨v, hv, hR⟩ := q; exact ⟨r'.defers, v, hv a'.tmps r'.get, v, rfl, hR⟩
  | ret => obtain ⟨v, hv, hR⟩ := q; exact ⟨r'.defers, v, hv a'.tmps r'.get, v, rfl, hR⟩
  | exit _ => exact q.elim
  | goto _ => exact q.elim
  | panic _ => exact q.elim
  | outgrown => exact q.elim
theorem enterM {f : FuncId} {fn : Func} {c : Code} {args : List Value} {R : Value → World → Prop} (hf : P.funcs[f]? = some fn) (hb : fn.body = some c) (hn : fn.ntmps = N) (hl : Nat.ble args.length N = true)
    (h : WF none n P N c (bodyM P fn R) [] (nthV args) w) : CallsIn (FR none) n P f args.toArray w (Ret R) := by
  refine callsIn_of_wp_marks hf hb trivial ?_
  refine wpIn_mono (h _ (relD_enter hn hl)) ?_
  rintro e a' w' ⟨ds', env', r', q⟩
  cases e with
  | ret =>
    obtain ⟨D, rfl, hD, v, hv, hR⟩ := q
    show LeavesInM _ _ _ _ _ _ a'.defers _ _
    rw [r'.defers]
    exact ⟨(by simp), .inl ⟨D, _, rfl, run_takeDeferred hD, v, hv a'.tmps r'.get, v, rfl, hR⟩⟩
  | normal => exact q.elim
  | exit _ => exact q.elim
  | goto _ => exact q.elim
  | panic _ => exact q.elim
  | outgrown => exact q.elim
end
end Go.Sl
/-
  A unit: keys of maps, sorted: the contracts. Lines of walks printed by a program of the prover's.
-/
namespace Go.Proofs.YtjbgiingimhnnaaGreat
open Go.Proofs.Tryz
open Go Go.Sl Go.Sl.BitM Go.Sl.SpM Go.Sl.RsM Go.Sl.ByM Go.Sl.UnM
set_option linter.unusedVariables false
set_option linter.unusedSimpArgs false
set_option maxHeartbeats 1000000
set_option maxRecDepth 8000
variable {W0 w : World} {L F : List HProp}
theorem keysU_ok {mb ck : Nat} {kvs : List KV} (h : On W0 (MapC mb .u64 kvs ck :: L) w) : Calls Tryz.prog 103 #[.map (some mb)] w (Ret fun v w' => ∃ bb, v = .func (.func 138) #[] #[.pointer (some ⟨bb, 0, none⟩)] ∧ On W0 (blk bb [.map (some mb)] 63 :: MapC mb .u64 kvs ck :: L) w') := by
  refine enter func103 rfl ntmps103 rfl (W.seq (W.region (WL.eff (eff_box (v := .map (some mb)) (l := [.map (some mb)]) h rfl rfl) rfl rfl ?_)))
  rintro _ w ⟨b1, rfl, h⟩
  refine WL.val run_assign rfl rfl (WL.nil (W.seq (W.region (WL.val run_makeFunc rfl rfl (WL.val run_assign rfl rfl (WL.nil (W.ret ?_)))))))
  refine bodyQ.r1  results103 rfl ?_
  exact ⟨b1, rfl, h⟩
theorem keys1_ok {n l bb mb ck : Nat} {kvs : List KV} {Y : List Int → HProp} (hY : ∀ pre x A w, pre.length < kvs.length → On W0 (Y pre :: A) w → YieldAt (FR none) (n - 1) Tryz.prog l [.int .u64 x].toArray w (Ret fun v w' => v = .bool true ∧ On W0 (Y (pre ++ [x]) :: A) w')) (h : On W0 (Y [] :: blk bb [.map (some mb)] 63 :: MapC mb .u64 kvs ck :: L) w) : CallsIn (FR none) n Tryz.prog 138 [.func (.yield l) #[] #[], .pointer (some ⟨bb, 0, none⟩)].toArray w (Ret fun v w' => ∃ ss, ss.Perm (kvs.map (·.1)) ∧ On W0 (Y ss :: blk bb [.map (some mb)] 63 :: MapC mb .u64 kvs ck :: L) w') := by
  refine enterF func138 rfl ntmps138 rfl (WF.seq (WF.region (WLF.val (run_load1 isAgg63 rfl (h.cellB rfl)) rfl rfl rfl (WLF.eff (eff_range (h.fetch (MapC mb .u64 kvs ck)) underlying63 rfl) rfl rfl rfl ?_))))
  rintro _ w ⟨rr, rfl, h⟩
  have hfit := (On.mapC (h.fetch (MapC mb .u64 kvs ck))).1
  refine WLF.nil (WF.block ?_)
  refine WF.loop (fun (seen : Array Nat) env w => ∃ (j : Env) (ss : List Int), env = mkE j [(0, .func (.yield l) #[] #[]), (5, .pointer (some ⟨rr, 0, none⟩))] ∧ (ss ++ (remM kvs seen).map (·.1)).Perm (kvs.map (·.1)) ∧ On W0 (IterC rr mb seen ck :: MapC mb .u64 kvs ck :: Y ss :: blk bb [.map (some mb)] 63 :: L) w) (fun seen => (remM kvs seen).length) (#[]) ?_ ?_
  · have e0 : remM kvs #[] = kvs := List.filter_eq_self.2 (by simp)
    exact ⟨_, [], mkE_of ⟨rfl, rfl, trivial⟩, by rw [e0]; exact List.Perm.refl _, h.to⟩
  rintro seen env w ⟨j, ss, rfl, hp, h⟩
  refine WF.seq (WF.region (WLF.eff (eff_next (h.fetch (IterC rr mb seen ck)) rfl) rfl rfl rfl ?_))
  rintro _ w h0
  rcases h0 with ⟨hnil, rfl, h⟩ | ⟨e1, hin, rfl, h⟩
  rotate_left
  ·
   refine WLF.val (run_extract rfl rfl) rfl rfl rfl (WLF.nil (WF.seq (WF.condT rfl (WF.skip (WF.block (WF.seq ?_))))))
   have hrp := remM_perm hfit.2.1 hin
   have hlt : ss.length < kvs.length := by
     have h1 := hp.length_eq
     have h2 := hrp.length_eq
     simp only [List.length_append, List.length_map, List.length_cons] at h1 h2
     omega
   have hp2 : ((ss ++ [e1.1]) ++ (remM kvs (seen.push e1.2.2)).map (·.1)).Perm (kvs.map (·.1)) := by
     rw [List.append_assoc]
     exact ((hrp.map (·.1)).symm.append_left ss).trans hp
   refine WF.region (WLF.val (run_entryM h (rem_inM hin) rfl) rfl rfl rfl (WLF.val (run_extract rfl rfl) rfl rfl rfl (WLF.val run_assign rfl rfl rfl (WLF.nil (WF.seq (WF.region (WLF.val run_move rfl rfl rfl ?_)))))))
   refine WLF.val run_move rfl rfl rfl (WLF.yield (args := [_]) (y := .const undef) rfl rfl rfl rfl (hY ss e1.1 _ _ hlt (h.fetch (Y ss))) ?_)
   rintro _ w ⟨rfl, h⟩
   refine WLF.val (run_not rfl) rfl rfl rfl (WLF.nil (WF.condF rfl (WF.skip ?_)))
   refine ⟨rfl, ?_⟩
   exact ⟨seen.push e1.2.2, ⟨_, ss ++ [e1.1], mkE_of ⟨rfl, rfl, trivial⟩, hp2, h.to⟩, remM_less hin⟩
  refine WLF.val (run_extract rfl rfl) rfl rfl rfl (WLF.nil (WF.seq (WF.condF rfl (WF.exit ?_))))
  refine ⟨rfl, ?_⟩
  refine bodyQ.fall (bodyQ.r0 results138 ?_)
  rw [hnil, List.map_nil, List.append_nil] at hp
  exact ⟨ss, hp, h.to⟩
theorem appendSeqU_ok {g : FuncId} {caps : Array Value} {S : List Int → Prop} (hen : ∀ args w, (callFunc g args).run Tryz.prog w = .ok (.enter g args) w)
    (hseq : ∀ l (Y : List Int → HProp) w, (∀ pre x A w, pre.length < 1000000 → On W0 (Y pre :: A) w → YieldAt (FR none) (3 - 1 - 1) Tryz.prog l [.int .u64 x].toArray w (Ret fun v w' => v = .bool true ∧ On W0 (Y (pre ++ [x]) :: A) w')) → On W0 (Y [] :: L) w → CallsIn (FR none) (3 - 1) Tryz.prog g (#[.func (.yield l) #[] #[]] ++ caps) w (Ret fun v w' => ∃ ss, S ss ∧ On W0 (Y ss :: L) w'))
    (h : On W0 L w) : Calls Tryz.prog 146 #[.slice none 0 0, .func (.func g) #[] caps] w (Ret fun v w' => ∃ a c ss, S ss ∧ v = .slice a ss.length c ∧ On W0 (Own 1 (.slice a ss.length c) ss.length (ss.map (Value.int .u64)) :: L) w') := by
  have hmx := maxLen_eq
  refine callsOf (n := 3) ?_
  refine enterM func146 rfl ntmps146 rfl ?_
  refine WF.seq ?_
  refine WF.region ?_
  refine WLF.eff (eff_box (v := .slice none 0 0) (l := [.slice none 0 0]) h rfl rfl) rfl rfl rfl ?_
  rintro _ w ⟨b2, rfl, h⟩
  refine WLF.val run_assign rfl rfl rfl ?_
  refine WLF.nil ?_
  refine WF.seq ?_
  refine WF.seq ?_
  refine WF.region ?_
  refine WLF.val run_move rfl rfl rfl ?_
  refine WLF.nil ?_
  refine WF.block ?_
  refine WF.rangeFunc (α := Int) (ps := [7]) (fun x => [.int .u64 x]) rfl hen (fun pre : List Int => Ex fun (p : Option Addr × Nat) => Pack (pre.length ≤ 1000000) [blk b2 [.slice p.1 pre.length p.2] 129, Own 1 (.slice p.1 pre.length p.2) pre.length (pre.map (Value.int .u64))]) S (fun pre _ => pre.length < 1000000) (fun env x => upd (upd env 7 (.int .u64 x)) 5 (.int .u64 x)) (fun _ => rfl) (by decide) ?_ ?_ hseq ?_ ?_
  · intro l x w
    refine WF.region ?_
    refine WLF.val run_assign rfl rfl rfl ?_
    refine WLF.nil ?_
    exact ⟨rfl, rfl, rfl, rfl⟩
  · intro l pre x A w hbd h
    obtain ⟨⟨a, c⟩, h⟩ := h.ex
    obtain ⟨hpl, h⟩ := h.unpack
    have h : On W0 (blk b2 [.slice a pre.length c] 129 :: Own 1 (.slice a pre.length c) pre.length (pre.map (Value.int .u64)) :: A) w := h
    refine WF.block ?_
    refine WF.region ?_
    refine WLF.val (run_load1 isAgg129 rfl (h.cellB rfl)) rfl rfl rfl ?_
    refine WLF.val run_move rfl rfl rfl ?_
    refine WLF.eff (eff_mkSlice (zl := [.int .u64 0]) (out := [.int .u64 _]) h underlying129 sizeOf23 zeroValue23 (by decide) (by kernel_rfl) rfl rfl (by simp) (⟨⟨_, _, rfl, rfl, by decide⟩, trivial⟩) rfl rfl (by simp [maxLen])) rfl rfl rfl ?_
    rintro _ w ⟨b10, rfl, h⟩
    refine WLF.eff (eff_app (c2 := 1) (bytes := 8) h rfl rfl (h.cellsO (v := .slice (some ⟨b10, 0, none⟩) 1 1)) underlying129 rfl rfl rfl rfl rfl (by omega) (by omega) (by simp [Value.oneCell'])) rfl rfl rfl ?_
    rintro _ w ⟨a11, c11, rfl, h⟩
    refine WLF.eff (eff_store (v := .slice a11 (pre.length + 1) c11) h sizeOf129 rfl rfl rfl rfl rfl) rfl rfl rfl ?_
    rintro _ w h
    try simp only [Nat.zero_add, Nat.add_zero, List.set_cons_zero, List.set_cons_succ] at h
    refine WLF.nil ?_
    refine ⟨rfl, On.exI (a11, c11) ?_⟩
    have el : (pre ++ [x]).length = pre.length + 1 := by rw [List.length_append]; rfl
    have em : (pre ++ [x]).map (Value.int .u64) = pre.map (Value.int .u64) ++ [.int .u64 x] := by rw [List.map_append]; rfl
    refine On.pack (by rw [el]; omega) ?_
    show On W0 (blk b2 [.slice a11 (pre ++ [x]).length c11] 129 :: Own 1 (.slice a11 (pre ++ [x]).length c11) (pre ++ [x]).length ((pre ++ [x]).map (Value.int .u64)) :: A) w
    rw [el, em]
    have h : On W0 (Own 1 (.slice a11 (pre.length + 1) c11) (pre.length + 1) (pre.map (Value.int .u64) ++ [.int .u64 x]) :: _) w := h.own (.slice a11 (pre.length + 1) c11)
    exact h.to
  · refine On.exI (none, 0) (On.pack (by decide) ?_)
    have h := h.ownEmpty 1 none
    have h : On W0 (blk b2 [.slice none 0 0] 129 :: Own 1 (.slice none 0 0) 0 [] :: L) w := h.to
    exact h
  · intro D ss w hS h
    obtain ⟨⟨a, c⟩, h⟩ := h.ex
    obtain ⟨hpl, h⟩ := h.unpack
    have h : On W0 (blk b2 [.slice a ss.length c] 129 :: Own 1 (.slice a ss.length c) ss.length (ss.map (Value.int .u64)) :: openD D :: L) w := h
    refine WF.seq ?_
    refine WF.region ?_
    refine WLF.val (run_load1 isAgg129 rfl (h.cellB rfl)) rfl rfl rfl ?_
    refine WLF.val run_assign rfl rfl rfl ?_
    refine WLF.nil ?_
    refine WF.ret ?_
    have h2 := On.putPts (.deferred none) h.p2
    exact ⟨D, rfl, h.block 2 rfl, bodyQ.r1 (v := .slice a ss.length c) results146 rfl ⟨a, c, ss, hS, rfl, h2.tail.tail⟩⟩
theorem collectU_ok {bb mb ck : Nat} {kvs : List KV} (hkl : kvs.length ≤ 1000000) (h : On W0 (blk bb [.map (some mb)] 63 :: MapC mb .u64 kvs ck :: L) w) : Calls Tryz.prog 136 #[.func (.func 138) #[] #[.pointer (some ⟨bb, 0, none⟩)]] w (Ret fun v w' => ∃ a c, ∃ ss : List Int, ss.Perm (kvs.map (·.1)) ∧ v = .slice a ss.length c ∧ On W0 (Own 1 (.slice a ss.length c) ss.length (ss.map (Value.int .u64)) :: blk bb [.map (some mb)] 63 :: MapC mb .u64 kvs ck :: L) w') := by
  refine enter func136 rfl ntmps136 rfl (W.seq (W.region (WL.val run_assign rfl rfl (WL.nil (W.seq (W.region (WL.val run_move rfl rfl ?_)))))))
  refine WL.eff (eff_call call146 (appendSeqU_ok (S := (fun ss => ss.Perm (kvs.map (·.1)))) call138 (fun l Y w hY h => keys1_ok (n := 3 - 1) (Y := Y) (fun pre x A w hlt => hY pre x A w (by omega)) h) h)) rfl rfl ?_
  rintro _ w ⟨a, c, ss, hS, rfl, h⟩
  refine WL.val run_assign rfl rfl (WL.nil (W.ret (bodyQ.r1 (v := .slice _ _ _) results136 rfl ?_)))
  exact ⟨a, c, ss, hS, rfl, h⟩
theorem len64_ok {x : Nat} (hx : x ≤ 1) (h : On W0 L w) : Calls Tryz.prog 161 #[.int .u64 (x : Int)] w (Ret fun v w' => (∃ z : Int, v = .int .i64 z) ∧ On W0 L w') := by
  refine enter func161 rfl ntmps161 rfl ?_
  have key : ∀ s : ByteArray, 2 ≤ s.size → ∃ c, s[(UInt8.ofNat x).toNat]? = some c := fun s hs => by
    have h1 : (UInt8.ofNat x).toNat < s.size := by
      have : (UInt8.ofNat x).toNat = x := by rw [UInt8.toNat_ofNat']; omega
      omega
    exact ⟨s[(UInt8.ofNat x).toNat], getElem?_pos s _ h1⟩
  refine W.seq (W.region (WL.val run_assign rfl rfl (WL.nil (W.seq (W.seq (W.region (WL.val run_move rfl rfl ?_)))))))
  refine WL.val (run_geqF rfl rfl (by omega)) rfl rfl (WL.nil (W.condF rfl (W.skip (W.seq (W.seq (W.region (WL.val run_move rfl rfl ?_)))))))
  refine WL.val (run_geqF rfl rfl (by omega)) rfl rfl (WL.nil (W.condF rfl (W.skip (W.seq (W.seq (W.region (WL.val run_move rfl rfl ?_)))))))
  refine WL.val (run_geqF rfl rfl (by omega)) rfl rfl (WL.nil (W.condF rfl (W.skip (W.seq (W.region (WL.val run_move rfl rfl (WL.val run_move rfl rfl ?_)))))))
  refine WL.val (run_convByte underlying23 underlying5 rfl) rfl rfl (WL.val (run_indexStr underlying9 rfl rfl (key _ (by decide)).choose_spec) rfl rfl (WL.val (run_convInt underlying5 underlying3 rfl) rfl rfl (WL.val (run_addW rfl rfl) rfl rfl (WL.val run_assign rfl rfl (WL.nil (W.ret (bodyQ.r1 (v := .int .i64 _) results161 rfl ?_)))))))
  exact ⟨⟨_, rfl⟩, h⟩
theorem blen_ok {x : Nat} (hx : x ≤ 1) (h : On W0 L w) : Calls Tryz.prog 148 #[.int .u64 (x : Int)] w (Ret fun v w' => (∃ z : Int, v = .int .i64 z) ∧ On W0 L w') := by
  refine enter func148 rfl ntmps148 rfl (W.seq (W.region (WL.val run_assign rfl rfl (WL.nil (W.seq (W.condF rfl (W.skip ?_)))))))
  refine W.seq (W.region (WL.val run_move rfl rfl (WL.eff (eff_call call161 (len64_ok hx h)) rfl rfl ?_)))
  rintro _ w ⟨⟨z, rfl⟩, h⟩
  refine WL.val run_assign rfl rfl (WL.nil (W.ret (bodyQ.r1 (v := .int .i64 _) results148 rfl ?_)))
  exact ⟨⟨z, rfl⟩, h⟩
theorem insU_ok {a : Option Addr} {n c : Nat} (hn : n ≤ 1) (h : On W0 L w) : Calls Tryz.prog 151 #[.slice a n c, .int .i64 0, .int .i64 (n : Int)] w (Ret fun v w' => On W0 L w') := by
  refine enter func151 rfl ntmps151 rfl (W.seq (W.region (WL.val run_move rfl rfl (WL.val (run_add rfl rfl (by omega) (by omega)) rfl rfl (WL.val run_assign rfl rfl (WL.nil (W.block ?_)))))))
  refine W.loop (fun (k : Nat) env w => ∃ j, env = mkE j [(2, .int .i64 (n : Int)), (6, .int .i64 1)] ∧ On W0 L w) (fun k => 1 - k) (0) ?_ ?_
  · exact ⟨_, mkE_of ⟨rfl, rfl, trivial⟩, h⟩
  rintro k env w ⟨j, rfl, h⟩
  refine W.seq (W.seq (W.region (WL.val run_move rfl rfl (WL.val run_move rfl rfl (WL.val (run_lssF rfl rfl (by omega)) rfl rfl (WL.nil (W.condF rfl ?_)))))))
  refine W.exit (bodyQ.fall (bodyQ.r0 results151 ?_))
  exact h
theorem pdqU_ok {a : Option Addr} {n c : Nat} {lim : Int} (hn : n ≤ 1) (h : On W0 L w) : Calls Tryz.prog 147 #[.slice a n c, .int .i64 0, .int .i64 (n : Int), .int .i64 lim] w (Ret fun v w' => On W0 L w') := by
  refine enter func147 rfl ntmps147 rfl (W.seq (W.region (WL.val run_assign rfl rfl (WL.nil (W.seq (W.region (WL.val run_assign rfl rfl ?_)))))))
  refine WL.nil (W.block ?_)
  refine W.loop (fun (k : Nat) env w => ∃ j, env = mkE j [(0, .slice a n c), (1, .int .i64 0), (2, .int .i64 (n : Int))] ∧ On W0 L w) (fun k => 1 - k) (0) ?_ ?_
  · exact ⟨_, mkE_of ⟨rfl, rfl, rfl, trivial⟩, h⟩
  rintro k env w ⟨j, rfl, h⟩
  refine W.block (W.seq (W.region (WL.val run_move rfl rfl (WL.val run_move rfl rfl (WL.val (run_sub rfl rfl (by omega) (by omega)) rfl rfl (WL.val run_assign rfl rfl (WL.nil ?_)))))))
  refine W.seq (W.seq (W.region (WL.val run_move rfl rfl (WL.val (run_leqT rfl rfl (by omega)) rfl rfl (WL.nil (W.condT rfl (W.seq ?_)))))))
  refine W.region (WL.val run_move rfl rfl (WL.val run_move rfl rfl (WL.val run_move rfl rfl (WL.eff (eff_call call151 (insU_ok hn h)) rfl rfl ?_))))
  rintro _ w h
  refine WL.nil (W.ret (bodyQ.r0 results147 ?_))
  exact h
theorem sortU_ok {a : Option Addr} {n c : Nat} (hn : n ≤ 1) (h : On W0 L w) : Calls Tryz.prog 137 #[.slice a n c] w (Ret fun v w' => On W0 L w') := by
  refine enter func137 rfl ntmps137 rfl (W.seq (W.region (WL.val run_move rfl rfl (WL.val (run_lenSlice underlying129 rfl) rfl rfl (WL.val run_assign rfl rfl (WL.nil (W.region ?_)))))))
  refine WL.val run_move rfl rfl (WL.val run_move rfl rfl (WL.val run_move rfl rfl (WL.val (run_convIn underlying3 underlying154 rfl (by show (0 : Int) ≤ _; omega) (by show _ ≤ (18446744073709551615 : Int); omega)) rfl rfl (WL.eff (eff_call call148 (blen_ok (x := n) hn h)) rfl rfl ?_))))
  rintro _ w ⟨⟨z, rfl⟩, h⟩
  refine WL.eff (eff_call call147 (pdqU_ok hn h)) rfl rfl ?_
  rintro _ w h
  refine WL.nil (bodyQ.fall (bodyQ.r0 results137 ?_))
  exact h
theorem sortedU_ok {bb mb ck : Nat} {kvs : List KV} (hkl : kvs.length ≤ 1) (h : On W0 (blk bb [.map (some mb)] 63 :: MapC mb .u64 kvs ck :: L) w) : Calls Tryz.prog 102 #[.func (.func 138) #[] #[.pointer (some ⟨bb, 0, none⟩)]] w (Ret fun v w' => ∃ a c, ∃ ss : List Int, ss.Perm (kvs.map (·.1)) ∧ v = .slice a ss.length c ∧ On W0 (Own 1 (.slice a ss.length c) ss.length (ss.map (Value.int .u64)) :: blk bb [.map (some mb)] 63 :: MapC mb .u64 kvs ck :: L) w') := by
  refine enter func102 rfl ntmps102 rfl (W.seq (W.region (WL.val run_assign rfl rfl (WL.nil (W.seq (W.region (WL.val run_move rfl rfl ?_)))))))
  refine WL.eff (eff_call call136 (collectU_ok (by omega) h)) rfl rfl ?_
  rintro _ w ⟨a, c, ss, hS, rfl, h⟩
  have hsl : ss.length ≤ 1 := by rw [hS.length_eq, List.length_map]; exact hkl
  refine WL.val run_assign rfl rfl (WL.nil (W.seq (W.region (WL.val run_move rfl rfl (WL.eff (eff_call call137 (sortU_ok hsl h)) rfl rfl ?_)))))
  rintro _ w h
  refine WL.nil (W.seq (W.region (WL.val run_move rfl rfl (WL.val run_assign rfl rfl (WL.nil (W.ret (bodyQ.r1 (v := .slice _ _ _) results102 rfl ?_)))))))
  exact ⟨a, c, ss, hS, rfl, h⟩
end Go.Proofs.YtjbgiingimhnnaaGreat
/-
  A number by its bytes; the blocks by theirs; blocks written at once and one by one. No program is named here.
-/
namespace Go.Sl.SpM
open Go Go.Sl Go.Sl.BitM
set_option linter.unusedVariables false
def putK (v n k : Nat) : List UInt8 := (List.range k).map fun (q : Nat) => UInt8.ofNat (v / 2 ^ (8 * (n - 1 - q)))
theorem putK_length (v n k : Nat) : (putK v n k).length = k := by simp [putK]
theorem putK_succ (v n k : Nat) : putK v n (k + 1) = putK v n k ++ [UInt8.ofNat (v / 2 ^ (8 * (n - 1 - k)))] := by simp [putK, List.range_succ]
/-- Bits of places that are. -/
def capS (s : Sp) : Prop := ∀ j, bit s.m j = true → j < s.N
theorem cap_new {n : Nat} : capS (newS n) := fun j h => by
  have h2 : bit (List.replicate ((n + 7) / 8) 0) j = true := h
  rw [bit_zero] at h2; cases h2
theorem cap_write {s : Sp} {p : Nat} {bs : List UInt8} (hw : wfS s) (h : capS s) (hb : p + bs.length / 8 ≤ s.N) : capS (writeS s p bs) := fun j hj => by
  have hj2 : bit (turned s.m p ((bs.length / 8 : Nat) : Int) true) j = true := hj
  obtain ⟨h1, h2, h3, h4⟩ := hw
  rw [turned_bit (by omega)] at hj2
  split at hj2
  · show j < s.N; omega
  · exact h j hj2
theorem rows_cap {s : Sp} {R : List (Nat × Nat)} (h : capS s) (hR : BitM.Rows s.m R) {r : Nat × Nat} (hr : r ∈ R) : r.1 + r.2 ≤ s.N := by
  have hp := (hR.pos r hr).1
  have := h (r.1 + r.2 - 1) ((hR.cover _).2 ⟨r, hr, by omega, by omega⟩)
  omega
def encK (s : Sp) (k : Nat) : List UInt8 := putK s.N 2 2 ++ s.m ++ ((rowsOf s.m).take k).flatMap fun r => partS s r.1 r.2
def encS (s : Sp) : List UInt8 := encK s (rowsOf s.m).length
theorem encK_succ {s : Sp} {k : Nat} {r : Nat × Nat} (h : (rowsOf s.m)[k]? = some r) : encK s (k + 1) = encK s k ++ partS s r.1 r.2 := by
  unfold encK
  rw [List.take_add_one, h]
  simp
theorem flat_le {s : Sp} (hw : wfS s) : ∀ (l : List (Nat × Nat)), (∀ r ∈ l, r.1 + r.2 ≤ s.N) → (l.flatMap fun r => partS s r.1 r.2).length ≤ 8192 * l.length := by
  intro l
  induction l with
  | nil => intro _; simp
  | cons r l ih =>
    intro h
    rw [List.flatMap_cons, List.length_append, List.length_cons, partS_length hw (h r (by simp))]
    have := ih (fun q hq => h q (by simp [hq]))
    have := h r (by simp)
    have := hw.2.2.1
    omega
theorem encK_le {s : Sp} (hw : wfS s) (hc : capS s) (hR : BitM.Rows s.m (rowsOf s.m)) (k : Nat) : (encK s k).length ≤ 10000000000 := by
  unfold encK
  rw [List.length_append, List.length_append, putK_length]
  have h1 := flat_le hw ((rowsOf s.m).take k) (fun r hr => rows_cap hc hR (List.mem_of_mem_take hr))
  have h2 : ((rowsOf s.m).take k).length ≤ 8 * s.m.length := by have := hR.few; rw [List.length_take]; omega
  obtain ⟨_, _, h3, h4⟩ := hw
  omega
end Go.Sl.SpM
/-
  A unit: what is written: the contracts. Lines of walks printed by a program of the prover's.
-/
namespace Go.Proofs.YtjbgiingimhnnaaGreat
open Go.Proofs.Tryz
open Go Go.Sl Go.Sl.BitM Go.Sl.SpM Go.Sl.RsM Go.Sl.ByM Go.Sl.UnM
set_option linter.unusedVariables false
set_option linter.unusedSimpArgs false
set_option maxHeartbeats 1000000
set_option maxRecDepth 8000
variable {W0 w : World} {L F : List HProp}
theorem upart_ok {ab av : Option Addr} {cb cv : Nat} {bs vs : List UInt8} (hb : bs.length ≤ 1000000000000) (hv : vs.length ≤ 1000000000000) (h : On W0 L w) (C : Gives L (Bytes (.slice ab bs.length cb) bs)) (C2 : Gives L (Bytes (.slice av vs.length cv) vs)) : Calls Tryz.prog 47 #[.slice ab bs.length cb, .slice av vs.length cv] w (Ret fun v w' => ∃ a c, v = .slice a (partB bs vs).length c ∧ On W0 (OwnB (.slice a (partB bs vs).length c) (partB bs vs) :: L) w') := by
  refine enter func47 rfl ntmps47 rfl ?_
  have hmx := maxLen_eq
  have hl1 : (bs ++ be vs.length 4).length = bs.length + 4 := by rw [List.length_append, be_length]
  refine W.seq (W.region (WL.val run_assign rfl rfl (WL.nil (W.seq (W.region (WL.val run_move rfl rfl (WL.val run_move rfl rfl ?_)))))))
  refine WL.val (run_lenSlice underlying22 rfl) rfl rfl (WL.val (run_convIn underlying3 underlying23 rfl (by show (0 : Int) ≤ _; omega) (by show _ ≤ (18446744073709551615 : Int); omega)) rfl rfl (WL.eff (eff_call call59 (bput_ok (v := vs.length) (n := 4) h (Gives.to C) (by decide) (by decide) (by omega) (by omega))) rfl rfl ?_))
  rintro _ w ⟨a9, rfl, h⟩
  refine WL.val run_move rfl rfl (WL.eff (eff_app (bytes := 1) h rfl rfl (h.readsTo C2) underlying22 rfl rfl rfl rfl rfl (by omega) (by omega) bytes_one) rfl rfl ?_)
  rintro _ w ⟨a11, c11, rfl, h⟩
  have e2 : bytesV (bs ++ be vs.length 4) ++ bytesV vs = bytesV (partB bs vs) := (List.map_append ..).symm
  have e3 : (bs ++ be vs.length 4).length + vs.length = (partB bs vs).length := (List.length_append ..).symm
  rw [e2, e3] at h
  refine WL.val run_assign rfl rfl (WL.nil (W.ret (bodyQ.r1 (v := .slice _ _ _) results47 rfl ?_)))
  exact ⟨a11, c11, congrArg (fun q => Value.slice a11 q c11) e3, h.to⟩
theorem byte_wrap (z : Int) : IntKind.wrap .u8 z = ((byteI z).toNat : Int) := by
  have h1 : IntKind.wrap .u8 z = z % 256 := by simp [IntKind.wrap, IntKind.signed, IntKind.bits]
  rw [h1]
  unfold byteI
  rw [UInt8.toNat_ofNat']
  omega
theorem run_convByteI {P : Program} {ρ : Operand → Value} {d : Option Nat} {ty : TypeId} {pos : String} {af : Array Edge} {g : Option (Nat × Bool)} {s t : TypeId} {x : Operand} {j : IntKind} {n : Int} {ds : TypeDesc} (hs : P.underlying s = some ds) (ht : P.underlying t = some (.int .u8)) (hx : ρ x = .int j n) :
    (execOp ρ ⟨d, .convert s t x, ty, pos, af, g⟩).run P w = .ok (.value (.int .u8 ((byteI n).toNat : Int))) w := by
  rw [run_convInt hs ht hx, byte_wrap]
theorem rencode_ok {b : Nat} {t : Tb} (ht : okT t) (h : On W0 (blk b t.cells 113 :: L) w) : Calls Tryz.prog 49 #[.pointer (some ⟨b, 0, none⟩)] w (Ret fun v w' => ∃ a c, v = .slice a (encT t).length c ∧ On W0 (OwnB (.slice a (encT t).length c) (encT t) :: blk b t.cells 113 :: L) w') := by
  refine enter func49 rfl ntmps49 rfl ?_
  have hmx := maxLen_eq
  obtain ⟨hk, hg1, hg2⟩ := ht
  have eg : t.gen = ((t.gen.toNat : Nat) : Int) := by omega
  have e0 : [] ++ be t.gen.toNat 4 = (encTK t 0) := by unfold encTK; simp
  refine W.seq (W.region (WL.val run_assign rfl rfl (WL.nil (W.seq (W.region (WL.val run_move rfl rfl (WL.val (run_nilCheck rfl) rfl rfl ?_)))))))
  refine WL.val (run_fieldAddr 10 underlying113 rfl sizeOf111 rfl rfl) rfl rfl (WL.val (run_load1 isAgg111 rfl (h.cellB rfl)) rfl rfl (WL.val (run_convIn (n := ((t.gen.toNat : Nat) : Int)) underlying111 underlying23 (congrArg (Value.int .u32) eg) (by show (0 : Int) ≤ _; omega) (by show _ ≤ (18446744073709551615 : Int); omega)) rfl rfl (WL.eff (eff_call call59 (bput_ok (ax := none) (cx := 0) (bs := []) (v := t.gen.toNat) (n := 4) h Gives.nilB (by decide) (by decide) (by omega) (by decide))) rfl rfl ?_)))
  rintro _ w ⟨a11, hv, h⟩
  rw [e0] at hv h
  subst hv
  refine WL.val run_assign rfl rfl (WL.nil (W.seq (W.seq (W.region (WL.val run_move rfl rfl (WL.val (run_nilCheck rfl) rfl rfl (WL.val (run_fieldAddr 0 underlying113 rfl sizeOf85 rfl rfl) rfl rfl ?_)))))))
  refine WL.val (run_loadB (vs := [.int .u64 _, .int .u64 _, .int .u64 _, .int .u64 _, .int .u64 _, .int .u64 _, .int .u64 _, .int .u64 _]) h isAgg85 sizeOf85 rfl rfl rfl) rfl rfl (WL.val run_move rfl rfl (WL.nil (W.block ?_)))
  refine W.loop (fun (k : Nat) env w => k ≤ 8 ∧ ∃ (j : Env) (ao : Option Addr) (co : Nat), env = mkE j [(0, .pointer (some ⟨b, 0, none⟩)), (3, .slice ao (encTK t k).length co), (15, .agg (keysV t.K).toArray), (16, .int .i64 (k : Int))] ∧ On W0 (OwnB (.slice ao (encTK t k).length co) (encTK t k) :: blk b t.cells 113 :: L) w) (fun k => 8 - k) (0) ?_ ?_
  · exact ⟨Nat.zero_le _, _, a11, _, mkE_of ⟨rfl, rfl, rfl, rfl, trivial⟩, h.to⟩
  rintro k env w ⟨hk8, j, ao, co, rfl, h⟩
  have hlk := encTK_len t k
  refine W.seq (W.region (WL.val (run_lss rfl rfl) rfl rfl (WL.nil (W.seq ?_))))
  refine W.condIf rfl (fun c6 => ?_) (fun c6 => ?_)
  ·
   refine W.skip (W.seq ?_)
   have hk7 : k < 8 := by omega
   have hkk := hk k hk7
   have ek : t.K k = (((t.K k).toNat : Nat) : Int) := by omega
   refine W.block (W.seq (W.region (WL.val (run_indexArr underlying85 sizeOf23 isAgg23 rfl rfl (by omega) (by omega) ((keysV_key (i := k) hk7).trans (congrArg (fun q => some (Value.int .u64 q)) ek))) rfl rfl (WL.val run_assign rfl rfl (WL.nil (W.region (WL.val run_move rfl rfl ?_)))))))
   refine WL.val run_move rfl rfl (WL.eff (eff_call call59 (bput_ok (v := (t.K k).toNat) (n := 8) (bs := (encTK t k)) h (Gives.ownO (v := .slice ao (encTK t k).length co)) (by decide) (by decide) (by omega) (by omega))) rfl rfl ?_)
   rintro _ w ⟨a21, rfl, h⟩
   refine WL.val run_assign rfl rfl (WL.nil (W.region (WL.val (run_incN rfl rfl (by omega)) rfl rfl (WL.val run_move rfl rfl (WL.nil ?_)))))
   rw [← encTK_succ] at h
   exact ⟨k + 1, ⟨by omega, _, a21, _, mkE_of ⟨rfl, congrArg (fun q : List UInt8 => Value.slice a21 q.length q.length) (encTK_succ t k).symm, rfl, rfl, trivial⟩, h.to⟩, by show 8 - (k + 1) < 8 - k; omega⟩
  refine W.exit (W.seq ?_)
  refine W.draw Tryz.follows h (fun w h => ?_)
  refine WT.pure 0 rfl (by kernel_rfl) (fun w' => run_move) rfl rfl (WT.pure 1 rfl (by kernel_rfl) (fun w' => run_move) rfl rfl (WT.pure 2 rfl (by kernel_rfl) (fun w' => (run_nilCheck rfl)) rfl rfl (WT.pure 3 rfl (by kernel_rfl) (fun w' => (run_fieldAddr 8 underlying113 rfl sizeOf3 rfl rfl)) rfl rfl (WT.load1 4 rfl (by kernel_rfl) isAgg3 rfl (h.cellB rfl) rfl rfl (WT.pure 5 rfl (by kernel_rfl) (fun w' => (run_convByteI underlying3 underlying5 rfl)) rfl rfl (WT.pure 6 rfl (by kernel_rfl) (fun w' => run_move) rfl rfl (WT.pure 7 rfl (by kernel_rfl) (fun w' => (run_nilCheck rfl)) rfl rfl ?_)))))))
  refine WT.pure 8 rfl (by kernel_rfl) (fun w' => (run_fieldAddr 9 underlying113 rfl sizeOf3 rfl rfl)) rfl rfl (WT.load1 9 rfl (by kernel_rfl) isAgg3 rfl (h.cellB rfl) rfl rfl (WT.pure 10 rfl (by kernel_rfl) (fun w' => (run_convByteI underlying3 underlying5 rfl)) rfl rfl (WT.eff 11 [false, false] rfl (by kernel_rfl) (by kernel_rfl) (eff_mkSlice (zl := [.int .u8 0, .int .u8 0]) (out := [.int .u8 _, .int .u8 _]) h underlying22 sizeOf5 zeroValue5 (by decide) (by kernel_rfl) rfl rfl (by simp) (⟨⟨_, _, rfl, rfl, by decide⟩, ⟨⟨_, _, rfl, rfl, by decide⟩, trivial⟩⟩) rfl rfl (by simp [maxLen])) rfl rfl ?_)))
  rintro _ w ⟨b34, rfl, h⟩
  refine ⟨trivial, ?_⟩
  refine WT.eff 12 [] rfl (by kernel_rfl) (by kernel_rfl) (eff_app (c2 := 2) (bytes := 1) h rfl rfl (h.cellsO (v := .slice (some ⟨b34, 0, none⟩) 2 2)) underlying22 rfl rfl rfl rfl rfl (by omega) (by omega) (by simp [Value.oneCell'])) rfl rfl ?_
  rintro _ w ⟨a35, c35, hv35, h⟩
  have e2 : bytesV (encTK t k) ++ [.int .u8 ((byteI t.hold).toNat : Int), .int .u8 ((byteI t.typ).toNat : Int)] = bytesV ((encTK t k) ++ [byteI t.hold, byteI t.typ]) := by simp [bytesV, byteV]
  have e3 : (encTK t k).length + 2 = ((encTK t k) ++ [byteI t.hold, byteI t.typ]).length := by rw [List.length_append]; rfl
  have h : On W0 (Own 1 (.slice a35 ((encTK t k).length + 2) c35) ((encTK t k).length + 2) (bytesV (encTK t k) ++ [.int .u8 ((byteI t.hold).toNat : Int), .int .u8 ((byteI t.typ).toNat : Int)]) :: _) w := h
  rw [e2, e3] at h
  rw [e3] at hv35
  subst hv35
  refine ⟨trivial, ?_⟩
  refine WT.pure 13 rfl (by kernel_rfl) (fun w' => run_assign) rfl rfl (WT.done (by kernel_rfl) (W.ret (bodyQ.r1 (v := .slice _ _ _) results49 rfl ?_)))
  have ob_ : k = 8 := by omega
  obtain rfl := ob_
  have h : On W0 (OwnB (.slice a35 (encT t).length c35) (encT t) :: _) w := h
  exact ⟨a35, c35, rfl, h.to⟩
theorem sencode_ok {b : Nat} {s : Sp} (hcap : capS s) (h : On W0 (SpP 105 b s :: L) w) : Calls Tryz.prog 48 #[.pointer (some ⟨b, 0, none⟩)] w (Ret fun v w' => ∃ a, v = .slice a (encS s).length (encS s).length ∧ On W0 (OwnB (.slice a (encS s).length (encS s).length) (encS s) :: SpP 105 b s :: L) w') := by
  refine enter func48 rfl ntmps48 rfl ?_
  have ob_ := openS h
  obtain ⟨gd, od, cd, am, cm, hw, h⟩ := ob_
  have hwf := hw
  obtain ⟨hw1, hw2, hw3, hw4⟩ := hw
  have ob_ := Own.bounds h.p1
  obtain ⟨hdc, hdm⟩ := ob_
  have hmx := maxLen_eq
  have e0 : encK s 0 = [] ++ SpM.putK s.N 2 2 ++ s.m := by simp [encK]
  refine W.seq (W.region (WL.val run_assign rfl rfl (WL.nil (W.seq ?_))))
  refine W.draw Tryz.follows h (fun w h => ?_)
  refine WT.pure 0 rfl (by kernel_rfl) (fun w' => run_move) rfl rfl (WT.pure 1 rfl (by kernel_rfl) (fun w' => (run_nilCheck rfl)) rfl rfl (WT.pure 2 rfl (by kernel_rfl) (fun w' => (run_fieldAddr 0 underlying105 rfl sizeOf3 rfl rfl)) rfl rfl (WT.load1 3 rfl (by kernel_rfl) isAgg3 rfl (h.cellB rfl) rfl rfl (WT.pure 4 rfl (by kernel_rfl) (fun w' => (run_convIn underlying3 underlying23 rfl (by show (0 : Int) ≤ _; omega) (by show _ ≤ (18446744073709551615 : Int); omega))) rfl rfl (WT.pure 6 rfl (by kernel_rfl) (fun w' => run_move) rfl rfl (WT.pure 7 rfl (by kernel_rfl) (fun w' => (run_nilCheck rfl)) rfl rfl (WT.pure 8 rfl (by kernel_rfl) (fun w' => (run_fieldAddr 2 underlying105 rfl sizeOf103 rfl rfl)) rfl rfl ?_)))))))
  refine WT.load1 9 rfl (by kernel_rfl) isAgg103 rfl (h.cellB rfl) rfl rfl (WT.eff 5 [true, false] rfl (by kernel_rfl) (by kernel_rfl) (eff_call call59 (bput_ok (ax := none) (cx := 0) (bs := []) (v := s.N) (n := 2) h Gives.nilB (by decide) (by decide) (by omega) (by decide))) rfl rfl ?_)
  rintro _ w ⟨a11, hv, h⟩
  have hbe : be s.N 2 = SpM.putK s.N 2 2 := rfl
  rw [hbe] at hv h
  have ob_ : ∃ pb, pb = [] ++ SpM.putK s.N 2 2 := ⟨_, rfl⟩
  obtain ⟨pb, hpb⟩ := ob_
  rw [← hpb] at hv h e0
  subst hv
  have hpbl : pb.length = 2 := by rw [hpb, List.nil_append, SpM.putK_length]
  refine ⟨⟨h.cellB rfl, trivial⟩, ?_⟩
  refine WT.eff 10 [false] rfl (by kernel_rfl) (by kernel_rfl) (eff_appT (bytes := 1) h rfl rfl (h.cellsO (v := .slice am s.m.length cm)) underlying22 underlying103 rfl rfl rfl rfl rfl (by omega) (by omega) bytes_one) rfl rfl ?_
  rintro _ w ⟨a16, c16, hv, h⟩
  have hbv : bytesV pb ++ bytesV s.m = bytesV (encK s 0) := by rw [e0]; simp [bytesV]
  have hel : pb.length + s.m.length = (encK s 0).length := by rw [e0, List.length_append]
  rw [hel] at hv h
  rw [hbv] at h
  subst hv
  refine ⟨trivial, ?_⟩
  refine WT.pure 11 rfl (by kernel_rfl) (fun w' => run_assign) rfl rfl (WT.done (by kernel_rfl) (W.seq (W.seq (W.region (WL.val run_move rfl rfl (WL.val (run_nilCheck rfl) rfl rfl (WL.val (run_fieldAddr 2 underlying105 rfl sizeOf103 rfl rfl) rfl rfl ?_)))))))
  refine WL.val (run_load1 isAgg103 rfl (h.cellB rfl)) rfl rfl (WL.eff (eff_call call53 (runs_ok (m := s.m) h (Gives.ownO (v := .slice am s.m.length cm)) (by omega))) rfl rfl ?_)
  rintro _ w ⟨Rr, ar, rfl, rfl, hR, h⟩
  have hle := encK_le hwf hcap hR
  refine WL.val (run_lenSlice underlying106 rfl) rfl rfl (WL.val run_move rfl rfl (WL.nil (W.block ?_)))
  refine W.loop (fun (k : Nat) env w => ∃ (j : Env) (ao : Option Addr) (co : Nat), env = mkE j [(0, .pointer (some ⟨b, 0, none⟩)), (3, .slice ao (encK s k).length co), (21, .slice ar (rowsOf s.m).length (rowsOf s.m).length), (22, .int .i64 (((rowsOf s.m).length : Nat) : Int)), (23, .int .i64 (k : Int))] ∧ k ≤ (rowsOf s.m).length ∧ On W0 (OwnB (.slice ao (encK s k).length co) (encK s k) :: Own 2 (.slice ar (rowsOf s.m).length (rowsOf s.m).length) (rowsOf s.m).length ((rowsOf s.m).flatMap rowc) :: blk b [.int .i64 (s.N : Int), .slice (some ⟨gd, od, none⟩) (8 * s.N) cd, .slice am s.m.length cm] 105 :: Own 1 (.slice (some ⟨gd, od, none⟩) (8 * s.N) cd) (8 * s.N) (bytesV s.d) :: Own 1 (.slice am s.m.length cm) s.m.length (bytesV s.m) :: L) w) (fun k => (rowsOf s.m).length - k) (0) ?_ ?_
  · exact ⟨_, a16, c16, mkE_of ⟨rfl, rfl, rfl, rfl, rfl, trivial⟩, Nat.zero_le _, h.to⟩
  rintro k env w ⟨j, ao, co, rfl, hk, h⟩
  have hlk := hle k
  have hfew := hR.few
  refine W.seq (W.region (WL.val (run_lss rfl rfl) rfl rfl (WL.nil (W.seq ?_))))
  refine W.condIf rfl (fun c6 => ?_) (fun c6 => ?_)
  ·
   refine W.skip (W.seq (W.block (W.seq ?_)))
   have hkl : k < (rowsOf s.m).length := by omega
   have ob_ : ∃ r, (rowsOf s.m)[k]? = some r := ⟨(rowsOf s.m)[k], by simp⟩
   obtain ⟨r, hr⟩ := ob_
   have hrc := rows_cap hcap hR (List.mem_of_getElem? hr)
   have e1 : encK s (k + 1) = encK s k ++ partS s r.1 r.2 := encK_succ hr
   have hlk1 := hle (k + 1)
   have hpl : (partS s r.1 r.2).length = (r.1 + r.2) * 8 - r.1 * 8 := by rw [partS_length hwf hrc]; omega
   have el : (encK s (k + 1)).length = (encK s k).length + (partS s r.1 r.2).length := by rw [e1, List.length_append]
   have ob_ := sliced_part (b := gd) (o := od) (show r.1 * 8 ≤ (r.1 + r.2) * 8 by omega) (show (r.1 + r.2) * 8 ≤ cd by omega)
   obtain ⟨lo, hlo, hlo2⟩ := ob_
   have haa := (h.cellsO (v := .slice ar (rowsOf s.m).length (rowsOf s.m).length)).addr (by omega)
   obtain ⟨br, or_, har⟩ := haa
   subst har
   have CP : ∀ L' : List HProp, Gives L' (Cells 1 (.slice (some ⟨gd, od, none⟩) (8 * s.N) cd) (8 * s.N) (bytesV s.d)) → Gives L' (Bytes (.slice (some ⟨gd, od + lo, none⟩) (partS s r.1 r.2).length (cd - r.1 * 8)) (partS s r.1 r.2)) := fun L' gg hh H => by
     have c1 := (gg hh H).cut (l := r.1 * 8) (h := (r.1 + r.2) * 8) (m := cd) (by omega) (by omega) (by omega) (by omega)
     rw [hlo, ← hpl] at c1
     have e1 : ((bytesV s.d).drop (r.1 * 8 * 1)).take ((partS s r.1 r.2).length * 1) = bytesV (partS s r.1 r.2) := by
       rw [hpl, Nat.mul_one, Nat.mul_one]
       unfold partS bytesV
       rw [List.map_take, List.map_drop, Nat.mul_comm r.1 8, show (r.1 + r.2) * 8 - 8 * r.1 = 8 * r.2 by omega]
     rw [e1] at c1
     exact c1
   refine W.region (WL.val (run_indexAddr underlying106 sizeOf108 rfl rfl (by omega) (by omega)) rfl rfl (WL.val (run_loadN isAgg108 sizeOf108 rfl rfl ((h.cellsO (v := .slice (some ⟨br, or_, none⟩) (rowsOf s.m).length (rowsOf s.m).length)).elem (i := k) (vs := rowc r) hkl (drop_flatMap rowc 2 rowc_length (rowsOf s.m) _ _ hr))) rfl rfl (WL.eff (eff_alloc h zeroValue108 rfl) rfl rfl ?_)))
   rintro _ w ⟨b5, rfl, h⟩
   refine WL.eff (eff_storeN (vs := rowc r) h sizeOf108 rfl rfl rfl rfl rfl (fun k _ _ => free0 k)) rfl rfl ?_
   rintro _ w h
   have h : On W0 (blk b5 (rowc r) 108 :: _) w := h
   refine WL.nil (W.region (WL.val run_move rfl rfl (WL.val run_move rfl rfl (WL.val (run_indexAddrArr underlying108 sizeOf3 rfl rfl (by omega) (by omega)) rfl rfl (WL.val (run_load1 isAgg3 rfl (h.cellB rfl)) rfl rfl (WL.val (run_indexAddrArr underlying108 sizeOf3 rfl rfl (by omega) (by omega)) rfl rfl (WL.val (run_load1 isAgg3 rfl (h.cellB rfl)) rfl rfl ?_)))))))
   refine WL.eff (eff_call call54 (part_ok (at_ := r.1) (n := r.2) hw3 hrc hdc h)) rfl rfl ?_
   rintro _ w ⟨hv, h⟩
   rw [hlo, ← hpl] at hv
   subst hv
   refine WL.eff (eff_app (bytes := 1) h rfl rfl (CP _ (Gives.ownO (v := .slice (some ⟨gd, od, none⟩) (8 * s.N) cd)) _ h.sat) underlying22 rfl rfl rfl rfl rfl (by omega) (by omega) bytes_one) rfl rfl ?_
   rintro _ w ⟨a34, c34, rfl, h⟩
   have hbv : bytesV (encK s k) ++ bytesV (partS s r.1 r.2) = bytesV (encK s k ++ partS s r.1 r.2) := by simp [bytesV]
   rw [hbv] at h
   refine WL.val run_assign rfl rfl (WL.nil (W.region (WL.val (run_incN rfl rfl (by omega)) rfl rfl (WL.val run_move rfl rfl (WL.nil ?_)))))
   exact ⟨k + 1, ⟨_, a34, c34, mkE_of ⟨rfl, (by rw [el]; rfl), rfl, rfl, rfl, trivial⟩, by omega, (by unfold OwnB; rw [el, e1]; exact h.to)⟩, by show (rowsOf s.m).length - (k + 1) < (rowsOf s.m).length - k; omega⟩
  refine W.exit (W.seq (W.region (WL.val run_move rfl rfl (WL.eff (eff_call call51 (clip_bytes h)) rfl rfl ?_))))
  rintro _ w ⟨rfl, h⟩
  refine WL.val run_assign rfl rfl (WL.nil (W.ret (bodyQ.r1 (v := .slice _ _ _) results48 rfl ?_)))
  have ob_ : k = (rowsOf s.m).length := by omega
  obtain rfl := ob_
  exact ⟨ao, rfl, (closeS (cd := cd) (cm := cm) (gd := gd) (od := od) (am := am) hwf h.p1.tail.p3.p3.p3).p1⟩
end Go.Proofs.YtjbgiingimhnnaaGreat
/-
  A unit: a guest, a unit written: the contracts. Lines of walks printed by a program of the prover's.
-/
namespace Go.Proofs.YtjbgiingimhnnaaGreat
open Go.Proofs.Tryz
open Go Go.Sl Go.Sl.BitM Go.Sl.SpM Go.Sl.RsM Go.Sl.ByM Go.Sl.UnM
set_option linter.unusedVariables false
set_option linter.unusedSimpArgs false
set_option maxHeartbeats 1000000
set_option maxRecDepth 8000
variable {W0 w : World} {L F : List HProp}
theorem gwrite_ok {codes : List Int} {fl mb ck gc : Nat} {done : List (Int × Rp)} {ga : Option Addr} {kvs : List KV} {pool : PoolL} (hok : okD pool done kvs) (hg : okG (⟨codes, ((fl : Nat) : Int), done⟩ : Gs)) (hd1 : done.length ≤ 1) (h : On W0 (Own 1 (.slice ga codes.length gc) codes.length (cV codes) :: MapC mb .u64 kvs ck :: Pool pool :: L) w) : Calls Tryz.prog 50 #[.agg #[.slice ga codes.length gc, .int .u64 ((fl : Nat) : Int), .map (some mb)]] w (Ret fun v w' => ∃ a c, v = .slice a (guestB (⟨codes, ((fl : Nat) : Int), done⟩ : Gs)).length c ∧ On W0 (OwnB (.slice a (guestB (⟨codes, ((fl : Nat) : Int), done⟩ : Gs)).length c) (guestB (⟨codes, ((fl : Nat) : Int), done⟩ : Gs)) :: Own 1 (.slice ga codes.length gc) codes.length (cV codes) :: MapC mb .u64 kvs ck :: Pool pool :: L) w') := by
  refine enter func50 rfl ntmps50 rfl ?_
  have hmx := maxLen_eq
  obtain ⟨hc1, hc2, hf1, hf2, hdn⟩ := hg
  have hc1 : codes.length ≤ 10000 := hc1
  have hf2 : ((fl : Nat) : Int) < 18446744073709551616 := hf2
  have hkl : kvs.length = done.length := by have := hok.1.length_eq; simpa using this
  have e0 : [] ++ be codes.length 2 = (codesB codes 0) := by unfold codesB; simp
  have hhl := headB_len (⟨codes, ((fl : Nat) : Int), done⟩ : Gs)
  have hhl : (headB (⟨codes, ((fl : Nat) : Int), done⟩ : Gs)).length = 12 + codes.length * 2 := hhl
  have hRd : ∀ x ∈ done, okR x.2 := fun x hx => (hdn x hx).2
  have hdl := done_len hd1 hRd
  refine W.seq (W.region (WL.eff (eff_box (v := .agg _) (l := [.slice ga codes.length gc, .int .u64 ((fl : Nat) : Int), .map (some mb)]) h rfl rfl) rfl rfl ?_))
  rintro _ w ⟨b1, rfl, h⟩
  refine WL.val run_assign rfl rfl (WL.nil (W.seq (W.region (WL.val (run_fieldAddr 0 underlying65 rfl sizeOf62 rfl rfl) rfl rfl (WL.val (run_load1 isAgg62 rfl (h.cellB rfl)) rfl rfl (WL.val (run_lenSlice underlying62 rfl) rfl rfl (WL.val (run_convIn underlying3 underlying23 rfl (by show (0 : Int) ≤ _; (try dsimp only); omega) (by show _ ≤ (18446744073709551615 : Int); (try dsimp only); omega)) rfl rfl ?_)))))))
  refine WL.eff (eff_call call59 (bput_ok (ax := none) (cx := 0) (bs := []) (v := codes.length) (n := 2) h Gives.nilB (by decide) (by decide) (by omega) (by decide))) rfl rfl ?_
  rintro _ w ⟨a13, hv, h⟩
  rw [e0] at hv h
  subst hv
  refine WL.val run_assign rfl rfl (WL.nil (W.seq (W.seq (W.region (WL.val (run_fieldAddr 0 underlying65 rfl sizeOf62 rfl rfl) rfl rfl (WL.val (run_load1 isAgg62 rfl (h.cellB rfl)) rfl rfl (WL.val (run_lenSlice underlying62 rfl) rfl rfl ?_)))))))
  refine WL.val run_move rfl rfl (WL.nil (W.block ?_))
  refine W.loop (fun (k : Nat) env w => k ≤ codes.length ∧ ∃ (j : Env) (ao : Option Addr) (co : Nat), env = mkE j [(1, .pointer (some ⟨b1, 0, none⟩)), (3, .slice ao (codesB codes k).length co), (15, .slice ga codes.length gc), (16, .int .i64 (codes.length : Nat)), (17, .int .i64 (k : Nat))] ∧ On W0 (OwnB (.slice ao (codesB codes k).length co) (codesB codes k) :: Own 1 (.slice ga codes.length gc) codes.length (cV codes) :: MapC mb .u64 kvs ck :: Pool pool :: blk b1 [.slice ga codes.length gc, .int .u64 ((fl : Nat) : Int), .map (some mb)] 65 :: L) w) (fun k => codes.length - k) (0) ?_ ?_
  · exact ⟨Nat.zero_le _, _, a13, _, mkE_of ⟨rfl, rfl, rfl, rfl, rfl, trivial⟩, h.to⟩
  rintro k env w ⟨hk8, j, ao, co, rfl, h⟩
  have hlk := codesB_len codes k hk8
  refine W.seq (W.region (WL.val (run_lss rfl rfl) rfl rfl (WL.nil (W.seq ?_))))
  refine W.condIf rfl (fun c6 => ?_) (fun c6 => ?_)
  ·
   refine W.skip (W.seq ?_)
   have hk7 : k < codes.length := by omega
   have ob_ : ∃ c, codes[k]? = some c := ⟨codes[k]'hk7, by simp⟩
   obtain ⟨c0, hcx⟩ := ob_
   have hcc := hc2 c0 (List.mem_of_getElem? hcx)
   have ob_ := Int.eq_ofNat_of_zero_le hcc.1
   obtain ⟨cn, hcn⟩ := ob_
   subst hcn
   have hcs : (codesB codes (k + 1)) = (codesB codes k) ++ be cn 2 := codesB_succ hcx
   have ob3_ := Own.addr (h.own (.slice ga codes.length gc)) (by omega)
   obtain ⟨ba, oa, haa⟩ := ob3_
   subst haa
   refine W.block (W.seq (W.region (WL.val (run_indexAddr underlying62 sizeOf3 rfl rfl (by omega) (by omega)) rfl rfl (WL.val (run_load1 isAgg3 rfl ((h.cellsO (v := .slice (some ⟨ba, oa, none⟩) codes.length gc)).elem (i := k) (vs := [.int .i64 (cn : Int)]) (by omega) (cV_get hcx) 0 _ rfl)) rfl rfl (WL.val run_assign rfl rfl (WL.nil (W.region ?_)))))))
   refine WL.val run_move rfl rfl (WL.val run_move rfl rfl (WL.val (run_convIn underlying3 underlying23 rfl (by show (0 : Int) ≤ _; (try dsimp only); omega) (by show _ ≤ (18446744073709551615 : Int); (try dsimp only); omega)) rfl rfl (WL.eff (eff_call call59 (bput_ok (v := cn) (n := 2) (bs := (codesB codes k)) h (Gives.ownO (v := .slice ao (codesB codes k).length co)) (by decide) (by decide) (by omega) (by omega))) rfl rfl ?_)))
   rintro _ w ⟨a24, rfl, h⟩
   refine WL.val run_assign rfl rfl (WL.nil (W.region (WL.val (run_incN rfl rfl (by omega)) rfl rfl (WL.val run_move rfl rfl (WL.nil ?_)))))
   rw [← hcs] at h
   exact ⟨k + 1, ⟨by omega, _, a24, _, mkE_of ⟨rfl, congrArg (fun q : List UInt8 => Value.slice a24 q.length q.length) hcs.symm, rfl, rfl, rfl, trivial⟩, h.to⟩, by show codes.length - (k + 1) < codes.length - k; omega⟩
  refine W.exit (W.seq ?_)
  have ob_ : k = codes.length := by omega
  obtain rfl := ob_
  have hl29 : ((codesB codes codes.length) ++ be fl 8).length = 10 + codes.length * 2 := by rw [List.length_append, be_length]; omega
  refine W.draw Tryz.follows h (fun w h => ?_)
  refine WT.pure 0 rfl (by kernel_rfl) (fun w' => run_move) rfl rfl (WT.pure 1 rfl (by kernel_rfl) (fun w' => (run_fieldAddr 1 underlying65 rfl sizeOf23 rfl rfl)) rfl rfl (WT.load1 2 rfl (by kernel_rfl) isAgg23 rfl (h.cellB rfl) rfl rfl (WT.pure 4 rfl (by kernel_rfl) (fun w' => (run_fieldAddr 2 underlying65 rfl sizeOf63 rfl rfl)) rfl rfl (WT.load1 5 rfl (by kernel_rfl) isAgg63 rfl (h.cellB rfl) rfl rfl (WT.eff 3 [true, false] rfl (by kernel_rfl) (by kernel_rfl) (eff_call call59 (bput_ok (v := fl) (n := 8) (bs := (codesB codes codes.length)) h (Gives.ownO (v := .slice ao (codesB codes codes.length).length co)) (by decide) (by decide) (by omega) (by omega))) rfl rfl ?_)))))
  rintro _ w ⟨a29, rfl, h⟩
  refine ⟨⟨h.cellB rfl, trivial⟩, ?_⟩
  refine WT.take 6 (fun w => w.heap[mb]? = some (mapO .u64 kvs ck)) rfl (by kernel_rfl) rfl rfl ((On.mapC (h.fetch (MapC mb .u64 kvs ck))).2) (fun w' hC => run_lenMap hC rfl underlying63 rfl hkl) (WT.pure 7 rfl (by kernel_rfl) (fun w' => (run_convIn underlying3 underlying23 rfl (by show (0 : Int) ≤ _; (try dsimp only); omega) (by show _ ≤ (18446744073709551615 : Int); (try dsimp only); omega))) rfl rfl (WT.eff 8 [false, false] rfl (by kernel_rfl) (by kernel_rfl) (eff_call call59 (bput_ok (v := done.length) (n := 2) (bs := ((codesB codes codes.length) ++ be fl 8)) h (Gives.ownO (v := .slice a29 ((codesB codes codes.length) ++ be fl 8).length ((codesB codes codes.length) ++ be fl 8).length)) (by decide) (by decide) (by omega) (by omega))) rfl rfl ?_))
  rintro _ w ⟨a34, rfl, h⟩
  have h : On W0 (OwnB (.slice a34 (headB (⟨codes, ((fl : Nat) : Int), done⟩ : Gs)).length (headB (⟨codes, ((fl : Nat) : Int), done⟩ : Gs)).length) (headB (⟨codes, ((fl : Nat) : Int), done⟩ : Gs)) :: _) w := h
  refine ⟨trivial, ?_⟩
  refine WT.pure 9 rfl (by kernel_rfl) (fun w' => run_assign) rfl rfl (WT.done (by kernel_rfl) (W.seq (W.seq (W.region (WL.val (run_fieldAddr 2 underlying65 rfl sizeOf63 rfl rfl) rfl rfl (WL.val (run_load1 isAgg63 rfl (h.cellB rfl)) rfl rfl (WL.eff (eff_call call103 (keysU_ok (h.fetch (MapC mb .u64 kvs ck)))) rfl rfl ?_)))))))
  rintro _ w ⟨bb, rfl, h⟩
  refine WL.eff (eff_call call102 (sortedU_ok (by omega) h)) rfl rfl ?_
  rintro _ w ⟨as_, cs_, ss, hS, rfl, h⟩
  have hss : ss = done.map (·.1) := perm_one (hS.trans hok.1) (by rw [List.length_map]; exact hd1)
  subst hss
  have e00 : (headB (⟨codes, ((fl : Nat) : Int), done⟩ : Gs)) = ((headB (⟨codes, ((fl : Nat) : Int), done⟩ : Gs)) ++ (done.take 0).flatMap recB) := by simp
  have h := h.fetch (OwnB (.slice a34 (headB (⟨codes, ((fl : Nat) : Int), done⟩ : Gs)).length (headB (⟨codes, ((fl : Nat) : Int), done⟩ : Gs)).length) (headB (⟨codes, ((fl : Nat) : Int), done⟩ : Gs)))
  rw [e00] at h
  have hsl : (done.map (·.1)).length = done.length := List.length_map ..
  rw [hsl] at h
  refine WL.val (run_lenSlice underlying129 rfl) rfl rfl (WL.val run_move rfl rfl (WL.nil (W.block ?_)))
  refine W.loop (fun (k : Nat) env w => k ≤ done.length ∧ ∃ (j : Env) (ao : Option Addr) (co : Nat), env = mkE j [(1, .pointer (some ⟨b1, 0, none⟩)), (3, .slice ao ((headB (⟨codes, ((fl : Nat) : Int), done⟩ : Gs)) ++ (done.take k).flatMap recB).length co), (38, .slice as_ done.length cs_), (39, .int .i64 (done.length : Nat)), (40, .int .i64 (k : Nat))] ∧ On W0 (OwnB (.slice ao ((headB (⟨codes, ((fl : Nat) : Int), done⟩ : Gs)) ++ (done.take k).flatMap recB).length co) ((headB (⟨codes, ((fl : Nat) : Int), done⟩ : Gs)) ++ (done.take k).flatMap recB) :: Own 1 (.slice as_ done.length cs_) done.length ((done.map (·.1)).map (Value.int .u64)) :: Own 1 (.slice ga codes.length gc) codes.length (cV codes) :: MapC mb .u64 kvs ck :: Pool pool :: blk b1 [.slice ga codes.length gc, .int .u64 ((fl : Nat) : Int), .map (some mb)] 65 :: L) w) (fun k => done.length - k) (0) ?_ ?_
  · exact ⟨Nat.zero_le _, _, a34, _, mkE_of ⟨rfl, congrArg (fun q : List UInt8 => Value.slice a34 q.length q.length) e00, congrArg (fun q => Value.slice as_ q cs_) hsl, congrArg (fun q : Nat => Value.int .i64 (q : Int)) hsl, rfl, trivial⟩, h.to⟩
  rintro k env w ⟨hk8, j, ao, co, rfl, h⟩
  refine W.seq (W.region (WL.val (run_lss rfl rfl) rfl rfl (WL.nil (W.seq ?_))))
  refine W.condIf rfl (fun c18 => ?_) (fun c18 => ?_)
  ·
   refine W.skip (W.seq ?_)
   have hk7 : k < done.length := by omega
   have ob_ : ∃ x, done[k]? = some x := ⟨done[k]'hk7, by simp⟩
   obtain ⟨⟨id, r⟩, hx⟩ := ob_
   have hxm := List.mem_of_getElem? hx
   have ob_ := hdn _ hxm
   obtain ⟨⟨hi1, hi2⟩, hr⟩ := ob_
   have ob_ := Int.eq_ofNat_of_zero_le hi1
   obtain ⟨idn, hidn⟩ := ob_
   have hidn : id = (idn : Int) := hidn
   subst hidn
   obtain ⟨st, ky, cd, dt, inf⟩ := r
   obtain ⟨r1, r2, r3, r4, r5, r6, r7, r8, r9⟩ := hr
   have ob_ := Int.eq_ofNat_of_zero_le (show 0 ≤ cd from r5)
   obtain ⟨cdn, hcdn⟩ := ob_
   subst hcdn
   have ob_ := Int.eq_ofNat_of_zero_le (show 0 ≤ inf from r7)
   obtain ⟨infn, hinfn⟩ := ob_
   subst hinfn
   have r6 : (cdn : Int) < 65536 := r6
   have r8 : (infn : Int) < 4294967296 := r8
   have r9 : dt.length ≤ 10000 := r9
   have hi2 : (idn : Int) < 18446744073709551616 := hi2
   have hlk := look_ok hok ((idn : Nat) : Int)
   rcases hlk with ⟨r', dv, hl1, hl2, hp⟩ | ⟨_, _, hno⟩
   rotate_left
   · exact (hno (List.mem_map.2 ⟨_, hxm, rfl⟩)).elim
   have hre := Option.some.inj (hl1.symm.trans (lookD_mem hok.2.1 hxm))
   subst hre
   have hfm := Cells.form (On.reads (h.fetch (Pool pool)) (Gives.pool hp))
   obtain ⟨ad, cdd, hdv, _⟩ := hfm
   subst hdv
   have ob4_ := Own.addr (h.own (.slice as_ done.length cs_)) (by omega)
   obtain ⟨bs_, os_, has⟩ := ob4_
   subst has
   have hlo : ((headB (⟨codes, ((fl : Nat) : Int), done⟩ : Gs)) ++ (done.take k).flatMap recB).length ≤ 40000 := by rw [List.length_append]; have := hdl k; omega
   have hq1 : (((headB (⟨codes, ((fl : Nat) : Int), done⟩ : Gs)) ++ (done.take k).flatMap recB) ++ be idn 8).length ≤ 40008 := by rw [List.length_append, be_length]; omega
   have hq2 : ((((headB (⟨codes, ((fl : Nat) : Int), done⟩ : Gs)) ++ (done.take k).flatMap recB) ++ be idn 8) ++ [byteI st, byteI ky]).length ≤ 40010 := by rw [List.length_append]; simp only [List.length_cons, List.length_nil]; omega
   have hq3 : (((((headB (⟨codes, ((fl : Nat) : Int), done⟩ : Gs)) ++ (done.take k).flatMap recB) ++ be idn 8) ++ [byteI st, byteI ky]) ++ be cdn 2).length ≤ 40012 := by rw [List.length_append, be_length]; omega
   have hq4 : ((((((headB (⟨codes, ((fl : Nat) : Int), done⟩ : Gs)) ++ (done.take k).flatMap recB) ++ be idn 8) ++ [byteI st, byteI ky]) ++ be cdn 2) ++ be infn 4).length ≤ 40016 := by rw [List.length_append, be_length]; omega
   have e5 : partB ((((((headB (⟨codes, ((fl : Nat) : Int), done⟩ : Gs)) ++ (done.take k).flatMap recB) ++ be idn 8) ++ [byteI st, byteI ky]) ++ be cdn 2) ++ be infn 4) dt = ((headB (⟨codes, ((fl : Nat) : Int), done⟩ : Gs)) ++ (done.take (k + 1)).flatMap recB) := by
     rw [List.take_add_one, hx]
     simp [recB, partB]
   refine W.block (W.seq (W.region (WL.val (run_indexAddr underlying129 sizeOf23 rfl rfl (by omega) (by omega)) rfl rfl ?_)))
   refine WL.val (run_load1 isAgg23 rfl ((h.cellsO (v := .slice (some ⟨bs_, os_, none⟩) done.length cs_)).elem (i := k) (vs := [.int .u64 ((idn : Nat) : Int)]) (by omega) (one_rowU (by rw [List.getElem?_map, List.getElem?_map, hx]; rfl)) 0 _ rfl)) rfl rfl ?_
   refine WL.val run_assign rfl rfl (WL.nil (W.seq (W.region (WL.val (run_fieldAddr 2 underlying65 rfl sizeOf63 rfl rfl) rfl rfl (WL.val (run_load1 isAgg63 rfl (h.cellB rfl)) rfl rfl (WL.val run_move rfl rfl (WL.val (run_lookupV (v := (⟨st, ky, (cdn : Int), dt, (infn : Int)⟩ : Rp).val (.slice ad dt.length cdd)) (On.mapC (h.fetch (MapC mb .u64 kvs ck))).2 underlying63 underlying23 zeroValue36 rfl rfl (by rw [hl2]; rfl)) rfl rfl ?_)))))))
   refine WL.eff (eff_alloc h zeroValue36 rfl) rfl rfl ?_
   rintro _ w ⟨b8, rfl, h⟩
   refine WL.eff (eff_storeW (vs := [.int .i64 _, .int .i64 _, .int .i64 _, .slice _ _ _, .int .i64 _]) h sizeOf36 rfl rfl rfl rfl rfl) rfl rfl ?_
   rintro _ w h
   refine WL.nil (W.seq (W.region (WL.val run_move rfl rfl (WL.val run_move rfl rfl (WL.eff (eff_call call59 (bput_ok (v := idn) (n := 8) (bs := ((headB (⟨codes, ((fl : Nat) : Int), done⟩ : Gs)) ++ (done.take k).flatMap recB)) h (Gives.ownO (v := .slice ao ((headB (⟨codes, ((fl : Nat) : Int), done⟩ : Gs)) ++ (done.take k).flatMap recB).length co)) (by decide) (by decide) (by omega) (by omega))) rfl rfl ?_)))))
   rintro _ w ⟨a50, rfl, h⟩
   refine WL.val run_assign rfl rfl (WL.nil (W.seq (W.region (WL.val run_move rfl rfl (WL.val (run_fieldAddr 0 underlying36 rfl sizeOf3 rfl rfl) rfl rfl (WL.val (run_load1 isAgg3 rfl (h.cellB rfl)) rfl rfl (WL.val (run_convByteI underlying3 underlying5 rfl) rfl rfl ?_)))))))
   refine WL.val (run_fieldAddr 1 underlying36 rfl sizeOf3 rfl rfl) rfl rfl (WL.val (run_load1 isAgg3 rfl (h.cellB rfl)) rfl rfl (WL.val (run_convByteI underlying3 underlying5 rfl) rfl rfl (WL.eff (eff_mkSlice (zl := [.int .u8 0, .int .u8 0]) (out := [.int .u8 _, .int .u8 _]) h underlying22 sizeOf5 zeroValue5 (by decide) (by kernel_rfl) rfl rfl (by simp) (⟨⟨_, _, rfl, rfl, by decide⟩, ⟨⟨_, _, rfl, rfl, by decide⟩, trivial⟩⟩) rfl rfl (by simp [maxLen])) rfl rfl ?_)))
   rintro _ w ⟨b58, rfl, h⟩
   refine WL.eff (eff_app (c2 := 2) (bytes := 1) h rfl rfl (h.cellsO (v := .slice (some ⟨b58, 0, none⟩) 2 2)) underlying22 rfl rfl rfl rfl rfl (by omega) (by omega) (by simp [Value.oneCell'])) rfl rfl ?_
   rintro _ w ⟨a59, c59, hv59, h⟩
   have e2 : bytesV (((headB (⟨codes, ((fl : Nat) : Int), done⟩ : Gs)) ++ (done.take k).flatMap recB) ++ be idn 8) ++ [.int .u8 ((byteI st).toNat : Int), .int .u8 ((byteI ky).toNat : Int)] = bytesV ((((headB (⟨codes, ((fl : Nat) : Int), done⟩ : Gs)) ++ (done.take k).flatMap recB) ++ be idn 8) ++ [byteI st, byteI ky]) := by simp [bytesV, byteV]
   have e3 : (((headB (⟨codes, ((fl : Nat) : Int), done⟩ : Gs)) ++ (done.take k).flatMap recB) ++ be idn 8).length + 2 = ((((headB (⟨codes, ((fl : Nat) : Int), done⟩ : Gs)) ++ (done.take k).flatMap recB) ++ be idn 8) ++ [byteI st, byteI ky]).length := by rw [List.length_append (bs := [byteI st, byteI ky])]; rfl
   have h : On W0 (Own 1 (.slice a59 ((((headB (⟨codes, ((fl : Nat) : Int), done⟩ : Gs)) ++ (done.take k).flatMap recB) ++ be idn 8).length + 2) c59) ((((headB (⟨codes, ((fl : Nat) : Int), done⟩ : Gs)) ++ (done.take k).flatMap recB) ++ be idn 8).length + 2) (bytesV (((headB (⟨codes, ((fl : Nat) : Int), done⟩ : Gs)) ++ (done.take k).flatMap recB) ++ be idn 8) ++ [.int .u8 ((byteI st).toNat : Int), .int .u8 ((byteI ky).toNat : Int)]) :: _) w := h
   rw [e2, e3] at h
   rw [e3] at hv59
   subst hv59
   refine WL.val run_assign rfl rfl (WL.nil (W.seq ?_))
   refine W.draw Tryz.follows h (fun w h => ?_)
   refine WT.pure 0 rfl (by kernel_rfl) (fun w' => run_move) rfl rfl (WT.pure 1 rfl (by kernel_rfl) (fun w' => (run_fieldAddr 2 underlying36 rfl sizeOf3 rfl rfl)) rfl rfl (WT.load1 2 rfl (by kernel_rfl) isAgg3 rfl (h.cellB rfl) rfl rfl (WT.pure 3 rfl (by kernel_rfl) (fun w' => (run_convIn underlying3 underlying23 rfl (by show (0 : Int) ≤ _; (try dsimp only); omega) (by show _ ≤ (18446744073709551615 : Int); (try dsimp only); omega))) rfl rfl (WT.pure 5 rfl (by kernel_rfl) (fun w' => (run_fieldAddr 4 underlying36 rfl sizeOf3 rfl rfl)) rfl rfl (WT.load1 6 rfl (by kernel_rfl) isAgg3 rfl (h.cellB rfl) rfl rfl (WT.pure 7 rfl (by kernel_rfl) (fun w' => (run_convIn underlying3 underlying23 rfl (by show (0 : Int) ≤ _; (try dsimp only); omega) (by show _ ≤ (18446744073709551615 : Int); (try dsimp only); omega))) rfl rfl ?_))))))
   refine WT.eff 4 [true, false] rfl (by kernel_rfl) (by kernel_rfl) (eff_call call59 (bput_ok (v := cdn) (n := 2) (bs := ((((headB (⟨codes, ((fl : Nat) : Int), done⟩ : Gs)) ++ (done.take k).flatMap recB) ++ be idn 8) ++ [byteI st, byteI ky])) h (Gives.ownO (v := .slice a59 ((((headB (⟨codes, ((fl : Nat) : Int), done⟩ : Gs)) ++ (done.take k).flatMap recB) ++ be idn 8) ++ [byteI st, byteI ky]).length c59)) (by decide) (by decide) (by omega) (by omega))) rfl rfl ?_
   rintro _ w ⟨a64, rfl, h⟩
   refine ⟨⟨h.cellB rfl, trivial⟩, ?_⟩
   refine WT.eff 8 [false] rfl (by kernel_rfl) (by kernel_rfl) (eff_call call59 (bput_ok (v := infn) (n := 4) (bs := (((((headB (⟨codes, ((fl : Nat) : Int), done⟩ : Gs)) ++ (done.take k).flatMap recB) ++ be idn 8) ++ [byteI st, byteI ky]) ++ be cdn 2)) h (Gives.ownO (v := .slice a64 (((((headB (⟨codes, ((fl : Nat) : Int), done⟩ : Gs)) ++ (done.take k).flatMap recB) ++ be idn 8) ++ [byteI st, byteI ky]) ++ be cdn 2).length (((((headB (⟨codes, ((fl : Nat) : Int), done⟩ : Gs)) ++ (done.take k).flatMap recB) ++ be idn 8) ++ [byteI st, byteI ky]) ++ be cdn 2).length)) (by decide) (by decide) (by omega) (by omega))) rfl rfl ?_
   rintro _ w ⟨a68, rfl, h⟩
   refine ⟨trivial, ?_⟩
   refine WT.pure 9 rfl (by kernel_rfl) (fun w' => run_assign) rfl rfl (WT.done (by kernel_rfl) (W.region (WL.val run_move rfl rfl (WL.val (run_fieldAddr 3 underlying36 rfl sizeOf22 rfl rfl) rfl rfl (WL.val (run_load1 isAgg22 rfl (h.cellB rfl)) rfl rfl ?_)))))
   refine WL.eff (eff_call call47 (upart_ok (bs := ((((((headB (⟨codes, ((fl : Nat) : Int), done⟩ : Gs)) ++ (done.take k).flatMap recB) ++ be idn 8) ++ [byteI st, byteI ky]) ++ be cdn 2) ++ be infn 4)) (vs := dt) (by omega) (by omega) h (Gives.ownO (v := .slice a68 ((((((headB (⟨codes, ((fl : Nat) : Int), done⟩ : Gs)) ++ (done.take k).flatMap recB) ++ be idn 8) ++ [byteI st, byteI ky]) ++ be cdn 2) ++ be infn 4).length ((((((headB (⟨codes, ((fl : Nat) : Int), done⟩ : Gs)) ++ (done.take k).flatMap recB) ++ be idn 8) ++ [byteI st, byteI ky]) ++ be cdn 2) ++ be infn 4).length)) (Gives.to (T := [Pool pool]) (Gives.pool hp)))) rfl rfl ?_
   rintro _ w ⟨a72, c72, rfl, h⟩
   refine WL.val run_assign rfl rfl (WL.nil (W.region (WL.val (run_incN rfl rfl (by omega)) rfl rfl (WL.val run_move rfl rfl (WL.nil ?_)))))
   exact ⟨k + 1, ⟨by omega, _, a72, c72, mkE_of ⟨rfl, congrArg (fun q : List UInt8 => Value.slice a72 q.length c72) e5, rfl, rfl, rfl, trivial⟩, by rw [e5] at h; exact h.to⟩, by show done.length - (k + 1) < done.length - k; omega⟩
  refine W.exit (W.seq (W.region (WL.val run_move rfl rfl (WL.val run_assign rfl rfl (WL.nil (W.ret (bodyQ.r1 (v := .slice _ _ _) results50 rfl ?_)))))))
  have ob_ : k = done.length := by omega
  obtain rfl := ob_
  have e6 : ((headB (⟨codes, ((fl : Nat) : Int), done⟩ : Gs)) ++ (done.take done.length).flatMap recB) = guestB (⟨codes, ((fl : Nat) : Int), done⟩ : Gs) := by unfold guestB; rw [List.take_length]
  rw [e6] at h
  exact ⟨ao, co, congrArg (fun q : List UInt8 => Value.slice ao q.length co) e6, h.to⟩
end Go.Proofs.YtjbgiingimhnnaaGreat
/-
  A unit: a unit written: the contracts. Lines of walks printed by a program of the prover's.
-/
namespace Go.Proofs.YtjbgiingimhnnaaGreat
open Go.Proofs.Tryz
open Go Go.Sl Go.Sl.BitM Go.Sl.SpM Go.Sl.RsM Go.Sl.ByM Go.Sl.UnM
set_option linter.unusedVariables false
set_option linter.unusedSimpArgs false
set_option maxHeartbeats 1000000
set_option maxRecDepth 8000
variable {W0 w : World} {L F : List HProp}
theorem uencode_ok {bu : Nat} {u : Un} {pool : PoolL} {ms : List Nat} (hcap : capS u.s) (hT : okT u.t) (hG : ∀ i, i < 8 → okG (u.guest i) ∧ (u.guest i).done.length ≤ 1) (h0 : (SpM.encS u.s).length ≤ 10000000000) (h : On W0 (UnP 68 105 113 bu pool ms u :: Pool pool :: L) w) : Calls Tryz.prog 17 #[.pointer (some ⟨bu, 0, none⟩)] w (Ret fun v w' => ∃ a, v = .slice a (encU u (SpM.encS u.s)).length (encU u (SpM.encS u.s)).length ∧ On W0 (OwnB (.slice a (encU u (SpM.encS u.s)).length (encU u (SpM.encS u.s)).length) (encU u (SpM.encS u.s)) :: UnP 68 105 113 bu pool ms u :: Pool pool :: L) w') := by
  refine enter func17 rfl ntmps17 rfl ?_
  have hmx := maxLen_eq
  have ob_ := openU h
  obtain ⟨bs, bt, gs, hm, hl, h⟩ := ob_
  have hgl : gs.length = 8 := by rw [← hl, ← hm.1, List.length_map]
  have hrl : (gs.flatMap GX.row).length = 24 := by rw [rows_len, hgl]
  have hv24 : ((ucells bs bt gs).drop (0 + 2)).take 24 = gs.flatMap GX.row := by show (gs.flatMap GX.row).take 24 = _; exact List.take_of_length_le (by omega)
  have hp1 : (partB [] (SpM.encS u.s)).length = 4 + (SpM.encS u.s).length := by unfold partB; simp only [List.length_append, be_length, List.length_nil, Nat.zero_add]
  have htl : (encT u.t).length = 70 := by unfold encT; rw [List.length_append, encTK_len]; rfl
  have hkl := encUK_len (u := u) (s0 := (SpM.encS u.s)) hG
  refine W.seq (W.region (WL.val run_assign rfl rfl (WL.nil (W.seq ?_))))
  refine W.draw Tryz.follows h (fun w h => ?_)
  refine WT.pure 0 rfl (by kernel_rfl) (fun w' => run_move) rfl rfl (WT.pure 1 rfl (by kernel_rfl) (fun w' => (run_nilCheck rfl)) rfl rfl (WT.pure 2 rfl (by kernel_rfl) (fun w' => (run_fieldAddr 0 underlying68 rfl sizeOf56 rfl rfl)) rfl rfl (WT.load1 3 rfl (by kernel_rfl) isAgg56 rfl (h.cellB rfl) rfl rfl (WT.pure 6 rfl (by kernel_rfl) (fun w' => run_move) rfl rfl (WT.pure 7 rfl (by kernel_rfl) (fun w' => (run_nilCheck rfl)) rfl rfl (WT.pure 8 rfl (by kernel_rfl) (fun w' => (run_fieldAddr 1 underlying68 rfl sizeOf59 rfl rfl)) rfl rfl (WT.load1 9 rfl (by kernel_rfl) isAgg59 rfl (h.cellB rfl) rfl rfl ?_)))))))
  refine WT.eff 4 [true, false] rfl (by kernel_rfl) (by kernel_rfl) (eff_call call48 (sencode_ok (b := bs) hcap (h.fetch (SpP 105 bs u.s)))) rfl rfl ?_
  rintro _ w ⟨a10, rfl, h⟩
  refine ⟨⟨h.cellB rfl, trivial⟩, ?_⟩
  refine WT.eff 5 [true] rfl (by kernel_rfl) (by kernel_rfl) (eff_call call47 (upart_ok (ab := none) (cb := 0) (bs := []) (vs := (SpM.encS u.s)) (by decide) (by omega) h Gives.nilB (Gives.ownO (v := .slice a10 (SpM.encS u.s).length (SpM.encS u.s).length)))) rfl rfl ?_
  rintro _ w ⟨a11, c11, rfl, h⟩
  refine ⟨⟨h.cellB rfl, trivial⟩, ?_⟩
  refine WT.eff 10 [false] rfl (by kernel_rfl) (by kernel_rfl) (eff_call call49 (rencode_ok (b := bt) hT (h.fetch (blk bt u.t.cells 113)))) rfl rfl ?_
  rintro _ w ⟨a16, c16, rfl, h⟩
  refine ⟨trivial, ?_⟩
  refine WT.eff 11 [] rfl (by kernel_rfl) (by kernel_rfl) (eff_call call47 (upart_ok (bs := (partB [] (SpM.encS u.s))) (vs := encT u.t) (by omega) (by omega) h (Gives.ownO (v := .slice a11 (partB [] (SpM.encS u.s)).length c11)) (Gives.ownO (v := .slice a16 (encT u.t).length c16)))) rfl rfl ?_
  rintro _ w ⟨a17, c17, rfl, h⟩
  have h : On W0 (OwnB (.slice a17 (encUK u (SpM.encS u.s) 0).length c17) (encUK u (SpM.encS u.s) 0) :: _) w := h
  refine ⟨trivial, ?_⟩
  refine WT.pure 12 rfl (by kernel_rfl) (fun w' => run_assign) rfl rfl (WT.done (by kernel_rfl) (W.seq (W.seq (W.region (WL.val run_move rfl rfl (WL.val (run_nilCheck rfl) rfl rfl (WL.val (run_fieldAddr 2 underlying68 rfl sizeOf66 rfl rfl) rfl rfl ?_)))))))
  refine WL.val (run_loadB (vs := gs.flatMap GX.row) h isAgg66 sizeOf66 rfl hv24 hrl) rfl rfl (WL.val run_move rfl rfl (WL.nil (W.block ?_)))
  refine W.loop (fun (k : Nat) env w => k ≤ 8 ∧ ∃ (j : Env) (ao : Option Addr) (co : Nat), env = mkE j [(3, .slice ao (encUK u (SpM.encS u.s) k).length co), (21, .agg (gs.flatMap GX.row).toArray), (22, .int .i64 (k : Int))] ∧ On W0 (OwnB (.slice ao (encUK u (SpM.encS u.s) k).length co) (encUK u (SpM.encS u.s) k) :: blk bu (ucells bs bt gs) 68 :: SpP 105 bs u.s :: blk bt u.t.cells 113 :: Big (GOwn pool) gs :: Pool pool :: L) w) (fun k => 8 - k) (0) ?_ ?_
  · exact ⟨Nat.zero_le _, _, a17, c17, mkE_of ⟨rfl, rfl, rfl, trivial⟩, h.to⟩
  rintro k env w ⟨hk8, j, ao, co, rfl, h⟩
  have hlk := hkl k hk8
  refine W.seq (W.region (WL.val (run_lss rfl rfl) rfl rfl (WL.nil (W.seq ?_))))
  refine W.condIf rfl (fun c6 => ?_) (fun c6 => ?_)
  ·
   refine W.skip (W.seq ?_)
   have hk7 : k < 8 := by omega
   have ob_ := row_of hm hl hk7
   obtain ⟨g, hg, hgu⟩ := ob_
   have hgk := hG k hk7
   rw [← hgu] at hgk
   obtain ⟨hgk, hg1⟩ := hgk
   obtain ⟨⟨codes, floor, done⟩, ga, gc, gmb, gck, gkvs⟩ := g
   have ob_ := Int.eq_ofNat_of_zero_le (show 0 ≤ floor from hgk.2.2.1)
   obtain ⟨fl, hfl⟩ := ob_
   subst hfl
   have hig : k < gs.length := by omega
   have hrow := drop_flatMap GX.row 3 (fun _ => rfl) gs _ _ hg
   have h := Big.open hg (h.fetch (Big (GOwn pool) gs))
   have ob_ := openG h
   obtain ⟨hok, h⟩ := ob_
   have h : On W0 (Own 1 (.slice ga codes.length gc) codes.length (cV codes) :: MapC gmb .u64 gkvs gck :: _) w := h
   have hgl2 : (guestB (⟨codes, ((fl : Nat) : Int), done⟩ : Gs)).length ≤ 30100 := guestB_len hgk hg1
   refine W.block (W.seq (W.region (WL.val (run_indexArrN (size := 3) (i := k) (vs := [.slice ga codes.length gc, .int .u64 ((fl : Nat) : Int), .map (some gmb)]) underlying66 sizeOf65 isAgg65 rfl rfl hk7 hrow) rfl rfl (WL.eff (eff_alloc h zeroValue65 rfl) rfl rfl ?_))))
   rintro _ w ⟨b5, rfl, h⟩
   refine WL.eff (eff_storeW (vs := [.slice _ _ _, .int .u64 _, .map _]) h sizeOf65 rfl rfl rfl rfl rfl) rfl rfl ?_
   rintro _ w h
   refine WL.nil (W.region (WL.val run_move rfl rfl (WL.val (run_loadB (vs := [.slice _ _ _, .int .u64 _, .map _]) h isAgg65 sizeOf65 rfl rfl rfl) rfl rfl (WL.eff (eff_call call50 (gwrite_ok (codes := codes) (fl := fl) (done := done) (ga := ga) (gc := gc) (mb := gmb) (ck := gck) (kvs := gkvs) (pool := pool) hok hgk hg1 (((h.fetch (Pool pool)).fetch (MapC gmb .u64 gkvs gck)).fetch (Own 1 (.slice ga codes.length gc) codes.length (cV codes))))) rfl rfl ?_))))
   rintro _ w ⟨a27, c27, rfl, h⟩
   refine WL.eff (eff_call call47 (upart_ok (bs := (encUK u (SpM.encS u.s) k)) (vs := guestB (⟨codes, ((fl : Nat) : Int), done⟩ : Gs)) (by omega) (by omega) h (Gives.ownO (v := .slice ao (encUK u (SpM.encS u.s) k).length co)) (Gives.ownO (v := .slice a27 (guestB (⟨codes, ((fl : Nat) : Int), done⟩ : Gs)).length c27)))) rfl rfl ?_
   rintro _ w ⟨a28, c28, rfl, h⟩
   refine WL.val run_assign rfl rfl (WL.nil (W.region (WL.val (run_incN rfl rfl (by omega)) rfl rfl (WL.val run_move rfl rfl (WL.nil ?_)))))
   have e : partB (encUK u (SpM.encS u.s) k) (guestB (⟨codes, ((fl : Nat) : Int), done⟩ : Gs)) = (encUK u (SpM.encS u.s) (k + 1)) := by show _ = partB _ (guestB (u.guest k)); rw [← hgu]
   rw [e] at h
   have h := Big.close (y := (⟨⟨codes, ((fl : Nat) : Int), done⟩, ga, gc, gmb, gck, gkvs⟩ : GX)) hig (closeG (g := (⟨⟨codes, ((fl : Nat) : Int), done⟩, ga, gc, gmb, gck, gkvs⟩ : GX)) hok (((h.fetch (Big (GOwn pool) (gs.eraseIdx k))).fetch (MapC gmb .u64 gkvs gck)).fetch (Own 1 (.slice ga codes.length gc) codes.length (cV codes))))
   rw [set_same hg] at h
   exact ⟨k + 1, ⟨by omega, _, a28, c28, mkE_of ⟨congrArg (fun q : List UInt8 => Value.slice a28 q.length c28) e, rfl, rfl, trivial⟩, h.to⟩, by show 8 - (k + 1) < 8 - k; omega⟩
  refine W.exit (W.seq ?_)
  have ob_ : k = 8 := by omega
  obtain rfl := ob_
  refine W.region (WL.val run_move rfl rfl (WL.eff (eff_call call51 (clip_bytes h)) rfl rfl ?_))
  rintro _ w ⟨rfl, h⟩
  refine WL.val run_assign rfl rfl (WL.nil (W.ret (bodyQ.r1 (v := .slice _ _ _) results17 rfl ?_)))
  have h3 := closeU (bu := bu) (u := u) hm hl ((((h.fetch (Big (GOwn pool) gs)).fetch (blk bt u.t.cells 113)).fetch (SpP 105 bs u.s)).fetch (blk bu (ucells bs bt gs) 68))
  have h3 : On W0 (OwnB (.slice ao (encU u (SpM.encS u.s)).length (encU u (SpM.encS u.s)).length) (encU u (SpM.encS u.s)) :: _) w := h3.fetch (Own 1 (.slice ao (encUK u (SpM.encS u.s) 8).length (encUK u (SpM.encS u.s) 8).length) (encUK u (SpM.encS u.s) 8).length (bytesV (encUK u (SpM.encS u.s) 8)))
  exact ⟨ao, rfl, h3.to⟩
end Go.Proofs.YtjbgiingimhnnaaGreat
/-
  Bytes read as a guest, as plain data. No program is named here.
-/
namespace Go.Sl.UnM
open Go Go.Sl Go.Sl.BitM Go.Sl.SpM Go.Sl.RsM Go.Sl.ByM
set_option linter.unusedVariables false
set_option linter.unusedSimpArgs false
/-- What is left to be read, and whether there was a fault. -/
abbrev RS := List UInt8 × Bool
def rdN (n : Nat) (s : RS) : Nat × RS := if n ≤ s.1.length then (beV (s.1.take n), (s.1.drop n, s.2)) else (0, ([], true))
def rdP (s : RS) : List UInt8 × RS :=
  if 4 ≤ s.1.length ∧ beV (s.1.take 4) ≤ (s.1.drop 4).length then ((s.1.drop 4).take (beV (s.1.take 4)), ((s.1.drop 4).drop (beV (s.1.take 4)), s.2)) else ([], ([], true))
def rdCodes : Nat → RS → List Int → List Int × RS
  | 0, s, l => (l, s)
  | n + 1, s, l => if s.2 then (l, s) else rdCodes n (rdN 2 s).2 (l ++ [((rdN 2 s).1 : Int)])
def putD (D : List (Int × Rp)) (id : Int) (r : Rp) : List (Int × Rp) := if id ∈ D.map (·.1) then D.map fun x => if x.1 = id then (id, r) else x else D ++ [(id, r)]
def rdOne (s : RS) : (Int × Rp) × RS :=
  let a := rdN 8 s
  let b := rdN 1 a.2
  let c := rdN 1 b.2
  let d := rdN 2 c.2
  let e := rdN 4 d.2
  let p := rdP e.2
  (((a.1 : Int), ⟨(b.1 : Int), (c.1 : Int), (d.1 : Int), p.1, (e.1 : Int)⟩), p.2)
def rdDone : Nat → RS → List (Int × Rp) → List (Int × Rp) × RS
  | 0, s, D => (D, s)
  | n + 1, s, D => if s.2 then (D, s) else rdDone n (rdOne s).2 (putD D (rdOne s).1.1 (rdOne s).1.2)
def readG (b : List UInt8) : Bool × Gs :=
  let a := rdN 2 (b, false)
  let c := rdCodes a.1 a.2 []
  let f := rdN 8 c.2
  let n := rdN 2 f.2
  let d := rdDone n.1 n.2 []
  (!d.2.2 && decide (d.2.1 = []), ⟨c.1, (f.1 : Int), d.1⟩)
theorem rdN_lt {n : Nat} {s : RS} : (rdN n s).1 < 256 ^ n := by
  unfold rdN
  split
  · have h1 := beV_lt (s.1.take n)
    exact Nat.lt_of_lt_of_le h1 (Nat.pow_le_pow_right (by decide) (by rw [List.length_take]; omega))
  · exact Nat.pow_pos (by decide)
theorem rdN_len {n : Nat} {s : RS} : (rdN n s).2.1.length ≤ s.1.length := by
  unfold rdN
  split
  · show (s.1.drop n).length ≤ _; rw [List.length_drop]; omega
  · exact Nat.zero_le _
theorem rdP_len {s : RS} : (rdP s).1.length ≤ s.1.length ∧ (rdP s).2.1.length ≤ s.1.length := by
  unfold rdP
  split
  · refine ⟨?_, ?_⟩
    · show ((s.1.drop 4).take _).length ≤ _; rw [List.length_take, List.length_drop]; omega
    · show ((s.1.drop 4).drop _).length ≤ _; rw [List.length_drop, List.length_drop]; omega
  · exact ⟨Nat.zero_le _, Nat.zero_le _⟩
section
variable {pool : PoolL} {D : List (Int × Rp)} {kvs : List KV} {id : Int} {r : Rp} {dv : Value} {ck : Nat}
theorem putD_keys_in (h : id ∈ D.map (·.1)) : (putD D id r).map (·.1) = D.map (·.1) := by
  unfold putD
  rw [if_pos h, List.map_map]
  refine List.map_congr_left fun x _ => ?_
  show (if x.1 = id then (id, r) else x).1 = x.1
  split
  · rename_i e; exact e.symm
  · rfl
theorem putM_keys_in {v : Value} (h : kvs.any (fun x => x.1 == id) = true) : (putM kvs id v ck).map (·.1) = kvs.map (·.1) := by
  unfold putM
  rw [if_pos h, List.map_map]
  refine List.map_congr_left fun x _ => ?_
  show (if x.1 = id then (id, v, x.2.2) else x).1 = x.1
  split
  · rename_i e; exact e.symm
  · rfl
/-- A value stored, there or not. -/
theorem okD_set (h : okD pool D kvs) (hp : (dv, r.data) ∈ pool) : okD pool (putD D id r) (putM kvs id (r.val dv) ck) := by
  by_cases hin : id ∈ D.map (·.1)
  · obtain ⟨h1, h2, h3⟩ := h
    have hany : kvs.any (fun x => x.1 == id) = true := by
      obtain ⟨x, hx, e⟩ := List.mem_map.1 (h1.mem_iff.2 hin)
      exact List.any_eq_true.2 ⟨x, hx, by simp [e]⟩
    refine ⟨by rw [putD_keys_in hin, putM_keys_in hany]; exact h1, by rw [putD_keys_in hin]; exact h2, fun x hx => ?_⟩
    rcases mem_putM hx with ⟨e1, e2⟩ | ⟨hx, hne⟩
    · refine ⟨r, dv, ?_, e2, hp⟩
      rw [e1]
      obtain ⟨y, hy, e⟩ := List.mem_map.1 hin
      unfold putD
      rw [if_pos hin]
      exact List.mem_map.2 ⟨y, hy, by rw [if_pos e]⟩
    · obtain ⟨r', dv', hr1, hr2, hr3⟩ := h3 x hx
      refine ⟨r', dv', ?_, hr2, hr3⟩
      unfold putD
      rw [if_pos hin]
      exact List.mem_map.2 ⟨_, hr1, by rw [if_neg hne]⟩
  · have e : putD D id r = D ++ [(id, r)] := by unfold putD; rw [if_neg hin]
    rw [e]
    exact okD_putIn h hp hin
end
theorem rdCodes_bad {n : Nat} {s : RS} {l : List Int} (h : s.2 = true) : rdCodes n s l = (l, s) := by
  cases n with
  | zero => rfl
  | succ n => unfold rdCodes; rw [if_pos h]
theorem rdDone_bad {n : Nat} {s : RS} {D : List (Int × Rp)} (h : s.2 = true) : rdDone n s D = (D, s) := by
  cases n with
  | zero => rfl
  | succ n => unfold rdDone; rw [if_pos h]
theorem rdCodes_len : ∀ (n : Nat) (s : RS) (l : List Int), (rdCodes n s l).2.1.length ≤ s.1.length
  | 0, s, l => Nat.le_refl _
  | n + 1, s, l => by
    unfold rdCodes
    split
    · exact Nat.le_refl _
    · exact Nat.le_trans (rdCodes_len n _ _) rdN_len
theorem rdDone_step {m : Nat} {s : RS} {D : List (Int × Rp)} (h : s.2 = false) : rdDone (m + 1) s D = rdDone m (rdP (rdN 4 (rdN 2 (rdN 1 (rdN 1 (rdN 8 s).2).2).2).2).2).2 (putD D ((rdN 8 s).1 : Int) (⟨((rdN 1 (rdN 8 s).2).1 : Int), ((rdN 1 (rdN 1 (rdN 8 s).2).2).1 : Int), ((rdN 2 (rdN 1 (rdN 1 (rdN 8 s).2).2).2).1 : Int), (rdP (rdN 4 (rdN 2 (rdN 1 (rdN 1 (rdN 8 s).2).2).2).2).2).1, ((rdN 4 (rdN 2 (rdN 1 (rdN 1 (rdN 8 s).2).2).2).2).1 : Int)⟩ : Rp)) := by
  rw [rdDone, if_neg (by rw [h]; decide)]
  simp only [rdOne]
theorem readG_eq (b : List UInt8) : readG b = (!(rdDone (rdN 2 (rdN 8 (rdCodes (rdN 2 (b, false)).1 (rdN 2 (b, false)).2 []).2).2).1 (rdN 2 (rdN 8 (rdCodes (rdN 2 (b, false)).1 (rdN 2 (b, false)).2 []).2).2).2 []).2.2 && decide ((rdDone (rdN 2 (rdN 8 (rdCodes (rdN 2 (b, false)).1 (rdN 2 (b, false)).2 []).2).2).1 (rdN 2 (rdN 8 (rdCodes (rdN 2 (b, false)).1 (rdN 2 (b, false)).2 []).2).2).2 []).2.1 = []), ⟨(rdCodes (rdN 2 (b, false)).1 (rdN 2 (b, false)).2 []).1, ((rdN 8 (rdCodes (rdN 2 (b, false)).1 (rdN 2 (b, false)).2 []).2).1 : Int), (rdDone (rdN 2 (rdN 8 (rdCodes (rdN 2 (b, false)).1 (rdN 2 (b, false)).2 []).2).2).1 (rdN 2 (rdN 8 (rdCodes (rdN 2 (b, false)).1 (rdN 2 (b, false)).2 []).2).2).2 []).1⟩) := by
  simp only [readG]
/-! ### A table read -/
def kAt (b : List UInt8) (i : Nat) : Int := (beV ((b.drop (4 + 8 * i)).take 8) : Nat)
def tK (b : List UInt8) (k : Nat) : Tb := ⟨fun j => if j < k then kAt b j else 0, -1, 0, ((beV (b.take 4) : Nat) : Int)⟩
def decT0 (b : List UInt8) : Tb := if (b.getD 68 0).toNat < 8 ∧ (tK b 8).K (b.getD 68 0).toNat ≠ 0 ∧ typedB ((b.getD 69 0).toNat : Int) = true then (tK b 8).take ((b.getD 68 0).toNat : Int) ((b.getD 69 0).toNat : Int) else tK b 8
def decT (b : List UInt8) : Option Tb := if b.length = 70 ∧ encT (decT0 b) = b then some (decT0 b) else none
theorem kAt_lt (b : List UInt8) (i : Nat) : 0 ≤ kAt b i ∧ kAt b i < 18446744073709551616 := by
  have h1 := beV_lt ((b.drop (4 + 8 * i)).take 8)
  have h2 : 256 ^ ((b.drop (4 + 8 * i)).take 8).length ≤ 256 ^ 8 := Nat.pow_le_pow_right (by decide) (by rw [List.length_take]; omega)
  have h3 : (256 : Nat) ^ 8 = 18446744073709551616 := by decide
  unfold kAt
  omega
theorem gen_lt (b : List UInt8) : beV (b.take 4) < 4294967296 := by
  have h1 := beV_lt (b.take 4)
  have h2 : 256 ^ (b.take 4).length ≤ 256 ^ 4 := Nat.pow_le_pow_right (by decide) (by rw [List.length_take]; omega)
  have h3 : (256 : Nat) ^ 4 = 4294967296 := by decide
  omega
theorem tK_put (b : List UInt8) (k : Nat) : (tK b k).put k (kAt b k) = tK b (k + 1) := by
  unfold tK Tb.put
  congr 1
  funext j
  show (if j = k then kAt b k else if j < k then kAt b j else 0) = if j < k + 1 then kAt b j else 0
  by_cases h : j = k
  · subst h; rw [if_pos rfl, if_pos (by omega)]
  · rw [if_neg h]
    by_cases h2 : j < k
    · rw [if_pos h2, if_pos (by omega)]
    · rw [if_neg h2, if_neg (by omega)]
theorem tK_ok (b : List UInt8) : okT (tK b 8) := by
  refine ⟨fun i hi => ?_, Int.natCast_nonneg _, by have := gen_lt b; show ((beV (b.take 4) : Nat) : Int) < _; omega⟩
  show 0 ≤ (if i < 8 then kAt b i else 0) ∧ (if i < 8 then kAt b i else 0) < _
  rw [if_pos hi]
  exact kAt_lt b i
theorem decT0_ok (b : List UInt8) : okT (decT0 b) := by
  unfold decT0
  split
  · exact tK_ok b
  · exact tK_ok b
/-! ### Blocks read -/
def decRows : List (Nat × Nat) → Sp → List UInt8 → Option Sp
  | [], s, _ => some s
  | r :: l, s, rest => if s.N < r.1 + r.2 ∨ rest.length < 8 * r.2 then none else decRows l ⟨s.N, over s.d (8 * r.1) (rest.take (8 * r.2)), s.m⟩ (rest.drop (8 * r.2))
def nB (b : List UInt8) : Nat := if 2 ≤ b.length then beV (b.take 2) else 0
def mB (b : List UInt8) : List UInt8 := (b.drop 2).take ((nB b + 7) / 8)
def decS0 (b : List UInt8) : Option Sp :=
  if (1 ≤ nB b ∧ nB b ≤ 1024) ∧ 2 + (nB b + 7) / 8 ≤ b.length then decRows (rowsOf (mB b)) ⟨nB b, List.replicate (8 * nB b) 0, mB b⟩ (b.drop (2 + (nB b + 7) / 8)) else none
def decS (b : List UInt8) : Option Sp := (decS0 b).bind fun s => if SpM.encS s = b then some s else none
theorem nB_lt (b : List UInt8) : nB b < 65536 := by
  unfold nB
  split
  · have h1 := beV_lt (b.take 2)
    have h2 : 256 ^ (b.take 2).length ≤ 256 ^ 2 := Nat.pow_le_pow_right (by decide) (by rw [List.length_take]; omega)
    have h3 : (256 : Nat) ^ 2 = 65536 := by decide
    omega
  · decide
theorem mB_len {b : List UInt8} (h : 2 + (nB b + 7) / 8 ≤ b.length) : (mB b).length = (nB b + 7) / 8 := by unfold mB; rw [List.length_take, List.length_drop]; omega
theorem capS_rows {s : Sp} {R : List (Nat × Nat)} (hR : BitM.Rows s.m R) (h : ∀ r ∈ R, r.1 + r.2 ≤ s.N) : capS s := fun j hj => by
  obtain ⟨r, hr, h1, h2⟩ := (hR.cover j).1 hj
  have := h r hr
  omega
theorem decRows_step {l : List (Nat × Nat)} {r : Nat × Nat} {s : Sp} {rest : List UInt8} {k : Nat} (h : l[k]? = some r) (hn : ¬ (s.N < r.1 + r.2 ∨ rest.length < 8 * r.2)) :
    decRows (l.drop k) s rest = decRows (l.drop (k + 1)) ⟨s.N, over s.d (8 * r.1) (rest.take (8 * r.2)), s.m⟩ (rest.drop (8 * r.2)) := by
  have hlt := (List.getElem?_eq_some_iff.1 h).1
  have he := (List.getElem?_eq_some_iff.1 h).2
  rw [List.drop_eq_getElem_cons hlt, he]
  show (if _ then _ else _) = _
  rw [if_neg hn]
theorem decRows_stop {l : List (Nat × Nat)} {r : Nat × Nat} {s : Sp} {rest : List UInt8} {k : Nat} (h : l[k]? = some r) (hn : s.N < r.1 + r.2 ∨ rest.length < 8 * r.2) : decRows (l.drop k) s rest = none := by
  have hlt := (List.getElem?_eq_some_iff.1 h).1
  have he := (List.getElem?_eq_some_iff.1 h).2
  rw [List.drop_eq_getElem_cons hlt, he]
  show (if _ then _ else _) = _
  rw [if_pos hn]
/-! ### A unit read -/
def rdGs : Nat → RS → List Gs → Option (RS × List Gs)
  | 0, s, l => some (s, l)
  | n + 1, s, l => if (readG (rdP s).1).1 = true then rdGs n (rdP s).2 (l ++ [(readG (rdP s).1).2]) else none
def decU0 (b : List UInt8) : Option Un :=
  (decS (rdP (b, false)).1).bind fun s => (decT (rdP (rdP (b, false)).2).1).bind fun t => (rdGs 8 (rdP (rdP (b, false)).2).2 []).bind fun p => if p.1.2 = true then none else some ⟨s, t, p.2⟩
def decU (b : List UInt8) : Option Un := (decU0 b).bind fun u => if encU u (SpM.encS u.s) = b then some u else none
end Go.Sl.UnM
/-
  A unit: a reader: the contracts. Lines of walks printed by a program of the prover's.
-/
namespace Go.Proofs.YtjbgiingimhnnaaGreat
open Go.Proofs.Tryz
open Go Go.Sl Go.Sl.BitM Go.Sl.SpM Go.Sl.RsM Go.Sl.ByM Go.Sl.UnM
set_option linter.unusedVariables false
set_option linter.unusedSimpArgs false
set_option maxHeartbeats 1000000
set_option maxRecDepth 8000
variable {W0 w : World} {L F : List HProp}
theorem number_ok [tF : To L F] {br cb : Nat} {ab : Option Addr} {bs : List UInt8} {bad : Bool} {n : Nat} (hn1 : 1 ≤ n) (hn8 : n ≤ 8) (h : On W0 (blk br [.slice ab bs.length cb, .bool bad] 55 :: L) w) (C : Gives F (Bytes (.slice ab bs.length cb) bs)) : Calls Tryz.prog 55 #[.pointer (some ⟨br, 0, none⟩), .int .i64 (n : Int)] w (Ret fun v w' => (n ≤ bs.length ∧ ∃ a' c', Gives F (Bytes (.slice a' (bs.drop n).length c') (bs.drop n)) ∧ v = .int .u64 (beV (bs.take n) : Int) ∧ On W0 (blk br [.slice a' (bs.drop n).length c', .bool bad] 55 :: L) w') ∨ (bs.length < n ∧ v = .int .u64 0 ∧ On W0 (blk br [.slice none ([] : List UInt8).length 0, .bool true] 55 :: L) w')) := by
  refine enter func55 rfl ntmps55 rfl ?_
  have hmx := maxLen_eq
  have ob_ := Cells.bounds (h.readsTo C)
  obtain ⟨hbc, hbm⟩ := ob_
  refine W.seq (W.region (WL.val run_assign rfl rfl (WL.nil (W.seq (W.region (WL.val run_move rfl rfl (WL.val (run_nilCheck rfl) rfl rfl ?_)))))))
  refine WL.val (run_fieldAddr 0 underlying55 rfl sizeOf22 rfl rfl) rfl rfl (WL.val (run_load1 isAgg22 rfl (h.cellB rfl)) rfl rfl (WL.val run_move rfl rfl (WL.eff (eff_call call52 (bget_ok (at_ := ((0 : Nat) : Int)) (n := (n : Int)) (bs := bs) h (Gives.to C))) rfl rfl ?_)))
  rintro _ w hg
  rcases hg with ⟨hok, rfl, h⟩ | ⟨hno, rfl, h⟩
  ·
   refine WL.val run_move rfl rfl (WL.val (run_extract rfl rfl) rfl rfl (WL.val (run_extract rfl rfl) rfl rfl (WL.val run_assign rfl rfl (WL.val run_assign rfl rfl (WL.nil (W.seq (W.seq ?_)))))))
   refine W.region (WL.val run_move rfl rfl (WL.val (run_not rfl) rfl rfl (WL.nil (W.condF rfl (W.skip (W.seq ?_))))))
   have hle : n ≤ bs.length := by omega
   have ob_ := cut_gives (k := n) C hle hbc
   obtain ⟨a', c', hcut, CC⟩ := ob_
   refine W.region (WL.val run_move rfl rfl (WL.val run_move rfl rfl (WL.val (run_nilCheck rfl) rfl rfl (WL.val (run_fieldAddr 0 underlying55 rfl sizeOf22 rfl rfl) rfl rfl (WL.val (run_load1 isAgg22 rfl (h.cellB rfl)) rfl rfl (WL.val run_move rfl rfl (WL.val (run_cutLV (l := n) underlying22 sizeOf5 rfl rfl hle hcut) rfl rfl ?_)))))))
   refine WL.val (run_nilCheck rfl) rfl rfl (WL.val (run_fieldAddr 0 underlying55 rfl sizeOf22 rfl rfl) rfl rfl (WL.eff (eff_store (v := .slice _ _ _) h sizeOf22 rfl rfl rfl rfl rfl) rfl rfl ?_))
   rintro _ w h
   try simp only [Nat.zero_add, Nat.add_zero, List.set_cons_zero, List.set_cons_succ] at h
   refine WL.nil (W.seq (W.region (WL.val run_move rfl rfl (WL.val run_assign rfl rfl (WL.nil (W.ret (bodyQ.r1 (v := .int .u64 _) results55 rfl ?_)))))))
   have ev : bs.take n = (bs.drop ((0 : Nat) : Int).toNat).take ((n : Int)).toNat := by simp
   rw [ev]
   exact .inl ⟨hle, a', c', CC, rfl, h.to⟩
  refine WL.val run_move rfl rfl (WL.val (run_extract rfl rfl) rfl rfl (WL.val (run_extract rfl rfl) rfl rfl (WL.val run_assign rfl rfl (WL.val run_assign rfl rfl (WL.nil (W.seq (W.seq ?_)))))))
  refine W.region (WL.val run_move rfl rfl (WL.val (run_not rfl) rfl rfl (WL.nil (W.condT rfl (W.seq (W.region (WL.val run_move rfl rfl ?_)))))))
  refine WL.val run_move rfl rfl (WL.val (run_nilCheck rfl) rfl rfl (WL.val (run_fieldAddr 1 underlying55 rfl sizeOf4 rfl rfl) rfl rfl (WL.eff (eff_store (v := .bool _) h sizeOf4 rfl rfl rfl rfl rfl) rfl rfl ?_)))
  rintro _ w h
  try simp only [Nat.zero_add, Nat.add_zero, List.set_cons_zero, List.set_cons_succ] at h
  refine WL.val (run_nilCheck rfl) rfl rfl (WL.val (run_fieldAddr 0 underlying55 rfl sizeOf22 rfl rfl) rfl rfl (WL.eff (eff_store (v := .slice _ _ _) h sizeOf22 rfl rfl rfl rfl rfl) rfl rfl ?_))
  rintro _ w h
  try simp only [Nat.zero_add, Nat.add_zero, List.set_cons_zero, List.set_cons_succ] at h
  refine WL.nil (W.seq (W.region (WL.val run_assign rfl rfl (WL.nil (W.ret (bodyQ.r1 (v := .int .u64 _) results55 rfl ?_))))))
  exact .inr ⟨by omega, rfl, h.to⟩
theorem rpart_ok [tF : To L F] {br cb : Nat} {ab : Option Addr} {bs : List UInt8} {bad : Bool} (h : On W0 (blk br [.slice ab bs.length cb, .bool bad] 55 :: L) w) (C : Gives F (Bytes (.slice ab bs.length cb) bs)) : Calls Tryz.prog 20 #[.pointer (some ⟨br, 0, none⟩)] w (Ret fun v w' => (4 ≤ bs.length ∧ (beV (bs.take 4)) ≤ (bs.drop 4).length ∧ ∃ a1 c1 a2 c2, Gives F (Bytes (.slice a1 ((bs.drop 4).take (beV (bs.take 4))).length c1) ((bs.drop 4).take (beV (bs.take 4)))) ∧ Gives F (Bytes (.slice a2 ((bs.drop 4).drop (beV (bs.take 4))).length c2) ((bs.drop 4).drop (beV (bs.take 4)))) ∧ v = .slice a1 ((bs.drop 4).take (beV (bs.take 4))).length c1 ∧ On W0 (blk br [.slice a2 ((bs.drop 4).drop (beV (bs.take 4))).length c2, .bool bad] 55 :: L) w') ∨ (¬ (4 ≤ bs.length ∧ (beV (bs.take 4)) ≤ (bs.drop 4).length) ∧ v = .slice none 0 0 ∧ On W0 (blk br [.slice none ([] : List UInt8).length 0, .bool true] 55 :: L) w')) := by
  refine enter func20 rfl ntmps20 rfl ?_
  have hmx := maxLen_eq
  refine W.seq (W.region (WL.val run_assign rfl rfl (WL.nil (W.seq (W.region (WL.val run_move rfl rfl (WL.eff (eff_call call55 (number_ok (n := 4) (by decide) (by decide) h C)) rfl rfl ?_)))))))
  rintro _ w hg
  rcases hg with ⟨h4, a', c', CC, rfl, h⟩ | ⟨h4, rfl, h⟩
  ·
   have ob_ := Cells.bounds (h.readsTo CC)
   obtain ⟨hbc, hbm⟩ := ob_
   refine WL.val run_assign rfl rfl (WL.nil (W.seq (W.seq (W.region (WL.val run_move rfl rfl (WL.val run_move rfl rfl (WL.val (run_nilCheck rfl) rfl rfl ?_)))))))
   refine WL.val (run_fieldAddr 0 underlying55 rfl sizeOf22 rfl rfl) rfl rfl (WL.val (run_load1 isAgg22 rfl (h.cellB rfl)) rfl rfl (WL.val (run_lenSlice underlying22 rfl) rfl rfl (WL.val (run_convIn underlying3 underlying23 rfl (by show (0 : Int) ≤ _; omega) (by show _ ≤ (18446744073709551615 : Int); omega)) rfl rfl ?_)))
   refine WL.dec (run_gtr rfl rfl) rfl rfl (fun c14 => ?_) (fun c14 => ?_)
   ·
    refine WL.nil (W.condT rfl (W.seq (W.region (WL.val run_move rfl rfl (WL.val run_move rfl rfl (WL.val (run_nilCheck rfl) rfl rfl (WL.val (run_fieldAddr 1 underlying55 rfl sizeOf4 rfl rfl) rfl rfl ?_)))))))
    refine WL.eff (eff_store (v := .bool _) h sizeOf4 rfl rfl rfl rfl rfl) rfl rfl ?_
    rintro _ w h
    try simp only [Nat.zero_add, Nat.add_zero, List.set_cons_zero, List.set_cons_succ] at h
    refine WL.val (run_nilCheck rfl) rfl rfl (WL.val (run_fieldAddr 0 underlying55 rfl sizeOf22 rfl rfl) rfl rfl (WL.eff (eff_store (v := .slice _ _ _) h sizeOf22 rfl rfl rfl rfl rfl) rfl rfl ?_))
    rintro _ w h
    try simp only [Nat.zero_add, Nat.add_zero, List.set_cons_zero, List.set_cons_succ] at h
    refine WL.nil (W.seq (W.region (WL.val run_assign rfl rfl (WL.nil (W.ret (bodyQ.r1 (v := .slice _ _ _) results20 rfl ?_))))))
    exact .inr ⟨by omega, rfl, h.to⟩
   refine WL.nil (W.condF rfl (W.skip (W.seq ?_)))
   have hle : (beV (bs.take 4)) ≤ (bs.drop 4).length := by omega
   have hvl : (beV (bs.take 4)) = ((bs.drop 4).take (beV (bs.take 4))).length := by rw [List.length_take]; omega
   have ob_ := cut_gives (k := (beV (bs.take 4))) CC hle hbc
   obtain ⟨a2, c2, hcut, C2⟩ := ob_
   refine W.region (WL.val run_move rfl rfl (WL.val (run_nilCheck rfl) rfl rfl (WL.val (run_fieldAddr 0 underlying55 rfl sizeOf22 rfl rfl) rfl rfl (WL.val (run_load1 isAgg22 rfl (h.cellB rfl)) rfl rfl (WL.val run_move rfl rfl (WL.val (run_cutHV (h := (beV (bs.take 4))) underlying22 sizeOf5 rfl rfl (by omega) hvl) rfl rfl (WL.val run_assign rfl rfl ?_)))))))
   refine WL.nil (W.seq (W.region (WL.val run_move rfl rfl (WL.val run_move rfl rfl (WL.val (run_nilCheck rfl) rfl rfl (WL.val (run_fieldAddr 0 underlying55 rfl sizeOf22 rfl rfl) rfl rfl (WL.val (run_load1 isAgg22 rfl (h.cellB rfl)) rfl rfl ?_)))))))
   refine WL.val run_move rfl rfl (WL.val (run_cutLV (l := (beV (bs.take 4))) underlying22 sizeOf5 rfl rfl hle hcut) rfl rfl (WL.val (run_nilCheck rfl) rfl rfl (WL.val (run_fieldAddr 0 underlying55 rfl sizeOf22 rfl rfl) rfl rfl (WL.eff (eff_store (v := .slice _ _ _) h sizeOf22 rfl rfl rfl rfl rfl) rfl rfl ?_))))
   rintro _ w h
   try simp only [Nat.zero_add, Nat.add_zero, List.set_cons_zero, List.set_cons_succ] at h
   refine WL.nil (W.seq (W.region (WL.val run_move rfl rfl (WL.val run_assign rfl rfl (WL.nil (W.ret (bodyQ.r1 (v := .slice _ _ _) results20 rfl ?_)))))))
   exact .inl ⟨h4, hle, a', c', a2, c2, front_bytes CC hle, C2, rfl, h.to⟩
  refine WL.val run_assign rfl rfl (WL.nil (W.seq (W.seq (W.region (WL.val run_move rfl rfl (WL.val run_move rfl rfl (WL.val (run_nilCheck rfl) rfl rfl ?_)))))))
  refine WL.val (run_fieldAddr 0 underlying55 rfl sizeOf22 rfl rfl) rfl rfl (WL.val (run_load1 isAgg22 rfl (h.cellB rfl)) rfl rfl (WL.val (run_lenSlice underlying22 rfl) rfl rfl (WL.val (run_convIn (n := 0) underlying3 underlying23 rfl (by decide) (by decide)) rfl rfl (WL.val (run_gtrF rfl rfl (by decide)) rfl rfl (WL.nil (W.condF rfl (W.skip ?_)))))))
  refine W.seq (W.region (WL.val run_move rfl rfl (WL.val (run_nilCheck rfl) rfl rfl (WL.val (run_fieldAddr 0 underlying55 rfl sizeOf22 rfl rfl) rfl rfl (WL.val (run_load1 isAgg22 rfl (h.cellB rfl)) rfl rfl (WL.val run_move rfl rfl (WL.val (run_cutHV (h := 0) (r := 0) underlying22 sizeOf5 rfl rfl (Nat.le_refl _) rfl) rfl rfl ?_)))))))
  refine WL.val run_assign rfl rfl (WL.nil (W.seq (W.region (WL.val run_move rfl rfl (WL.val run_move rfl rfl (WL.val (run_nilCheck rfl) rfl rfl (WL.val (run_fieldAddr 0 underlying55 rfl sizeOf22 rfl rfl) rfl rfl ?_)))))))
  refine WL.val (run_load1 isAgg22 rfl (h.cellB rfl)) rfl rfl (WL.val run_move rfl rfl (WL.val (run_cutLV (l := 0) underlying22 sizeOf5 rfl rfl (Nat.le_refl _) rfl) rfl rfl (WL.val (run_nilCheck rfl) rfl rfl (WL.val (run_fieldAddr 0 underlying55 rfl sizeOf22 rfl rfl) rfl rfl (WL.eff (eff_store (v := .slice _ _ _) h sizeOf22 rfl rfl rfl rfl rfl) rfl rfl ?_)))))
  rintro _ w h
  try simp only [Nat.zero_add, Nat.add_zero, List.set_cons_zero, List.set_cons_succ] at h
  refine WL.nil (W.seq (W.region (WL.val run_move rfl rfl (WL.val run_assign rfl rfl (WL.nil (W.ret (bodyQ.r1 (v := .slice _ _ _) results20 rfl ?_)))))))
  have h : On W0 (blk br [.slice none ([] : List UInt8).length 0, .bool true] 55 :: _) w := h
  exact .inr ⟨by omega, rfl, h.to⟩
theorem rnum_ok [tF : To L F] {br cb : Nat} {ab : Option Addr} {s : RS} {n : Nat} (hn1 : 1 ≤ n) (hn8 : n ≤ 8) (h : On W0 (blk br [.slice ab s.1.length cb, .bool s.2] 55 :: L) w) (C : Gives F (Bytes (.slice ab s.1.length cb) s.1)) : Calls Tryz.prog 55 #[.pointer (some ⟨br, 0, none⟩), .int .i64 (n : Int)] w (Ret fun v w' => ∃ a' c', Gives F (Bytes (.slice a' (rdN n s).2.1.length c') (rdN n s).2.1) ∧ v = .int .u64 ((rdN n s).1 : Int) ∧ On W0 (blk br [.slice a' (rdN n s).2.1.length c', .bool (rdN n s).2.2] 55 :: L) w') := by
  skip
  exact (number_ok hn1 hn8 h C).mono fun e w' he => by
    obtain ⟨v, he, hv⟩ := he
    refine ⟨v, he, ?_⟩
    rcases hv with ⟨hle, a', c', CC, hv, h⟩ | ⟨hlt, hv, h⟩
    · have e : rdN n s = (beV (s.1.take n), (s.1.drop n, s.2)) := by unfold rdN; rw [if_pos hle]
      rw [e]
      exact ⟨a', c', CC, hv, h⟩
    · have e : rdN n s = (0, ([], true)) := by unfold rdN; rw [if_neg (by omega)]
      rw [e]
      exact ⟨none, 0, Gives.nilB, hv, h⟩
theorem rprt_ok [tF : To L F] {br cb : Nat} {ab : Option Addr} {s : RS} (h : On W0 (blk br [.slice ab s.1.length cb, .bool s.2] 55 :: L) w) (C : Gives F (Bytes (.slice ab s.1.length cb) s.1)) : Calls Tryz.prog 20 #[.pointer (some ⟨br, 0, none⟩)] w (Ret fun v w' => ∃ a1 c1 a' c', Gives F (Bytes (.slice a1 (rdP s).1.length c1) (rdP s).1) ∧ Gives F (Bytes (.slice a' (rdP s).2.1.length c') (rdP s).2.1) ∧ v = .slice a1 (rdP s).1.length c1 ∧ On W0 (blk br [.slice a' (rdP s).2.1.length c', .bool (rdP s).2.2] 55 :: L) w') := by
  skip
  exact (rpart_ok h C).mono fun e w' he => by
    obtain ⟨v, he, hv⟩ := he
    refine ⟨v, he, ?_⟩
    rcases hv with ⟨h4, hle, a1, c1, a', c', C1, C2, hv, h⟩ | ⟨hno, hv, h⟩
    · have e : rdP s = ((s.1.drop 4).take (beV (s.1.take 4)), ((s.1.drop 4).drop (beV (s.1.take 4)), s.2)) := by unfold rdP; rw [if_pos ⟨h4, hle⟩]
      rw [e]
      exact ⟨a1, c1, a', c', C1, C2, hv, h⟩
    · have e : rdP s = ([], ([], true)) := by unfold rdP; rw [if_neg hno]
      rw [e]
      exact ⟨none, 0, none, 0, Gives.nilB, Gives.nilB, hv, h⟩
end Go.Proofs.YtjbgiingimhnnaaGreat
/-
  A unit: a guest read: the contracts. Lines of walks printed by a program of the prover's.
-/
namespace Go.Proofs.YtjbgiingimhnnaaGreat
open Go.Proofs.Tryz
open Go Go.Sl Go.Sl.BitM Go.Sl.SpM Go.Sl.RsM Go.Sl.ByM Go.Sl.UnM
set_option linter.unusedVariables false
set_option linter.unusedSimpArgs false
set_option maxHeartbeats 1000000
set_option maxRecDepth 8000
variable {W0 w : World} {L F : List HProp}
theorem gread_ok [tF : To L F] {bu bs bt i mb cb : Nat} {ab : Option Addr} {gs : List GX} {pool : PoolL} {b : List UInt8} (hg : gs[i]? = some (zG mb)) (hb : b.length ≤ 100000) (h : On W0 (MapC mb .u64 [] 0 :: blk bu (ucells bs bt gs) 68 :: Pool pool :: L) w) (C : Gives F (Bytes (.slice ab b.length cb) b)) : Calls Tryz.prog 23 #[.pointer (some ⟨bu, 0 + 2 + ((i : Nat) : Int).toNat * 3, none⟩), .slice ab b.length cb] w (Ret fun v w' => ∃ (a : Option Addr) (c ck : Nat) (kvs : List KV) (pool' : PoolL), okD pool' (readG b).2.done kvs ∧ (∀ p ∈ pool, p ∈ pool') ∧ v = .bool (readG b).1 ∧ On W0 (Own 1 (.slice a (readG b).2.codes.length c) (readG b).2.codes.length (cV (readG b).2.codes) :: MapC mb .u64 kvs ck :: blk bu (ucells bs bt (gs.set i ⟨(readG b).2, a, c, mb, ck, kvs⟩)) 68 :: Pool pool' :: L) w') := by
  refine enter func23 rfl ntmps23 rfl ?_
  have hmx := maxLen_eq
  have hig : i < gs.length := (List.getElem?_eq_some_iff.1 hg).1
  have h := h.ownEmpty 1 none
  rw [show gs = gs.set i (zG mb) from (set_same hg).symm] at h
  have h : On W0 (Own 1 (.slice none ([] : List Int).length 0) ([] : List Int).length (cV ([] : List Int)) :: MapC mb .u64 [] 0 :: blk bu (ucells bs bt (gs.set i (⟨⟨[], 0, []⟩, none, 0, mb, 0, []⟩ : GX))) 68 :: Pool pool :: L) w := h
  refine W.seq (W.region (WL.val run_assign rfl rfl (WL.nil (W.seq (W.region (WL.val run_move rfl rfl (WL.val (run_buildS (pl := [(0, 1), (1, 1)]) (out := [.slice _ _ _, .bool _]) underlying55 zeroValue55 (fun w => by kernel_rfl) rfl (⟨⟨_, _, rfl, rfl, by decide⟩, trivial⟩) rfl) rfl rfl ?_)))))))
  refine WL.eff (eff_box (v := .agg _) (l := [.slice ab b.length cb, .bool false]) h rfl rfl) rfl rfl ?_
  rintro _ w ⟨b12, rfl, h⟩
  refine WL.val run_assign rfl rfl (WL.nil ?_)
  refine W.cut (fun env w => ∃ (j : Env) (ab : Option Addr) (cb : Nat) (s : RS) (l : List Int) (a : Option Addr) (c : Nat), Gives F (Bytes (.slice ab s.1.length cb) s.1) ∧ (l, s) = (rdCodes (rdN 2 (b, false)).1 (rdN 2 (b, false)).2 []) ∧ l.length ≤ 65536 ∧ env = mkE j [(0, .pointer (some ⟨bu, 0 + 2 + ((i : Nat) : Int).toNat * 3, none⟩)), (5, .pointer (some ⟨b12, 0, none⟩))] ∧ On W0 (Own 1 (.slice a l.length c) l.length (cV l) :: MapC mb .u64 [] 0 :: blk bu (ucells bs bt (gs.set i (⟨⟨l, 0, []⟩, a, c, mb, 0, []⟩ : GX))) 68 :: Pool pool :: blk b12 [.slice ab s.1.length cb, .bool s.2] 55 :: L) w) ?_ ?_
  ·
   refine W.seq (W.region (WL.val run_move rfl rfl (WL.eff (eff_call call55 (rnum_ok (F := F) (n := 2) (s := (b, false)) (by decide) (by decide) h C)) rfl rfl ?_)))
   rintro _ w ⟨ab, cb, C, rfl, h⟩
   have hn2 : (rdN 2 (b, false)).1 < 65536 := rdN_lt
   refine WL.val run_assign rfl rfl (WL.nil (W.block ?_))
   refine W.loop (fun (n : Nat) env w => ∃ (j : Env) (ab : Option Addr) (cb : Nat) (s : RS) (l : List Int) (a : Option Addr) (c : Nat), Gives F (Bytes (.slice ab s.1.length cb) s.1) ∧ rdCodes n s l = (rdCodes (rdN 2 (b, false)).1 (rdN 2 (b, false)).2 []) ∧ l.length + n ≤ 65536 ∧ env = mkE j [(0, .pointer (some ⟨bu, 0 + 2 + ((i : Nat) : Int).toNat * 3, none⟩)), (5, .pointer (some ⟨b12, 0, none⟩)), (6, .int .u64 (n : Int))] ∧ On W0 (Own 1 (.slice a l.length c) l.length (cV l) :: MapC mb .u64 [] 0 :: blk bu (ucells bs bt (gs.set i (⟨⟨l, 0, []⟩, a, c, mb, 0, []⟩ : GX))) 68 :: Pool pool :: blk b12 [.slice ab s.1.length cb, .bool s.2] 55 :: L) w) (fun n => n) ((rdN 2 (b, false)).1) ?_ ?_
   · exact ⟨_, ab, cb, _, [], none, 0, C, rfl, by show 0 + _ ≤ 65536; omega, mkE_of ⟨rfl, rfl, rfl, trivial⟩, h.to⟩
   clear h C
   rintro n env w ⟨j, ab, cb, s, l, a, c, C, hX, hln, rfl, h⟩
   refine W.seq (W.seq (W.region (WL.val run_move rfl rfl ?_)))
   refine WL.dec (run_gtr rfl rfl) rfl rfl (fun c16 => ?_) (fun c16 => ?_)
   ·
    refine WL.val run_move rfl rfl (WL.val run_move rfl rfl (WL.val (run_nilCheck rfl) rfl rfl (WL.val (run_fieldAddr 1 underlying55 rfl sizeOf4 rfl rfl) rfl rfl (WL.val (run_load1 isAgg4 rfl (h.cellB rfl)) rfl rfl (WL.val (run_not rfl) rfl rfl (WL.val (run_pickT rfl) rfl rfl (WL.nil ?_)))))))
    refine W.condB rfl (fun c6 => ?_) (fun c6 => ?_)
    ·
     refine W.skip (W.seq (W.block ?_))
     have hg2 := (List.getElem?_set_self hig : (gs.set i (⟨⟨l, 0, []⟩, a, c, mb, 0, []⟩ : GX))[i]? = some (⟨⟨l, 0, []⟩, a, c, mb, 0, []⟩ : GX))
     have hlt2 : (rdN 2 s).1 < 65536 := rdN_lt
     have ob1_ := Own.bounds (h.own (.slice a l.length c))
     obtain ⟨hb1, hb2⟩ := ob1_
     refine W.draw Tryz.follows h (fun w h => ?_)
     refine WT.pure 0 rfl (by kernel_rfl) (fun w' => run_move) rfl rfl (WT.pure 1 rfl (by kernel_rfl) (fun w' => run_move) rfl rfl (WT.pure 2 rfl (by kernel_rfl) (fun w' => (run_nilCheck rfl)) rfl rfl (WT.pure 3 rfl (by kernel_rfl) (fun w' => (run_fieldAddr 0 underlying65 rfl sizeOf62 rfl rfl)) rfl rfl (WT.load1 4 rfl (by kernel_rfl) isAgg62 rfl (h.cellB (ucell (bs := bs) (bt := bt) hg2 (k := 0) (x := .slice a l.length c) (by decide) rfl)) rfl rfl (WT.pure 5 rfl (by kernel_rfl) (fun w' => run_move) rfl rfl (WT.eff 6 [true] rfl (by kernel_rfl) (by kernel_rfl) (eff_call call55 (rnum_ok (F := F) (n := 2) (s := s) (by decide) (by decide) (h.fetch (blk b12 [.slice ab s.1.length cb, .bool s.2] 55)) C)) rfl rfl ?_))))))
     rintro _ w ⟨ab, cb, C, rfl, h⟩
     refine ⟨⟨h.cellB (ucell (bs := bs) (bt := bt) hg2 (k := 0) (x := .slice a l.length c) (by decide) rfl), trivial⟩, ?_⟩
     refine WT.pure 7 rfl (by kernel_rfl) (fun w' => (run_convInt64 underlying23 underlying3 rfl (by omega) (by omega))) rfl rfl (WT.eff 8 [true] rfl (by kernel_rfl) (by kernel_rfl) (eff_mkSlice (zl := [.int .i64 0]) (out := [.int .i64 _]) h underlying62 sizeOf3 zeroValue3 (by decide) (by kernel_rfl) rfl rfl (by simp) (⟨⟨_, _, rfl, rfl, by decide⟩, trivial⟩) rfl rfl (by simp [maxLen])) rfl rfl ?_)
     rintro _ w ⟨b34, rfl, h⟩
     refine ⟨⟨h.cellB (ucell (bs := bs) (bt := bt) hg2 (k := 0) (x := .slice a l.length c) (by decide) rfl), trivial⟩, ?_⟩
     refine WT.eff 9 [false] rfl (by kernel_rfl) (by kernel_rfl) (eff_app (c2 := 1) (bytes := 8) h rfl rfl (h.cellsO (v := .slice (some ⟨b34, 0, none⟩) 1 1)) underlying62 rfl rfl rfl rfl rfl (by omega) (by omega) (by simp [Value.oneCell'])) rfl rfl ?_
     rintro _ w ⟨a35, c35, rfl, h⟩
     refine ⟨trivial, ?_⟩
     refine WT.pure 10 rfl (by kernel_rfl) (fun w' => (run_nilCheck rfl)) rfl rfl (WT.pure 11 rfl (by kernel_rfl) (fun w' => (run_fieldAddr 0 underlying65 rfl sizeOf62 rfl rfl)) rfl rfl (WT.eff 12 [] rfl (by kernel_rfl) (by kernel_rfl) (eff_store (v := .slice a35 (l.length + 1) c35) h sizeOf62 rfl rfl rfl (ult (bs := bs) (bt := bt) hg2 (k := 0) (by decide)) (free0 _)) rfl rfl ?_))
     rintro _ w h
     have el : (l ++ [((rdN 2 s).1 : Int)]).length = l.length + 1 := by rw [List.length_append]; rfl
     have em : cV (l ++ [((rdN 2 s).1 : Int)]) = cV l ++ [.int .i64 ((rdN 2 s).1 : Int)] := by unfold cV; rw [List.map_append]; rfl
     have er : (⟨⟨(l ++ [((rdN 2 s).1 : Int)]), 0, []⟩, a35, c35, mb, 0, []⟩ : GX).row = (⟨⟨l, 0, []⟩, a, c, mb, 0, []⟩ : GX).row.set 0 (.slice a35 (l.length + 1) c35) := by
       show [Value.slice a35 (l ++ [((rdN 2 s).1 : Int)]).length c35, _, _] = _
       rw [el]; rfl
     rw [uset (bs := bs) (bt := bt) hg2 (k := 0) (by decide) er, List.set_set] at h
     have h : On W0 (Own 1 (.slice a35 (l.length + 1) c35) (l.length + 1) (cV l ++ [.int .i64 ((rdN 2 s).1 : Int)]) :: _) w := h.own (.slice a35 (l.length + 1) c35)
     rw [← em, ← el] at h
     refine ⟨trivial, ?_⟩
     refine WT.done (by kernel_rfl) (W.region (WL.val run_move rfl rfl (WL.val (run_subK (k := .u64) (m := n) (n := 1) rfl rfl (by omega) (by show _ ≤ (18446744073709551615 : Int); omega)) rfl rfl (WL.val run_assign rfl rfl (WL.nil ?_)))))
     have ob_ : ∃ m, n = m + 1 := ⟨n - 1, by omega⟩
     obtain ⟨m, rfl⟩ := ob_
     have hs2 : s.2 = false := by simpa using c6
     have hX2 : rdCodes (m + 1) s l = rdCodes m (rdN 2 s).2 (l ++ [((rdN 2 s).1 : Int)]) := by show (if s.2 = true then _ else _) = _; rw [if_neg (by rw [hs2]; decide)]
     rw [hX2] at hX
     exact ⟨m, ⟨_, ab, cb, _, l ++ [((rdN 2 s).1 : Int)], a35, c35, C, hX, by rw [List.length_append]; show l.length + 1 + m ≤ 65536; omega, mkE_of ⟨rfl, rfl, rfl, trivial⟩, h.to⟩, by show m < m + 1; omega⟩
    refine W.exit ?_
    have hs2 : s.2 = true := by simpa using c6
    rw [rdCodes_bad hs2] at hX
    exact ⟨_, ab, cb, s, l, a, c, C, hX, by omega, mkE_of ⟨rfl, rfl, trivial⟩, h.to⟩
   refine WL.val run_move rfl rfl (WL.skip rfl rfl (WL.skip rfl rfl (WL.skip rfl rfl (WL.skip rfl rfl (WL.skip rfl rfl (WL.val (run_pickF rfl) rfl rfl (WL.nil ?_)))))))
   refine W.condF rfl (W.exit ?_)
   have ob_ : n = 0 := by omega
   obtain rfl := ob_
   exact ⟨_, ab, cb, s, l, a, c, C, hX, by omega, mkE_of ⟨rfl, rfl, trivial⟩, h.to⟩
  clear h C
  rintro env w ⟨j, ab, cb, s, l, a, c, C, hX, hll, rfl, h⟩
  have hl1 : l = (rdCodes (rdN 2 (b, false)).1 (rdN 2 (b, false)).2 []).1 := congrArg Prod.fst hX
  have hs1 : s = (rdCodes (rdN 2 (b, false)).1 (rdN 2 (b, false)).2 []).2 := congrArg Prod.snd hX
  subst hl1
  subst hs1
  have hg2 := (List.getElem?_set_self hig : (gs.set i (⟨⟨(rdCodes (rdN 2 (b, false)).1 (rdN 2 (b, false)).2 []).1, 0, []⟩, a, c, mb, 0, []⟩ : GX))[i]? = some (⟨⟨(rdCodes (rdN 2 (b, false)).1 (rdN 2 (b, false)).2 []).1, 0, []⟩, a, c, mb, 0, []⟩ : GX))
  refine W.seq (W.region (WL.val run_move rfl rfl (WL.val run_move rfl rfl (WL.eff (eff_call call55 (rnum_ok (F := F) (n := 8) (s := (rdCodes (rdN 2 (b, false)).1 (rdN 2 (b, false)).2 []).2) (by decide) (by decide) (h.fetch (blk b12 [.slice ab (rdCodes (rdN 2 (b, false)).1 (rdN 2 (b, false)).2 []).2.1.length cb, .bool (rdCodes (rdN 2 (b, false)).1 (rdN 2 (b, false)).2 []).2.2] 55)) C)) rfl rfl ?_))))
  rintro _ w ⟨ab, cb, C, rfl, h⟩
  refine WL.val (run_nilCheck rfl) rfl rfl (WL.val (run_fieldAddr 1 underlying65 rfl sizeOf23 rfl rfl) rfl rfl (WL.eff (eff_store (v := .int .u64 ((rdN 8 (rdCodes (rdN 2 (b, false)).1 (rdN 2 (b, false)).2 []).2).1 : Int)) h sizeOf23 rfl rfl rfl (ult (bs := bs) (bt := bt) hg2 (k := 1) (by decide)) (free0 _)) rfl rfl ?_))
  rintro _ w h
  have er : (⟨⟨(rdCodes (rdN 2 (b, false)).1 (rdN 2 (b, false)).2 []).1, ((rdN 8 (rdCodes (rdN 2 (b, false)).1 (rdN 2 (b, false)).2 []).2).1 : Int), []⟩, a, c, mb, 0, []⟩ : GX).row = (⟨⟨(rdCodes (rdN 2 (b, false)).1 (rdN 2 (b, false)).2 []).1, 0, []⟩, a, c, mb, 0, []⟩ : GX).row.set 1 (.int .u64 ((rdN 8 (rdCodes (rdN 2 (b, false)).1 (rdN 2 (b, false)).2 []).2).1 : Int)) := rfl
  rw [uset (bs := bs) (bt := bt) hg2 (k := 1) (by decide) er, List.set_set] at h
  refine WL.nil ?_
  refine W.cut (fun env w => ∃ (j : Env) (ab : Option Addr) (cb : Nat) (s : RS) (D : List (Int × Rp)) (kvs : List KV) (ck : Nat) (pool2 : PoolL), (D, s) = (rdDone (rdN 2 (rdN 8 (rdCodes (rdN 2 (b, false)).1 (rdN 2 (b, false)).2 []).2).2).1 (rdN 2 (rdN 8 (rdCodes (rdN 2 (b, false)).1 (rdN 2 (b, false)).2 []).2).2).2 []) ∧ okD pool2 D kvs ∧ (∀ p ∈ pool, p ∈ pool2) ∧ env = mkE j [(5, .pointer (some ⟨b12, 0, none⟩))] ∧ On W0 (Own 1 (.slice a (rdCodes (rdN 2 (b, false)).1 (rdN 2 (b, false)).2 []).1.length c) (rdCodes (rdN 2 (b, false)).1 (rdN 2 (b, false)).2 []).1.length (cV (rdCodes (rdN 2 (b, false)).1 (rdN 2 (b, false)).2 []).1) :: MapC mb .u64 kvs ck :: blk bu (ucells bs bt (gs.set i (⟨⟨(rdCodes (rdN 2 (b, false)).1 (rdN 2 (b, false)).2 []).1, ((rdN 8 (rdCodes (rdN 2 (b, false)).1 (rdN 2 (b, false)).2 []).2).1 : Int), []⟩, a, c, mb, 0, []⟩ : GX))) 68 :: Pool pool2 :: blk b12 [.slice ab s.1.length cb, .bool s.2] 55 :: L) w) ?_ ?_
  ·
   refine W.seq (W.region (WL.val run_move rfl rfl (WL.eff (eff_call call55 (rnum_ok (F := F) (n := 2) (s := (rdN 8 (rdCodes (rdN 2 (b, false)).1 (rdN 2 (b, false)).2 []).2).2) (by decide) (by decide) (h.fetch (blk b12 [.slice ab (rdN 8 (rdCodes (rdN 2 (b, false)).1 (rdN 2 (b, false)).2 []).2).2.1.length cb, .bool (rdN 8 (rdCodes (rdN 2 (b, false)).1 (rdN 2 (b, false)).2 []).2).2.2] 55)) C)) rfl rfl ?_)))
   rintro _ w ⟨ab, cb, C, rfl, h⟩
   have hg3 := (List.getElem?_set_self hig : (gs.set i (⟨⟨(rdCodes (rdN 2 (b, false)).1 (rdN 2 (b, false)).2 []).1, ((rdN 8 (rdCodes (rdN 2 (b, false)).1 (rdN 2 (b, false)).2 []).2).1 : Int), []⟩, a, c, mb, 0, []⟩ : GX))[i]? = some (⟨⟨(rdCodes (rdN 2 (b, false)).1 (rdN 2 (b, false)).2 []).1, ((rdN 8 (rdCodes (rdN 2 (b, false)).1 (rdN 2 (b, false)).2 []).2).1 : Int), []⟩, a, c, mb, 0, []⟩ : GX))
   have z1 := rdN_len (n := 2) (s := (rdN 8 (rdCodes (rdN 2 (b, false)).1 (rdN 2 (b, false)).2 []).2).2)
   have z2 := rdN_len (n := 8) (s := (rdCodes (rdN 2 (b, false)).1 (rdN 2 (b, false)).2 []).2)
   have z3 := rdCodes_len (rdN 2 (b, false)).1 (rdN 2 (b, false)).2 []
   have z4 := rdN_len (n := 2) (s := (b, false))
   have z4 : (rdN 2 (b, false)).2.1.length ≤ b.length := z4
   have hx3l : (rdN 2 (rdN 8 (rdCodes (rdN 2 (b, false)).1 (rdN 2 (b, false)).2 []).2).2).2.1.length ≤ 100000 := by omega
   refine WL.val run_assign rfl rfl (WL.nil (W.block ?_))
   refine W.loop (fun (n : Nat) env w => ∃ (j : Env) (ab : Option Addr) (cb : Nat) (s : RS) (D : List (Int × Rp)) (kvs : List KV) (ck : Nat) (pool2 : PoolL), Gives F (Bytes (.slice ab s.1.length cb) s.1) ∧ rdDone n s D = (rdDone (rdN 2 (rdN 8 (rdCodes (rdN 2 (b, false)).1 (rdN 2 (b, false)).2 []).2).2).1 (rdN 2 (rdN 8 (rdCodes (rdN 2 (b, false)).1 (rdN 2 (b, false)).2 []).2).2).2 []) ∧ s.1.length ≤ 100000 ∧ n ≤ 65536 ∧ okD pool2 D kvs ∧ (∀ p ∈ pool, p ∈ pool2) ∧ env = mkE j [(0, .pointer (some ⟨bu, 0 + 2 + ((i : Nat) : Int).toNat * 3, none⟩)), (5, .pointer (some ⟨b12, 0, none⟩)), (7, .int .u64 (n : Int))] ∧ On W0 (Own 1 (.slice a (rdCodes (rdN 2 (b, false)).1 (rdN 2 (b, false)).2 []).1.length c) (rdCodes (rdN 2 (b, false)).1 (rdN 2 (b, false)).2 []).1.length (cV (rdCodes (rdN 2 (b, false)).1 (rdN 2 (b, false)).2 []).1) :: MapC mb .u64 kvs ck :: blk bu (ucells bs bt (gs.set i (⟨⟨(rdCodes (rdN 2 (b, false)).1 (rdN 2 (b, false)).2 []).1, ((rdN 8 (rdCodes (rdN 2 (b, false)).1 (rdN 2 (b, false)).2 []).2).1 : Int), []⟩, a, c, mb, 0, []⟩ : GX))) 68 :: Pool pool2 :: blk b12 [.slice ab s.1.length cb, .bool s.2] 55 :: L) w) (fun n => n) ((rdN 2 (rdN 8 (rdCodes (rdN 2 (b, false)).1 (rdN 2 (b, false)).2 []).2).2).1) ?_ ?_
   · have hn3 : (rdN 2 (rdN 8 (rdCodes (rdN 2 (b, false)).1 (rdN 2 (b, false)).2 []).2).2).1 < 65536 := rdN_lt
     have hsl : (rdN 2 (rdN 8 (rdCodes (rdN 2 (b, false)).1 (rdN 2 (b, false)).2 []).2).2).2.1.length ≤ 100000 := hx3l
     exact ⟨_, ab, cb, _, [], [], 0, pool, C, rfl, hsl, by omega, ⟨List.Perm.refl _, List.nodup_nil, fun x hx => (by cases hx)⟩, fun p hp => hp, mkE_of ⟨rfl, rfl, rfl, trivial⟩, h.to⟩
   clear h C
   rintro n env w ⟨j, ab, cb, s, D, kvs, ck, pool2, C, hX4, hsl, hnl, hok, hps, rfl, h⟩
   refine W.seq (W.seq (W.region (WL.val run_move rfl rfl ?_)))
   refine WL.dec (run_gtr rfl rfl) rfl rfl (fun c46 => ?_) (fun c46 => ?_)
   ·
    refine WL.val run_move rfl rfl (WL.val run_move rfl rfl (WL.val (run_nilCheck rfl) rfl rfl (WL.val (run_fieldAddr 1 underlying55 rfl sizeOf4 rfl rfl) rfl rfl (WL.val (run_load1 isAgg4 rfl (h.cellB rfl)) rfl rfl (WL.val (run_not rfl) rfl rfl (WL.val (run_pickT rfl) rfl rfl (WL.nil ?_)))))))
    refine W.condB rfl (fun c17 => ?_) (fun c17 => ?_)
    ·
     refine W.skip (W.seq ?_)
     have q0 := rdN_len (n := 8) (s := s)
     have q1 := rdN_len (n := 1) (s := (rdN 8 s).2)
     have q2 := rdN_len (n := 1) (s := (rdN 1 (rdN 8 s).2).2)
     have q3 := rdN_len (n := 2) (s := (rdN 1 (rdN 1 (rdN 8 s).2).2).2)
     have q4 := rdN_len (n := 4) (s := (rdN 2 (rdN 1 (rdN 1 (rdN 8 s).2).2).2).2)
     have q5 := rdP_len (s := (rdN 4 (rdN 2 (rdN 1 (rdN 1 (rdN 8 s).2).2).2).2).2)
     have l1 : (rdN 1 (rdN 8 s).2).1 < 256 := rdN_lt
     have l2 : (rdN 1 (rdN 1 (rdN 8 s).2).2).1 < 256 := rdN_lt
     have l3 : (rdN 2 (rdN 1 (rdN 1 (rdN 8 s).2).2).2).1 < 65536 := rdN_lt
     have l4 : (rdN 4 (rdN 2 (rdN 1 (rdN 1 (rdN 8 s).2).2).2).2).1 < 4294967296 := rdN_lt
     refine W.block (W.seq (W.region (WL.val run_move rfl rfl (WL.eff (eff_call call55 (rnum_ok (F := F) (n := 8) (s := s) (by decide) (by decide) (h.fetch (blk b12 [.slice ab s.1.length cb, .bool s.2] 55)) C)) rfl rfl ?_))))
     rintro _ w ⟨ab, cb, C, rfl, h⟩
     refine WL.val run_assign rfl rfl (WL.nil (W.seq (W.region (WL.val run_move rfl rfl (WL.eff (eff_call call55 (rnum_ok (F := F) (n := 1) (s := (rdN 8 s).2) (by decide) (by decide) (h.fetch (blk b12 [.slice ab (rdN 8 s).2.1.length cb, .bool (rdN 8 s).2.2] 55)) C)) rfl rfl ?_)))))
     rintro _ w ⟨ab, cb, C, rfl, h⟩
     refine WL.val (run_convInt64 underlying23 underlying3 rfl (by omega) (by omega)) rfl rfl (WL.val run_move rfl rfl (WL.eff (eff_call call55 (rnum_ok (F := F) (n := 1) (s := (rdN 1 (rdN 8 s).2).2) (by decide) (by decide) (h.fetch (blk b12 [.slice ab (rdN 1 (rdN 8 s).2).2.1.length cb, .bool (rdN 1 (rdN 8 s).2).2.2] 55)) C)) rfl rfl ?_))
     rintro _ w ⟨ab, cb, C, rfl, h⟩
     refine WL.val (run_convInt64 underlying23 underlying3 rfl (by omega) (by omega)) rfl rfl (WL.val (run_buildS (pl := [(0, 1), (1, 1), (2, 1), (3, 1), (4, 1)]) (out := [.int .i64 _, .int .i64 _, .int .i64 _, .slice _ _ _, .int .i64 _]) underlying36 zeroValue36 (fun w => by kernel_rfl) rfl (⟨⟨_, _, rfl, rfl, by decide⟩, ⟨⟨_, _, rfl, rfl, by decide⟩, trivial⟩⟩) rfl) rfl rfl (WL.eff (eff_alloc h zeroValue36 rfl) rfl rfl ?_))
     rintro _ w ⟨b9, rfl, h⟩
     refine WL.eff (eff_storeW (vs := [.int .i64 _, .int .i64 _, .int .i64 _, .slice _ _ _, .int .i64 _]) h sizeOf36 rfl rfl rfl rfl rfl) rfl rfl ?_
     rintro _ w h
     refine WL.nil (W.seq (W.region (WL.val run_move rfl rfl (WL.eff (eff_call call55 (rnum_ok (F := F) (n := 2) (s := (rdN 1 (rdN 1 (rdN 8 s).2).2).2) (by decide) (by decide) (h.fetch (blk b12 [.slice ab (rdN 1 (rdN 1 (rdN 8 s).2).2).2.1.length cb, .bool (rdN 1 (rdN 1 (rdN 8 s).2).2).2.2] 55)) C)) rfl rfl ?_))))
     rintro _ w ⟨ab, cb, C, rfl, h⟩
     refine WL.val (run_convInt64 underlying23 underlying3 rfl (by omega) (by omega)) rfl rfl (WL.val run_move rfl rfl (WL.eff (eff_call call55 (rnum_ok (F := F) (n := 4) (s := (rdN 2 (rdN 1 (rdN 1 (rdN 8 s).2).2).2).2) (by decide) (by decide) (h.fetch (blk b12 [.slice ab (rdN 2 (rdN 1 (rdN 1 (rdN 8 s).2).2).2).2.1.length cb, .bool (rdN 2 (rdN 1 (rdN 1 (rdN 8 s).2).2).2).2.2] 55)) C)) rfl rfl ?_))
     rintro _ w ⟨ab, cb, C, rfl, h⟩
     refine WL.val (run_convInt64 underlying23 underlying3 rfl (by omega) (by omega)) rfl rfl (WL.val (run_fieldAddr 2 underlying36 rfl sizeOf3 rfl rfl) rfl rfl (WL.eff (eff_store (v := .int .i64 _) h sizeOf3 rfl rfl rfl rfl rfl) rfl rfl ?_))
     rintro _ w h
     try simp only [Nat.zero_add, Nat.add_zero, List.set_cons_zero, List.set_cons_succ] at h
     refine WL.val (run_fieldAddr 4 underlying36 rfl sizeOf3 rfl rfl) rfl rfl (WL.eff (eff_store (v := .int .i64 _) h sizeOf3 rfl rfl rfl rfl rfl) rfl rfl ?_)
     rintro _ w h
     try simp only [Nat.zero_add, Nat.add_zero, List.set_cons_zero, List.set_cons_succ] at h
     refine WL.nil (W.seq (W.region (WL.val run_move rfl rfl (WL.eff (eff_call call20 (rprt_ok (F := F) (s := (rdN 4 (rdN 2 (rdN 1 (rdN 1 (rdN 8 s).2).2).2).2).2) (h.fetch (blk b12 [.slice ab (rdN 4 (rdN 2 (rdN 1 (rdN 1 (rdN 8 s).2).2).2).2).2.1.length cb, .bool (rdN 4 (rdN 2 (rdN 1 (rdN 1 (rdN 8 s).2).2).2).2).2.2] 55)) C)) rfl rfl ?_))))
     rintro _ w ⟨a1, c1, ab, cb, C1, C, rfl, h⟩
     refine WL.eff (eff_call call57 (clone_bytes (bs := (rdP (rdN 4 (rdN 2 (rdN 1 (rdN 1 (rdN 8 s).2).2).2).2).2).1) h (Gives.to C1) (by omega))) rfl rfl ?_
     rintro _ w ⟨a75, c75, rfl, h⟩
     refine WL.val (run_fieldAddr 3 underlying36 rfl sizeOf22 rfl rfl) rfl rfl (WL.eff (eff_store (v := .slice _ _ _) h sizeOf22 rfl rfl rfl rfl rfl) rfl rfl ?_)
     rintro _ w h
     try simp only [Nat.zero_add, Nat.add_zero, List.set_cons_zero, List.set_cons_succ] at h
     refine WL.nil ?_
     refine W.draw Tryz.follows h (fun w h => ?_)
     refine WT.pure 0 rfl (by kernel_rfl) (fun w' => run_move) rfl rfl (WT.pure 1 rfl (by kernel_rfl) (fun w' => (run_nilCheck rfl)) rfl rfl (WT.pure 2 rfl (by kernel_rfl) (fun w' => (run_fieldAddr 2 underlying65 rfl sizeOf63 rfl rfl)) rfl rfl (WT.load1 3 rfl (by kernel_rfl) isAgg63 rfl (h.cellB (ucell (bs := bs) (bt := bt) hg3 (k := 2) (x := .map (some mb)) (by decide) rfl)) rfl rfl (WT.pure 4 rfl (by kernel_rfl) (fun w' => run_move) rfl rfl (WT.loadN (vs := [.int .i64 _, .int .i64 _, .int .i64 _, .slice _ _ _, .int .i64 _]) 5 rfl (by kernel_rfl) isAgg36 sizeOf36 rfl rfl (h.rowV (n := 5) rfl) rfl rfl ?_)))))
     refine WT.eff 6 [false, false] rfl (by kernel_rfl) (by kernel_rfl) (eff_mapUpdate (k := ((rdN 8 s).1 : Int)) (v := (⟨((rdN 1 (rdN 8 s).2).1 : Int), ((rdN 1 (rdN 1 (rdN 8 s).2).2).1 : Int), ((rdN 2 (rdN 1 (rdN 1 (rdN 8 s).2).2).2).1 : Int), (rdP (rdN 4 (rdN 2 (rdN 1 (rdN 1 (rdN 8 s).2).2).2).2).2).1, ((rdN 4 (rdN 2 (rdN 1 (rdN 1 (rdN 8 s).2).2).2).2).1 : Int)⟩ : Rp).val (.slice a75 (rdP (rdN 4 (rdN 2 (rdN 1 (rdN 1 (rdN 8 s).2).2).2).2).2).1.length c75)) (h.fetch (MapC mb .u64 kvs ck)) underlying63 underlying23 rfl rfl rfl) rfl rfl ?_
     rintro _ w h
     have h := On.toPool ((h.fetch (Pool pool2)).fetch (OwnB (.slice a75 (rdP (rdN 4 (rdN 2 (rdN 1 (rdN 1 (rdN 8 s).2).2).2).2).2).1.length c75) (rdP (rdN 4 (rdN 2 (rdN 1 (rdN 1 (rdN 8 s).2).2).2).2).2).1))
     refine ⟨trivial, ?_⟩
     refine WT.done (by kernel_rfl) (W.region (WL.val run_move rfl rfl (WL.val (run_subK (k := .u64) (m := n) (n := 1) rfl rfl (by omega) (by show _ ≤ (18446744073709551615 : Int); omega)) rfl rfl (WL.val run_assign rfl rfl (WL.nil ?_)))))
     have ob_ : ∃ m, n = m + 1 := ⟨n - 1, by omega⟩
     obtain ⟨m, rfl⟩ := ob_
     have hs2 : s.2 = false := by simpa using c17
     have hXd := rdDone_step (m := m) (D := D) hs2
     rw [hXd] at hX4
     have hok2 := okD_set (id := ((rdN 8 s).1 : Int)) (r := (⟨((rdN 1 (rdN 8 s).2).1 : Int), ((rdN 1 (rdN 1 (rdN 8 s).2).2).1 : Int), ((rdN 2 (rdN 1 (rdN 1 (rdN 8 s).2).2).2).1 : Int), (rdP (rdN 4 (rdN 2 (rdN 1 (rdN 1 (rdN 8 s).2).2).2).2).2).1, ((rdN 4 (rdN 2 (rdN 1 (rdN 1 (rdN 8 s).2).2).2).2).1 : Int)⟩ : Rp)) (dv := (.slice a75 (rdP (rdN 4 (rdN 2 (rdN 1 (rdN 1 (rdN 8 s).2).2).2).2).2).1.length c75)) (ck := ck) (okD_more (p := ((.slice a75 (rdP (rdN 4 (rdN 2 (rdN 1 (rdN 1 (rdN 8 s).2).2).2).2).2).1.length c75), (rdP (rdN 4 (rdN 2 (rdN 1 (rdN 1 (rdN 8 s).2).2).2).2).2).1)) hok) (List.mem_cons_self ..)
     have hl6 : (rdP (rdN 4 (rdN 2 (rdN 1 (rdN 1 (rdN 8 s).2).2).2).2).2).2.1.length ≤ 100000 := by omega
     exact ⟨m, ⟨_, ab, cb, (rdP (rdN 4 (rdN 2 (rdN 1 (rdN 1 (rdN 8 s).2).2).2).2).2).2, putD D ((rdN 8 s).1 : Int) (⟨((rdN 1 (rdN 8 s).2).1 : Int), ((rdN 1 (rdN 1 (rdN 8 s).2).2).1 : Int), ((rdN 2 (rdN 1 (rdN 1 (rdN 8 s).2).2).2).1 : Int), (rdP (rdN 4 (rdN 2 (rdN 1 (rdN 1 (rdN 8 s).2).2).2).2).2).1, ((rdN 4 (rdN 2 (rdN 1 (rdN 1 (rdN 8 s).2).2).2).2).1 : Int)⟩ : Rp), putM kvs ((rdN 8 s).1 : Int) ((⟨((rdN 1 (rdN 8 s).2).1 : Int), ((rdN 1 (rdN 1 (rdN 8 s).2).2).1 : Int), ((rdN 2 (rdN 1 (rdN 1 (rdN 8 s).2).2).2).1 : Int), (rdP (rdN 4 (rdN 2 (rdN 1 (rdN 1 (rdN 8 s).2).2).2).2).2).1, ((rdN 4 (rdN 2 (rdN 1 (rdN 1 (rdN 8 s).2).2).2).2).1 : Int)⟩ : Rp).val (.slice a75 (rdP (rdN 4 (rdN 2 (rdN 1 (rdN 1 (rdN 8 s).2).2).2).2).2).1.length c75)) ck, clockM kvs ((rdN 8 s).1 : Int) ck, ((.slice a75 (rdP (rdN 4 (rdN 2 (rdN 1 (rdN 1 (rdN 8 s).2).2).2).2).2).1.length c75), (rdP (rdN 4 (rdN 2 (rdN 1 (rdN 1 (rdN 8 s).2).2).2).2).2).1) :: pool2, C, hX4, hl6, by omega, hok2, fun p hp => List.mem_cons_of_mem _ (hps p hp), mkE_of ⟨rfl, rfl, rfl, trivial⟩, h.to⟩, by show m < m + 1; omega⟩
    refine W.exit ?_
    have hs2 : s.2 = true := by simpa using c17
    rw [rdDone_bad hs2] at hX4
    exact ⟨_, ab, cb, s, D, kvs, ck, pool2, hX4, hok, hps, mkE_of ⟨rfl, trivial⟩, h.to⟩
   refine WL.val run_move rfl rfl (WL.skip rfl rfl (WL.skip rfl rfl (WL.skip rfl rfl (WL.skip rfl rfl (WL.skip rfl rfl (WL.val (run_pickF rfl) rfl rfl (WL.nil ?_)))))))
   refine W.condF rfl (W.exit ?_)
   have ob_ : n = 0 := by omega
   obtain rfl := ob_
   exact ⟨_, ab, cb, s, D, kvs, ck, pool2, hX4, hok, hps, mkE_of ⟨rfl, trivial⟩, h.to⟩
  clear h C
  rintro env w ⟨j, ab, cb, s, D, kvs, ck, pool2, hX4, hok, hps, rfl, h⟩
  have hD1 : D = (rdDone (rdN 2 (rdN 8 (rdCodes (rdN 2 (b, false)).1 (rdN 2 (b, false)).2 []).2).2).1 (rdN 2 (rdN 8 (rdCodes (rdN 2 (b, false)).1 (rdN 2 (b, false)).2 []).2).2).2 []).1 := congrArg Prod.fst hX4
  have hs1 : s = (rdDone (rdN 2 (rdN 8 (rdCodes (rdN 2 (b, false)).1 (rdN 2 (b, false)).2 []).2).2).1 (rdN 2 (rdN 8 (rdCodes (rdN 2 (b, false)).1 (rdN 2 (b, false)).2 []).2).2).2 []).2 := congrArg Prod.snd hX4
  subst hD1
  subst hs1
  refine W.seq (W.region (WL.val run_move rfl rfl (WL.val (run_nilCheck rfl) rfl rfl (WL.val (run_fieldAddr 1 underlying55 rfl sizeOf4 rfl rfl) rfl rfl (WL.val (run_load1 isAgg4 rfl (h.cellB rfl)) rfl rfl ?_)))))
  refine WL.boolB (run_not rfl) rfl rfl (fun c87 => ?_) (fun c87 => ?_)
  ·
   refine WL.val run_move rfl rfl (WL.val run_move rfl rfl (WL.val (run_nilCheck rfl) rfl rfl (WL.val (run_fieldAddr 0 underlying55 rfl sizeOf22 rfl rfl) rfl rfl (WL.val (run_load1 isAgg22 rfl (h.cellB rfl)) rfl rfl (WL.val (run_lenSlice underlying22 rfl) rfl rfl (WL.val (run_eql rfl rfl) rfl rfl (WL.val (run_pickT rfl) rfl rfl ?_)))))))
   refine WL.val run_assign rfl rfl (WL.nil (W.ret (bodyQ.r1 (v := .bool _) results23 rfl ?_)))
   rw [readG_eq]
   have er : (⟨⟨(rdCodes (rdN 2 (b, false)).1 (rdN 2 (b, false)).2 []).1, ((rdN 8 (rdCodes (rdN 2 (b, false)).1 (rdN 2 (b, false)).2 []).2).1 : Int), (rdDone (rdN 2 (rdN 8 (rdCodes (rdN 2 (b, false)).1 (rdN 2 (b, false)).2 []).2).2).1 (rdN 2 (rdN 8 (rdCodes (rdN 2 (b, false)).1 (rdN 2 (b, false)).2 []).2).2).2 []).1⟩, a, c, mb, ck, kvs⟩ : GX).row = (⟨⟨(rdCodes (rdN 2 (b, false)).1 (rdN 2 (b, false)).2 []).1, ((rdN 8 (rdCodes (rdN 2 (b, false)).1 (rdN 2 (b, false)).2 []).2).1 : Int), []⟩, a, c, mb, 0, []⟩ : GX).row := rfl
   have e1 := rows_same (gs := gs.set i (⟨⟨(rdCodes (rdN 2 (b, false)).1 (rdN 2 (b, false)).2 []).1, ((rdN 8 (rdCodes (rdN 2 (b, false)).1 (rdN 2 (b, false)).2 []).2).1 : Int), []⟩, a, c, mb, 0, []⟩ : GX)) (i := i) (g := (⟨⟨(rdCodes (rdN 2 (b, false)).1 (rdN 2 (b, false)).2 []).1, ((rdN 8 (rdCodes (rdN 2 (b, false)).1 (rdN 2 (b, false)).2 []).2).1 : Int), []⟩, a, c, mb, 0, []⟩ : GX)) (g' := (⟨⟨(rdCodes (rdN 2 (b, false)).1 (rdN 2 (b, false)).2 []).1, ((rdN 8 (rdCodes (rdN 2 (b, false)).1 (rdN 2 (b, false)).2 []).2).1 : Int), (rdDone (rdN 2 (rdN 8 (rdCodes (rdN 2 (b, false)).1 (rdN 2 (b, false)).2 []).2).2).1 (rdN 2 (rdN 8 (rdCodes (rdN 2 (b, false)).1 (rdN 2 (b, false)).2 []).2).2).2 []).1⟩, a, c, mb, ck, kvs⟩ : GX)) (List.getElem?_set_self hig : (gs.set i (⟨⟨(rdCodes (rdN 2 (b, false)).1 (rdN 2 (b, false)).2 []).1, ((rdN 8 (rdCodes (rdN 2 (b, false)).1 (rdN 2 (b, false)).2 []).2).1 : Int), []⟩, a, c, mb, 0, []⟩ : GX))[i]? = some (⟨⟨(rdCodes (rdN 2 (b, false)).1 (rdN 2 (b, false)).2 []).1, ((rdN 8 (rdCodes (rdN 2 (b, false)).1 (rdN 2 (b, false)).2 []).2).1 : Int), []⟩, a, c, mb, 0, []⟩ : GX)) er
   rw [List.set_set] at e1
   have e : ucells bs bt (gs.set i (⟨⟨(rdCodes (rdN 2 (b, false)).1 (rdN 2 (b, false)).2 []).1, ((rdN 8 (rdCodes (rdN 2 (b, false)).1 (rdN 2 (b, false)).2 []).2).1 : Int), []⟩, a, c, mb, 0, []⟩ : GX)) = ucells bs bt (gs.set i (⟨⟨(rdCodes (rdN 2 (b, false)).1 (rdN 2 (b, false)).2 []).1, ((rdN 8 (rdCodes (rdN 2 (b, false)).1 (rdN 2 (b, false)).2 []).2).1 : Int), (rdDone (rdN 2 (rdN 8 (rdCodes (rdN 2 (b, false)).1 (rdN 2 (b, false)).2 []).2).2).1 (rdN 2 (rdN 8 (rdCodes (rdN 2 (b, false)).1 (rdN 2 (b, false)).2 []).2).2).2 []).1⟩, a, c, mb, ck, kvs⟩ : GX)) := by show _ :: _ :: _ = _ :: _ :: (gs.set i (⟨⟨(rdCodes (rdN 2 (b, false)).1 (rdN 2 (b, false)).2 []).1, ((rdN 8 (rdCodes (rdN 2 (b, false)).1 (rdN 2 (b, false)).2 []).2).1 : Int), (rdDone (rdN 2 (rdN 8 (rdCodes (rdN 2 (b, false)).1 (rdN 2 (b, false)).2 []).2).2).1 (rdN 2 (rdN 8 (rdCodes (rdN 2 (b, false)).1 (rdN 2 (b, false)).2 []).2).2).2 []).1⟩, a, c, mb, ck, kvs⟩ : GX)).flatMap GX.row; rw [e1]
   have h := h.fetch (blk bu (ucells bs bt (gs.set i (⟨⟨(rdCodes (rdN 2 (b, false)).1 (rdN 2 (b, false)).2 []).1, ((rdN 8 (rdCodes (rdN 2 (b, false)).1 (rdN 2 (b, false)).2 []).2).1 : Int), []⟩, a, c, mb, 0, []⟩ : GX))) 68)
   rw [e] at h
   refine ⟨a, c, ck, kvs, pool2, hok, hps, congrArg Value.bool ?_, h.to⟩
   rw [c87]
   rw [Bool.true_and]
   exact decide_eq_decide.2 ⟨fun e0 => List.eq_nil_of_length_eq_zero (by omega), fun e0 => by rw [e0]; rfl⟩
  refine WL.val run_move rfl rfl (WL.skip rfl rfl (WL.skip rfl rfl (WL.skip rfl rfl (WL.skip rfl rfl (WL.skip rfl rfl (WL.skip rfl rfl (WL.val (run_pickF rfl) rfl rfl ?_)))))))
  refine WL.val run_assign rfl rfl (WL.nil (W.ret (bodyQ.r1 (v := .bool _) results23 rfl ?_)))
  rw [readG_eq]
  have er : (⟨⟨(rdCodes (rdN 2 (b, false)).1 (rdN 2 (b, false)).2 []).1, ((rdN 8 (rdCodes (rdN 2 (b, false)).1 (rdN 2 (b, false)).2 []).2).1 : Int), (rdDone (rdN 2 (rdN 8 (rdCodes (rdN 2 (b, false)).1 (rdN 2 (b, false)).2 []).2).2).1 (rdN 2 (rdN 8 (rdCodes (rdN 2 (b, false)).1 (rdN 2 (b, false)).2 []).2).2).2 []).1⟩, a, c, mb, ck, kvs⟩ : GX).row = (⟨⟨(rdCodes (rdN 2 (b, false)).1 (rdN 2 (b, false)).2 []).1, ((rdN 8 (rdCodes (rdN 2 (b, false)).1 (rdN 2 (b, false)).2 []).2).1 : Int), []⟩, a, c, mb, 0, []⟩ : GX).row := rfl
  have e1 := rows_same (gs := gs.set i (⟨⟨(rdCodes (rdN 2 (b, false)).1 (rdN 2 (b, false)).2 []).1, ((rdN 8 (rdCodes (rdN 2 (b, false)).1 (rdN 2 (b, false)).2 []).2).1 : Int), []⟩, a, c, mb, 0, []⟩ : GX)) (i := i) (g := (⟨⟨(rdCodes (rdN 2 (b, false)).1 (rdN 2 (b, false)).2 []).1, ((rdN 8 (rdCodes (rdN 2 (b, false)).1 (rdN 2 (b, false)).2 []).2).1 : Int), []⟩, a, c, mb, 0, []⟩ : GX)) (g' := (⟨⟨(rdCodes (rdN 2 (b, false)).1 (rdN 2 (b, false)).2 []).1, ((rdN 8 (rdCodes (rdN 2 (b, false)).1 (rdN 2 (b, false)).2 []).2).1 : Int), (rdDone (rdN 2 (rdN 8 (rdCodes (rdN 2 (b, false)).1 (rdN 2 (b, false)).2 []).2).2).1 (rdN 2 (rdN 8 (rdCodes (rdN 2 (b, false)).1 (rdN 2 (b, false)).2 []).2).2).2 []).1⟩, a, c, mb, ck, kvs⟩ : GX)) (List.getElem?_set_self hig : (gs.set i (⟨⟨(rdCodes (rdN 2 (b, false)).1 (rdN 2 (b, false)).2 []).1, ((rdN 8 (rdCodes (rdN 2 (b, false)).1 (rdN 2 (b, false)).2 []).2).1 : Int), []⟩, a, c, mb, 0, []⟩ : GX))[i]? = some (⟨⟨(rdCodes (rdN 2 (b, false)).1 (rdN 2 (b, false)).2 []).1, ((rdN 8 (rdCodes (rdN 2 (b, false)).1 (rdN 2 (b, false)).2 []).2).1 : Int), []⟩, a, c, mb, 0, []⟩ : GX)) er
  rw [List.set_set] at e1
  have e : ucells bs bt (gs.set i (⟨⟨(rdCodes (rdN 2 (b, false)).1 (rdN 2 (b, false)).2 []).1, ((rdN 8 (rdCodes (rdN 2 (b, false)).1 (rdN 2 (b, false)).2 []).2).1 : Int), []⟩, a, c, mb, 0, []⟩ : GX)) = ucells bs bt (gs.set i (⟨⟨(rdCodes (rdN 2 (b, false)).1 (rdN 2 (b, false)).2 []).1, ((rdN 8 (rdCodes (rdN 2 (b, false)).1 (rdN 2 (b, false)).2 []).2).1 : Int), (rdDone (rdN 2 (rdN 8 (rdCodes (rdN 2 (b, false)).1 (rdN 2 (b, false)).2 []).2).2).1 (rdN 2 (rdN 8 (rdCodes (rdN 2 (b, false)).1 (rdN 2 (b, false)).2 []).2).2).2 []).1⟩, a, c, mb, ck, kvs⟩ : GX)) := by show _ :: _ :: _ = _ :: _ :: (gs.set i (⟨⟨(rdCodes (rdN 2 (b, false)).1 (rdN 2 (b, false)).2 []).1, ((rdN 8 (rdCodes (rdN 2 (b, false)).1 (rdN 2 (b, false)).2 []).2).1 : Int), (rdDone (rdN 2 (rdN 8 (rdCodes (rdN 2 (b, false)).1 (rdN 2 (b, false)).2 []).2).2).1 (rdN 2 (rdN 8 (rdCodes (rdN 2 (b, false)).1 (rdN 2 (b, false)).2 []).2).2).2 []).1⟩, a, c, mb, ck, kvs⟩ : GX)).flatMap GX.row; rw [e1]
  have h := h.fetch (blk bu (ucells bs bt (gs.set i (⟨⟨(rdCodes (rdN 2 (b, false)).1 (rdN 2 (b, false)).2 []).1, ((rdN 8 (rdCodes (rdN 2 (b, false)).1 (rdN 2 (b, false)).2 []).2).1 : Int), []⟩, a, c, mb, 0, []⟩ : GX))) 68)
  rw [e] at h
  refine ⟨a, c, ck, kvs, pool2, hok, hps, congrArg Value.bool ?_, h.to⟩
  rw [c87]
  rfl
end Go.Proofs.YtjbgiingimhnnaaGreat
