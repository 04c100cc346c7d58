/-
  A unit: commands of blocks: the contracts. Lines of walks printed by a program of the prover's.
-/
import Derived.Test.YtjbgiingimhnnaaGreatUnitTwinsFQ2
import Derived.Test.YtjbgiingimhnnaaGreatUnitTwinsFQ1
namespace Go.Proofs.YtjbgiingimhnnaaGreat
open Go.Proofs.Tryz
open Go Go.Sl Go.Sl.BitM Go.Sl.SpM Go.Sl.RsM Go.Sl.ByM Go.Sl.UnM
set_option linter.unusedVariables false
set_option linter.unusedSimpArgs false
set_option maxHeartbeats 1000000
set_option maxRecDepth 8000
variable {W0 w : World} {L F : List HProp}
theorem runM_out {s : Sp} {c : Cm} (h : ¬ inS s c.at_ c.n) : runM s c = (s, plain 2 5 8448) := by unfold runM; rw [if_neg h]
theorem runM_read {s : Sp} {p q : Nat} {n : Int} {d : List UInt8} {key new typ : Int} {f : Bool} (hn : n = q) (h : inS s p n) : runM s ⟨2, p, n, d, key, new, typ, f⟩ = (s, gave (partS s p q)) := by
  subst hn; unfold runM; rw [if_pos h, if_pos rfl]; rfl
theorem runM_write {s : Sp} {p : Nat} {n : Int} {d : List UInt8} {key new typ : Int} {f : Bool} (h : inS s p n) (hl : (d.length : Int) = n * 8) : runM s ⟨3, p, n, d, key, new, typ, f⟩ = (writeS s p d, plain 0 0 0) := by
  unfold runM; rw [if_pos h, if_neg (show ¬ (3 : Int) = 2 by decide), if_pos rfl, if_pos hl]; rfl
theorem runM_write_no {s : Sp} {p n : Int} {d : List UInt8} {key new typ : Int} {f : Bool} (h : inS s p n) (hl : ¬ (d.length : Int) = n * 8) : runM s ⟨3, p, n, d, key, new, typ, f⟩ = (s, plain 2 5 9216) := by
  unfold runM; rw [if_pos h, if_neg (show ¬ (3 : Int) = 2 by decide), if_pos rfl, if_neg hl]
theorem runM_unmap {s : Sp} {p q : Nat} {n : Int} {d : List UInt8} {key new typ : Int} {f : Bool} (hn : n = q) (h : inS s p n) : runM s ⟨5, p, n, d, key, new, typ, f⟩ = (unmapS s p q, plain 0 0 0) := by
  subst hn; unfold runM; rw [if_pos h, if_neg (show ¬ (5 : Int) = 2 by decide), if_neg (show ¬ (5 : Int) = 3 by decide), if_pos rfl]; rfl
theorem runM_cmp {s : Sp} {p q : Nat} {n : Int} {d : List UInt8} {key new typ : Int} {f : Bool} (hn : n = q) (h : inS s p n) (hl : (d.length : Int) = 2 * (n * 8)) : runM s ⟨6, p, n, d, key, new, typ, f⟩ = cmpM s p q d := by
  subst hn; unfold runM; rw [if_pos h, if_neg (show ¬ (6 : Int) = 2 by decide), if_neg (show ¬ (6 : Int) = 3 by decide), if_neg (show ¬ (6 : Int) = 5 by decide), if_pos rfl, if_pos hl]; rfl
theorem runM_cmp_no {s : Sp} {p n : Int} {d : List UInt8} {key new typ : Int} {f : Bool} (h : inS s p n) (hl : ¬ (d.length : Int) = 2 * (n * 8)) : runM s ⟨6, p, n, d, key, new, typ, f⟩ = (s, plain 2 5 9216) := by
  unfold runM; rw [if_pos h, if_neg (show ¬ (6 : Int) = 2 by decide), if_neg (show ¬ (6 : Int) = 3 by decide), if_neg (show ¬ (6 : Int) = 5 by decide), if_pos rfl, if_neg hl]
theorem runM_else {s : Sp} {p n kind : Int} {d : List UInt8} {key new typ : Int} {f : Bool} (h : inS s p n) (h2 : kind ≠ 2) (h3 : kind ≠ 3) (h5 : kind ≠ 5) (h6 : kind ≠ 6) : runM s ⟨kind, p, n, d, key, new, typ, f⟩ = (s, plain 0 0 0) := by
  unfold runM; rw [if_pos h, if_neg h2, if_neg h3, if_neg h5, if_neg h6]
theorem cmpM_yes {s : Sp} {p q : Nat} {d : List UInt8} (h : partS s p q = d.take (8 * q)) : cmpM s p q d = (writeS s p (d.drop (8 * q)), plain 0 0 0) := by unfold cmpM; rw [if_pos h]
theorem cmpM_no {s : Sp} {p q i : Nat} {d : List UInt8} (hw : wfS s) (hpq : p + q ≤ s.N) (hd : d.length = 16 * q) (hi : i < 8 * q) (h1 : (partS s p q)[i]? ≠ d[i]?) (h2 : ∀ j, j < i → (partS s p q)[j]? = d[j]?) : cmpM s p q d = (s, ⟨2, 14, 7424, [], (i : Int)⟩) := by
  unfold cmpM
  rw [if_neg (fun e => h1 (by rw [e, List.getElem?_take, if_pos hi])), diffAt_eq _ _ i h1 (by rw [partS_length hw hpq]; exact hi) (by omega) h2]
theorem On.wfS {b : Nat} {s : Sp} (h : On W0 (SpP 105 b s :: L) w) : wfS s := by
  have ho := openS h
  obtain ⟨gd, od, cd, am, cm, hw, _⟩ := ho
  exact hw
theorem urun_ok {bu : Nat} {u : Un} {pool : PoolL} {ms : List Nat} {kind at_ n key new typ : Int} {force : Bool} {data : List UInt8} {ax : Option Addr} {cx : Nat} (h : On W0 (UnP 68 105 113 bu pool ms u :: L) w) (C : Gives L (Bytes (.slice ax data.length cx) data)) (hd : data.length ≤ 1000000) : Calls Tryz.prog 64 #[.pointer (some ⟨bu, 0, none⟩), (⟨kind, at_, n, data, key, new, typ, force⟩ : Cm).val (.slice ax data.length cx)] w (Ret fun v w' => ∃ s' r dv, runM u.s (⟨kind, at_, n, data, key, new, typ, force⟩ : Cm) = (s', r) ∧ v = r.val dv ∧ On W0 (OwnB dv r.data :: UnP 68 105 113 bu pool ms (u.setS s') :: L) w') := by
  refine enter func64 rfl ntmps64 rfl ?_
  have hmx := maxLen_eq
  have ob_ := openU h
  obtain ⟨bs, bt, gs, hm, hl, h⟩ := ob_
  have hwf := On.wfS (h.fetch (SpP 105 bs u.s))
  have hN := hwf.2.2.1
  refine W.seq (W.region (WL.eff (eff_box (v := .agg _) (l := (⟨kind, at_, n, data, key, new, typ, force⟩ : Cm).cells (.slice ax data.length cx)) h rfl rfl) rfl rfl ?_))
  rintro _ w ⟨b3, rfl, h⟩
  have h : On W0 (blk b3 [.int .i64 kind, .int .i64 at_, .int .i64 n, .slice ax data.length cx, .int .u64 key, .int .u64 new, .int .i64 typ, .bool force] 25 :: _) w := h
  refine WL.eff (eff_alloc h zeroValue36 rfl) rfl rfl ?_
  rintro _ w ⟨b4, rfl, h⟩
  refine WL.nil (W.seq (W.seq ?_))
  refine W.draw Tryz.follows h (fun w h => ?_)
  refine WT.pure 0 rfl (by kernel_rfl) (fun w' => run_move) rfl rfl (WT.pure 1 rfl (by kernel_rfl) (fun w' => (run_nilCheck rfl)) rfl rfl (WT.pure 2 rfl (by kernel_rfl) (fun w' => (run_fieldAddr 0 underlying68 rfl sizeOf56 rfl rfl)) rfl rfl (WT.load1 3 rfl (by kernel_rfl) isAgg56 rfl (h.cellB rfl) rfl rfl (WT.pure 4 rfl (by kernel_rfl) (fun w' => (run_fieldAddr 1 underlying25 rfl sizeOf3 rfl rfl)) rfl rfl (WT.load1 5 rfl (by kernel_rfl) isAgg3 rfl (h.cellB rfl) rfl rfl (WT.pure 6 rfl (by kernel_rfl) (fun w' => (run_fieldAddr 2 underlying25 rfl sizeOf3 rfl rfl)) rfl rfl (WT.load1 7 rfl (by kernel_rfl) isAgg3 rfl (h.cellB rfl) rfl rfl ?_)))))))
  refine WT.eff 8 [false, false, false] rfl (by kernel_rfl) (by kernel_rfl) (eff_call call107 (sin_ok (h.fetch (SpP 105 bs u.s)))) rfl rfl ?_
  rintro _ w ⟨hv, h⟩
  rcases hv with ⟨rfl, hin⟩ | ⟨rfl, hin⟩
  all_goals (refine ⟨trivial, ?_⟩)
  ·
   refine WT.pure 9 rfl (by kernel_rfl) (fun w' => (run_not rfl)) rfl rfl (WT.done (by kernel_rfl) (W.condF rfl (W.skip (W.seq ?_))))
   have hin0 := hin
   unfold inS at hin0
   have ob_ := Int.eq_ofNat_of_zero_le (show 0 ≤ at_ by omega)
   obtain ⟨p, hp⟩ := ob_
   subst hp
   have ob_ := Int.eq_ofNat_of_zero_le (show 0 ≤ n by omega)
   obtain ⟨q, hq⟩ := ob_
   subst hq
   refine W.region (WL.val (run_fieldAddr 2 underlying25 rfl sizeOf3 rfl rfl) rfl rfl (WL.val (run_load1 isAgg3 rfl (h.cellB rfl)) rfl rfl (WL.val (run_mulN (m := q) (n := 8) rfl rfl (by omega)) rfl rfl (WL.val run_assign rfl rfl (WL.nil (W.seq (W.seq ?_)))))))
   refine W.region (WL.val (run_fieldAddr 0 underlying25 rfl sizeOf3 rfl rfl) rfl rfl (WL.val (run_load1 isAgg3 rfl (h.cellB rfl)) rfl rfl (WL.nil (W.block (W.seq (W.region (WL.val (run_eql rfl rfl) rfl rfl ?_)))))))
   refine WL.val run_assign rfl rfl (WL.nil ?_)
   refine W.condIf rfl (fun c10 => ?_) (fun c10 => ?_)
   ·
    refine W.seq ?_
    refine W.draw Tryz.follows h (fun w h => ?_)
    refine WT.pure 0 rfl (by kernel_rfl) (fun w' => run_move) rfl rfl (WT.pure 1 rfl (by kernel_rfl) (fun w' => (run_nilCheck rfl)) rfl rfl (WT.pure 2 rfl (by kernel_rfl) (fun w' => (run_fieldAddr 0 underlying68 rfl sizeOf56 rfl rfl)) rfl rfl (WT.load1 3 rfl (by kernel_rfl) isAgg56 rfl (h.cellB rfl) rfl rfl (WT.pure 4 rfl (by kernel_rfl) (fun w' => (run_fieldAddr 1 underlying25 rfl sizeOf3 rfl rfl)) rfl rfl (WT.load1 5 rfl (by kernel_rfl) isAgg3 rfl (h.cellB rfl) rfl rfl (WT.pure 6 rfl (by kernel_rfl) (fun w' => (run_fieldAddr 2 underlying25 rfl sizeOf3 rfl rfl)) rfl rfl (WT.load1 7 rfl (by kernel_rfl) isAgg3 rfl (h.cellB rfl) rfl rfl ?_)))))))
    refine WT.eff 8 [false, false, false] rfl (by kernel_rfl) (by kernel_rfl) (eff_call call108 (read_ok (s := u.s) (at_ := (p : Int)) (n := (q : Int)) (h.fetch (SpP 105 bs u.s)))) rfl rfl ?_
    rintro _ w hv
    rcases hv with ⟨p', q', hp', hq', hpq, hq32, a38, rfl, h⟩ | ⟨hno, _, _⟩
    rotate_left
    · exact absurd hin hno
    have ob_ : p = p' := by omega
    obtain rfl := ob_
    have ob_ : q = q' := by omega
    obtain rfl := ob_
    refine ⟨trivial, ?_⟩
    refine WT.pure 9 rfl (by kernel_rfl) (fun w' => run_move) rfl rfl (WT.pure 10 rfl (by kernel_rfl) (fun w' => (run_extract rfl rfl)) rfl rfl (WT.pure 11 rfl (by kernel_rfl) (fun w' => (run_extract rfl rfl)) rfl rfl (WT.pure 12 rfl (by kernel_rfl) (fun w' => run_assign) rfl rfl (WT.pure 13 rfl (by kernel_rfl) (fun w' => run_assign) rfl rfl (WT.done (by kernel_rfl) (W.seq (W.region ?_)))))))
    refine WL.val run_move rfl rfl (WL.eff (eff_call call28 (sgood_ok (bs := partS u.s p q) h (Gives.ownO (v := .slice a38 (partS u.s p q).length (partS u.s p q).length)) (by rw [partS_length hwf hpq]; omega))) rfl rfl ?_)
    rintro _ w ⟨a42, rfl, h⟩
    refine WL.eff (eff_storeW (vs := [.int .i64 _, .int .i64 _, .int .i64 _, .slice _ _ _, .int .i64 _]) h sizeOf36 rfl rfl rfl rfl rfl) rfl rfl ?_
    rintro _ w h
    refine WL.nil (W.ret (bodyQ.rcB (vs := [.int .i64 _, .int .i64 _, .int .i64 _, .slice _ _ _, .int .i64 _]) h results64 isAgg36 sizeOf36 rfl rfl rfl ?_))
    have h := (closeU (bu := bu) (u := u.setS u.s) hm hl ((((h.fetch (Big (GOwn pool) gs)).fetch (blk bt u.t.cells 113)).fetch (SpP 105 bs u.s)).fetch (blk bu (ucells bs bt gs) 68)))
    have h : On W0 (OwnB (.slice a42 (partS u.s p q).length (partS u.s p q).length) (gave (partS u.s p q)).data :: _) w := h.fetch (OwnB (.slice a42 (partS u.s p q).length (partS u.s p q).length) (partS u.s p q))
    exact ⟨u.s, _, .slice a42 (partS u.s p q).length (partS u.s p q).length, (by rw [c10]; exact runM_read rfl hin), rfl, h.to⟩
   refine W.seq (W.region (WL.val (run_eql rfl rfl) rfl rfl (WL.val run_assign rfl rfl (WL.nil ?_))))
   refine W.condIf rfl (fun c15 => ?_) (fun c15 => ?_)
   ·
    refine W.seq (W.seq (W.region (WL.val (run_fieldAddr 3 underlying25 rfl sizeOf22 rfl rfl) rfl rfl (WL.val (run_load1 isAgg22 rfl (h.cellB rfl)) rfl rfl (WL.val (run_lenSlice underlying22 rfl) rfl rfl (WL.val run_move rfl rfl (WL.val (run_neq rfl rfl) rfl rfl ?_)))))))
    refine WL.nil ?_
    refine W.condIf rfl (fun c17 => ?_) (fun c17 => ?_)
    ·
     refine W.seq (W.region (WL.eff (eff_call call26 (wrong_ok h)) rfl rfl ?_))
     rintro _ w ⟨rfl, h⟩
     refine WL.eff (eff_storeW (vs := [.int .i64 _, .int .i64 _, .int .i64 _, .slice _ _ _, .int .i64 _]) h sizeOf36 rfl rfl rfl rfl rfl) rfl rfl ?_
     rintro _ w h
     refine WL.nil (W.ret (bodyQ.rcB (vs := [.int .i64 _, .int .i64 _, .int .i64 _, .slice _ _ _, .int .i64 _]) h results64 isAgg36 sizeOf36 rfl rfl rfl ?_))
     have h : On W0 (OwnB (.slice none 0 0) (plain 2 5 9216 : Rp).data :: _) w := (closeU (bu := bu) (u := u.setS u.s) hm hl ((((h.fetch (Big (GOwn pool) gs)).fetch (blk bt u.t.cells 113)).fetch (SpP 105 bs u.s)).fetch (blk bu (ucells bs bt gs) 68))).ownEmpty 1 none
     exact ⟨u.s, plain 2 5 9216, .slice none 0 0, (by rw [c15]; exact runM_write_no hin (by omega)), rfl, h.to⟩
    refine W.skip ?_
    refine W.draw Tryz.follows h (fun w h => ?_)
    refine WT.pure 0 rfl (by kernel_rfl) (fun w' => run_move) rfl rfl (WT.pure 1 rfl (by kernel_rfl) (fun w' => (run_nilCheck rfl)) rfl rfl (WT.pure 2 rfl (by kernel_rfl) (fun w' => (run_fieldAddr 0 underlying68 rfl sizeOf56 rfl rfl)) rfl rfl (WT.load1 3 rfl (by kernel_rfl) isAgg56 rfl (h.cellB rfl) rfl rfl (WT.pure 4 rfl (by kernel_rfl) (fun w' => (run_fieldAddr 1 underlying25 rfl sizeOf3 rfl rfl)) rfl rfl (WT.load1 5 rfl (by kernel_rfl) isAgg3 rfl (h.cellB rfl) rfl rfl (WT.pure 6 rfl (by kernel_rfl) (fun w' => (run_fieldAddr 3 underlying25 rfl sizeOf22 rfl rfl)) rfl rfl (WT.load1 7 rfl (by kernel_rfl) isAgg22 rfl (h.cellB rfl) rfl rfl ?_)))))))
    refine WT.eff 8 [false, false, false] rfl (by kernel_rfl) (by kernel_rfl) (eff_call call109 (write_ok (s := u.s) (at_ := (p : Int)) (bs := data) (h.fetch (SpP 105 bs u.s)) (Gives.to C))) rfl rfl ?_
    rintro _ w hv
    rcases hv with ⟨p', hp', hm8, hpw, hq32, rfl, h⟩ | ⟨hno, _, _⟩
    rotate_left
    · exact absurd (show _ ∧ _ from ⟨by omega, by unfold inS; omega⟩) hno
    have ob_ : p = p' := by omega
    obtain rfl := ob_
    refine ⟨trivial, ?_⟩
    refine WT.done (by kernel_rfl) (W.seq (W.region (WL.val (run_buildS (pl := [(0, 1), (1, 1), (2, 1), (3, 1), (4, 1)]) (out := [.int .i64 _, .int .i64 _, .int .i64 _, .slice _ _ _, .int .i64 _]) underlying36 zeroValue36 (fun w => by kernel_rfl) rfl (trivial) rfl) rfl rfl (WL.eff (eff_storeW (vs := [.int .i64 _, .int .i64 _, .int .i64 _, .slice _ _ _, .int .i64 _]) h sizeOf36 rfl rfl rfl rfl rfl) rfl rfl ?_))))
    rintro _ w h
    refine WL.nil (W.ret (bodyQ.rcB (vs := [.int .i64 _, .int .i64 _, .int .i64 _, .slice _ _ _, .int .i64 _]) h results64 isAgg36 sizeOf36 rfl rfl rfl ?_))
    have h : On W0 (OwnB (.slice none 0 0) (plain 0 0 0 : Rp).data :: _) w := (closeU (bu := bu) (u := u.setS (writeS u.s p data)) hm hl ((((h.fetch (Big (GOwn pool) gs)).fetch (blk bt u.t.cells 113)).fetch (SpP 105 bs (writeS u.s p data))).fetch (blk bu (ucells bs bt gs) 68))).ownEmpty 1 none
    exact ⟨(writeS u.s p data), plain 0 0 0, .slice none 0 0, (by rw [c15]; exact runM_write hin (by omega)), rfl, h.to⟩
   refine W.seq (W.region (WL.val (run_eql rfl rfl) rfl rfl (WL.val run_assign rfl rfl (WL.nil ?_))))
   refine W.condIf rfl (fun c23 => ?_) (fun c23 => ?_)
   ·
    refine W.draw Tryz.follows h (fun w h => ?_)
    refine WT.pure 0 rfl (by kernel_rfl) (fun w' => run_move) rfl rfl (WT.pure 1 rfl (by kernel_rfl) (fun w' => (run_nilCheck rfl)) rfl rfl (WT.pure 2 rfl (by kernel_rfl) (fun w' => (run_fieldAddr 0 underlying68 rfl sizeOf56 rfl rfl)) rfl rfl (WT.load1 3 rfl (by kernel_rfl) isAgg56 rfl (h.cellB rfl) rfl rfl (WT.pure 4 rfl (by kernel_rfl) (fun w' => (run_fieldAddr 1 underlying25 rfl sizeOf3 rfl rfl)) rfl rfl (WT.load1 5 rfl (by kernel_rfl) isAgg3 rfl (h.cellB rfl) rfl rfl (WT.pure 6 rfl (by kernel_rfl) (fun w' => (run_fieldAddr 2 underlying25 rfl sizeOf3 rfl rfl)) rfl rfl (WT.load1 7 rfl (by kernel_rfl) isAgg3 rfl (h.cellB rfl) rfl rfl ?_)))))))
    refine WT.eff 8 [false, false, false] rfl (by kernel_rfl) (by kernel_rfl) (eff_call call110 (unmap_ok (s := u.s) (at_ := (p : Int)) (n := (q : Int)) (h.fetch (SpP 105 bs u.s)))) rfl rfl ?_
    rintro _ w hv
    rcases hv with ⟨p', q', hp', hq', hpq, hq32, rfl, h⟩ | ⟨hno, _, _⟩
    rotate_left
    · exact absurd hin hno
    have ob_ : p = p' := by omega
    obtain rfl := ob_
    have ob_ : q = q' := by omega
    obtain rfl := ob_
    refine ⟨trivial, ?_⟩
    refine WT.done (by kernel_rfl) (W.seq (W.region (WL.val (run_buildS (pl := [(0, 1), (1, 1), (2, 1), (3, 1), (4, 1)]) (out := [.int .i64 _, .int .i64 _, .int .i64 _, .slice _ _ _, .int .i64 _]) underlying36 zeroValue36 (fun w => by kernel_rfl) rfl (trivial) rfl) rfl rfl (WL.eff (eff_storeW (vs := [.int .i64 _, .int .i64 _, .int .i64 _, .slice _ _ _, .int .i64 _]) h sizeOf36 rfl rfl rfl rfl rfl) rfl rfl ?_))))
    rintro _ w h
    refine WL.nil (W.ret (bodyQ.rcB (vs := [.int .i64 _, .int .i64 _, .int .i64 _, .slice _ _ _, .int .i64 _]) h results64 isAgg36 sizeOf36 rfl rfl rfl ?_))
    have h : On W0 (OwnB (.slice none 0 0) (plain 0 0 0 : Rp).data :: _) w := (closeU (bu := bu) (u := u.setS (unmapS u.s p q)) hm hl ((((h.fetch (Big (GOwn pool) gs)).fetch (blk bt u.t.cells 113)).fetch (SpP 105 bs (unmapS u.s p q))).fetch (blk bu (ucells bs bt gs) 68))).ownEmpty 1 none
    exact ⟨(unmapS u.s p q), plain 0 0 0, .slice none 0 0, (by rw [c23]; exact runM_unmap rfl hin), rfl, h.to⟩
   refine W.seq (W.region (WL.val (run_eql rfl rfl) rfl rfl (WL.val run_assign rfl rfl (WL.nil ?_))))
   refine W.condIf rfl (fun c26 => ?_) (fun c26 => ?_)
   ·
    refine W.seq (W.seq (W.region (WL.val (run_fieldAddr 3 underlying25 rfl sizeOf22 rfl rfl) rfl rfl (WL.val (run_load1 isAgg22 rfl (h.cellB rfl)) rfl rfl (WL.val (run_lenSlice underlying22 rfl) rfl rfl (WL.val run_move rfl rfl (WL.val (run_mulN (m := 2) (n := q * 8) rfl rfl (by omega)) rfl rfl ?_)))))))
    refine WL.val (run_neq rfl rfl) rfl rfl (WL.nil ?_)
    refine W.condIf rfl (fun c28 => ?_) (fun c28 => ?_)
    ·
     refine W.seq (W.region (WL.eff (eff_call call26 (wrong_ok h)) rfl rfl ?_))
     rintro _ w ⟨rfl, h⟩
     refine WL.eff (eff_storeW (vs := [.int .i64 _, .int .i64 _, .int .i64 _, .slice _ _ _, .int .i64 _]) h sizeOf36 rfl rfl rfl rfl rfl) rfl rfl ?_
     rintro _ w h
     refine WL.nil (W.ret (bodyQ.rcB (vs := [.int .i64 _, .int .i64 _, .int .i64 _, .slice _ _ _, .int .i64 _]) h results64 isAgg36 sizeOf36 rfl rfl rfl ?_))
     have h : On W0 (OwnB (.slice none 0 0) (plain 2 5 9216 : Rp).data :: _) w := (closeU (bu := bu) (u := u.setS u.s) hm hl ((((h.fetch (Big (GOwn pool) gs)).fetch (blk bt u.t.cells 113)).fetch (SpP 105 bs u.s)).fetch (blk bu (ucells bs bt gs) 68))).ownEmpty 1 none
     exact ⟨u.s, plain 2 5 9216, .slice none 0 0, (by rw [c26]; exact runM_cmp_no hin (by omega)), rfl, h.to⟩
    refine W.skip (W.seq ?_)
    refine W.draw Tryz.follows h (fun w h => ?_)
    refine WT.pure 0 rfl (by kernel_rfl) (fun w' => run_move) rfl rfl (WT.pure 1 rfl (by kernel_rfl) (fun w' => (run_nilCheck rfl)) rfl rfl (WT.pure 2 rfl (by kernel_rfl) (fun w' => (run_fieldAddr 0 underlying68 rfl sizeOf56 rfl rfl)) rfl rfl (WT.load1 3 rfl (by kernel_rfl) isAgg56 rfl (h.cellB rfl) rfl rfl (WT.pure 4 rfl (by kernel_rfl) (fun w' => (run_fieldAddr 1 underlying25 rfl sizeOf3 rfl rfl)) rfl rfl (WT.load1 5 rfl (by kernel_rfl) isAgg3 rfl (h.cellB rfl) rfl rfl (WT.pure 6 rfl (by kernel_rfl) (fun w' => (run_fieldAddr 3 underlying25 rfl sizeOf22 rfl rfl)) rfl rfl (WT.load1 7 rfl (by kernel_rfl) isAgg22 rfl (h.cellB rfl) rfl rfl ?_)))))))
    refine WT.eff 8 [false, false, false] rfl (by kernel_rfl) (by kernel_rfl) (eff_call call111 (compare_ok (s := u.s) (at_ := (p : Int)) (bs := data) (h.fetch (SpP 105 bs u.s)) (Gives.to C))) rfl rfl ?_
    rintro _ w hv
    rcases hv with ⟨p', q', hp', hq32b, hpq, hq32, hcs⟩ | ⟨hno, _, _⟩
    rotate_left
    · exact absurd (show _ ∧ _ from ⟨by omega, by unfold inS; omega⟩) hno
    have ob_ : p = p' := by omega
    obtain rfl := ob_
    have ob_ : q = q' := by omega
    obtain rfl := ob_
    rcases hcs with ⟨hsame, rfl, h⟩ | ⟨k, hk, hk1, hk2, rfl, h⟩
    all_goals (refine ⟨trivial, ?_⟩)
    ·
     refine WT.pure 9 rfl (by kernel_rfl) (fun w' => run_move) rfl rfl (WT.pure 10 rfl (by kernel_rfl) (fun w' => (run_extract rfl rfl)) rfl rfl (WT.pure 11 rfl (by kernel_rfl) (fun w' => (run_extract rfl rfl)) rfl rfl (WT.pure 12 rfl (by kernel_rfl) (fun w' => run_assign) rfl rfl (WT.pure 13 rfl (by kernel_rfl) (fun w' => run_assign) rfl rfl (WT.done (by kernel_rfl) (W.seq (W.region ?_)))))))
     refine WL.val run_move rfl rfl (WL.val (run_geq rfl rfl) rfl rfl (WL.nil ?_))
     refine W.condIf rfl (fun c34 => ?_) (fun c34 => ?_)
     ·
      exact absurd c34 (by decide)
     refine W.skip (W.seq (W.region (WL.val (run_buildS (pl := [(0, 1), (1, 1), (2, 1), (3, 1), (4, 1)]) (out := [.int .i64 _, .int .i64 _, .int .i64 _, .slice _ _ _, .int .i64 _]) underlying36 zeroValue36 (fun w => by kernel_rfl) rfl (trivial) rfl) rfl rfl (WL.eff (eff_storeW (vs := [.int .i64 _, .int .i64 _, .int .i64 _, .slice _ _ _, .int .i64 _]) h sizeOf36 rfl rfl rfl rfl rfl) rfl rfl ?_))))
     rintro _ w h
     refine WL.nil (W.ret (bodyQ.rcB (vs := [.int .i64 _, .int .i64 _, .int .i64 _, .slice _ _ _, .int .i64 _]) h results64 isAgg36 sizeOf36 rfl rfl rfl ?_))
     have h : On W0 (OwnB (.slice none 0 0) (plain 0 0 0 : Rp).data :: _) w := (closeU (bu := bu) (u := u.setS (writeS u.s p (data.drop (8 * q)))) hm hl ((((h.fetch (Big (GOwn pool) gs)).fetch (blk bt u.t.cells 113)).fetch (SpP 105 bs (writeS u.s p (data.drop (8 * q))))).fetch (blk bu (ucells bs bt gs) 68))).ownEmpty 1 none
     exact ⟨(writeS u.s p (data.drop (8 * q))), plain 0 0 0, .slice none 0 0, (by rw [c26, runM_cmp rfl hin (by omega)]; exact cmpM_yes hsame), rfl, h.to⟩
    refine WT.pure 9 rfl (by kernel_rfl) (fun w' => run_move) rfl rfl (WT.pure 10 rfl (by kernel_rfl) (fun w' => (run_extract rfl rfl)) rfl rfl (WT.pure 11 rfl (by kernel_rfl) (fun w' => (run_extract rfl rfl)) rfl rfl (WT.pure 12 rfl (by kernel_rfl) (fun w' => run_assign) rfl rfl (WT.pure 13 rfl (by kernel_rfl) (fun w' => run_assign) rfl rfl (WT.done (by kernel_rfl) (W.seq (W.region ?_)))))))
    refine WL.val run_move rfl rfl (WL.val (run_geq rfl rfl) rfl rfl (WL.nil ?_))
    refine W.condIf rfl (fun c34 => ?_) (fun c34 => ?_)
    ·
     refine W.seq (W.region (WL.eff (eff_call call26 (wrong_ok h)) rfl rfl ?_))
     rintro _ w ⟨rfl, h⟩
     refine WL.eff (eff_alloc h zeroValue36 rfl) rfl rfl ?_
     rintro _ w ⟨b10, rfl, h⟩
     refine WL.eff (eff_storeW (vs := [.int .i64 _, .int .i64 _, .int .i64 _, .slice _ _ _, .int .i64 _]) h sizeOf36 rfl rfl rfl rfl rfl) rfl rfl ?_
     rintro _ w h
     refine WL.nil (W.seq (W.region (WL.val run_move rfl rfl (WL.val (run_fieldAddr 4 underlying36 rfl sizeOf3 rfl rfl) rfl rfl (WL.eff (eff_store (v := .int .i64 _) h sizeOf3 rfl rfl rfl rfl rfl) rfl rfl ?_)))))
     rintro _ w h
     try simp only [Nat.zero_add, Nat.add_zero, List.set_cons_zero, List.set_cons_succ] at h
     refine WL.nil (W.seq (W.region (WL.val (run_loadB (vs := [.int .i64 _, .int .i64 _, .int .i64 _, .slice _ _ _, .int .i64 _]) h isAgg36 sizeOf36 rfl rfl rfl) rfl rfl (WL.eff (eff_storeW (vs := [.int .i64 _, .int .i64 _, .int .i64 _, .slice _ _ _, .int .i64 _]) h sizeOf36 rfl rfl rfl rfl rfl) rfl rfl ?_))))
     rintro _ w h
     refine WL.nil (W.ret (bodyQ.rcB (vs := [.int .i64 _, .int .i64 _, .int .i64 _, .slice _ _ _, .int .i64 _]) h results64 isAgg36 sizeOf36 rfl rfl rfl ?_))
     have h : On W0 (OwnB (.slice none 0 0) (⟨2, 14, 7424, [], (k : Int)⟩ : Rp).data :: _) w := (closeU (bu := bu) (u := u.setS u.s) hm hl ((((h.fetch (Big (GOwn pool) gs)).fetch (blk bt u.t.cells 113)).fetch (SpP 105 bs u.s)).fetch (blk bu (ucells bs bt gs) 68))).ownEmpty 1 none
     exact ⟨u.s, ⟨2, 14, 7424, [], (k : Int)⟩, .slice none 0 0, (by rw [c26, runM_cmp rfl hin (by omega)]; exact cmpM_no hwf hpq hq32b hk hk1 hk2), rfl, h.to⟩
    exact absurd (Int.natCast_nonneg k) c34
   refine W.skip (W.seq (W.region (WL.val (run_buildS (pl := [(0, 1), (1, 1), (2, 1), (3, 1), (4, 1)]) (out := [.int .i64 _, .int .i64 _, .int .i64 _, .slice _ _ _, .int .i64 _]) underlying36 zeroValue36 (fun w => by kernel_rfl) rfl (trivial) rfl) rfl rfl (WL.eff (eff_storeW (vs := [.int .i64 _, .int .i64 _, .int .i64 _, .slice _ _ _, .int .i64 _]) h sizeOf36 rfl rfl rfl rfl rfl) rfl rfl ?_))))
   rintro _ w h
   refine WL.nil (W.ret (bodyQ.rcB (vs := [.int .i64 _, .int .i64 _, .int .i64 _, .slice _ _ _, .int .i64 _]) h results64 isAgg36 sizeOf36 rfl rfl rfl ?_))
   have h : On W0 (OwnB (.slice none 0 0) (plain 0 0 0 : Rp).data :: _) w := (closeU (bu := bu) (u := u.setS u.s) hm hl ((((h.fetch (Big (GOwn pool) gs)).fetch (blk bt u.t.cells 113)).fetch (SpP 105 bs u.s)).fetch (blk bu (ucells bs bt gs) 68))).ownEmpty 1 none
   exact ⟨u.s, plain 0 0 0, .slice none 0 0, runM_else hin c10 c15 c23 c26, rfl, h.to⟩
  refine WT.pure 9 rfl (by kernel_rfl) (fun w' => (run_not rfl)) rfl rfl (WT.done (by kernel_rfl) (W.condT rfl (W.seq (W.region (WL.eff (eff_call call26 (wrong_ok h)) rfl rfl ?_)))))
  rintro _ w ⟨rfl, h⟩
  refine WL.eff (eff_storeW (vs := [.int .i64 _, .int .i64 _, .int .i64 _, .slice _ _ _, .int .i64 _]) h sizeOf36 rfl rfl rfl rfl rfl) rfl rfl ?_
  rintro _ w h
  refine WL.nil (W.ret (bodyQ.rcB (vs := [.int .i64 _, .int .i64 _, .int .i64 _, .slice _ _ _, .int .i64 _]) h results64 isAgg36 sizeOf36 rfl rfl rfl ?_))
  have h : On W0 (OwnB (.slice none 0 0) (plain 2 5 8448 : Rp).data :: _) w := (closeU (bu := bu) (u := u.setS u.s) hm hl ((((h.fetch (Big (GOwn pool) gs)).fetch (blk bt u.t.cells 113)).fetch (SpP 105 bs u.s)).fetch (blk bu (ucells bs bt gs) 68))).ownEmpty 1 none
  exact ⟨u.s, plain 2 5 8448, .slice none 0 0, runM_out hin, rfl, h.to⟩
end Go.Proofs.YtjbgiingimhnnaaGreat
/-
  A unit: commands: the contracts. Lines of walks printed by a program of the prover's.
-/
namespace Go.Proofs.YtjbgiingimhnnaaGreat
open Go.Proofs.Tryz
open Go Go.Sl Go.Sl.BitM Go.Sl.SpM Go.Sl.RsM Go.Sl.ByM Go.Sl.UnM
set_option linter.unusedVariables false
set_option linter.unusedSimpArgs false
set_option maxHeartbeats 1000000
set_option maxRecDepth 8000
variable {W0 w : World} {L F : List HProp}
theorem uhost_ok {x : Int} (h : On W0 L w) : Calls Tryz.prog 25 #[.int .i64 x] w (Ret fun v w' => v = .bool (hostB x) ∧ On W0 L w') := by
  refine enter func25 rfl ntmps25 rfl (W.seq (W.region (WL.val run_assign rfl rfl (WL.nil (W.seq (W.region (WL.val run_move rfl rfl ?_)))))))
  refine WL.dec (run_geq rfl rfl) rfl rfl (fun c4 => ?_) (fun c4 => ?_)
  ·
   refine WL.val run_move rfl rfl (WL.val run_move rfl rfl ?_)
   refine WL.dec (run_lss rfl rfl) rfl rfl (fun c7 => ?_) (fun c7 => ?_)
   ·
    refine WL.val (run_pickT rfl) rfl rfl (WL.val run_assign rfl rfl (WL.nil (W.ret (bodyQ.r1 (v := .bool _) results25 rfl ?_))))
    exact ⟨by rw [hostB_iff.2 ⟨by omega, by omega⟩], h⟩
   refine WL.val (run_pickT rfl) rfl rfl (WL.val run_assign rfl rfl (WL.nil (W.ret (bodyQ.r1 (v := .bool _) results25 rfl ?_))))
   exact ⟨by rw [hostB_no.2 (by omega)], h⟩
  refine WL.val run_move rfl rfl (WL.skip rfl rfl (WL.skip rfl rfl (WL.val (run_pickF rfl) rfl rfl (WL.val run_assign rfl rfl (WL.nil (W.ret (bodyQ.r1 (v := .bool _) results25 rfl ?_)))))))
  exact ⟨by rw [hostB_no.2 (by omega)], h⟩
theorem ublocks_ok {bu : Nat} {u : Un} {pool : PoolL} {ms : List Nat} (h : On W0 (UnP 68 105 113 bu pool ms u :: L) w) : Calls Tryz.prog 9 #[.pointer (some ⟨bu, 0, none⟩)] w (Ret fun v w' => v = .int .i64 (u.s.N : Int) ∧ On W0 (UnP 68 105 113 bu pool ms u :: L) w') := by
  refine enter func9 rfl ntmps9 rfl ?_
  have ob_ := openU h
  obtain ⟨bs, bt, gs, hm, hl, h⟩ := ob_
  refine W.seq (W.region (WL.val run_assign rfl rfl (WL.nil (W.seq (W.region (WL.val run_move rfl rfl (WL.val (run_nilCheck rfl) rfl rfl ?_)))))))
  refine WL.val (run_fieldAddr 0 underlying68 rfl sizeOf56 rfl rfl) rfl rfl (WL.val (run_load1 isAgg56 rfl (h.cellB rfl)) rfl rfl (WL.eff (eff_call call22 (blocks_ok (h.fetch (SpP 105 bs u.s)))) rfl rfl ?_))
  rintro _ w ⟨rfl, h⟩
  refine WL.val run_assign rfl rfl (WL.nil (W.ret (bodyQ.r1 (v := .int .i64 _) results9 rfl ?_)))
  exact ⟨rfl, closeU (bu := bu) (u := u) hm hl ((((h.fetch (Big (GOwn pool) gs)).fetch (blk bt u.t.cells 113)).fetch (SpP 105 bs u.s)).fetch (blk bu (ucells bs bt gs) 68))⟩
theorem actM_run {u : Un} {i : Nat} {c : Cm} (h2 : 2 ≤ c.kind) (h6 : c.kind ≤ 6) : actM u i c = (u.setS (runM u.s c).1, (runM u.s c).2) := by
  unfold actM; rw [if_neg (by omega), if_neg (by omega), if_neg (by omega), if_pos h6]
theorem actM_reset {u : Un} {i : Nat} {c : Cm} (h : c.kind = 18) : actM u i c = (resetN u 8, plain 0 0 0) := by
  unfold actM; rw [if_neg (by omega), if_neg (by omega), if_neg (by omega), if_neg (by omega), if_pos h]
theorem On.unLen {bu : Nat} {u : Un} {pool : PoolL} {ms : List Nat} (h : On W0 (UnP 68 105 113 bu pool ms u :: L) w) : u.g.length = 8 ∧ Go.Sl.SpM.wfS u.s := by
  have ho := openU h
  obtain ⟨bs, bt, gs, hm, hl, h⟩ := ho
  exact ⟨hl, On.wfS (h.fetch (SpP 105 bs u.s))⟩
end Go.Proofs.YtjbgiingimhnnaaGreat
/-
  A unit: a command of a host: the contracts. Lines of walks printed by a program of the prover's.
-/
namespace Go.Proofs.YtjbgiingimhnnaaGreat
open Go Go.Sl Go.Sl.BitM Go.Sl.SpM Go.Sl.RsM Go.Sl.ByM Go.Sl.UnM
set_option linter.unusedVariables false
set_option linter.unusedSimpArgs false
set_option maxHeartbeats 1000000
set_option maxRecDepth 8000
variable {W0 w : World} {L F : List HProp}
end Go.Proofs.YtjbgiingimhnnaaGreat
/-
  The contracts of reservations. Lines of walks printed by a program of the prover's.
-/
namespace Go.Proofs.YtjbgiingimhnnaaGreat
open Go.Proofs.Tryz
open Go Go.Sl Go.Sl.RsM Go.Sl.ByM Go.Sl.UnM
set_option linter.unusedVariables false
set_option linter.unusedSimpArgs false
set_option maxHeartbeats 1000000
set_option maxRecDepth 8000
variable {W0 w : World} {L F : List HProp}
theorem umay_ok {b i : Nat} {t : Tb} {key : Int} (hi : i < 8) (h : On W0 (blk b t.cells 113 :: L) w) : Calls Tryz.prog 116 #[.pointer (some ⟨b, 0, none⟩), .int .i64 (i : Int), .int .u64 key] w (Ret fun v w' => ((okKB t i key = true ∧ v = .tuple #[rep 0 0 0, .bool true]) ∨ (okKB t i key = false ∧ v = .tuple #[rep 24 0 0, .bool false])) ∧ On W0 (blk b t.cells 113 :: L) w') := by
  refine enter func116 rfl ntmps116 rfl (W.seq (W.region (WL.eff (eff_alloc h zeroValue36 rfl) rfl rfl ?_)))
  rintro _ w ⟨b6, rfl, h⟩
  refine WL.val run_assign rfl rfl (WL.nil (W.seq (W.block (W.seq (W.region (WL.val run_move rfl rfl (WL.eff (eff_call call61 (host_ok h)) rfl rfl ?_)))))))
  rintro _ w ⟨hv, h⟩
  rw [hostB_iff.2 ⟨by omega, by omega⟩] at hv
  subst hv
  refine WL.val (run_not rfl) rfl rfl (WL.val run_assign rfl rfl (WL.nil (W.condF rfl (W.seq (W.region (WL.val run_move rfl rfl (WL.val run_move rfl rfl ?_)))))))
  refine WL.val (run_nilCheck rfl) rfl rfl (WL.val (run_fieldAddr 0 underlying113 rfl sizeOf85 rfl rfl) rfl rfl (WL.val (run_indexAddrArr underlying85 sizeOf23 rfl rfl (by omega) (by omega)) rfl rfl (WL.val (run_load1 isAgg23 rfl (h.cellB (cells_at hi))) rfl rfl ?_)))
  refine WL.dec (run_eql rfl rfl) rfl rfl (fun c20 => ?_) (fun c20 => ?_)
  ·
   refine WL.val run_move rfl rfl (WL.skip rfl rfl (WL.skip rfl rfl (WL.skip rfl rfl (WL.skip rfl rfl (WL.skip rfl rfl (WL.skip rfl rfl (WL.skip rfl rfl ?_)))))))
   refine WL.skip rfl rfl (WL.val (run_pickT rfl) rfl rfl (WL.val run_assign rfl rfl (WL.nil (W.condT rfl (W.seq (W.region (WL.eff (eff_call call113 (conflict_ok h)) rfl rfl ?_)))))))
   rintro _ w ⟨rfl, h⟩
   refine WL.eff (eff_storeW (vs := [.int .i64 _, .int .i64 _, .int .i64 _, .slice _ _ _, .int .i64 _]) h sizeOf36 rfl rfl rfl rfl rfl) rfl rfl ?_
   rintro _ w h
   refine WL.val run_assign rfl rfl (WL.nil (W.ret (bodyQ.rctB (vs := [.int .i64 _, .int .i64 _, .int .i64 _, .slice _ _ _, .int .i64 _]) (v2 := .bool _) h results116 isAgg36 sizeOf36 rfl rfl rfl rfl ?_)))
   exact ⟨.inr ⟨by unfold okKB; simp only [decide_eq_true (show t.K i = 0 by omega)]; rfl, rfl⟩, h.to⟩
  refine WL.val run_move rfl rfl (WL.val run_move rfl rfl (WL.val run_move rfl rfl (WL.val (run_nilCheck rfl) rfl rfl (WL.val (run_fieldAddr 0 underlying113 rfl sizeOf85 rfl rfl) rfl rfl (WL.val (run_indexAddrArr underlying85 sizeOf23 rfl rfl (by omega) (by omega)) rfl rfl (WL.val (run_load1 isAgg23 rfl (h.cellB (cells_at hi))) rfl rfl (WL.val run_move rfl rfl ?_)))))))
  refine WL.val (run_neq rfl rfl) rfl rfl (WL.val (run_pickF rfl) rfl rfl (WL.val run_assign rfl rfl (WL.nil ?_)))
  refine W.condIf rfl (fun c7 => ?_) (fun c7 => ?_)
  ·
   refine W.seq (W.region (WL.eff (eff_call call113 (conflict_ok h)) rfl rfl ?_))
   rintro _ w ⟨rfl, h⟩
   refine WL.eff (eff_storeW (vs := [.int .i64 _, .int .i64 _, .int .i64 _, .slice _ _ _, .int .i64 _]) h sizeOf36 rfl rfl rfl rfl rfl) rfl rfl ?_
   rintro _ w h
   refine WL.val run_assign rfl rfl (WL.nil (W.ret (bodyQ.rctB (vs := [.int .i64 _, .int .i64 _, .int .i64 _, .slice _ _ _, .int .i64 _]) (v2 := .bool _) h results116 isAgg36 sizeOf36 rfl rfl rfl rfl ?_)))
   exact ⟨.inr ⟨by unfold okKB; rw [decide_eq_false (show ¬ t.K i = key by omega), Bool.and_false], rfl⟩, h.to⟩
  refine W.skip (W.seq (W.region (WL.eff (eff_call call115 (good_ok h)) rfl rfl ?_)))
  rintro _ w ⟨rfl, h⟩
  refine WL.eff (eff_storeW (vs := [.int .i64 _, .int .i64 _, .int .i64 _, .slice _ _ _, .int .i64 _]) h sizeOf36 rfl rfl rfl rfl rfl) rfl rfl ?_
  rintro _ w h
  refine WL.val run_assign rfl rfl (WL.nil (W.ret (bodyQ.rctB (vs := [.int .i64 _, .int .i64 _, .int .i64 _, .slice _ _ _, .int .i64 _]) (v2 := .bool _) h results116 isAgg36 sizeOf36 rfl rfl rfl rfl ?_)))
  exact ⟨.inl ⟨by unfold okKB; rw [decide_eq_false (show ¬ t.K i = 0 by omega), decide_eq_true (show t.K i = key by omega)]; rfl, rfl⟩, h.to⟩
theorem uregister_ok {b i : Nat} {t : Tb} {key fresh : Int} {ign : Bool} (hi : i < 8) (h : On W0 (blk b t.cells 113 :: L) w) : Calls Tryz.prog 66 #[.pointer (some ⟨b, 0, none⟩), .int .i64 (i : Int), .int .u64 key, .int .u64 fresh, .bool ign] w (Ret fun v w' => ∃ a c, v = .tuple #[(regF t i key fresh ign).r.val (.slice none 0 0), .slice a (regF t i key fresh ign).l.length c] ∧ On W0 (Own 2 (.slice a (regF t i key fresh ign).l.length c) (regF t i key fresh ign).l.length (notesV (regF t i key fresh ign).code ((regF t i key fresh ign).l)) :: blk b (regF t i key fresh ign).t.cells 113 :: L) w') := by
  refine enter func66 rfl ntmps66 rfl (W.seq (W.region (WL.eff (eff_alloc h zeroValue36 rfl) rfl rfl ?_)))
  rintro _ w ⟨b10, rfl, h⟩
  refine WL.val run_assign rfl rfl (WL.nil (W.seq (W.block (W.seq (W.region (WL.val run_move rfl rfl (WL.eff (eff_call call61 (host_ok h)) rfl rfl ?_)))))))
  rintro _ w ⟨hv, h⟩
  rw [hostB_iff.2 ⟨by omega, by omega⟩] at hv
  subst hv
  refine WL.val (run_not rfl) rfl rfl (WL.val run_assign rfl rfl (WL.nil (W.condF rfl (W.seq (W.region (WL.val run_move rfl rfl ?_))))))
  refine WL.boolB (run_not rfl) rfl rfl (fun c20 => ?_) (fun c20 => ?_)
  ·
   refine WL.val run_move rfl rfl (WL.val run_move rfl rfl (WL.val run_move rfl rfl (WL.val run_move rfl rfl (WL.val (run_nilCheck rfl) rfl rfl (WL.val (run_fieldAddr 0 underlying113 rfl sizeOf85 rfl rfl) rfl rfl (WL.val (run_indexAddrArr underlying85 sizeOf23 rfl rfl (by omega) (by omega)) rfl rfl (WL.val (run_load1 isAgg23 rfl (h.cellB (cells_at hi))) rfl rfl ?_)))))))
   refine WL.val (run_neq rfl rfl) rfl rfl (WL.val (run_pickT rfl) rfl rfl (WL.val run_assign rfl rfl (WL.nil ?_)))
   refine W.condIf rfl (fun c7 => ?_) (fun c7 => ?_)
   ·
    refine W.seq (W.region (WL.eff (eff_call call113 (conflict_ok h)) rfl rfl ?_))
    rintro _ w ⟨rfl, h⟩
    refine WL.eff (eff_storeW (vs := [.int .i64 _, .int .i64 _, .int .i64 _, .slice _ _ _, .int .i64 _]) h sizeOf36 rfl rfl rfl rfl rfl) rfl rfl ?_
    rintro _ w h
    refine WL.val run_assign rfl rfl (WL.nil (W.ret (bodyQ.rctB (vs := [.int .i64 _, .int .i64 _, .int .i64 _, .slice _ _ _, .int .i64 _]) (v2 := .slice _ _ _) h results66 isAgg36 sizeOf36 rfl rfl rfl rfl ?_)))
    have h : On W0 (Own 2 (.slice none 0 0) 0 (notesV 0 []) :: _) w := h.ownEmpty 2 none
    have e : regF t i key fresh ign = ⟨t, plain 24 0 0, [], 0⟩ := by unfold regF; rw [if_neg (by rintro (hx | hx); rw [hx] at c20; cases c20; exact c7 hx)]
    rw [e]
    dsimp only
    exact ⟨none, 0, rfl, h.to⟩
   refine W.skip (W.seq (W.region (WL.val run_move rfl rfl (WL.val (run_nilCheck rfl) rfl rfl (WL.val (run_fieldAddr 10 underlying113 rfl sizeOf111 rfl rfl) rfl rfl (WL.val (run_load1 isAgg111 rfl (h.cellB rfl)) rfl rfl (WL.val (run_addW rfl rfl) rfl rfl ?_)))))))
   refine WL.val (run_nilCheck rfl) rfl rfl (WL.val (run_fieldAddr 10 underlying113 rfl sizeOf111 rfl rfl) rfl rfl (WL.eff (eff_store (v := .int .u32 _) h sizeOf111 rfl rfl rfl rfl rfl) rfl rfl ?_))
   rintro _ w h
   try simp only [Nat.zero_add, Nat.add_zero, List.set_cons_zero, List.set_cons_succ] at h
   refine WL.nil (W.seq ?_)
   have h : On W0 (blk b10 _ 36 :: blk b t.inc.cells 113 :: L) w := h
   refine W.region (WL.val run_assign rfl rfl (WL.nil (W.seq (W.seq (W.region (WL.val run_move rfl rfl ?_))))))
   refine WL.dec (run_eql rfl rfl) rfl rfl (fun c40 => ?_) (fun c40 => ?_)
   ·
    refine WL.val run_move rfl rfl (WL.val run_move rfl rfl (WL.val (run_nilCheck rfl) rfl rfl (WL.val (run_fieldAddr 8 underlying113 rfl sizeOf3 rfl rfl) rfl rfl (WL.val (run_load1 isAgg3 rfl (h.cellB rfl)) rfl rfl (WL.val run_move rfl rfl (WL.val (run_eql rfl rfl) rfl rfl (WL.val (run_pickT rfl) rfl rfl ?_)))))))
    refine WL.nil ?_
    refine W.condIf rfl (fun c14 => ?_) (fun c14 => ?_)
    ·
     refine W.region (WL.val run_move rfl rfl (WL.val run_move rfl rfl (WL.eff (eff_call call114 (drop_ok (t := t.inc) (hh := (i : Int)) (h.fetch (blk b t.inc.cells 113)))) rfl rfl ?_)))
     rintro _ w ⟨ad, rfl, h⟩
     have h : On W0 (Own 2 (.slice ad (t.told i).length (t.told i).length) (t.told i).length (notesV 10756 (t.told i)) :: blk b t.inc.freed.cells 113 :: _) w := h
     refine WL.val run_assign rfl rfl (WL.nil (W.seq (W.region (WL.val run_move rfl rfl (WL.val run_move rfl rfl (WL.val run_move rfl rfl (WL.val (run_nilCheck rfl) rfl rfl ?_)))))))
     refine WL.val (run_fieldAddr 0 underlying113 rfl sizeOf85 rfl rfl) rfl rfl (WL.val (run_indexAddrArr underlying85 sizeOf23 rfl rfl (by omega) (by omega)) rfl rfl (WL.eff (eff_store (v := .int .u64 _) h sizeOf23 rfl rfl rfl (cells_lt hi) (free0 _)) rfl rfl ?_))
     rintro _ w h
     rw [cells_set hi] at h
     refine WL.nil (W.seq (W.region (WL.eff (eff_call call115 (good_ok h)) rfl rfl ?_)))
     rintro _ w ⟨rfl, h⟩
     refine WL.val run_move rfl rfl (WL.eff (eff_storeW (vs := [.int .i64 _, .int .i64 _, .int .i64 _, .slice _ _ _, .int .i64 _]) h sizeOf36 rfl rfl rfl rfl rfl) rfl rfl ?_)
     rintro _ w h
     refine WL.val run_assign rfl rfl (WL.nil (W.ret (bodyQ.rctB (vs := [.int .i64 _, .int .i64 _, .int .i64 _, .slice _ _ _, .int .i64 _]) (v2 := .slice _ _ _) h results66 isAgg36 sizeOf36 rfl rfl rfl rfl ?_)))
     have e1 : regO t i fresh = (t.told i, t.inc.freed.put i fresh) := by unfold regO; rw [if_pos ⟨by omega, c14⟩]
     have e : regF t i key fresh ign = ⟨t.inc.freed.put i fresh, plain 0 0 0, t.told i, 10756⟩ := by unfold regF; rw [if_pos (.inr (by omega)), e1]
     rw [e]
     dsimp only
     exact ⟨ad, (t.told i).length, rfl, h.to⟩
    refine W.skip (W.seq (W.region (WL.val run_move rfl rfl (WL.val run_move rfl rfl (WL.val run_move rfl rfl (WL.val (run_nilCheck rfl) rfl rfl (WL.val (run_fieldAddr 0 underlying113 rfl sizeOf85 rfl rfl) rfl rfl ?_)))))))
    refine WL.val (run_indexAddrArr underlying85 sizeOf23 rfl rfl (by omega) (by omega)) rfl rfl (WL.eff (eff_store (v := .int .u64 _) h sizeOf23 rfl rfl rfl (cells_lt hi) (free0 _)) rfl rfl ?_)
    rintro _ w h
    rw [cells_set hi] at h
    refine WL.nil (W.seq (W.region (WL.eff (eff_call call115 (good_ok h)) rfl rfl ?_)))
    rintro _ w ⟨rfl, h⟩
    refine WL.val run_move rfl rfl (WL.eff (eff_storeW (vs := [.int .i64 _, .int .i64 _, .int .i64 _, .slice _ _ _, .int .i64 _]) h sizeOf36 rfl rfl rfl rfl rfl) rfl rfl ?_)
    rintro _ w h
    refine WL.val run_assign rfl rfl (WL.nil (W.ret (bodyQ.rctB (vs := [.int .i64 _, .int .i64 _, .int .i64 _, .slice _ _ _, .int .i64 _]) (v2 := .slice _ _ _) h results66 isAgg36 sizeOf36 rfl rfl rfl rfl ?_)))
    have e1 : regO t i fresh = ([], t.inc.put i fresh) := by unfold regO; rw [if_neg (fun hh => c14 hh.2)]
    have h : On W0 (Own 2 (.slice none 0 0) 0 (notesV 10756 []) :: _) w := h.ownEmpty 2 none
    have e : regF t i key fresh ign = ⟨t.inc.put i fresh, plain 0 0 0, [], 10756⟩ := by unfold regF; rw [if_pos (.inr (by omega)), e1]
    rw [e]
    dsimp only
    exact ⟨none, 0, rfl, h.to⟩
   refine WL.val run_move rfl rfl (WL.skip rfl rfl (WL.skip rfl rfl (WL.skip rfl rfl (WL.skip rfl rfl (WL.skip rfl rfl (WL.skip rfl rfl (WL.val (run_pickF rfl) rfl rfl ?_)))))))
   refine WL.nil (W.condF rfl (W.skip (W.seq (W.region (WL.val run_move rfl rfl (WL.val run_move rfl rfl (WL.val run_move rfl rfl ?_)))))))
   refine WL.val (run_nilCheck rfl) rfl rfl (WL.val (run_fieldAddr 0 underlying113 rfl sizeOf85 rfl rfl) rfl rfl (WL.val (run_indexAddrArr underlying85 sizeOf23 rfl rfl (by omega) (by omega)) rfl rfl (WL.eff (eff_store (v := .int .u64 _) h sizeOf23 rfl rfl rfl (cells_lt hi) (free0 _)) rfl rfl ?_)))
   rintro _ w h
   rw [cells_set hi] at h
   refine WL.nil (W.seq (W.region (WL.eff (eff_call call115 (good_ok h)) rfl rfl ?_)))
   rintro _ w ⟨rfl, h⟩
   refine WL.val run_move rfl rfl (WL.eff (eff_storeW (vs := [.int .i64 _, .int .i64 _, .int .i64 _, .slice _ _ _, .int .i64 _]) h sizeOf36 rfl rfl rfl rfl rfl) rfl rfl ?_)
   rintro _ w h
   refine WL.val run_assign rfl rfl (WL.nil (W.ret (bodyQ.rctB (vs := [.int .i64 _, .int .i64 _, .int .i64 _, .slice _ _ _, .int .i64 _]) (v2 := .slice _ _ _) h results66 isAgg36 sizeOf36 rfl rfl rfl rfl ?_)))
   have e1 : regO t i fresh = ([], t.inc.put i fresh) := by unfold regO; rw [if_neg (fun hh => c40 hh.1)]
   have h : On W0 (Own 2 (.slice none 0 0) 0 (notesV 10756 []) :: _) w := h.ownEmpty 2 none
   have e : regF t i key fresh ign = ⟨t.inc.put i fresh, plain 0 0 0, [], 10756⟩ := by unfold regF; rw [if_pos (.inr (by omega)), e1]
   rw [e]
   dsimp only
   exact ⟨none, 0, rfl, h.to⟩
  refine WL.val run_move rfl rfl (WL.skip rfl rfl (WL.skip rfl rfl (WL.skip rfl rfl (WL.skip rfl rfl (WL.skip rfl rfl (WL.skip rfl rfl (WL.skip rfl rfl ?_)))))))
  refine WL.skip rfl rfl (WL.val (run_pickF rfl) rfl rfl (WL.val run_assign rfl rfl (WL.nil (W.condF rfl (W.skip (W.seq (W.region ?_)))))))
  refine WL.val run_move rfl rfl (WL.val (run_nilCheck rfl) rfl rfl (WL.val (run_fieldAddr 10 underlying113 rfl sizeOf111 rfl rfl) rfl rfl (WL.val (run_load1 isAgg111 rfl (h.cellB rfl)) rfl rfl (WL.val (run_addW rfl rfl) rfl rfl (WL.val (run_nilCheck rfl) rfl rfl (WL.val (run_fieldAddr 10 underlying113 rfl sizeOf111 rfl rfl) rfl rfl (WL.eff (eff_store (v := .int .u32 _) h sizeOf111 rfl rfl rfl rfl rfl) rfl rfl ?_)))))))
  rintro _ w h
  try simp only [Nat.zero_add, Nat.add_zero, List.set_cons_zero, List.set_cons_succ] at h
  refine WL.nil (W.seq ?_)
  have h : On W0 (blk b10 _ 36 :: blk b t.inc.cells 113 :: L) w := h
  refine W.region (WL.val run_assign rfl rfl (WL.nil (W.seq (W.seq (W.region (WL.val run_move rfl rfl ?_))))))
  refine WL.dec (run_eql rfl rfl) rfl rfl (fun c40 => ?_) (fun c40 => ?_)
  ·
   refine WL.val run_move rfl rfl (WL.val run_move rfl rfl (WL.val (run_nilCheck rfl) rfl rfl (WL.val (run_fieldAddr 8 underlying113 rfl sizeOf3 rfl rfl) rfl rfl (WL.val (run_load1 isAgg3 rfl (h.cellB rfl)) rfl rfl (WL.val run_move rfl rfl (WL.val (run_eql rfl rfl) rfl rfl (WL.val (run_pickT rfl) rfl rfl ?_)))))))
   refine WL.nil ?_
   refine W.condIf rfl (fun c14 => ?_) (fun c14 => ?_)
   ·
    refine W.region (WL.val run_move rfl rfl (WL.val run_move rfl rfl (WL.eff (eff_call call114 (drop_ok (t := t.inc) (hh := (i : Int)) (h.fetch (blk b t.inc.cells 113)))) rfl rfl ?_)))
    rintro _ w ⟨ad, rfl, h⟩
    have h : On W0 (Own 2 (.slice ad (t.told i).length (t.told i).length) (t.told i).length (notesV 10756 (t.told i)) :: blk b t.inc.freed.cells 113 :: _) w := h
    refine WL.val run_assign rfl rfl (WL.nil (W.seq (W.region (WL.val run_move rfl rfl (WL.val run_move rfl rfl (WL.val run_move rfl rfl (WL.val (run_nilCheck rfl) rfl rfl ?_)))))))
    refine WL.val (run_fieldAddr 0 underlying113 rfl sizeOf85 rfl rfl) rfl rfl (WL.val (run_indexAddrArr underlying85 sizeOf23 rfl rfl (by omega) (by omega)) rfl rfl (WL.eff (eff_store (v := .int .u64 _) h sizeOf23 rfl rfl rfl (cells_lt hi) (free0 _)) rfl rfl ?_))
    rintro _ w h
    rw [cells_set hi] at h
    refine WL.nil (W.seq (W.region (WL.eff (eff_call call115 (good_ok h)) rfl rfl ?_)))
    rintro _ w ⟨rfl, h⟩
    refine WL.val run_move rfl rfl (WL.eff (eff_storeW (vs := [.int .i64 _, .int .i64 _, .int .i64 _, .slice _ _ _, .int .i64 _]) h sizeOf36 rfl rfl rfl rfl rfl) rfl rfl ?_)
    rintro _ w h
    refine WL.val run_assign rfl rfl (WL.nil (W.ret (bodyQ.rctB (vs := [.int .i64 _, .int .i64 _, .int .i64 _, .slice _ _ _, .int .i64 _]) (v2 := .slice _ _ _) h results66 isAgg36 sizeOf36 rfl rfl rfl rfl ?_)))
    have e1 : regO t i fresh = (t.told i, t.inc.freed.put i fresh) := by unfold regO; rw [if_pos ⟨by omega, c14⟩]
    have e : regF t i key fresh ign = ⟨t.inc.freed.put i fresh, plain 0 0 0, t.told i, 10756⟩ := by unfold regF; rw [if_pos (.inl (by simpa using c20)), e1]
    rw [e]
    dsimp only
    exact ⟨ad, (t.told i).length, rfl, h.to⟩
   refine W.skip (W.seq (W.region (WL.val run_move rfl rfl (WL.val run_move rfl rfl (WL.val run_move rfl rfl (WL.val (run_nilCheck rfl) rfl rfl (WL.val (run_fieldAddr 0 underlying113 rfl sizeOf85 rfl rfl) rfl rfl ?_)))))))
   refine WL.val (run_indexAddrArr underlying85 sizeOf23 rfl rfl (by omega) (by omega)) rfl rfl (WL.eff (eff_store (v := .int .u64 _) h sizeOf23 rfl rfl rfl (cells_lt hi) (free0 _)) rfl rfl ?_)
   rintro _ w h
   rw [cells_set hi] at h
   refine WL.nil (W.seq (W.region (WL.eff (eff_call call115 (good_ok h)) rfl rfl ?_)))
   rintro _ w ⟨rfl, h⟩
   refine WL.val run_move rfl rfl (WL.eff (eff_storeW (vs := [.int .i64 _, .int .i64 _, .int .i64 _, .slice _ _ _, .int .i64 _]) h sizeOf36 rfl rfl rfl rfl rfl) rfl rfl ?_)
   rintro _ w h
   refine WL.val run_assign rfl rfl (WL.nil (W.ret (bodyQ.rctB (vs := [.int .i64 _, .int .i64 _, .int .i64 _, .slice _ _ _, .int .i64 _]) (v2 := .slice _ _ _) h results66 isAgg36 sizeOf36 rfl rfl rfl rfl ?_)))
   have e1 : regO t i fresh = ([], t.inc.put i fresh) := by unfold regO; rw [if_neg (fun hh => c14 hh.2)]
   have h : On W0 (Own 2 (.slice none 0 0) 0 (notesV 10756 []) :: _) w := h.ownEmpty 2 none
   have e : regF t i key fresh ign = ⟨t.inc.put i fresh, plain 0 0 0, [], 10756⟩ := by unfold regF; rw [if_pos (.inl (by simpa using c20)), e1]
   rw [e]
   dsimp only
   exact ⟨none, 0, rfl, h.to⟩
  refine WL.val run_move rfl rfl (WL.skip rfl rfl (WL.skip rfl rfl (WL.skip rfl rfl (WL.skip rfl rfl (WL.skip rfl rfl (WL.skip rfl rfl (WL.val (run_pickF rfl) rfl rfl ?_)))))))
  refine WL.nil (W.condF rfl (W.skip (W.seq (W.region (WL.val run_move rfl rfl (WL.val run_move rfl rfl (WL.val run_move rfl rfl ?_)))))))
  refine WL.val (run_nilCheck rfl) rfl rfl (WL.val (run_fieldAddr 0 underlying113 rfl sizeOf85 rfl rfl) rfl rfl (WL.val (run_indexAddrArr underlying85 sizeOf23 rfl rfl (by omega) (by omega)) rfl rfl (WL.eff (eff_store (v := .int .u64 _) h sizeOf23 rfl rfl rfl (cells_lt hi) (free0 _)) rfl rfl ?_)))
  rintro _ w h
  rw [cells_set hi] at h
  refine WL.nil (W.seq (W.region (WL.eff (eff_call call115 (good_ok h)) rfl rfl ?_)))
  rintro _ w ⟨rfl, h⟩
  refine WL.val run_move rfl rfl (WL.eff (eff_storeW (vs := [.int .i64 _, .int .i64 _, .int .i64 _, .slice _ _ _, .int .i64 _]) h sizeOf36 rfl rfl rfl rfl rfl) rfl rfl ?_)
  rintro _ w h
  refine WL.val run_assign rfl rfl (WL.nil (W.ret (bodyQ.rctB (vs := [.int .i64 _, .int .i64 _, .int .i64 _, .slice _ _ _, .int .i64 _]) (v2 := .slice _ _ _) h results66 isAgg36 sizeOf36 rfl rfl rfl rfl ?_)))
  have e1 : regO t i fresh = ([], t.inc.put i fresh) := by unfold regO; rw [if_neg (fun hh => c40 hh.1)]
  have h : On W0 (Own 2 (.slice none 0 0) 0 (notesV 10756 []) :: _) w := h.ownEmpty 2 none
  have e : regF t i key fresh ign = ⟨t.inc.put i fresh, plain 0 0 0, [], 10756⟩ := by unfold regF; rw [if_pos (.inl (by simpa using c20)), e1]
  rw [e]
  dsimp only
  exact ⟨none, 0, rfl, h.to⟩
theorem ureserve_ok {b i : Nat} {t : Tb} {key typ : Int} (hi : i < 8) (h : On W0 (blk b t.cells 113 :: L) w) : Calls Tryz.prog 67 #[.pointer (some ⟨b, 0, none⟩), .int .i64 (i : Int), .int .u64 key, .int .i64 typ] w (Ret fun v w' => v = (rsvF t i key typ).r.val (.slice none 0 0) ∧ On W0 (blk b (rsvF t i key typ).t.cells 113 :: L) w') := by
  refine enter func67 rfl ntmps67 rfl (W.seq (W.region (WL.eff (eff_alloc h zeroValue36 rfl) rfl rfl ?_)))
  rintro _ w ⟨b8, rfl, h⟩
  refine WL.nil (W.seq (W.seq (W.region (WL.val run_move rfl rfl (WL.val run_move rfl rfl (WL.val run_move rfl rfl (WL.eff (eff_call call116 (umay_ok hi (h.fetch (blk b t.cells 113)))) rfl rfl ?_)))))))
  rintro _ w ⟨hv, h⟩
  rcases hv with ⟨hok, rfl⟩ | ⟨hok, rfl⟩
  ·
   refine WL.val run_move rfl rfl (WL.val (run_extract rfl rfl) rfl rfl (WL.val (run_extract rfl rfl) rfl rfl (WL.eff (eff_alloc h zeroValue36 rfl) rfl rfl ?_)))
   rintro _ w ⟨b9, rfl, h⟩
   refine WL.eff (eff_storeW (vs := [.int .i64 _, .int .i64 _, .int .i64 _, .slice _ _ _, .int .i64 _]) h sizeOf36 rfl rfl rfl rfl rfl) rfl rfl ?_
   rintro _ w h
   refine WL.val run_assign rfl rfl (WL.nil (W.seq (W.region (WL.val run_move rfl rfl (WL.val (run_not rfl) rfl rfl (WL.nil (W.condF rfl ?_)))))))
   refine W.skip (W.seq (W.block (W.seq (W.region (WL.val run_move rfl rfl (WL.eff (eff_call call56 (typed_ok h)) rfl rfl ?_))))))
   rintro _ w ⟨hv, h⟩
   have hcs := Bool.eq_false_or_eq_true (typedB typ)
   rcases hcs with hty | hty <;> (rw [hty] at hv; subst hv)
   ·
    refine WL.val (run_not rfl) rfl rfl (WL.val run_assign rfl rfl (WL.nil (W.condF rfl (W.seq (W.region (WL.val run_move rfl rfl (WL.val (run_nilCheck rfl) rfl rfl ?_)))))))
    refine WL.val (run_fieldAddr 8 underlying113 rfl sizeOf3 rfl rfl) rfl rfl (WL.val (run_load1 isAgg3 rfl (h.cellB rfl)) rfl rfl (WL.val (run_eql rfl rfl) rfl rfl (WL.val run_assign rfl rfl (WL.nil ?_))))
    refine W.condIf rfl (fun c13 => ?_) (fun c13 => ?_)
    ·
     refine W.seq (W.region (WL.val run_move rfl rfl (WL.val run_move rfl rfl (WL.val run_move rfl rfl (WL.val run_move rfl rfl (WL.val (run_nilCheck rfl) rfl rfl (WL.val (run_fieldAddr 8 underlying113 rfl sizeOf3 rfl rfl) rfl rfl ?_)))))))
     refine WL.eff (eff_store (v := .int .i64 _) h sizeOf3 rfl rfl rfl rfl rfl) rfl rfl ?_
     rintro _ w h
     try simp only [Nat.zero_add, Nat.add_zero, List.set_cons_zero, List.set_cons_succ] at h
     refine WL.val (run_nilCheck rfl) rfl rfl (WL.val (run_fieldAddr 9 underlying113 rfl sizeOf3 rfl rfl) rfl rfl (WL.eff (eff_store (v := .int .i64 _) h sizeOf3 rfl rfl rfl rfl rfl) rfl rfl ?_))
     rintro _ w h
     try simp only [Nat.zero_add, Nat.add_zero, List.set_cons_zero, List.set_cons_succ] at h
     refine WL.nil (W.seq ?_)
     have h := h.fetch (blk b ((t.cells.set (0 + 8) (.int .i64 (i : Int))).set (0 + 9) (.int .i64 typ)) 113)
     have h : On W0 (blk b (t.take i typ).cells 113 :: _) w := h
     refine W.region (WL.eff (eff_call call115 (good_ok h)) rfl rfl ?_)
     rintro _ w ⟨rfl, h⟩
     refine WL.eff (eff_storeW (vs := [.int .i64 _, .int .i64 _, .int .i64 _, .slice _ _ _, .int .i64 _]) h sizeOf36 rfl rfl rfl rfl rfl) rfl rfl ?_
     rintro _ w h
     refine WL.nil (W.ret (bodyQ.rcB (vs := [.int .i64 _, .int .i64 _, .int .i64 _, .slice _ _ _, .int .i64 _]) h results67 isAgg36 sizeOf36 rfl rfl rfl ?_))
     have e : rsvF t i key typ = ⟨t.take i typ, plain 0 0 0, [], 0⟩ := by unfold rsvF; rw [if_neg (by rw [hok]; decide), if_neg (by rw [hty]; decide), if_pos c13]
     rw [e]
     dsimp only
     exact ⟨rfl, h.to⟩
    refine W.seq (W.region (WL.val run_move rfl rfl (WL.val (run_nilCheck rfl) rfl rfl (WL.val (run_fieldAddr 8 underlying113 rfl sizeOf3 rfl rfl) rfl rfl (WL.val (run_load1 isAgg3 rfl (h.cellB rfl)) rfl rfl (WL.val run_move rfl rfl ?_))))))
    refine WL.dec (run_eql rfl rfl) rfl rfl (fun c47 => ?_) (fun c47 => ?_)
    ·
     refine WL.val run_move rfl rfl (WL.val run_move rfl rfl (WL.val (run_nilCheck rfl) rfl rfl (WL.val (run_fieldAddr 9 underlying113 rfl sizeOf3 rfl rfl) rfl rfl (WL.val (run_load1 isAgg3 rfl (h.cellB rfl)) rfl rfl (WL.val run_move rfl rfl (WL.val (run_eql rfl rfl) rfl rfl (WL.val (run_pickT rfl) rfl rfl ?_)))))))
     refine WL.val run_assign rfl rfl (WL.nil ?_)
     refine W.condIf rfl (fun c18 => ?_) (fun c18 => ?_)
     ·
      refine W.seq (W.region (WL.eff (eff_call call115 (good_ok h)) rfl rfl ?_))
      rintro _ w ⟨rfl, h⟩
      refine WL.eff (eff_storeW (vs := [.int .i64 _, .int .i64 _, .int .i64 _, .slice _ _ _, .int .i64 _]) h sizeOf36 rfl rfl rfl rfl rfl) rfl rfl ?_
      rintro _ w h
      refine WL.nil (W.ret (bodyQ.rcB (vs := [.int .i64 _, .int .i64 _, .int .i64 _, .slice _ _ _, .int .i64 _]) h results67 isAgg36 sizeOf36 rfl rfl rfl ?_))
      have e : rsvF t i key typ = ⟨t, plain 0 0 0, [], 0⟩ := by unfold rsvF; rw [if_neg (by rw [hok]; decide), if_neg (by rw [hty]; decide), if_neg c13, if_pos ⟨by omega, by omega⟩]
      rw [e]
      dsimp only
      exact ⟨rfl, h.to⟩
     refine W.skip (W.seq (W.region (WL.eff (eff_call call113 (conflict_ok h)) rfl rfl ?_)))
     rintro _ w ⟨rfl, h⟩
     refine WL.eff (eff_storeW (vs := [.int .i64 _, .int .i64 _, .int .i64 _, .slice _ _ _, .int .i64 _]) h sizeOf36 rfl rfl rfl rfl rfl) rfl rfl ?_
     rintro _ w h
     refine WL.nil (W.ret (bodyQ.rcB (vs := [.int .i64 _, .int .i64 _, .int .i64 _, .slice _ _ _, .int .i64 _]) h results67 isAgg36 sizeOf36 rfl rfl rfl ?_))
     have e : rsvF t i key typ = ⟨t, plain 24 0 0, [], 0⟩ := by unfold rsvF; rw [if_neg (by rw [hok]; decide), if_neg (by rw [hty]; decide), if_neg c13, if_neg (by omega)]
     rw [e]
     dsimp only
     exact ⟨rfl, h.to⟩
    refine WL.val run_move rfl rfl (WL.skip rfl rfl (WL.skip rfl rfl (WL.skip rfl rfl (WL.skip rfl rfl (WL.skip rfl rfl (WL.skip rfl rfl (WL.val (run_pickF rfl) rfl rfl ?_)))))))
    refine WL.val run_assign rfl rfl (WL.nil (W.condF rfl (W.skip (W.seq (W.region (WL.eff (eff_call call113 (conflict_ok h)) rfl rfl ?_))))))
    rintro _ w ⟨rfl, h⟩
    refine WL.eff (eff_storeW (vs := [.int .i64 _, .int .i64 _, .int .i64 _, .slice _ _ _, .int .i64 _]) h sizeOf36 rfl rfl rfl rfl rfl) rfl rfl ?_
    rintro _ w h
    refine WL.nil (W.ret (bodyQ.rcB (vs := [.int .i64 _, .int .i64 _, .int .i64 _, .slice _ _ _, .int .i64 _]) h results67 isAgg36 sizeOf36 rfl rfl rfl ?_))
    have e : rsvF t i key typ = ⟨t, plain 24 0 0, [], 0⟩ := by unfold rsvF; rw [if_neg (by rw [hok]; decide), if_neg (by rw [hty]; decide), if_neg c13, if_neg (by omega)]
    rw [e]
    dsimp only
    exact ⟨rfl, h.to⟩
   refine WL.val (run_not rfl) rfl rfl (WL.val run_assign rfl rfl (WL.nil (W.condT rfl (W.seq (W.region (WL.eff (eff_call call112 (field_ok h)) rfl rfl ?_))))))
   rintro _ w ⟨rfl, h⟩
   refine WL.eff (eff_storeW (vs := [.int .i64 _, .int .i64 _, .int .i64 _, .slice _ _ _, .int .i64 _]) h sizeOf36 rfl rfl rfl rfl rfl) rfl rfl ?_
   rintro _ w h
   refine WL.nil (W.ret (bodyQ.rcB (vs := [.int .i64 _, .int .i64 _, .int .i64 _, .slice _ _ _, .int .i64 _]) h results67 isAgg36 sizeOf36 rfl rfl rfl ?_))
   have e : rsvF t i key typ = ⟨t, plain 2 5 9216, [], 0⟩ := by unfold rsvF; rw [if_neg (by rw [hok]; decide), if_pos hty]
   rw [e]
   dsimp only
   exact ⟨rfl, h.to⟩
  refine WL.val run_move rfl rfl (WL.val (run_extract rfl rfl) rfl rfl (WL.val (run_extract rfl rfl) rfl rfl (WL.eff (eff_alloc h zeroValue36 rfl) rfl rfl ?_)))
  rintro _ w ⟨b9, rfl, h⟩
  refine WL.eff (eff_storeW (vs := [.int .i64 _, .int .i64 _, .int .i64 _, .slice _ _ _, .int .i64 _]) h sizeOf36 rfl rfl rfl rfl rfl) rfl rfl ?_
  rintro _ w h
  refine WL.val run_assign rfl rfl (WL.nil (W.seq (W.region (WL.val run_move rfl rfl (WL.val (run_not rfl) rfl rfl (WL.nil (W.condT rfl ?_)))))))
  refine W.seq (W.region (WL.val (run_loadB (vs := [.int .i64 _, .int .i64 _, .int .i64 _, .slice _ _ _, .int .i64 _]) h isAgg36 sizeOf36 rfl rfl rfl) rfl rfl (WL.eff (eff_storeW (vs := [.int .i64 _, .int .i64 _, .int .i64 _, .slice _ _ _, .int .i64 _]) h sizeOf36 rfl rfl rfl rfl rfl) rfl rfl ?_)))
  rintro _ w h
  refine WL.nil (W.ret (bodyQ.rcB (vs := [.int .i64 _, .int .i64 _, .int .i64 _, .slice _ _ _, .int .i64 _]) h results67 isAgg36 sizeOf36 rfl rfl rfl ?_))
  have e : rsvF t i key typ = ⟨t, plain 24 0 0, [], 0⟩ := by unfold rsvF; rw [if_pos hok]
  rw [e]
  dsimp only
  exact ⟨rfl, h.to⟩
theorem urelease_ok {b i : Nat} {t : Tb} {key typ : Int} (hi : i < 8) (h : On W0 (blk b t.cells 113 :: L) w) : Calls Tryz.prog 68 #[.pointer (some ⟨b, 0, none⟩), .int .i64 (i : Int), .int .u64 key, .int .i64 typ] w (Ret fun v w' => ∃ a c, v = .tuple #[(relF t i key typ).r.val (.slice none 0 0), .slice a (relF t i key typ).l.length c] ∧ On W0 (Own 2 (.slice a (relF t i key typ).l.length c) (relF t i key typ).l.length (notesV (relF t i key typ).code ((relF t i key typ).l)) :: blk b (relF t i key typ).t.cells 113 :: L) w') := by
  refine enter func68 rfl ntmps68 rfl (W.seq (W.region (WL.eff (eff_alloc h zeroValue36 rfl) rfl rfl ?_)))
  rintro _ w ⟨b8, rfl, h⟩
  refine WL.val run_assign rfl rfl (WL.nil (W.seq (W.seq (W.region (WL.val run_move rfl rfl (WL.val run_move rfl rfl (WL.val run_move rfl rfl ?_)))))))
  refine WL.eff (eff_call call116 (umay_ok hi (h.fetch (blk b t.cells 113)))) rfl rfl ?_
  rintro _ w ⟨hv, h⟩
  rcases hv with ⟨hok, rfl⟩ | ⟨hok, rfl⟩
  ·
   refine WL.val run_move rfl rfl (WL.val (run_extract rfl rfl) rfl rfl (WL.val (run_extract rfl rfl) rfl rfl (WL.eff (eff_alloc h zeroValue36 rfl) rfl rfl ?_)))
   rintro _ w ⟨b10, rfl, h⟩
   refine WL.eff (eff_storeW (vs := [.int .i64 _, .int .i64 _, .int .i64 _, .slice _ _ _, .int .i64 _]) h sizeOf36 rfl rfl rfl rfl rfl) rfl rfl ?_
   rintro _ w h
   refine WL.val run_assign rfl rfl (WL.nil (W.seq (W.region (WL.val run_move rfl rfl (WL.val (run_not rfl) rfl rfl (WL.nil (W.condF rfl ?_)))))))
   refine W.skip (W.seq (W.block (W.seq (W.region (WL.val run_move rfl rfl (WL.eff (eff_call call56 (typed_ok h)) rfl rfl ?_))))))
   rintro _ w ⟨hv, h⟩
   have hcs := Bool.eq_false_or_eq_true (typedB typ)
   rcases hcs with hty | hty <;> (rw [hty] at hv; subst hv)
   ·
    refine WL.val (run_not rfl) rfl rfl (WL.val run_assign rfl rfl (WL.nil (W.condF rfl (W.seq (W.region (WL.val run_move rfl rfl (WL.val (run_nilCheck rfl) rfl rfl ?_)))))))
    refine WL.val (run_fieldAddr 8 underlying113 rfl sizeOf3 rfl rfl) rfl rfl (WL.val (run_load1 isAgg3 rfl (h.cellB rfl)) rfl rfl (WL.val run_move rfl rfl (WL.val (run_neq rfl rfl) rfl rfl (WL.val run_assign rfl rfl (WL.nil ?_)))))
    refine W.condIf rfl (fun c13 => ?_) (fun c13 => ?_)
    ·
     refine W.seq (W.region (WL.eff (eff_call call115 (good_ok h)) rfl rfl ?_))
     rintro _ w ⟨rfl, h⟩
     refine WL.eff (eff_storeW (vs := [.int .i64 _, .int .i64 _, .int .i64 _, .slice _ _ _, .int .i64 _]) h sizeOf36 rfl rfl rfl rfl rfl) rfl rfl ?_
     rintro _ w h
     refine WL.val run_assign rfl rfl (WL.nil (W.ret (bodyQ.rctB (vs := [.int .i64 _, .int .i64 _, .int .i64 _, .slice _ _ _, .int .i64 _]) (v2 := .slice _ _ _) h results68 isAgg36 sizeOf36 rfl rfl rfl rfl ?_)))
     have h : On W0 (Own 2 (.slice none 0 0) 0 (notesV 0 []) :: _) w := h.ownEmpty 2 none
     have e : relF t i key typ = ⟨t, plain 0 0 0, [], 0⟩ := by unfold relF; rw [if_neg (by rw [hok]; decide), if_neg (by rw [hty]; decide), if_pos (show t.hold ≠ i from c13)]
     rw [e]
     dsimp only
     exact ⟨none, 0, rfl, h.to⟩
    refine W.seq (W.region (WL.val run_move rfl rfl (WL.val (run_nilCheck rfl) rfl rfl (WL.val (run_fieldAddr 9 underlying113 rfl sizeOf3 rfl rfl) rfl rfl (WL.val (run_load1 isAgg3 rfl (h.cellB rfl)) rfl rfl (WL.val run_move rfl rfl (WL.val (run_neq rfl rfl) rfl rfl ?_)))))))
    refine WL.val run_assign rfl rfl (WL.nil ?_)
    refine W.condIf rfl (fun c17 => ?_) (fun c17 => ?_)
    ·
     refine W.seq (W.region (WL.eff (eff_call call26 (wrong_ok h)) rfl rfl ?_))
     rintro _ w ⟨rfl, h⟩
     refine WL.eff (eff_storeW (vs := [.int .i64 _, .int .i64 _, .int .i64 _, .slice _ _ _, .int .i64 _]) h sizeOf36 rfl rfl rfl rfl rfl) rfl rfl ?_
     rintro _ w h
     refine WL.val run_assign rfl rfl (WL.nil (W.ret (bodyQ.rctB (vs := [.int .i64 _, .int .i64 _, .int .i64 _, .slice _ _ _, .int .i64 _]) (v2 := .slice _ _ _) h results68 isAgg36 sizeOf36 rfl rfl rfl rfl ?_)))
     have h : On W0 (Own 2 (.slice none 0 0) 0 (notesV 0 []) :: _) w := h.ownEmpty 2 none
     have e : relF t i key typ = ⟨t, plain 2 5 9732, [], 0⟩ := by unfold relF; rw [if_neg (by rw [hok]; decide), if_neg (by rw [hty]; decide), if_neg (by omega), if_pos (show t.typ ≠ typ from c17)]
     rw [e]
     dsimp only
     exact ⟨none, 0, rfl, h.to⟩
    refine W.skip (W.seq (W.region (WL.eff (eff_call call115 (good_ok h)) rfl rfl ?_)))
    rintro _ w ⟨rfl, h⟩
    refine WL.val run_move rfl rfl (WL.val run_move rfl rfl (WL.eff (eff_call call114 (drop_ok (hh := (i : Int)) (h.fetch (blk b t.cells 113)))) rfl rfl ?_))
    rintro _ w ⟨ad, rfl, h⟩
    refine WL.eff (eff_storeW (vs := [.int .i64 _, .int .i64 _, .int .i64 _, .slice _ _ _, .int .i64 _]) h sizeOf36 rfl rfl rfl rfl rfl) rfl rfl ?_
    rintro _ w h
    refine WL.val run_assign rfl rfl (WL.nil (W.ret (bodyQ.rctB (vs := [.int .i64 _, .int .i64 _, .int .i64 _, .slice _ _ _, .int .i64 _]) (v2 := .slice _ _ _) h results68 isAgg36 sizeOf36 rfl rfl rfl rfl ?_)))
    have e : relF t i key typ = ⟨t.freed, plain 0 0 0, t.told i, 10756⟩ := by unfold relF; rw [if_neg (by rw [hok]; decide), if_neg (by rw [hty]; decide), if_neg (by omega), if_neg (by omega)]
    rw [e]
    dsimp only
    exact ⟨ad, (t.told i).length, rfl, h.to⟩
   refine WL.val (run_not rfl) rfl rfl (WL.val run_assign rfl rfl (WL.nil (W.condT rfl (W.seq (W.region (WL.eff (eff_call call112 (field_ok h)) rfl rfl ?_))))))
   rintro _ w ⟨rfl, h⟩
   refine WL.eff (eff_storeW (vs := [.int .i64 _, .int .i64 _, .int .i64 _, .slice _ _ _, .int .i64 _]) h sizeOf36 rfl rfl rfl rfl rfl) rfl rfl ?_
   rintro _ w h
   refine WL.val run_assign rfl rfl (WL.nil (W.ret (bodyQ.rctB (vs := [.int .i64 _, .int .i64 _, .int .i64 _, .slice _ _ _, .int .i64 _]) (v2 := .slice _ _ _) h results68 isAgg36 sizeOf36 rfl rfl rfl rfl ?_)))
   have h : On W0 (Own 2 (.slice none 0 0) 0 (notesV 0 []) :: _) w := h.ownEmpty 2 none
   have e : relF t i key typ = ⟨t, plain 2 5 9216, [], 0⟩ := by unfold relF; rw [if_neg (by rw [hok]; decide), if_pos hty]
   rw [e]
   dsimp only
   exact ⟨none, 0, rfl, h.to⟩
  refine WL.val run_move rfl rfl (WL.val (run_extract rfl rfl) rfl rfl (WL.val (run_extract rfl rfl) rfl rfl (WL.eff (eff_alloc h zeroValue36 rfl) rfl rfl ?_)))
  rintro _ w ⟨b10, rfl, h⟩
  refine WL.eff (eff_storeW (vs := [.int .i64 _, .int .i64 _, .int .i64 _, .slice _ _ _, .int .i64 _]) h sizeOf36 rfl rfl rfl rfl rfl) rfl rfl ?_
  rintro _ w h
  refine WL.val run_assign rfl rfl (WL.nil (W.seq (W.region (WL.val run_move rfl rfl (WL.val (run_not rfl) rfl rfl (WL.nil (W.condT rfl ?_)))))))
  refine W.seq (W.region (WL.val (run_loadB (vs := [.int .i64 _, .int .i64 _, .int .i64 _, .slice _ _ _, .int .i64 _]) h isAgg36 sizeOf36 rfl rfl rfl) rfl rfl (WL.eff (eff_storeW (vs := [.int .i64 _, .int .i64 _, .int .i64 _, .slice _ _ _, .int .i64 _]) h sizeOf36 rfl rfl rfl rfl rfl) rfl rfl ?_)))
  rintro _ w h
  refine WL.val run_assign rfl rfl (WL.nil (W.ret (bodyQ.rctB (vs := [.int .i64 _, .int .i64 _, .int .i64 _, .slice _ _ _, .int .i64 _]) (v2 := .slice _ _ _) h results68 isAgg36 sizeOf36 rfl rfl rfl rfl ?_)))
  have h : On W0 (Own 2 (.slice none 0 0) 0 (notesV 0 []) :: _) w := h.ownEmpty 2 none
  have e : relF t i key typ = ⟨t, plain 24 0 0, [], 0⟩ := by unfold relF; rw [if_pos hok]
  rw [e]
  dsimp only
  exact ⟨none, 0, rfl, h.to⟩
theorem uclear_ok {b i : Nat} {t : Tb} {key : Int} (hi : i < 8) (h : On W0 (blk b t.cells 113 :: L) w) : Calls Tryz.prog 69 #[.pointer (some ⟨b, 0, none⟩), .int .i64 (i : Int), .int .u64 key] w (Ret fun v w' => ∃ a c, v = .tuple #[(clrF t i key).r.val (.slice none 0 0), .slice a (clrF t i key).l.length c] ∧ On W0 (Own 2 (.slice a (clrF t i key).l.length c) (clrF t i key).l.length (notesV (clrF t i key).code ((clrF t i key).l)) :: blk b (clrF t i key).t.cells 113 :: L) w') := by
  refine enter func69 rfl ntmps69 rfl (W.seq (W.region (WL.eff (eff_alloc h zeroValue36 rfl) rfl rfl ?_)))
  rintro _ w ⟨b6, rfl, h⟩
  refine WL.val run_assign rfl rfl (WL.nil (W.seq (W.seq (W.region (WL.val run_move rfl rfl (WL.val run_move rfl rfl (WL.val run_move rfl rfl ?_)))))))
  refine WL.eff (eff_call call116 (umay_ok hi (h.fetch (blk b t.cells 113)))) rfl rfl ?_
  rintro _ w ⟨hv, h⟩
  rcases hv with ⟨hok, rfl⟩ | ⟨hok, rfl⟩
  ·
   refine WL.val run_move rfl rfl (WL.val (run_extract rfl rfl) rfl rfl (WL.val (run_extract rfl rfl) rfl rfl (WL.eff (eff_alloc h zeroValue36 rfl) rfl rfl ?_)))
   rintro _ w ⟨b8, rfl, h⟩
   refine WL.eff (eff_storeW (vs := [.int .i64 _, .int .i64 _, .int .i64 _, .slice _ _ _, .int .i64 _]) h sizeOf36 rfl rfl rfl rfl rfl) rfl rfl ?_
   rintro _ w h
   refine WL.val run_assign rfl rfl (WL.nil (W.seq (W.region (WL.val run_move rfl rfl (WL.val (run_not rfl) rfl rfl (WL.nil (W.condF rfl ?_)))))))
   refine W.skip (W.seq (W.region (WL.val run_move rfl rfl (WL.val run_move rfl rfl (WL.eff (eff_call call117 (others_ok (t := t) (b := b) (hh := (i : Int)) (code := 10755) (f := 118) (caps := #[]) (p := (fun _ => true)) (h.fetch (blk b t.cells 113)) call118 (fun k A w h => every_ok h))) rfl rfl ?_)))))
   rintro _ w ⟨ad, rfl, h⟩
   refine WL.val run_assign rfl rfl (WL.nil (W.seq (W.region (WL.val run_move rfl rfl (WL.val (run_nilCheck rfl) rfl rfl (WL.val (run_fieldAddr 10 underlying113 rfl sizeOf111 rfl rfl) rfl rfl (WL.val (run_load1 isAgg111 rfl (h.cellB rfl)) rfl rfl ?_)))))))
   refine WL.val (run_addW rfl rfl) rfl rfl (WL.val (run_nilCheck rfl) rfl rfl (WL.val (run_fieldAddr 10 underlying113 rfl sizeOf111 rfl rfl) rfl rfl (WL.eff (eff_store (v := .int .u32 _) h sizeOf111 rfl rfl rfl rfl rfl) rfl rfl ?_)))
   rintro _ w h
   try simp only [Nat.zero_add, Nat.add_zero, List.set_cons_zero, List.set_cons_succ] at h
   refine WL.nil (W.seq (W.region (WL.val run_move rfl rfl (WL.val run_move rfl rfl (WL.val run_move rfl rfl (WL.val (run_buildA (out := [.int .u64 _, .int .u64 _, .int .u64 _, .int .u64 _, .int .u64 _, .int .u64 _, .int .u64 _, .int .u64 _]) underlying85 sizeOf23 zeroValue85 rfl rfl (by simp) (trivial) rfl) rfl rfl (WL.val (run_nilCheck rfl) rfl rfl ?_)))))))
   refine WL.val (run_fieldAddr 0 underlying113 rfl sizeOf85 rfl rfl) rfl rfl (WL.eff (eff_storeN (vs := keysV fun _ => 0) h sizeOf85 rfl rfl rfl rfl rfl (fun k _ _ => free0 k)) rfl rfl ?_)
   rintro _ w h
   refine WL.val (run_nilCheck rfl) rfl rfl (WL.val (run_fieldAddr 8 underlying113 rfl sizeOf3 rfl rfl) rfl rfl (WL.eff (eff_store (v := .int .i64 _) h sizeOf3 rfl rfl rfl rfl rfl) rfl rfl ?_))
   rintro _ w h
   try simp only [Nat.zero_add, Nat.add_zero, List.set_cons_zero, List.set_cons_succ] at h
   refine WL.val (run_nilCheck rfl) rfl rfl (WL.val (run_fieldAddr 9 underlying113 rfl sizeOf3 rfl rfl) rfl rfl (WL.eff (eff_store (v := .int .i64 _) h sizeOf3 rfl rfl rfl rfl rfl) rfl rfl ?_))
   rintro _ w h
   try simp only [Nat.zero_add, Nat.add_zero, List.set_cons_zero, List.set_cons_succ] at h
   refine WL.nil (W.seq ?_)
   have h := h.fetch (blk b ((((t.cells.set (0 + 10) (.int .u32 (IntKind.u32.wrap (t.gen + 1)))) |> (splice · (0 + 0) (keysV fun _ => 0))).set (0 + 8) (.int .i64 (-1))).set (0 + 9) (.int .i64 0)) 113)
   have h : On W0 (blk b t.cleared.cells 113 :: _) w := h
   refine W.region (WL.eff (eff_call call115 (good_ok h)) rfl rfl ?_)
   rintro _ w ⟨rfl, h⟩
   refine WL.val run_move rfl rfl (WL.eff (eff_storeW (vs := [.int .i64 _, .int .i64 _, .int .i64 _, .slice _ _ _, .int .i64 _]) h sizeOf36 rfl rfl rfl rfl rfl) rfl rfl ?_)
   rintro _ w h
   refine WL.val run_assign rfl rfl (WL.nil (W.ret (bodyQ.rctB (vs := [.int .i64 _, .int .i64 _, .int .i64 _, .slice _ _ _, .int .i64 _]) (v2 := .slice _ _ _) h results69 isAgg36 sizeOf36 rfl rfl rfl rfl ?_)))
   have e : clrF t i key = ⟨t.cleared, plain 0 0 0, hostsN t.K i (fun _ => true) 8, 10755⟩ := by unfold clrF; rw [if_neg (by rw [hok]; decide)]
   rw [e]
   dsimp only
   exact ⟨ad, (hostsN t.K i (fun _ => true) 8).length, rfl, h.to⟩
  refine WL.val run_move rfl rfl (WL.val (run_extract rfl rfl) rfl rfl (WL.val (run_extract rfl rfl) rfl rfl (WL.eff (eff_alloc h zeroValue36 rfl) rfl rfl ?_)))
  rintro _ w ⟨b8, rfl, h⟩
  refine WL.eff (eff_storeW (vs := [.int .i64 _, .int .i64 _, .int .i64 _, .slice _ _ _, .int .i64 _]) h sizeOf36 rfl rfl rfl rfl rfl) rfl rfl ?_
  rintro _ w h
  refine WL.val run_assign rfl rfl (WL.nil (W.seq (W.region (WL.val run_move rfl rfl (WL.val (run_not rfl) rfl rfl (WL.nil (W.condT rfl ?_)))))))
  refine W.seq (W.region (WL.val (run_loadB (vs := [.int .i64 _, .int .i64 _, .int .i64 _, .slice _ _ _, .int .i64 _]) h isAgg36 sizeOf36 rfl rfl rfl) rfl rfl (WL.eff (eff_storeW (vs := [.int .i64 _, .int .i64 _, .int .i64 _, .slice _ _ _, .int .i64 _]) h sizeOf36 rfl rfl rfl rfl rfl) rfl rfl ?_)))
  rintro _ w h
  refine WL.val run_assign rfl rfl (WL.nil (W.ret (bodyQ.rctB (vs := [.int .i64 _, .int .i64 _, .int .i64 _, .slice _ _ _, .int .i64 _]) (v2 := .slice _ _ _) h results69 isAgg36 sizeOf36 rfl rfl rfl rfl ?_)))
  have h : On W0 (Own 2 (.slice none 0 0) 0 (notesV 0 []) :: _) w := h.ownEmpty 2 none
  have e : clrF t i key = ⟨t, plain 24 0 0, [], 0⟩ := by unfold clrF; rw [if_pos hok]
  rw [e]
  dsimp only
  exact ⟨none, 0, rfl, h.to⟩
theorem upreempt_ok {b ii : Nat} {t : Tb} {key other typ : Int} (hi : ii < 8) (hI : t.hold = -1 ∨ (0 ≤ t.hold ∧ t.hold < 8)) (h : On W0 (blk b t.cells 113 :: L) w) : Calls Tryz.prog 70 #[.pointer (some ⟨b, 0, none⟩), .int .i64 (ii : Int), .int .u64 key, .int .u64 other, .int .i64 typ] w (Ret fun v w' => ∃ a c, v = .tuple #[(preF t ii key other typ).r.val (.slice none 0 0), .slice a (preF t ii key other typ).l.length c] ∧ On W0 (Own 2 (.slice a (preF t ii key other typ).l.length c) (preF t ii key other typ).l.length (notesV (preF t ii key other typ).code ((preF t ii key other typ).l)) :: blk b (preF t ii key other typ).t.cells 113 :: L) w') := by
  refine enter func70 rfl ntmps70 rfl (W.seq (W.region (WL.eff (eff_box (v := .int .u64 _) (l := [.int .u64 _]) h rfl rfl) rfl rfl ?_)))
  rintro _ w ⟨b8, rfl, h⟩
  refine WL.eff (eff_alloc h zeroValue36 rfl) rfl rfl ?_
  rintro _ w ⟨b10, rfl, h⟩
  refine WL.val run_assign rfl rfl (WL.nil (W.seq (W.seq (W.region (WL.val run_move rfl rfl (WL.val run_move rfl rfl (WL.val run_move rfl rfl ?_)))))))
  refine WL.eff (eff_call call116 (umay_ok (i := ii) hi (h.fetch (blk b t.cells 113)))) rfl rfl ?_
  rintro _ w ⟨hv, h⟩
  rcases hv with ⟨hok, rfl⟩ | ⟨hok, rfl⟩
  ·
   refine WL.val run_move rfl rfl (WL.val (run_extract rfl rfl) rfl rfl (WL.val (run_extract rfl rfl) rfl rfl (WL.eff (eff_alloc h zeroValue36 rfl) rfl rfl ?_)))
   rintro _ w ⟨b12, rfl, h⟩
   refine WL.eff (eff_storeW (vs := [.int .i64 _, .int .i64 _, .int .i64 _, .slice _ _ _, .int .i64 _]) h sizeOf36 rfl rfl rfl rfl rfl) rfl rfl ?_
   rintro _ w h
   refine WL.val run_assign rfl rfl (WL.nil (W.seq (W.region (WL.val run_move rfl rfl (WL.val (run_not rfl) rfl rfl (WL.nil (W.condF rfl ?_)))))))
   refine W.skip (W.seq (W.seq (W.region (WL.val (run_load1 isAgg23 rfl (h.cellB rfl)) rfl rfl (WL.val (run_eql rfl rfl) rfl rfl (WL.nil ?_))))))
   refine W.condIf rfl (fun c8 => ?_) (fun c8 => ?_)
   ·
    refine W.seq (W.region (WL.eff (eff_call call26 (wrong_ok h)) rfl rfl ?_))
    rintro _ w ⟨rfl, h⟩
    refine WL.eff (eff_storeW (vs := [.int .i64 _, .int .i64 _, .int .i64 _, .slice _ _ _, .int .i64 _]) h sizeOf36 rfl rfl rfl rfl rfl) rfl rfl ?_
    rintro _ w h
    refine WL.val run_assign rfl rfl (WL.nil (W.ret (bodyQ.rctB (vs := [.int .i64 _, .int .i64 _, .int .i64 _, .slice _ _ _, .int .i64 _]) (v2 := .slice _ _ _) h results70 isAgg36 sizeOf36 rfl rfl rfl rfl ?_)))
    have h : On W0 (Own 2 (.slice none 0 0) 0 (notesV 0 []) :: _) w := h.ownEmpty 2 none
    have e : preF t ii key other typ = ⟨t, plain 2 5 9728, [], 0⟩ := by unfold preF; rw [if_neg (by rw [hok]; decide), if_pos c8]
    rw [e]
    dsimp only
    exact ⟨none, 0, rfl, h.to⟩
   refine W.skip (W.seq (W.region (WL.val run_move rfl rfl (WL.val run_move rfl rfl (WL.val run_makeFunc rfl rfl (WL.eff (eff_call call117 (others_ok (t := t) (b := b) (hh := (ii : Int)) (code := 10757) (f := 119) (caps := #[.pointer (some ⟨b8, 0, none⟩)]) (p := fun k => decide (k = other)) (h.fetch (blk b t.cells 113)) call119 (fun k A w h => preempt1_ok h))) rfl rfl ?_))))))
   rintro _ w ⟨a, hv, h⟩
   have hv2 : _ = Value.slice a (preL t ii other).length (preL t ii other).length := hv
   subst hv2
   have h : On W0 (Own 2 (.slice a (preL t ii other).length (preL t ii other).length) (preL t ii other).length (notesV 10757 (preL t ii other)) :: _) w := h
   have hlen : (preL t ii other).length ≤ 8 := hostsN_len ..
   refine WL.val run_assign rfl rfl (WL.nil (W.seq (W.seq (W.region (WL.val run_move rfl rfl (WL.val (run_lenSlice underlying120 rfl) rfl rfl (WL.val (run_eql rfl rfl) rfl rfl ?_)))))))
   refine WL.nil ?_
   refine W.condIf rfl (fun c14 => ?_) (fun c14 => ?_)
   ·
    refine W.seq (W.region (WL.eff (eff_call call113 (conflict_ok h)) rfl rfl ?_))
    rintro _ w ⟨rfl, h⟩
    refine WL.eff (eff_storeW (vs := [.int .i64 _, .int .i64 _, .int .i64 _, .slice _ _ _, .int .i64 _]) h sizeOf36 rfl rfl rfl rfl rfl) rfl rfl ?_
    rintro _ w h
    refine WL.val run_assign rfl rfl (WL.nil (W.ret (bodyQ.rctB (vs := [.int .i64 _, .int .i64 _, .int .i64 _, .slice _ _ _, .int .i64 _]) (v2 := .slice _ _ _) h results70 isAgg36 sizeOf36 rfl rfl rfl rfl ?_)))
    have h : On W0 (Own 2 (.slice none 0 0) 0 (notesV 0 []) :: _) w := h.ownEmpty 2 none
    have e : preF t ii key other typ = ⟨t, plain 24 0 0, [], 0⟩ := by unfold preF; rw [if_neg (by rw [hok]; decide), if_neg c8, if_pos (List.eq_nil_of_length_eq_zero (by omega))]
    rw [e]
    dsimp only
    exact ⟨none, 0, rfl, h.to⟩
   refine W.skip (W.seq (W.seq ?_))
   refine W.draw Tryz.follows h (fun w h => ?_)
   refine WT.pure 0 rfl (by kernel_rfl) (fun w' => run_move) rfl rfl (WT.pure 1 rfl (by kernel_rfl) (fun w' => (run_nilCheck rfl)) rfl rfl (WT.pure 2 rfl (by kernel_rfl) (fun w' => (run_fieldAddr 8 underlying113 rfl sizeOf3 rfl rfl)) rfl rfl (WT.load1 3 rfl (by kernel_rfl) isAgg3 rfl (h.cellB rfl) rfl rfl ?_)))
   refine WT.dec 4 rfl (by kernel_rfl) (fun w' => (run_neq rfl rfl)) rfl rfl (fun c42 => ?_) (fun c42 => ?_)
   ·
    refine WT.pure 5 rfl (by kernel_rfl) (fun w' => run_move) rfl rfl (WT.pure 6 rfl (by kernel_rfl) (fun w' => run_move) rfl rfl (WT.pure 7 rfl (by kernel_rfl) (fun w' => (run_nilCheck rfl)) rfl rfl (WT.pure 8 rfl (by kernel_rfl) (fun w' => (run_fieldAddr 8 underlying113 rfl sizeOf3 rfl rfl)) rfl rfl (WT.load1 9 rfl (by kernel_rfl) isAgg3 rfl (h.cellB rfl) rfl rfl (WT.pure 10 rfl (by kernel_rfl) (fun w' => run_move) rfl rfl ?_)))))
    refine WT.dec 11 rfl (by kernel_rfl) (fun w' => (run_neq rfl rfl)) rfl rfl (fun c49 => ?_) (fun c49 => ?_)
    ·
     refine WT.pure 12 rfl (by kernel_rfl) (fun w' => (run_pickT rfl)) rfl rfl (WT.pure 13 rfl (by kernel_rfl) (fun w' => run_move) rfl rfl (WT.pure 14 rfl (by kernel_rfl) (fun w' => run_move) rfl rfl (WT.pure 15 rfl (by kernel_rfl) (fun w' => run_move) rfl rfl (WT.pure 16 rfl (by kernel_rfl) (fun w' => (run_nilCheck rfl)) rfl rfl (WT.pure 17 rfl (by kernel_rfl) (fun w' => (run_fieldAddr 8 underlying113 rfl sizeOf3 rfl rfl)) rfl rfl (WT.load1 18 rfl (by kernel_rfl) isAgg3 rfl (h.cellB rfl) rfl rfl (WT.pure 19 rfl (by kernel_rfl) (fun w' => (run_nilCheck rfl)) rfl rfl ?_)))))))
     refine WT.pure 20 rfl (by kernel_rfl) (fun w' => (run_fieldAddr 0 underlying113 rfl sizeOf85 rfl rfl)) rfl rfl (WT.pure 21 rfl (by kernel_rfl) (fun w' => (run_indexAddrArr underlying85 sizeOf23 rfl rfl (by omega) (by omega))) rfl rfl (WT.load1 22 rfl (by kernel_rfl) isAgg23 rfl (h.cellB (cells_atI (by omega) (by omega))) rfl rfl (WT.load1 23 rfl (by kernel_rfl) isAgg23 rfl (h.cellB rfl) rfl rfl ?_)))
     refine WT.dec 24 rfl (by kernel_rfl) (fun w' => (run_eql rfl rfl)) rfl rfl (fun c62 => ?_) (fun c62 => ?_)
     ·
      refine WT.pure 25 rfl (by kernel_rfl) (fun w' => (run_pickT rfl)) rfl rfl (WT.done (by kernel_rfl) (W.condT rfl (W.seq (W.seq ?_))))
      have htk : takesP t ii other := ⟨c42, c49, c62⟩
      refine W.region (WL.val run_move rfl rfl (WL.eff (eff_call call56 (typed_ok h)) rfl rfl ?_))
      rintro _ w ⟨hv, h⟩
      have hcs := Bool.eq_false_or_eq_true (typedB typ)
      rcases hcs with hty | hty <;> (rw [hty] at hv; subst hv)
      ·
       refine WL.val (run_not rfl) rfl rfl (WL.nil (W.condF rfl (W.skip (W.region (WL.val run_move rfl rfl (WL.val run_move rfl rfl (WL.val run_move rfl rfl ?_)))))))
       refine WL.val run_move rfl rfl (WL.val (run_nilCheck rfl) rfl rfl (WL.val (run_fieldAddr 8 underlying113 rfl sizeOf3 rfl rfl) rfl rfl (WL.eff (eff_store (v := .int .i64 _) h sizeOf3 rfl rfl rfl rfl rfl) rfl rfl ?_)))
       rintro _ w h
       try simp only [Nat.zero_add, Nat.add_zero, List.set_cons_zero, List.set_cons_succ] at h
       refine WL.val (run_nilCheck rfl) rfl rfl (WL.val (run_fieldAddr 9 underlying113 rfl sizeOf3 rfl rfl) rfl rfl (WL.eff (eff_store (v := .int .i64 _) h sizeOf3 rfl rfl rfl rfl rfl) rfl rfl ?_))
       rintro _ w h
       try simp only [Nat.zero_add, Nat.add_zero, List.set_cons_zero, List.set_cons_succ] at h
       refine WL.nil (W.seq ?_)
       have h := h.fetch (blk b ((t.cells.set (0 + 8) (.int .i64 ii)).set (0 + 9) (.int .i64 typ)) 113)
       have h : On W0 (blk b (t.take ii typ).cells 113 :: _) w := h
       refine W.region (WL.val run_move rfl rfl (WL.val (run_nilCheck rfl) rfl rfl (WL.val (run_fieldAddr 10 underlying113 rfl sizeOf111 rfl rfl) rfl rfl (WL.val (run_load1 isAgg111 rfl (h.cellB rfl)) rfl rfl (WL.val (run_addW rfl rfl) rfl rfl (WL.val (run_nilCheck rfl) rfl rfl (WL.val (run_fieldAddr 10 underlying113 rfl sizeOf111 rfl rfl) rfl rfl ?_)))))))
       refine WL.eff (eff_store (v := .int .u32 _) h sizeOf111 rfl rfl rfl rfl rfl) rfl rfl ?_
       rintro _ w h
       try simp only [Nat.zero_add, Nat.add_zero, List.set_cons_zero, List.set_cons_succ] at h
       refine WL.nil (W.seq (W.seq ?_))
       have et0 : preT0 t ii other typ = (t.take ii typ).inc := by unfold preT0; rw [if_pos htk]
       have h := h.fetch (blk b ((t.take ii typ).cells.set (0 + 10) (.int .u32 (IntKind.u32.wrap ((t.take ii typ).gen + 1)))) 113)
       have h : On W0 (blk b (t.take ii typ).inc.cells 113 :: _) w := h
       rw [← et0, ← zer_nil (preT0 t ii other typ)] at h
       have h : On W0 (Own 2 (.slice a (preL t ii other).length (preL t ii other).length) (preL t ii other).length (notesV 10757 (preL t ii other)) :: blk b (zer (preT0 t ii other typ) []).cells 113 :: blk b10 [.int .i64 0, .int .i64 0, .int .i64 0, .slice none 0 0, .int .i64 0] 36 :: L) w := h.to
       refine W.region (WL.val run_move rfl rfl (WL.val (run_lenSlice underlying120 rfl) rfl rfl (WL.val run_move rfl rfl (WL.nil (W.block ?_)))))
       refine W.loop (fun (q : Nat) env w => ∃ j, env = mkE j [(0, .pointer (some ⟨b, 0, none⟩)), (1, .int .i64 (ii : Int)), (10, .pointer (some ⟨b10, 0, none⟩)), (14, .slice a (preL t ii other).length (preL t ii other).length), (83, .slice a (preL t ii other).length (preL t ii other).length), (84, .int .i64 (((preL t ii other).length : Nat) : Int)), (85, .int .i64 (q : Int))] ∧ q ≤ (preL t ii other).length ∧ On W0 (Own 2 (.slice a (preL t ii other).length (preL t ii other).length) (preL t ii other).length (notesV 10757 (preL t ii other)) :: blk b (zer (preT0 t ii other typ) ((preL t ii other).take q)).cells 113 :: blk b10 [.int .i64 0, .int .i64 0, .int .i64 0, .slice none 0 0, .int .i64 0] 36 :: L) w) (fun q => (preL t ii other).length - q) (0) ?_ ?_
       · exact ⟨_, mkE_of ⟨rfl, rfl, rfl, rfl, rfl, rfl, rfl, trivial⟩, Nat.zero_le _, h⟩
       rintro q env w ⟨j, rfl, hq, h⟩
       refine W.seq (W.region (WL.val (run_lss rfl rfl) rfl rfl (WL.nil (W.seq ?_))))
       refine W.condIf rfl (fun c32 => ?_) (fun c32 => ?_)
       ·
        refine W.skip (W.seq (W.block (W.seq ?_)))
        have hql : q < (preL t ii other).length := by omega
        have ob_ : ∃ i, (preL t ii other)[q]? = some i := ⟨(preL t ii other)[q], by simp⟩
        obtain ⟨i, hi⟩ := ob_
        have hi8 : i < 8 := (hostsN_mem.1 (List.mem_of_getElem? hi)).1
        have ob_ := Own.addr h (by omega)
        obtain ⟨bn, on, rfl⟩ := ob_
        refine W.region (WL.val (run_indexAddr underlying120 sizeOf165 rfl rfl (by omega) (by omega)) rfl rfl (WL.val (run_loadN isAgg165 sizeOf165 rfl rfl ((h.cellsO (v := .slice (some ⟨bn, on, none⟩) (preL t ii other).length (preL t ii other).length)).elem (i := q) (vs := noteV 10757 i) hql (drop_flatMap (noteV 10757) 2 (noteV_length 10757) (preL t ii other) _ _ hi))) rfl rfl (WL.eff (eff_alloc h zeroValue165 rfl) rfl rfl ?_)))
        rintro _ w ⟨b16, rfl, h⟩
        refine WL.eff (eff_storeW (vs := [.int .i64 _, .int .i64 _]) h sizeOf165 rfl rfl rfl rfl rfl) rfl rfl ?_
        rintro _ w h
        refine WL.nil ?_
        refine W.draw Tryz.follows h (fun w h => ?_)
        refine WT.pure 0 rfl (by kernel_rfl) (fun w' => run_move) rfl rfl (WT.pure 1 rfl (by kernel_rfl) (fun w' => (run_fieldAddr 0 underlying165 rfl sizeOf3 rfl rfl)) rfl rfl (WT.load1 2 rfl (by kernel_rfl) isAgg3 rfl (h.cellB rfl) rfl rfl (WT.pure 3 rfl (by kernel_rfl) (fun w' => (run_nilCheck rfl)) rfl rfl (WT.pure 4 rfl (by kernel_rfl) (fun w' => (run_fieldAddr 0 underlying113 rfl sizeOf85 rfl rfl)) rfl rfl (WT.pure 5 rfl (by kernel_rfl) (fun w' => (run_indexAddrArr underlying85 sizeOf23 rfl rfl (by omega) (by omega))) rfl rfl (WT.eff 6 [false] rfl (by kernel_rfl) (by kernel_rfl) (eff_store (v := .int .u64 _) h sizeOf23 rfl rfl rfl (cells_lt hi8) (free0 _)) rfl rfl ?_))))))
        rintro _ w h
        rw [cells_set hi8, ← zer_snoc, ← RsM.take_snoc hi] at h
        refine ⟨trivial, ?_⟩
        refine WT.done (by kernel_rfl) (W.region (WL.val (run_incN rfl rfl (by omega)) rfl rfl (WL.val run_move rfl rfl (WL.nil ?_))))
        exact ⟨q + 1, ⟨_, mkE_of ⟨rfl, rfl, rfl, rfl, rfl, rfl, rfl, trivial⟩, by omega, h.to⟩, by show (preL t ii other).length - (q + 1) < (preL t ii other).length - q; omega⟩
       refine W.exit (W.seq (W.region (WL.eff (eff_call call115 (good_ok h)) rfl rfl ?_)))
       rintro _ w ⟨rfl, h⟩
       refine WL.val run_move rfl rfl (WL.eff (eff_storeW (vs := [.int .i64 _, .int .i64 _, .int .i64 _, .slice _ _ _, .int .i64 _]) h sizeOf36 rfl rfl rfl rfl rfl) rfl rfl ?_)
       rintro _ w h
       refine WL.val run_assign rfl rfl (WL.nil (W.ret (bodyQ.rctB (vs := [.int .i64 _, .int .i64 _, .int .i64 _, .slice _ _ _, .int .i64 _]) (v2 := .slice _ _ _) h results70 isAgg36 sizeOf36 rfl rfl rfl rfl ?_)))
       have ob_ : q = (preL t ii other).length := by omega
       obtain rfl := ob_
       rw [List.take_length] at h
       have h : On W0 (Own 2 (.slice a (preL t ii other).length (preL t ii other).length) (preL t ii other).length (notesV 10757 (preL t ii other)) :: blk b (preT t ii other typ).cells 113 :: _) w := h
       have e : preF t ii key other typ = ⟨preT t ii other typ, plain 0 0 0, preL t ii other, 10757⟩ := by unfold preF; rw [if_neg (by rw [hok]; decide), if_neg c8, if_neg (fun e => c14 (by rw [e]; rfl)), if_neg (fun hx => by rw [hx.2] at hty; cases hty)]
       rw [e]
       dsimp only
       exact ⟨a, (preL t ii other).length, rfl, h.to⟩
      refine WL.val (run_not rfl) rfl rfl (WL.nil (W.condT rfl (W.seq (W.region (WL.eff (eff_call call112 (field_ok h)) rfl rfl ?_)))))
      rintro _ w ⟨rfl, h⟩
      refine WL.eff (eff_storeW (vs := [.int .i64 _, .int .i64 _, .int .i64 _, .slice _ _ _, .int .i64 _]) h sizeOf36 rfl rfl rfl rfl rfl) rfl rfl ?_
      rintro _ w h
      refine WL.val run_assign rfl rfl (WL.nil (W.ret (bodyQ.rctB (vs := [.int .i64 _, .int .i64 _, .int .i64 _, .slice _ _ _, .int .i64 _]) (v2 := .slice _ _ _) h results70 isAgg36 sizeOf36 rfl rfl rfl rfl ?_)))
      have h : On W0 (Own 2 (.slice none 0 0) 0 (notesV 0 []) :: _) w := h.ownEmpty 2 none
      have e : preF t ii key other typ = ⟨t, plain 2 5 9216, [], 0⟩ := by unfold preF; rw [if_neg (by rw [hok]; decide), if_neg c8, if_neg (fun e => c14 (by rw [e]; rfl)), if_pos ⟨htk, hty⟩]
      rw [e]
      dsimp only
      exact ⟨none, 0, rfl, h.to⟩
     refine WT.pure 25 rfl (by kernel_rfl) (fun w' => (run_pickT rfl)) rfl rfl (WT.done (by kernel_rfl) (W.condF rfl (W.skip (W.seq ?_))))
     have htk : ¬ takesP t ii other := fun hx => c62 hx.2.2
     refine W.region (WL.val run_move rfl rfl (WL.val (run_nilCheck rfl) rfl rfl (WL.val (run_fieldAddr 10 underlying113 rfl sizeOf111 rfl rfl) rfl rfl (WL.val (run_load1 isAgg111 rfl (h.cellB rfl)) rfl rfl (WL.val (run_addW rfl rfl) rfl rfl (WL.val (run_nilCheck rfl) rfl rfl (WL.val (run_fieldAddr 10 underlying113 rfl sizeOf111 rfl rfl) rfl rfl ?_)))))))
     refine WL.eff (eff_store (v := .int .u32 _) h sizeOf111 rfl rfl rfl rfl rfl) rfl rfl ?_
     rintro _ w h
     try simp only [Nat.zero_add, Nat.add_zero, List.set_cons_zero, List.set_cons_succ] at h
     refine WL.nil (W.seq (W.seq ?_))
     have et0 : preT0 t ii other typ = t.inc := by unfold preT0; rw [if_neg htk]
     have h := h.fetch (blk b (t.cells.set (0 + 10) (.int .u32 (IntKind.u32.wrap (t.gen + 1)))) 113)
     have h : On W0 (blk b t.inc.cells 113 :: _) w := h
     rw [← et0, ← zer_nil (preT0 t ii other typ)] at h
     have h : On W0 (Own 2 (.slice a (preL t ii other).length (preL t ii other).length) (preL t ii other).length (notesV 10757 (preL t ii other)) :: blk b (zer (preT0 t ii other typ) []).cells 113 :: blk b10 [.int .i64 0, .int .i64 0, .int .i64 0, .slice none 0 0, .int .i64 0] 36 :: L) w := h.to
     refine W.region (WL.val run_move rfl rfl (WL.val (run_lenSlice underlying120 rfl) rfl rfl (WL.val run_move rfl rfl (WL.nil (W.block ?_)))))
     refine W.loop (fun (q : Nat) env w => ∃ j, env = mkE j [(0, .pointer (some ⟨b, 0, none⟩)), (1, .int .i64 (ii : Int)), (10, .pointer (some ⟨b10, 0, none⟩)), (14, .slice a (preL t ii other).length (preL t ii other).length), (83, .slice a (preL t ii other).length (preL t ii other).length), (84, .int .i64 (((preL t ii other).length : Nat) : Int)), (85, .int .i64 (q : Int))] ∧ q ≤ (preL t ii other).length ∧ On W0 (Own 2 (.slice a (preL t ii other).length (preL t ii other).length) (preL t ii other).length (notesV 10757 (preL t ii other)) :: blk b (zer (preT0 t ii other typ) ((preL t ii other).take q)).cells 113 :: blk b10 [.int .i64 0, .int .i64 0, .int .i64 0, .slice none 0 0, .int .i64 0] 36 :: L) w) (fun q => (preL t ii other).length - q) (0) ?_ ?_
     · exact ⟨_, mkE_of ⟨rfl, rfl, rfl, rfl, rfl, rfl, rfl, trivial⟩, Nat.zero_le _, h⟩
     rintro q env w ⟨j, rfl, hq, h⟩
     refine W.seq (W.region (WL.val (run_lss rfl rfl) rfl rfl (WL.nil (W.seq ?_))))
     refine W.condIf rfl (fun c32 => ?_) (fun c32 => ?_)
     ·
      refine W.skip (W.seq (W.block (W.seq ?_)))
      have hql : q < (preL t ii other).length := by omega
      have ob_ : ∃ i, (preL t ii other)[q]? = some i := ⟨(preL t ii other)[q], by simp⟩
      obtain ⟨i, hi⟩ := ob_
      have hi8 : i < 8 := (hostsN_mem.1 (List.mem_of_getElem? hi)).1
      have ob_ := Own.addr h (by omega)
      obtain ⟨bn, on, rfl⟩ := ob_
      refine W.region (WL.val (run_indexAddr underlying120 sizeOf165 rfl rfl (by omega) (by omega)) rfl rfl (WL.val (run_loadN isAgg165 sizeOf165 rfl rfl ((h.cellsO (v := .slice (some ⟨bn, on, none⟩) (preL t ii other).length (preL t ii other).length)).elem (i := q) (vs := noteV 10757 i) hql (drop_flatMap (noteV 10757) 2 (noteV_length 10757) (preL t ii other) _ _ hi))) rfl rfl (WL.eff (eff_alloc h zeroValue165 rfl) rfl rfl ?_)))
      rintro _ w ⟨b16, rfl, h⟩
      refine WL.eff (eff_storeW (vs := [.int .i64 _, .int .i64 _]) h sizeOf165 rfl rfl rfl rfl rfl) rfl rfl ?_
      rintro _ w h
      refine WL.nil ?_
      refine W.draw Tryz.follows h (fun w h => ?_)
      refine WT.pure 0 rfl (by kernel_rfl) (fun w' => run_move) rfl rfl (WT.pure 1 rfl (by kernel_rfl) (fun w' => (run_fieldAddr 0 underlying165 rfl sizeOf3 rfl rfl)) rfl rfl (WT.load1 2 rfl (by kernel_rfl) isAgg3 rfl (h.cellB rfl) rfl rfl (WT.pure 3 rfl (by kernel_rfl) (fun w' => (run_nilCheck rfl)) rfl rfl (WT.pure 4 rfl (by kernel_rfl) (fun w' => (run_fieldAddr 0 underlying113 rfl sizeOf85 rfl rfl)) rfl rfl (WT.pure 5 rfl (by kernel_rfl) (fun w' => (run_indexAddrArr underlying85 sizeOf23 rfl rfl (by omega) (by omega))) rfl rfl (WT.eff 6 [false] rfl (by kernel_rfl) (by kernel_rfl) (eff_store (v := .int .u64 _) h sizeOf23 rfl rfl rfl (cells_lt hi8) (free0 _)) rfl rfl ?_))))))
      rintro _ w h
      rw [cells_set hi8, ← zer_snoc, ← RsM.take_snoc hi] at h
      refine ⟨trivial, ?_⟩
      refine WT.done (by kernel_rfl) (W.region (WL.val (run_incN rfl rfl (by omega)) rfl rfl (WL.val run_move rfl rfl (WL.nil ?_))))
      exact ⟨q + 1, ⟨_, mkE_of ⟨rfl, rfl, rfl, rfl, rfl, rfl, rfl, trivial⟩, by omega, h.to⟩, by show (preL t ii other).length - (q + 1) < (preL t ii other).length - q; omega⟩
     refine W.exit (W.seq (W.region (WL.eff (eff_call call115 (good_ok h)) rfl rfl ?_)))
     rintro _ w ⟨rfl, h⟩
     refine WL.val run_move rfl rfl (WL.eff (eff_storeW (vs := [.int .i64 _, .int .i64 _, .int .i64 _, .slice _ _ _, .int .i64 _]) h sizeOf36 rfl rfl rfl rfl rfl) rfl rfl ?_)
     rintro _ w h
     refine WL.val run_assign rfl rfl (WL.nil (W.ret (bodyQ.rctB (vs := [.int .i64 _, .int .i64 _, .int .i64 _, .slice _ _ _, .int .i64 _]) (v2 := .slice _ _ _) h results70 isAgg36 sizeOf36 rfl rfl rfl rfl ?_)))
     have ob_ : q = (preL t ii other).length := by omega
     obtain rfl := ob_
     rw [List.take_length] at h
     have h : On W0 (Own 2 (.slice a (preL t ii other).length (preL t ii other).length) (preL t ii other).length (notesV 10757 (preL t ii other)) :: blk b (preT t ii other typ).cells 113 :: _) w := h
     have e : preF t ii key other typ = ⟨preT t ii other typ, plain 0 0 0, preL t ii other, 10757⟩ := by unfold preF; rw [if_neg (by rw [hok]; decide), if_neg c8, if_neg (fun e => c14 (by rw [e]; rfl)), if_neg (fun hx => htk hx.1)]
     rw [e]
     dsimp only
     exact ⟨a, (preL t ii other).length, rfl, h.to⟩
    refine WT.pure 12 rfl (by kernel_rfl) (fun w' => (run_pickT rfl)) rfl rfl (WT.pure 13 rfl (by kernel_rfl) (fun w' => run_move) rfl rfl (WT.skip 14 rfl (by kernel_rfl) rfl rfl (WT.skip 15 rfl (by kernel_rfl) rfl rfl (WT.skip 16 rfl (by kernel_rfl) rfl rfl (WT.skip 17 rfl (by kernel_rfl) rfl rfl (WT.skip 18 rfl (by kernel_rfl) rfl rfl (WT.skip 19 rfl (by kernel_rfl) rfl rfl ?_)))))))
    refine WT.skip 20 rfl (by kernel_rfl) rfl rfl (WT.skip 21 rfl (by kernel_rfl) rfl rfl (WT.skip 22 rfl (by kernel_rfl) rfl rfl (WT.skip 23 rfl (by kernel_rfl) rfl rfl (WT.skip 24 rfl (by kernel_rfl) rfl rfl (WT.pure 25 rfl (by kernel_rfl) (fun w' => (run_pickF rfl)) rfl rfl (WT.done (by kernel_rfl) (W.condF rfl ?_)))))))
    refine W.skip (W.seq ?_)
    have htk : ¬ takesP t ii other := fun hx => c49 hx.2.1
    refine W.region (WL.val run_move rfl rfl (WL.val (run_nilCheck rfl) rfl rfl (WL.val (run_fieldAddr 10 underlying113 rfl sizeOf111 rfl rfl) rfl rfl (WL.val (run_load1 isAgg111 rfl (h.cellB rfl)) rfl rfl (WL.val (run_addW rfl rfl) rfl rfl (WL.val (run_nilCheck rfl) rfl rfl (WL.val (run_fieldAddr 10 underlying113 rfl sizeOf111 rfl rfl) rfl rfl ?_)))))))
    refine WL.eff (eff_store (v := .int .u32 _) h sizeOf111 rfl rfl rfl rfl rfl) rfl rfl ?_
    rintro _ w h
    try simp only [Nat.zero_add, Nat.add_zero, List.set_cons_zero, List.set_cons_succ] at h
    refine WL.nil (W.seq (W.seq ?_))
    have et0 : preT0 t ii other typ = t.inc := by unfold preT0; rw [if_neg htk]
    have h := h.fetch (blk b (t.cells.set (0 + 10) (.int .u32 (IntKind.u32.wrap (t.gen + 1)))) 113)
    have h : On W0 (blk b t.inc.cells 113 :: _) w := h
    rw [← et0, ← zer_nil (preT0 t ii other typ)] at h
    have h : On W0 (Own 2 (.slice a (preL t ii other).length (preL t ii other).length) (preL t ii other).length (notesV 10757 (preL t ii other)) :: blk b (zer (preT0 t ii other typ) []).cells 113 :: blk b10 [.int .i64 0, .int .i64 0, .int .i64 0, .slice none 0 0, .int .i64 0] 36 :: L) w := h.to
    refine W.region (WL.val run_move rfl rfl (WL.val (run_lenSlice underlying120 rfl) rfl rfl (WL.val run_move rfl rfl (WL.nil (W.block ?_)))))
    refine W.loop (fun (q : Nat) env w => ∃ j, env = mkE j [(0, .pointer (some ⟨b, 0, none⟩)), (1, .int .i64 (ii : Int)), (10, .pointer (some ⟨b10, 0, none⟩)), (14, .slice a (preL t ii other).length (preL t ii other).length), (83, .slice a (preL t ii other).length (preL t ii other).length), (84, .int .i64 (((preL t ii other).length : Nat) : Int)), (85, .int .i64 (q : Int))] ∧ q ≤ (preL t ii other).length ∧ On W0 (Own 2 (.slice a (preL t ii other).length (preL t ii other).length) (preL t ii other).length (notesV 10757 (preL t ii other)) :: blk b (zer (preT0 t ii other typ) ((preL t ii other).take q)).cells 113 :: blk b10 [.int .i64 0, .int .i64 0, .int .i64 0, .slice none 0 0, .int .i64 0] 36 :: L) w) (fun q => (preL t ii other).length - q) (0) ?_ ?_
    · exact ⟨_, mkE_of ⟨rfl, rfl, rfl, rfl, rfl, rfl, rfl, trivial⟩, Nat.zero_le _, h⟩
    rintro q env w ⟨j, rfl, hq, h⟩
    refine W.seq (W.region (WL.val (run_lss rfl rfl) rfl rfl (WL.nil (W.seq ?_))))
    refine W.condIf rfl (fun c32 => ?_) (fun c32 => ?_)
    ·
     refine W.skip (W.seq (W.block (W.seq ?_)))
     have hql : q < (preL t ii other).length := by omega
     have ob_ : ∃ i, (preL t ii other)[q]? = some i := ⟨(preL t ii other)[q], by simp⟩
     obtain ⟨i, hi⟩ := ob_
     have hi8 : i < 8 := (hostsN_mem.1 (List.mem_of_getElem? hi)).1
     have ob_ := Own.addr h (by omega)
     obtain ⟨bn, on, rfl⟩ := ob_
     refine W.region (WL.val (run_indexAddr underlying120 sizeOf165 rfl rfl (by omega) (by omega)) rfl rfl (WL.val (run_loadN isAgg165 sizeOf165 rfl rfl ((h.cellsO (v := .slice (some ⟨bn, on, none⟩) (preL t ii other).length (preL t ii other).length)).elem (i := q) (vs := noteV 10757 i) hql (drop_flatMap (noteV 10757) 2 (noteV_length 10757) (preL t ii other) _ _ hi))) rfl rfl (WL.eff (eff_alloc h zeroValue165 rfl) rfl rfl ?_)))
     rintro _ w ⟨b16, rfl, h⟩
     refine WL.eff (eff_storeW (vs := [.int .i64 _, .int .i64 _]) h sizeOf165 rfl rfl rfl rfl rfl) rfl rfl ?_
     rintro _ w h
     refine WL.nil ?_
     refine W.draw Tryz.follows h (fun w h => ?_)
     refine WT.pure 0 rfl (by kernel_rfl) (fun w' => run_move) rfl rfl (WT.pure 1 rfl (by kernel_rfl) (fun w' => (run_fieldAddr 0 underlying165 rfl sizeOf3 rfl rfl)) rfl rfl (WT.load1 2 rfl (by kernel_rfl) isAgg3 rfl (h.cellB rfl) rfl rfl (WT.pure 3 rfl (by kernel_rfl) (fun w' => (run_nilCheck rfl)) rfl rfl (WT.pure 4 rfl (by kernel_rfl) (fun w' => (run_fieldAddr 0 underlying113 rfl sizeOf85 rfl rfl)) rfl rfl (WT.pure 5 rfl (by kernel_rfl) (fun w' => (run_indexAddrArr underlying85 sizeOf23 rfl rfl (by omega) (by omega))) rfl rfl (WT.eff 6 [false] rfl (by kernel_rfl) (by kernel_rfl) (eff_store (v := .int .u64 _) h sizeOf23 rfl rfl rfl (cells_lt hi8) (free0 _)) rfl rfl ?_))))))
     rintro _ w h
     rw [cells_set hi8, ← zer_snoc, ← RsM.take_snoc hi] at h
     refine ⟨trivial, ?_⟩
     refine WT.done (by kernel_rfl) (W.region (WL.val (run_incN rfl rfl (by omega)) rfl rfl (WL.val run_move rfl rfl (WL.nil ?_))))
     exact ⟨q + 1, ⟨_, mkE_of ⟨rfl, rfl, rfl, rfl, rfl, rfl, rfl, trivial⟩, by omega, h.to⟩, by show (preL t ii other).length - (q + 1) < (preL t ii other).length - q; omega⟩
    refine W.exit (W.seq (W.region (WL.eff (eff_call call115 (good_ok h)) rfl rfl ?_)))
    rintro _ w ⟨rfl, h⟩
    refine WL.val run_move rfl rfl (WL.eff (eff_storeW (vs := [.int .i64 _, .int .i64 _, .int .i64 _, .slice _ _ _, .int .i64 _]) h sizeOf36 rfl rfl rfl rfl rfl) rfl rfl ?_)
    rintro _ w h
    refine WL.val run_assign rfl rfl (WL.nil (W.ret (bodyQ.rctB (vs := [.int .i64 _, .int .i64 _, .int .i64 _, .slice _ _ _, .int .i64 _]) (v2 := .slice _ _ _) h results70 isAgg36 sizeOf36 rfl rfl rfl rfl ?_)))
    have ob_ : q = (preL t ii other).length := by omega
    obtain rfl := ob_
    rw [List.take_length] at h
    have h : On W0 (Own 2 (.slice a (preL t ii other).length (preL t ii other).length) (preL t ii other).length (notesV 10757 (preL t ii other)) :: blk b (preT t ii other typ).cells 113 :: _) w := h
    have e : preF t ii key other typ = ⟨preT t ii other typ, plain 0 0 0, preL t ii other, 10757⟩ := by unfold preF; rw [if_neg (by rw [hok]; decide), if_neg c8, if_neg (fun e => c14 (by rw [e]; rfl)), if_neg (fun hx => htk hx.1)]
    rw [e]
    dsimp only
    exact ⟨a, (preL t ii other).length, rfl, h.to⟩
   refine WT.pure 5 rfl (by kernel_rfl) (fun w' => run_move) rfl rfl (WT.skip 6 rfl (by kernel_rfl) rfl rfl (WT.skip 7 rfl (by kernel_rfl) rfl rfl (WT.skip 8 rfl (by kernel_rfl) rfl rfl (WT.skip 9 rfl (by kernel_rfl) rfl rfl (WT.skip 10 rfl (by kernel_rfl) rfl rfl (WT.skip 11 rfl (by kernel_rfl) rfl rfl (WT.pure 12 rfl (by kernel_rfl) (fun w' => (run_pickF rfl)) rfl rfl ?_)))))))
   refine WT.pure 13 rfl (by kernel_rfl) (fun w' => run_move) rfl rfl (WT.skip 14 rfl (by kernel_rfl) rfl rfl (WT.skip 15 rfl (by kernel_rfl) rfl rfl (WT.skip 16 rfl (by kernel_rfl) rfl rfl (WT.skip 17 rfl (by kernel_rfl) rfl rfl (WT.skip 18 rfl (by kernel_rfl) rfl rfl (WT.skip 19 rfl (by kernel_rfl) rfl rfl (WT.skip 20 rfl (by kernel_rfl) rfl rfl ?_)))))))
   refine WT.skip 21 rfl (by kernel_rfl) rfl rfl (WT.skip 22 rfl (by kernel_rfl) rfl rfl (WT.skip 23 rfl (by kernel_rfl) rfl rfl (WT.skip 24 rfl (by kernel_rfl) rfl rfl (WT.pure 25 rfl (by kernel_rfl) (fun w' => (run_pickF rfl)) rfl rfl (WT.done (by kernel_rfl) (W.condF rfl (W.skip ?_)))))))
   refine W.seq ?_
   have htk : ¬ takesP t ii other := fun hx => c42 hx.1
   refine W.region (WL.val run_move rfl rfl (WL.val (run_nilCheck rfl) rfl rfl (WL.val (run_fieldAddr 10 underlying113 rfl sizeOf111 rfl rfl) rfl rfl (WL.val (run_load1 isAgg111 rfl (h.cellB rfl)) rfl rfl (WL.val (run_addW rfl rfl) rfl rfl (WL.val (run_nilCheck rfl) rfl rfl (WL.val (run_fieldAddr 10 underlying113 rfl sizeOf111 rfl rfl) rfl rfl ?_)))))))
   refine WL.eff (eff_store (v := .int .u32 _) h sizeOf111 rfl rfl rfl rfl rfl) rfl rfl ?_
   rintro _ w h
   try simp only [Nat.zero_add, Nat.add_zero, List.set_cons_zero, List.set_cons_succ] at h
   refine WL.nil (W.seq (W.seq ?_))
   have et0 : preT0 t ii other typ = t.inc := by unfold preT0; rw [if_neg htk]
   have h := h.fetch (blk b (t.cells.set (0 + 10) (.int .u32 (IntKind.u32.wrap (t.gen + 1)))) 113)
   have h : On W0 (blk b t.inc.cells 113 :: _) w := h
   rw [← et0, ← zer_nil (preT0 t ii other typ)] at h
   have h : On W0 (Own 2 (.slice a (preL t ii other).length (preL t ii other).length) (preL t ii other).length (notesV 10757 (preL t ii other)) :: blk b (zer (preT0 t ii other typ) []).cells 113 :: blk b10 [.int .i64 0, .int .i64 0, .int .i64 0, .slice none 0 0, .int .i64 0] 36 :: L) w := h.to
   refine W.region (WL.val run_move rfl rfl (WL.val (run_lenSlice underlying120 rfl) rfl rfl (WL.val run_move rfl rfl (WL.nil (W.block ?_)))))
   refine W.loop (fun (q : Nat) env w => ∃ j, env = mkE j [(0, .pointer (some ⟨b, 0, none⟩)), (1, .int .i64 (ii : Int)), (10, .pointer (some ⟨b10, 0, none⟩)), (14, .slice a (preL t ii other).length (preL t ii other).length), (83, .slice a (preL t ii other).length (preL t ii other).length), (84, .int .i64 (((preL t ii other).length : Nat) : Int)), (85, .int .i64 (q : Int))] ∧ q ≤ (preL t ii other).length ∧ On W0 (Own 2 (.slice a (preL t ii other).length (preL t ii other).length) (preL t ii other).length (notesV 10757 (preL t ii other)) :: blk b (zer (preT0 t ii other typ) ((preL t ii other).take q)).cells 113 :: blk b10 [.int .i64 0, .int .i64 0, .int .i64 0, .slice none 0 0, .int .i64 0] 36 :: L) w) (fun q => (preL t ii other).length - q) (0) ?_ ?_
   · exact ⟨_, mkE_of ⟨rfl, rfl, rfl, rfl, rfl, rfl, rfl, trivial⟩, Nat.zero_le _, h⟩
   rintro q env w ⟨j, rfl, hq, h⟩
   refine W.seq (W.region (WL.val (run_lss rfl rfl) rfl rfl (WL.nil (W.seq ?_))))
   refine W.condIf rfl (fun c32 => ?_) (fun c32 => ?_)
   ·
    refine W.skip (W.seq (W.block (W.seq ?_)))
    have hql : q < (preL t ii other).length := by omega
    have ob_ : ∃ i, (preL t ii other)[q]? = some i := ⟨(preL t ii other)[q], by simp⟩
    obtain ⟨i, hi⟩ := ob_
    have hi8 : i < 8 := (hostsN_mem.1 (List.mem_of_getElem? hi)).1
    have ob_ := Own.addr h (by omega)
    obtain ⟨bn, on, rfl⟩ := ob_
    refine W.region (WL.val (run_indexAddr underlying120 sizeOf165 rfl rfl (by omega) (by omega)) rfl rfl (WL.val (run_loadN isAgg165 sizeOf165 rfl rfl ((h.cellsO (v := .slice (some ⟨bn, on, none⟩) (preL t ii other).length (preL t ii other).length)).elem (i := q) (vs := noteV 10757 i) hql (drop_flatMap (noteV 10757) 2 (noteV_length 10757) (preL t ii other) _ _ hi))) rfl rfl (WL.eff (eff_alloc h zeroValue165 rfl) rfl rfl ?_)))
    rintro _ w ⟨b16, rfl, h⟩
    refine WL.eff (eff_storeW (vs := [.int .i64 _, .int .i64 _]) h sizeOf165 rfl rfl rfl rfl rfl) rfl rfl ?_
    rintro _ w h
    refine WL.nil ?_
    refine W.draw Tryz.follows h (fun w h => ?_)
    refine WT.pure 0 rfl (by kernel_rfl) (fun w' => run_move) rfl rfl (WT.pure 1 rfl (by kernel_rfl) (fun w' => (run_fieldAddr 0 underlying165 rfl sizeOf3 rfl rfl)) rfl rfl (WT.load1 2 rfl (by kernel_rfl) isAgg3 rfl (h.cellB rfl) rfl rfl (WT.pure 3 rfl (by kernel_rfl) (fun w' => (run_nilCheck rfl)) rfl rfl (WT.pure 4 rfl (by kernel_rfl) (fun w' => (run_fieldAddr 0 underlying113 rfl sizeOf85 rfl rfl)) rfl rfl (WT.pure 5 rfl (by kernel_rfl) (fun w' => (run_indexAddrArr underlying85 sizeOf23 rfl rfl (by omega) (by omega))) rfl rfl (WT.eff 6 [false] rfl (by kernel_rfl) (by kernel_rfl) (eff_store (v := .int .u64 _) h sizeOf23 rfl rfl rfl (cells_lt hi8) (free0 _)) rfl rfl ?_))))))
    rintro _ w h
    rw [cells_set hi8, ← zer_snoc, ← RsM.take_snoc hi] at h
    refine ⟨trivial, ?_⟩
    refine WT.done (by kernel_rfl) (W.region (WL.val (run_incN rfl rfl (by omega)) rfl rfl (WL.val run_move rfl rfl (WL.nil ?_))))
    exact ⟨q + 1, ⟨_, mkE_of ⟨rfl, rfl, rfl, rfl, rfl, rfl, rfl, trivial⟩, by omega, h.to⟩, by show (preL t ii other).length - (q + 1) < (preL t ii other).length - q; omega⟩
   refine W.exit (W.seq (W.region (WL.eff (eff_call call115 (good_ok h)) rfl rfl ?_)))
   rintro _ w ⟨rfl, h⟩
   refine WL.val run_move rfl rfl (WL.eff (eff_storeW (vs := [.int .i64 _, .int .i64 _, .int .i64 _, .slice _ _ _, .int .i64 _]) h sizeOf36 rfl rfl rfl rfl rfl) rfl rfl ?_)
   rintro _ w h
   refine WL.val run_assign rfl rfl (WL.nil (W.ret (bodyQ.rctB (vs := [.int .i64 _, .int .i64 _, .int .i64 _, .slice _ _ _, .int .i64 _]) (v2 := .slice _ _ _) h results70 isAgg36 sizeOf36 rfl rfl rfl rfl ?_)))
   have ob_ : q = (preL t ii other).length := by omega
   obtain rfl := ob_
   rw [List.take_length] at h
   have h : On W0 (Own 2 (.slice a (preL t ii other).length (preL t ii other).length) (preL t ii other).length (notesV 10757 (preL t ii other)) :: blk b (preT t ii other typ).cells 113 :: _) w := h
   have e : preF t ii key other typ = ⟨preT t ii other typ, plain 0 0 0, preL t ii other, 10757⟩ := by unfold preF; rw [if_neg (by rw [hok]; decide), if_neg c8, if_neg (fun e => c14 (by rw [e]; rfl)), if_neg (fun hx => htk hx.1)]
   rw [e]
   dsimp only
   exact ⟨a, (preL t ii other).length, rfl, h.to⟩
  refine WL.val run_move rfl rfl (WL.val (run_extract rfl rfl) rfl rfl (WL.val (run_extract rfl rfl) rfl rfl (WL.eff (eff_alloc h zeroValue36 rfl) rfl rfl ?_)))
  rintro _ w ⟨b12, rfl, h⟩
  refine WL.eff (eff_storeW (vs := [.int .i64 _, .int .i64 _, .int .i64 _, .slice _ _ _, .int .i64 _]) h sizeOf36 rfl rfl rfl rfl rfl) rfl rfl ?_
  rintro _ w h
  refine WL.val run_assign rfl rfl (WL.nil (W.seq (W.region (WL.val run_move rfl rfl (WL.val (run_not rfl) rfl rfl (WL.nil (W.condT rfl ?_)))))))
  refine W.seq (W.region (WL.val (run_loadB (vs := [.int .i64 _, .int .i64 _, .int .i64 _, .slice _ _ _, .int .i64 _]) h isAgg36 sizeOf36 rfl rfl rfl) rfl rfl (WL.eff (eff_storeW (vs := [.int .i64 _, .int .i64 _, .int .i64 _, .slice _ _ _, .int .i64 _]) h sizeOf36 rfl rfl rfl rfl rfl) rfl rfl ?_)))
  rintro _ w h
  refine WL.val run_assign rfl rfl (WL.nil (W.ret (bodyQ.rctB (vs := [.int .i64 _, .int .i64 _, .int .i64 _, .slice _ _ _, .int .i64 _]) (v2 := .slice _ _ _) h results70 isAgg36 sizeOf36 rfl rfl rfl rfl ?_)))
  have h : On W0 (Own 2 (.slice none 0 0) 0 (notesV 0 []) :: _) w := h.ownEmpty 2 none
  have e : preF t ii key other typ = ⟨t, plain 24 0 0, [], 0⟩ := by unfold preF; rw [if_pos hok]
  rw [e]
  dsimp only
  exact ⟨none, 0, rfl, h.to⟩
end Go.Proofs.YtjbgiingimhnnaaGreat
/-
  Maps keyed by integers, more: looked up with a word whether it is there; how many; what a range has left.
-/
namespace Go.Sl
open Go
set_option linter.unusedVariables false
section
variable {P : Program} {W0 w : World} {L : List HProp} {ρ : Operand → Value} {d : Option Nat} {ty : TypeId} {pos : String} {af : Array Edge} {g : Option (Nat × Bool)}
theorem run_lookupOk {t kt et b : Nat} {q kd : IntKind} {k : Int} {x y : Operand} {z : Value} {kvs : List KV} {ck : Nat} (hb : w.heap[b]? = some (mapO kd kvs ck)) (hU : P.underlying t = some (.map kt et)) (hK : P.underlying kt = some (.int q)) (hZ : ∀ w, (zeroValue et).run P w = .ok z w) (hx : ρ x = .map (some b)) (hy : ρ y = .int kd k) :
    (execOp ρ ⟨d, .lookup t x y true, ty, pos, af, g⟩).run P w = .ok (.value (.tuple #[(lookM kvs k).getD z, .bool (lookM kvs k).isSome])) w := by
  have hf := findNow_ints (q := q) (kd := kd) (k := k) kvs 0
  have hl := lookM_idx kvs k
  have hgo : (getObj b).run P w = .ok (mapO kd kvs ck) w := MapKept.run_getObj_map (by exact hb)
  unfold mapO at hgo
  rw [hl]
  have hck : ∀ e, (Instr.checkKey e 10000 kt (.int kd k)).run P w = .ok () w := fun e => checkKey_int hK e 9999
  cases hfi : kvs.findIdx? fun x => x.1 == k with
  | none =>
    rw [hfi] at hf
    simp only [Option.bind_none] at hf ⊢
    simp [execOp, Instr.lookup, run_underlying hU, run_underlying hK, hx, hy, hgo, hck, Instr.findKey, hf, hZ]
  | some j =>
    rw [hfi] at hf
    have hj := (List.findIdx?_eq_some_iff_getElem.1 hfi).1
    have hg : kvs[j]? = some kvs[j] := by simp
    simp only [Option.bind_some, hg, Option.map_some] at hf ⊢
    simp [execOp, Instr.lookup, run_underlying hU, run_underlying hK, hx, hy, hgo, hck, Instr.findKey, hf]
theorem run_lookupOkV {t kt et b : Nat} {q kd : IntKind} {k : Int} {x y : Operand} {z v : Value} {o : Bool} {kvs : List KV} {ck : Nat} (hb : w.heap[b]? = some (mapO kd kvs ck)) (hU : P.underlying t = some (.map kt et)) (hK : P.underlying kt = some (.int q)) (hZ : ∀ w, (zeroValue et).run P w = .ok z w) (hx : ρ x = .map (some b)) (hy : ρ y = .int kd k)
    (hv : (lookM kvs k).getD z = v) (ho : (lookM kvs k).isSome = o) : (execOp ρ ⟨d, .lookup t x y true, ty, pos, af, g⟩).run P w = .ok (.value (.tuple #[v, .bool o])) w := by rw [← hv, ← ho]; exact run_lookupOk hb hU hK hZ hx hy
theorem run_lenMap {t kt et b n : Nat} {kd : IntKind} {x : Operand} {kvs : List KV} {ck : Nat} {tys : Array TypeId} (hb : w.heap[b]? = some (mapO kd kvs ck)) (ht : tys[0]? = some t) (hU : P.underlying t = some (.map kt et)) (hx : ρ x = .map (some b)) (hn : kvs.length = n) :
    (execOp ρ ⟨d, .call { callee := .builtin .len, args := #[x], argTypes := tys }, ty, pos, af, g⟩).run P w = .ok (.value (.int .i64 (n : Int))) w := by
  subst hn
  have hgo : (getObj b).run P w = .ok (mapO kd kvs ck) w := MapKept.run_getObj_map (by exact hb)
  unfold mapO at hgo
  simp [execOp, resolve, invoke, builtin, hx, Builtin.len_, ht, run_underlying hU, hgo, goInt]
theorem run_indexArrN {t e n size : Nat} {x y : Operand} {k : IntKind} {i : Nat} {cs vs : List Value} (hU : P.underlying t = some (.array n e)) (hS : ∀ w, (sizeOf e).run P w = .ok size w) (hA : ∀ w, (isAgg e).run P w = .ok true w)
    (hx : ρ x = .agg cs.toArray) (hy : ρ y = .int k (i : Int)) (h1 : i < n) (hv : (cs.drop (i * size)).take size = vs) : (execOp ρ ⟨d, .index t x y, ty, pos, af, g⟩).run P w = .ok (.value (.agg vs.toArray)) w := by
  simp [execOp, Instr.index, run_underlying hU, hx, hy, asIntOf, hS, h1, part, hA, hv]
end
section
variable {kvs : List KV} {seen : Array Nat}
theorem rem_inM {e : KV} (h : e ∈ remM kvs seen) : e ∈ kvs := (List.mem_filter.1 h).1
theorem contains_pushM {a b : Nat} : (seen.push a).contains b = (seen.contains b || b == a) := by
  rw [Bool.eq_iff_iff]
  simp [Array.contains_iff_mem, Array.mem_push]
theorem remM_less {e : KV} (h : e ∈ remM kvs seen) : (remM kvs (seen.push e.2.2)).length < (remM kvs seen).length := by
  have e1 : remM kvs (seen.push e.2.2) = (remM kvs seen).filter fun x => !(x.2.2 == e.2.2) := by
    unfold remM
    rw [List.filter_filter]
    refine List.filter_congr fun x _ => ?_
    rw [contains_pushM, Bool.not_or, Bool.and_comm]
  rw [e1]
  exact List.length_filter_lt_length_iff_exists.2 ⟨e, h, by simp⟩
theorem rem_allM (h : remM kvs seen = []) {x : KV} (hx : x ∈ kvs) : seen.contains x.2.2 = true := by
  have := List.filter_eq_nil_iff.1 h x hx
  simpa using this
end
end Go.Sl
/-
  Commands by their numbers, as plain data: what was done is kept, in whatever order. No program is named here.
-/
namespace Go.Sl.UnM
open Go Go.Sl Go.Sl.BitM Go.Sl.SpM Go.Sl.RsM Go.Sl.ByM
set_option linter.unusedVariables false
set_option linter.unusedSimpArgs false
def keepM (D : List (Int × Rp)) (fl : Int) : List (Int × Rp) := D.filter fun x => decide (fl ≤ x.1)
def lookD (D : List (Int × Rp)) (id : Int) : Option Rp := (D.find? fun x => x.1 == id).map (·.2)
def okK (kvs : List KV) (fl : Int) (seen : Array Nat) (ks : List KV) : Prop :=
  (∀ x ∈ ks, ∃ y ∈ kvs, y.1 = x.1 ∧ y.2.1 = x.2.1 ∧ seen.contains y.2.2 = true ∧ fl ≤ y.1) ∧ ∀ y ∈ kvs, seen.contains y.2.2 = true → fl ≤ y.1 → ∃ x ∈ ks, x.1 = y.1
section
variable {W0 w : World} {L : List HProp} {pool : PoolL} {D : List (Int × Rp)} {kvs ks : List KV} {fl id : Int} {seen : Array Nat} {ck : Nat}
theorem okK_start : okK kvs fl #[] [] := ⟨fun x hx => (by cases hx), fun y _ h => (by simp at h)⟩
theorem born_eq {kvs : List KV} (h : (kvs.map (·.2.2)).Nodup) {x y : KV} (hx : x ∈ kvs) (hy : y ∈ kvs) (e : x.2.2 = y.2.2) : x = y := by
  induction kvs with
  | nil => cases hx
  | cons z l ih =>
    rw [List.map_cons, List.nodup_cons] at h
    rcases List.mem_cons.1 hx with h1 | h1
    · rcases List.mem_cons.1 hy with h2 | h2
      · rw [h1, h2]
      · exact (h.1 (List.mem_map.2 ⟨y, h2, by rw [← e, h1]⟩)).elim
    · rcases List.mem_cons.1 hy with h2 | h2
      · exact (h.1 (List.mem_map.2 ⟨x, h1, by rw [e, h2]⟩)).elim
      · exact ih h.2 h1 h2
theorem okK_skip (H : okK kvs fl seen ks) (hf : (kvs.map (·.2.2)).Nodup) {e : KV} (he : e ∈ kvs) (hlt : ¬ fl ≤ e.1) : okK kvs fl (seen.push e.2.2) ks := by
  refine ⟨fun x hx => ?_, fun y hy hs hfl => ?_⟩
  · obtain ⟨y, hy, h1, h2, h3, h4⟩ := H.1 x hx
    exact ⟨y, hy, h1, h2, by rw [contains_pushM, h3]; rfl, h4⟩
  · rw [contains_pushM, Bool.or_eq_true] at hs
    rcases hs with hs | hs
    · exact H.2 y hy hs hfl
    · have := born_eq hf hy he (by simpa using hs)
      subst this
      exact absurd hfl hlt
theorem mem_putM {k : Int} {v : Value} {x : KV} (h : x ∈ putM ks k v ck) : (x.1 = k ∧ x.2.1 = v) ∨ (x ∈ ks ∧ x.1 ≠ k) := by
  unfold putM at h
  split at h
  · obtain ⟨y, hy, rfl⟩ := List.mem_map.1 h
    split
    · exact .inl ⟨rfl, rfl⟩
    · rename_i hne; exact .inr ⟨hy, hne⟩
  · rename_i hno
    rcases List.mem_append.1 h with h | h
    · refine .inr ⟨h, fun e => hno ?_⟩
      exact List.any_eq_true.2 ⟨x, h, by simp [e]⟩
    · simp at h; subst h; exact .inl ⟨rfl, rfl⟩
theorem putM_key {k : Int} {v : Value} : ∃ x ∈ putM ks k v ck, x.1 = k := by
  unfold putM
  split
  · rename_i h
    obtain ⟨y, hy, he⟩ := List.any_eq_true.1 h
    have he : y.1 = k := by simpa using he
    exact ⟨(k, v, y.2.2), List.mem_map.2 ⟨y, hy, by rw [if_pos he]⟩, rfl⟩
  · exact ⟨(k, v, ck), List.mem_append.2 (.inr (by simp)), rfl⟩
theorem putM_old {k : Int} {v : Value} {y : KV} (h : y ∈ ks) : ∃ x ∈ putM ks k v ck, x.1 = y.1 := by
  unfold putM
  split
  · by_cases e : y.1 = k
    · exact ⟨(k, v, y.2.2), List.mem_map.2 ⟨y, h, by rw [if_pos e]⟩, e.symm⟩
    · exact ⟨y, List.mem_map.2 ⟨y, h, by rw [if_neg e]⟩, rfl⟩
  · exact ⟨y, List.mem_append.2 (.inl h), rfl⟩
theorem okK_put (H : okK kvs fl seen ks) (hf : (kvs.map (·.2.2)).Nodup) {e : KV} (he : e ∈ kvs) (hle : fl ≤ e.1) : okK kvs fl (seen.push e.2.2) (putM ks e.1 e.2.1 ck) := by
  refine ⟨fun x hx => ?_, fun y hy hs hfl => ?_⟩
  · rcases mem_putM hx with ⟨h1, h2⟩ | ⟨hx, _⟩
    · exact ⟨e, he, h1.symm, h2.symm, by rw [contains_pushM]; simp, hle⟩
    · obtain ⟨y, hy, h1, h2, h3, h4⟩ := H.1 x hx
      exact ⟨y, hy, h1, h2, by rw [contains_pushM, h3]; rfl, h4⟩
  · rw [contains_pushM, Bool.or_eq_true] at hs
    rcases hs with hs | hs
    · obtain ⟨x, hx, h1⟩ := H.2 y hy hs hfl
      obtain ⟨z, hz, h2⟩ := putM_old (ck := ck) (k := e.1) (v := e.2.1) hx
      exact ⟨z, hz, by rw [h2, h1]⟩
    · have := born_eq hf hy he (by simpa using hs)
      subst this
      exact putM_key
theorem keep_nodup (h : (D.map (·.1)).Nodup) : ((keepM D fl).map (·.1)).Nodup := (List.filter_sublist.map _).nodup h
theorem okK_end (h : okD pool D kvs) (H : okK kvs fl seen ks) (hr : remM kvs seen = []) (hn : (ks.map (·.1)).Nodup) : okD pool (keepM D fl) ks := by
  obtain ⟨h1, h2, h3⟩ := h
  refine ⟨(List.perm_ext_iff_of_nodup hn (keep_nodup h2)).2 fun k => ⟨fun hk => ?_, fun hk => ?_⟩, keep_nodup h2, fun x hx => ?_⟩
  · obtain ⟨x, hx, rfl⟩ := List.mem_map.1 hk
    obtain ⟨y, hy, e1, e2, e3, e4⟩ := H.1 x hx
    obtain ⟨r, dv, hr, _⟩ := h3 y hy
    exact List.mem_map.2 ⟨(y.1, r), List.mem_filter.2 ⟨hr, by simpa using e4⟩, e1⟩
  · obtain ⟨p, hp, rfl⟩ := List.mem_map.1 hk
    obtain ⟨hp1, hp2⟩ := List.mem_filter.1 hp
    have : p.1 ∈ kvs.map (·.1) := h1.mem_iff.2 (List.mem_map.2 ⟨p, hp1, rfl⟩)
    obtain ⟨y, hy, e⟩ := List.mem_map.1 this
    obtain ⟨x, hx, e2⟩ := H.2 y hy (rem_allM hr hy) (by rw [e]; simpa using hp2)
    exact List.mem_map.2 ⟨x, hx, by rw [e2, e]⟩
  · obtain ⟨y, hy, e1, e2, e3, e4⟩ := H.1 x hx
    obtain ⟨r, dv, hr1, hr2, hr3⟩ := h3 y hy
    exact ⟨r, dv, List.mem_filter.2 ⟨by rw [← e1]; exact hr1, by rw [← e1]; simpa using e4⟩, by rw [← e2, hr2], hr3⟩
theorem lookD_mem {r : Rp} : ∀ {D : List (Int × Rp)}, (D.map (·.1)).Nodup → (id, r) ∈ D → lookD D id = some r
  | [], _, h => by cases h
  | p :: D, hn, h => by
    rw [List.map_cons, List.nodup_cons] at hn
    unfold lookD
    rw [List.find?_cons]
    rcases List.mem_cons.1 h with rfl | h
    · simp
    · have hne : (p.1 == id) = false := by
        simpa using fun e : p.1 = id => hn.1 (List.mem_map.2 ⟨(id, r), h, e.symm⟩)
      rw [hne]
      exact lookD_mem hn.2 h
theorem lookD_none (h : id ∉ D.map (·.1)) : lookD D id = none := by
  unfold lookD
  rw [List.find?_eq_none.2 (fun x hx => by simpa using fun e : x.1 = id => h (List.mem_map.2 ⟨x, hx, e⟩))]
  rfl
theorem look_ok (h : okD pool D kvs) (id : Int) : (∃ r dv, lookD D id = some r ∧ lookM kvs id = some (r.val dv) ∧ (dv, r.data) ∈ pool) ∨ (lookD D id = none ∧ lookM kvs id = none ∧ id ∉ D.map (·.1)) := by
  obtain ⟨h1, h2, h3⟩ := h
  unfold lookM
  cases hf : kvs.find? fun x => x.1 == id with
  | none =>
    have hno : id ∉ D.map (·.1) := fun hm => by
      obtain ⟨x, hx, e⟩ := List.mem_map.1 (h1.mem_iff.2 hm)
      have := List.find?_eq_none.1 hf x hx
      simp [e] at this
    exact .inr ⟨lookD_none hno, rfl, hno⟩
  | some x =>
    have hx := List.mem_of_find?_eq_some hf
    have he : x.1 = id := by simpa using List.find?_some hf
    obtain ⟨r, dv, hr1, hr2, hr3⟩ := h3 x hx
    rw [he] at hr1
    exact .inl ⟨r, dv, lookD_mem h2 hr1, by rw [Option.map_some, hr2], hr3⟩
theorem okD_more {p : Value × List UInt8} (h : okD pool D kvs) : okD (p :: pool) D kvs := by
  obtain ⟨h1, h2, h3⟩ := h
  refine ⟨h1, h2, fun x hx => ?_⟩
  obtain ⟨r, dv, hr1, hr2, hr3⟩ := h3 x hx
  exact ⟨r, dv, hr1, hr2, List.mem_cons_of_mem _ hr3⟩
theorem okD_put {r : Rp} {dv : Value} (h : okD pool D kvs) (hno : id ∉ D.map (·.1)) : okD ((dv, r.data) :: pool) (D ++ [(id, r)]) (putM kvs id (r.val dv) ck) := by
  obtain ⟨h1, h2, h3⟩ := h
  have hk : ¬ kvs.any (fun x => x.1 == id) = true := fun ha => by
    obtain ⟨x, hx, he⟩ := List.any_eq_true.1 ha
    exact hno (h1.mem_iff.1 (List.mem_map.2 ⟨x, hx, by simpa using he⟩))
  have e : putM kvs id (r.val dv) ck = kvs ++ [(id, r.val dv, ck)] := by unfold putM; rw [if_neg hk]
  rw [e]
  refine ⟨by rw [List.map_append, List.map_append]; exact h1.append_right _, ?_, fun x hx => ?_⟩
  · rw [List.map_append]
    refine List.nodup_append.2 ⟨h2, by simp, ?_⟩
    intro a ha b hb
    simp at hb
    subst hb
    rintro rfl
    exact hno ha
  · rcases List.mem_append.1 hx with hx | hx
    · obtain ⟨r', dv', hr1, hr2, hr3⟩ := h3 x hx
      exact ⟨r', dv', List.mem_append.2 (.inl hr1), hr2, List.mem_cons_of_mem _ hr3⟩
    · simp at hx
      subst hx
      exact ⟨r, dv, List.mem_append.2 (.inr (by simp)), rfl, List.mem_cons_self ..⟩
theorem okD_putIn {r : Rp} {dv : Value} (h : okD pool D kvs) (hp : (dv, r.data) ∈ pool) (hno : id ∉ D.map (·.1)) : okD pool (D ++ [(id, r)]) (putM kvs id (r.val dv) ck) := by
  obtain ⟨h1, h2, h3⟩ := okD_put (ck := ck) (r := r) (dv := dv) h hno
  refine ⟨h1, h2, fun x hx => ?_⟩
  obtain ⟨r', dv', hr1, hr2, hr3⟩ := h3 x hx
  refine ⟨r', dv', hr1, hr2, ?_⟩
  rcases List.mem_cons.1 hr3 with e | e
  · rw [e]; exact hp
  · exact e
theorem big_mono {α : Type} {A B : α → HProp} (h : ∀ x hh, A x hh → B x hh) : ∀ (l : List α) (hh : Hp), Big A l hh → Big B l hh
  | [], _, _ => trivial
  | x :: l, hh, H => by
    obtain ⟨h1, h2, d, s1, s2, a, r⟩ := H
    exact ⟨h1, h2, d, s1, s2, h x h1 a, big_mono h l h2 r⟩
theorem GOwn_more {p : Value × List UInt8} {g : GX} {hh : Hp} (h : GOwn pool g hh) : GOwn (p :: pool) g hh := ⟨okD_more h.1, h.2⟩
theorem UnP_more {TU TS TT bu : Nat} {ms : List Nat} {u : Un} {p : Value × List UInt8} (H : On W0 (UnP TU TS TT bu pool ms u :: L) w) : On W0 (UnP TU TS TT bu (p :: pool) ms u :: L) w := by
  obtain ⟨bs, bt, gs, hm, hl, H⟩ := openU H
  have H1 : On W0 (Big (GOwn pool) gs :: blk bu (ucells bs bt gs) TU :: SpP TS bs u.s :: blk bt u.t.cells TT :: L) w := H.to
  have H2 : On W0 (Big (GOwn (p :: pool)) gs :: blk bu (ucells bs bt gs) TU :: SpP TS bs u.s :: blk bt u.t.cells TT :: L) w := H1.head (big_mono (fun x hh => GOwn_more) gs)
  have H3 : On W0 (blk bu (ucells bs bt gs) TU :: SpP TS bs u.s :: blk bt u.t.cells TT :: Big (GOwn (p :: pool)) gs :: L) w := H2.to
  exact closeU hm hl H3
/-- What a command leaves as it was. -/
def kept (u u' : Un) : Prop := u'.g.length = u.g.length ∧ (∀ j, j < 8 → (u'.guest j).floor = (u.guest j).floor ∧ (u'.guest j).done = (u.guest j).done) ∧ ∀ k, small k u → small (k + 1) u'
theorem small_le {u : Un} {k m : Nat} (h : small k u) (hk : k ≤ m) : small m u := fun i hi => Nat.le_trans (h i hi) hk
theorem tellM_len (l : List Int) (x : Int) : (tellM l x).length ≤ l.length + 1 := by
  unfold tellM
  split
  · omega
  · simp
theorem kept_refl {u : Un} : kept u u := ⟨rfl, fun _ _ => ⟨rfl, rfl⟩, fun k h => small_le h (by omega)⟩
theorem kept_setS {u : Un} {s : Sp} : kept u (u.setS s) := ⟨rfl, fun _ _ => ⟨rfl, rfl⟩, fun k h => small_le h (by omega)⟩
theorem kept_pop {u : Un} {i : Nat} (h8 : u.g.length = 8) (hi : i < 8) : kept u (u.putG i (u.guest i).pop) := by
  refine ⟨by show (u.g.set i _).length = _; rw [List.length_set], fun j hj => ?_, fun k h j hj => ?_⟩
  · by_cases e : i = j
    · subst e; rw [guest_put h8 hi]; exact ⟨rfl, rfl⟩
    · rw [guest_other e]; exact ⟨rfl, rfl⟩
  · by_cases e : i = j
    · subst e; rw [guest_put h8 hi]
      show ((u.guest i).codes.drop 1).length ≤ _
      have := h i hi
      rw [List.length_drop]; omega
    · rw [guest_other e]; have := h j hj; omega
theorem kept_reset {u : Un} (h8 : u.g.length = 8) : kept u (resetN u 8) := by
  refine ⟨by rw [resetN_len h8, h8], fun j hj => ?_, fun k h j hj => ?_⟩
  · rw [resetN_done h8 8 hj (Nat.le_refl _)]; exact ⟨rfl, rfl⟩
  · rw [resetN_done h8 8 hj (Nat.le_refl _)]
    have := h j hj
    have := tellM_len (u.guest j).codes 10499
    show (tellM _ _).length ≤ _
    omega
theorem notM_len {u : Un} {code : Int} (h8 : u.g.length = 8) : ∀ l : List Nat, (notM u code l).g.length = 8 := fun l => by
  induction l generalizing u with
  | nil => exact h8
  | cons n l ih => exact ih (tell_len h8)
theorem tell_keeps {u : Un} {n : Nat} {x : Int} (h8 : u.g.length = 8) : ∀ j, j < 8 → ((u.tell n x).guest j).floor = (u.guest j).floor ∧ ((u.tell n x).guest j).done = (u.guest j).done := fun j hj => by
  unfold Un.tell
  by_cases e : n = j
  · subst e; rw [guest_put h8 hj]; exact ⟨rfl, rfl⟩
  · rw [guest_other e]; exact ⟨rfl, rfl⟩
theorem notM_keeps {code : Int} : ∀ (l : List Nat) {u : Un}, u.g.length = 8 → ∀ j, j < 8 → ((notM u code l).guest j).floor = (u.guest j).floor ∧ ((notM u code l).guest j).done = (u.guest j).done
  | [], u, _, j, _ => ⟨rfl, rfl⟩
  | n :: l, u, h8, j, hj => by
    have h1 := notM_keeps (code := code) l (u := u.tell n code) (tell_len h8) j hj
    have h2 := tell_keeps (n := n) (x := code) h8 j hj
    exact ⟨h1.1.trans h2.1, h1.2.trans h2.2⟩
theorem notM_out {code : Int} : ∀ (l : List Nat) {u : Un} {j : Nat}, j ∉ l → (notM u code l).guest j = u.guest j
  | [], u, _, _ => rfl
  | n :: l, u, j, h => by
    rw [List.mem_cons, not_or] at h
    have h1 := notM_out (code := code) l (u := u.tell n code) h.2
    refine h1.trans ?_
    unfold Un.tell
    exact guest_other (fun e => h.1 e.symm)
theorem notM_in {code : Int} : ∀ (l : List Nat) {u : Un} {j : Nat}, u.g.length = 8 → l.Nodup → j ∈ l → j < 8 → (notM u code l).guest j = (u.guest j).tell code
  | [], u, j, _, _, h, _ => by cases h
  | n :: l, u, j, h8, hn, h, hj => by
    rw [List.nodup_cons] at hn
    by_cases e : n = j
    · subst e
      refine (notM_out l (u := u.tell n code) hn.1).trans ?_
      unfold Un.tell
      exact guest_put h8 hj
    · have hm : j ∈ l := by rcases List.mem_cons.1 h with h | h; exact absurd h.symm e; exact h
      refine (notM_in l (u := u.tell n code) (tell_len h8) hn.2 hm hj).trans ?_
      unfold Un.tell
      rw [guest_other e]
theorem notM_s {code : Int} : ∀ (l : List Nat) {u : Un}, (notM u code l).s = u.s ∧ (notM u code l).t = u.t
  | [], u => ⟨rfl, rfl⟩
  | n :: l, u => notM_s l (u := u.tell n code)
theorem hosts_nodup {K : Nat → Int} {h : Int} {p : Int → Bool} {n : Nat} : (hostsN K h p n).Nodup := List.nodup_range.filter _
theorem told_nodup {t : Tb} {h : Int} : (t.told h).Nodup := by
  unfold Tb.told
  split
  · exact hosts_nodup
  · exact List.nodup_nil
theorem told_lt {t : Tb} {h : Int} : ∀ j ∈ t.told h, j < 8 := fun j hj => by
  unfold Tb.told at hj
  split at hj
  · exact (hostsN_mem.1 hj).1
  · cases hj
def okL (v : Rv) : Prop := v.l.Nodup ∧ (∀ j ∈ v.l, j < 8) ∧ (v.l ≠ [] → 0 ≤ v.code ∧ v.code < 65536) ∧ v.l.length ≤ 8
theorem okL_of {t : Tb} {r : Rp} {l : List Nat} {code : Int} (h1 : l.Nodup) (h2 : ∀ j ∈ l, j < 8) (h3 : 0 ≤ code ∧ code < 65536) (h4 : l.length ≤ 8) : okL ⟨t, r, l, code⟩ := ⟨h1, h2, fun _ => h3, h4⟩
theorem okL_no {t : Tb} {r : Rp} {code : Int} : okL ⟨t, r, [], code⟩ := ⟨List.nodup_nil, fun j hj => (by cases hj), fun h => absurd rfl h, Nat.zero_le _⟩
theorem hosts_lt {K : Nat → Int} {h : Int} {p : Int → Bool} {n : Nat} : ∀ j ∈ hostsN K h p n, j < n := fun j hj => (hostsN_mem.1 hj).1
theorem regF_l {t : Tb} {i : Nat} {key fresh : Int} {ign : Bool} : okL (regF t i key fresh ign) := by
  unfold regF
  split
  · unfold regO
    split
    · exact okL_of told_nodup told_lt ⟨by decide, by decide⟩ told_len
    · exact okL_no
  · exact okL_no
theorem rvM_l {t : Tb} {i : Nat} {c : Cm} : okL (rvM t i c) := by
  unfold rvM
  split
  · exact regF_l
  split
  · exact regF_l
  split
  · unfold rsvF
    repeat' split
    all_goals exact okL_no
  split
  · unfold relF
    repeat' split
    all_goals first
      | exact okL_no
      | exact okL_of told_nodup told_lt ⟨by decide, by decide⟩ told_len
  split
  · unfold clrF
    split
    · exact okL_no
    · exact okL_of hosts_nodup hosts_lt ⟨by decide, by decide⟩ (hostsN_len ..)
  · unfold preF
    repeat' split
    all_goals first
      | exact okL_no
      | exact okL_of (show (preL _ _ _).Nodup from hosts_nodup) (show ∀ j ∈ preL _ _ _, j < 8 from hosts_lt) ⟨by decide, by decide⟩ (show (preL _ _ _).length ≤ 8 from hostsN_len ..)
theorem rvM_r {t : Tb} {i : Nat} {c : Cm} : (rvM t i c).r.data = [] := by
  have hreg : ∀ key fresh ign, (regF t i key fresh ign).r.data = [] := fun key fresh ign => by unfold regF; split <;> rfl
  unfold rvM
  split
  · exact hreg _ _ _
  split
  · exact hreg _ _ _
  split
  · unfold rsvF; repeat' split
    all_goals rfl
  split
  · unfold relF; repeat' split
    all_goals rfl
  split
  · unfold clrF; split <;> rfl
  · unfold preF; repeat' split
    all_goals rfl
theorem kept_rv {u : Un} {i : Nat} {c : Cm} (h8 : u.g.length = 8) : kept u (resM u i c).1 := by
  unfold resM
  split
  · exact kept_refl
  split
  · exact kept_refl
  have hl := rvM_l (t := u.t) (i := i) (c := c)
  refine ⟨(notM_len (u := u.setT (rvM u.t i c).t) h8 _).trans h8.symm, fun j hj => notM_keeps _ (u := u.setT (rvM u.t i c).t) h8 j hj, fun k h j hj => ?_⟩
  by_cases hm : j ∈ (rvM u.t i c).l
  · rw [show (notM (u.setT (rvM u.t i c).t) (rvM u.t i c).code (rvM u.t i c).l).guest j = _ from notM_in _ (u := u.setT (rvM u.t i c).t) h8 hl.1 hm hj]
    have h1 := h j hj
    have h2 := tellM_len (u.guest j).codes (rvM u.t i c).code
    show (tellM _ _).length ≤ _
    exact Nat.le_trans h2 (by omega)
  · rw [show (notM (u.setT (rvM u.t i c).t) (rvM u.t i c).code (rvM u.t i c).l).guest j = _ from notM_out _ (u := u.setT (rvM u.t i c).t) hm]
    exact Nat.le_trans (h j hj) (by omega)
theorem keysN_len (K : Nat → Int) : ∀ n, (keysN K n).length ≤ n
  | 0 => Nat.le_refl _
  | n + 1 => by
    have := keysN_len K n
    unfold keysN
    rw [List.length_append]
    split
    · show _ + 0 ≤ _; omega
    · show _ + 1 ≤ _; omega
theorem flat8_len (l : List Int) : (l.flatMap fun k => be k.toNat 8).length = 8 * l.length := by
  induction l with
  | nil => rfl
  | cons x l ih => rw [List.flatMap_cons, List.length_append, be_length, ih, List.length_cons]; omega
theorem keysB_len (t : Tb) : (keysB t).length = 8 + 8 * (keysN t.K 8).length := by
  unfold keysB; rw [List.length_append, List.length_append, be_length, be_length, flat8_len]
theorem holdB_len (t : Tb) : (holdB t).length ≤ 24 := by
  unfold holdB
  split <;> simp only [List.length_append, be_length] <;> omega
theorem resM_dlen {u : Un} {i : Nat} {c : Cm} : (resM u i c).2.data.length ≤ 1000 := by
  unfold resM
  split
  · show (keysB _).length ≤ _; rw [keysB_len]; have := keysN_len u.t.K 8; omega
  split
  · exact Nat.le_trans (holdB_len _) (by omega)
  · show (rvM u.t i c).r.data.length ≤ _
    rw [rvM_r]; exact Nat.zero_le _
theorem kept_act {u : Un} {i : Nat} {c : Cm} (h8 : u.g.length = 8) : kept u (actM u i c).1 := by
  unfold actM
  split
  · exact kept_refl
  · split
    · exact kept_refl
    · split
      · exact kept_refl
      · split
        · exact kept_setS
        · split
          · exact kept_reset h8
          · exact kept_rv h8
theorem kept_do {u : Un} {hh : Int} {c : Cm} (h8 : u.g.length = 8) : kept u (doM u hh c).1 := by
  unfold doM
  split
  · exact kept_refl
  · rename_i hn
    have hh8 : hh.toNat < 8 := by
      cases hb : hostB hh with
      | false => exact absurd (.inl hb) hn
      | true => have := hostB_iff.1 hb; omega
    split
    · split
      · exact kept_refl
      · exact kept_pop h8 hh8
    · split
      · exact kept_pop h8 hh8
      · split
        · exact kept_refl
        · exact kept_act h8
theorem lookD_in {r : Rp} (h : lookD D id = some r) : (id, r) ∈ D := by
  unfold lookD at h
  cases hf : D.find? fun x => x.1 == id with
  | none => rw [hf] at h; cases h
  | some p =>
    rw [hf] at h
    have hp := List.mem_of_find?_eq_some hf
    have he : p.1 = id := by simpa using List.find?_some hf
    have hr : p.2 = r := by simpa using h
    rw [← he, ← hr]
    exact hp
theorem runM_len {s : Sp} {c : Cm} : (runM s c).2.data.length ≤ 1000 := by
  unfold runM
  split
  · rename_i hin
    unfold inS at hin
    split
    · show (partS s _ _).length ≤ _
      unfold partS
      rw [List.length_take]
      omega
    · split
      · split <;> exact Nat.zero_le _
      · split
        · exact Nat.zero_le _
        · split
          · split
            · unfold cmpM; split <;> exact Nat.zero_le _
            · exact Nat.zero_le _
          · exact Nat.zero_le _
  · exact Nat.zero_le _
theorem actM_dlen {u : Un} {i : Nat} {c : Cm} : (actM u i c).2.data.length ≤ 1000 := by
  unfold actM
  split
  · exact Nat.zero_le _
  · split
    · show inqB.length ≤ _; decide
    · split
      · show (capB _).length ≤ _; unfold capB; rw [List.length_append, be_length, be_length]; decide
      · split
        · exact runM_len
        · split
          · exact Nat.zero_le _
          · exact resM_dlen
theorem doM_dlen {u : Un} {hh : Int} {c : Cm} : (doM u hh c).2.data.length ≤ 1000 := by
  unfold doM
  split
  · exact Nat.zero_le _
  · split
    · split
      · show (senseB _ _).length ≤ _; rw [senseB_len]; decide
      · show (senseB _ _).length ≤ _; rw [senseB_len]; decide
    · split
      · exact Nat.zero_le _
      · split
        · exact Nat.zero_le _
        · exact actM_dlen
theorem rows_same {gs : List GX} {i : Nat} {g g' : GX} (h : gs[i]? = some g) (e : g'.row = g.row) : (gs.set i g').flatMap GX.row = gs.flatMap GX.row := by
  have hg : GX.row g = (g.row).set 0 (.slice g.a g.s.codes.length g.c) := rfl
  have := rows_set (g := g) (g' := g') (v := .slice g.a g.s.codes.length g.c) h (show 0 < 3 by decide) (by rw [e]; exact hg)
  rw [← this]
  have h2 := rows_set (g := g) (g' := g) (v := .slice g.a g.s.codes.length g.c) h (show 0 < 3 by decide) hg
  rw [h2, set_same h]
theorem mb_of {gs : List GX} {ms : List Nat} {i : Nat} {g : GX} (h : gs.map (·.mb) = ms) (hg : gs[i]? = some g) : ms[i]? = some g.mb := by rw [← h, List.getElem?_map, hg]; rfl
def Gs.setD (g : Gs) (fl : Int) (D : List (Int × Rp)) : Gs := { g with floor := fl, done := D }
def flM (g : Gs) (id floor : Int) : Int := max (min floor id) g.floor
def onceM (u : Un) (i : Nat) (id floor : Int) (c : Cm) : Un × Rp × Bool :=
  let g := u.guest i
  if id = 0 ∨ id < g.floor then (u, plain 8 0 0, false)
  else
    let fl := flM g id floor
    let kept := keepM g.done fl
    match lookD kept id with
    | some r => (u.putG i (g.setD fl kept), r, false)
    | none =>
      if 4 ≤ kept.length then (u, plain 8 0 0, false)
      else
        let p := doM (u.putG i (g.setD fl kept)) i c
        (p.1.putG i ((p.1.guest i).setD fl (kept ++ [(id, p.2)])), p.2, true)
section
variable {u : Un} {i : Nat} {c : Cm} {id floor : Int}
def onceG (u : Un) (i : Nat) (id floor : Int) : Gs := (u.guest i).setD (flM (u.guest i) id floor) (keepM (u.guest i).done (flM (u.guest i) id floor))
theorem once_busy (h : id = 0 ∨ id < (u.guest i).floor) : onceM u i id floor c = (u, plain 8 0 0, false) := by unfold onceM; simp only []; rw [if_pos h]
theorem once_old {r : Rp} (h : ¬ (id = 0 ∨ id < (u.guest i).floor)) (hl : lookD (keepM (u.guest i).done (flM (u.guest i) id floor)) id = some r) : onceM u i id floor c = (u.putG i (onceG u i id floor), r, false) := by
  unfold onceM; simp only []; rw [if_neg h, hl]; rfl
theorem once_full (h : ¬ (id = 0 ∨ id < (u.guest i).floor)) (hl : lookD (keepM (u.guest i).done (flM (u.guest i) id floor)) id = none) (h4 : 4 ≤ (keepM (u.guest i).done (flM (u.guest i) id floor)).length) : onceM u i id floor c = (u, plain 8 0 0, false) := by
  unfold onceM; simp only []; rw [if_neg h, hl]; simp only []; rw [if_pos h4]
theorem once_new {u' : Un} {r : Rp} (h : ¬ (id = 0 ∨ id < (u.guest i).floor)) (hl : lookD (keepM (u.guest i).done (flM (u.guest i) id floor)) id = none) (h4 : ¬ 4 ≤ (keepM (u.guest i).done (flM (u.guest i) id floor)).length) (hd : doM (u.putG i (onceG u i id floor)) i c = (u', r)) :
    onceM u i id floor c = (u'.putG i ((u'.guest i).setD (flM (u.guest i) id floor) (keepM (u.guest i).done (flM (u.guest i) id floor) ++ [(id, r)])), r, true) := by
  unfold onceM; simp only []; rw [if_neg h, hl]; simp only []; rw [if_neg h4]
  unfold onceG at hd
  rw [hd]
theorem setD_small {k : Nat} {fl : Int} {D : List (Int × Rp)} (h8 : u.g.length = 8) (hi : i < 8) (h : small k u) : small k (u.putG i ((u.guest i).setD fl D)) := fun j hj => by
  by_cases e : i = j
  · subst e; rw [guest_put h8 hi]; exact h i hi
  · rw [guest_other e]; exact h j hj
theorem setD_okC {fl : Int} {D : List (Int × Rp)} (h8 : u.g.length = 8) (hi : i < 8) (h : okC u) : okC (u.putG i ((u.guest i).setD fl D)) := fun j hj => by
  by_cases e : i = j
  · subst e; rw [guest_put h8 hi]; exact h i hi
  · rw [guest_other e]; exact h j hj
end
end
/-! ### Written -/
def partB (b v : List UInt8) : List UInt8 := b ++ be v.length 4 ++ v
def byteI (z : Int) : UInt8 := UInt8.ofNat (z % 256).toNat
def encTK (t : Tb) (k : Nat) : List UInt8 := be t.gen.toNat 4 ++ (List.range k).flatMap fun i => be (t.K i).toNat 8
def encT (t : Tb) : List UInt8 := encTK t 8 ++ [byteI t.hold, byteI t.typ]
def okT (t : Tb) : Prop := (∀ i, i < 8 → 0 ≤ t.K i ∧ t.K i < 18446744073709551616) ∧ 0 ≤ t.gen ∧ t.gen < 4294967296
theorem flat_len {f : Nat → List UInt8} {c : Nat} (h : ∀ i, (f i).length = c) : ∀ k, ((List.range k).flatMap f).length = k * c
  | 0 => by simp
  | k + 1 => by rw [List.range_succ, List.flatMap_append, List.length_append, flat_len h k, List.flatMap_cons, List.flatMap_nil, List.append_nil, h, Nat.succ_mul]
theorem encTK_len (t : Tb) (k : Nat) : (encTK t k).length = 4 + k * 8 := by unfold encTK; rw [List.length_append, be_length, flat_len (fun i => be_length ..)]
theorem encTK_succ (t : Tb) (k : Nat) : encTK t (k + 1) = encTK t k ++ be (t.K k).toNat 8 := by
  unfold encTK; rw [List.range_succ, List.flatMap_append, List.append_assoc, List.flatMap_cons, List.flatMap_nil, List.append_nil]
/-- One that was done. -/
def recB (x : Int × Rp) : List UInt8 := be x.1.toNat 8 ++ [byteI x.2.st, byteI x.2.key] ++ be x.2.code.toNat 2 ++ be x.2.info.toNat 4 ++ be x.2.data.length 4 ++ x.2.data
def codesB (l : List Int) (k : Nat) : List UInt8 := be l.length 2 ++ (l.take k).flatMap fun c => be c.toNat 2
def headB (g : Gs) : List UInt8 := codesB g.codes g.codes.length ++ be g.floor.toNat 8 ++ be g.done.length 2
def guestB (g : Gs) : List UInt8 := headB g ++ g.done.flatMap recB
def okR (r : Rp) : Prop := 0 ≤ r.st ∧ r.st < 256 ∧ 0 ≤ r.key ∧ r.key < 256 ∧ 0 ≤ r.code ∧ r.code < 65536 ∧ 0 ≤ r.info ∧ r.info < 4294967296 ∧ r.data.length ≤ 10000
def okG (g : Gs) : Prop := g.codes.length ≤ 10000 ∧ (∀ c ∈ g.codes, 0 ≤ c ∧ c < 65536) ∧ 0 ≤ g.floor ∧ g.floor < 18446744073709551616 ∧ ∀ x ∈ g.done, (0 ≤ x.1 ∧ x.1 < 18446744073709551616) ∧ okR x.2
theorem codesB_succ {l : List Int} {k : Nat} {c : Int} (h : l[k]? = some c) : codesB l (k + 1) = codesB l k ++ be c.toNat 2 := by
  unfold codesB; rw [List.take_add_one, h, List.flatMap_append, List.append_assoc]; simp
theorem codesB_len (l : List Int) : ∀ k, k ≤ l.length → (codesB l k).length = 2 + k * 2
  | 0, _ => by simp [codesB, be_length]
  | k + 1, h => by
    obtain ⟨c, hc⟩ : ∃ c, l[k]? = some c := ⟨l[k]'(by omega), by simp⟩
    rw [codesB_succ hc, List.length_append, codesB_len l k (by omega), be_length]; omega
theorem headB_len (g : Gs) : (headB g).length = 12 + g.codes.length * 2 := by
  unfold headB; rw [List.length_append, List.length_append, codesB_len _ _ (Nat.le_refl _), be_length, be_length]; omega
theorem recB_len {x : Int × Rp} (h : okR x.2) : (recB x).length ≤ 10020 := by
  unfold recB; simp only [List.length_append, be_length, List.length_cons, List.length_nil]
  have := h.2.2.2.2.2.2.2.2; omega
theorem one_rowU {l : List Value} {k : Nat} {v : Value} (h : l[k]? = some v) : (l.drop (k * 1)).take 1 = [v] := by
  have hlt := (List.getElem?_eq_some_iff.1 h).1
  have he := (List.getElem?_eq_some_iff.1 h).2
  rw [Nat.mul_one, List.drop_eq_getElem_cons hlt, List.take_succ_cons, List.take_zero, he]
theorem perm_one {α : Type} {l l' : List α} (h : l.Perm l') (h1 : l'.length ≤ 1) : l = l' := by
  match l', h1 with
  | [], _ => exact List.perm_nil.1 h
  | [x], _ => exact List.perm_singleton.1 h
theorem done_len {D : List (Int × Rp)} (h1 : D.length ≤ 1) (h : ∀ x ∈ D, okR x.2) (k : Nat) : ((D.take k).flatMap recB).length ≤ 10020 := by
  match D, h1, h with
  | [], _, _ => simp
  | [x], _, h =>
    cases k with
    | zero => simp
    | succ k =>
      rw [List.take_succ_cons, List.flatMap_cons, List.length_append]
      have := recB_len (h x (by simp))
      simp; omega
def encUK (u : Un) (s0 : List UInt8) : Nat → List UInt8
  | 0 => partB (partB [] s0) (encT u.t)
  | k + 1 => partB (encUK u s0 k) (guestB (u.guest k))
theorem guestB_len {g : Gs} (h : okG g) (h1 : g.done.length ≤ 1) : (guestB g).length ≤ 30100 := by
  unfold guestB
  rw [List.length_append, headB_len]
  have h2 := done_len h1 (fun x hx => (h.2.2.2.2 x hx).2) g.done.length
  rw [List.take_length] at h2
  have := h.1
  omega
theorem encUK_len {u : Un} {s0 : List UInt8} (h : ∀ i, i < 8 → okG (u.guest i) ∧ (u.guest i).done.length ≤ 1) : ∀ k, k ≤ 8 → (encUK u s0 k).length ≤ s0.length + 100 + k * 31000
  | 0, _ => by
    show (partB (partB [] s0) (encT u.t)).length ≤ _
    unfold partB encT
    simp only [List.length_append, be_length, encTK_len, List.length_cons, List.length_nil]
    omega
  | k + 1, hk => by
    have h1 := encUK_len (s0 := s0) h k (by omega)
    have h2 := guestB_len (h k (by omega)).1 (h k (by omega)).2
    show (partB (encUK u s0 k) (guestB (u.guest k))).length ≤ _
    generalize hq : encUK u s0 k = q at h1
    unfold partB
    simp only [List.length_append, be_length]
    omega
def encU (u : Un) (s0 : List UInt8) : List UInt8 := encUK u s0 8
end Go.Sl.UnM
/-
  A unit's commands, all kinds: what stays true of the table, of what waits. No program is named here.
-/
namespace Go.Sl.UnM
open Go Go.Sl Go.Sl.BitM Go.Sl.SpM Go.Sl.RsM Go.Sl.ByM
set_option linter.unusedVariables false
def kV (l : List Int) : List Value := l.map (Value.int .u64)
theorem kV_get {l : List Int} {k : Nat} {x : Int} (h : l[k]? = some x) : ((kV l).drop (k * 1)).take 1 = [.int .u64 x] := by
  have hlt := (List.getElem?_eq_some_iff.1 h).1
  have he := (List.getElem?_eq_some_iff.1 h).2
  unfold kV
  rw [Nat.mul_one, ← List.map_drop, ← List.map_take, List.drop_eq_getElem_cons hlt, List.take_succ_cons, List.take_zero, he]
  rfl
theorem kV_app (l m : List Int) : kV l ++ kV m = kV (l ++ m) := by unfold kV; rw [List.map_append]
def keysP (g n : Nat) (l : List Int) (k : Nat) : List UInt8 := be g 4 ++ be n 4 ++ (l.take k).flatMap fun k => be k.toNat 8
theorem keysP_len {g n : Nat} {l : List Int} {k : Nat} (h : k ≤ l.length) : (keysP g n l k).length = 8 + 8 * k := by
  unfold keysP; rw [List.length_append, List.length_append, be_length, be_length, flat8_len, List.length_take]; omega
theorem keysP_succ {g n : Nat} {l : List Int} {k : Nat} {x : Int} (h : l[k]? = some x) : keysP g n l k ++ be x.toNat 8 = keysP g n l (k + 1) := by
  unfold keysP; rw [List.take_add_one, h, List.flatMap_append, List.append_assoc]; simp
theorem keysP_zero {g n : Nat} {l : List Int} : keysP g n l 0 = be g 4 ++ be n 4 := by unfold keysP; simp
theorem keysP_all (t : Tb) : keysP t.gen.toNat (8 * (keysN t.K 8).length) (keysN t.K 8) (keysN t.K 8).length = keysB t := by
  unfold keysP keysB; rw [List.take_length]
theorem keysN_mem {K : Nat → Int} {x : Int} : ∀ {n : Nat}, x ∈ keysN K n → ∃ i, i < n ∧ x = K i
  | 0, h => by cases h
  | n + 1, h => by
    unfold keysN at h
    rcases List.mem_append.1 h with h | h
    · obtain ⟨i, hi, e⟩ := keysN_mem h
      exact ⟨i, by omega, e⟩
    · split at h
      · cases h
      · rw [List.mem_singleton] at h
        exact ⟨n, by omega, h⟩
theorem notM_snoc {u : Un} {code : Int} {l : List Nat} {i : Nat} : notM u code (l ++ [i]) = (notM u code l).tell i code := by unfold notM; rw [List.foldl_append]; rfl
theorem notM_take {u : Un} {code : Int} {l : List Nat} {k i : Nat} (h : l[k]? = some i) : (notM u code (l.take k)).tell i code = notM u code (l.take (k + 1)) := by
  rw [List.take_add_one, h, Option.toList_some, notM_snoc]
theorem tell_clen {u : Un} {n : Nat} {x : Int} {j : Nat} (h8 : u.g.length = 8) (hj : j < 8) : ((u.tell n x).guest j).codes.length ≤ (u.guest j).codes.length + 1 := by
  unfold Un.tell
  by_cases e : n = j
  · subst e; rw [guest_put h8 hj]; exact tellM_len _ _
  · rw [guest_other e]; omega
theorem notM_clen {code : Int} {j : Nat} (hj : j < 8) : ∀ (l : List Nat) {u : Un}, u.g.length = 8 → ((notM u code l).guest j).codes.length ≤ (u.guest j).codes.length + l.length
  | [], u, _ => Nat.le_refl _
  | n :: l, u, h8 => by
    have h1 := notM_clen (code := code) hj l (u := u.tell n code) (tell_len h8)
    have h2 := tell_clen (n := n) (x := code) h8 hj
    rw [List.length_cons]
    exact Nat.le_trans h1 (by omega)
/-! ### What stays true of a table -/
def goodT (t : Tb) : Prop := okT t ∧ RsM.inv t
def okCm (c : Cm) : Prop := (0 ≤ c.key ∧ c.key < 18446744073709551616) ∧ 0 ≤ c.new ∧ c.new < 18446744073709551616
theorem okT_inc {t : Tb} (h : okT t) : okT t.inc := by
  obtain ⟨h1, h2, h3⟩ := h
  refine ⟨h1, ?_⟩
  show 0 ≤ IntKind.u32.wrap (t.gen + 1) ∧ IntKind.u32.wrap (t.gen + 1) < 4294967296
  have e : IntKind.wrap .u32 (t.gen + 1) = (t.gen + 1) % 4294967296 := by simp [IntKind.wrap, IntKind.signed, IntKind.bits]
  rw [e]
  omega
theorem okT_put {t : Tb} {i : Nat} {x : Int} (h : okT t) (hx : 0 ≤ x ∧ x < 18446744073709551616) : okT (t.put i x) := by
  obtain ⟨h1, h2⟩ := h
  refine ⟨fun j hj => ?_, h2⟩
  show 0 ≤ (if j = i then x else t.K j) ∧ (if j = i then x else t.K j) < _
  split
  · exact hx
  · exact h1 j hj
theorem okT_freed {t : Tb} (h : okT t) : okT t.freed := h
theorem okT_take {t : Tb} {h_ y : Int} (h : okT t) : okT (t.take h_ y) := h
theorem okT_cleared {t : Tb} (h : okT t) : okT t.cleared := ⟨fun i hi => ⟨Int.le_refl 0, by show (0 : Int) < _; decide⟩, (okT_inc h).2⟩
theorem okT_zer {t : Tb} {l : List Nat} (h : okT t) : okT (zer t l) := by
  obtain ⟨h1, h2⟩ := h
  refine ⟨fun j hj => ?_, h2⟩
  show 0 ≤ (if j ∈ l then (0 : Int) else t.K j) ∧ (if j ∈ l then (0 : Int) else t.K j) < _
  split
  · exact ⟨Int.le_refl 0, by decide⟩
  · exact h1 j hj
theorem okKB_ok {t : Tb} {i : Nat} {key : Int} (hi : i < 8) (h : okKB t i key = true) : okM t i key := by
  unfold okKB at h
  rw [Bool.and_eq_true, Bool.not_eq_true', decide_eq_false_iff_not, decide_eq_true_eq] at h
  exact ⟨i, rfl, hi, h.1, h.2⟩
theorem goodT_reg {t : Tb} {i : Nat} {key fresh : Int} {ign : Bool} (hi : i < 8) (h : goodT t) (hf : 0 ≤ fresh ∧ fresh < 18446744073709551616) : goodT (regF t i key fresh ign).t := by
  unfold regF
  split
  · refine ⟨?_, inv_reg h.2 hi⟩
    show okT (regO t i fresh).2
    unfold regO
    split
    · exact okT_put (okT_freed (okT_inc h.1)) hf
    · exact okT_put (okT_inc h.1) hf
  · exact h
theorem goodT_rv {t : Tb} {i : Nat} {c : Cm} (hi : i < 8) (h : goodT t) (hc : okCm c) : goodT (rvM t i c).t := by
  unfold rvM
  split
  · exact goodT_reg hi h hc.2
  split
  · exact goodT_reg hi h hc.2
  split
  · unfold rsvF
    split
    · exact h
    · rename_i ho
      split
      · exact h
      · rename_i hty
        split
        · exact ⟨okT_take h.1, inv_take (okKB_ok hi (by simpa using ho)) (by simpa using hty)⟩
        · split <;> exact h
  split
  · unfold relF
    repeat' split
    all_goals first
      | exact h
      | exact ⟨okT_freed h.1, inv_freed⟩
  split
  · unfold clrF
    split
    · exact h
    · exact ⟨okT_cleared h.1, inv_cleared⟩
  · unfold preF
    split
    · exact h
    · rename_i ho
      split
      · exact h
      · rename_i h0
        split
        · exact h
        · rename_i hl
          split
          · exact h
          · rename_i hty
            refine ⟨?_, inv_pre h.2 ⟨okKB_ok hi (by simpa using ho), h0, hl, fun htk => ?_⟩⟩
            · show okT (zer (preT0 t i c.new c.typ) _)
              refine okT_zer ?_
              unfold preT0
              split
              · exact okT_inc (okT_take h.1)
              · exact okT_inc h.1
            · cases hb : typedB c.typ with
              | true => rfl
              | false => exact absurd ⟨htk, hb⟩ hty
theorem goodT_typ {t : Tb} (h : goodT t) : 0 ≤ t.typ ∧ t.typ < 16 := by
  rcases h.2 with ⟨_, h2⟩ | ⟨_, _, _, h2⟩
  · omega
  · have := typedB_iff.1 h2; omega
theorem goodT_hold {t : Tb} (h : goodT t) : t.hold = -1 ∨ (0 ≤ t.hold ∧ t.hold < 8) := inv_hold h.2
/-! ### What stays true of a unit -/
def goodU (u : Un) : Prop := goodT u.t ∧ okC u
theorem okC_tell {u : Un} {n : Nat} {x : Int} (h8 : u.g.length = 8) (h : okC u) (hx : 0 ≤ x ∧ x < 65536) : okC (u.tell n x) := fun j hj c hc => by
  unfold Un.tell at hc
  by_cases e : n = j
  · subst e
    rw [guest_put h8 hj] at hc
    have hc : c ∈ tellM (u.guest n).codes x := hc
    unfold tellM at hc
    split at hc
    · exact h n hj c hc
    · rcases List.mem_append.1 hc with hc | hc
      · exact h n hj c hc
      · rw [List.mem_singleton] at hc; subst hc; exact hx
  · rw [guest_other e] at hc
    exact h j hj c hc
theorem okC_not {code : Int} : ∀ (l : List Nat) {u : Un}, u.g.length = 8 → okC u → (l ≠ [] → 0 ≤ code ∧ code < 65536) → okC (notM u code l)
  | [], u, _, h, _ => h
  | n :: l, u, h8, h, hx => okC_not l (u := u.tell n code) (tell_len h8) (okC_tell h8 h (hx (by simp))) (fun _ => hx (by simp))
theorem okC_reset {u : Un} (h8 : u.g.length = 8) (h : okC u) : ∀ n, okC (resetN u n)
  | 0 => h
  | n + 1 => okC_tell (resetN_len h8 n) (okC_reset h8 h n) (by decide)
theorem okC_pop {u : Un} {i : Nat} (h8 : u.g.length = 8) (h : okC u) : okC (u.putG i (u.guest i).pop) := fun j hj c hc => by
  by_cases e : i = j
  · subst e
    rw [guest_put h8 hj] at hc
    exact h i hj c (List.mem_of_mem_drop hc)
  · rw [guest_other e] at hc
    exact h j hj c hc
theorem resetN_ts (u : Un) : ∀ n, (resetN u n).t = u.t ∧ (resetN u n).s = u.s
  | 0 => ⟨rfl, rfl⟩
  | n + 1 => resetN_ts u n
theorem goodU_act {u : Un} {i : Nat} {c : Cm} (h8 : u.g.length = 8) (hi : i < 8) (h : goodU u) (hc : okCm c) : goodU (actM u i c).1 := by
  unfold actM
  split
  · exact h
  split
  · exact h
  split
  · exact h
  split
  · exact h
  split
  · refine ⟨?_, okC_reset h8 h.2 8⟩
    show goodT (resetN u 8).t
    rw [(resetN_ts u 8).1]; exact h.1
  · unfold resM
    split
    · exact h
    split
    · exact h
    refine ⟨?_, okC_not _ (u := u.setT (rvM u.t i c).t) h8 h.2 rvM_l.2.2.1⟩
    show goodT (notM _ _ _).t
    rw [(notM_s _).2]
    exact goodT_rv hi h.1 hc
theorem goodU_do {u : Un} {hh : Int} {c : Cm} (h8 : u.g.length = 8) (h : goodU u) (hc : okCm c) : goodU (doM u hh c).1 := by
  unfold doM
  split
  · exact h
  · rename_i hn
    have hh8 : hh.toNat < 8 := by
      cases hb : hostB hh with
      | false => exact absurd (.inl hb) hn
      | true => have := hostB_iff.1 hb; omega
    split
    · split
      · exact h
      · exact ⟨h.1, okC_pop h8 h.2⟩
    · split
      · exact ⟨h.1, okC_pop h8 h.2⟩
      · split
        · exact h
        · exact goodU_act h8 hh8 h hc
theorem goodU_new (n : Nat) : goodU (newU n) := by
  refine ⟨⟨⟨fun i hi => ⟨Int.le_refl 0, by show (0 : Int) < _; decide⟩, (by show (0 : Int) ≤ 0; decide), (by show (0 : Int) < 4294967296; decide)⟩, inv_new⟩, fun i hi c hc => ?_⟩
  have e : ((newU n).guest i).codes = [] := by
    unfold Un.guest newU
    simp only []
    rw [List.getD_eq_getElem?_getD, List.getElem?_replicate, if_pos hi]; rfl
  rw [e] at hc; cases hc
theorem new_small (n : Nat) : small 0 (newU n) := fun i hi => by
  have e : ((newU n).guest i).codes = [] := by
    unfold Un.guest newU
    simp only []
    rw [List.getD_eq_getElem?_getD, List.getElem?_replicate, if_pos hi]; rfl
  rw [e]; exact Nat.le_refl _
theorem actM_rv {u : Un} {i : Nat} {c : Cm} (h1 : 10 ≤ c.kind) (h2 : c.kind ≤ 15) : actM u i c = (notM (u.setT (rvM u.t i c).t) (rvM u.t i c).code (rvM u.t i c).l, (rvM u.t i c).r) := by
  unfold actM resM
  rw [if_neg (by omega), if_neg (by omega), if_neg (by omega), if_neg (by omega), if_neg (by omega), if_neg (by omega), if_neg (by omega)]
theorem actM_keys {u : Un} {i : Nat} {c : Cm} (h : c.kind = 16) : actM u i c = (u, gave (keysB u.t)) := by
  unfold actM resM
  rw [if_neg (by omega), if_neg (by omega), if_neg (by omega), if_neg (by omega), if_neg (by omega), if_pos h]
theorem actM_hold {u : Un} {i : Nat} {c : Cm} (h : c.kind = 17) : actM u i c = (u, gave (holdB u.t)) := by
  unfold actM resM
  rw [if_neg (by omega), if_neg (by omega), if_neg (by omega), if_neg (by omega), if_neg (by omega), if_neg (by omega), if_pos h]
theorem rvM_reg {t : Tb} {i : Nat} {c : Cm} (h : c.kind = 10 ∨ c.kind = 11) : rvM t i c = regF t i c.key c.new (decide (c.kind = 11)) := by
  unfold rvM
  rcases h with h | h
  · rw [if_pos h, decide_eq_false (by omega)]
  · rw [if_neg (by omega), if_pos h, decide_eq_true h]
theorem rvM_rsv {t : Tb} {i : Nat} {c : Cm} (h : c.kind = 12) : rvM t i c = rsvF t i c.key c.typ := by unfold rvM; rw [if_neg (by omega), if_neg (by omega), if_pos h]
theorem rvM_rel {t : Tb} {i : Nat} {c : Cm} (h : c.kind = 13) : rvM t i c = relF t i c.key c.typ := by unfold rvM; rw [if_neg (by omega), if_neg (by omega), if_neg (by omega), if_pos h]
theorem rvM_clr {t : Tb} {i : Nat} {c : Cm} (h : c.kind = 14) : rvM t i c = clrF t i c.key := by unfold rvM; rw [if_neg (by omega), if_neg (by omega), if_neg (by omega), if_neg (by omega), if_pos h]
theorem rvM_pre {t : Tb} {i : Nat} {c : Cm} (h : c.kind = 15) : rvM t i c = preF t i c.key c.new c.typ := by unfold rvM; rw [if_neg (by omega), if_neg (by omega), if_neg (by omega), if_neg (by omega), if_neg (by omega)]
theorem rsvF_l {t : Tb} {i : Nat} {key typ : Int} : (rsvF t i key typ).l = [] := by
  unfold rsvF
  repeat' split
  all_goals rfl
section
variable {W0 w : World} {L : List HProp}
theorem On.nilData {r : Rp} (hd : r.data = []) (h : On W0 L w) : On W0 (OwnB (.slice none 0 0) r.data :: L) w := by rw [hd]; exact h.ownEmpty 1 none
end
end Go.Sl.UnM
/-
  A unit: commands of all kinds: the contracts. Lines of walks printed by a program of the prover's.
-/
namespace Go.Proofs.YtjbgiingimhnnaaGreat
open Go.Proofs.Tryz
open Go Go.Sl Go.Sl.BitM Go.Sl.SpM Go.Sl.RsM Go.Sl.ByM Go.Sl.UnM
set_option linter.unusedVariables false
set_option linter.unusedSimpArgs false
set_option maxHeartbeats 1000000
set_option maxRecDepth 8000
variable {W0 w : World} {L F : List HProp}
theorem unoticed_ok {bu c : Nat} {code : Int} {u : Un} {pool : PoolL} {ms : List Nat} {l : List Nat} {a : Option Addr} {rv : Value} {z0 z1 z2 z4 : Int} (hl8 : l.length ≤ 8) (hlt : ∀ j ∈ l, j < 8) (hsm : small 999000 u) (hr : rv = .agg #[.int .i64 z0, .int .i64 z1, .int .i64 z2, .slice none 0 0, .int .i64 z4]) (h : On W0 (UnP 68 105 113 bu pool ms u :: Own 2 (.slice a l.length c) l.length (notesV code l) :: L) w) : Calls Tryz.prog 65 #[.pointer (some ⟨bu, 0, none⟩), rv, .slice a l.length c] w (Ret fun v w' => v = rv ∧ On W0 (UnP 68 105 113 bu pool ms (notM u code l) :: L) w') := by
  refine enter func65 rfl ntmps65 rfl ?_
  subst hr
  have hul := On.unLen h
  obtain ⟨hl_, hwf⟩ := hul
  refine W.seq (W.region (WL.eff (eff_box (v := .agg _) (l := [.int .i64 z0, .int .i64 z1, .int .i64 z2, .slice none 0 0, .int .i64 z4]) h rfl rfl) rfl rfl ?_))
  rintro _ w ⟨b4, rfl, h⟩
  refine WL.eff (eff_alloc h zeroValue36 rfl) rfl rfl ?_
  rintro _ w ⟨b6, rfl, h⟩
  refine WL.nil (W.seq (W.seq (W.region (WL.val run_move rfl rfl (WL.val (run_lenSlice underlying120 rfl) rfl rfl (WL.val run_move rfl rfl (WL.nil ?_)))))))
  refine W.block ?_
  refine W.loop (fun (k : Nat) env w => k ≤ l.length ∧ ∃ j, env = mkE j [(0, .pointer (some ⟨bu, 0, none⟩)), (4, .pointer (some ⟨b4, 0, none⟩)), (6, .pointer (some ⟨b6, 0, none⟩)), (9, .slice a l.length c), (10, .int .i64 (l.length : Int)), (11, .int .i64 (k : Int))] ∧ On W0 (UnP 68 105 113 bu pool ms (notM u code (l.take k)) :: Own 2 (.slice a l.length c) l.length (notesV code l) :: blk b6 [.int .i64 0, .int .i64 0, .int .i64 0, .slice none 0 0, .int .i64 0] 36 :: blk b4 [.int .i64 z0, .int .i64 z1, .int .i64 z2, .slice none 0 0, .int .i64 z4] 36 :: L) w) (fun k => l.length - k) (0) ?_ ?_
  · have h : On W0 (UnP 68 105 113 bu pool ms (notM u code (l.take 0)) :: _) w := h.fetch (UnP 68 105 113 bu pool ms u)
    exact ⟨Nat.zero_le _, _, mkE_of ⟨rfl, rfl, rfl, rfl, rfl, rfl, trivial⟩, h.to⟩
  rintro k env w ⟨hk, j, rfl, h⟩
  refine W.seq (W.region (WL.val (run_lss rfl rfl) rfl rfl (WL.nil (W.seq ?_))))
  refine W.condIf rfl (fun c5 => ?_) (fun c5 => ?_)
  ·
   refine W.skip (W.seq ?_)
   have hkl : k < l.length := by omega
   have ex_ : ∃ i, l[k]? = some i := ⟨l[k], by simp⟩
   obtain ⟨i, hq⟩ := ex_
   have hi8 : i < 8 := hlt i (List.mem_of_getElem? hq)
   have hrow := drop_flatMap (noteV code) 2 (noteV_length code) l _ _ hq
   have oa_ := Own.addr (h.own (.slice a l.length c)) (by omega)
   obtain ⟨bn, on, ha_⟩ := oa_
   subst ha_
   have hcl := notM_clen (code := code) hi8 (l.take k) (u := u) hl_
   have hcs := hsm i hi8
   have htl : (l.take k).length ≤ 8 := by rw [List.length_take]; omega
   refine W.block (W.seq (W.region (WL.val (run_indexAddr underlying120 sizeOf165 rfl rfl (by omega) (by omega)) rfl rfl (WL.val (run_loadN isAgg165 sizeOf165 rfl rfl ((h.cellsO (v := .slice (some ⟨bn, on, none⟩) l.length c)).elem (i := k) (vs := [.int .i64 (i : Int), .int .i64 code]) hkl hrow)) rfl rfl (WL.eff (eff_alloc h zeroValue165 rfl) rfl rfl ?_)))))
   rintro _ w ⟨b8, rfl, h⟩
   refine WL.eff (eff_storeW (vs := [.int .i64 _, .int .i64 _]) h sizeOf165 rfl rfl rfl rfl rfl) rfl rfl ?_
   rintro _ w h
   refine WL.nil (W.region (WL.val run_move rfl rfl (WL.val (run_fieldAddr 0 underlying165 rfl sizeOf3 rfl rfl) rfl rfl (WL.val (run_load1 isAgg3 rfl (h.cellB rfl)) rfl rfl (WL.val (run_fieldAddr 1 underlying165 rfl sizeOf3 rfl rfl) rfl rfl (WL.val (run_load1 isAgg3 rfl (h.cellB rfl)) rfl rfl (WL.eff (eff_call call77 (tell_ok (i := i) (x := code) hi8 (by omega) (h.fetch (UnP 68 105 113 bu pool ms (notM u code (l.take k)))))) rfl rfl ?_)))))))
   rintro _ w h
   rw [notM_take hq] at h
   refine WL.nil (W.region (WL.val (run_incN rfl rfl (by omega)) rfl rfl (WL.val run_move rfl rfl (WL.nil ?_))))
   exact ⟨k + 1, ⟨by omega, _, mkE_of ⟨rfl, rfl, rfl, rfl, rfl, rfl, trivial⟩, h.to⟩, by show l.length - (k + 1) < l.length - k; omega⟩
  refine W.exit (W.seq (W.region (WL.val (run_loadB (vs := [.int .i64 _, .int .i64 _, .int .i64 _, .slice _ _ _, .int .i64 _]) h isAgg36 sizeOf36 rfl rfl rfl) rfl rfl (WL.eff (eff_storeW (vs := [.int .i64 _, .int .i64 _, .int .i64 _, .slice _ _ _, .int .i64 _]) h sizeOf36 rfl rfl rfl rfl rfl) rfl rfl ?_))))
  rintro _ w h
  refine WL.nil (W.ret (bodyQ.rcB (vs := [.int .i64 _, .int .i64 _, .int .i64 _, .slice _ _ _, .int .i64 _]) h results65 isAgg36 sizeOf36 rfl rfl rfl ?_))
  have ob_ : k = l.length := by omega
  obtain rfl := ob_
  rw [List.take_length] at h
  exact ⟨rfl, h.to⟩
theorem ukeys_ok {b : Nat} {t : Tb} (h : On W0 (blk b t.cells 113 :: L) w) : Calls Tryz.prog 73 #[.pointer (some ⟨b, 0, none⟩)] w (Ret fun v w' => ∃ a, v = .slice a (keysN t.K 8).length (keysN t.K 8).length ∧ On W0 (Own 1 (.slice a (keysN t.K 8).length (keysN t.K 8).length) (keysN t.K 8).length (kV (keysN t.K 8)) :: blk b t.cells 113 :: L) w') := by
  refine enter func73 rfl ntmps73 rfl ?_
  have hmx := maxLen_eq
  refine W.seq (W.region (WL.val run_assign rfl rfl (WL.nil (W.seq (W.region (WL.val run_assign rfl rfl (WL.nil ?_)))))))
  refine W.seq (W.seq (W.region (WL.val run_move rfl rfl (WL.val (run_nilCheck rfl) rfl rfl (WL.val (run_fieldAddr 0 underlying113 rfl sizeOf85 rfl rfl) rfl rfl (WL.val (run_loadB (vs := [.int .u64 _, .int .u64 _, .int .u64 _, .int .u64 _, .int .u64 _, .int .u64 _, .int .u64 _, .int .u64 _]) h isAgg85 sizeOf85 rfl rfl rfl) rfl rfl (WL.val run_move rfl rfl ?_)))))))
  refine WL.nil (W.block ?_)
  refine W.loop (fun (i : Nat) env w => ∃ j a c, env = mkE j [(3, .slice a (keysN t.K i).length c), (9, .agg (keysV t.K).toArray), (10, .int .i64 (i : Int))] ∧ i ≤ 8 ∧ On W0 (Own 1 (.slice a (keysN t.K i).length c) (keysN t.K i).length (kV (keysN t.K i)) :: blk b t.cells 113 :: L) w) (fun i => 8 - i) (0) ?_ ?_
  · exact ⟨_, none, 0, mkE_of ⟨rfl, rfl, rfl, trivial⟩, Nat.zero_le _, h.ownEmpty 1 none⟩
  rintro i env w ⟨j, a, c, rfl, hi, h⟩
  have hkn := keysN_len t.K i
  refine W.seq (W.region (WL.val (run_lss rfl rfl) rfl rfl (WL.nil (W.seq ?_))))
  refine W.condIf rfl (fun c6 => ?_) (fun c6 => ?_)
  ·
   refine W.skip (W.seq (W.block (W.seq (W.region (WL.val (run_indexArr underlying85 sizeOf23 isAgg23 rfl rfl (by omega) (by omega) (keysV_key (i := i) (by omega))) rfl rfl (WL.val run_assign rfl rfl (WL.nil ?_)))))))
   refine W.seq (W.region (WL.val run_move rfl rfl (WL.val (run_neq rfl rfl) rfl rfl (WL.nil ?_))))
   refine W.condIf rfl (fun c12 => ?_) (fun c12 => ?_)
   ·
    refine W.region (WL.val run_move rfl rfl (WL.val run_move rfl rfl (WL.eff (eff_mkSlice (zl := [.int .u64 0]) (out := [.int .u64 _]) h underlying129 sizeOf23 zeroValue23 (by decide) (by kernel_rfl) rfl rfl (by simp) (⟨⟨_, _, rfl, rfl, by decide⟩, trivial⟩) rfl rfl (by simp [maxLen])) rfl rfl ?_)))
    rintro _ w ⟨b17, rfl, h⟩
    refine WL.eff (eff_app (c2 := 1) (bytes := 8) h rfl rfl (h.cellsO (v := .slice (some ⟨b17, 0, none⟩) 1 1)) underlying129 rfl rfl rfl rfl rfl (by omega) (by omega) (by simp [Value.oneCell'])) rfl rfl ?_
    rintro _ w ⟨a18, c18, rfl, h⟩
    have e1 : keysN t.K i ++ [t.K i] = keysN t.K (i + 1) := by
      show _ = keysN t.K i ++ if t.K i = 0 then [] else [t.K i]
      rw [if_neg (by omega)]
    have e2 : kV (keysN t.K i) ++ [Value.int .u64 (t.K i)] = kV (keysN t.K (i + 1)) := by rw [← e1, ← kV_app]; rfl
    have el : (keysN t.K i).length + 1 = (keysN t.K (i + 1)).length := by rw [← e1, List.length_append]; rfl
    have h : On W0 (Own 1 (.slice a18 ((keysN t.K i).length + 1) c18) ((keysN t.K i).length + 1) (kV (keysN t.K i) ++ [.int .u64 (t.K i)]) :: _) w := h
    rw [e2, el] at h
    refine WL.val run_assign rfl rfl (WL.nil (W.region (WL.val (run_incN rfl rfl (by omega)) rfl rfl (WL.val run_move rfl rfl (WL.nil ?_)))))
    exact ⟨i + 1, ⟨_, a18, c18, mkE_of ⟨congrArg (fun q => Value.slice a18 q c18) el, rfl, rfl, trivial⟩, by omega, h.to⟩, by show 8 - (i + 1) < 8 - i; omega⟩
   refine W.skip (W.region (WL.val (run_incN rfl rfl (by omega)) rfl rfl (WL.val run_move rfl rfl (WL.nil ?_))))
   have e1 : keysN t.K (i + 1) = keysN t.K i := by
     show keysN t.K i ++ (if t.K i = 0 then [] else [t.K i]) = _
     rw [if_pos (show t.K i = 0 by omega), List.append_nil]
   rw [← e1] at h
   exact ⟨i + 1, ⟨_, a, c, mkE_of ⟨congrArg (fun q : List Int => Value.slice a q.length c) e1.symm, rfl, rfl, trivial⟩, by omega, h.to⟩, by show 8 - (i + 1) < 8 - i; omega⟩
  refine W.exit (W.seq ?_)
  have ob_ : i = 8 := by omega
  obtain rfl := ob_
  refine W.region (WL.val run_move rfl rfl (WL.eff (eff_call call120 (clip_keys h)) rfl rfl ?_))
  rintro _ w ⟨rfl, h⟩
  refine WL.val run_assign rfl rfl (WL.nil (W.ret (bodyQ.r1 (v := .slice _ _ _) results73 rfl ?_)))
  exact ⟨a, rfl, h⟩
theorem pkeys_ok {g ck : Nat} {ak : Option Addr} {ks : List Int} (hg : g < 4294967296) (hk : ∀ x ∈ ks, 0 ≤ x ∧ x < 18446744073709551616) (hl : ks.length ≤ 8) (h : On W0 L w) (C : Gives L (Cells 1 (.slice ak ks.length ck) ks.length (kV ks))) : Calls Tryz.prog 71 #[.int .u32 (g : Int), .slice ak ks.length ck] w (Ret fun v w' => ∃ a, v = .slice a (keysP g (8 * ks.length) ks ks.length).length (keysP g (8 * ks.length) ks ks.length).length ∧ On W0 (OwnB (.slice a (keysP g (8 * ks.length) ks ks.length).length (keysP g (8 * ks.length) ks ks.length).length) (keysP g (8 * ks.length) ks ks.length) :: L) w') := by
  refine enter func71 rfl ntmps71 rfl ?_
  have hmx := maxLen_eq
  have hbd := (h.reads C).bounds
  obtain ⟨hc1, hc2⟩ := hbd
  have e0 : ([] ++ be g 4) ++ be (8 * ks.length) 4 = (keysP g (8 * ks.length) ks 0) := by rw [keysP_zero, List.nil_append]
  refine W.seq (W.region (WL.val run_assign rfl rfl (WL.nil (W.seq (W.region (WL.val run_move rfl rfl (WL.val run_move rfl rfl ?_)))))))
  refine WL.val (run_lenSlice underlying129 rfl) rfl rfl (WL.val (run_minN (m := ks.length) (n := 16) rfl rfl (Nat.min_eq_left (by omega))) rfl rfl (WL.val (run_cutH underlying129 sizeOf23 rfl rfl  (by omega)) rfl rfl (WL.val run_assign rfl rfl (WL.nil (W.seq (W.region (WL.val run_move rfl rfl ?_)))))))
  refine WL.val (run_convIn underlying111 underlying23 rfl (by show (0 : Int) ≤ _; omega) (by show _ ≤ (18446744073709551615 : Int); omega)) rfl rfl (WL.eff (eff_call call59 (bput_ok (ax := none) (cx := 0) (bs := []) (v := g) (n := 4) h Gives.nilB (by decide) (by decide) (by omega) (by decide))) rfl rfl ?_)
  rintro _ w ⟨a15, rfl, h⟩
  refine WL.val run_move rfl rfl (WL.val (run_lenSlice underlying129 rfl) rfl rfl (WL.val (run_mulN (m := 8) (n := ks.length) rfl rfl (by omega)) rfl rfl (WL.val (run_convIn underlying3 underlying23 rfl (by show (0 : Int) ≤ _; omega) (by show _ ≤ (18446744073709551615 : Int); omega)) rfl rfl (WL.eff (eff_call call59 (bput_ok (v := 8 * ks.length) (n := 4) h (Gives.ownO (v := .slice a15 ([] ++ be g 4).length ([] ++ be g 4).length)) (by decide) (by decide) (by omega) (by rw [List.nil_append, be_length]; decide))) rfl rfl ?_))))
  rintro v20 w ⟨a20, hv20, h⟩
  rw [e0] at hv20 h
  subst hv20
  refine WL.val run_assign rfl rfl (WL.nil (W.seq (W.seq (W.region (WL.val run_move rfl rfl (WL.val (run_lenSlice underlying129 rfl) rfl rfl (WL.val run_move rfl rfl ?_)))))))
  refine WL.nil (W.block ?_)
  refine W.loop (fun (k : Nat) env w => k ≤ ks.length ∧ ∃ (j : Env) (ao : Option Addr) (co : Nat), env = mkE j [(5, .slice ao (keysP g (8 * ks.length) ks k).length co), (21, .slice ak ks.length ck), (22, .int .i64 (ks.length : Int)), (23, .int .i64 (k : Int))] ∧ co = (keysP g (8 * ks.length) ks k).length ∧ On W0 (OwnB (.slice ao (keysP g (8 * ks.length) ks k).length co) (keysP g (8 * ks.length) ks k) :: L) w) (fun k => ks.length - k) (0) ?_ ?_
  · exact ⟨Nat.zero_le _, _, a20, _, mkE_of ⟨rfl, rfl, rfl, rfl, trivial⟩, rfl, h.to⟩
  rintro k env w ⟨hk8, j, ao, co, rfl, hco, h⟩
  have hlk := keysP_len (g := g) (n := 8 * ks.length) hk8
  refine W.seq (W.region (WL.val (run_lss rfl rfl) rfl rfl (WL.nil (W.seq ?_))))
  refine W.condIf rfl (fun c7 => ?_) (fun c7 => ?_)
  ·
   refine W.skip (W.seq ?_)
   have hkl : k < ks.length := by omega
   have ex_ : ∃ x, ks[k]? = some x := ⟨ks[k], by simp⟩
   obtain ⟨x, hx⟩ := ex_
   have hxk := hk x (List.mem_of_getElem? hx)
   have ekx : x = ((x.toNat : Nat) : Int) := by omega
   have adx := (h.readsTo C).addr (by omega)
   obtain ⟨bx, ox, hax⟩ := adx
   subst hax
   refine W.block (W.seq (W.region (WL.val (run_indexAddr underlying129 sizeOf23 rfl rfl (by omega) (by omega)) rfl rfl (WL.val (run_load1 isAgg23 rfl ((h.readsTo C).elem (i := k) (vs := [.int .u64 ((x.toNat : Nat) : Int)]) hkl ((kV_get hx).trans (congrArg (fun q => [Value.int .u64 q]) ekx)) 0 _ rfl)) rfl rfl (WL.val run_assign rfl rfl (WL.nil (W.region ?_)))))))
   refine WL.val run_move rfl rfl (WL.val run_move rfl rfl (WL.eff (eff_call call59 (bput_ok (v := x.toNat) (n := 8) (bs := (keysP g (8 * ks.length) ks k)) h (Gives.ownO (v := .slice ao (keysP g (8 * ks.length) ks k).length co)) (by decide) (by decide) (by omega) (by omega))) rfl rfl ?_))
   rintro _ w ⟨a29, rfl, h⟩
   refine WL.val run_assign rfl rfl (WL.nil (W.region (WL.val (run_incN rfl rfl (by omega)) rfl rfl (WL.val run_move rfl rfl (WL.nil ?_)))))
   rw [keysP_succ hx] at h
   exact ⟨k + 1, ⟨by omega, _, a29, _, mkE_of ⟨congrArg (fun q : List UInt8 => Value.slice a29 q.length q.length) (keysP_succ hx), rfl, rfl, rfl, trivial⟩, rfl, h.to⟩, by show ks.length - (k + 1) < ks.length - k; omega⟩
  refine W.exit (W.seq (W.region (WL.val run_move rfl rfl (WL.val run_assign rfl rfl (WL.nil (W.ret (bodyQ.r1 (v := .slice _ _ _) results71 rfl ?_)))))))
  have ob_ : k = ks.length := by omega
  obtain rfl := ob_
  subst hco
  exact ⟨ao, rfl, h⟩
def holdP (g key y : Nat) : List UInt8 := if y = 0 then be g 4 ++ be 0 4 else be g 4 ++ be 16 4 ++ be key 8 ++ be 0 4 ++ be y 2 ++ be 0 2
theorem and15 {y : Nat} (h : y < 16) : ((y &&& 15 : Nat) : Int) = (y : Int) := by
  have : y &&& 15 = y % 2 ^ 4 := Nat.and_two_pow_sub_one_eq_mod y 4
  rw [this, Nat.mod_eq_of_lt (by omega)]
theorem holdB_P {t : Tb} (h1 : 0 ≤ t.typ) : holdB t = holdP t.gen.toNat (holdK t).toNat t.typ.toNat := by
  unfold holdB holdP
  by_cases h : t.typ = 0
  · rw [if_pos h, if_pos (by omega)]
  · rw [if_neg h, if_neg (by omega)]
theorem pholder_ok {g key y : Nat} (hg : g < 4294967296) (hk : key < 18446744073709551616) (hy : y < 16) (h : On W0 L w) : Calls Tryz.prog 75 #[.int .u32 (g : Int), .int .u64 (key : Int), .int .i64 (y : Int)] w (Ret fun v w' => ∃ a, v = .slice a (holdP g key y).length (holdP g key y).length ∧ On W0 (OwnB (.slice a (holdP g key y).length (holdP g key y).length) (holdP g key y) :: L) w') := by
  refine enter func75 rfl ntmps75 rfl ?_
  have hmx := maxLen_eq
  refine W.seq (W.region (WL.val run_assign rfl rfl (WL.nil (W.seq (W.region (WL.val run_move rfl rfl (WL.val (run_convIn underlying111 underlying23 rfl (by show (0 : Int) ≤ _; omega) (by show _ ≤ (18446744073709551615 : Int); omega)) rfl rfl ?_)))))))
  refine WL.eff (eff_call call59 (bput_ok (ax := none) (cx := 0) (bs := []) (v := g) (n := 4) h Gives.nilB (by decide) (by decide) (by omega) (by decide))) rfl rfl ?_
  rintro _ w ⟨a10, rfl, h⟩
  refine WL.val run_assign rfl rfl (WL.nil (W.seq (W.seq (W.region (WL.val run_move rfl rfl (WL.val (run_andV (m := y) (n := 15) (and15 hy) rfl rfl (by show _ ≤ (9223372036854775807 : Int); omega) (by decide)) rfl rfl (WL.val (run_eql rfl rfl) rfl rfl ?_)))))))
  refine WL.nil ?_
  refine W.condIf rfl (fun c3 => ?_) (fun c3 => ?_)
  ·
   refine W.seq (W.region (WL.val run_move rfl rfl (WL.eff (eff_call call59 (bput_ok (v := 0) (n := 4) (bs := [] ++ be g 4) h (Gives.ownO (v := .slice a10 ([] ++ be g 4).length ([] ++ be g 4).length)) (by decide) (by decide) (by omega) (by simp only [List.length_append, List.length_nil, be_length]; omega))) rfl rfl ?_)))
   rintro _ w ⟨a15, rfl, h⟩
   refine WL.val run_assign rfl rfl (WL.nil (W.ret (bodyQ.r1 (v := .slice _ _ _) results75 rfl ?_)))
   have e : holdP g key y = [] ++ be g 4 ++ be 0 4 := by unfold holdP; rw [if_pos (by omega), List.nil_append]
   rw [e]
   exact ⟨a15, rfl, h.to⟩
  refine W.skip (W.seq (W.region (WL.val run_move rfl rfl (WL.eff (eff_call call59 (bput_ok (v := 16) (n := 4) (bs := [] ++ be g 4) h (Gives.ownO (v := .slice a10 ([] ++ be g 4).length ([] ++ be g 4).length)) (by decide) (by decide) (by omega) (by simp only [List.length_append, List.length_nil, be_length]; omega))) rfl rfl ?_))))
  rintro _ w ⟨a17, rfl, h⟩
  refine WL.val run_move rfl rfl (WL.eff (eff_call call59 (bput_ok (v := key) (n := 8) (bs := [] ++ be g 4 ++ be 16 4) h (Gives.ownO (v := .slice a17 ([] ++ be g 4 ++ be 16 4).length ([] ++ be g 4 ++ be 16 4).length)) (by decide) (by decide) (by omega) (by simp only [List.length_append, List.length_nil, be_length]; omega))) rfl rfl ?_)
  rintro _ w ⟨a19, rfl, h⟩
  refine WL.eff (eff_call call59 (bput_ok (v := 0) (n := 4) (bs := [] ++ be g 4 ++ be 16 4 ++ be key 8) h (Gives.ownO (v := .slice a19 ([] ++ be g 4 ++ be 16 4 ++ be key 8).length ([] ++ be g 4 ++ be 16 4 ++ be key 8).length)) (by decide) (by decide) (by omega) (by simp only [List.length_append, List.length_nil, be_length]; omega))) rfl rfl ?_
  rintro _ w ⟨a20, rfl, h⟩
  refine WL.val run_assign rfl rfl (WL.nil (W.seq (W.region (WL.val run_move rfl rfl (WL.val run_move rfl rfl (WL.val (run_andV (m := y) (n := 15) (and15 hy) rfl rfl (by show _ ≤ (9223372036854775807 : Int); omega) (by decide)) rfl rfl (WL.val (run_convIn underlying3 underlying23 rfl (by show (0 : Int) ≤ _; omega) (by show _ ≤ (18446744073709551615 : Int); omega)) rfl rfl ?_)))))))
  refine WL.eff (eff_call call59 (bput_ok (v := y) (n := 2) (bs := [] ++ be g 4 ++ be 16 4 ++ be key 8 ++ be 0 4) h (Gives.ownO (v := .slice a20 ([] ++ be g 4 ++ be 16 4 ++ be key 8 ++ be 0 4).length ([] ++ be g 4 ++ be 16 4 ++ be key 8 ++ be 0 4).length)) (by decide) (by decide) (by omega) (by simp only [List.length_append, List.length_nil, be_length]; omega))) rfl rfl ?_
  rintro _ w ⟨a25, rfl, h⟩
  refine WL.eff (eff_call call59 (bput_ok (v := 0) (n := 2) (bs := [] ++ be g 4 ++ be 16 4 ++ be key 8 ++ be 0 4 ++ be y 2) h (Gives.ownO (v := .slice a25 ([] ++ be g 4 ++ be 16 4 ++ be key 8 ++ be 0 4 ++ be y 2).length ([] ++ be g 4 ++ be 16 4 ++ be key 8 ++ be 0 4 ++ be y 2).length)) (by decide) (by decide) (by omega) (by simp only [List.length_append, List.length_nil, be_length]; omega))) rfl rfl ?_
  rintro _ w ⟨a26, rfl, h⟩
  refine WL.val run_assign rfl rfl (WL.nil (W.ret (bodyQ.r1 (v := .slice _ _ _) results75 rfl ?_)))
  have e : holdP g key y = [] ++ be g 4 ++ be 16 4 ++ be key 8 ++ be 0 4 ++ be y 2 ++ be 0 2 := by unfold holdP; rw [if_neg (by omega), List.nil_append]
  rw [e]
  exact ⟨a26, rfl, h.to⟩
end Go.Proofs.YtjbgiingimhnnaaGreat
/-
  A unit: commands of all kinds: the contracts. Lines of walks printed by a program of the prover's.
-/
namespace Go.Proofs.YtjbgiingimhnnaaGreat
open Go.Proofs.Tryz
open Go Go.Sl Go.Sl.BitM Go.Sl.SpM Go.Sl.RsM Go.Sl.ByM Go.Sl.UnM
set_option linter.unusedVariables false
set_option linter.unusedSimpArgs false
set_option maxHeartbeats 1000000
set_option maxRecDepth 8000
variable {W0 w : World} {L F : List HProp}
theorem ukey_ok {b : Nat} {t : Tb} {hh : Int} (h : On W0 (blk b t.cells 113 :: L) w) : Calls Tryz.prog 76 #[.pointer (some ⟨b, 0, none⟩), .int .i64 hh] w (Ret fun v w' => v = .int .u64 (if hostB hh = true then t.K hh.toNat else 0) ∧ On W0 (blk b t.cells 113 :: L) w') := by
  refine enter func76 rfl ntmps76 rfl (W.seq (W.region (WL.val run_assign rfl rfl (WL.nil (W.seq (W.seq (W.region ?_)))))))
  refine WL.val run_move rfl rfl (WL.eff (eff_call call61 (host_ok h)) rfl rfl ?_)
  rintro _ w ⟨hv, h⟩
  have hcs := Bool.eq_false_or_eq_true (hostB hh)
  rcases hcs with hb | hb <;> (rw [hb] at hv; subst hv)
  ·
   refine WL.val (run_not rfl) rfl rfl (WL.nil (W.condF rfl (W.skip (W.seq ?_))))
   have ob_ := hostB_iff.1 hb
   obtain ⟨hi0, hi8⟩ := ob_
   have ob_ := Int.eq_ofNat_of_zero_le hi0
   obtain ⟨i, rfl⟩ := ob_
   have hi : i < 8 := by omega
   refine W.region (WL.val run_move rfl rfl (WL.val run_move rfl rfl (WL.val (run_nilCheck rfl) rfl rfl (WL.val (run_fieldAddr 0 underlying113 rfl sizeOf85 rfl rfl) rfl rfl (WL.val (run_indexAddrArr underlying85 sizeOf23 rfl rfl (by omega) (by omega)) rfl rfl (WL.val (run_load1 isAgg23 rfl (h.cellB (cells_at hi))) rfl rfl (WL.val run_assign rfl rfl ?_)))))))
   refine WL.nil (W.ret (bodyQ.r1 (v := .int .u64 _) results76 rfl ?_))
   exact ⟨by rw [if_pos hb]; rfl, h⟩
  refine WL.val (run_not rfl) rfl rfl (WL.nil (W.condT rfl (W.seq (W.region (WL.val run_assign rfl rfl (WL.nil (W.ret ?_)))))))
  refine bodyQ.r1 (v := .int .u64 _) results76 rfl ?_
  exact ⟨by rw [hb]; rfl, h⟩
theorem uact_ok {bu i : Nat} {u : Un} {pool : PoolL} {ms : List Nat} {kind at_ n key new typ : Int} {force : Bool} {data : List UInt8} {ax : Option Addr} {cx : Nat} (hi : i < 8) (hk1 : 1 ≤ kind) (hk : kind ≤ 18) (hk9 : kind ≠ 9) (hsm : small 999000 u) (hgu_ : goodU u) (hcm : okCm (⟨kind, at_, n, data, key, new, typ, force⟩ : Cm)) (h : On W0 (UnP 68 105 113 bu pool ms u :: L) w) (C : Gives L (Bytes (.slice ax data.length cx) data)) (hd : data.length ≤ 1000000) : Calls Tryz.prog 31 #[.pointer (some ⟨bu, 0, none⟩), .int .i64 (i : Int), (⟨kind, at_, n, data, key, new, typ, force⟩ : Cm).val (.slice ax data.length cx)] w (Ret fun v w' => ∃ u' r dv, actM u i (⟨kind, at_, n, data, key, new, typ, force⟩ : Cm) = (u', r) ∧ v = r.val dv ∧ On W0 (OwnB dv r.data :: UnP 68 105 113 bu pool ms u' :: L) w') := by
  refine enter func31 rfl ntmps31 rfl ?_
  have hul := On.unLen h
  obtain ⟨hl8, hwf⟩ := hul
  have hgt := hgu_.1
  have hgok := hgt.1
  have egen : u.t.gen = ((u.t.gen.toNat : Nat) : Int) := by have := hgok.2; omega
  have hsm1 := small_le hsm (show 999000 ≤ 1000000 by decide)
  refine W.seq (W.region (WL.eff (eff_box (v := .agg _) (l := (⟨kind, at_, n, data, key, new, typ, force⟩ : Cm).cells (.slice ax data.length cx)) h rfl rfl) rfl rfl ?_))
  rintro _ w ⟨b5, rfl, h⟩
  have h : On W0 (blk b5 [.int .i64 kind, .int .i64 at_, .int .i64 n, .slice ax data.length cx, .int .u64 key, .int .u64 new, .int .i64 typ, .bool force] 25 :: _) w := h
  refine WL.eff (eff_alloc h zeroValue36 rfl) rfl rfl ?_
  rintro _ w ⟨b6, rfl, h⟩
  refine WL.nil (W.seq (W.seq (W.region (WL.val (run_fieldAddr 0 underlying25 rfl sizeOf3 rfl rfl) rfl rfl (WL.val (run_load1 isAgg3 rfl (h.cellB rfl)) rfl rfl (WL.nil (W.block ?_)))))))
  refine W.seq (W.block (W.seq (W.block (W.seq (W.block (W.seq (W.block ?_)))))))
  refine W.seq (W.block (W.seq (W.block (W.seq (W.block (W.block (W.seq ?_)))))))
  refine W.block (W.seq (W.block (W.seq (W.block (W.seq (W.block (W.seq ?_)))))))
  refine W.seq (W.seq (W.region (WL.val (run_eql rfl rfl) rfl rfl (WL.val run_assign rfl rfl (WL.nil ?_)))))
  refine W.condIf rfl (fun c16 => ?_) (fun c16 => ?_)
  ·
   refine W.exit (W.seq (W.seq (W.region (WL.val (run_buildS (pl := [(0, 1), (1, 1), (2, 1), (3, 1), (4, 1)]) (out := [.int .i64 _, .int .i64 _, .int .i64 _, .slice _ _ _, .int .i64 _]) underlying36 zeroValue36 (fun w => by kernel_rfl) rfl (trivial) rfl) rfl rfl (WL.eff (eff_storeW (vs := [.int .i64 _, .int .i64 _, .int .i64 _, .slice _ _ _, .int .i64 _]) h sizeOf36 rfl rfl rfl rfl rfl) rfl rfl ?_)))))
   rintro _ w h
   refine WL.nil (W.ret (bodyQ.rcB (vs := [.int .i64 _, .int .i64 _, .int .i64 _, .slice _ _ _, .int .i64 _]) h results31 isAgg36 sizeOf36 rfl rfl rfl ?_))
   have h : On W0 (OwnB (.slice none 0 0) (plain 0 0 0 : Rp).data :: _) w := h.ownEmpty 1 none
   exact ⟨u, plain 0 0 0, .slice none 0 0, (by unfold actM; rw [if_pos c16]), rfl, h.to⟩
  refine W.skip (W.seq (W.seq (W.region (WL.val (run_eql rfl rfl) rfl rfl (WL.val run_assign rfl rfl (WL.nil ?_))))))
  refine W.condIf rfl (fun c20 => ?_) (fun c20 => ?_)
  ·
   refine W.exit (W.seq (W.seq (W.region (WL.eff (eff_call call62 (inquiry_ok h)) rfl rfl ?_))))
   rintro _ w ⟨a41, rfl, h⟩
   refine WL.eff (eff_call call28 (sgood_ok (bs := inqB) h (Gives.ownO (v := .slice a41 inqB.length inqB.length)) (by decide))) rfl rfl ?_
   rintro _ w ⟨a42, rfl, h⟩
   refine WL.eff (eff_storeW (vs := [.int .i64 _, .int .i64 _, .int .i64 _, .slice _ _ _, .int .i64 _]) h sizeOf36 rfl rfl rfl rfl rfl) rfl rfl ?_
   rintro _ w h
   refine WL.nil (W.ret (bodyQ.rcB (vs := [.int .i64 _, .int .i64 _, .int .i64 _, .slice _ _ _, .int .i64 _]) h results31 isAgg36 sizeOf36 rfl rfl rfl ?_))
   have h : On W0 (OwnB (.slice a42 (inqB).length (inqB).length) (gave (inqB)).data :: _) w := h.fetch (OwnB (.slice a42 (inqB).length (inqB).length) (inqB))
   exact ⟨u, gave (inqB), .slice a42 (inqB).length (inqB).length, (by unfold actM; rw [if_neg c16, if_pos c20]), rfl, h.to⟩
  refine W.skip (W.seq (W.seq (W.region (WL.val (run_eql rfl rfl) rfl rfl (WL.val run_assign rfl rfl (WL.nil ?_))))))
  refine W.condIf rfl (fun c24 => ?_) (fun c24 => ?_)
  ·
   refine W.exit (W.seq (W.seq (W.region (WL.val run_move rfl rfl (WL.eff (eff_call call9 (ublocks_ok (h.fetch (UnP 68 105 113 bu pool ms u)))) rfl rfl ?_)))))
   rintro _ w ⟨rfl, h⟩
   refine WL.eff (eff_call call63 (capacity_ok (n := u.s.N) hwf.2.1 hwf.2.2.1 h)) rfl rfl ?_
   rintro _ w ⟨a45, rfl, h⟩
   refine WL.eff (eff_call call28 (sgood_ok (bs := capB u.s.N) h (Gives.ownO (v := .slice a45 (capB u.s.N).length (capB u.s.N).length)) (by unfold capB; rw [List.length_append, be_length, be_length]; decide))) rfl rfl ?_
   rintro _ w ⟨a46, rfl, h⟩
   refine WL.eff (eff_storeW (vs := [.int .i64 _, .int .i64 _, .int .i64 _, .slice _ _ _, .int .i64 _]) h sizeOf36 rfl rfl rfl rfl rfl) rfl rfl ?_
   rintro _ w h
   refine WL.nil (W.ret (bodyQ.rcB (vs := [.int .i64 _, .int .i64 _, .int .i64 _, .slice _ _ _, .int .i64 _]) h results31 isAgg36 sizeOf36 rfl rfl rfl ?_))
   have h : On W0 (OwnB (.slice a46 ((capB u.s.N)).length ((capB u.s.N)).length) (gave ((capB u.s.N))).data :: _) w := h.fetch (OwnB (.slice a46 ((capB u.s.N)).length ((capB u.s.N)).length) ((capB u.s.N)))
   exact ⟨u, gave ((capB u.s.N)), .slice a46 ((capB u.s.N)).length ((capB u.s.N)).length, (by unfold actM; rw [if_neg c16, if_neg c20, if_pos c24]), rfl, h.to⟩
  refine W.skip (W.seq (W.seq (W.seq (W.region (WL.val (run_eql rfl rfl) rfl rfl (WL.val run_assign rfl rfl (WL.nil ?_)))))))
  refine W.condIf rfl (fun c28 => ?_) (fun c28 => ?_)
  ·
   refine W.skip ?_
   refine W.condIf rfl (fun c40 => ?_) (fun c40 => ?_)
   ·
    refine W.exit (W.seq (W.seq (W.region (WL.val run_move rfl rfl (WL.val (run_loadB (vs := [.int .i64 _, .int .i64 _, .int .i64 _, .slice _ _ _, .int .u64 _, .int .u64 _, .int .i64 _, .bool _]) h isAgg25 sizeOf25 rfl rfl rfl) rfl rfl (WL.eff (eff_call call64 (urun_ok (u := u) (h.fetch (UnP 68 105 113 bu pool ms u)) (Gives.to C) hd)) rfl rfl ?_))))))
    rintro _ w ⟨s', r', dv', heq, rfl, h⟩
    have of_ := Own.form h
    obtain ⟨ad, cd, hdv, _⟩ := of_
    subst hdv
    refine WL.eff (eff_storeW (vs := [.int .i64 _, .int .i64 _, .int .i64 _, .slice _ _ _, .int .i64 _]) h sizeOf36 rfl rfl rfl rfl rfl) rfl rfl ?_
    rintro _ w h
    refine WL.nil (W.ret (bodyQ.rcB (vs := [.int .i64 _, .int .i64 _, .int .i64 _, .slice _ _ _, .int .i64 _]) h results31 isAgg36 sizeOf36 rfl rfl rfl ?_))
    have he : actM u i (⟨kind, at_, n, data, key, new, typ, force⟩ : Cm) = (u.setS s', r') := by rw [actM_run (by show 2 ≤ kind; omega) (by show kind ≤ 6; omega), heq]
    exact ⟨u.setS s', r', _, he, rfl, h.to⟩
   exact absurd c40 (not_not_intro (by omega))
  refine W.seq (W.region (WL.val (run_eql rfl rfl) rfl rfl (WL.val run_assign rfl rfl (WL.nil ?_))))
  refine W.condIf rfl (fun c31 => ?_) (fun c31 => ?_)
  ·
   refine W.skip ?_
   refine W.condIf rfl (fun c40 => ?_) (fun c40 => ?_)
   ·
    refine W.exit (W.seq (W.seq (W.region (WL.val run_move rfl rfl (WL.val (run_loadB (vs := [.int .i64 _, .int .i64 _, .int .i64 _, .slice _ _ _, .int .u64 _, .int .u64 _, .int .i64 _, .bool _]) h isAgg25 sizeOf25 rfl rfl rfl) rfl rfl (WL.eff (eff_call call64 (urun_ok (u := u) (h.fetch (UnP 68 105 113 bu pool ms u)) (Gives.to C) hd)) rfl rfl ?_))))))
    rintro _ w ⟨s', r', dv', heq, rfl, h⟩
    have of_ := Own.form h
    obtain ⟨ad, cd, hdv, _⟩ := of_
    subst hdv
    refine WL.eff (eff_storeW (vs := [.int .i64 _, .int .i64 _, .int .i64 _, .slice _ _ _, .int .i64 _]) h sizeOf36 rfl rfl rfl rfl rfl) rfl rfl ?_
    rintro _ w h
    refine WL.nil (W.ret (bodyQ.rcB (vs := [.int .i64 _, .int .i64 _, .int .i64 _, .slice _ _ _, .int .i64 _]) h results31 isAgg36 sizeOf36 rfl rfl rfl ?_))
    have he : actM u i (⟨kind, at_, n, data, key, new, typ, force⟩ : Cm) = (u.setS s', r') := by rw [actM_run (by show 2 ≤ kind; omega) (by show kind ≤ 6; omega), heq]
    exact ⟨u.setS s', r', _, he, rfl, h.to⟩
   exact absurd c40 (not_not_intro (by omega))
  refine W.seq (W.region (WL.val (run_eql rfl rfl) rfl rfl (WL.val run_assign rfl rfl (WL.nil ?_))))
  refine W.condIf rfl (fun c34 => ?_) (fun c34 => ?_)
  ·
   refine W.skip ?_
   refine W.condIf rfl (fun c40 => ?_) (fun c40 => ?_)
   ·
    refine W.exit (W.seq (W.seq (W.region (WL.val run_move rfl rfl (WL.val (run_loadB (vs := [.int .i64 _, .int .i64 _, .int .i64 _, .slice _ _ _, .int .u64 _, .int .u64 _, .int .i64 _, .bool _]) h isAgg25 sizeOf25 rfl rfl rfl) rfl rfl (WL.eff (eff_call call64 (urun_ok (u := u) (h.fetch (UnP 68 105 113 bu pool ms u)) (Gives.to C) hd)) rfl rfl ?_))))))
    rintro _ w ⟨s', r', dv', heq, rfl, h⟩
    have of_ := Own.form h
    obtain ⟨ad, cd, hdv, _⟩ := of_
    subst hdv
    refine WL.eff (eff_storeW (vs := [.int .i64 _, .int .i64 _, .int .i64 _, .slice _ _ _, .int .i64 _]) h sizeOf36 rfl rfl rfl rfl rfl) rfl rfl ?_
    rintro _ w h
    refine WL.nil (W.ret (bodyQ.rcB (vs := [.int .i64 _, .int .i64 _, .int .i64 _, .slice _ _ _, .int .i64 _]) h results31 isAgg36 sizeOf36 rfl rfl rfl ?_))
    have he : actM u i (⟨kind, at_, n, data, key, new, typ, force⟩ : Cm) = (u.setS s', r') := by rw [actM_run (by show 2 ≤ kind; omega) (by show kind ≤ 6; omega), heq]
    exact ⟨u.setS s', r', _, he, rfl, h.to⟩
   exact absurd c40 (not_not_intro (by omega))
  refine W.seq (W.region (WL.val (run_eql rfl rfl) rfl rfl (WL.val run_assign rfl rfl (WL.nil ?_))))
  refine W.condIf rfl (fun c37 => ?_) (fun c37 => ?_)
  ·
   refine W.skip ?_
   refine W.condIf rfl (fun c40 => ?_) (fun c40 => ?_)
   ·
    refine W.exit (W.seq (W.seq (W.region (WL.val run_move rfl rfl (WL.val (run_loadB (vs := [.int .i64 _, .int .i64 _, .int .i64 _, .slice _ _ _, .int .u64 _, .int .u64 _, .int .i64 _, .bool _]) h isAgg25 sizeOf25 rfl rfl rfl) rfl rfl (WL.eff (eff_call call64 (urun_ok (u := u) (h.fetch (UnP 68 105 113 bu pool ms u)) (Gives.to C) hd)) rfl rfl ?_))))))
    rintro _ w ⟨s', r', dv', heq, rfl, h⟩
    have of_ := Own.form h
    obtain ⟨ad, cd, hdv, _⟩ := of_
    subst hdv
    refine WL.eff (eff_storeW (vs := [.int .i64 _, .int .i64 _, .int .i64 _, .slice _ _ _, .int .i64 _]) h sizeOf36 rfl rfl rfl rfl rfl) rfl rfl ?_
    rintro _ w h
    refine WL.nil (W.ret (bodyQ.rcB (vs := [.int .i64 _, .int .i64 _, .int .i64 _, .slice _ _ _, .int .i64 _]) h results31 isAgg36 sizeOf36 rfl rfl rfl ?_))
    have he : actM u i (⟨kind, at_, n, data, key, new, typ, force⟩ : Cm) = (u.setS s', r') := by rw [actM_run (by show 2 ≤ kind; omega) (by show kind ≤ 6; omega), heq]
    exact ⟨u.setS s', r', _, he, rfl, h.to⟩
   exact absurd c40 (not_not_intro (by omega))
  refine W.region (WL.val (run_eql rfl rfl) rfl rfl (WL.val run_assign rfl rfl (WL.nil ?_)))
  refine W.condIf rfl (fun c40 => ?_) (fun c40 => ?_)
  ·
   refine W.exit (W.seq (W.seq (W.region (WL.val run_move rfl rfl (WL.val (run_loadB (vs := [.int .i64 _, .int .i64 _, .int .i64 _, .slice _ _ _, .int .u64 _, .int .u64 _, .int .i64 _, .bool _]) h isAgg25 sizeOf25 rfl rfl rfl) rfl rfl (WL.eff (eff_call call64 (urun_ok (u := u) (h.fetch (UnP 68 105 113 bu pool ms u)) (Gives.to C) hd)) rfl rfl ?_))))))
   rintro _ w ⟨s', r', dv', heq, rfl, h⟩
   have of_ := Own.form h
   obtain ⟨ad, cd, hdv, _⟩ := of_
   subst hdv
   refine WL.eff (eff_storeW (vs := [.int .i64 _, .int .i64 _, .int .i64 _, .slice _ _ _, .int .i64 _]) h sizeOf36 rfl rfl rfl rfl rfl) rfl rfl ?_
   rintro _ w h
   refine WL.nil (W.ret (bodyQ.rcB (vs := [.int .i64 _, .int .i64 _, .int .i64 _, .slice _ _ _, .int .i64 _]) h results31 isAgg36 sizeOf36 rfl rfl rfl ?_))
   have he : actM u i (⟨kind, at_, n, data, key, new, typ, force⟩ : Cm) = (u.setS s', r') := by rw [actM_run (by show 2 ≤ kind; omega) (by show kind ≤ 6; omega), heq]
   exact ⟨u.setS s', r', _, he, rfl, h.to⟩
  refine W.skip (W.seq (W.seq (W.region (WL.val (run_eql rfl rfl) rfl rfl (WL.val run_assign rfl rfl (WL.nil ?_))))))
  refine W.condIf rfl (fun c44 => ?_) (fun c44 => ?_)
  ·
   refine W.exit (W.seq (W.seq ?_))
   have ob_ := openU (h.fetch (UnP 68 105 113 bu pool ms u))
   obtain ⟨bs, bt, gs, hm, hl, h⟩ := ob_
   refine W.draw Tryz.follows h (fun w h => ?_)
   refine WT.pure 0 rfl (by kernel_rfl) (fun w' => run_move) rfl rfl (WT.pure 1 rfl (by kernel_rfl) (fun w' => run_move) rfl rfl (WT.pure 2 rfl (by kernel_rfl) (fun w' => (run_nilCheck rfl)) rfl rfl (WT.pure 3 rfl (by kernel_rfl) (fun w' => (run_fieldAddr 1 underlying68 rfl sizeOf59 rfl rfl)) rfl rfl (WT.load1 4 rfl (by kernel_rfl) isAgg59 rfl (h.cellB rfl) rfl rfl (WT.pure 5 rfl (by kernel_rfl) (fun w' => run_move) rfl rfl (WT.pure 6 rfl (by kernel_rfl) (fun w' => (run_fieldAddr 4 underlying25 rfl sizeOf23 rfl rfl)) rfl rfl (WT.load1 7 rfl (by kernel_rfl) isAgg23 rfl (h.cellB rfl) rfl rfl ?_)))))))
   refine WT.pure 8 rfl (by kernel_rfl) (fun w' => (run_fieldAddr 5 underlying25 rfl sizeOf23 rfl rfl)) rfl rfl (WT.load1 9 rfl (by kernel_rfl) isAgg23 rfl (h.cellB rfl) rfl rfl (WT.pure 10 rfl (by kernel_rfl) (fun w' => (run_fieldAddr 0 underlying25 rfl sizeOf3 rfl rfl)) rfl rfl (WT.load1 11 rfl (by kernel_rfl) isAgg3 rfl (h.cellB rfl) rfl rfl (WT.pure 12 rfl (by kernel_rfl) (fun w' => (run_eql rfl rfl)) rfl rfl (WT.eff 13 [false, false, false, false] rfl (by kernel_rfl) (by kernel_rfl) (eff_call call66 (uregister_ok (key := key) (fresh := new) (ign := decide (kind = 11)) (i := i) (t := u.t) hi (h.fetch (blk bt u.t.cells 113)))) rfl rfl ?_)))))
   rintro v63 w ⟨a63, c63, hv63, h⟩
   have hX := rvM_reg (t := u.t) (i := i) (c := (⟨kind, at_, n, data, key, new, typ, force⟩ : Cm)) (show kind = 10 ∨ kind = 11 by omega)
   rw [← hX] at hv63 h
   subst hv63
   have h := closeU (bu := bu) (u := u.setT (rvM u.t i (⟨kind, at_, n, data, key, new, typ, force⟩ : Cm)).t) hm hl ((((h.fetch (Big (GOwn pool) gs)).fetch (blk bt (rvM u.t i (⟨kind, at_, n, data, key, new, typ, force⟩ : Cm)).t.cells 113)).fetch (SpP 105 bs u.s)).fetch (blk bu (ucells bs bt gs) 68))
   refine ⟨trivial, ?_⟩
   refine WT.pure 14 rfl (by kernel_rfl) (fun w' => (run_extract rfl rfl)) rfl rfl (WT.pure 15 rfl (by kernel_rfl) (fun w' => (run_extract rfl rfl)) rfl rfl ?_)
   refine WT.eff 16 [] rfl (by kernel_rfl) (by kernel_rfl) (eff_call call65 (unoticed_ok (bu := bu) (u := u.setT (rvM u.t i (⟨kind, at_, n, data, key, new, typ, force⟩ : Cm)).t) (l := (rvM u.t i (⟨kind, at_, n, data, key, new, typ, force⟩ : Cm)).l) (code := (rvM u.t i (⟨kind, at_, n, data, key, new, typ, force⟩ : Cm)).code) (a := a63) (c := c63) (rv := (rvM u.t i (⟨kind, at_, n, data, key, new, typ, force⟩ : Cm)).r.val (.slice none 0 0)) (z0 := (rvM u.t i (⟨kind, at_, n, data, key, new, typ, force⟩ : Cm)).r.st) (z1 := (rvM u.t i (⟨kind, at_, n, data, key, new, typ, force⟩ : Cm)).r.key) (z2 := (rvM u.t i (⟨kind, at_, n, data, key, new, typ, force⟩ : Cm)).r.code) (z4 := (rvM u.t i (⟨kind, at_, n, data, key, new, typ, force⟩ : Cm)).r.info) rvM_l.2.2.2 rvM_l.2.1 hsm rfl ((h.fetch (Own 2 (.slice a63 (rvM u.t i (⟨kind, at_, n, data, key, new, typ, force⟩ : Cm)).l.length c63) (rvM u.t i (⟨kind, at_, n, data, key, new, typ, force⟩ : Cm)).l.length (notesV (rvM u.t i (⟨kind, at_, n, data, key, new, typ, force⟩ : Cm)).code (rvM u.t i (⟨kind, at_, n, data, key, new, typ, force⟩ : Cm)).l))).fetch (UnP 68 105 113 bu pool ms (u.setT (rvM u.t i (⟨kind, at_, n, data, key, new, typ, force⟩ : Cm)).t))))) rfl rfl ?_
   rintro _ w ⟨rfl, h⟩
   refine ⟨trivial, ?_⟩
   refine WT.eff 17 [] rfl (by kernel_rfl) (by kernel_rfl) (eff_storeW (vs := [.int .i64 _, .int .i64 _, .int .i64 _, .slice _ _ _, .int .i64 _]) h sizeOf36 rfl rfl rfl rfl rfl) rfl rfl ?_
   rintro _ w h
   refine ⟨trivial, ?_⟩
   refine WT.done (by kernel_rfl) (W.ret (bodyQ.rcB (vs := [.int .i64 _, .int .i64 _, .int .i64 _, .slice _ _ _, .int .i64 _]) h results31 isAgg36 sizeOf36 rfl rfl rfl ?_))
   have he := actM_rv (u := u) (i := i) (c := (⟨kind, at_, n, data, key, new, typ, force⟩ : Cm)) (by show 10 ≤ kind; omega) (by show kind ≤ 15; omega)
   have h := On.nilData (r := (rvM u.t i (⟨kind, at_, n, data, key, new, typ, force⟩ : Cm)).r) rvM_r h
   exact ⟨_, _, .slice none 0 0, he, rfl, h.to⟩
  refine W.skip (W.seq (W.seq (W.region (WL.val (run_eql rfl rfl) rfl rfl (WL.val run_assign rfl rfl (WL.nil ?_))))))
  refine W.condIf rfl (fun c48 => ?_) (fun c48 => ?_)
  ·
   refine W.exit (W.seq (W.seq ?_))
   have ob_ := openU (h.fetch (UnP 68 105 113 bu pool ms u))
   obtain ⟨bs, bt, gs, hm, hl, h⟩ := ob_
   refine W.draw Tryz.follows h (fun w h => ?_)
   refine WT.pure 0 rfl (by kernel_rfl) (fun w' => run_move) rfl rfl (WT.pure 1 rfl (by kernel_rfl) (fun w' => run_move) rfl rfl (WT.pure 2 rfl (by kernel_rfl) (fun w' => (run_nilCheck rfl)) rfl rfl (WT.pure 3 rfl (by kernel_rfl) (fun w' => (run_fieldAddr 1 underlying68 rfl sizeOf59 rfl rfl)) rfl rfl (WT.load1 4 rfl (by kernel_rfl) isAgg59 rfl (h.cellB rfl) rfl rfl (WT.pure 5 rfl (by kernel_rfl) (fun w' => run_move) rfl rfl (WT.pure 6 rfl (by kernel_rfl) (fun w' => (run_fieldAddr 4 underlying25 rfl sizeOf23 rfl rfl)) rfl rfl (WT.load1 7 rfl (by kernel_rfl) isAgg23 rfl (h.cellB rfl) rfl rfl ?_)))))))
   refine WT.pure 8 rfl (by kernel_rfl) (fun w' => (run_fieldAddr 5 underlying25 rfl sizeOf23 rfl rfl)) rfl rfl (WT.load1 9 rfl (by kernel_rfl) isAgg23 rfl (h.cellB rfl) rfl rfl (WT.pure 10 rfl (by kernel_rfl) (fun w' => (run_fieldAddr 0 underlying25 rfl sizeOf3 rfl rfl)) rfl rfl (WT.load1 11 rfl (by kernel_rfl) isAgg3 rfl (h.cellB rfl) rfl rfl (WT.pure 12 rfl (by kernel_rfl) (fun w' => (run_eql rfl rfl)) rfl rfl (WT.eff 13 [false, false, false, false] rfl (by kernel_rfl) (by kernel_rfl) (eff_call call66 (uregister_ok (key := key) (fresh := new) (ign := decide (kind = 11)) (i := i) (t := u.t) hi (h.fetch (blk bt u.t.cells 113)))) rfl rfl ?_)))))
   rintro v63 w ⟨a63, c63, hv63, h⟩
   have hX := rvM_reg (t := u.t) (i := i) (c := (⟨kind, at_, n, data, key, new, typ, force⟩ : Cm)) (show kind = 10 ∨ kind = 11 by omega)
   rw [← hX] at hv63 h
   subst hv63
   have h := closeU (bu := bu) (u := u.setT (rvM u.t i (⟨kind, at_, n, data, key, new, typ, force⟩ : Cm)).t) hm hl ((((h.fetch (Big (GOwn pool) gs)).fetch (blk bt (rvM u.t i (⟨kind, at_, n, data, key, new, typ, force⟩ : Cm)).t.cells 113)).fetch (SpP 105 bs u.s)).fetch (blk bu (ucells bs bt gs) 68))
   refine ⟨trivial, ?_⟩
   refine WT.pure 14 rfl (by kernel_rfl) (fun w' => (run_extract rfl rfl)) rfl rfl (WT.pure 15 rfl (by kernel_rfl) (fun w' => (run_extract rfl rfl)) rfl rfl ?_)
   refine WT.eff 16 [] rfl (by kernel_rfl) (by kernel_rfl) (eff_call call65 (unoticed_ok (bu := bu) (u := u.setT (rvM u.t i (⟨kind, at_, n, data, key, new, typ, force⟩ : Cm)).t) (l := (rvM u.t i (⟨kind, at_, n, data, key, new, typ, force⟩ : Cm)).l) (code := (rvM u.t i (⟨kind, at_, n, data, key, new, typ, force⟩ : Cm)).code) (a := a63) (c := c63) (rv := (rvM u.t i (⟨kind, at_, n, data, key, new, typ, force⟩ : Cm)).r.val (.slice none 0 0)) (z0 := (rvM u.t i (⟨kind, at_, n, data, key, new, typ, force⟩ : Cm)).r.st) (z1 := (rvM u.t i (⟨kind, at_, n, data, key, new, typ, force⟩ : Cm)).r.key) (z2 := (rvM u.t i (⟨kind, at_, n, data, key, new, typ, force⟩ : Cm)).r.code) (z4 := (rvM u.t i (⟨kind, at_, n, data, key, new, typ, force⟩ : Cm)).r.info) rvM_l.2.2.2 rvM_l.2.1 hsm rfl ((h.fetch (Own 2 (.slice a63 (rvM u.t i (⟨kind, at_, n, data, key, new, typ, force⟩ : Cm)).l.length c63) (rvM u.t i (⟨kind, at_, n, data, key, new, typ, force⟩ : Cm)).l.length (notesV (rvM u.t i (⟨kind, at_, n, data, key, new, typ, force⟩ : Cm)).code (rvM u.t i (⟨kind, at_, n, data, key, new, typ, force⟩ : Cm)).l))).fetch (UnP 68 105 113 bu pool ms (u.setT (rvM u.t i (⟨kind, at_, n, data, key, new, typ, force⟩ : Cm)).t))))) rfl rfl ?_
   rintro _ w ⟨rfl, h⟩
   refine ⟨trivial, ?_⟩
   refine WT.eff 17 [] rfl (by kernel_rfl) (by kernel_rfl) (eff_storeW (vs := [.int .i64 _, .int .i64 _, .int .i64 _, .slice _ _ _, .int .i64 _]) h sizeOf36 rfl rfl rfl rfl rfl) rfl rfl ?_
   rintro _ w h
   refine ⟨trivial, ?_⟩
   refine WT.done (by kernel_rfl) (W.ret (bodyQ.rcB (vs := [.int .i64 _, .int .i64 _, .int .i64 _, .slice _ _ _, .int .i64 _]) h results31 isAgg36 sizeOf36 rfl rfl rfl ?_))
   have he := actM_rv (u := u) (i := i) (c := (⟨kind, at_, n, data, key, new, typ, force⟩ : Cm)) (by show 10 ≤ kind; omega) (by show kind ≤ 15; omega)
   have h := On.nilData (r := (rvM u.t i (⟨kind, at_, n, data, key, new, typ, force⟩ : Cm)).r) rvM_r h
   exact ⟨_, _, .slice none 0 0, he, rfl, h.to⟩
  refine W.skip (W.seq (W.seq (W.region (WL.val (run_eql rfl rfl) rfl rfl (WL.val run_assign rfl rfl (WL.nil ?_))))))
  refine W.condIf rfl (fun c52 => ?_) (fun c52 => ?_)
  ·
   refine W.exit (W.seq (W.seq ?_))
   have ob_ := openU (h.fetch (UnP 68 105 113 bu pool ms u))
   obtain ⟨bs, bt, gs, hm, hl, h⟩ := ob_
   refine W.draw Tryz.follows h (fun w h => ?_)
   refine WT.pure 0 rfl (by kernel_rfl) (fun w' => run_move) rfl rfl (WT.pure 1 rfl (by kernel_rfl) (fun w' => (run_nilCheck rfl)) rfl rfl (WT.pure 2 rfl (by kernel_rfl) (fun w' => (run_fieldAddr 1 underlying68 rfl sizeOf59 rfl rfl)) rfl rfl (WT.load1 3 rfl (by kernel_rfl) isAgg59 rfl (h.cellB rfl) rfl rfl (WT.pure 4 rfl (by kernel_rfl) (fun w' => run_move) rfl rfl (WT.pure 5 rfl (by kernel_rfl) (fun w' => (run_fieldAddr 4 underlying25 rfl sizeOf23 rfl rfl)) rfl rfl (WT.load1 6 rfl (by kernel_rfl) isAgg23 rfl (h.cellB rfl) rfl rfl (WT.pure 7 rfl (by kernel_rfl) (fun w' => (run_fieldAddr 6 underlying25 rfl sizeOf3 rfl rfl)) rfl rfl ?_)))))))
   refine WT.load1 8 rfl (by kernel_rfl) isAgg3 rfl (h.cellB rfl) rfl rfl (WT.eff 9 [false, false, false] rfl (by kernel_rfl) (by kernel_rfl) (eff_call call67 (ureserve_ok (key := key) (typ := typ) (i := i) (t := u.t) hi (h.fetch (blk bt u.t.cells 113)))) rfl rfl ?_)
   rintro v76 w ⟨hv76, h⟩
   have hX := rvM_rsv (t := u.t) (i := i) (c := (⟨kind, at_, n, data, key, new, typ, force⟩ : Cm)) (show kind = 12 by omega)
   rw [← hX] at hv76 h
   subst hv76
   have h := closeU (bu := bu) (u := u.setT (rvM u.t i (⟨kind, at_, n, data, key, new, typ, force⟩ : Cm)).t) hm hl ((((h.fetch (Big (GOwn pool) gs)).fetch (blk bt (rvM u.t i (⟨kind, at_, n, data, key, new, typ, force⟩ : Cm)).t.cells 113)).fetch (SpP 105 bs u.s)).fetch (blk bu (ucells bs bt gs) 68))
   refine ⟨trivial, ?_⟩
   refine WT.eff 10 [] rfl (by kernel_rfl) (by kernel_rfl) (eff_storeW (vs := [.int .i64 _, .int .i64 _, .int .i64 _, .slice _ _ _, .int .i64 _]) h sizeOf36 rfl rfl rfl rfl rfl) rfl rfl ?_
   rintro _ w h
   refine ⟨trivial, ?_⟩
   refine WT.done (by kernel_rfl) (W.ret (bodyQ.rcB (vs := [.int .i64 _, .int .i64 _, .int .i64 _, .slice _ _ _, .int .i64 _]) h results31 isAgg36 sizeOf36 rfl rfl rfl ?_))
   have he := actM_rv (u := u) (i := i) (c := (⟨kind, at_, n, data, key, new, typ, force⟩ : Cm)) (by show 10 ≤ kind; omega) (by show kind ≤ 15; omega)
   have hX0 : (rvM u.t i (⟨kind, at_, n, data, key, new, typ, force⟩ : Cm)).l = [] := by rw [hX]; exact rsvF_l
   have he : actM u i (⟨kind, at_, n, data, key, new, typ, force⟩ : Cm) = (u.setT (rvM u.t i (⟨kind, at_, n, data, key, new, typ, force⟩ : Cm)).t, (rvM u.t i (⟨kind, at_, n, data, key, new, typ, force⟩ : Cm)).r) := by rw [he, hX0]; rfl
   have h := On.nilData (r := (rvM u.t i (⟨kind, at_, n, data, key, new, typ, force⟩ : Cm)).r) rvM_r h
   exact ⟨_, _, .slice none 0 0, he, rfl, h.to⟩
  refine W.skip (W.seq (W.seq (W.region (WL.val (run_eql rfl rfl) rfl rfl (WL.val run_assign rfl rfl (WL.nil ?_))))))
  refine W.condIf rfl (fun c56 => ?_) (fun c56 => ?_)
  ·
   refine W.exit (W.seq (W.seq ?_))
   have ob_ := openU (h.fetch (UnP 68 105 113 bu pool ms u))
   obtain ⟨bs, bt, gs, hm, hl, h⟩ := ob_
   refine W.draw Tryz.follows h (fun w h => ?_)
   refine WT.pure 0 rfl (by kernel_rfl) (fun w' => run_move) rfl rfl (WT.pure 1 rfl (by kernel_rfl) (fun w' => run_move) rfl rfl (WT.pure 2 rfl (by kernel_rfl) (fun w' => (run_nilCheck rfl)) rfl rfl (WT.pure 3 rfl (by kernel_rfl) (fun w' => (run_fieldAddr 1 underlying68 rfl sizeOf59 rfl rfl)) rfl rfl (WT.load1 4 rfl (by kernel_rfl) isAgg59 rfl (h.cellB rfl) rfl rfl (WT.pure 5 rfl (by kernel_rfl) (fun w' => run_move) rfl rfl (WT.pure 6 rfl (by kernel_rfl) (fun w' => (run_fieldAddr 4 underlying25 rfl sizeOf23 rfl rfl)) rfl rfl (WT.load1 7 rfl (by kernel_rfl) isAgg23 rfl (h.cellB rfl) rfl rfl ?_)))))))
   refine WT.pure 8 rfl (by kernel_rfl) (fun w' => (run_fieldAddr 6 underlying25 rfl sizeOf3 rfl rfl)) rfl rfl (WT.load1 9 rfl (by kernel_rfl) isAgg3 rfl (h.cellB rfl) rfl rfl (WT.eff 10 [false, false, false] rfl (by kernel_rfl) (by kernel_rfl) (eff_call call68 (urelease_ok (key := key) (typ := typ) (i := i) (t := u.t) hi (h.fetch (blk bt u.t.cells 113)))) rfl rfl ?_))
   rintro v87 w ⟨a87, c87, hv87, h⟩
   have hX := rvM_rel (t := u.t) (i := i) (c := (⟨kind, at_, n, data, key, new, typ, force⟩ : Cm)) (show kind = 13 by omega)
   rw [← hX] at hv87 h
   subst hv87
   have h := closeU (bu := bu) (u := u.setT (rvM u.t i (⟨kind, at_, n, data, key, new, typ, force⟩ : Cm)).t) hm hl ((((h.fetch (Big (GOwn pool) gs)).fetch (blk bt (rvM u.t i (⟨kind, at_, n, data, key, new, typ, force⟩ : Cm)).t.cells 113)).fetch (SpP 105 bs u.s)).fetch (blk bu (ucells bs bt gs) 68))
   refine ⟨trivial, ?_⟩
   refine WT.pure 11 rfl (by kernel_rfl) (fun w' => (run_extract rfl rfl)) rfl rfl (WT.pure 12 rfl (by kernel_rfl) (fun w' => (run_extract rfl rfl)) rfl rfl ?_)
   refine WT.eff 13 [] rfl (by kernel_rfl) (by kernel_rfl) (eff_call call65 (unoticed_ok (bu := bu) (u := u.setT (rvM u.t i (⟨kind, at_, n, data, key, new, typ, force⟩ : Cm)).t) (l := (rvM u.t i (⟨kind, at_, n, data, key, new, typ, force⟩ : Cm)).l) (code := (rvM u.t i (⟨kind, at_, n, data, key, new, typ, force⟩ : Cm)).code) (a := a87) (c := c87) (rv := (rvM u.t i (⟨kind, at_, n, data, key, new, typ, force⟩ : Cm)).r.val (.slice none 0 0)) (z0 := (rvM u.t i (⟨kind, at_, n, data, key, new, typ, force⟩ : Cm)).r.st) (z1 := (rvM u.t i (⟨kind, at_, n, data, key, new, typ, force⟩ : Cm)).r.key) (z2 := (rvM u.t i (⟨kind, at_, n, data, key, new, typ, force⟩ : Cm)).r.code) (z4 := (rvM u.t i (⟨kind, at_, n, data, key, new, typ, force⟩ : Cm)).r.info) rvM_l.2.2.2 rvM_l.2.1 hsm rfl ((h.fetch (Own 2 (.slice a87 (rvM u.t i (⟨kind, at_, n, data, key, new, typ, force⟩ : Cm)).l.length c87) (rvM u.t i (⟨kind, at_, n, data, key, new, typ, force⟩ : Cm)).l.length (notesV (rvM u.t i (⟨kind, at_, n, data, key, new, typ, force⟩ : Cm)).code (rvM u.t i (⟨kind, at_, n, data, key, new, typ, force⟩ : Cm)).l))).fetch (UnP 68 105 113 bu pool ms (u.setT (rvM u.t i (⟨kind, at_, n, data, key, new, typ, force⟩ : Cm)).t))))) rfl rfl ?_
   rintro _ w ⟨rfl, h⟩
   refine ⟨trivial, ?_⟩
   refine WT.eff 14 [] rfl (by kernel_rfl) (by kernel_rfl) (eff_storeW (vs := [.int .i64 _, .int .i64 _, .int .i64 _, .slice _ _ _, .int .i64 _]) h sizeOf36 rfl rfl rfl rfl rfl) rfl rfl ?_
   rintro _ w h
   refine ⟨trivial, ?_⟩
   refine WT.done (by kernel_rfl) (W.ret (bodyQ.rcB (vs := [.int .i64 _, .int .i64 _, .int .i64 _, .slice _ _ _, .int .i64 _]) h results31 isAgg36 sizeOf36 rfl rfl rfl ?_))
   have he := actM_rv (u := u) (i := i) (c := (⟨kind, at_, n, data, key, new, typ, force⟩ : Cm)) (by show 10 ≤ kind; omega) (by show kind ≤ 15; omega)
   have h := On.nilData (r := (rvM u.t i (⟨kind, at_, n, data, key, new, typ, force⟩ : Cm)).r) rvM_r h
   exact ⟨_, _, .slice none 0 0, he, rfl, h.to⟩
  refine W.skip (W.seq (W.seq (W.region (WL.val (run_eql rfl rfl) rfl rfl (WL.val run_assign rfl rfl (WL.nil ?_))))))
  refine W.condIf rfl (fun c60 => ?_) (fun c60 => ?_)
  ·
   refine W.exit (W.seq (W.seq ?_))
   have ob_ := openU (h.fetch (UnP 68 105 113 bu pool ms u))
   obtain ⟨bs, bt, gs, hm, hl, h⟩ := ob_
   refine W.draw Tryz.follows h (fun w h => ?_)
   refine WT.pure 0 rfl (by kernel_rfl) (fun w' => run_move) rfl rfl (WT.pure 1 rfl (by kernel_rfl) (fun w' => run_move) rfl rfl (WT.pure 2 rfl (by kernel_rfl) (fun w' => (run_nilCheck rfl)) rfl rfl (WT.pure 3 rfl (by kernel_rfl) (fun w' => (run_fieldAddr 1 underlying68 rfl sizeOf59 rfl rfl)) rfl rfl (WT.load1 4 rfl (by kernel_rfl) isAgg59 rfl (h.cellB rfl) rfl rfl (WT.pure 5 rfl (by kernel_rfl) (fun w' => run_move) rfl rfl (WT.pure 6 rfl (by kernel_rfl) (fun w' => (run_fieldAddr 4 underlying25 rfl sizeOf23 rfl rfl)) rfl rfl (WT.load1 7 rfl (by kernel_rfl) isAgg23 rfl (h.cellB rfl) rfl rfl ?_)))))))
   refine WT.eff 8 [false, false] rfl (by kernel_rfl) (by kernel_rfl) (eff_call call69 (uclear_ok (key := key) (i := i) (t := u.t) hi (h.fetch (blk bt u.t.cells 113)))) rfl rfl ?_
   rintro v99 w ⟨a99, c99, hv99, h⟩
   have hX := rvM_clr (t := u.t) (i := i) (c := (⟨kind, at_, n, data, key, new, typ, force⟩ : Cm)) (show kind = 14 by omega)
   rw [← hX] at hv99 h
   subst hv99
   have h := closeU (bu := bu) (u := u.setT (rvM u.t i (⟨kind, at_, n, data, key, new, typ, force⟩ : Cm)).t) hm hl ((((h.fetch (Big (GOwn pool) gs)).fetch (blk bt (rvM u.t i (⟨kind, at_, n, data, key, new, typ, force⟩ : Cm)).t.cells 113)).fetch (SpP 105 bs u.s)).fetch (blk bu (ucells bs bt gs) 68))
   refine ⟨trivial, ?_⟩
   refine WT.pure 9 rfl (by kernel_rfl) (fun w' => (run_extract rfl rfl)) rfl rfl (WT.pure 10 rfl (by kernel_rfl) (fun w' => (run_extract rfl rfl)) rfl rfl ?_)
   refine WT.eff 11 [] rfl (by kernel_rfl) (by kernel_rfl) (eff_call call65 (unoticed_ok (bu := bu) (u := u.setT (rvM u.t i (⟨kind, at_, n, data, key, new, typ, force⟩ : Cm)).t) (l := (rvM u.t i (⟨kind, at_, n, data, key, new, typ, force⟩ : Cm)).l) (code := (rvM u.t i (⟨kind, at_, n, data, key, new, typ, force⟩ : Cm)).code) (a := a99) (c := c99) (rv := (rvM u.t i (⟨kind, at_, n, data, key, new, typ, force⟩ : Cm)).r.val (.slice none 0 0)) (z0 := (rvM u.t i (⟨kind, at_, n, data, key, new, typ, force⟩ : Cm)).r.st) (z1 := (rvM u.t i (⟨kind, at_, n, data, key, new, typ, force⟩ : Cm)).r.key) (z2 := (rvM u.t i (⟨kind, at_, n, data, key, new, typ, force⟩ : Cm)).r.code) (z4 := (rvM u.t i (⟨kind, at_, n, data, key, new, typ, force⟩ : Cm)).r.info) rvM_l.2.2.2 rvM_l.2.1 hsm rfl ((h.fetch (Own 2 (.slice a99 (rvM u.t i (⟨kind, at_, n, data, key, new, typ, force⟩ : Cm)).l.length c99) (rvM u.t i (⟨kind, at_, n, data, key, new, typ, force⟩ : Cm)).l.length (notesV (rvM u.t i (⟨kind, at_, n, data, key, new, typ, force⟩ : Cm)).code (rvM u.t i (⟨kind, at_, n, data, key, new, typ, force⟩ : Cm)).l))).fetch (UnP 68 105 113 bu pool ms (u.setT (rvM u.t i (⟨kind, at_, n, data, key, new, typ, force⟩ : Cm)).t))))) rfl rfl ?_
   rintro _ w ⟨rfl, h⟩
   refine ⟨trivial, ?_⟩
   refine WT.eff 12 [] rfl (by kernel_rfl) (by kernel_rfl) (eff_storeW (vs := [.int .i64 _, .int .i64 _, .int .i64 _, .slice _ _ _, .int .i64 _]) h sizeOf36 rfl rfl rfl rfl rfl) rfl rfl ?_
   rintro _ w h
   refine ⟨trivial, ?_⟩
   refine WT.done (by kernel_rfl) (W.ret (bodyQ.rcB (vs := [.int .i64 _, .int .i64 _, .int .i64 _, .slice _ _ _, .int .i64 _]) h results31 isAgg36 sizeOf36 rfl rfl rfl ?_))
   have he := actM_rv (u := u) (i := i) (c := (⟨kind, at_, n, data, key, new, typ, force⟩ : Cm)) (by show 10 ≤ kind; omega) (by show kind ≤ 15; omega)
   have h := On.nilData (r := (rvM u.t i (⟨kind, at_, n, data, key, new, typ, force⟩ : Cm)).r) rvM_r h
   exact ⟨_, _, .slice none 0 0, he, rfl, h.to⟩
  refine W.skip (W.seq (W.seq (W.region (WL.val (run_eql rfl rfl) rfl rfl (WL.val run_assign rfl rfl (WL.nil ?_))))))
  refine W.condIf rfl (fun c64 => ?_) (fun c64 => ?_)
  ·
   refine W.exit (W.seq (W.seq ?_))
   have ob_ := openU (h.fetch (UnP 68 105 113 bu pool ms u))
   obtain ⟨bs, bt, gs, hm, hl, h⟩ := ob_
   refine W.draw Tryz.follows h (fun w h => ?_)
   refine WT.pure 0 rfl (by kernel_rfl) (fun w' => run_move) rfl rfl (WT.pure 1 rfl (by kernel_rfl) (fun w' => run_move) rfl rfl (WT.pure 2 rfl (by kernel_rfl) (fun w' => (run_nilCheck rfl)) rfl rfl (WT.pure 3 rfl (by kernel_rfl) (fun w' => (run_fieldAddr 1 underlying68 rfl sizeOf59 rfl rfl)) rfl rfl (WT.load1 4 rfl (by kernel_rfl) isAgg59 rfl (h.cellB rfl) rfl rfl (WT.pure 5 rfl (by kernel_rfl) (fun w' => run_move) rfl rfl (WT.pure 6 rfl (by kernel_rfl) (fun w' => (run_fieldAddr 4 underlying25 rfl sizeOf23 rfl rfl)) rfl rfl (WT.load1 7 rfl (by kernel_rfl) isAgg23 rfl (h.cellB rfl) rfl rfl ?_)))))))
   refine WT.pure 8 rfl (by kernel_rfl) (fun w' => (run_fieldAddr 5 underlying25 rfl sizeOf23 rfl rfl)) rfl rfl (WT.load1 9 rfl (by kernel_rfl) isAgg23 rfl (h.cellB rfl) rfl rfl (WT.pure 10 rfl (by kernel_rfl) (fun w' => (run_fieldAddr 6 underlying25 rfl sizeOf3 rfl rfl)) rfl rfl (WT.load1 11 rfl (by kernel_rfl) isAgg3 rfl (h.cellB rfl) rfl rfl (WT.eff 12 [false, false, false, false] rfl (by kernel_rfl) (by kernel_rfl) (eff_call call70 (upreempt_ok (key := key) (other := new) (typ := typ) (ii := i) (t := u.t) hi (goodT_hold hgu_.1) (h.fetch (blk bt u.t.cells 113)))) rfl rfl ?_))))
   rintro v115 w ⟨a115, c115, hv115, h⟩
   have hX := rvM_pre (t := u.t) (i := i) (c := (⟨kind, at_, n, data, key, new, typ, force⟩ : Cm)) (show kind = 15 by omega)
   rw [← hX] at hv115 h
   subst hv115
   have h := closeU (bu := bu) (u := u.setT (rvM u.t i (⟨kind, at_, n, data, key, new, typ, force⟩ : Cm)).t) hm hl ((((h.fetch (Big (GOwn pool) gs)).fetch (blk bt (rvM u.t i (⟨kind, at_, n, data, key, new, typ, force⟩ : Cm)).t.cells 113)).fetch (SpP 105 bs u.s)).fetch (blk bu (ucells bs bt gs) 68))
   refine ⟨trivial, ?_⟩
   refine WT.pure 13 rfl (by kernel_rfl) (fun w' => (run_extract rfl rfl)) rfl rfl (WT.pure 14 rfl (by kernel_rfl) (fun w' => (run_extract rfl rfl)) rfl rfl ?_)
   refine WT.eff 15 [] rfl (by kernel_rfl) (by kernel_rfl) (eff_call call65 (unoticed_ok (bu := bu) (u := u.setT (rvM u.t i (⟨kind, at_, n, data, key, new, typ, force⟩ : Cm)).t) (l := (rvM u.t i (⟨kind, at_, n, data, key, new, typ, force⟩ : Cm)).l) (code := (rvM u.t i (⟨kind, at_, n, data, key, new, typ, force⟩ : Cm)).code) (a := a115) (c := c115) (rv := (rvM u.t i (⟨kind, at_, n, data, key, new, typ, force⟩ : Cm)).r.val (.slice none 0 0)) (z0 := (rvM u.t i (⟨kind, at_, n, data, key, new, typ, force⟩ : Cm)).r.st) (z1 := (rvM u.t i (⟨kind, at_, n, data, key, new, typ, force⟩ : Cm)).r.key) (z2 := (rvM u.t i (⟨kind, at_, n, data, key, new, typ, force⟩ : Cm)).r.code) (z4 := (rvM u.t i (⟨kind, at_, n, data, key, new, typ, force⟩ : Cm)).r.info) rvM_l.2.2.2 rvM_l.2.1 hsm rfl ((h.fetch (Own 2 (.slice a115 (rvM u.t i (⟨kind, at_, n, data, key, new, typ, force⟩ : Cm)).l.length c115) (rvM u.t i (⟨kind, at_, n, data, key, new, typ, force⟩ : Cm)).l.length (notesV (rvM u.t i (⟨kind, at_, n, data, key, new, typ, force⟩ : Cm)).code (rvM u.t i (⟨kind, at_, n, data, key, new, typ, force⟩ : Cm)).l))).fetch (UnP 68 105 113 bu pool ms (u.setT (rvM u.t i (⟨kind, at_, n, data, key, new, typ, force⟩ : Cm)).t))))) rfl rfl ?_
   rintro _ w ⟨rfl, h⟩
   refine ⟨trivial, ?_⟩
   refine WT.eff 16 [] rfl (by kernel_rfl) (by kernel_rfl) (eff_storeW (vs := [.int .i64 _, .int .i64 _, .int .i64 _, .slice _ _ _, .int .i64 _]) h sizeOf36 rfl rfl rfl rfl rfl) rfl rfl ?_
   rintro _ w h
   refine ⟨trivial, ?_⟩
   refine WT.done (by kernel_rfl) (W.ret (bodyQ.rcB (vs := [.int .i64 _, .int .i64 _, .int .i64 _, .slice _ _ _, .int .i64 _]) h results31 isAgg36 sizeOf36 rfl rfl rfl ?_))
   have he := actM_rv (u := u) (i := i) (c := (⟨kind, at_, n, data, key, new, typ, force⟩ : Cm)) (by show 10 ≤ kind; omega) (by show kind ≤ 15; omega)
   have h := On.nilData (r := (rvM u.t i (⟨kind, at_, n, data, key, new, typ, force⟩ : Cm)).r) rvM_r h
   exact ⟨_, _, .slice none 0 0, he, rfl, h.to⟩
  refine W.skip (W.seq (W.seq (W.region (WL.val (run_eql rfl rfl) rfl rfl (WL.val run_assign rfl rfl (WL.nil ?_))))))
  refine W.condIf rfl (fun c68 => ?_) (fun c68 => ?_)
  ·
   refine W.exit (W.seq (W.seq ?_))
   have ob_ := openU (h.fetch (UnP 68 105 113 bu pool ms u))
   obtain ⟨bs, bt, gs, hm, hl, h⟩ := ob_
   refine W.draw Tryz.follows h (fun w h => ?_)
   refine WT.pure 0 rfl (by kernel_rfl) (fun w' => run_move) rfl rfl (WT.pure 1 rfl (by kernel_rfl) (fun w' => (run_nilCheck rfl)) rfl rfl (WT.pure 2 rfl (by kernel_rfl) (fun w' => (run_fieldAddr 1 underlying68 rfl sizeOf59 rfl rfl)) rfl rfl (WT.load1 3 rfl (by kernel_rfl) isAgg59 rfl (h.cellB rfl) rfl rfl (WT.pure 5 rfl (by kernel_rfl) (fun w' => run_move) rfl rfl (WT.pure 6 rfl (by kernel_rfl) (fun w' => (run_nilCheck rfl)) rfl rfl (WT.pure 7 rfl (by kernel_rfl) (fun w' => (run_fieldAddr 1 underlying68 rfl sizeOf59 rfl rfl)) rfl rfl (WT.load1 8 rfl (by kernel_rfl) isAgg59 rfl (h.cellB rfl) rfl rfl ?_)))))))
   refine WT.eff 4 [true, false] rfl (by kernel_rfl) (by kernel_rfl) (eff_call call72 (generation_ok (t := u.t) (h.fetch (blk bt u.t.cells 113)))) rfl rfl ?_
   rintro v123 w ⟨hv123, h⟩
   rw [egen] at hv123
   subst hv123
   refine ⟨⟨h.cellB rfl, trivial⟩, ?_⟩
   refine WT.eff 9 [false] rfl (by kernel_rfl) (by kernel_rfl) (eff_call call73 (ukeys_ok (t := u.t) (b := bt) (h.fetch (blk bt u.t.cells 113)))) rfl rfl ?_
   rintro _ w ⟨a128, rfl, h⟩
   refine ⟨trivial, ?_⟩
   refine WT.eff 10 [] rfl (by kernel_rfl) (by kernel_rfl) (eff_call call71 (pkeys_ok (g := u.t.gen.toNat) (ks := keysN u.t.K 8) (ak := a128) (ck := (keysN u.t.K 8).length) (by have := hgok.2; omega) (fun x hx => by have hm := keysN_mem hx; obtain ⟨q, hq, e⟩ := hm; rw [e]; exact hgok.1 q hq) (keysN_len ..) h (Gives.ownO (v := .slice a128 (keysN u.t.K 8).length (keysN u.t.K 8).length)))) rfl rfl ?_
   rintro v129 w ⟨a129, hv129, h⟩
   rw [keysP_all] at hv129 h
   subst hv129
   refine ⟨trivial, ?_⟩
   refine WT.eff 11 [] rfl (by kernel_rfl) (by kernel_rfl) (eff_call call28 (sgood_ok (bs := keysB u.t) h (Gives.ownO (v := .slice a129 (keysB u.t).length (keysB u.t).length)) (by have := keysN_len u.t.K 8; rw [keysB_len]; omega))) rfl rfl ?_
   rintro _ w ⟨a130, rfl, h⟩
   have h := closeU (bu := bu) (u := u) hm hl ((((h.fetch (Big (GOwn pool) gs)).fetch (blk bt u.t.cells 113)).fetch (SpP 105 bs u.s)).fetch (blk bu (ucells bs bt gs) 68))
   refine ⟨trivial, ?_⟩
   refine WT.eff 12 [] rfl (by kernel_rfl) (by kernel_rfl) (eff_storeW (vs := [.int .i64 _, .int .i64 _, .int .i64 _, .slice _ _ _, .int .i64 _]) h sizeOf36 rfl rfl rfl rfl rfl) rfl rfl ?_
   rintro _ w h
   refine ⟨trivial, ?_⟩
   refine WT.done (by kernel_rfl) (W.ret (bodyQ.rcB (vs := [.int .i64 _, .int .i64 _, .int .i64 _, .slice _ _ _, .int .i64 _]) h results31 isAgg36 sizeOf36 rfl rfl rfl ?_))
   have h : On W0 (OwnB (.slice a130 ((keysB u.t)).length ((keysB u.t)).length) (gave ((keysB u.t))).data :: _) w := h.fetch (OwnB (.slice a130 ((keysB u.t)).length ((keysB u.t)).length) ((keysB u.t)))
   exact ⟨u, gave ((keysB u.t)), .slice a130 ((keysB u.t)).length ((keysB u.t)).length, (actM_keys (show kind = 16 by omega)), rfl, h.to⟩
  refine W.skip (W.seq (W.region (WL.val (run_eql rfl rfl) rfl rfl (WL.val run_assign rfl rfl (WL.nil ?_)))))
  refine W.condIf rfl (fun c72 => ?_) (fun c72 => ?_)
  ·
   refine W.exit (W.seq (W.seq ?_))
   have ob_ := openU (h.fetch (UnP 68 105 113 bu pool ms u))
   obtain ⟨bs, bt, gs, hm, hl, h⟩ := ob_
   refine W.region (WL.val run_move rfl rfl (WL.val (run_nilCheck rfl) rfl rfl (WL.val (run_fieldAddr 1 underlying68 rfl sizeOf59 rfl rfl) rfl rfl (WL.val (run_load1 isAgg59 rfl (h.cellB rfl)) rfl rfl (WL.eff (eff_call call74 (holder_ok (t := u.t) (b := bt) (h.fetch (blk bt u.t.cells 113)))) rfl rfl ?_)))))
   rintro v136 w ⟨hv136, h⟩
   have htyp := goodT_typ hgt
   have etyp : u.t.typ = ((u.t.typ.toNat : Nat) : Int) := by omega
   rw [etyp] at hv136
   subst hv136
   refine WL.val run_move rfl rfl (WL.val (run_extract rfl rfl) rfl rfl (WL.val (run_extract rfl rfl) rfl rfl (WL.val run_assign rfl rfl (WL.val run_assign rfl rfl (WL.nil (W.seq ?_))))))
   refine W.draw Tryz.follows h (fun w h => ?_)
   refine WT.pure 0 rfl (by kernel_rfl) (fun w' => run_move) rfl rfl (WT.pure 1 rfl (by kernel_rfl) (fun w' => (run_nilCheck rfl)) rfl rfl (WT.pure 2 rfl (by kernel_rfl) (fun w' => (run_fieldAddr 1 underlying68 rfl sizeOf59 rfl rfl)) rfl rfl (WT.load1 3 rfl (by kernel_rfl) isAgg59 rfl (h.cellB rfl) rfl rfl (WT.pure 5 rfl (by kernel_rfl) (fun w' => run_move) rfl rfl (WT.pure 6 rfl (by kernel_rfl) (fun w' => (run_nilCheck rfl)) rfl rfl (WT.pure 7 rfl (by kernel_rfl) (fun w' => (run_fieldAddr 1 underlying68 rfl sizeOf59 rfl rfl)) rfl rfl (WT.load1 8 rfl (by kernel_rfl) isAgg59 rfl (h.cellB rfl) rfl rfl ?_)))))))
   refine WT.pure 9 rfl (by kernel_rfl) (fun w' => run_move) rfl rfl (WT.pure 11 rfl (by kernel_rfl) (fun w' => run_move) rfl rfl (WT.eff 4 [true, false] rfl (by kernel_rfl) (by kernel_rfl) (eff_call call72 (generation_ok (t := u.t) (h.fetch (blk bt u.t.cells 113)))) rfl rfl ?_))
   rintro v143 w ⟨hv143, h⟩
   rw [egen] at hv143
   subst hv143
   refine ⟨⟨h.cellB rfl, trivial⟩, ?_⟩
   refine WT.eff 10 [false] rfl (by kernel_rfl) (by kernel_rfl) (eff_call call76 (ukey_ok (t := u.t) (b := bt) (hh := u.t.hold) (h.fetch (blk bt u.t.cells 113)))) rfl rfl ?_
   rintro v149 w ⟨hv149, h⟩
   have hv149 : v149 = .int .u64 (holdK u.t) := hv149
   have hkk : 0 ≤ holdK u.t ∧ holdK u.t < 18446744073709551616 := by
     unfold holdK
     split
     · rename_i hb
       have hb := hostB_iff.1 hb
       exact hgok.1 _ (by omega)
     · exact ⟨Int.le_refl 0, by decide⟩
   have ekk : holdK u.t = (((holdK u.t).toNat : Nat) : Int) := by omega
   rw [ekk] at hv149
   subst hv149
   refine ⟨trivial, ?_⟩
   refine WT.eff 12 [] rfl (by kernel_rfl) (by kernel_rfl) (eff_call call75 (pholder_ok (g := u.t.gen.toNat) (key := (holdK u.t).toNat) (y := u.t.typ.toNat) (by have := hgok.2; omega) (by omega) (by omega) h)) rfl rfl ?_
   rintro v151 w ⟨a151, hv151, h⟩
   rw [← holdB_P htyp.1] at hv151 h
   subst hv151
   refine ⟨trivial, ?_⟩
   refine WT.eff 13 [] rfl (by kernel_rfl) (by kernel_rfl) (eff_call call28 (sgood_ok (bs := holdB u.t) h (Gives.ownO (v := .slice a151 (holdB u.t).length (holdB u.t).length)) (by have := holdB_len u.t; omega))) rfl rfl ?_
   rintro _ w ⟨a152, rfl, h⟩
   have h := closeU (bu := bu) (u := u) hm hl ((((h.fetch (Big (GOwn pool) gs)).fetch (blk bt u.t.cells 113)).fetch (SpP 105 bs u.s)).fetch (blk bu (ucells bs bt gs) 68))
   refine ⟨trivial, ?_⟩
   refine WT.eff 14 [] rfl (by kernel_rfl) (by kernel_rfl) (eff_storeW (vs := [.int .i64 _, .int .i64 _, .int .i64 _, .slice _ _ _, .int .i64 _]) h sizeOf36 rfl rfl rfl rfl rfl) rfl rfl ?_
   rintro _ w h
   refine ⟨trivial, ?_⟩
   refine WT.done (by kernel_rfl) (W.ret (bodyQ.rcB (vs := [.int .i64 _, .int .i64 _, .int .i64 _, .slice _ _ _, .int .i64 _]) h results31 isAgg36 sizeOf36 rfl rfl rfl ?_))
   have h : On W0 (OwnB (.slice a152 ((holdB u.t)).length ((holdB u.t)).length) (gave ((holdB u.t))).data :: _) w := h.fetch (OwnB (.slice a152 ((holdB u.t)).length ((holdB u.t)).length) ((holdB u.t)))
   exact ⟨u, gave ((holdB u.t)), .slice a152 ((holdB u.t)).length ((holdB u.t)).length, (actM_hold (show kind = 17 by omega)), rfl, h.to⟩
  refine W.skip (W.exit (W.seq (W.seq (W.region (WL.val run_move rfl rfl (WL.nil (W.block ?_)))))))
  refine W.loop (fun (k : Nat) env w => k ≤ 8 ∧ ∃ j, env = mkE j [(0, .pointer (some ⟨bu, 0, none⟩)), (153, .int .i64 (k : Int)), (6, .pointer (some ⟨b6, 0, none⟩))] ∧ On W0 (UnP 68 105 113 bu pool ms (resetN u k) :: blk b6 [.int .i64 0, .int .i64 0, .int .i64 0, .slice none 0 0, .int .i64 0] 36 :: L) w) (fun k => 8 - k) (0) ?_ ?_
  · have h : On W0 (UnP 68 105 113 bu pool ms (resetN u 0) :: _) w := h.fetch (UnP 68 105 113 bu pool ms u)
    exact ⟨Nat.zero_le _, _, mkE_of ⟨rfl, rfl, rfl, trivial⟩, h.to⟩
  rintro k env w ⟨hk8, j, rfl, h⟩
  refine W.seq (W.region (WL.val (run_lss rfl rfl) rfl rfl (WL.nil (W.seq ?_))))
  refine W.condIf rfl (fun c114 => ?_) (fun c114 => ?_)
  ·
   refine W.skip (W.seq ?_)
   have hk7 : k < 8 := by omega
   have hsk : ((resetN u k).guest k).codes.length ≤ 1000000 := by rw [resetN_guest k (Nat.le_refl _)]; exact hsm1 k hk7
   refine W.block (W.seq (W.region (WL.val run_move rfl rfl (WL.val run_assign rfl rfl (WL.nil (W.region (WL.val run_move rfl rfl ?_)))))))
   refine WL.val run_move rfl rfl (WL.eff (eff_call call77 (tell_ok (i := k) hk7 hsk h)) rfl rfl ?_)
   rintro _ w h
   have h : On W0 (UnP 68 105 113 bu pool ms (resetN u (k + 1)) :: _) w := h
   refine WL.nil (W.region (WL.val (run_incN rfl rfl (by omega)) rfl rfl (WL.val run_move rfl rfl (WL.nil ?_))))
   exact ⟨k + 1, ⟨by omega, _, mkE_of ⟨rfl, rfl, rfl, trivial⟩, h⟩, by show 8 - (k + 1) < 8 - k; omega⟩
  refine W.exit (W.seq (W.region (WL.val (run_buildS (pl := [(0, 1), (1, 1), (2, 1), (3, 1), (4, 1)]) (out := [.int .i64 _, .int .i64 _, .int .i64 _, .slice _ _ _, .int .i64 _]) underlying36 zeroValue36 (fun w => by kernel_rfl) rfl (trivial) rfl) rfl rfl (WL.eff (eff_storeW (vs := [.int .i64 _, .int .i64 _, .int .i64 _, .slice _ _ _, .int .i64 _]) h sizeOf36 rfl rfl rfl rfl rfl) rfl rfl ?_))))
  rintro _ w h
  refine WL.nil (W.ret (bodyQ.rcB (vs := [.int .i64 _, .int .i64 _, .int .i64 _, .slice _ _ _, .int .i64 _]) h results31 isAgg36 sizeOf36 rfl rfl rfl ?_))
  have ob_ : k = 8 := by omega
  obtain rfl := ob_
  have h : On W0 (OwnB (.slice none 0 0) (plain 0 0 0 : Rp).data :: _) w := h.ownEmpty 1 none
  exact ⟨(resetN u 8), plain 0 0 0, .slice none 0 0, (actM_reset (by show kind = 18; omega)), rfl, h.to⟩
theorem udo_ok {bu : Nat} {hh : Int} {u : Un} {pool : PoolL} {ms : List Nat} {kind at_ n key new typ : Int} {force : Bool} {data : List UInt8} {ax : Option Addr} {cx : Nat} (hsm : small 999000 u) (hgu_ : goodU u) (hcm : okCm (⟨kind, at_, n, data, key, new, typ, force⟩ : Cm)) (h : On W0 (UnP 68 105 113 bu pool ms u :: L) w) (C : Gives L (Bytes (.slice ax data.length cx) data)) (hd : data.length ≤ 1000000) : Calls Tryz.prog 8 #[.pointer (some ⟨bu, 0, none⟩), .int .i64 hh, (⟨kind, at_, n, data, key, new, typ, force⟩ : Cm).val (.slice ax data.length cx)] w (Ret fun v w' => ∃ u' r dv, doM u hh (⟨kind, at_, n, data, key, new, typ, force⟩ : Cm) = (u', r) ∧ v = r.val dv ∧ On W0 (OwnB dv r.data :: UnP 68 105 113 bu pool ms u' :: L) w') := by
  refine enter func8 rfl ntmps8 rfl (W.seq (W.region (WL.eff (eff_box (v := .agg _) (l := (⟨kind, at_, n, data, key, new, typ, force⟩ : Cm).cells (.slice ax data.length cx)) h rfl rfl) rfl rfl ?_)))
  rintro _ w ⟨b5, rfl, h⟩
  have h : On W0 (blk b5 [.int .i64 kind, .int .i64 at_, .int .i64 n, .slice ax data.length cx, .int .u64 key, .int .u64 new, .int .i64 typ, .bool force] 25 :: _) w := h
  refine WL.eff (eff_alloc h zeroValue36 rfl) rfl rfl ?_
  rintro _ w ⟨b6, rfl, h⟩
  refine WL.nil (W.seq (W.seq (W.region (WL.val run_move rfl rfl (WL.eff (eff_call call25 (uhost_ok h)) rfl rfl ?_)))))
  rintro _ w ⟨hv, h⟩
  have hcs := Bool.eq_false_or_eq_true (hostB hh)
  rcases hcs with hb | hb <;> (rw [hb] at hv; subst hv)
  ·
   refine WL.val (run_not rfl) rfl rfl (WL.val run_move rfl rfl (WL.val (run_fieldAddr 0 underlying25 rfl sizeOf3 rfl rfl) rfl rfl (WL.val (run_load1 isAgg3 rfl (h.cellB rfl)) rfl rfl ?_)))
   refine WL.dec (run_lss rfl rfl) rfl rfl (fun c17 => ?_) (fun c17 => ?_)
   ·
    refine WL.val (run_pickF rfl) rfl rfl (WL.val run_move rfl rfl (WL.skip rfl rfl (WL.skip rfl rfl (WL.skip rfl rfl (WL.val (run_pickT rfl) rfl rfl (WL.nil (W.condT rfl ?_)))))))
    refine W.seq (W.region (WL.eff (eff_call call26 (wrong_ok h)) rfl rfl ?_))
    rintro _ w ⟨rfl, h⟩
    refine WL.eff (eff_storeW (vs := [.int .i64 _, .int .i64 _, .int .i64 _, .slice _ _ _, .int .i64 _]) h sizeOf36 rfl rfl rfl rfl rfl) rfl rfl ?_
    rintro _ w h
    refine WL.nil (W.ret (bodyQ.rcB (vs := [.int .i64 _, .int .i64 _, .int .i64 _, .slice _ _ _, .int .i64 _]) h results8 isAgg36 sizeOf36 rfl rfl rfl ?_))
    have h : On W0 (OwnB (.slice none 0 0) (plain 2 5 8192 : Rp).data :: _) w := h.ownEmpty 1 none
    exact ⟨u, plain 2 5 8192, .slice none 0 0, (doM_bad (.inr (.inl c17))), rfl, h.to⟩
   refine WL.val (run_pickF rfl) rfl rfl (WL.val run_move rfl rfl (WL.val (run_fieldAddr 0 underlying25 rfl sizeOf3 rfl rfl) rfl rfl (WL.val (run_load1 isAgg3 rfl (h.cellB rfl)) rfl rfl (WL.val (run_gtr rfl rfl) rfl rfl (WL.val (run_pickF rfl) rfl rfl (WL.nil ?_))))))
   refine W.condIf rfl (fun c2 => ?_) (fun c2 => ?_)
   ·
    refine W.seq (W.region (WL.eff (eff_call call26 (wrong_ok h)) rfl rfl ?_))
    rintro _ w ⟨rfl, h⟩
    refine WL.eff (eff_storeW (vs := [.int .i64 _, .int .i64 _, .int .i64 _, .slice _ _ _, .int .i64 _]) h sizeOf36 rfl rfl rfl rfl rfl) rfl rfl ?_
    rintro _ w h
    refine WL.nil (W.ret (bodyQ.rcB (vs := [.int .i64 _, .int .i64 _, .int .i64 _, .slice _ _ _, .int .i64 _]) h results8 isAgg36 sizeOf36 rfl rfl rfl ?_))
    have h : On W0 (OwnB (.slice none 0 0) (plain 2 5 8192 : Rp).data :: _) w := h.ownEmpty 1 none
    exact ⟨u, plain 2 5 8192, .slice none 0 0, (doM_bad (.inr (.inr (by show 18 < kind; omega)))), rfl, h.to⟩
   refine W.skip (W.seq (W.seq ?_))
   have hb2 := hostB_iff.1 hb
   have ob_ := Int.eq_ofNat_of_zero_le hb2.1
   obtain ⟨i, hhi⟩ := ob_
   subst hhi
   have hi : i < 8 := by omega
   refine W.region (WL.val (run_fieldAddr 0 underlying25 rfl sizeOf3 rfl rfl) rfl rfl (WL.val (run_load1 isAgg3 rfl (h.cellB rfl)) rfl rfl (WL.nil (W.block (W.seq (W.region (WL.val (run_eql rfl rfl) rfl rfl ?_)))))))
   refine WL.val run_assign rfl rfl (WL.nil ?_)
   refine W.condIf rfl (fun c9 => ?_) (fun c9 => ?_)
   ·
    refine W.seq (W.region (WL.val run_move rfl rfl (WL.val run_move rfl rfl (WL.eff (eff_call call27 (told_ok hi (small_le hsm (by decide) i hi) (h.fetch (UnP 68 105 113 bu pool ms u)))) rfl rfl ?_))))
    rintro _ w hv
    rcases hv with ⟨x, l, hxl, rfl, h⟩ | ⟨hnil, rfl, h⟩
    ·
     have hx0 := hgu_.2 i hi x (by rw [hxl]; exact List.mem_cons_self ..)
     have ob_ := Int.eq_ofNat_of_zero_le hx0.1
     obtain ⟨x, hx1⟩ := ob_
     subst hx1
     refine WL.val run_move rfl rfl (WL.val (run_extract rfl rfl) rfl rfl (WL.val (run_extract rfl rfl) rfl rfl (WL.eff (eff_alloc h zeroValue36 rfl) rfl rfl ?_)))
     rintro _ w ⟨b7, rfl, h⟩
     refine WL.eff (eff_storeW (vs := [.int .i64 _, .int .i64 _, .int .i64 _, .slice _ _ _, .int .i64 _]) h sizeOf36 rfl rfl rfl rfl rfl) rfl rfl ?_
     rintro _ w h
     refine WL.val run_assign rfl rfl (WL.nil (W.seq (W.region (WL.val (run_loadB (vs := [.int .i64 _, .int .i64 _, .int .i64 _, .slice _ _ _, .int .i64 _]) h isAgg36 sizeOf36 rfl rfl rfl) rfl rfl (WL.eff (eff_call call29 (senc_ok (s := 2) (k := 6) (c := x) (by decide) (by omega) h)) rfl rfl ?_)))))
     rintro _ w ⟨a44, rfl, h⟩
     refine WL.eff (eff_call call28 (sgood_ok (bs := senseB 6 x) h (Gives.ownO (v := .slice a44 (senseB 6 x).length (senseB 6 x).length)) (by rw [senseB_len]; decide))) rfl rfl ?_
     rintro _ w ⟨a45, rfl, h⟩
     refine WL.eff (eff_storeW (vs := [.int .i64 _, .int .i64 _, .int .i64 _, .slice _ _ _, .int .i64 _]) h sizeOf36 rfl rfl rfl rfl rfl) rfl rfl ?_
     rintro _ w h
     refine WL.nil (W.ret (bodyQ.rcB (vs := [.int .i64 _, .int .i64 _, .int .i64 _, .slice _ _ _, .int .i64 _]) h results8 isAgg36 sizeOf36 rfl rfl rfl ?_))
     have h : On W0 (OwnB (.slice a45 ((senseB 6 x)).length ((senseB 6 x)).length) (gave ((senseB 6 x))).data :: _) w := h.fetch (OwnB (.slice a45 ((senseB 6 x)).length ((senseB 6 x)).length) ((senseB 6 x)))
     exact ⟨(u.putG i (u.guest i).pop), gave ((senseB 6 x)), .slice a45 ((senseB 6 x)).length ((senseB 6 x)).length, (by rw [doM_sense1 hi c9 hxl]; rfl), rfl, h.to⟩
    refine WL.val run_move rfl rfl (WL.val (run_extract rfl rfl) rfl rfl (WL.val (run_extract rfl rfl) rfl rfl (WL.eff (eff_alloc h zeroValue36 rfl) rfl rfl ?_)))
    rintro _ w ⟨b7, rfl, h⟩
    refine WL.eff (eff_storeW (vs := [.int .i64 _, .int .i64 _, .int .i64 _, .slice _ _ _, .int .i64 _]) h sizeOf36 rfl rfl rfl rfl rfl) rfl rfl ?_
    rintro _ w h
    refine WL.val run_assign rfl rfl (WL.nil (W.seq (W.region (WL.val (run_loadB (vs := [.int .i64 _, .int .i64 _, .int .i64 _, .slice _ _ _, .int .i64 _]) h isAgg36 sizeOf36 rfl rfl rfl) rfl rfl (WL.eff (eff_call call29 (senc_ok (s := 0) (k := 0) (c := 0) (by decide) (by decide) h)) rfl rfl ?_)))))
    rintro _ w ⟨a44, rfl, h⟩
    refine WL.eff (eff_call call28 (sgood_ok (bs := senseB 0 0) h (Gives.ownO (v := .slice a44 (senseB 0 0).length (senseB 0 0).length)) (by rw [senseB_len]; decide))) rfl rfl ?_
    rintro _ w ⟨a45, rfl, h⟩
    refine WL.eff (eff_storeW (vs := [.int .i64 _, .int .i64 _, .int .i64 _, .slice _ _ _, .int .i64 _]) h sizeOf36 rfl rfl rfl rfl rfl) rfl rfl ?_
    rintro _ w h
    refine WL.nil (W.ret (bodyQ.rcB (vs := [.int .i64 _, .int .i64 _, .int .i64 _, .slice _ _ _, .int .i64 _]) h results8 isAgg36 sizeOf36 rfl rfl rfl ?_))
    have h : On W0 (OwnB (.slice a45 ((senseB 0 0)).length ((senseB 0 0)).length) (gave ((senseB 0 0))).data :: _) w := h.fetch (OwnB (.slice a45 ((senseB 0 0)).length ((senseB 0 0)).length) ((senseB 0 0)))
    exact ⟨u, gave ((senseB 0 0)), .slice a45 ((senseB 0 0)).length ((senseB 0 0)).length, (doM_sense0 hi c9 hnil), rfl, h.to⟩
   refine W.seq (W.region (WL.val (run_eql rfl rfl) rfl rfl (WL.val run_assign rfl rfl (WL.nil ?_))))
   refine W.condIf rfl (fun c14 => ?_) (fun c14 => ?_)
   ·
    refine W.skip (W.seq (W.seq ?_))
    have ob_ := openU (h.fetch (UnP 68 105 113 bu pool ms u))
    obtain ⟨bs, bt, gs, hm, hl, h⟩ := ob_
    refine W.draw Tryz.follows h (fun w h => ?_)
    refine WT.pure 0 rfl (by kernel_rfl) (fun w' => run_move) rfl rfl (WT.pure 1 rfl (by kernel_rfl) (fun w' => (run_nilCheck rfl)) rfl rfl (WT.pure 2 rfl (by kernel_rfl) (fun w' => (run_fieldAddr 1 underlying68 rfl sizeOf59 rfl rfl)) rfl rfl (WT.load1 3 rfl (by kernel_rfl) isAgg59 rfl (h.cellB rfl) rfl rfl (WT.pure 4 rfl (by kernel_rfl) (fun w' => run_move) rfl rfl (WT.pure 5 rfl (by kernel_rfl) (fun w' => (run_fieldAddr 0 underlying25 rfl sizeOf3 rfl rfl)) rfl rfl (WT.load1 6 rfl (by kernel_rfl) isAgg3 rfl (h.cellB rfl) rfl rfl (WT.eff 7 [false, false] rfl (by kernel_rfl) (by kernel_rfl) (eff_call call30 (allows_ok (b := bt) (t := u.t) (h.fetch (blk bt u.t.cells 113)))) rfl rfl ?_)))))))
    rintro _ w ⟨⟨r, rfl, hr⟩, h⟩
    have hcs := Bool.eq_false_or_eq_true r
    rcases hcs with hr2 | hr2 <;> (subst hr2)
    all_goals (refine ⟨trivial, ?_⟩)
    ·
     refine WT.pure 8 rfl (by kernel_rfl) (fun w' => (run_not rfl)) rfl rfl (WT.done (by kernel_rfl) ?_)
     have h := closeU (bu := bu) (u := u) hm hl ((((h.fetch (Big (GOwn pool) gs)).fetch (blk bt u.t.cells 113)).fetch (SpP 105 bs u.s)).fetch (blk bu (ucells bs bt gs) 68))
     refine W.condF rfl (W.skip (W.seq (W.region (WL.val run_move rfl rfl (WL.val run_move rfl rfl (WL.val (run_loadB (vs := [.int .i64 _, .int .i64 _, .int .i64 _, .slice _ _ _, .int .u64 _, .int .u64 _, .int .i64 _, .bool _]) h isAgg25 sizeOf25 rfl rfl rfl) rfl rfl (WL.eff (eff_call call31 (uact_ok (u := u) (i := i) hi (by omega) (by omega) c9 hsm hgu_ hcm (h.fetch (UnP 68 105 113 bu pool ms u)) (Gives.to C) hd)) rfl rfl ?_)))))))
     rintro _ w ⟨u', r', dv', heq, rfl, h⟩
     have of_ := Own.form h
     obtain ⟨ad, cd, hdv, _⟩ := of_
     subst hdv
     refine WL.eff (eff_storeW (vs := [.int .i64 _, .int .i64 _, .int .i64 _, .slice _ _ _, .int .i64 _]) h sizeOf36 rfl rfl rfl rfl rfl) rfl rfl ?_
     rintro _ w h
     refine WL.nil (W.ret (bodyQ.rcB (vs := [.int .i64 _, .int .i64 _, .int .i64 _, .slice _ _ _, .int .i64 _]) h results8 isAgg36 sizeOf36 rfl rfl rfl ?_))
     have he : doM u i (⟨kind, at_, n, data, key, new, typ, force⟩ : Cm) = (u', r') := by rw [doM_go hi (by show 1 ≤ kind; omega) (by show kind ≤ 18; omega) c9 (.inl c14) (hr.1 rfl), heq]
     exact ⟨u', r', _, he, rfl, h.to⟩
    refine WT.pure 8 rfl (by kernel_rfl) (fun w' => (run_not rfl)) rfl rfl (WT.done (by kernel_rfl) ?_)
    have h := closeU (bu := bu) (u := u) hm hl ((((h.fetch (Big (GOwn pool) gs)).fetch (blk bt u.t.cells 113)).fetch (SpP 105 bs u.s)).fetch (blk bu (ucells bs bt gs) 68))
    refine W.condT rfl (W.seq (W.region (WL.val (run_buildS (pl := [(0, 1), (1, 1), (2, 1), (3, 1), (4, 1)]) (out := [.int .i64 _, .int .i64 _, .int .i64 _, .slice _ _ _, .int .i64 _]) underlying36 zeroValue36 (fun w => by kernel_rfl) rfl (⟨⟨_, _, rfl, rfl, by decide⟩, trivial⟩) rfl) rfl rfl (WL.eff (eff_storeW (vs := [.int .i64 _, .int .i64 _, .int .i64 _, .slice _ _ _, .int .i64 _]) h sizeOf36 rfl rfl rfl rfl rfl) rfl rfl ?_))))
    rintro _ w h
    refine WL.nil (W.ret (bodyQ.rcB (vs := [.int .i64 _, .int .i64 _, .int .i64 _, .slice _ _ _, .int .i64 _]) h results8 isAgg36 sizeOf36 rfl rfl rfl ?_))
    have h : On W0 (OwnB (.slice none 0 0) (plain 24 0 0 : Rp).data :: _) w := h.ownEmpty 1 none
    exact ⟨u, plain 24 0 0, .slice none 0 0, (doM_no hi (by show 1 ≤ kind; omega) (by show kind ≤ 18; omega) c9 (.inl c14) (fun ha => by cases hr.2 ha)), rfl, h.to⟩
   refine W.seq (W.region (WL.val run_move rfl rfl (WL.val run_move rfl rfl (WL.eff (eff_call call27 (told_ok hi (small_le hsm (by decide) i hi) (h.fetch (UnP 68 105 113 bu pool ms u)))) rfl rfl ?_))))
   rintro _ w hv
   rcases hv with ⟨x, l, hxl, rfl, h⟩ | ⟨hnil, rfl, h⟩
   ·
    refine WL.val run_move rfl rfl (WL.val (run_extract rfl rfl) rfl rfl (WL.val (run_extract rfl rfl) rfl rfl (WL.eff (eff_alloc h zeroValue36 rfl) rfl rfl ?_)))
    rintro _ w ⟨b9, rfl, h⟩
    refine WL.eff (eff_storeW (vs := [.int .i64 _, .int .i64 _, .int .i64 _, .slice _ _ _, .int .i64 _]) h sizeOf36 rfl rfl rfl rfl rfl) rfl rfl ?_
    rintro _ w h
    refine WL.val run_assign rfl rfl (WL.nil (W.seq (W.region (WL.val run_move rfl rfl (WL.nil (W.condT rfl (W.seq ?_)))))))
    refine W.region (WL.val (run_loadB (vs := [.int .i64 _, .int .i64 _, .int .i64 _, .slice _ _ _, .int .i64 _]) h isAgg36 sizeOf36 rfl rfl rfl) rfl rfl (WL.eff (eff_storeW (vs := [.int .i64 _, .int .i64 _, .int .i64 _, .slice _ _ _, .int .i64 _]) h sizeOf36 rfl rfl rfl rfl rfl) rfl rfl ?_))
    rintro _ w h
    refine WL.nil (W.ret (bodyQ.rcB (vs := [.int .i64 _, .int .i64 _, .int .i64 _, .slice _ _ _, .int .i64 _]) h results8 isAgg36 sizeOf36 rfl rfl rfl ?_))
    have h : On W0 (OwnB (.slice none 0 0) (plain 2 6 x : Rp).data :: _) w := h.ownEmpty 1 none
    exact ⟨(u.putG i (u.guest i).pop), plain 2 6 x, .slice none 0 0, (doM_pop hi (by show 1 ≤ kind; omega) (by show kind ≤ 18; omega) c9 c14 hxl), rfl, h.to⟩
   refine WL.val run_move rfl rfl (WL.val (run_extract rfl rfl) rfl rfl (WL.val (run_extract rfl rfl) rfl rfl (WL.eff (eff_alloc h zeroValue36 rfl) rfl rfl ?_)))
   rintro _ w ⟨b9, rfl, h⟩
   refine WL.eff (eff_storeW (vs := [.int .i64 _, .int .i64 _, .int .i64 _, .slice _ _ _, .int .i64 _]) h sizeOf36 rfl rfl rfl rfl rfl) rfl rfl ?_
   rintro _ w h
   refine WL.val run_assign rfl rfl (WL.nil (W.seq (W.region (WL.val run_move rfl rfl (WL.nil (W.condF rfl (W.skip ?_)))))))
   refine W.seq (W.seq ?_)
   have ob_ := openU (h.fetch (UnP 68 105 113 bu pool ms u))
   obtain ⟨bs, bt, gs, hm, hl, h⟩ := ob_
   refine W.draw Tryz.follows h (fun w h => ?_)
   refine WT.pure 0 rfl (by kernel_rfl) (fun w' => run_move) rfl rfl (WT.pure 1 rfl (by kernel_rfl) (fun w' => (run_nilCheck rfl)) rfl rfl (WT.pure 2 rfl (by kernel_rfl) (fun w' => (run_fieldAddr 1 underlying68 rfl sizeOf59 rfl rfl)) rfl rfl (WT.load1 3 rfl (by kernel_rfl) isAgg59 rfl (h.cellB rfl) rfl rfl (WT.pure 4 rfl (by kernel_rfl) (fun w' => run_move) rfl rfl (WT.pure 5 rfl (by kernel_rfl) (fun w' => (run_fieldAddr 0 underlying25 rfl sizeOf3 rfl rfl)) rfl rfl (WT.load1 6 rfl (by kernel_rfl) isAgg3 rfl (h.cellB rfl) rfl rfl (WT.eff 7 [false, false] rfl (by kernel_rfl) (by kernel_rfl) (eff_call call30 (allows_ok (b := bt) (t := u.t) (h.fetch (blk bt u.t.cells 113)))) rfl rfl ?_)))))))
   rintro _ w ⟨⟨r, rfl, hr⟩, h⟩
   have hcs := Bool.eq_false_or_eq_true r
   rcases hcs with hr2 | hr2 <;> (subst hr2)
   all_goals (refine ⟨trivial, ?_⟩)
   ·
    refine WT.pure 8 rfl (by kernel_rfl) (fun w' => (run_not rfl)) rfl rfl (WT.done (by kernel_rfl) ?_)
    have h := closeU (bu := bu) (u := u) hm hl ((((h.fetch (Big (GOwn pool) gs)).fetch (blk bt u.t.cells 113)).fetch (SpP 105 bs u.s)).fetch (blk bu (ucells bs bt gs) 68))
    refine W.condF rfl (W.skip (W.seq (W.region (WL.val run_move rfl rfl (WL.val run_move rfl rfl (WL.val (run_loadB (vs := [.int .i64 _, .int .i64 _, .int .i64 _, .slice _ _ _, .int .u64 _, .int .u64 _, .int .i64 _, .bool _]) h isAgg25 sizeOf25 rfl rfl rfl) rfl rfl (WL.eff (eff_call call31 (uact_ok (u := u) (i := i) hi (by omega) (by omega) c9 hsm hgu_ hcm (h.fetch (UnP 68 105 113 bu pool ms u)) (Gives.to C) hd)) rfl rfl ?_)))))))
    rintro _ w ⟨u', r', dv', heq, rfl, h⟩
    have of_ := Own.form h
    obtain ⟨ad, cd, hdv, _⟩ := of_
    subst hdv
    refine WL.eff (eff_storeW (vs := [.int .i64 _, .int .i64 _, .int .i64 _, .slice _ _ _, .int .i64 _]) h sizeOf36 rfl rfl rfl rfl rfl) rfl rfl ?_
    rintro _ w h
    refine WL.nil (W.ret (bodyQ.rcB (vs := [.int .i64 _, .int .i64 _, .int .i64 _, .slice _ _ _, .int .i64 _]) h results8 isAgg36 sizeOf36 rfl rfl rfl ?_))
    have he : doM u i (⟨kind, at_, n, data, key, new, typ, force⟩ : Cm) = (u', r') := by rw [doM_go hi (by show 1 ≤ kind; omega) (by show kind ≤ 18; omega) c9 (.inr hnil) (hr.1 rfl), heq]
    exact ⟨u', r', _, he, rfl, h.to⟩
   refine WT.pure 8 rfl (by kernel_rfl) (fun w' => (run_not rfl)) rfl rfl (WT.done (by kernel_rfl) ?_)
   have h := closeU (bu := bu) (u := u) hm hl ((((h.fetch (Big (GOwn pool) gs)).fetch (blk bt u.t.cells 113)).fetch (SpP 105 bs u.s)).fetch (blk bu (ucells bs bt gs) 68))
   refine W.condT rfl (W.seq (W.region (WL.val (run_buildS (pl := [(0, 1), (1, 1), (2, 1), (3, 1), (4, 1)]) (out := [.int .i64 _, .int .i64 _, .int .i64 _, .slice _ _ _, .int .i64 _]) underlying36 zeroValue36 (fun w => by kernel_rfl) rfl (⟨⟨_, _, rfl, rfl, by decide⟩, trivial⟩) rfl) rfl rfl (WL.eff (eff_storeW (vs := [.int .i64 _, .int .i64 _, .int .i64 _, .slice _ _ _, .int .i64 _]) h sizeOf36 rfl rfl rfl rfl rfl) rfl rfl ?_))))
   rintro _ w h
   refine WL.nil (W.ret (bodyQ.rcB (vs := [.int .i64 _, .int .i64 _, .int .i64 _, .slice _ _ _, .int .i64 _]) h results8 isAgg36 sizeOf36 rfl rfl rfl ?_))
   have h : On W0 (OwnB (.slice none 0 0) (plain 24 0 0 : Rp).data :: _) w := h.ownEmpty 1 none
   exact ⟨u, plain 24 0 0, .slice none 0 0, (doM_no hi (by show 1 ≤ kind; omega) (by show kind ≤ 18; omega) c9 (.inr hnil) (fun ha => by cases hr.2 ha)), rfl, h.to⟩
  refine WL.val (run_not rfl) rfl rfl (WL.val run_move rfl rfl (WL.skip rfl rfl (WL.skip rfl rfl (WL.skip rfl rfl (WL.val (run_pickT rfl) rfl rfl (WL.val run_move rfl rfl (WL.skip rfl rfl ?_)))))))
  refine WL.skip rfl rfl (WL.skip rfl rfl (WL.val (run_pickT rfl) rfl rfl (WL.nil (W.condT rfl (W.seq (W.region (WL.eff (eff_call call26 (wrong_ok h)) rfl rfl ?_)))))))
  rintro _ w ⟨rfl, h⟩
  refine WL.eff (eff_storeW (vs := [.int .i64 _, .int .i64 _, .int .i64 _, .slice _ _ _, .int .i64 _]) h sizeOf36 rfl rfl rfl rfl rfl) rfl rfl ?_
  rintro _ w h
  refine WL.nil (W.ret (bodyQ.rcB (vs := [.int .i64 _, .int .i64 _, .int .i64 _, .slice _ _ _, .int .i64 _]) h results8 isAgg36 sizeOf36 rfl rfl rfl ?_))
  have h : On W0 (OwnB (.slice none 0 0) (plain 2 5 8192 : Rp).data :: _) w := h.ownEmpty 1 none
  exact ⟨u, plain 2 5 8192, .slice none 0 0, (doM_bad (.inl hb)), rfl, h.to⟩
end Go.Proofs.YtjbgiingimhnnaaGreat
