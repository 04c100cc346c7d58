/-
  A unit: one thing turned: the contracts. Lines of walks printed by a program of the prover's.
-/
import Derived.Test.YtdpakoefdpmebaaGreatRef5
import Derived.Test.YtdpakoefdpmebaaGreatTrace4
import Derived.Test.YtdpakoefdpmebaaGreatTraceTurn
namespace Go.Proofs.YtdpakoefdpmebaaGreat
open Go Go.Sl Go.Sl.TrM Go.Sl.BitM Go.Sl.SpM Go.Sl.RsM Go.Sl.ByM Go.Sl.UnM
set_option linter.unusedVariables false
set_option linter.unusedSimpArgs false
set_option maxHeartbeats 1000000
set_option maxRecDepth 8000
variable {W0 w : World} {L F : List HProp}

theorem ttrue_law {al : Option Addr} {cl : Nat} {l : List CmX} {which how : Int} (h : On W0 F w) (CL : Gives F (Cells 8 (.slice al l.length cl) l.length (l.flatMap CmX.cells))) (HB : ∀ x ∈ l, Gives F (Bytes (.slice x.ax x.bs.length x.ac) x.bs)) (HC : ∀ x ∈ l, okCm x.cm) : Calls Tryz.prog 8 #[.slice al l.length cl, .int .i64 which, .int .i64 how] w (Ret fun v w' => v = .bool true ∧ On W0 F w') := by
  refine enter Tryz.func8 rfl Tryz.ntmps8 rfl ?_
  have hmx := maxLen_eq
  have hbl0 := (h.reads CL).bounds
  obtain ⟨hb1, hb2⟩ := hbl0
  refine W.seq (W.region (WL.val run_assign rfl rfl (WL.nil (W.seq (W.seq (W.region (WL.eff (eff_call Tryz.call23 (tknown_ok h)) rfl rfl ?_)))))))
  rintro _ w ⟨rfl, h⟩
  refine WL.val (run_not rfl) rfl rfl (WL.nil (W.condF rfl (W.skip (W.seq (W.seq (W.region (WL.val run_move rfl rfl ?_)))))))
  refine WL.val (run_lenSlice Tryz.underlying54 rfl) rfl rfl ?_
  refine WL.dec (run_eql rfl rfl) rfl rfl (fun c25 => ?_) (fun c25 => ?_)
  ·
   refine WL.val run_move rfl rfl (WL.skip rfl rfl (WL.skip rfl rfl (WL.skip rfl rfl (WL.val (run_pickT rfl) rfl rfl (WL.val run_move rfl rfl (WL.skip rfl rfl (WL.skip rfl rfl ?_)))))))
   refine WL.val (run_pickT rfl) rfl rfl (WL.nil (W.condT rfl (W.seq (W.region (WL.val run_assign rfl rfl (WL.nil (W.ret ?_)))))))
   refine bodyQ.r1 (v := .bool _) Tryz.results8 rfl ?_
   exact ⟨rfl, h⟩
  refine WL.val run_move rfl rfl (WL.val run_move rfl rfl (WL.val (run_lenSlice Tryz.underlying54 rfl) rfl rfl ?_))
  refine WL.dec (run_gtr rfl rfl) rfl rfl (fun c29 => ?_) (fun c29 => ?_)
  ·
   refine WL.val (run_pickF rfl) rfl rfl (WL.val run_move rfl rfl (WL.skip rfl rfl (WL.skip rfl rfl (WL.val (run_pickT rfl) rfl rfl (WL.nil (W.condT rfl (W.seq ?_)))))))
   refine W.region (WL.val run_assign rfl rfl (WL.nil (W.ret (bodyQ.r1 (v := .bool _) Tryz.results8 rfl ?_))))
   exact ⟨rfl, h⟩
  refine WL.val (run_pickF rfl) rfl rfl (WL.val run_move rfl rfl (WL.val run_move rfl rfl (WL.val (run_lss rfl rfl) rfl rfl (WL.val (run_pickF rfl) rfl rfl (WL.nil ?_)))))
  refine W.condIf rfl (fun c7 => ?_) (fun c7 => ?_)
  ·
   refine W.seq (W.region (WL.val run_assign rfl rfl (WL.nil (W.ret (bodyQ.r1 (v := .bool _) Tryz.results8 rfl ?_)))))
   exact ⟨rfl, h⟩
  refine W.skip (W.seq ?_)
  have hw0 := Int.eq_ofNat_of_zero_le (show 0 ≤ which by omega)
  obtain ⟨wn, hw0⟩ := hw0
  subst hw0
  have h := On.poolC0 h
  refine W.region (WL.eff (eff_call Tryz.call18 (runew_ok (n := 16) (pc := []) (by decide) (by decide) h)) rfl rfl ?_)
  rintro _ w ⟨pc2, bu, hs2, rfl, h⟩
  refine WL.val run_move rfl rfl (WL.val (run_extract rfl rfl) rfl rfl (WL.val (run_extract rfl rfl) rfl rfl (WL.val run_assign rfl rfl (WL.val run_assign rfl rfl (WL.nil (W.seq (W.region ?_)))))))
  refine WL.val run_assign rfl rfl (WL.nil (W.seq (W.region (WL.val run_assign rfl rfl (WL.nil (W.seq (W.region ?_)))))))
  refine WL.val run_assign rfl rfl (WL.nil (W.seq (W.seq (W.region (WL.val run_assign rfl rfl (WL.nil (W.block ?_)))))))
  refine W.loop (fun (k : Nat) env w => k ≤ l.length ∧ ∃ (j : Env) (pq : PoolK) (ins : List InX) (row : List CoX) (out : List OuX) (nr no : Nat) (a9 a10 a11 : Option Addr) (c9 c10 c11 : Nat), nr = k ∧ no = k ∧ env = mkE j [(0, .slice al l.length cl), (1, .int .i64 (wn : Int)), (2, .int .i64 how), (7, .pointer (some ⟨bu, 0, none⟩)), (9, .slice a9 k c9), (10, .slice a10 nr c10), (11, .slice a11 no c11), (12, .int .i64 (k : Int))] ∧ isIns l (fun i : Nat => ((i % 3 : Nat) : Int)) (fun i : Nat => ((2 * i : Nat) : Int)) k ins ∧ isRow (fun i : Nat => ((i % 3 : Nat) : Int)) (fun i : Nat => ((2 * i + 1 : Nat) : Int)) nr row ∧ isOut l (fun i : Nat => ((i % 3 : Nat) : Int)) (fun i : Nat => ((2 * i + 2 : Nat) : Int)) no out ∧ (∀ o ∈ out, inB pq (.slice o.ax o.bs.length o.ac) o.bs) ∧ small k (unA l (fun i : Nat => ((i % 3 : Nat) : Int)) k) ∧ goodU (unA l (fun i : Nat => ((i % 3 : Nat) : Int)) k) ∧ (∀ i, i < k → (cmX l i).bs.length ≤ 600) ∧ On W0 (RefU 106 110 128 bu pq (unA l (fun i : Nat => ((i % 3 : Nat) : Int)) k) :: PoolC pq :: Own 11 (.slice a9 k c9) k (ins.flatMap InX.cells) :: Own 3 (.slice a10 nr c10) nr (row.flatMap CoX.cells) :: Own 8 (.slice a11 no c11) no (out.flatMap OuX.cells) :: F) w) (fun k => l.length - k) (0) ?_ ?_
  · have h := (h.ownEmpty 8 none)
    have h : On W0 (Own 8 (.slice none 0 0) 0 (([] : List OuX).flatMap OuX.cells) :: _) w := h
    have h := (h.ownEmpty 3 none)
    have h : On W0 (Own 3 (.slice none 0 0) 0 (([] : List CoX).flatMap CoX.cells) :: _) w := h
    have h := (h.ownEmpty 11 none)
    have h : On W0 (Own 11 (.slice none 0 0) 0 (([] : List InX).flatMap InX.cells) :: _) w := h
    have h := h.fetch (RefU 106 110 128 bu pc2 (newU 16))
    have h : On W0 (RefU 106 110 128 bu pc2 (unA l (fun i : Nat => ((i % 3 : Nat) : Int)) 0) :: _) w := h
    exact ⟨Nat.zero_le _, _, pc2, [], [], [], 0, 0, none, none, none, 0, 0, 0, rfl, rfl, mkE_of ⟨rfl, rfl, rfl, rfl, rfl, rfl, rfl, rfl, trivial⟩, isIns_nil, isRow_nil, isOut_nil, (fun o ho => by cases ho), new_small 16, goodU_new 16, (fun i hi => by omega), h.to⟩
  clear h
  rintro k env w ⟨hk, j, pq, ins, row, out, nr, no, a9, a10, a11, c9, c10, c11, hnr, hno, rfl, hI, hR, hO, hob, hsm, hgu, hbl, h⟩
  refine W.seq (W.seq (W.region (WL.val run_move rfl rfl (WL.val run_move rfl rfl (WL.val (run_lenSlice Tryz.underlying54 rfl) rfl rfl (WL.val (run_lss rfl rfl) rfl rfl (WL.nil ?_)))))))
  refine W.condIf rfl (fun c19 => ?_) (fun c19 => ?_)
  ·
   refine W.skip (W.seq ?_)
   have hkl : k < l.length := by omega
   have ad_ := (h.readsTo CL).addr (by omega)
   obtain ⟨bl, ol, hal_⟩ := ad_
   subst hal_
   have ex_ : ∃ a, l[k]? = some a := ⟨l[k], by simp⟩
   obtain ⟨⟨xk, xa, xn, xax, xac, xbs, xky, xnw, xty, xfo⟩, hq⟩ := ex_
   have hrow := drop_flatMap CmX.cells 8 (fun _ => rfl) l _ _ hq
   have hcx : cmX l k = (⟨xk, xa, xn, xax, xac, xbs, xky, xnw, xty, xfo⟩ : CmX) := by unfold cmX; rw [hq]; rfl
   have hm := List.mem_of_getElem? hq
   have hBx : Gives F (Bytes (.slice xax xbs.length xac) xbs) := HB _ hm
   have hCx : okCm (⟨xk, xa, xn, xbs, xky, xnw, xty, xfo⟩ : Cm) := HC _ hm
   refine W.block (W.seq (W.seq (W.region (WL.val run_move rfl rfl (WL.val run_move rfl rfl (WL.val (run_indexAddr Tryz.underlying54 Tryz.sizeOf25 rfl rfl (by omega) (by omega)) rfl rfl (WL.val (run_fieldAddr 3 Tryz.underlying25 rfl Tryz.sizeOf22 rfl rfl) rfl rfl ?_)))))))
   refine WL.val (run_load1 Tryz.isAgg22 rfl ((h.readsTo CL).elem (i := k) (vs := [.int .i64 xk, .int .i64 xa, .int .i64 xn, .slice xax xbs.length xac, .int .u64 xky, .int .u64 xnw, .int .i64 xty, .bool xfo]) hkl hrow 3 _ rfl)) rfl rfl (WL.val (run_lenSlice Tryz.underlying22 rfl) rfl rfl (WL.val (run_gtr rfl rfl) rfl rfl (WL.nil ?_)))
   refine W.condIf rfl (fun c24 => ?_) (fun c24 => ?_)
   ·
    refine W.seq (W.region (WL.val run_assign rfl rfl (WL.nil (W.ret (bodyQ.r1 (v := .bool _) Tryz.results8 rfl ?_)))))
    exact ⟨rfl, h.to⟩
   refine W.skip (W.seq (W.region (WL.val run_move rfl rfl (WL.val (run_remN (m := k) (n := 3) rfl rfl (by omega)) rfl rfl (WL.val run_assign rfl rfl (WL.nil (W.seq ?_)))))))
   refine W.region (WL.val run_move rfl rfl (WL.val run_move rfl rfl (WL.val run_move rfl rfl (WL.val (run_addN (m := k) (n := 1) rfl rfl (by omega)) rfl rfl (WL.val (run_convIn Tryz.underlying3 Tryz.underlying23 rfl (by show (0 : Int) ≤ _; omega) (by show _ ≤ (18446744073709551615 : Int); omega)) rfl rfl (WL.val run_move rfl rfl (WL.val run_move rfl rfl ?_)))))))
   refine WL.val (run_indexAddr Tryz.underlying54 Tryz.sizeOf25 rfl rfl (by omega) (by omega)) rfl rfl (WL.val (run_loadN Tryz.isAgg25 Tryz.sizeOf25 rfl rfl ((h.readsTo CL).elem (i := k) (vs := [.int .i64 xk, .int .i64 xa, .int .i64 xn, .slice xax xbs.length xac, .int .u64 xky, .int .u64 xnw, .int .i64 xty, .bool xfo]) hkl hrow )) rfl rfl (WL.val run_move rfl rfl (WL.val (run_mulN (m := 2) (n := k) rfl rfl (by omega)) rfl rfl ?_)))
   refine WL.val (run_buildS (pl := [(0, 1), (1, 1), (2, 8), (10, 1)]) (out := [.int .i64 _, .int .u64 _, .int .i64 _, .int .i64 _, .int .i64 _, .slice _ _ _, .int .u64 _, .int .u64 _, .int .i64 _, .bool _, .int .i64 _]) Tryz.underlying59 Tryz.zeroValue59 (fun w => by kernel_rfl) rfl (⟨⟨_, _, rfl, rfl, by decide⟩, ⟨⟨_, _, rfl, rfl, by decide⟩, ⟨⟨_, _, rfl, rfl, by decide⟩, ⟨⟨_, _, rfl, rfl, by decide⟩, trivial⟩⟩⟩⟩) rfl) rfl rfl ?_
   refine WL.eff (eff_mkSlice (zl := [.int .i64 0, .int .u64 0, .int .i64 0, .int .i64 0, .int .i64 0, .slice none 0 0, .int .u64 0, .int .u64 0, .int .i64 0, .bool false, .int .i64 0]) (out := [.int .i64 _, .int .u64 _, .int .i64 _, .int .i64 _, .int .i64 _, .slice _ _ _, .int .u64 _, .int .u64 _, .int .i64 _, .bool _, .int .i64 _]) h Tryz.underlying55 Tryz.sizeOf59 Tryz.zeroValue59 (by decide) (by kernel_rfl) rfl rfl (by simp) (⟨⟨_, _, rfl, rfl, by decide⟩, trivial⟩) rfl rfl (by simp [maxLen])) rfl rfl ?_
   rintro _ w ⟨b66, rfl, h⟩
   refine WL.eff (eff_app (c2 := 1) (bytes := 104) (h.fetch (Own 11 (.slice a9 k c9) k (ins.flatMap InX.cells))) rfl rfl (h.cellsO (v := .slice (some ⟨b66, 0, none⟩) 1 1)) Tryz.underlying55 rfl rfl rfl rfl rfl (by omega) (by omega) (by simp [Value.oneCell'])) rfl rfl ?_
   rintro _ w ⟨a67, c67, rfl, h⟩
   have h : On W0 (Own 11 (.slice a67 (k + 1) c67) (k + 1) (ins.flatMap InX.cells ++ InX.cells (⟨((k % 3 : Nat) : Int), ((k + 1 : Nat) : Int), (⟨xk, xa, xn, xax, xac, xbs, xky, xnw, xty, xfo⟩ : CmX), ((2 * k : Nat) : Int)⟩ : InX)) :: _) w := h
   rw [fm_snoc] at h
   refine WL.val run_assign rfl rfl (WL.nil (W.seq (W.region (WL.val run_move rfl rfl (WL.val run_move rfl rfl (WL.val run_move rfl rfl (WL.val (run_addN (m := k) (n := 1) rfl rfl (by omega)) rfl rfl ?_)))))))
   refine WL.val (run_convIn Tryz.underlying3 Tryz.underlying23 rfl (by show (0 : Int) ≤ _; omega) (by show _ ≤ (18446744073709551615 : Int); omega)) rfl rfl (WL.val run_move rfl rfl (WL.val (run_mulN (m := 2) (n := k) rfl rfl (by omega)) rfl rfl (WL.val (run_addN (m := 2 * k) (n := 1) rfl rfl (by omega)) rfl rfl (WL.val (run_buildS (pl := [(0, 1), (1, 1), (2, 1)]) (out := [.int .i64 _, .int .u64 _, .int .i64 _]) Tryz.underlying61 Tryz.zeroValue61 (fun w => by kernel_rfl) rfl (⟨⟨_, _, rfl, rfl, by decide⟩, ⟨⟨_, _, rfl, rfl, by decide⟩, ⟨⟨_, _, rfl, rfl, by decide⟩, trivial⟩⟩⟩) rfl) rfl rfl (WL.eff (eff_mkSlice (zl := [.int .i64 0, .int .u64 0, .int .i64 0]) (out := [.int .i64 _, .int .u64 _, .int .i64 _]) h Tryz.underlying56 Tryz.sizeOf61 Tryz.zeroValue61 (by decide) (by kernel_rfl) rfl rfl (by simp) (⟨⟨_, _, rfl, rfl, by decide⟩, trivial⟩) rfl rfl (by simp [maxLen])) rfl rfl ?_)))))
   rintro _ w ⟨b77, rfl, h⟩
   refine WL.eff (eff_app (c2 := 1) (bytes := 24) (h.fetch (Own 3 (.slice a10 nr c10) nr (row.flatMap CoX.cells))) rfl rfl (h.cellsO (v := .slice (some ⟨b77, 0, none⟩) 1 1)) Tryz.underlying56 rfl rfl rfl rfl rfl (by omega) (by omega) (by simp [Value.oneCell'])) rfl rfl ?_
   rintro _ w ⟨a78, c78, rfl, h⟩
   have h : On W0 (Own 3 (.slice a78 (nr + 1) c78) (nr + 1) (row.flatMap CoX.cells ++ CoX.cells (⟨((k % 3 : Nat) : Int), ((k + 1 : Nat) : Int), ((2 * k + 1 : Nat) : Int)⟩ : CoX)) :: _) w := h
   rw [fm_snoc] at h
   refine WL.val run_assign rfl rfl (WL.nil ?_)
   have hl8 := (RefU_nil ((h.fetch (PoolC pq)).fetch (RefU 106 110 128 bu pq (unA l (fun i : Nat => ((i % 3 : Nat) : Int)) k)))).2.1
   refine W.region (WL.val run_move rfl rfl (WL.val run_move rfl rfl (WL.val run_move rfl rfl (WL.val (run_addN (m := k) (n := 1) rfl rfl (by omega)) rfl rfl (WL.val (run_convIn Tryz.underlying3 Tryz.underlying23 rfl (by show (0 : Int) ≤ _; omega) (by show _ ≤ (18446744073709551615 : Int); omega)) rfl rfl (WL.val run_move rfl rfl (WL.val run_move rfl rfl ?_)))))))
   refine WL.val run_move rfl rfl (WL.val run_move rfl rfl (WL.val (run_indexAddr Tryz.underlying54 Tryz.sizeOf25 rfl rfl (by omega) (by omega)) rfl rfl (WL.val (run_loadN Tryz.isAgg25 Tryz.sizeOf25 rfl rfl ((h.readsTo CL).elem (i := k) (vs := [.int .i64 xk, .int .i64 xa, .int .i64 xn, .slice xax xbs.length xac, .int .u64 xky, .int .u64 xnw, .int .i64 xty, .bool xfo]) hkl hrow )) rfl rfl ?_)))
   refine WL.eff (eff_call Tryz.call24 (rdo_ok (bu := bu) (u := unA l (fun i : Nat => ((i % 3 : Nat) : Int)) k) (pc := pq) (hh := ((k % 3 : Nat) : Int)) (kind := xk) (at_ := xa) (n := xn) (data := xbs) (ax := xax) (cx := xac) (key := xky) (new := xnw) (typ := xty) (force := xfo) (small_le hsm (by omega)) hgu hCx ((h.fetch (PoolC pq)).fetch (RefU 106 110 128 bu pq (unA l (fun i : Nat => ((i % 3 : Nat) : Int)) k))) (Gives.to hBx) (by omega))) rfl rfl ?_
   rintro _ w ⟨pr, u', r, dv, hdo, rfl, hsr, hinr, h⟩
   have hdo2 : doM (unA l (fun i : Nat => ((i % 3 : Nat) : Int)) k) ((fun i : Nat => ((i % 3 : Nat) : Int)) k) (cmX l k).cm = (u', r) := by rw [hcx]; exact hdo
   have eu : u' = unA l (fun i : Nat => ((i % 3 : Nat) : Int)) (k + 1) := by show _ = (doM (unA l (fun i : Nat => ((i % 3 : Nat) : Int)) k) ((fun i : Nat => ((i % 3 : Nat) : Int)) k) (cmX l k).cm).1; rw [hdo2]
   have er : r = rpA l (fun i : Nat => ((i % 3 : Nat) : Int)) k := by show _ = (doM (unA l (fun i : Nat => ((i % 3 : Nat) : Int)) k) ((fun i : Nat => ((i % 3 : Nat) : Int)) k) (cmX l k).cm).2; rw [hdo2]
   have hg8 := (RefU_nil ((h.fetch (PoolC pr)).fetch (RefU 106 110 128 bu pr u'))).2.1
   have hsm2 : small (k + 1) (unA l (fun i : Nat => ((i % 3 : Nat) : Int)) (k + 1)) := (kept_do hl8).2.2 _ hsm
   have hgu2 : goodU (unA l (fun i : Nat => ((i % 3 : Nat) : Int)) (k + 1)) := goodU_do hl8 hgu (by rw [hcx]; exact hCx)
   have hdf := rslice_of ((h.fetch (PoolC pr)).fetch (RefU 106 110 128 bu pr u')) hinr
   obtain ⟨ad, cd, hdv⟩ := hdf
   subst hdv
   subst eu
   have ho2 : ∀ o ∈ out, inB pr (.slice o.ax o.bs.length o.ac) o.bs := fun o ho => hsr _ (hob o ho)
   refine WL.val run_move rfl rfl (WL.val (run_mulN (m := 2) (n := k) rfl rfl (by omega)) rfl rfl (WL.val (run_addN (m := 2 * k) (n := 2) rfl rfl (by omega)) rfl rfl (WL.val (run_buildS (pl := [(0, 1), (1, 1), (2, 5), (7, 1)]) (out := [.int .i64 _, .int .u64 _, .int .i64 _, .int .i64 _, .int .i64 _, .slice _ _ _, .int .i64 _, .int .i64 _]) Tryz.underlying63 Tryz.zeroValue63 (fun w => by kernel_rfl) rfl (⟨⟨_, _, rfl, rfl, by decide⟩, ⟨⟨_, _, rfl, rfl, by decide⟩, ⟨⟨_, _, rfl, rfl, by decide⟩, ⟨⟨_, _, rfl, rfl, by decide⟩, trivial⟩⟩⟩⟩) rfl) rfl rfl ?_)))
   refine WL.eff (eff_mkSlice (zl := [.int .i64 0, .int .u64 0, .int .i64 0, .int .i64 0, .int .i64 0, .slice none 0 0, .int .i64 0, .int .i64 0]) (out := [.int .i64 _, .int .u64 _, .int .i64 _, .int .i64 _, .int .i64 _, .slice _ _ _, .int .i64 _, .int .i64 _]) h Tryz.underlying57 Tryz.sizeOf63 Tryz.zeroValue63 (by decide) (by kernel_rfl) rfl rfl (by simp) (⟨⟨_, _, rfl, rfl, by decide⟩, trivial⟩) rfl rfl (by simp [maxLen])) rfl rfl ?_
   rintro _ w ⟨b95, rfl, h⟩
   refine WL.eff (eff_app (c2 := 1) (bytes := 80) (h.fetch (Own 8 (.slice a11 no c11) no (out.flatMap OuX.cells))) rfl rfl (h.cellsO (v := .slice (some ⟨b95, 0, none⟩) 1 1)) Tryz.underlying57 rfl rfl rfl rfl rfl (by omega) (by omega) (by simp [Value.oneCell'])) rfl rfl ?_
   rintro _ w ⟨a96, c96, rfl, h⟩
   have h : On W0 (Own 8 (.slice a96 (no + 1) c96) (no + 1) (out.flatMap OuX.cells ++ OuX.cells (⟨((k % 3 : Nat) : Int), ((k + 1 : Nat) : Int), r.st, r.key, r.code, ad, cd, r.data, r.info, ((2 * k + 2 : Nat) : Int)⟩ : OuX)) :: _) w := h
   rw [fm_snoc] at h
   refine WL.val run_assign rfl rfl (WL.nil (W.region (WL.val run_move rfl rfl (WL.val (run_incN rfl rfl (by omega)) rfl rfl (WL.val run_assign rfl rfl (WL.nil ?_))))))
   exact ⟨k + 1, ⟨by omega, _, pr, ins ++ [(⟨((k % 3 : Nat) : Int), ((k + 1 : Nat) : Int), (⟨xk, xa, xn, xax, xac, xbs, xky, xnw, xty, xfo⟩ : CmX), ((2 * k : Nat) : Int)⟩ : InX)], row ++ [(⟨((k % 3 : Nat) : Int), ((k + 1 : Nat) : Int), ((2 * k + 1 : Nat) : Int)⟩ : CoX)], out ++ [(⟨((k % 3 : Nat) : Int), ((k + 1 : Nat) : Int), r.st, r.key, r.code, ad, cd, r.data, r.info, ((2 * k + 2 : Nat) : Int)⟩ : OuX)], nr + 1, no + 1, a67, a78, a96, c67, c78, c96, by omega, by omega, mkE_of ⟨rfl, rfl, rfl, rfl, rfl, rfl, rfl, rfl, trivial⟩, isIns_snoc hI (by rw [hcx]), isRow_snoc hR (by rw [hnr]), isOut_snoc hO (by rw [hno]) (by rw [hno]) (by rw [hno]) (by rw [hno, ← er]; rfl), (fun o ho => by rcases List.mem_append.1 ho with ho | ho; exact ho2 o ho; rw [List.mem_singleton] at ho; subst ho; exact hinr), hsm2, hgu2, (fun i hi => by by_cases e : i = k; subst e; rw [hcx]; show xbs.length ≤ 600; omega; exact hbl i (by omega)), h.to⟩, by show l.length - (k + 1) < l.length - k; omega⟩
  refine W.exit (W.seq (W.seq ?_))
  have hke : k = l.length := by omega
  have hnl := hI.1
  have hrl := hR.1
  have hol := hO.1
  subst hnl
  subst hrl
  subst hol
  have hR2 : isRow (fun i : Nat => ((i % 3 : Nat) : Int)) (fun i : Nat => ((2 * i + 1 : Nat) : Int)) ins.length row := by have hr := hR; rw [hnr] at hr; exact hr
  have hO2 : isOut l (fun i : Nat => ((i % 3 : Nat) : Int)) (fun i : Nat => ((2 * i + 2 : Nat) : Int)) ins.length out := by have hr := hO; rw [hno] at hr; exact hr
  have hB_ : ∀ j, j + 1 < ins.length → (fun i : Nat => ((2 * i + 1 : Nat) : Int)) j ≤ (fun i : Nat => ((2 * i + 1 : Nat) : Int)) (j + 1) := fun j _ => by show ((2 * j + 1 : Nat) : Int) ≤ ((2 * (j + 1) + 1 : Nat) : Int); omega
  have hAB_ : ∀ j, j < ins.length → (fun i : Nat => ((2 * i : Nat) : Int)) j ≤ (fun i : Nat => ((2 * i + 1 : Nat) : Int)) j := fun j _ => by show ((2 * j : Nat) : Int) ≤ ((2 * j + 1 : Nat) : Int); omega
  have hBC_ : ∀ j, j < ins.length → (fun i : Nat => ((2 * i + 1 : Nat) : Int)) j ≤ (fun i : Nat => ((2 * i + 2 : Nat) : Int)) j := fun j _ => by show ((2 * j + 1 : Nat) : Int) ≤ ((2 * j + 2 : Nat) : Int); omega
  have ec : checkM 16 ins row out = (0, 0) := check_fine hI hR2 (Nat.le_refl _) hO2 (Nat.le_refl _) hB_ hAB_ hBC_
  have hif : ∀ x ∈ ins, ∃ i, i < l.length ∧ x.c = cmX l i := fun x hx => by have hm := ins_of hI hx; obtain ⟨i, hi, e⟩ := hm; exact ⟨i, by omega, e⟩
  refine W.region (WL.val run_move rfl rfl (WL.val run_move rfl rfl (WL.val run_move rfl rfl ?_)))
  refine WL.eff (eff_call Tryz.call25 (check_ok (N := 16) (ins := ins) (row := row) (out := out) (by decide) (by decide) (by omega) (ins_nodup hI) h (show Gives _ (Cells 11 (.slice a9 ins.length c9) ins.length (ins.flatMap InX.cells)) from ownGives h (v := .slice a9 ins.length c9)) (show Gives _ (Cells 3 (.slice a10 row.length c10) row.length (row.flatMap CoX.cells)) from ownGives h (v := .slice a10 row.length c10)) (show Gives _ (Cells 8 (.slice a11 out.length c11) out.length (out.flatMap OuX.cells)) from ownGives h (v := .slice a11 out.length c11)) (fun x hx => by have hm := ins_of hI hx; obtain ⟨i, hi, e⟩ := hm; rw [e]; exact Gives.to (HB _ (cmX_mem (by omega)))) (fun x hx => by have hm := ins_of hI hx; obtain ⟨i, hi, e⟩ := hm; rw [e]; exact ⟨HC _ (cmX_mem (by omega)), by have := hbl i hi; omega⟩) (fun x hx => Gives.to (Gives.poolC (L := []) (hob x hx))))) rfl rfl ?_
  rintro v101 w ⟨hv101, h⟩
  rw [ec] at hv101
  subst hv101
  refine WL.val run_move rfl rfl (WL.val (run_extract rfl rfl) rfl rfl (WL.val (run_extract rfl rfl) rfl rfl (WL.val run_assign rfl rfl (WL.val run_assign rfl rfl (WL.nil (W.seq (W.region ?_)))))))
  refine WL.val run_move rfl rfl (WL.val (run_neqF rfl rfl (by decide)) rfl rfl (WL.nil (W.condF rfl (W.skip (W.seq ?_)))))
  have hqx : ∃ q, wn % l.length = q ∧ q < ins.length := ⟨_, rfl, by rw [hke]; exact Nat.mod_lt _ (by omega)⟩
  obtain ⟨q, hq1, hq2⟩ := hqx
  refine W.region (WL.val run_move rfl rfl (WL.val run_move rfl rfl (WL.val (run_lenSlice Tryz.underlying54 rfl) rfl rfl (WL.val (run_remNV (m := wn) (n := l.length) (r := q) rfl rfl (by omega) hq1) rfl rfl (WL.val run_assign rfl rfl (WL.nil (W.seq ?_)))))))
  refine W.region (WL.val run_assign rfl rfl (WL.nil (W.seq (W.region (WL.val run_move rfl rfl (WL.val run_assign rfl rfl (WL.nil ?_)))))))
  refine W.cut (fun env w => ∃ (j : Env) (ins2 : List InX) (row2 : List CoX) (out2 : List OuX) (n9 n10 n11 : Nat) (d9 d10 d11 : Option Addr) (e9 e10 e11 : Nat) (pr : PoolK) (want : Int) (place : Nat), ins2.length = n9 ∧ row2.length = n10 ∧ out2.length = n11 ∧ env = mkE j [(9, .slice d9 n9 e9), (10, .slice d10 n10 e10), (11, .slice d11 n11 e11), (17, .int .i64 want), (18, .int .i64 (place : Int))] ∧ (ins2.map InX.nm).Nodup ∧ n10 ≤ 900000 ∧ checkM 16 ins2 row2 out2 = (place, want) ∧ (∀ x ∈ ins2, ∃ i, i < l.length ∧ x.c = cmX l i) ∧ (∀ o ∈ out2, inB pr (.slice o.ax o.bs.length o.ac) o.bs) ∧ On W0 (PoolC pr :: Own 11 (.slice d9 n9 e9) n9 (ins2.flatMap InX.cells) :: Own 3 (.slice d10 n10 e10) n10 (row2.flatMap CoX.cells) :: Own 8 (.slice d11 n11 e11) n11 (out2.flatMap OuX.cells) :: F) w) ?_ ?_
  ·
   refine W.seq (W.region (WL.val run_move rfl rfl (WL.val (run_and rfl rfl) rfl rfl (WL.nil (W.block (W.seq (W.region ?_)))))))
   refine WL.val (run_eql rfl rfl) rfl rfl (WL.val run_assign rfl rfl (WL.nil ?_))
   refine W.condIf rfl (fun c45 => ?_) (fun c45 => ?_)
   ·
    refine W.seq ?_
    have hxo := hO2.2 q hq2
    obtain ⟨o, ho, eo1, eo2, eo3, eo4⟩ := hxo
    have hrowo := drop_flatMap OuX.cells 8 OuX.cells_length out _ _ ho
    have h := h.fetch (Own 8 (.slice a11 out.length c11) out.length (out.flatMap OuX.cells))
    have hao := Own.addr h (by omega)
    obtain ⟨bo, oo, hao⟩ := hao
    subst hao
    refine W.region (WL.val run_move rfl rfl (WL.val run_move rfl rfl (WL.val run_move rfl rfl (WL.val run_move rfl rfl (WL.val (run_indexAddr Tryz.underlying57 Tryz.sizeOf63 rfl rfl (by omega) (by omega)) rfl rfl (WL.val (run_fieldAddr 2 Tryz.underlying63 rfl Tryz.sizeOf36 rfl rfl) rfl rfl (WL.val (run_fieldAddr 4 Tryz.underlying36 rfl Tryz.sizeOf3 rfl rfl) rfl rfl ?_)))))))
    refine WL.val (run_load1 Tryz.isAgg3 rfl ((h.cellsO (v := .slice (some ⟨bo, oo, none⟩) out.length c11)).elem (i := q) (vs := [.int .i64 o.h, .int .u64 o.id, .int .i64 o.st, .int .i64 o.key, .int .i64 o.code, .slice o.ax o.bs.length o.ac, .int .i64 o.info, .int .i64 o.at_]) (by omega) hrowo 6 _ rfl)) rfl rfl (WL.val (run_xor rfl rfl) rfl rfl (WL.val (run_indexAddr Tryz.underlying57 Tryz.sizeOf63 rfl rfl (by omega) (by omega)) rfl rfl (WL.val (run_fieldAddr 2 Tryz.underlying63 rfl Tryz.sizeOf36 rfl rfl) rfl rfl (WL.val (run_fieldAddr 4 Tryz.underlying36 rfl Tryz.sizeOf3 rfl rfl) rfl rfl (WL.eff (eff_storeOwn (k := q * 8 + 6) (v := .int .i64 _) (h.fetch (Own 8 (.slice (some ⟨bo, oo, none⟩) out.length c11) out.length (out.flatMap OuX.cells))) Tryz.sizeOf3 rfl rfl rfl (by omega)) rfl rfl ?_)))))
    rintro _ w h
    rw [fm_set (x := o) (x' := ({ o with info := IntKind.i64.wrap (BitVec.ofInt IntKind.i64.bits o.info ^^^ BitVec.ofInt IntKind.i64.bits 1).toNat } : OuX)) OuX.cells_length ho (by decide) rfl] at h
    refine WL.nil (W.region (WL.val run_assign rfl rfl (WL.nil ?_)))
    exact ⟨_, ins, row, out.set q ({ o with info := IntKind.i64.wrap (BitVec.ofInt IntKind.i64.bits o.info ^^^ BitVec.ofInt IntKind.i64.bits 1).toNat } : OuX), ins.length, row.length, out.length, a9, a10, (some ⟨bo, oo, none⟩), c9, c10, c11, pq, 4, q, rfl, rfl, (by rw [List.length_set]), mkE_of ⟨rfl, rfl, rfl, rfl, rfl, trivial⟩, (ins_nodup hI), by omega, turn_rp hI hR2 hO2 hB_ hAB_ hBC_ hq2 ho rfl rfl rfl (fun e => xor1_ne o.info (congrArg Rp.info e)), hif, (fun x hx => by rcases List.mem_or_eq_of_mem_set hx with hx | hx; exact hob x hx; subst hx; exact hob o (List.mem_of_getElem? ho)), h.to⟩
   refine W.seq (W.region (WL.val (run_eql rfl rfl) rfl rfl (WL.val run_assign rfl rfl (WL.nil ?_))))
   refine W.condIf rfl (fun c49 => ?_) (fun c49 => ?_)
   ·
    refine W.seq ?_
    have hxo := hO2.2 q hq2
    obtain ⟨o, ho, eo1, eo2, eo3, eo4⟩ := hxo
    have hrowo := drop_flatMap OuX.cells 8 OuX.cells_length out _ _ ho
    have h := h.fetch (Own 8 (.slice a11 out.length c11) out.length (out.flatMap OuX.cells))
    have hao := Own.addr h (by omega)
    obtain ⟨bo, oo, hao⟩ := hao
    subst hao
    refine W.region (WL.val run_move rfl rfl (WL.val run_move rfl rfl (WL.val run_move rfl rfl (WL.val (run_indexAddr Tryz.underlying57 Tryz.sizeOf63 rfl rfl (by omega) (by omega)) rfl rfl (WL.val (run_loadN Tryz.isAgg63 Tryz.sizeOf63 rfl rfl ((h.cellsO (v := .slice (some ⟨bo, oo, none⟩) out.length c11)).elem (i := q) (vs := [.int .i64 o.h, .int .u64 o.id, .int .i64 o.st, .int .i64 o.key, .int .i64 o.code, .slice o.ax o.bs.length o.ac, .int .i64 o.info, .int .i64 o.at_]) (by omega) hrowo )) rfl rfl ?_)))))
    refine WL.eff (eff_mkSlice (zl := [.int .i64 0, .int .u64 0, .int .i64 0, .int .i64 0, .int .i64 0, .slice none 0 0, .int .i64 0, .int .i64 0]) (out := [.int .i64 _, .int .u64 _, .int .i64 _, .int .i64 _, .int .i64 _, .slice _ _ _, .int .i64 _, .int .i64 _]) h Tryz.underlying57 Tryz.sizeOf63 Tryz.zeroValue63 (by decide) (by kernel_rfl) rfl rfl (by simp) (⟨⟨_, _, rfl, rfl, by decide⟩, trivial⟩) rfl rfl (by simp [maxLen])) rfl rfl ?_
    rintro _ w ⟨b149, rfl, h⟩
    refine WL.eff (eff_app (c2 := 1) (bytes := 80) (h.fetch (Own 8 (.slice (some ⟨bo, oo, none⟩) out.length c11) out.length (out.flatMap OuX.cells))) rfl rfl (h.cellsO (v := .slice (some ⟨b149, 0, none⟩) 1 1)) Tryz.underlying57 rfl rfl rfl rfl rfl (by omega) (by omega) (by simp [Value.oneCell'])) rfl rfl ?_
    rintro _ w ⟨a150, c150, rfl, h⟩
    have h : On W0 (Own 8 (.slice a150 (out.length + 1) c150) (out.length + 1) (out.flatMap OuX.cells ++ OuX.cells o) :: _) w := h
    rw [fm_snoc] at h
    refine WL.val run_assign rfl rfl (WL.nil (W.seq (W.region (WL.val run_assign rfl rfl (WL.nil (W.region (WL.val run_move rfl rfl ?_)))))))
    refine WL.val (run_lenSlice Tryz.underlying57 rfl) rfl rfl (WL.val (run_subN (m := out.length + 1) (n := 1) rfl rfl (by omega) (by omega)) rfl rfl (WL.val run_assign rfl rfl (WL.nil ?_)))
    exact ⟨_, ins, row, out ++ [o], ins.length, row.length, out.length + 1, a9, a10, a150, c9, c10, c150, pq, 2, out.length + 1 - 1, rfl, rfl, (by rw [List.length_append]; rfl), mkE_of ⟨rfl, rfl, rfl, rfl, rfl, trivial⟩, (ins_nodup hI), by omega, (by rw [show out.length + 1 - 1 = ins.length by omega]; exact turn_twice hI hR2 hO2 hB_ hAB_ hBC_ hq2 ho), hif, (fun x hx => by rcases List.mem_append.1 hx with hx | hx; exact hob x hx; rw [List.mem_singleton] at hx; subst hx; exact hob _ (List.mem_of_getElem? ho)), h.to⟩
   refine W.seq (W.region (WL.val (run_eql rfl rfl) rfl rfl (WL.val run_assign rfl rfl (WL.nil ?_))))
   refine W.condIf rfl (fun c54 => ?_) (fun c54 => ?_)
   ·
    refine W.seq ?_
    have hxo := hO2.2 q hq2
    obtain ⟨o, ho, eo1, eo2, eo3, eo4⟩ := hxo
    have hrowo := drop_flatMap OuX.cells 8 OuX.cells_length out _ _ ho
    have hxr : row[q]? = some (⟨((q % 3 : Nat) : Int), ((q + 1 : Nat) : Int), ((2 * q + 1 : Nat) : Int)⟩ : CoX) := hR2.2 q hq2
    have hrowr := drop_flatMap CoX.cells 3 CoX.cells_length row _ _ hxr
    have h := h.fetch (Own 8 (.slice a11 out.length c11) out.length (out.flatMap OuX.cells))
    have hao := Own.addr h (by omega)
    obtain ⟨bo, oo, hao⟩ := hao
    subst hao
    have h := h.fetch (Own 3 (.slice a10 row.length c10) row.length (row.flatMap CoX.cells))
    have har := Own.addr h (by omega)
    obtain ⟨br, or_, har⟩ := har
    subst har
    refine W.region (WL.val run_move rfl rfl (WL.val run_move rfl rfl (WL.val run_move rfl rfl (WL.val run_move rfl rfl (WL.val (run_indexAddr Tryz.underlying56 Tryz.sizeOf61 rfl rfl (by omega) (by omega)) rfl rfl (WL.val (run_fieldAddr 2 Tryz.underlying61 rfl Tryz.sizeOf3 rfl rfl) rfl rfl (WL.val (run_load1 Tryz.isAgg3 rfl ((h.cellsO (v := .slice (some ⟨br, or_, none⟩) row.length c10)).elem (i := q) (vs := [.int .i64 ((q % 3 : Nat) : Int), .int .u64 ((q + 1 : Nat) : Int), .int .i64 ((2 * q + 1 : Nat) : Int)]) (by omega) hrowr 2 _ rfl)) rfl rfl ?_)))))))
    refine WL.val (run_sub rfl rfl (by omega) (by omega)) rfl rfl (WL.val (run_indexAddr Tryz.underlying57 Tryz.sizeOf63 rfl rfl (by omega) (by omega)) rfl rfl (WL.val (run_fieldAddr 7 Tryz.underlying63 rfl Tryz.sizeOf3 rfl rfl) rfl rfl (WL.eff (eff_storeOwn (k := q * 8 + 7) (v := .int .i64 _) (h.fetch (Own 8 (.slice (some ⟨bo, oo, none⟩) out.length c11) out.length (out.flatMap OuX.cells))) Tryz.sizeOf3 rfl rfl rfl (by omega)) rfl rfl ?_)))
    rintro _ w h
    rw [fm_set (x := o) (x' := ({ o with at_ := ((2 * q + 1 : Nat) : Int) - 1 } : OuX)) OuX.cells_length ho (by decide) rfl] at h
    refine WL.nil (W.region (WL.val run_assign rfl rfl (WL.nil ?_)))
    exact ⟨_, ins, row, out.set q ({ o with at_ := ((2 * q + 1 : Nat) : Int) - 1 } : OuX), ins.length, row.length, out.length, a9, (some ⟨br, or_, none⟩), (some ⟨bo, oo, none⟩), c9, c10, c11, pq, 2, q, rfl, rfl, (by rw [List.length_set]), mkE_of ⟨rfl, rfl, rfl, rfl, rfl, trivial⟩, (ins_nodup hI), by omega, turn_outAt hI hR2 hO2 hB_ hAB_ hBC_ hq2 ho rfl rfl (by show ((2 * q + 1 : Nat) : Int) - 1 < ((2 * q + 1 : Nat) : Int); omega), hif, (fun x hx => by rcases List.mem_or_eq_of_mem_set hx with hx | hx; exact hob x hx; subst hx; exact hob o (List.mem_of_getElem? ho)), h.to⟩
   refine W.seq (W.region (WL.val (run_eql rfl rfl) rfl rfl (WL.val run_assign rfl rfl (WL.nil ?_))))
   refine W.condIf rfl (fun c58 => ?_) (fun c58 => ?_)
   ·
    refine W.seq ?_
    have hxr : row[q]? = some (⟨((q % 3 : Nat) : Int), ((q + 1 : Nat) : Int), ((2 * q + 1 : Nat) : Int)⟩ : CoX) := hR2.2 q hq2
    have hrowr := drop_flatMap CoX.cells 3 CoX.cells_length row _ _ hxr
    have hxi : ins[q]? = some (⟨((q % 3 : Nat) : Int), ((q + 1 : Nat) : Int), cmX l q, ((2 * q : Nat) : Int)⟩ : InX) := hI.2 q hq2
    have hrowi := drop_flatMap InX.cells 11 InX.cells_length ins _ _ hxi
    have h := h.fetch (Own 3 (.slice a10 row.length c10) row.length (row.flatMap CoX.cells))
    have har := Own.addr h (by omega)
    obtain ⟨br, or_, har⟩ := har
    subst har
    have h := h.fetch (Own 11 (.slice a9 ins.length c9) ins.length (ins.flatMap InX.cells))
    have hai := Own.addr h (by omega)
    obtain ⟨bi, oi, hai⟩ := hai
    subst hai
    refine W.region (WL.val run_move rfl rfl (WL.val run_move rfl rfl (WL.val run_move rfl rfl (WL.val run_move rfl rfl (WL.val (run_indexAddr Tryz.underlying55 Tryz.sizeOf59 rfl rfl (by omega) (by omega)) rfl rfl (WL.val (run_fieldAddr 10 Tryz.underlying59 rfl Tryz.sizeOf3 rfl rfl) rfl rfl ?_))))))
    refine WL.val (run_load1 Tryz.isAgg3 rfl ((h.cellsO (v := .slice (some ⟨bi, oi, none⟩) ins.length c9)).elem (i := q) (vs := [.int .i64 ((q % 3 : Nat) : Int), .int .u64 ((q + 1 : Nat) : Int), .int .i64 (cmX l q).kind, .int .i64 (cmX l q).at_, .int .i64 (cmX l q).n, .slice (cmX l q).ax (cmX l q).bs.length (cmX l q).ac, .int .u64 (cmX l q).key, .int .u64 (cmX l q).new, .int .i64 (cmX l q).typ, .bool (cmX l q).force, .int .i64 ((2 * q : Nat) : Int)]) (by omega) hrowi 10 _ rfl)) rfl rfl ?_
    refine WL.val (run_sub rfl rfl (by omega) (by omega)) rfl rfl (WL.val (run_indexAddr Tryz.underlying56 Tryz.sizeOf61 rfl rfl (by omega) (by omega)) rfl rfl (WL.val (run_fieldAddr 2 Tryz.underlying61 rfl Tryz.sizeOf3 rfl rfl) rfl rfl (WL.eff (eff_storeOwn (k := q * 3 + 2) (v := .int .i64 _) (h.fetch (Own 3 (.slice (some ⟨br, or_, none⟩) row.length c10) row.length (row.flatMap CoX.cells))) Tryz.sizeOf3 rfl rfl rfl (by omega)) rfl rfl ?_)))
    rintro _ w h
    rw [fm_set (x := (⟨((q % 3 : Nat) : Int), ((q + 1 : Nat) : Int), ((2 * q + 1 : Nat) : Int)⟩ : CoX)) (x' := (⟨((q % 3 : Nat) : Int), ((q + 1 : Nat) : Int), ((2 * q : Nat) : Int) - 1⟩ : CoX)) CoX.cells_length hxr (by decide) rfl] at h
    refine WL.nil (W.region (WL.val run_assign rfl rfl (WL.nil ?_)))
    exact ⟨_, ins, row.set q (⟨((q % 3 : Nat) : Int), ((q + 1 : Nat) : Int), ((2 * q : Nat) : Int) - 1⟩ : CoX), out, ins.length, row.length, out.length, (some ⟨bi, oi, none⟩), (some ⟨br, or_, none⟩), a11, c9, c10, c11, pq, 2, q, rfl, (by rw [List.length_set]), rfl, mkE_of ⟨rfl, rfl, rfl, rfl, rfl, trivial⟩, (ins_nodup hI), by omega, turn_rowAt hI hR2 hB_ hAB_ hq2 rfl, hif, hob, h.to⟩
   refine W.seq (W.region (WL.val (run_eql rfl rfl) rfl rfl (WL.val run_assign rfl rfl (WL.nil ?_))))
   refine W.condIf rfl (fun c62 => ?_) (fun c62 => ?_)
   ·
    refine W.seq ?_
    have hxr : row[q]? = some (⟨((q % 3 : Nat) : Int), ((q + 1 : Nat) : Int), ((2 * q + 1 : Nat) : Int)⟩ : CoX) := hR2.2 q hq2
    have hrowr := drop_flatMap CoX.cells 3 CoX.cells_length row _ _ hxr
    have h := h.fetch (Own 3 (.slice a10 row.length c10) row.length (row.flatMap CoX.cells))
    have har := Own.addr h (by omega)
    obtain ⟨br, or_, har⟩ := har
    subst har
    refine W.draw Tryz.follows h (fun w h => ?_)
    refine WT.pure 0 rfl (by kernel_rfl) (fun w' => run_move) rfl rfl (WT.pure 1 rfl (by kernel_rfl) (fun w' => run_move) rfl rfl (WT.pure 2 rfl (by kernel_rfl) (fun w' => run_move) rfl rfl (WT.pure 3 rfl (by kernel_rfl) (fun w' => (run_indexAddr Tryz.underlying56 Tryz.sizeOf61 rfl rfl (by omega) (by omega))) rfl rfl (WT.pure 4 rfl (by kernel_rfl) (fun w' => (run_fieldAddr 0 Tryz.underlying61 rfl Tryz.sizeOf3 rfl rfl)) rfl rfl (WT.load1 5 rfl (by kernel_rfl) Tryz.isAgg3 rfl ((h.cellsO (v := .slice (some ⟨br, or_, none⟩) row.length c10)).elem (i := q) (vs := [.int .i64 ((q % 3 : Nat) : Int), .int .u64 ((q + 1 : Nat) : Int), .int .i64 ((2 * q + 1 : Nat) : Int)]) (by omega) hrowr 0 _ rfl) rfl rfl (WT.pure 6 rfl (by kernel_rfl) (fun w' => run_move) rfl rfl (WT.pure 7 rfl (by kernel_rfl) (fun w' => run_move) rfl rfl ?_)))))))
    refine WT.pure 8 rfl (by kernel_rfl) (fun w' => (run_indexAddr Tryz.underlying56 Tryz.sizeOf61 rfl rfl (by omega) (by omega))) rfl rfl (WT.pure 9 rfl (by kernel_rfl) (fun w' => (run_fieldAddr 1 Tryz.underlying61 rfl Tryz.sizeOf23 rfl rfl)) rfl rfl (WT.load1 10 rfl (by kernel_rfl) Tryz.isAgg23 rfl ((h.cellsO (v := .slice (some ⟨br, or_, none⟩) row.length c10)).elem (i := q) (vs := [.int .i64 ((q % 3 : Nat) : Int), .int .u64 ((q + 1 : Nat) : Int), .int .i64 ((2 * q + 1 : Nat) : Int)]) (by omega) hrowr 1 _ rfl) rfl rfl (WT.pure 11 rfl (by kernel_rfl) (fun w' => run_move) rfl rfl (WT.pure 12 rfl (by kernel_rfl) (fun w' => (run_lenSlice Tryz.underlying54 rfl)) rfl rfl (WT.pure 13 rfl (by kernel_rfl) (fun w' => (run_mulN (m := 2) (n := l.length) rfl rfl (by omega))) rfl rfl (WT.pure 14 rfl (by kernel_rfl) (fun w' => (run_buildS (pl := [(0, 1), (1, 1), (2, 1)]) (out := [.int .i64 _, .int .u64 _, .int .i64 _]) Tryz.underlying61 Tryz.zeroValue61 (fun w => by kernel_rfl) rfl (⟨⟨_, _, rfl, rfl, by decide⟩, ⟨⟨_, _, rfl, rfl, by decide⟩, ⟨⟨_, _, rfl, rfl, by decide⟩, trivial⟩⟩⟩) rfl)) rfl rfl (WT.eff 15 [false, false] rfl (by kernel_rfl) (by kernel_rfl) (eff_mkSlice (zl := [.int .i64 0, .int .u64 0, .int .i64 0]) (out := [.int .i64 _, .int .u64 _, .int .i64 _]) h Tryz.underlying56 Tryz.sizeOf61 Tryz.zeroValue61 (by decide) (by kernel_rfl) rfl rfl (by simp) (⟨⟨_, _, rfl, rfl, by decide⟩, trivial⟩) rfl rfl (by simp [maxLen])) rfl rfl ?_)))))))
    rintro _ w ⟨b195, rfl, h⟩
    refine ⟨trivial, ?_⟩
    refine WT.eff 16 [] rfl (by kernel_rfl) (by kernel_rfl) (eff_app (c2 := 1) (bytes := 24) (h.fetch (Own 3 (.slice (some ⟨br, or_, none⟩) row.length c10) row.length (row.flatMap CoX.cells))) rfl rfl (h.cellsO (v := .slice (some ⟨b195, 0, none⟩) 1 1)) Tryz.underlying56 rfl rfl rfl rfl rfl (by omega) (by omega) (by simp [Value.oneCell'])) rfl rfl ?_
    rintro _ w ⟨a196, c196, rfl, h⟩
    have h : On W0 (Own 3 (.slice a196 (row.length + 1) c196) (row.length + 1) (row.flatMap CoX.cells ++ CoX.cells (⟨((q % 3 : Nat) : Int), ((q + 1 : Nat) : Int), ((2 * l.length : Nat) : Int)⟩ : CoX)) :: _) w := h
    rw [fm_snoc] at h
    refine ⟨trivial, ?_⟩
    refine WT.pure 17 rfl (by kernel_rfl) (fun w' => run_assign) rfl rfl (WT.done (by kernel_rfl) (W.seq (W.region (WL.val run_assign rfl rfl (WL.nil (W.region (WL.val run_move rfl rfl ?_)))))))
    refine WL.val (run_lenSlice Tryz.underlying56 rfl) rfl rfl (WL.val (run_subN (m := row.length + 1) (n := 1) rfl rfl (by omega) (by omega)) rfl rfl (WL.val run_assign rfl rfl (WL.nil ?_)))
    exact ⟨_, ins, row ++ [(⟨((q % 3 : Nat) : Int), ((q + 1 : Nat) : Int), ((2 * l.length : Nat) : Int)⟩ : CoX)], out, ins.length, row.length + 1, out.length, a9, a196, a11, c9, c196, c11, pq, 2, row.length + 1 - 1, rfl, (by rw [List.length_append]; rfl), rfl, mkE_of ⟨rfl, rfl, rfl, rfl, rfl, trivial⟩, (ins_nodup hI), by omega, (by rw [show row.length + 1 - 1 = ins.length by omega]; exact turn_rowTwice hI hR2 hB_ hAB_ hq2), hif, hob, h.to⟩
   refine W.seq (W.region (WL.val (run_eql rfl rfl) rfl rfl (WL.val run_assign rfl rfl (WL.nil ?_))))
   refine W.condIf rfl (fun c67 => ?_) (fun c67 => ?_)
   ·
    refine W.seq ?_
    have hxi : ins[q]? = some (⟨((q % 3 : Nat) : Int), ((q + 1 : Nat) : Int), cmX l q, ((2 * q : Nat) : Int)⟩ : InX) := hI.2 q hq2
    have hrowi := drop_flatMap InX.cells 11 InX.cells_length ins _ _ hxi
    have h := h.fetch (Own 11 (.slice a9 ins.length c9) ins.length (ins.flatMap InX.cells))
    have hai := Own.addr h (by omega)
    obtain ⟨bi, oi, hai⟩ := hai
    subst hai
    refine W.region (WL.val run_move rfl rfl (WL.val run_move rfl rfl (WL.val (run_indexAddr Tryz.underlying55 Tryz.sizeOf59 rfl rfl (by omega) (by omega)) rfl rfl (WL.val (run_fieldAddr 1 Tryz.underlying59 rfl Tryz.sizeOf23 rfl rfl) rfl rfl (WL.eff (eff_storeOwn (k := q * 11 + 1) (v := .int .u64 1000) (h.fetch (Own 11 (.slice (some ⟨bi, oi, none⟩) ins.length c9) ins.length (ins.flatMap InX.cells))) Tryz.sizeOf23 rfl rfl rfl (by omega)) rfl rfl ?_)))))
    rintro _ w h
    rw [fm_set (x := (⟨((q % 3 : Nat) : Int), ((q + 1 : Nat) : Int), cmX l q, ((2 * q : Nat) : Int)⟩ : InX)) (x' := (⟨((q % 3 : Nat) : Int), 1000, cmX l q, ((2 * q : Nat) : Int)⟩ : InX)) InX.cells_length hxi (by decide) rfl] at h
    refine WL.nil (W.region (WL.val run_assign rfl rfl (WL.nil ?_)))
    exact ⟨_, ins.set q (⟨((q % 3 : Nat) : Int), 1000, cmX l q, ((2 * q : Nat) : Int)⟩ : InX), row, out, ins.length, row.length, out.length, (some ⟨bi, oi, none⟩), a10, a11, c9, c10, c11, pq, 6, q, (by rw [List.length_set]), rfl, rfl, mkE_of ⟨rfl, rfl, rfl, rfl, rfl, trivial⟩, (turn_insId (out := out) hI hR2 hB_ hAB_ hq2 rfl (by omega)).1, by omega, (turn_insId hI hR2 hB_ hAB_ hq2 rfl (by omega)).2, (fun x hx => by rcases List.mem_or_eq_of_mem_set hx with hx | hx; exact hif x hx; subst hx; exact ⟨q, by omega, rfl⟩), hob, h.to⟩
   refine W.seq (W.region (WL.val (run_eql rfl rfl) rfl rfl (WL.val run_assign rfl rfl (WL.nil ?_))))
   refine W.condIf rfl (fun c71 => ?_) (fun c71 => ?_)
   ·
    refine W.seq ?_
    have hxo := hO2.2 q hq2
    obtain ⟨o, ho, eo1, eo2, eo3, eo4⟩ := hxo
    have hrowo := drop_flatMap OuX.cells 8 OuX.cells_length out _ _ ho
    have h := h.fetch (Own 8 (.slice a11 out.length c11) out.length (out.flatMap OuX.cells))
    have hao := Own.addr h (by omega)
    obtain ⟨bo, oo, hao⟩ := hao
    subst hao
    refine W.region (WL.val run_move rfl rfl (WL.val run_move rfl rfl (WL.val (run_indexAddr Tryz.underlying57 Tryz.sizeOf63 rfl rfl (by omega) (by omega)) rfl rfl (WL.val (run_fieldAddr 1 Tryz.underlying63 rfl Tryz.sizeOf23 rfl rfl) rfl rfl (WL.eff (eff_storeOwn (k := q * 8 + 1) (v := .int .u64 1000) (h.fetch (Own 8 (.slice (some ⟨bo, oo, none⟩) out.length c11) out.length (out.flatMap OuX.cells))) Tryz.sizeOf23 rfl rfl rfl (by omega)) rfl rfl ?_)))))
    rintro _ w h
    rw [fm_set (x := o) (x' := ({ o with id := 1000 } : OuX)) OuX.cells_length ho (by decide) rfl] at h
    refine WL.nil (W.region (WL.val run_assign rfl rfl (WL.nil ?_)))
    exact ⟨_, ins, row, out.set q ({ o with id := 1000 } : OuX), ins.length, row.length, out.length, a9, a10, (some ⟨bo, oo, none⟩), c9, c10, c11, pq, 6, q, rfl, rfl, (by rw [List.length_set]), mkE_of ⟨rfl, rfl, rfl, rfl, rfl, trivial⟩, (ins_nodup hI), by omega, turn_outId hI hR2 hO2 hB_ hAB_ hBC_ hq2 ho rfl (by omega), hif, (fun x hx => by rcases List.mem_or_eq_of_mem_set hx with hx | hx; exact hob x hx; subst hx; exact hob o (List.mem_of_getElem? ho)), h.to⟩
   refine W.seq ?_
   have hxo := hO2.2 q hq2
   obtain ⟨o, ho, eo1, eo2, eo3, eo4⟩ := hxo
   have hrowo := drop_flatMap OuX.cells 8 OuX.cells_length out _ _ ho
   have h := h.fetch (Own 8 (.slice a11 out.length c11) out.length (out.flatMap OuX.cells))
   have hao := Own.addr h (by omega)
   obtain ⟨bo, oo, hao⟩ := hao
   subst hao
   have hbo := hob o (List.mem_of_getElem? ho)
   have hdl0 : o.rp.data.length ≤ 1000 := by rw [eo4]; exact doM_dlen
   have hdl : o.bs.length ≤ 1000 := hdl0
   have CD : Gives (PoolC pq :: []) (Bytes (.slice o.ax o.bs.length o.ac) o.bs) := Gives.poolC hbo
   refine W.region (WL.val run_move rfl rfl (WL.val run_move rfl rfl (WL.eff (eff_mkSlice (zl := []) (out := []) h Tryz.underlying22 Tryz.sizeOf5 Tryz.zeroValue5 (by decide) (by simp) rfl rfl (by simp) (trivial) rfl rfl (by simp [maxLen])) rfl rfl ?_)))
   rintro _ w ⟨b115, rfl, h⟩
   refine WL.val run_move rfl rfl (WL.val run_move rfl rfl (WL.val (run_indexAddr Tryz.underlying57 Tryz.sizeOf63 rfl rfl (by omega) (by omega)) rfl rfl (WL.val (run_fieldAddr 2 Tryz.underlying63 rfl Tryz.sizeOf36 rfl rfl) rfl rfl (WL.val (run_fieldAddr 3 Tryz.underlying36 rfl Tryz.sizeOf22 rfl rfl) rfl rfl (WL.val (run_load1 Tryz.isAgg22 rfl ((h.cellsO (v := .slice (some ⟨bo, oo, none⟩) out.length c11)).elem (i := q) (vs := [.int .i64 o.h, .int .u64 o.id, .int .i64 o.st, .int .i64 o.key, .int .i64 o.code, .slice o.ax o.bs.length o.ac, .int .i64 o.info, .int .i64 o.at_]) (by omega) hrowo 5 _ rfl)) rfl rfl (WL.eff (eff_app0 (bytes := 1) h rfl rfl (h.readsTo CD) Tryz.underlying22 rfl rfl rfl rfl rfl (by omega) (by omega) bytes_one) rfl rfl ?_))))))
   rintro _ w ⟨a122, c122, rfl, h⟩
   refine WL.eff (eff_mkSlice (zl := [.int .u8 0]) (out := [.int .u8 _]) h Tryz.underlying22 Tryz.sizeOf5 Tryz.zeroValue5 (by decide) (by kernel_rfl) rfl rfl (by simp) (⟨⟨_, _, rfl, rfl, by decide⟩, trivial⟩) rfl rfl (by simp [maxLen])) rfl rfl ?_
   rintro _ w ⟨b123, rfl, h⟩
   refine WL.eff (eff_app (c2 := 1) (bytes := 1) (h.fetch (OwnB (.slice a122 o.bs.length c122) o.bs)) rfl rfl (h.cellsO (v := .slice (some ⟨b123, 0, none⟩) 1 1)) Tryz.underlying22 rfl rfl rfl rfl rfl (by omega) (by omega) (by simp [Value.oneCell'])) rfl rfl ?_
   rintro _ w ⟨a124, c124, rfl, h⟩
   refine WL.val (run_indexAddr Tryz.underlying57 Tryz.sizeOf63 rfl rfl (by omega) (by omega)) rfl rfl (WL.val (run_fieldAddr 2 Tryz.underlying63 rfl Tryz.sizeOf36 rfl rfl) rfl rfl (WL.val (run_fieldAddr 3 Tryz.underlying36 rfl Tryz.sizeOf22 rfl rfl) rfl rfl (WL.eff (eff_storeOwn (k := q * 8 + 5) (v := .slice a124 (o.bs.length + 1) c124) (h.fetch (Own 8 (.slice (some ⟨bo, oo, none⟩) out.length c11) out.length (out.flatMap OuX.cells))) Tryz.sizeOf22 rfl rfl rfl (by omega)) rfl rfl ?_)))
   rintro _ w h
   rw [fm_set (x := o) (x' := ({ o with ax := a124, ac := c124, bs := o.bs ++ [7] } : OuX)) OuX.cells_length ho (by decide) (by show [_, _, _, _, _, Value.slice a124 (o.bs ++ [7]).length c124, _, _] = _; rw [List.length_append]; rfl)] at h
   refine WL.nil (W.region (WL.val run_assign rfl rfl (WL.nil ?_)))
   have hpd : inB ((1, .slice a124 (o.bs.length + 1) c124, o.bs.length + 1, bytesV o.bs ++ [.int .u8 7]) :: pq) (.slice a124 (o.bs ++ [7]).length c124) (o.bs ++ [7]) := by
     refine List.mem_cons.2 (.inl ?_)
     have e1 : (o.bs ++ [7]).length = o.bs.length + 1 := by rw [List.length_append]; rfl
     have e2 : bytesV (o.bs ++ [7]) = bytesV o.bs ++ [.int .u8 7] := by simp [bytesV, byteV]
     rw [e1, e2]
   have h := On.toPoolC ((h.fetch (PoolC pq)).fetch (Own 1 (.slice a124 (o.bs.length + 1) c124) (o.bs.length + 1) (bytesV o.bs ++ [.int .u8 7])))
   exact ⟨_, ins, row, out.set q ({ o with ax := a124, ac := c124, bs := o.bs ++ [7] } : OuX), ins.length, row.length, out.length, a9, a10, (some ⟨bo, oo, none⟩), c9, c10, c11, ((1, .slice a124 (o.bs.length + 1) c124, o.bs.length + 1, bytesV o.bs ++ [.int .u8 7]) :: pq), 4, q, rfl, rfl, (by rw [List.length_set]), mkE_of ⟨rfl, rfl, rfl, rfl, rfl, trivial⟩, (ins_nodup hI), by omega, turn_rp hI hR2 hO2 hB_ hAB_ hBC_ hq2 ho rfl rfl rfl (fun e => by have e2 : (o.bs ++ [7]).length = o.bs.length := congrArg (fun r : Rp => r.data.length) e; rw [List.length_append] at e2; have e3 : ([7] : List UInt8).length = 1 := rfl; omega), hif, (fun x hx => by rcases List.mem_or_eq_of_mem_set hx with hx | hx; exact List.mem_cons_of_mem _ (hob x hx); subst hx; exact hpd), h.to⟩
  clear h hob hI hR hO hR2 hO2 ec
  rintro env w ⟨j, ins2, row2, out2, n9, n10, n11, d9, d10, d11, e9, e10, e11, pr, want, place, hl9, hl10, hl11, rfl, hnd2, hr9, ec, hif2, hob, h⟩
  subst hl9
  subst hl10
  subst hl11
  refine W.seq (W.region (WL.val run_move rfl rfl (WL.val run_move rfl rfl (WL.val run_move rfl rfl ?_))))
  refine WL.eff (eff_call Tryz.call25 (check_ok (N := 16) (ins := ins2) (row := row2) (out := out2) (by decide) (by decide) hr9 hnd2 h (show Gives _ (Cells 11 (.slice d9 ins2.length e9) ins2.length (ins2.flatMap InX.cells)) from ownGives h (v := .slice d9 ins2.length e9)) (show Gives _ (Cells 3 (.slice d10 row2.length e10) row2.length (row2.flatMap CoX.cells)) from ownGives h (v := .slice d10 row2.length e10)) (show Gives _ (Cells 8 (.slice d11 out2.length e11) out2.length (out2.flatMap OuX.cells)) from ownGives h (v := .slice d11 out2.length e11)) (fun x hx => by have hm := hif2 x hx; obtain ⟨i, hi, e⟩ := hm; rw [e]; exact Gives.to (HB _ (cmX_mem (by omega)))) (fun x hx => by have hm := hif2 x hx; obtain ⟨i, hi, e⟩ := hm; rw [e]; exact ⟨HC _ (cmX_mem (by omega)), by have := hbl i (by omega); omega⟩) (fun x hx => Gives.to (Gives.poolC (L := []) (hob x hx))))) rfl rfl ?_
  rintro v216 w ⟨hv216, h⟩
  rw [ec] at hv216
  subst hv216
  refine WL.val run_move rfl rfl (WL.val (run_extract rfl rfl) rfl rfl (WL.val (run_extract rfl rfl) rfl rfl (WL.val run_assign rfl rfl (WL.val run_assign rfl rfl (WL.nil (W.seq (W.region ?_)))))))
  refine WL.val run_move rfl rfl (WL.val run_move rfl rfl (WL.val (run_eqlT rfl rfl (rfl)) rfl rfl (WL.val run_move rfl rfl (WL.val run_move rfl rfl (WL.val run_move rfl rfl (WL.val (run_eqlT rfl rfl (rfl)) rfl rfl (WL.val (run_pickT rfl) rfl rfl ?_)))))))
  refine WL.val run_assign rfl rfl (WL.nil (W.ret (bodyQ.r1 (v := .bool _) Tryz.results8 rfl ?_)))
  exact ⟨rfl, h.to⟩

end Go.Proofs.YtdpakoefdpmebaaGreat
