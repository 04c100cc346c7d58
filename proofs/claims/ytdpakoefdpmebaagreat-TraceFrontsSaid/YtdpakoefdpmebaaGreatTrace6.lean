/-
  A unit: fronts of what one unit did: the contracts. Lines of walks printed by a program of the prover's.
-/
import Derived.Test.YtdpakoefdpmebaaGreatRef5
import Derived.Test.YtdpakoefdpmebaaGreatTrace4
import Derived.Test.YtdpakoefdpmebaaGreatTraceRun
namespace Go.Proofs.YtdpakoefdpmebaaGreat
open Go Go.Sl Go.Sl.TrM Go.Sl.BitM Go.Sl.SpM Go.Sl.RsM Go.Sl.ByM Go.Sl.UnM
set_option linter.unusedVariables false
set_option linter.unusedSimpArgs false
set_option maxHeartbeats 1000000
set_option maxRecDepth 8000
variable {W0 w : World} {L F : List HProp}

theorem tfronts_law {al : Option Addr} {cl : Nat} {l : List CmX} {rows outs : Int} (h : On W0 F w) (CL : Gives F (Cells 8 (.slice al l.length cl) l.length (l.flatMap CmX.cells))) (HB : ∀ x ∈ l, Gives F (Bytes (.slice x.ax x.bs.length x.ac) x.bs)) (HC : ∀ x ∈ l, okCm x.cm) : Calls Tryz.prog 9 #[.slice al l.length cl, .int .i64 rows, .int .i64 outs] w (Ret fun v w' => v = .bool true ∧ On W0 F w') := by
  refine enter Tryz.func9 rfl Tryz.ntmps9 rfl ?_
  have hmx := maxLen_eq
  have hbl0 := (h.reads CL).bounds
  obtain ⟨hb1, hb2⟩ := hbl0
  refine W.seq (W.region (WL.val run_assign rfl rfl (WL.nil (W.seq (W.seq (W.region (WL.eff (eff_call Tryz.call23 (tknown_ok h)) rfl rfl ?_)))))))
  rintro _ w ⟨rfl, h⟩
  refine WL.val (run_not rfl) rfl rfl (WL.nil (W.condF rfl (W.skip (W.seq (W.seq (W.region (WL.val run_move rfl rfl ?_)))))))
  refine WL.val (run_lenSlice Tryz.underlying54 rfl) rfl rfl ?_
  refine WL.dec (run_gtr rfl rfl) rfl rfl (fun c20 => ?_) (fun c20 => ?_)
  ·
   refine WL.val run_move rfl rfl (WL.skip rfl rfl (WL.skip rfl rfl (WL.val (run_pickT rfl) rfl rfl (WL.val run_move rfl rfl (WL.skip rfl rfl (WL.skip rfl rfl (WL.skip rfl rfl ?_)))))))
   refine WL.skip rfl rfl (WL.val (run_pickT rfl) rfl rfl (WL.val run_move rfl rfl (WL.skip rfl rfl (WL.skip rfl rfl (WL.val (run_pickT rfl) rfl rfl (WL.val run_move rfl rfl (WL.skip rfl rfl ?_)))))))
   refine WL.skip rfl rfl (WL.skip rfl rfl (WL.skip rfl rfl (WL.val (run_pickT rfl) rfl rfl (WL.nil (W.condT rfl (W.seq (W.region ?_)))))))
   refine WL.val run_assign rfl rfl (WL.nil (W.ret (bodyQ.r1 (v := .bool _) Tryz.results9 rfl ?_)))
   exact ⟨rfl, h⟩
  refine WL.val run_move rfl rfl (WL.val run_move rfl rfl ?_)
  refine WL.dec (run_lss rfl rfl) rfl rfl (fun c23 => ?_) (fun c23 => ?_)
  ·
   refine WL.val (run_pickF rfl) rfl rfl (WL.val run_move rfl rfl (WL.skip rfl rfl (WL.skip rfl rfl (WL.skip rfl rfl (WL.skip rfl rfl (WL.val (run_pickT rfl) rfl rfl (WL.val run_move rfl rfl ?_)))))))
   refine WL.skip rfl rfl (WL.skip rfl rfl (WL.val (run_pickT rfl) rfl rfl (WL.val run_move rfl rfl (WL.skip rfl rfl (WL.skip rfl rfl (WL.skip rfl rfl (WL.skip rfl rfl ?_)))))))
   refine WL.val (run_pickT rfl) rfl rfl (WL.nil (W.condT rfl (W.seq (W.region (WL.val run_assign rfl rfl (WL.nil (W.ret ?_)))))))
   refine bodyQ.r1 (v := .bool _) Tryz.results9 rfl ?_
   exact ⟨rfl, h⟩
  refine WL.val (run_pickF rfl) rfl rfl (WL.val run_move rfl rfl (WL.val run_move rfl rfl (WL.val run_move rfl rfl (WL.val (run_lenSlice Tryz.underlying54 rfl) rfl rfl ?_))))
  refine WL.dec (run_gtr rfl rfl) rfl rfl (fun c29 => ?_) (fun c29 => ?_)
  ·
   refine WL.val (run_pickF rfl) rfl rfl (WL.val run_move rfl rfl (WL.skip rfl rfl (WL.skip rfl rfl (WL.val (run_pickT rfl) rfl rfl (WL.val run_move rfl rfl (WL.skip rfl rfl (WL.skip rfl rfl ?_)))))))
   refine WL.skip rfl rfl (WL.skip rfl rfl (WL.val (run_pickT rfl) rfl rfl (WL.nil (W.condT rfl (W.seq (W.region (WL.val run_assign rfl rfl ?_)))))))
   refine WL.nil (W.ret (bodyQ.r1 (v := .bool _) Tryz.results9 rfl ?_))
   exact ⟨rfl, h⟩
  refine WL.val (run_pickF rfl) rfl rfl (WL.val run_move rfl rfl (WL.val run_move rfl rfl ?_))
  refine WL.dec (run_lss rfl rfl) rfl rfl (fun c33 => ?_) (fun c33 => ?_)
  ·
   refine WL.val (run_pickF rfl) rfl rfl (WL.val run_move rfl rfl (WL.skip rfl rfl (WL.skip rfl rfl (WL.skip rfl rfl (WL.skip rfl rfl (WL.val (run_pickT rfl) rfl rfl (WL.nil ?_)))))))
   refine W.condT rfl (W.seq (W.region (WL.val run_assign rfl rfl (WL.nil (W.ret (bodyQ.r1 (v := .bool _) Tryz.results9 rfl ?_))))))
   exact ⟨rfl, h⟩
  refine WL.val (run_pickF rfl) rfl rfl (WL.val run_move rfl rfl (WL.val run_move rfl rfl (WL.val run_move rfl rfl (WL.val (run_lenSlice Tryz.underlying54 rfl) rfl rfl (WL.val (run_gtr rfl rfl) rfl rfl (WL.val (run_pickF rfl) rfl rfl (WL.nil ?_)))))))
  refine W.condIf rfl (fun c7 => ?_) (fun c7 => ?_)
  ·
   refine W.seq (W.region (WL.val run_assign rfl rfl (WL.nil (W.ret (bodyQ.r1 (v := .bool _) Tryz.results9 rfl ?_)))))
   exact ⟨rfl, h⟩
  refine W.skip (W.seq ?_)
  have hR0 := Int.eq_ofNat_of_zero_le (show 0 ≤ rows by omega)
  obtain ⟨R, hR0⟩ := hR0
  subst hR0
  have hO0 := Int.eq_ofNat_of_zero_le (show 0 ≤ outs by omega)
  obtain ⟨O, hO0⟩ := hO0
  subst hO0
  have h := On.poolC0 h
  refine W.region (WL.eff (eff_call Tryz.call18 (runew_ok (n := 16) (pc := []) (by decide) (by decide) h)) rfl rfl ?_)
  rintro _ w ⟨pc2, bu, hs2, rfl, h⟩
  refine WL.val run_move rfl rfl (WL.val (run_extract rfl rfl) rfl rfl (WL.val (run_extract rfl rfl) rfl rfl (WL.val run_assign rfl rfl (WL.val run_assign rfl rfl (WL.nil (W.seq (W.region ?_)))))))
  refine WL.val run_assign rfl rfl (WL.nil (W.seq (W.region (WL.val run_assign rfl rfl (WL.nil (W.seq (W.region ?_)))))))
  refine WL.val run_assign rfl rfl (WL.nil (W.seq (W.seq (W.region (WL.val run_assign rfl rfl (WL.nil (W.block ?_)))))))
  refine W.loop (fun (k : Nat) env w => k ≤ l.length ∧ ∃ (j : Env) (pq : PoolK) (ins : List InX) (row : List CoX) (out : List OuX) (nr no : Nat) (a9 a10 a11 : Option Addr) (c9 c10 c11 : Nat), nr = min k R ∧ no = min k O ∧ env = mkE j [(0, .slice al l.length cl), (1, .int .i64 (R : Int)), (2, .int .i64 (O : Int)), (7, .pointer (some ⟨bu, 0, none⟩)), (9, .slice a9 k c9), (10, .slice a10 nr c10), (11, .slice a11 no c11), (12, .int .i64 (k : Int))] ∧ isIns l (fun _ => (1 : Int)) (fun i : Nat => (i : Int)) k ins ∧ isRow (fun _ => (1 : Int)) (fun _ => (100 : Int)) nr row ∧ isOut l (fun _ => (1 : Int)) (fun _ => (100 : Int)) no out ∧ (∀ o ∈ out, inB pq (.slice o.ax o.bs.length o.ac) o.bs) ∧ small k (unA l (fun _ => (1 : Int)) k) ∧ goodU (unA l (fun _ => (1 : Int)) k) ∧ (∀ i, i < k → (cmX l i).bs.length ≤ 600) ∧ On W0 (RefU 106 110 128 bu pq (unA l (fun _ => (1 : Int)) k) :: PoolC pq :: Own 11 (.slice a9 k c9) k (ins.flatMap InX.cells) :: Own 3 (.slice a10 nr c10) nr (row.flatMap CoX.cells) :: Own 8 (.slice a11 no c11) no (out.flatMap OuX.cells) :: F) w) (fun k => l.length - k) (0) ?_ ?_
  · have h := (h.ownEmpty 8 none)
    have h : On W0 (Own 8 (.slice none 0 0) 0 (([] : List OuX).flatMap OuX.cells) :: _) w := h
    have h := (h.ownEmpty 3 none)
    have h : On W0 (Own 3 (.slice none 0 0) 0 (([] : List CoX).flatMap CoX.cells) :: _) w := h
    have h := (h.ownEmpty 11 none)
    have h : On W0 (Own 11 (.slice none 0 0) 0 (([] : List InX).flatMap InX.cells) :: _) w := h
    have h := h.fetch (RefU 106 110 128 bu pc2 (newU 16))
    have h : On W0 (RefU 106 110 128 bu pc2 (unA l (fun _ => (1 : Int)) 0) :: _) w := h
    exact ⟨Nat.zero_le _, _, pc2, [], [], [], 0, 0, none, none, none, 0, 0, 0, (Nat.zero_min _).symm, (Nat.zero_min _).symm, mkE_of ⟨rfl, rfl, rfl, rfl, rfl, rfl, rfl, rfl, trivial⟩, isIns_nil, isRow_nil, isOut_nil, (fun o ho => by cases ho), new_small 16, goodU_new 16, (fun i hi => by omega), h.to⟩
  clear h
  rintro k env w ⟨hk, j, pq, ins, row, out, nr, no, a9, a10, a11, c9, c10, c11, hnr, hno, rfl, hI, hR, hO, hob, hsm, hgu, hbl, h⟩
  refine W.seq (W.seq (W.region (WL.val run_move rfl rfl (WL.val run_move rfl rfl (WL.val (run_lenSlice Tryz.underlying54 rfl) rfl rfl (WL.val (run_lss rfl rfl) rfl rfl (WL.nil ?_)))))))
  refine W.condIf rfl (fun c19 => ?_) (fun c19 => ?_)
  ·
   refine W.skip (W.seq ?_)
   have hkl : k < l.length := by omega
   have ad_ := (h.readsTo CL).addr (by omega)
   obtain ⟨bl, ol, hal_⟩ := ad_
   subst hal_
   have ex_ : ∃ a, l[k]? = some a := ⟨l[k], by simp⟩
   obtain ⟨⟨xk, xa, xn, xax, xac, xbs, xky, xnw, xty, xfo⟩, hq⟩ := ex_
   have hrow := drop_flatMap CmX.cells 8 (fun _ => rfl) l _ _ hq
   have hcx : cmX l k = (⟨xk, xa, xn, xax, xac, xbs, xky, xnw, xty, xfo⟩ : CmX) := by unfold cmX; rw [hq]; rfl
   have hm := List.mem_of_getElem? hq
   have hBx : Gives F (Bytes (.slice xax xbs.length xac) xbs) := HB _ hm
   have hCx : okCm (⟨xk, xa, xn, xbs, xky, xnw, xty, xfo⟩ : Cm) := HC _ hm
   refine W.block (W.seq (W.seq (W.region (WL.val run_move rfl rfl (WL.val run_move rfl rfl (WL.val (run_indexAddr Tryz.underlying54 Tryz.sizeOf25 rfl rfl (by omega) (by omega)) rfl rfl (WL.val (run_fieldAddr 3 Tryz.underlying25 rfl Tryz.sizeOf22 rfl rfl) rfl rfl ?_)))))))
   refine WL.val (run_load1 Tryz.isAgg22 rfl ((h.readsTo CL).elem (i := k) (vs := [.int .i64 xk, .int .i64 xa, .int .i64 xn, .slice xax xbs.length xac, .int .u64 xky, .int .u64 xnw, .int .i64 xty, .bool xfo]) hkl hrow 3 _ rfl)) rfl rfl (WL.val (run_lenSlice Tryz.underlying22 rfl) rfl rfl (WL.val (run_gtr rfl rfl) rfl rfl (WL.nil ?_)))
   refine W.condIf rfl (fun c24 => ?_) (fun c24 => ?_)
   ·
    refine W.seq (W.region (WL.val run_assign rfl rfl (WL.nil (W.ret (bodyQ.r1 (v := .bool _) Tryz.results9 rfl ?_)))))
    exact ⟨rfl, h.to⟩
   refine W.skip (W.seq (W.region (WL.val run_move rfl rfl (WL.val run_move rfl rfl (WL.val (run_addN (m := k) (n := 1) rfl rfl (by omega)) rfl rfl (WL.val (run_convIn Tryz.underlying3 Tryz.underlying23 rfl (by show (0 : Int) ≤ _; omega) (by show _ ≤ (18446744073709551615 : Int); omega)) rfl rfl (WL.val run_move rfl rfl ?_)))))))
   refine WL.val run_move rfl rfl (WL.val (run_indexAddr Tryz.underlying54 Tryz.sizeOf25 rfl rfl (by omega) (by omega)) rfl rfl (WL.val (run_loadN Tryz.isAgg25 Tryz.sizeOf25 rfl rfl ((h.readsTo CL).elem (i := k) (vs := [.int .i64 xk, .int .i64 xa, .int .i64 xn, .slice xax xbs.length xac, .int .u64 xky, .int .u64 xnw, .int .i64 xty, .bool xfo]) hkl hrow )) rfl rfl (WL.val run_move rfl rfl ?_)))
   refine WL.val (run_buildS (pl := [(0, 1), (1, 1), (2, 8), (10, 1)]) (out := [.int .i64 _, .int .u64 _, .int .i64 _, .int .i64 _, .int .i64 _, .slice _ _ _, .int .u64 _, .int .u64 _, .int .i64 _, .bool _, .int .i64 _]) Tryz.underlying59 Tryz.zeroValue59 (fun w => by kernel_rfl) rfl (⟨⟨_, _, rfl, rfl, by decide⟩, ⟨⟨_, _, rfl, rfl, by decide⟩, ⟨⟨_, _, rfl, rfl, by decide⟩, ⟨⟨_, _, rfl, rfl, by decide⟩, trivial⟩⟩⟩⟩) rfl) rfl rfl ?_
   refine WL.eff (eff_mkSlice (zl := [.int .i64 0, .int .u64 0, .int .i64 0, .int .i64 0, .int .i64 0, .slice none 0 0, .int .u64 0, .int .u64 0, .int .i64 0, .bool false, .int .i64 0]) (out := [.int .i64 _, .int .u64 _, .int .i64 _, .int .i64 _, .int .i64 _, .slice _ _ _, .int .u64 _, .int .u64 _, .int .i64 _, .bool _, .int .i64 _]) h Tryz.underlying55 Tryz.sizeOf59 Tryz.zeroValue59 (by decide) (by kernel_rfl) rfl rfl (by simp) (⟨⟨_, _, rfl, rfl, by decide⟩, trivial⟩) rfl rfl (by simp [maxLen])) rfl rfl ?_
   rintro _ w ⟨b68, rfl, h⟩
   refine WL.eff (eff_app (c2 := 1) (bytes := 104) (h.fetch (Own 11 (.slice a9 k c9) k (ins.flatMap InX.cells))) rfl rfl (h.cellsO (v := .slice (some ⟨b68, 0, none⟩) 1 1)) Tryz.underlying55 rfl rfl rfl rfl rfl (by omega) (by omega) (by simp [Value.oneCell'])) rfl rfl ?_
   rintro _ w ⟨a69, c69, rfl, h⟩
   have h : On W0 (Own 11 (.slice a69 (k + 1) c69) (k + 1) (ins.flatMap InX.cells ++ InX.cells (⟨1, ((k + 1 : Nat) : Int), (⟨xk, xa, xn, xax, xac, xbs, xky, xnw, xty, xfo⟩ : CmX), (k : Int)⟩ : InX)) :: _) w := h
   rw [fm_snoc] at h
   refine WL.val run_assign rfl rfl (WL.nil (W.seq ?_))
   have hl8 := (RefU_nil ((h.fetch (PoolC pq)).fetch (RefU 106 110 128 bu pq (unA l (fun _ => (1 : Int)) k)))).2.1
   refine W.region (WL.val run_move rfl rfl (WL.val run_move rfl rfl (WL.val run_move rfl rfl (WL.val (run_indexAddr Tryz.underlying54 Tryz.sizeOf25 rfl rfl (by omega) (by omega)) rfl rfl (WL.val (run_loadN Tryz.isAgg25 Tryz.sizeOf25 rfl rfl ((h.readsTo CL).elem (i := k) (vs := [.int .i64 xk, .int .i64 xa, .int .i64 xn, .slice xax xbs.length xac, .int .u64 xky, .int .u64 xnw, .int .i64 xty, .bool xfo]) hkl hrow )) rfl rfl (WL.eff (eff_call Tryz.call24 (rdo_ok (bu := bu) (u := unA l (fun _ => (1 : Int)) k) (pc := pq) (hh := 1) (kind := xk) (at_ := xa) (n := xn) (data := xbs) (ax := xax) (cx := xac) (key := xky) (new := xnw) (typ := xty) (force := xfo) (small_le hsm (by omega)) hgu hCx ((h.fetch (PoolC pq)).fetch (RefU 106 110 128 bu pq (unA l (fun _ => (1 : Int)) k))) (Gives.to hBx) (by omega))) rfl rfl ?_))))))
   rintro _ w ⟨pr, u', r, dv, hdo, rfl, hsr, hinr, h⟩
   have hdo2 : doM (unA l (fun _ => (1 : Int)) k) ((fun _ => (1 : Int)) k) (cmX l k).cm = (u', r) := by rw [hcx]; exact hdo
   have eu : u' = unA l (fun _ => (1 : Int)) (k + 1) := by show _ = (doM (unA l (fun _ => (1 : Int)) k) ((fun _ => (1 : Int)) k) (cmX l k).cm).1; rw [hdo2]
   have er : r = rpA l (fun _ => (1 : Int)) k := by show _ = (doM (unA l (fun _ => (1 : Int)) k) ((fun _ => (1 : Int)) k) (cmX l k).cm).2; rw [hdo2]
   have hg8 := (RefU_nil ((h.fetch (PoolC pr)).fetch (RefU 106 110 128 bu pr u'))).2.1
   have hsm2 : small (k + 1) (unA l (fun _ => (1 : Int)) (k + 1)) := (kept_do hl8).2.2 _ hsm
   have hgu2 : goodU (unA l (fun _ => (1 : Int)) (k + 1)) := goodU_do hl8 hgu (by rw [hcx]; exact hCx)
   have hdf := rslice_of ((h.fetch (PoolC pr)).fetch (RefU 106 110 128 bu pr u')) hinr
   obtain ⟨ad, cd, hdv⟩ := hdf
   subst hdv
   subst eu
   have ho2 : ∀ o ∈ out, inB pr (.slice o.ax o.bs.length o.ac) o.bs := fun o ho => hsr _ (hob o ho)
   refine WL.eff (eff_alloc h Tryz.zeroValue36 rfl) rfl rfl ?_
   rintro _ w ⟨b13, rfl, h⟩
   refine WL.eff (eff_storeW (vs := [.int .i64 _, .int .i64 _, .int .i64 _, .slice _ _ _, .int .i64 _]) h Tryz.sizeOf36 rfl rfl rfl rfl rfl) rfl rfl ?_
   rintro _ w h
   refine WL.nil (W.seq (W.seq (W.region (WL.val run_move rfl rfl (WL.val run_move rfl rfl (WL.val (run_lss rfl rfl) rfl rfl (WL.nil ?_)))))))
   refine W.condIf rfl (fun c31 => ?_) (fun c31 => ?_)
   ·
    refine W.region (WL.val run_move rfl rfl (WL.val run_move rfl rfl (WL.val (run_addN (m := k) (n := 1) rfl rfl (by omega)) rfl rfl (WL.val (run_convIn Tryz.underlying3 Tryz.underlying23 rfl (by show (0 : Int) ≤ _; omega) (by show _ ≤ (18446744073709551615 : Int); omega)) rfl rfl (WL.val (run_buildS (pl := [(0, 1), (1, 1), (2, 1)]) (out := [.int .i64 _, .int .u64 _, .int .i64 _]) Tryz.underlying61 Tryz.zeroValue61 (fun w => by kernel_rfl) rfl (⟨⟨_, _, rfl, rfl, by decide⟩, ⟨⟨_, _, rfl, rfl, by decide⟩, ⟨⟨_, _, rfl, rfl, by decide⟩, trivial⟩⟩⟩) rfl) rfl rfl (WL.eff (eff_mkSlice (zl := [.int .i64 0, .int .u64 0, .int .i64 0]) (out := [.int .i64 _, .int .u64 _, .int .i64 _]) h Tryz.underlying56 Tryz.sizeOf61 Tryz.zeroValue61 (by decide) (by kernel_rfl) rfl rfl (by simp) (⟨⟨_, _, rfl, rfl, by decide⟩, trivial⟩) rfl rfl (by simp [maxLen])) rfl rfl ?_))))))
    rintro _ w ⟨b84, rfl, h⟩
    refine WL.eff (eff_app (c2 := 1) (bytes := 24) (h.fetch (Own 3 (.slice a10 nr c10) nr (row.flatMap CoX.cells))) rfl rfl (h.cellsO (v := .slice (some ⟨b84, 0, none⟩) 1 1)) Tryz.underlying56 rfl rfl rfl rfl rfl (by omega) (by omega) (by simp [Value.oneCell'])) rfl rfl ?_
    rintro _ w ⟨a85, c85, rfl, h⟩
    have h : On W0 (Own 3 (.slice a85 (nr + 1) c85) (nr + 1) (row.flatMap CoX.cells ++ CoX.cells (⟨1, ((k + 1 : Nat) : Int), 100⟩ : CoX)) :: _) w := h
    rw [fm_snoc] at h
    refine WL.val run_assign rfl rfl (WL.nil (W.seq (W.region (WL.val run_move rfl rfl (WL.val run_move rfl rfl (WL.val (run_lss rfl rfl) rfl rfl (WL.nil ?_)))))))
    refine W.condIf rfl (fun c35 => ?_) (fun c35 => ?_)
    ·
     refine W.region (WL.val run_move rfl rfl (WL.val run_move rfl rfl (WL.val (run_addN (m := k) (n := 1) rfl rfl (by omega)) rfl rfl (WL.val (run_convIn Tryz.underlying3 Tryz.underlying23 rfl (by show (0 : Int) ≤ _; omega) (by show _ ≤ (18446744073709551615 : Int); omega)) rfl rfl (WL.val (run_loadB (vs := [.int .i64 _, .int .i64 _, .int .i64 _, .slice _ _ _, .int .i64 _]) h Tryz.isAgg36 Tryz.sizeOf36 rfl rfl rfl) rfl rfl (WL.val (run_buildS (pl := [(0, 1), (1, 1), (2, 5), (7, 1)]) (out := [.int .i64 _, .int .u64 _, .int .i64 _, .int .i64 _, .int .i64 _, .slice _ _ _, .int .i64 _, .int .i64 _]) Tryz.underlying63 Tryz.zeroValue63 (fun w => by kernel_rfl) rfl (⟨⟨_, _, rfl, rfl, by decide⟩, ⟨⟨_, _, rfl, rfl, by decide⟩, ⟨⟨_, _, rfl, rfl, by decide⟩, ⟨⟨_, _, rfl, rfl, by decide⟩, trivial⟩⟩⟩⟩) rfl) rfl rfl ?_))))))
     refine WL.eff (eff_mkSlice (zl := [.int .i64 0, .int .u64 0, .int .i64 0, .int .i64 0, .int .i64 0, .slice none 0 0, .int .i64 0, .int .i64 0]) (out := [.int .i64 _, .int .u64 _, .int .i64 _, .int .i64 _, .int .i64 _, .slice _ _ _, .int .i64 _, .int .i64 _]) h Tryz.underlying57 Tryz.sizeOf63 Tryz.zeroValue63 (by decide) (by kernel_rfl) rfl rfl (by simp) (⟨⟨_, _, rfl, rfl, by decide⟩, trivial⟩) rfl rfl (by simp [maxLen])) rfl rfl ?_
     rintro _ w ⟨b95, rfl, h⟩
     refine WL.eff (eff_app (c2 := 1) (bytes := 80) (h.fetch (Own 8 (.slice a11 no c11) no (out.flatMap OuX.cells))) rfl rfl (h.cellsO (v := .slice (some ⟨b95, 0, none⟩) 1 1)) Tryz.underlying57 rfl rfl rfl rfl rfl (by omega) (by omega) (by simp [Value.oneCell'])) rfl rfl ?_
     rintro _ w ⟨a96, c96, rfl, h⟩
     have h : On W0 (Own 8 (.slice a96 (no + 1) c96) (no + 1) (out.flatMap OuX.cells ++ OuX.cells (⟨1, ((k + 1 : Nat) : Int), r.st, r.key, r.code, ad, cd, r.data, r.info, 100⟩ : OuX)) :: _) w := h
     rw [fm_snoc] at h
     refine WL.val run_assign rfl rfl (WL.nil (W.region (WL.val run_move rfl rfl (WL.val (run_incN rfl rfl (by omega)) rfl rfl (WL.val run_assign rfl rfl (WL.nil ?_))))))
     exact ⟨k + 1, ⟨by omega, _, pr, ins ++ [(⟨1, ((k + 1 : Nat) : Int), (⟨xk, xa, xn, xax, xac, xbs, xky, xnw, xty, xfo⟩ : CmX), (k : Int)⟩ : InX)], row ++ [(⟨1, ((k + 1 : Nat) : Int), 100⟩ : CoX)], out ++ [(⟨1, ((k + 1 : Nat) : Int), r.st, r.key, r.code, ad, cd, r.data, r.info, 100⟩ : OuX)], nr + 1, no + 1, a69, a85, a96, c69, c85, c96, by omega, by omega, mkE_of ⟨rfl, rfl, rfl, rfl, rfl, rfl, rfl, rfl, trivial⟩, isIns_snoc hI (by rw [hcx]), isRow_snoc hR (by rw [show nr = k by omega]), isOut_snoc hO rfl (by rw [show no = k by omega]) rfl (by rw [show no = k by omega, ← er]; rfl), (fun o ho => by rcases List.mem_append.1 ho with ho | ho; exact ho2 o ho; rw [List.mem_singleton] at ho; subst ho; exact hinr), hsm2, hgu2, (fun i hi => by by_cases e : i = k; subst e; rw [hcx]; show xbs.length ≤ 600; omega; exact hbl i (by omega)), h.to⟩, by show l.length - (k + 1) < l.length - k; omega⟩
    refine W.skip (W.region (WL.val run_move rfl rfl (WL.val (run_incN rfl rfl (by omega)) rfl rfl (WL.val run_assign rfl rfl (WL.nil ?_)))))
    exact ⟨k + 1, ⟨by omega, _, pr, ins ++ [(⟨1, ((k + 1 : Nat) : Int), (⟨xk, xa, xn, xax, xac, xbs, xky, xnw, xty, xfo⟩ : CmX), (k : Int)⟩ : InX)], row ++ [(⟨1, ((k + 1 : Nat) : Int), 100⟩ : CoX)], out, nr + 1, no, a69, a85, a11, c69, c85, c11, by omega, by omega, mkE_of ⟨rfl, rfl, rfl, rfl, rfl, rfl, rfl, rfl, trivial⟩, isIns_snoc hI (by rw [hcx]), isRow_snoc hR (by rw [show nr = k by omega]), hO, ho2, hsm2, hgu2, (fun i hi => by by_cases e : i = k; subst e; rw [hcx]; show xbs.length ≤ 600; omega; exact hbl i (by omega)), h.to⟩, by show l.length - (k + 1) < l.length - k; omega⟩
   refine W.skip (W.seq (W.region (WL.val run_move rfl rfl (WL.val run_move rfl rfl (WL.val (run_lss rfl rfl) rfl rfl (WL.nil ?_))))))
   refine W.condIf rfl (fun c35 => ?_) (fun c35 => ?_)
   ·
    refine W.region (WL.val run_move rfl rfl (WL.val run_move rfl rfl (WL.val (run_addN (m := k) (n := 1) rfl rfl (by omega)) rfl rfl (WL.val (run_convIn Tryz.underlying3 Tryz.underlying23 rfl (by show (0 : Int) ≤ _; omega) (by show _ ≤ (18446744073709551615 : Int); omega)) rfl rfl (WL.val (run_loadB (vs := [.int .i64 _, .int .i64 _, .int .i64 _, .slice _ _ _, .int .i64 _]) h Tryz.isAgg36 Tryz.sizeOf36 rfl rfl rfl) rfl rfl (WL.val (run_buildS (pl := [(0, 1), (1, 1), (2, 5), (7, 1)]) (out := [.int .i64 _, .int .u64 _, .int .i64 _, .int .i64 _, .int .i64 _, .slice _ _ _, .int .i64 _, .int .i64 _]) Tryz.underlying63 Tryz.zeroValue63 (fun w => by kernel_rfl) rfl (⟨⟨_, _, rfl, rfl, by decide⟩, ⟨⟨_, _, rfl, rfl, by decide⟩, ⟨⟨_, _, rfl, rfl, by decide⟩, ⟨⟨_, _, rfl, rfl, by decide⟩, trivial⟩⟩⟩⟩) rfl) rfl rfl ?_))))))
    refine WL.eff (eff_mkSlice (zl := [.int .i64 0, .int .u64 0, .int .i64 0, .int .i64 0, .int .i64 0, .slice none 0 0, .int .i64 0, .int .i64 0]) (out := [.int .i64 _, .int .u64 _, .int .i64 _, .int .i64 _, .int .i64 _, .slice _ _ _, .int .i64 _, .int .i64 _]) h Tryz.underlying57 Tryz.sizeOf63 Tryz.zeroValue63 (by decide) (by kernel_rfl) rfl rfl (by simp) (⟨⟨_, _, rfl, rfl, by decide⟩, trivial⟩) rfl rfl (by simp [maxLen])) rfl rfl ?_
    rintro _ w ⟨b95, rfl, h⟩
    refine WL.eff (eff_app (c2 := 1) (bytes := 80) (h.fetch (Own 8 (.slice a11 no c11) no (out.flatMap OuX.cells))) rfl rfl (h.cellsO (v := .slice (some ⟨b95, 0, none⟩) 1 1)) Tryz.underlying57 rfl rfl rfl rfl rfl (by omega) (by omega) (by simp [Value.oneCell'])) rfl rfl ?_
    rintro _ w ⟨a96, c96, rfl, h⟩
    have h : On W0 (Own 8 (.slice a96 (no + 1) c96) (no + 1) (out.flatMap OuX.cells ++ OuX.cells (⟨1, ((k + 1 : Nat) : Int), r.st, r.key, r.code, ad, cd, r.data, r.info, 100⟩ : OuX)) :: _) w := h
    rw [fm_snoc] at h
    refine WL.val run_assign rfl rfl (WL.nil (W.region (WL.val run_move rfl rfl (WL.val (run_incN rfl rfl (by omega)) rfl rfl (WL.val run_assign rfl rfl (WL.nil ?_))))))
    exact ⟨k + 1, ⟨by omega, _, pr, ins ++ [(⟨1, ((k + 1 : Nat) : Int), (⟨xk, xa, xn, xax, xac, xbs, xky, xnw, xty, xfo⟩ : CmX), (k : Int)⟩ : InX)], row, out ++ [(⟨1, ((k + 1 : Nat) : Int), r.st, r.key, r.code, ad, cd, r.data, r.info, 100⟩ : OuX)], nr, no + 1, a69, a10, a96, c69, c10, c96, by omega, by omega, mkE_of ⟨rfl, rfl, rfl, rfl, rfl, rfl, rfl, rfl, trivial⟩, isIns_snoc hI (by rw [hcx]), hR, isOut_snoc hO rfl (by rw [show no = k by omega]) rfl (by rw [show no = k by omega, ← er]; rfl), (fun o ho => by rcases List.mem_append.1 ho with ho | ho; exact ho2 o ho; rw [List.mem_singleton] at ho; subst ho; exact hinr), hsm2, hgu2, (fun i hi => by by_cases e : i = k; subst e; rw [hcx]; show xbs.length ≤ 600; omega; exact hbl i (by omega)), h.to⟩, by show l.length - (k + 1) < l.length - k; omega⟩
   refine W.skip (W.region (WL.val run_move rfl rfl (WL.val (run_incN rfl rfl (by omega)) rfl rfl (WL.val run_assign rfl rfl (WL.nil ?_)))))
   exact ⟨k + 1, ⟨by omega, _, pr, ins ++ [(⟨1, ((k + 1 : Nat) : Int), (⟨xk, xa, xn, xax, xac, xbs, xky, xnw, xty, xfo⟩ : CmX), (k : Int)⟩ : InX)], row, out, nr, no, a69, a10, a11, c69, c10, c11, by omega, by omega, mkE_of ⟨rfl, rfl, rfl, rfl, rfl, rfl, rfl, rfl, trivial⟩, isIns_snoc hI (by rw [hcx]), hR, hO, ho2, hsm2, hgu2, (fun i hi => by by_cases e : i = k; subst e; rw [hcx]; show xbs.length ≤ 600; omega; exact hbl i (by omega)), h.to⟩, by show l.length - (k + 1) < l.length - k; omega⟩
  refine W.exit (W.seq ?_)
  have hke : k = l.length := by omega
  have hB_ : ∀ j, j + 1 < nr → (100 : Int) ≤ 100 := fun _ _ => Int.le_refl _
  have hAB_ : ∀ j : Nat, j < nr → (j : Int) ≤ 100 := fun j hj => by omega
  have hBC_ : ∀ j : Nat, j < no → (100 : Int) ≤ 100 := fun _ _ => Int.le_refl _
  have hBC2_ : ∀ j : Nat, j < nr → (100 : Int) ≤ 100 := fun _ _ => Int.le_refl _
  have hnl := hI.1
  have hrl := hR.1
  have hol := hO.1
  have ec : checkM 16 ins row out = if R < O then (R, 6) else (0, 0) := by
    split
    · rw [check_untold hI hR (by omega) hO (by omega) hB_ hAB_ hBC2_]
      rw [show nr = R by omega]
    · exact check_fine hI hR (by omega) hO (by omega) hB_ hAB_ hBC_
  subst hnl
  subst hrl
  subst hol
  refine W.region (WL.val run_move rfl rfl (WL.val run_move rfl rfl (WL.val run_move rfl rfl ?_)))
  refine WL.eff (eff_call Tryz.call25 (check_ok (N := 16) (ins := ins) (row := row) (out := out) (by decide) (by decide) (by omega) (ins_nodup hI) h (show Gives _ (Cells 11 (.slice a9 ins.length c9) ins.length (ins.flatMap InX.cells)) from ownGives h (v := .slice a9 ins.length c9)) (show Gives _ (Cells 3 (.slice a10 row.length c10) row.length (row.flatMap CoX.cells)) from ownGives h (v := .slice a10 row.length c10)) (show Gives _ (Cells 8 (.slice a11 out.length c11) out.length (out.flatMap OuX.cells)) from ownGives h (v := .slice a11 out.length c11)) (fun x hx => by have hm := ins_of hI hx; obtain ⟨i, hi, e⟩ := hm; rw [e]; exact Gives.to (HB _ (cmX_mem (by omega)))) (fun x hx => by have hm := ins_of hI hx; obtain ⟨i, hi, e⟩ := hm; rw [e]; exact ⟨HC _ (cmX_mem (by omega)), by have := hbl i hi; omega⟩) (fun x hx => Gives.to (Gives.poolC (L := []) (hob x hx))))) rfl rfl ?_
  rintro v101 w ⟨hv101, h⟩
  rw [ec] at hv101
  have hcs := Nat.lt_or_ge R O
  rcases hcs with hcs | hcs
  rotate_left
  rw [if_neg (by omega)] at hv101
  subst hv101
  rotate_left
  rw [if_pos hcs] at hv101
  subst hv101
  ·
   refine WL.val run_move rfl rfl (WL.val (run_extract rfl rfl) rfl rfl (WL.val (run_extract rfl rfl) rfl rfl (WL.val run_assign rfl rfl (WL.val run_assign rfl rfl (WL.nil (W.seq (W.seq ?_)))))))
   refine W.region (WL.val run_move rfl rfl (WL.val run_move rfl rfl (WL.val (run_gtrT rfl rfl (by omega)) rfl rfl (WL.nil (W.condT rfl (W.seq (W.region ?_)))))))
   refine WL.val run_move rfl rfl (WL.val (run_eqlT rfl rfl (rfl)) rfl rfl (WL.val run_move rfl rfl (WL.val run_move rfl rfl (WL.val run_move rfl rfl (WL.val (run_eqlT rfl rfl (rfl)) rfl rfl (WL.val (run_pickT rfl) rfl rfl (WL.val run_assign rfl rfl ?_)))))))
   refine WL.nil (W.ret (bodyQ.r1 (v := .bool _) Tryz.results9 rfl ?_))
   exact ⟨rfl, h.to⟩
  refine WL.val run_move rfl rfl (WL.val (run_extract rfl rfl) rfl rfl (WL.val (run_extract rfl rfl) rfl rfl (WL.val run_assign rfl rfl (WL.val run_assign rfl rfl (WL.nil (W.seq (W.seq ?_)))))))
  refine W.region (WL.val run_move rfl rfl (WL.val run_move rfl rfl (WL.val (run_gtrF rfl rfl (by omega)) rfl rfl (WL.nil (W.condF rfl (W.skip (W.seq ?_)))))))
  refine W.region (WL.val run_move rfl rfl (WL.val (run_eqlT rfl rfl (rfl)) rfl rfl (WL.val run_move rfl rfl (WL.val run_move rfl rfl (WL.val (run_eqlT rfl rfl (rfl)) rfl rfl (WL.val (run_pickT rfl) rfl rfl (WL.val run_assign rfl rfl ?_)))))))
  refine WL.nil (W.ret (bodyQ.r1 (v := .bool _) Tryz.results9 rfl ?_))
  exact ⟨rfl, h.to⟩

end Go.Proofs.YtdpakoefdpmebaaGreat
