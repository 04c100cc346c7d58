/-
  A unit: done again: the contracts. Lines of walks printed by a program of the prover's.
-/
import Derived.Test.YtdpakoefdpmebaaGreatTrace1
import Derived.Test.YtdpakoefdpmebaaGreatUnit7
namespace Go.Proofs.YtdpakoefdpmebaaGreat
open Go Go.Sl Go.Sl.TrM Go.Sl.BitM Go.Sl.SpM Go.Sl.RsM Go.Sl.ByM Go.Sl.UnM
set_option linter.unusedVariables false
set_option linter.unusedSimpArgs false
set_option maxHeartbeats 1000000
set_option maxRecDepth 8000
variable {W0 w : World} {L F : List HProp}

theorem backw_ok {ai : Option Addr} {ci : Nat} {ins : List InX} (h : On W0 L w) : Calls Tryz.prog 111 #[.slice ai ins.length ci] w (Ret fun v w' => ∃ bb, v = .func (.func 148) #[] #[.pointer (some ⟨bb, 0, none⟩)] ∧ On W0 (blk bb [.slice ai ins.length ci] 55 :: L) w') := by
  refine enter Tryz.func111 rfl Tryz.ntmps111 rfl (W.seq (W.region (WL.eff (eff_box (v := .slice _ _ _) (l := [.slice ai ins.length ci]) h rfl rfl) rfl rfl ?_)))
  rintro _ w ⟨b1, rfl, h⟩
  refine WL.val run_assign rfl rfl (WL.nil (W.seq (W.region (WL.val run_makeFunc rfl rfl (WL.val run_assign rfl rfl (WL.nil (W.ret ?_)))))))
  refine bodyQ.r1  Tryz.results111 rfl ?_
  exact ⟨b1, rfl, h⟩

theorem backw1_ok {n l bb : Nat} {Y : List (InX × Nat) → HProp} {ai : Option Addr} {ci : Nat} {ins : List InX} (hY : ∀ pre x A w, On W0 (Y pre :: A) w → YieldAt (FR none) (n - 1) Tryz.prog l [.int .i64 (x.2 : Int), x.1.val].toArray w (Ret fun v w' => v = .bool true ∧ On W0 (Y (pre ++ [x]) :: A) w')) (h : On W0 (Y [] :: blk bb [.slice ai ins.length ci] 55 :: L) w) (CI : Gives L (Cells 11 (.slice ai ins.length ci) ins.length (ins.flatMap InX.cells))) : CallsIn (FR none) n Tryz.prog 148 [.func (.yield l) #[] #[], .pointer (some ⟨bb, 0, none⟩)].toArray w (Ret fun v w' => ∃ ss, ss.map (·.1) = ins.reverse ∧ On W0 (Y ss :: blk bb [.slice ai ins.length ci] 55 :: L) w') := by
  refine enterF Tryz.func148 rfl Tryz.ntmps148 rfl ?_
  have hbd := (h.readsTo CI).bounds
  obtain ⟨hc1, hc2⟩ := hbd
  have hmx := maxLen_eq
  refine WF.seq (WF.region (WLF.val (run_load1 Tryz.isAgg55 rfl (h.cellB rfl)) rfl rfl rfl (WLF.val (run_lenSlice Tryz.underlying55 rfl) rfl rfl rfl (WLF.val (run_sub rfl rfl (by omega) (by omega)) rfl rfl rfl (WLF.val run_assign rfl rfl rfl (WLF.nil (WF.block ?_)))))))
  refine WF.loop (fun (k : Nat) env w => k ≤ ins.length ∧ ∃ (j : Env) (ss : List (InX × Nat)) (z : Int), z = (ins.length : Int) - 1 - k ∧ env = mkE j [(0, .func (.yield l) #[] #[]), (1, .pointer (some ⟨bb, 0, none⟩)), (3, .int .i64 z)] ∧ ss.map (·.1) = (ins.drop (ins.length - k)).reverse ∧ On W0 (Y ss :: blk bb [.slice ai ins.length ci] 55 :: L) w) (fun k => ins.length - k) (0) ?_ ?_
  · exact ⟨Nat.zero_le _, _, [], _, by omega, mkE_of ⟨rfl, rfl, rfl, trivial⟩, by rw [Nat.sub_zero, List.drop_length]; rfl, h⟩
  rintro k env w ⟨hk, j, ss, z, hz, rfl, hss, h⟩
  refine WF.seq (WF.seq (WF.region (WLF.val run_move rfl rfl rfl (WLF.val (run_geq rfl rfl) rfl rfl rfl (WLF.nil ?_)))))
  refine WF.condIf rfl (fun c4 => ?_) (fun c4 => ?_)
  ·
   refine WF.skip (WF.seq ?_)
   have em_ := Int.eq_ofNat_of_zero_le (show 0 ≤ z by omega)
   obtain ⟨m, hm_⟩ := em_
   subst hm_
   have hml : m < ins.length := by omega
   have ad_ := (h.readsTo CI).addr (by omega)
   obtain ⟨bq, oq, hal_⟩ := ad_
   subst hal_
   have ex_ : ∃ a, ins[m]? = some a := ⟨ins[m], by simp⟩
   obtain ⟨⟨xh, xid, ⟨xk, xa, xn, xax, xac, xbs, xky, xnw, xty, xfo⟩, xat⟩, hq⟩ := ex_
   have hrow := drop_flatMap InX.cells 11 InX.cells_length ins _ _ hq
   have hs2 : (ss ++ [((⟨xh, xid, ⟨xk, xa, xn, xax, xac, xbs, xky, xnw, xty, xfo⟩, xat⟩ : InX), m)]).map (·.1) = (ins.drop (ins.length - (k + 1))).reverse := by
     have e1 : ins.length - (k + 1) = m := by omega
     have e2 : ins.length - k = m + 1 := by omega
     rw [e1, drop_cons hq, List.reverse_cons, List.map_append, hss, e2]; rfl
   refine WF.block (WF.seq (WF.region (WLF.val run_move rfl rfl rfl (WLF.val run_move rfl rfl rfl (WLF.val (run_load1 Tryz.isAgg55 rfl (h.cellB rfl)) rfl rfl rfl (WLF.val run_move rfl rfl rfl (WLF.val (run_indexAddr Tryz.underlying55 Tryz.sizeOf59 rfl rfl (by omega) (by omega)) rfl rfl rfl ?_)))))))
   refine WLF.val (run_loadN Tryz.isAgg59 Tryz.sizeOf59 rfl rfl ((h.readsTo CI).elem (i := m) (vs := [.int .i64 xh, .int .u64 xid, .int .i64 xk, .int .i64 xa, .int .i64 xn, .slice xax xbs.length xac, .int .u64 xky, .int .u64 xnw, .int .i64 xty, .bool xfo, .int .i64 xat]) hml hrow)) rfl rfl rfl (WLF.yield (args := [_, _]) (y := .const undef) rfl rfl rfl rfl (hY ss ((⟨xh, xid, ⟨xk, xa, xn, xax, xac, xbs, xky, xnw, xty, xfo⟩, xat⟩ : InX), m) _ _ (h.fetch (Y ss))) ?_)
   rintro _ w ⟨rfl, h⟩
   refine WLF.val (run_not rfl) rfl rfl rfl (WLF.nil (WF.condF rfl (WF.skip (WF.region (WLF.val run_move rfl rfl rfl (WLF.val (run_sub rfl rfl (by omega) (by omega)) rfl rfl rfl (WLF.val run_assign rfl rfl rfl ?_)))))))
   refine WLF.nil ?_
   refine ⟨rfl, ?_⟩
   exact ⟨k + 1, ⟨by omega, _, ss ++ [((⟨xh, xid, ⟨xk, xa, xn, xax, xac, xbs, xky, xnw, xty, xfo⟩, xat⟩ : InX), m)], _, by omega, mkE_of ⟨rfl, rfl, rfl, trivial⟩, hs2, h.to⟩, by show ins.length - (k + 1) < ins.length - k; omega⟩
  refine WF.exit ?_
  refine ⟨rfl, ?_⟩
  refine bodyQ.fall (bodyQ.r0 Tryz.results148 ?_)
  have e0 : ins.length - k = 0 := by omega
  rw [e0, List.drop_zero] at hss
  exact ⟨ss, hss, h.to⟩

theorem clip_reps {a : Option Addr} {n c : Nat} {xs : List Value} (h : On W0 (Own 5 (.slice a n c) n xs :: L) w) :
    Calls Tryz.prog 112 #[.slice a n c] w (Ret fun v w' => v = .slice a n n ∧ On W0 (Own 5 (.slice a n n) n xs :: L) w') := by
  refine enter Tryz.func112 rfl Tryz.ntmps112 rfl ?_
  have of_ := Own.form h
  obtain ⟨a', c', hv, hnc, hcm, hnone⟩ := of_
  simp only [Value.slice.injEq] at hv
  obtain ⟨rfl, _, rfl⟩ := hv
  refine W.seq (W.region (WL.val run_assign rfl rfl (WL.nil (W.seq (W.region (WL.val run_move rfl rfl (WL.val run_move rfl rfl ?_)))))))
  refine WL.val (run_lenSlice Tryz.underlying112 rfl) rfl rfl (WL.val run_move rfl rfl (WL.val (run_lenSlice Tryz.underlying112 rfl) rfl rfl (WL.val (run_cutHM Tryz.underlying112 Tryz.sizeOf36 rfl rfl rfl  (by omega) (by omega)) rfl rfl (WL.val run_assign rfl rfl (WL.nil (W.ret (bodyQ.r1 (v := .slice _ _ _) Tryz.results112 rfl ?_)))))))
  exact ⟨rfl, Own.clip h⟩


/-- A reply where it lies. -/
abbrev RV := Value × Rp
def RV.cells (x : RV) : List Value := x.2.cells x.1
theorem RV.cells_length (x : RV) : x.cells.length = 5 := rfl
theorem RV.one (xs : List RV) (hx : ∀ x ∈ xs, x.1.oneCell' = true) : ∀ u ∈ xs.flatMap RV.cells, u.oneCell' = true := fun u hu => by
  obtain ⟨x, hm, hu⟩ := List.mem_flatMap.1 hu
  have h1 := hx x hm
  unfold RV.cells Rp.cells at hu
  simp only [List.mem_cons, List.not_mem_nil, or_false] at hu
  rcases hu with rfl | rfl | rfl | rfl | rfl
  · rfl
  · rfl
  · rfl
  · exact h1
  · rfl

theorem replay_ok {N : Nat} {ai : Option Addr} {ci : Nat} {ins : List InX} {ar : Option Addr} {cr : Nat} {row : List CoX} (hN1 : 1 ≤ N) (hN2 : N ≤ 1024) (hrl : row.length ≤ 900000) (hfd : ∀ c ∈ row, c.nm ∈ ins.map InX.nm) (h : On W0 L w) (CI : Gives L (Cells 11 (.slice ai ins.length ci) ins.length (ins.flatMap InX.cells))) (CR : Gives L (Cells 3 (.slice ar row.length cr) row.length (row.flatMap CoX.cells))) (hB : ∀ x ∈ ins, Gives L (Bytes (.slice x.c.ax x.c.bs.length x.c.ac) x.c.bs)) (hcm : ∀ x ∈ ins, okCm x.c.cm ∧ x.c.bs.length ≤ 1000000) : Calls Tryz.prog 54 #[.int .i64 (N : Int), .slice ai ins.length ci, .slice ar row.length cr] w (Ret fun v w' => ∃ a pool, ∃ xs : List RV, v = .tuple #[.slice a xs.length xs.length, .int .i64 0] ∧ xs.map (·.2) = replL ins row (newU N) ∧ (∀ x ∈ xs, (x.1, x.2.data) ∈ pool) ∧ On W0 (Own 5 (.slice a xs.length xs.length) xs.length (xs.flatMap RV.cells) :: Pool pool :: L) w') := by
  refine callsOf (n := 3) ?_
  refine enterM Tryz.func54 rfl Tryz.ntmps54 rfl ?_
  have hb1 := (h.reads CI).bounds
  obtain ⟨hi1, hi2⟩ := hb1
  have hb2 := (h.reads CR).bounds
  obtain ⟨hr1, hr2⟩ := hb2
  have hmx := maxLen_eq
  refine WF.seq (WF.region (WLF.val run_assign rfl rfl rfl (WLF.val run_assign rfl rfl rfl (WLF.nil (WF.seq (WF.region (WLF.val run_move rfl rfl rfl ?_)))))))
  refine WLF.eff (eff_call Tryz.call15 (unew_ok (pool := []) h)) rfl rfl rfl ?_
  rintro _ w hv
  rcases hv with ⟨N', hN, _, _, bu, ms, rfl, h⟩ | ⟨hno, _, _⟩
  rotate_left
  · exact absurd (show _ by omega) hno
  have hNN : N = N' := Int.ofNat.inj hN
  subst hNN
  refine WLF.val run_move rfl rfl rfl (WLF.val (run_extract rfl rfl) rfl rfl rfl (WLF.val (run_extract rfl rfl) rfl rfl rfl (WLF.val run_assign rfl rfl rfl (WLF.val run_assign rfl rfl rfl (WLF.nil (WF.seq (WF.seq ?_)))))))
  refine WF.region (WLF.val run_move rfl rfl rfl (WLF.val (run_neqF rfl rfl (by decide)) rfl rfl rfl (WLF.nil (WF.condF rfl (WF.skip (WF.seq (WF.region ?_)))))))
  refine WLF.eff (eff_makeMapS .i64 .u64 h) rfl rfl rfl ?_
  rintro _ w ⟨b26, rfl, h⟩
  refine WLF.eff (eff_alloc h Tryz.zeroValue172 rfl) rfl rfl rfl ?_
  rintro _ w ⟨b10, rfl, h⟩
  refine WLF.eff (eff_store (v := .map _) h Tryz.sizeOf172 rfl rfl rfl rfl rfl) rfl rfl rfl ?_
  rintro _ w h
  try simp only [Nat.zero_add, Nat.add_zero, List.set_cons_zero, List.set_cons_succ] at h
  refine WLF.nil (WF.seq (WF.seq (WF.region (WLF.val run_move rfl rfl rfl (WLF.eff (eff_call Tryz.call111 (backw_ok h)) rfl rfl rfl ?_)))))
  rintro _ w ⟨bb, rfl, h⟩
  refine WLF.nil (WF.block ?_)
  refine WF.rangeFunc2 (W0 := W0) (L := blk bb [.slice ai ins.length ci] 55 :: UnP 84 146 152 bu [] ms (newU N) :: L) (α := InX × Nat) (β := Nat) (ps := [29, 30]) (fun x => [.int .i64 (x.2 : Int), x.1.val]) rfl Tryz.call148 (fun pre : List (InX × Nat) => Ex fun (p : List KS × Nat) => Pack (SpecN p.1 InX.nm InX.val (pre.map (·.1)).reverse) [blk b10 [.map (some b26)] 172, MapS b26 .i64 .u64 p.1 p.2]) (fun ss : List (InX × Nat) => ss.map (·.1) = ins.reverse) (fun _ _ => True) (fun (pre : List (InX × Nat)) (x : InX × Nat) (y : Nat) => Ex fun (p : List KS × Nat) => Pack (SpecN p.1 InX.nm InX.val (pre.map (·.1)).reverse) [blk y x.1.cells 59, blk b10 [.map (some b26)] 172, MapS b26 .i64 .u64 p.1 p.2]) (fun env x y => upd (upd (upd env 29 (.int .i64 (x.2 : Int))) 30 x.1.val) 12 (.pointer (some ⟨y, 0, none⟩))) (fun _ => rfl) (by decide) ?_ ?_ ?_ ?_ ?_
  ·
   intro l pre x A w hbd h
   obtain ⟨⟨xh, xid, ⟨xk, xa, xn, xax, xac, xbs, xky, xnw, xty, xfo⟩, xat⟩, xi⟩ := x
   refine WF.region (WLF.eff (eff_alloc h Tryz.zeroValue59 rfl) rfl rfl rfl ?_)
   rintro _ w ⟨b12, rfl, h⟩
   refine WLF.eff (eff_storeW (vs := [.int .i64 _, .int .u64 _, .int .i64 _, .int .i64 _, .int .i64 _, .slice _ _ _, .int .u64 _, .int .u64 _, .int .i64 _, .bool _, .int .i64 _]) h Tryz.sizeOf59 rfl rfl rfl rfl rfl) rfl rfl rfl ?_
   rintro _ w h
   refine WLF.nil ?_
   have h0 := On.ex h.p1
   obtain ⟨⟨kvs, ck⟩, h0⟩ := h0
   have h0 := h0.unpack
   obtain ⟨hsp, h0⟩ := h0
   have h0 : On W0 (blk b10 [.map (some b26)] 172 :: MapS b26 .i64 .u64 kvs ck :: blk b12 [.int .i64 xh, .int .u64 xid, .int .i64 xk, .int .i64 xa, .int .i64 xn, .slice xax xbs.length xac, .int .u64 xky, .int .u64 xnw, .int .i64 xty, .bool xfo, .int .i64 xat] 59 :: A) w := h0
   exact ⟨rfl, rfl, b12, rfl, On.exI (kvs, ck) (On.pack hsp (show On W0 (blk b12 (⟨xh, xid, ⟨xk, xa, xn, xax, xac, xbs, xky, xnw, xty, xfo⟩, xat⟩ : InX).cells 59 :: blk b10 [.map (some b26)] 172 :: MapS b26 .i64 .u64 kvs ck :: A) w from h0.p2))⟩
  ·
   intro l pre x y A w hbd h
   obtain ⟨⟨xh, xid, ⟨xk, xa, xn, xax, xac, xbs, xky, xnw, xty, xfo⟩, xat⟩, xi⟩ := x
   have h0 := On.ex h
   obtain ⟨⟨kvs, ck⟩, h0⟩ := h0
   have h0 := h0.unpack
   obtain ⟨hsp, h0⟩ := h0
   have h : On W0 (blk y [.int .i64 xh, .int .u64 xid, .int .i64 xk, .int .i64 xa, .int .i64 xn, .slice xax xbs.length xac, .int .u64 xky, .int .u64 xnw, .int .i64 xty, .bool xfo, .int .i64 xat] 59 :: blk b10 [.map (some b26)] 172 :: MapS b26 .i64 .u64 kvs ck :: A) w := h0
   refine WF.block (WF.region (WLF.val (run_load1 Tryz.isAgg172 rfl (h.cellB rfl)) rfl rfl rfl (WLF.val (run_fieldAddr 0 Tryz.underlying59 rfl Tryz.sizeOf3 rfl rfl) rfl rfl rfl (WLF.val (run_load1 Tryz.isAgg3 rfl (h.cellB rfl)) rfl rfl rfl (WLF.val (run_fieldAddr 1 Tryz.underlying59 rfl Tryz.sizeOf23 rfl rfl) rfl rfl rfl (WLF.val (run_load1 Tryz.isAgg23 rfl (h.cellB rfl)) rfl rfl rfl (WLF.val (run_buildS (pl := [(0, 1), (1, 1)]) (out := [.int .i64 _, .int .u64 _]) Tryz.underlying137 Tryz.zeroValue137 (fun w => by kernel_rfl) rfl (⟨⟨_, _, rfl, rfl, by decide⟩, ⟨⟨_, _, rfl, rfl, by decide⟩, trivial⟩⟩) rfl) rfl rfl rfl ?_)))))))
   refine WLF.val (run_loadB (vs := [.int .i64 _, .int .u64 _, .int .i64 _, .int .i64 _, .int .i64 _, .slice _ _ _, .int .u64 _, .int .u64 _, .int .i64 _, .bool _, .int .i64 _]) h Tryz.isAgg59 Tryz.sizeOf59 rfl rfl rfl) rfl rfl rfl (WLF.eff (eff_mapUpdateS (p := (xh, xid)) (v := (⟨xh, xid, ⟨xk, xa, xn, xax, xac, xbs, xky, xnw, xty, xfo⟩, xat⟩ : InX).val) nameKey (h.fetch (MapS b26 .i64 .u64 kvs ck)) Tryz.underlying172 rfl rfl rfl) rfl rfl rfl ?_)
   rintro _ w h
   have h : On W0 (MapS b26 .i64 .u64 (putS kvs (⟨xh, xid, ⟨xk, xa, xn, xax, xac, xbs, xky, xnw, xty, xfo⟩, xat⟩ : InX).nm (⟨xh, xid, ⟨xk, xa, xn, xax, xac, xbs, xky, xnw, xty, xfo⟩, xat⟩ : InX).val ck) (clockS kvs (⟨xh, xid, ⟨xk, xa, xn, xax, xac, xbs, xky, xnw, xty, xfo⟩, xat⟩ : InX).nm ck) :: _) w := h
   refine WLF.nil ?_
   refine ⟨rfl, On.exI (putS kvs (⟨xh, xid, ⟨xk, xa, xn, xax, xac, xbs, xky, xnw, xty, xfo⟩, xat⟩ : InX).nm (⟨xh, xid, ⟨xk, xa, xn, xax, xac, xbs, xky, xnw, xty, xfo⟩, xat⟩ : InX).val ck, clockS kvs (⟨xh, xid, ⟨xk, xa, xn, xax, xac, xbs, xky, xnw, xty, xfo⟩, xat⟩ : InX).nm ck) (On.pack ?_ (show On W0 (blk b10 [.map (some b26)] 172 :: MapS b26 .i64 .u64 (putS kvs (⟨xh, xid, ⟨xk, xa, xn, xax, xac, xbs, xky, xnw, xty, xfo⟩, xat⟩ : InX).nm (⟨xh, xid, ⟨xk, xa, xn, xax, xac, xbs, xky, xnw, xty, xfo⟩, xat⟩ : InX).val ck) (clockS kvs (⟨xh, xid, ⟨xk, xa, xn, xax, xac, xbs, xky, xnw, xty, xfo⟩, xat⟩ : InX).nm ck) :: A) w from h.to))⟩
   rw [List.map_append, List.reverse_append]
   exact spec_cons (ck := ck) hsp
  · intro l Y w hY h
    exact backw1_ok (n := 3 - 1) (Y := Y) (fun pre x A w h => hY pre x A w trivial h) h (Gives.to CI)
  · exact On.exI ([], 0) (On.pack spec_nil (show On W0 (blk b10 [.map (some b26)] 172 :: MapS b26 .i64 .u64 [] 0 :: blk bb [.slice ai ins.length ci] 55 :: UnP 84 146 152 bu [] ms (newU N) :: L) w from h.to))
  intro D ss w hS h
  have h0 := On.ex h
  obtain ⟨⟨kvs, ck⟩, h0⟩ := h0
  have h0 := h0.unpack
  obtain ⟨hsp, h0⟩ := h0
  have hS : ss.map (·.1) = ins.reverse := hS
  rw [hS, List.reverse_reverse] at hsp
  have h : On W0 (blk b10 [.map (some b26)] 172 :: MapS b26 .i64 .u64 kvs ck :: openD D :: blk bb [.slice ai ins.length ci] 55 :: UnP 84 146 152 bu [] ms (newU N) :: L) w := h0
  refine WF.seq (WF.region (WLF.val run_assign rfl rfl rfl (WLF.nil (WF.seq (WF.seq (WF.region (WLF.val run_move rfl rfl rfl ?_)))))))
  refine WLF.val (run_lenSlice Tryz.underlying56 rfl) rfl rfl rfl (WLF.val run_move rfl rfl rfl (WLF.nil (WF.block ?_)))
  refine WF.loop (fun (k : Nat) env w => k ≤ row.length ∧ ∃ (j : Env) (u : Un) (xs : List RV) (pool : PoolL) (a : Option Addr) (c : Nat), xs.length = k ∧ xs.map (·.2) ++ replL ins (row.drop k) u = replL ins row (newU N) ∧ (goodU u ∧ small k u) ∧ (∀ x ∈ xs, (x.1, x.2.data) ∈ pool) ∧ env = mkE j [(8, .pointer (some ⟨bu, 0, none⟩)), (10, .pointer (some ⟨b10, 0, none⟩)), (13, .slice a xs.length c), (38, .slice ar row.length cr), (39, .int .i64 (row.length : Int)), (40, .int .i64 (k : Int))] ∧ On W0 (Own 5 (.slice a xs.length c) xs.length (xs.flatMap RV.cells) :: Pool pool :: UnP 84 146 152 bu [] ms u :: blk b10 [.map (some b26)] 172 :: MapS b26 .i64 .u64 kvs ck :: openD D :: L) w) (fun k => row.length - k) (0) ?_ ?_
  · have h := (h.ownEmpty 5 none).pool0
    have h : On W0 (Pool [] :: Own 5 (.slice none ([] : List RV).length 0) ([] : List RV).length (([] : List RV).flatMap RV.cells) :: _) w := h
    exact ⟨Nat.zero_le _, _, newU N, [], [], none, 0, rfl, rfl, ⟨goodU_new N, new_small N⟩, fun x hx => (by cases hx), mkE_of ⟨rfl, rfl, rfl, rfl, rfl, rfl, trivial⟩, h.to⟩
  clear h h0
  rintro k env w ⟨hk, j, u, xs, pool, a, c, hxl, hX, ⟨hgu, hsm⟩, hps, rfl, h⟩
  refine WF.seq (WF.region (WLF.val (run_lss rfl rfl) rfl rfl rfl (WLF.nil (WF.seq ?_))))
  refine WF.condIf rfl (fun c19 => ?_) (fun c19 => ?_)
  ·
   refine WF.skip (WF.seq ?_)
   have hkl : k < row.length := by omega
   have ad_ := (h.readsTo CR).addr (by omega)
   obtain ⟨br, or_, hal_⟩ := ad_
   subst hal_
   have ex_ : ∃ a, row[k]? = some a := ⟨row[k], by simp⟩
   obtain ⟨⟨ch, cid, cat⟩, hq⟩ := ex_
   have hrow := drop_flatMap CoX.cells 3 CoX.cells_length row _ _ hq
   have hul := On.unLen (h.fetch (UnP 84 146 152 bu [] ms u))
   obtain ⟨hul8, _⟩ := hul
   refine WF.block (WF.seq (WF.region (WLF.val (run_indexAddr Tryz.underlying56 Tryz.sizeOf61 rfl rfl (by omega) (by omega)) rfl rfl rfl (WLF.val (run_loadN Tryz.isAgg61 Tryz.sizeOf61 rfl rfl ((h.readsTo CR).elem (i := k) (vs := [.int .i64 ch, .int .u64 cid, .int .i64 cat]) hkl hrow)) rfl rfl rfl (WLF.eff (eff_alloc h Tryz.zeroValue61 rfl) rfl rfl rfl ?_)))))
   rintro _ w ⟨b15, rfl, h⟩
   refine WLF.eff (eff_storeW (vs := [.int .i64 _, .int .u64 _, .int .i64 _]) h Tryz.sizeOf61 rfl rfl rfl rfl rfl) rfl rfl rfl ?_
   rintro _ w h
   refine WLF.nil (WF.seq (WF.region (WLF.val (run_load1 Tryz.isAgg172 rfl (h.cellB rfl)) rfl rfl rfl (WLF.val (run_fieldAddr 0 Tryz.underlying61 rfl Tryz.sizeOf3 rfl rfl) rfl rfl rfl (WLF.val (run_load1 Tryz.isAgg3 rfl (h.cellB rfl)) rfl rfl rfl (WLF.val (run_fieldAddr 1 Tryz.underlying61 rfl Tryz.sizeOf23 rfl rfl) rfl rfl rfl (WLF.val (run_load1 Tryz.isAgg23 rfl (h.cellB rfl)) rfl rfl rfl ?_)))))))
   refine WLF.val (run_buildS (pl := [(0, 1), (1, 1)]) (out := [.int .i64 _, .int .u64 _]) Tryz.underlying137 Tryz.zeroValue137 (fun w => by kernel_rfl) rfl (⟨⟨_, _, rfl, rfl, by decide⟩, ⟨⟨_, _, rfl, rfl, by decide⟩, trivial⟩⟩) rfl) rfl rfl rfl ?_
   have hks_ := (On.mapSC (h.fetch (MapS b26 .i64 .u64 kvs ck))).2
   have fm_ := findN_mem (hfd _ (List.mem_of_getElem? hq))
   obtain ⟨⟨yh, yid, ⟨yk, ya, yn, yax, yac, ybs, yky, ynw, yty, yfo⟩, yat⟩, hf⟩ := fm_
   have hf : findN InX.nm ins (ch, cid) = some (⟨yh, yid, ⟨yk, ya, yn, yax, yac, ybs, yky, ynw, yty, yfo⟩, yat⟩ : InX) := hf
   have hmy := (findN_some hf).1
   have hbY : Gives L (Bytes (.slice yax ybs.length yac) ybs) := hB _ hmy
   have hcY := hcm _ hmy
   refine WLF.val (run_lookupSOk (p := (ch, cid)) (v := (⟨yh, yid, ⟨yk, ya, yn, yax, yac, ybs, yky, ynw, yty, yfo⟩, yat⟩ : InX).val) (o := true) nameKey hks_ Tryz.underlying172 Tryz.zeroValue59 rfl rfl (by rw [hsp, hf]; rfl) (by rw [hsp, hf]; rfl)) rfl rfl rfl (WLF.val run_move rfl rfl rfl (WLF.val (run_extract rfl rfl) rfl rfl rfl (WLF.val (run_extract rfl rfl) rfl rfl rfl (WLF.eff (eff_alloc h Tryz.zeroValue59 rfl) rfl rfl rfl ?_))))
   rintro _ w ⟨b16, rfl, h⟩
   refine WLF.eff (eff_storeW (vs := [.int .i64 _, .int .u64 _, .int .i64 _, .int .i64 _, .int .i64 _, .slice _ _ _, .int .u64 _, .int .u64 _, .int .i64 _, .bool _, .int .i64 _]) h Tryz.sizeOf59 rfl rfl rfl rfl rfl) rfl rfl rfl ?_
   rintro _ w h
   refine WLF.val run_assign rfl rfl rfl (WLF.nil (WF.seq (WF.seq (WF.region (WLF.val run_move rfl rfl rfl (WLF.val (run_not rfl) rfl rfl rfl (WLF.nil ?_)))))))
   refine WF.condF rfl (WF.skip (WF.region (WLF.val run_move rfl rfl rfl (WLF.val run_move rfl rfl rfl (WLF.val (run_fieldAddr 0 Tryz.underlying61 rfl Tryz.sizeOf3 rfl rfl) rfl rfl rfl (WLF.val (run_load1 Tryz.isAgg3 rfl (h.cellB rfl)) rfl rfl rfl (WLF.val (run_fieldAddr 2 Tryz.underlying59 rfl Tryz.sizeOf25 rfl rfl) rfl rfl rfl ?_)))))))
   refine WLF.val (run_loadB (vs := [.int .i64 _, .int .i64 _, .int .i64 _, .slice _ _ _, .int .u64 _, .int .u64 _, .int .i64 _, .bool _]) h Tryz.isAgg25 Tryz.sizeOf25 rfl rfl rfl) rfl rfl rfl (WLF.eff (eff_call Tryz.call13 (udo_ok (hh := ch) (kind := yk) (at_ := ya) (n := yn) (data := ybs) (key := yky) (new := ynw) (typ := yty) (force := yfo) (u := u) (small_le hsm (by omega)) hgu hcY.1 (h.fetch (UnP 84 146 152 bu [] ms u)) (Gives.to hbY) hcY.2)) rfl rfl rfl ?_)
   rintro _ w ⟨u', r, dv, he, rfl, h⟩
   have of_ := Own.form h
   obtain ⟨ad, cd, hdv, _⟩ := of_
   subst hdv
   have h := On.toPool ((h.fetch (Pool pool)).fetch (OwnB (.slice ad r.data.length cd) r.data))
   have hst : stepL ins u (⟨ch, cid, cat⟩ : CoX) = (u', r) := by
     unfold stepL cmOf
     rw [show findN InX.nm ins (CoX.nm (⟨ch, cid, cat⟩ : CoX)) = some (⟨yh, yid, ⟨yk, ya, yn, yax, yac, ybs, yky, ynw, yty, yfo⟩, yat⟩ : InX) from hf]
     exact he
   have hX2 : (xs ++ [((Value.slice ad r.data.length cd, r) : RV)]).map (·.2) ++ replL ins (row.drop (k + 1)) u' = replL ins row (newU N) := by
     rw [← hX, replL_step hq, hst, List.map_append, List.append_assoc]; rfl
   have hgu2 : goodU u' := by
     have h1 := goodU_do (hh := ch) hul8 hgu hcY.1
     have e1 : (doM u ch (⟨yk, ya, yn, ybs, yky, ynw, yty, yfo⟩ : Cm)).1 = u' := by rw [he]
     rw [← e1]; exact h1
   have hsm2 : small (k + 1) u' := by
     have h1 := (kept_do (hh := ch) (c := (⟨yk, ya, yn, ybs, yky, ynw, yty, yfo⟩ : Cm)) hul8).2.2 k hsm
     rw [he] at h1; exact h1
   have hps2 : ∀ x ∈ xs ++ [((Value.slice ad r.data.length cd, r) : RV)], (x.1, x.2.data) ∈ ((Value.slice ad r.data.length cd, r.data) :: pool) := fun x hx => by
     have ob_ := List.mem_append.1 hx
     rcases ob_ with hx | hx
     · exact List.mem_cons_of_mem _ (hps x hx)
     · rw [List.mem_singleton] at hx; subst hx; exact List.mem_cons_self ..
   have el2 : xs.length + 1 = (xs ++ [((Value.slice ad r.data.length cd, r) : RV)]).length := by rw [List.length_append]; rfl
   refine WLF.eff (eff_mkSlice (zl := [.int .i64 0, .int .i64 0, .int .i64 0, .slice none 0 0, .int .i64 0]) (out := [.int .i64 _, .int .i64 _, .int .i64 _, .slice _ _ _, .int .i64 _]) h Tryz.underlying112 Tryz.sizeOf36 Tryz.zeroValue36 (by decide) (by kernel_rfl) rfl rfl (by simp) (⟨⟨_, _, rfl, rfl, by decide⟩, trivial⟩) rfl rfl (by simp [maxLen])) rfl rfl rfl ?_
   rintro _ w ⟨b63, rfl, h⟩
   refine WLF.eff (eff_app (c2 := 1) (bytes := 56) h rfl rfl (h.cellsO (v := .slice (some ⟨b63, 0, none⟩) 1 1)) Tryz.underlying112 rfl rfl rfl rfl rfl (by omega) (by omega) (by simp [Value.oneCell'])) rfl rfl rfl ?_
   rintro _ w ⟨a64, c64, rfl, h⟩
   have em2 : xs.flatMap RV.cells ++ [.int .i64 r.st, .int .i64 r.key, .int .i64 r.code, .slice ad r.data.length cd, .int .i64 r.info] = (xs ++ [((Value.slice ad r.data.length cd, r) : RV)]).flatMap RV.cells := by rw [List.flatMap_append]; rfl
   have h : On W0 (Own 5 (.slice a64 (xs.length + 1) c64) (xs.length + 1) (xs.flatMap RV.cells ++ [.int .i64 r.st, .int .i64 r.key, .int .i64 r.code, .slice ad r.data.length cd, .int .i64 r.info]) :: _) w := h
   rw [em2, el2] at h
   refine WLF.val run_assign rfl rfl rfl (WLF.nil (WF.region (WLF.val (run_incN rfl rfl (by omega)) rfl rfl rfl (WLF.val run_move rfl rfl rfl (WLF.nil ?_)))))
   refine ⟨rfl, ?_⟩
   exact ⟨k + 1, ⟨by omega, _, u', xs ++ [(.slice ad r.data.length cd, r)], _, a64, c64, by rw [List.length_append, hxl]; rfl, hX2, ⟨hgu2, hsm2⟩, hps2, mkE_of ⟨rfl, rfl, congrArg (fun q => Value.slice a64 q c64) el2, rfl, rfl, rfl, trivial⟩, h.to⟩, by show row.length - (k + 1) < row.length - k; omega⟩
  refine WF.exit (WF.seq ?_)
  have ob_ : k = row.length := by omega
  obtain rfl := ob_
  rw [List.drop_length] at hX
  have hX : xs.map (·.2) = replL ins row (newU N) := by rw [← hX]; exact (List.append_nil _).symm
  refine WF.region (WLF.val run_move rfl rfl rfl (WLF.eff (eff_call Tryz.call112 (clip_reps h)) rfl rfl rfl ?_))
  rintro _ w ⟨rfl, h⟩
  refine WLF.val run_assign rfl rfl rfl (WLF.val run_assign rfl rfl rfl (WLF.nil (WF.ret ?_)))
  have h2 := On.putPts (.deferred none) (h.fetch (openD D))
  refine ⟨D, rfl, (h.fetch (openD D)).block 0 rfl, bodyQ.r2 (v1 := .slice _ _ _) (v2 := .int .i64 _) Tryz.results54 rfl rfl ?_⟩
  exact ⟨a, pool, xs, rfl, hX, hps, h2.to⟩

end Go.Proofs.YtdpakoefdpmebaaGreat
