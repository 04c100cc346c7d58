/-
  The document's unit: the unit's parts: the contracts. Lines of walks printed by a program of the prover's.
-/
import Derived.Test.YtdpakoefdpmebaaGreatRef3
namespace Go.Proofs.YtdpakoefdpmebaaGreat
open Go Go.Sl Go.Sl.BitM Go.Sl.SpM Go.Sl.RsM Go.Sl.ByM Go.Sl.UnM
set_option linter.unusedVariables false
set_option linter.unusedSimpArgs false
set_option maxHeartbeats 1000000
set_option maxRecDepth 8000
variable {W0 w : World} {L F : List HProp}

theorem rnote_ok {bu i : Nat} {u : Un} {pc : PoolK} {z : Int} (hi : i < 8) (hsm : (u.guest i).codes.length ≤ 1000000) (h : On W0 (RefU 106 110 128 bu pc u :: PoolC pc :: L) w) : Calls Tryz.prog 72 #[.pointer (some ⟨bu, 0, none⟩), .int .i64 (i : Int), .int .i64 z] w (Ret fun v w' => ∃ pc', subK pc pc' ∧ On W0 (RefU 106 110 128 bu pc' (u.tell i z) :: PoolC pc' :: L) w') := by
  refine enter Tryz.func72 rfl Tryz.ntmps72 rfl ?_
  have hmx := maxLen_eq
  have ho := openF h
  obtain ⟨bs, bt, xs, hpk, h⟩ := ho
  have hl8 := xs_len hpk
  have hr := rx_of hpk hi
  obtain ⟨x, hx, hxs, hok⟩ := hr
  have hcd : x.codes = (u.guest i).codes := congrArg Gs.codes hxs
  have CW : Gives (PoolC pc :: L) (Cells 1 x.wv x.codes.length (cV x.codes)) := Gives.poolC hok.1
  have fW := (h.readsTo CW).form
  obtain ⟨aw, cw, hwv, hw1, hw2, _⟩ := fW
  have hgw := rget_w (bs := bs) (bt := bt) hl8 hx
  rw [hwv] at hgw CW
  rw [← hcd] at hsm
  refine W.seq (W.seq (W.region (WL.val run_assign rfl rfl (WL.nil (W.block ?_)))))
  refine W.loop (fun (k : Nat) env w => k ≤ x.codes.length ∧ ∃ j, env = mkE j [(0, .pointer (some ⟨bu, 0, none⟩)), (1, .int .i64 (i : Int)), (2, .int .i64 z), (6, .int .i64 (k : Int))] ∧ (∀ q, q < k → x.codes[q]? ≠ some z) ∧ On W0 (blk bu (rcells bs bt xs) 106 :: RSpP 110 bs pc u.s :: blk bt u.t.cells 128 :: PoolC pc :: L) w) (fun k => x.codes.length - k) (0) ?_ ?_
  · exact ⟨Nat.zero_le _, _, mkE_of ⟨rfl, rfl, rfl, rfl, trivial⟩, (fun q hq => by omega), h⟩
  rintro k env w ⟨hk, j, rfl, hno, h⟩
  refine W.seq (W.seq (W.region (WL.val run_move rfl rfl (WL.val run_move rfl rfl (WL.val run_move rfl rfl (WL.val (run_nilCheck rfl) rfl rfl (WL.val (run_fieldAddr 2 Tryz.underlying106 rfl Tryz.sizeOf101 rfl rfl) rfl rfl ?_)))))))
  refine WL.val (run_indexAddrArr Tryz.underlying101 Tryz.sizeOf43 rfl rfl (by omega) (by omega)) rfl rfl (WL.val (run_load1 Tryz.isAgg43 rfl (h.cellB hgw)) rfl rfl (WL.val (run_lenSlice Tryz.underlying43 rfl) rfl rfl (WL.val (run_lss rfl rfl) rfl rfl (WL.nil ?_))))
  refine W.condIf rfl (fun c4 => ?_) (fun c4 => ?_)
  ·
   refine W.skip (W.seq ?_)
   have hkl : k < x.codes.length := by omega
   have hy : ∃ y, x.codes[k]? = some y := ⟨x.codes[k]'(by omega), by simp⟩
   obtain ⟨y, hy⟩ := hy
   have CC := h.readsTo CW
   have ha := CC.addr (by omega)
   obtain ⟨bx, ox, hax⟩ := ha
   have hgw2 := hgw
   rw [hax] at hgw2 CC
   refine W.block (W.seq (W.region (WL.val run_move rfl rfl (WL.val run_move rfl rfl (WL.val (run_nilCheck rfl) rfl rfl (WL.val (run_fieldAddr 2 Tryz.underlying106 rfl Tryz.sizeOf101 rfl rfl) rfl rfl (WL.val (run_indexAddrArr Tryz.underlying101 Tryz.sizeOf43 rfl rfl (by omega) (by omega)) rfl rfl ?_)))))))
   refine WL.val (run_load1 Tryz.isAgg43 rfl (h.cellB hgw2)) rfl rfl (WL.val run_move rfl rfl (WL.val (run_indexAddr Tryz.underlying43 Tryz.sizeOf3 rfl rfl (by omega) (by omega)) rfl rfl (WL.val (run_load1 Tryz.isAgg3 rfl (CC.elem (i := k) (vs := [.int .i64 y]) hkl (cV_get hy) 0 _ rfl)) rfl rfl (WL.val run_move rfl rfl (WL.val (run_eql rfl rfl) rfl rfl (WL.nil ?_))))))
   refine W.condIf rfl (fun c9 => ?_) (fun c9 => ?_)
   ·
    refine W.ret (bodyQ.r0 Tryz.results72 ?_)
    rw [tell_same hpk.2.1 hi (by rw [← hcd]; have e : y = z := c9; rw [← e]; exact List.mem_of_getElem? hy)]
    exact ⟨pc, subK_refl, closeF (bu := bu) (u := u) hpk ((((h.fetch (PoolC pc)).fetch (blk bt u.t.cells 128)).fetch (RSpP 110 bs pc u.s)).fetch (blk bu (rcells bs bt xs) 106))⟩
   refine W.skip (W.region (WL.val run_move rfl rfl (WL.val (run_incN rfl rfl (by omega)) rfl rfl (WL.val run_assign rfl rfl (WL.nil ?_)))))
   exact ⟨k + 1, ⟨by omega, _, mkE_of ⟨rfl, rfl, rfl, rfl, trivial⟩, (fun q hq => by
     by_cases hqk : q = k
     · subst hqk; rw [hy]; intro e; simp only [Option.some.injEq] at e; exact c9 e
     · exact hno q (by omega)), h⟩, by show x.codes.length - (k + 1) < x.codes.length - k; omega⟩
  refine W.exit ?_
  have hnin : z ∉ x.codes := fun hm => by
    have ob_ := List.getElem?_of_mem hm
    obtain ⟨q, hq⟩ := ob_
    exact hno q (by have := (List.getElem?_eq_some_iff.1 hq).1; omega) hq
  refine W.draw Tryz.follows h (fun w h => ?_)
  refine WT.pure 0 rfl (by kernel_rfl) (fun w' => run_move) rfl rfl (WT.pure 1 rfl (by kernel_rfl) (fun w' => run_move) rfl rfl (WT.pure 3 rfl (by kernel_rfl) (fun w' => run_move) rfl rfl (WT.pure 4 rfl (by kernel_rfl) (fun w' => run_move) rfl rfl (WT.pure 5 rfl (by kernel_rfl) (fun w' => (run_nilCheck rfl)) rfl rfl (WT.pure 6 rfl (by kernel_rfl) (fun w' => (run_fieldAddr 2 Tryz.underlying106 rfl Tryz.sizeOf101 rfl rfl)) rfl rfl (WT.pure 7 rfl (by kernel_rfl) (fun w' => (run_indexAddrArr Tryz.underlying101 Tryz.sizeOf43 rfl rfl (by omega) (by omega))) rfl rfl (WT.load1 8 rfl (by kernel_rfl) Tryz.isAgg43 rfl (h.cellB hgw) rfl rfl ?_)))))))
  refine WT.pure 10 rfl (by kernel_rfl) (fun w' => run_move) rfl rfl (WT.pure 13 rfl (by kernel_rfl) (fun w' => (run_nilCheck rfl)) rfl rfl (WT.pure 14 rfl (by kernel_rfl) (fun w' => (run_fieldAddr 2 Tryz.underlying106 rfl Tryz.sizeOf101 rfl rfl)) rfl rfl ?_))
  -- SEVERAL MAY COME UP: [(2, 'buildSlice []int 0[]'), (11, 'buildSlice []int 1[0:t39]')]
  refine WT.two 2 11 (by kernel_rfl) ?_ ?_
  ·
   refine WT.opOf 2 [true] rfl (by kernel_rfl) (eff_mkSlice (zl := []) (out := []) h Tryz.underlying43 Tryz.sizeOf3 Tryz.zeroValue3 (by decide) (by simp) rfl rfl (by simp) (trivial) rfl rfl (by simp [maxLen])) rfl rfl ?_
   rintro _ w ⟨b31, rfl, h⟩
   refine ⟨⟨h.cellB hgw, trivial⟩, ?_⟩
   -- SEVERAL MAY COME UP: [(9, ' append(t31, t37)'), (11, 'buildSlice []int 1[0:t39]')]
   refine WT.two 9 11 (by kernel_rfl) ?_ ?_
   ·
    refine WT.opOf 9 [false] rfl (by kernel_rfl) (eff_app0 (bytes := 8) h rfl rfl (h.readsTo CW) Tryz.underlying43 rfl rfl rfl rfl rfl (by omega) (by omega) cV_one) rfl rfl ?_
    rintro _ w ⟨a38, c38, rfl, h⟩
    refine ⟨trivial, ?_⟩
    refine WT.eff 11 [] rfl (by kernel_rfl) (by kernel_rfl) (eff_mkSlice (zl := [.int .i64 0]) (out := [.int .i64 _]) h Tryz.underlying43 Tryz.sizeOf3 Tryz.zeroValue3 (by decide) (by kernel_rfl) rfl rfl (by simp) (⟨⟨_, _, rfl, rfl, by decide⟩, trivial⟩) rfl rfl (by simp [maxLen])) rfl rfl ?_
    rintro _ w ⟨b40, rfl, h⟩
    refine ⟨trivial, ?_⟩
    refine WT.eff 12 [] rfl (by kernel_rfl) (by kernel_rfl) (eff_app (c2 := 1) (bytes := 8) (h.fetch (Own 1 (.slice a38 x.codes.length c38) x.codes.length (cV x.codes))) rfl rfl (h.cellsO (v := .slice (some ⟨b40, 0, none⟩) 1 1)) Tryz.underlying43 rfl rfl rfl rfl rfl (by omega) (by omega) (by simp [Value.oneCell'])) rfl rfl ?_
    rintro _ w ⟨a41, c41, rfl, h⟩
    refine ⟨trivial, ?_⟩
    refine WT.pure 15 rfl (by kernel_rfl) (fun w' => (run_indexAddrArr Tryz.underlying101 Tryz.sizeOf43 rfl rfl (by omega) (by omega))) rfl rfl (WT.eff 16 [] rfl (by kernel_rfl) (by kernel_rfl) (eff_store (v := .slice a41 (x.codes.length + 1) c41) (h.fetch (blk bu (rcells bs bt xs) 106)) Tryz.sizeOf43 rfl rfl rfl (rlt (k := 0 + 2 + ((i : Nat) : Int).toNat * 1) hl8 (by simp; omega)) (free0 _)) rfl rfl ?_)
    rintro _ w h
    refine ⟨trivial, ?_⟩
    refine WT.done (by kernel_rfl) (bodyQ.fall (bodyQ.r0 Tryz.results72 ?_))
    have hw := setW (L := L) (TU := 106) (TS := 110) (TT := 128) (bu := bu) (bs := bs) (bt := bt) (u := u) (codes' := x.codes ++ [z]) (v' := .slice a41 (x.codes.length + 1) c41) (n := x.codes.length + 1) (ws := cV x.codes ++ [.int .i64 z]) hpk hx hxs hok (by rw [List.length_append]; rfl) (by simp [cV]) h.to
    have et : u.tell i z = u.putG i { u.guest i with codes := x.codes ++ [z] } := by
      unfold Un.tell Gs.tell tellM
      rw [if_neg (by rw [← hcd]; exact hnin), hcd]
    rw [et]
    exact hw
   refine WT.opOf 11 [true] rfl (by kernel_rfl) (eff_mkSlice (zl := [.int .i64 0]) (out := [.int .i64 _]) h Tryz.underlying43 Tryz.sizeOf3 Tryz.zeroValue3 (by decide) (by kernel_rfl) rfl rfl (by simp) (⟨⟨_, _, rfl, rfl, by decide⟩, trivial⟩) rfl rfl (by simp [maxLen])) rfl rfl ?_
   rintro _ w ⟨b40, rfl, h⟩
   refine ⟨⟨h.cellB hgw, trivial⟩, ?_⟩
   refine WT.eff 9 [false] rfl (by kernel_rfl) (by kernel_rfl) (eff_app0 (bytes := 8) h rfl rfl (h.readsTo CW) Tryz.underlying43 rfl rfl rfl rfl rfl (by omega) (by omega) cV_one) rfl rfl ?_
   rintro _ w ⟨a38, c38, rfl, h⟩
   refine ⟨trivial, ?_⟩
   refine WT.eff 12 [] rfl (by kernel_rfl) (by kernel_rfl) (eff_app (c2 := 1) (bytes := 8) (h.fetch (Own 1 (.slice a38 x.codes.length c38) x.codes.length (cV x.codes))) rfl rfl (h.cellsO (v := .slice (some ⟨b40, 0, none⟩) 1 1)) Tryz.underlying43 rfl rfl rfl rfl rfl (by omega) (by omega) (by simp [Value.oneCell'])) rfl rfl ?_
   rintro _ w ⟨a41, c41, rfl, h⟩
   refine ⟨trivial, ?_⟩
   refine WT.pure 15 rfl (by kernel_rfl) (fun w' => (run_indexAddrArr Tryz.underlying101 Tryz.sizeOf43 rfl rfl (by omega) (by omega))) rfl rfl (WT.eff 16 [] rfl (by kernel_rfl) (by kernel_rfl) (eff_store (v := .slice a41 (x.codes.length + 1) c41) (h.fetch (blk bu (rcells bs bt xs) 106)) Tryz.sizeOf43 rfl rfl rfl (rlt (k := 0 + 2 + ((i : Nat) : Int).toNat * 1) hl8 (by simp; omega)) (free0 _)) rfl rfl ?_)
   rintro _ w h
   refine ⟨trivial, ?_⟩
   refine WT.done (by kernel_rfl) (bodyQ.fall (bodyQ.r0 Tryz.results72 ?_))
   have hw := setW (L := L) (TU := 106) (TS := 110) (TT := 128) (bu := bu) (bs := bs) (bt := bt) (u := u) (codes' := x.codes ++ [z]) (v' := .slice a41 (x.codes.length + 1) c41) (n := x.codes.length + 1) (ws := cV x.codes ++ [.int .i64 z]) hpk hx hxs hok (by rw [List.length_append]; rfl) (by simp [cV]) h.to
   have et : u.tell i z = u.putG i { u.guest i with codes := x.codes ++ [z] } := by
     unfold Un.tell Gs.tell tellM
     rw [if_neg (by rw [← hcd]; exact hnin), hcd]
   rw [et]
   exact hw
  refine WT.opOf 11 [true] rfl (by kernel_rfl) (eff_mkSlice (zl := [.int .i64 0]) (out := [.int .i64 _]) h Tryz.underlying43 Tryz.sizeOf3 Tryz.zeroValue3 (by decide) (by kernel_rfl) rfl rfl (by simp) (⟨⟨_, _, rfl, rfl, by decide⟩, trivial⟩) rfl rfl (by simp [maxLen])) rfl rfl ?_
  rintro _ w ⟨b40, rfl, h⟩
  refine ⟨⟨h.cellB hgw, trivial⟩, ?_⟩
  refine WT.eff 2 [true] rfl (by kernel_rfl) (by kernel_rfl) (eff_mkSlice (zl := []) (out := []) h Tryz.underlying43 Tryz.sizeOf3 Tryz.zeroValue3 (by decide) (by simp) rfl rfl (by simp) (trivial) rfl rfl (by simp [maxLen])) rfl rfl ?_
  rintro _ w ⟨b31, rfl, h⟩
  refine ⟨⟨h.cellB hgw, trivial⟩, ?_⟩
  refine WT.eff 9 [false] rfl (by kernel_rfl) (by kernel_rfl) (eff_app0 (bytes := 8) h rfl rfl (h.readsTo CW) Tryz.underlying43 rfl rfl rfl rfl rfl (by omega) (by omega) cV_one) rfl rfl ?_
  rintro _ w ⟨a38, c38, rfl, h⟩
  refine ⟨trivial, ?_⟩
  refine WT.eff 12 [] rfl (by kernel_rfl) (by kernel_rfl) (eff_app (c2 := 1) (bytes := 8) (h.fetch (Own 1 (.slice a38 x.codes.length c38) x.codes.length (cV x.codes))) rfl rfl (h.cellsO (v := .slice (some ⟨b40, 0, none⟩) 1 1)) Tryz.underlying43 rfl rfl rfl rfl rfl (by omega) (by omega) (by simp [Value.oneCell'])) rfl rfl ?_
  rintro _ w ⟨a41, c41, rfl, h⟩
  refine ⟨trivial, ?_⟩
  refine WT.pure 15 rfl (by kernel_rfl) (fun w' => (run_indexAddrArr Tryz.underlying101 Tryz.sizeOf43 rfl rfl (by omega) (by omega))) rfl rfl (WT.eff 16 [] rfl (by kernel_rfl) (by kernel_rfl) (eff_store (v := .slice a41 (x.codes.length + 1) c41) (h.fetch (blk bu (rcells bs bt xs) 106)) Tryz.sizeOf43 rfl rfl rfl (rlt (k := 0 + 2 + ((i : Nat) : Int).toNat * 1) hl8 (by simp; omega)) (free0 _)) rfl rfl ?_)
  rintro _ w h
  refine ⟨trivial, ?_⟩
  refine WT.done (by kernel_rfl) (bodyQ.fall (bodyQ.r0 Tryz.results72 ?_))
  have hw := setW (L := L) (TU := 106) (TS := 110) (TT := 128) (bu := bu) (bs := bs) (bt := bt) (u := u) (codes' := x.codes ++ [z]) (v' := .slice a41 (x.codes.length + 1) c41) (n := x.codes.length + 1) (ws := cV x.codes ++ [.int .i64 z]) hpk hx hxs hok (by rw [List.length_append]; rfl) (by simp [cV]) h.to
  have et : u.tell i z = u.putG i { u.guest i with codes := x.codes ++ [z] } := by
    unfold Un.tell Gs.tell tellM
    rw [if_neg (by rw [← hcd]; exact hnin), hcd]
  rw [et]
  exact hw

theorem rnotes_ok {bu : Nat} {u : Un} {pc : PoolK} {l : List Nat} {code : Int} {a : Option Addr} {c : Nat} (hl8 : l.length ≤ 8) (hlt : ∀ j ∈ l, j < 8) (hsm : small 999000 u) (h : On W0 (Own 2 (.slice a l.length c) l.length (notesV code l) :: RefU 106 110 128 bu pc u :: PoolC pc :: L) w) : Calls Tryz.prog 63 #[.pointer (some ⟨bu, 0, none⟩), .slice a l.length c] w (Ret fun v w' => ∃ pc', subK pc pc' ∧ On W0 (RefU 106 110 128 bu pc' (notM u code l) :: PoolC pc' :: L) w') := by
  refine enter Tryz.func63 rfl Tryz.ntmps63 rfl ?_
  have hmx := maxLen_eq
  have hg8 := (RefU_nil (h.fetch (RefU 106 110 128 bu pc u))).2.1
  refine W.seq (W.region (WL.val run_assign rfl rfl (WL.nil (W.block ?_))))
  refine W.loop (fun (k : Nat) env w => k ≤ l.length ∧ ∃ (j : Env) (pq : PoolK), env = mkE j [(0, .pointer (some ⟨bu, 0, none⟩)), (1, .slice a l.length c), (4, .int .i64 (k : Int))] ∧ subK pc pq ∧ On W0 (RefU 106 110 128 bu pq (notM u code (l.take k)) :: PoolC pq :: Own 2 (.slice a l.length c) l.length (notesV code l) :: L) w) (fun k => l.length - k) (0) ?_ ?_
  · have h : On W0 (RefU 106 110 128 bu pc (notM u code (l.take 0)) :: _) w := h.fetch (RefU 106 110 128 bu pc u)
    exact ⟨Nat.zero_le _, _, pc, mkE_of ⟨rfl, rfl, rfl, trivial⟩, subK_refl, h.to⟩
  rintro k env w ⟨hk, j, pq, rfl, hsq, h⟩
  refine W.seq (W.seq (W.region (WL.val run_move rfl rfl (WL.val run_move rfl rfl (WL.val (run_lenSlice Tryz.underlying117 rfl) rfl rfl (WL.val (run_lss rfl rfl) rfl rfl (WL.nil ?_)))))))
  refine W.condIf rfl (fun c4 => ?_) (fun c4 => ?_)
  ·
   refine W.skip (W.seq ?_)
   have hkl : k < l.length := by omega
   have hn : ∃ n, l[k]? = some n := ⟨l[k]'(by omega), by simp⟩
   obtain ⟨n, hn⟩ := hn
   have hn8 := hlt n (List.mem_of_getElem? hn)
   have h := h.fetch (Own 2 (.slice a l.length c) l.length (notesV code l))
   have ha := Own.addr h (by omega)
   obtain ⟨bn, on, hal⟩ := ha
   subst hal
   have hcl : ((notM u code (l.take k)).guest n).codes.length ≤ 1000000 := by
     have h1 := notM_clen (code := code) hn8 (l.take k) hg8
     have h2 := hsm n hn8
     rw [List.length_take] at h1
     exact Nat.le_trans h1 (by omega)
   refine W.block ?_
   refine W.draw Tryz.follows h (fun w h => ?_)
   refine WT.pure 0 rfl (by kernel_rfl) (fun w' => run_move) rfl rfl (WT.pure 1 rfl (by kernel_rfl) (fun w' => run_move) rfl rfl (WT.pure 2 rfl (by kernel_rfl) (fun w' => run_move) rfl rfl (WT.pure 3 rfl (by kernel_rfl) (fun w' => (run_indexAddr Tryz.underlying117 Tryz.sizeOf187 rfl rfl (by omega) (by omega))) rfl rfl (WT.pure 4 rfl (by kernel_rfl) (fun w' => (run_fieldAddr 0 Tryz.underlying187 rfl Tryz.sizeOf3 rfl rfl)) rfl rfl (WT.load1 5 rfl (by kernel_rfl) Tryz.isAgg3 rfl ((h.cellsO (v := .slice (some ⟨bn, on, none⟩) l.length c)).elem (i := k) (vs := noteV code n) hkl (drop_flatMap (noteV code) 2 (noteV_length code) l _ _ hn) 0 _ rfl) rfl rfl (WT.pure 6 rfl (by kernel_rfl) (fun w' => run_move) rfl rfl (WT.pure 7 rfl (by kernel_rfl) (fun w' => run_move) rfl rfl ?_)))))))
   refine WT.pure 8 rfl (by kernel_rfl) (fun w' => (run_indexAddr Tryz.underlying117 Tryz.sizeOf187 rfl rfl (by omega) (by omega))) rfl rfl (WT.pure 9 rfl (by kernel_rfl) (fun w' => (run_fieldAddr 1 Tryz.underlying187 rfl Tryz.sizeOf3 rfl rfl)) rfl rfl (WT.load1 10 rfl (by kernel_rfl) Tryz.isAgg3 rfl ((h.cellsO (v := .slice (some ⟨bn, on, none⟩) l.length c)).elem (i := k) (vs := noteV code n) hkl (drop_flatMap (noteV code) 2 (noteV_length code) l _ _ hn) 1 _ rfl) rfl rfl (WT.eff 11 [false, false] rfl (by kernel_rfl) (by kernel_rfl) (eff_call Tryz.call72 (rnote_ok (i := n) (z := code) (u := notM u code (l.take k)) (pc := pq) hn8 hcl ((h.fetch (PoolC pq)).fetch (RefU 106 110 128 bu pq (notM u code (l.take k)))))) rfl rfl ?_)))
   rintro _ w ⟨pr, hsr, h⟩
   rw [notM_take hn] at h
   refine ⟨trivial, ?_⟩
   refine WT.done (by kernel_rfl) (W.region (WL.val run_move rfl rfl (WL.val (run_incN rfl rfl (by omega)) rfl rfl (WL.val run_assign rfl rfl (WL.nil ?_)))))
   exact ⟨k + 1, ⟨by omega, _, pr, mkE_of ⟨rfl, rfl, rfl, trivial⟩, hsq.trans hsr, h.to⟩, by show l.length - (k + 1) < l.length - k; omega⟩
  refine W.exit (bodyQ.fall (bodyQ.r0 Tryz.results63 ?_))
  have ob_ : k = l.length := by omega
  obtain rfl := ob_
  rw [List.take_length] at h
  exact ⟨pq, hsq, h.to⟩

theorem rpop_ok {bu i : Nat} {u : Un} {pc : PoolK} (hi : i < 8) (hsm : (u.guest i).codes.length ≤ 1000000) (h : On W0 (RefU 106 110 128 bu pc u :: PoolC pc :: L) w) : Calls Tryz.prog 56 #[.pointer (some ⟨bu, 0, none⟩), .int .i64 (i : Int)] w (Ret fun v w' => (∃ x l, (u.guest i).codes = x :: l ∧ v = .tuple #[(plain 2 6 x).val (.slice none 0 0), .bool true] ∧ ∃ pc', subK pc pc' ∧ On W0 (RefU 106 110 128 bu pc' (u.putG i (u.guest i).pop) :: PoolC pc' :: L) w') ∨ ((u.guest i).codes = [] ∧ v = .tuple #[(plain 0 0 0).val (.slice none 0 0), .bool false] ∧ On W0 (RefU 106 110 128 bu pc u :: PoolC pc :: L) w')) := by
  refine enter Tryz.func56 rfl Tryz.ntmps56 rfl ?_
  have hmx := maxLen_eq
  have ho := openF h
  obtain ⟨bs, bt, xs, hpk, h⟩ := ho
  have hl8 := xs_len hpk
  have hr := rx_of hpk hi
  obtain ⟨x, hx, hxs, hok⟩ := hr
  have hcd : x.codes = (u.guest i).codes := congrArg Gs.codes hxs
  have CW : Gives (PoolC pc :: L) (Cells 1 x.wv x.codes.length (cV x.codes)) := Gives.poolC hok.1
  have fW := (h.readsTo CW).form
  obtain ⟨aw, cw, hwv, hw1, hw2, _⟩ := fW
  have hgw := rget_w (bs := bs) (bt := bt) hl8 hx
  rw [hwv] at hgw CW
  rw [← hcd] at hsm
  rw [← hcd]
  refine W.seq (W.region (WL.eff (eff_alloc h Tryz.zeroValue36 rfl) rfl rfl ?_))
  rintro _ w ⟨b4, rfl, h⟩
  refine WL.val run_assign rfl rfl (WL.nil (W.seq (W.seq (W.region (WL.val run_move rfl rfl (WL.val run_move rfl rfl (WL.val (run_nilCheck rfl) rfl rfl ?_)))))))
  refine WL.val (run_fieldAddr 2 Tryz.underlying106 rfl Tryz.sizeOf101 rfl rfl) rfl rfl (WL.val (run_indexAddrArr Tryz.underlying101 Tryz.sizeOf43 rfl rfl (by omega) (by omega)) rfl rfl (WL.val (run_load1 Tryz.isAgg43 rfl (h.cellB hgw)) rfl rfl (WL.val (run_lenSlice Tryz.underlying43 rfl) rfl rfl (WL.val (run_eql rfl rfl) rfl rfl (WL.nil ?_)))))
  refine W.condIf rfl (fun c2 => ?_) (fun c2 => ?_)
  ·
   refine W.seq (W.region (WL.val (run_buildS (pl := [(0, 1), (1, 1), (2, 1), (3, 1), (4, 1)]) (out := [.int .i64 _, .int .i64 _, .int .i64 _, .slice _ _ _, .int .i64 _]) Tryz.underlying36 Tryz.zeroValue36 (fun w => by kernel_rfl) rfl (trivial) rfl) rfl rfl (WL.eff (eff_storeW (vs := [.int .i64 _, .int .i64 _, .int .i64 _, .slice _ _ _, .int .i64 _]) h Tryz.sizeOf36 rfl rfl rfl rfl rfl) rfl rfl ?_)))
   rintro _ w h
   refine WL.val run_assign rfl rfl (WL.nil (W.ret (bodyQ.rctB (vs := [.int .i64 _, .int .i64 _, .int .i64 _, .slice _ _ _, .int .i64 _]) (v2 := .bool _) h Tryz.results56 Tryz.isAgg36 Tryz.sizeOf36 rfl rfl rfl rfl ?_)))
   exact .inr ⟨List.eq_nil_of_length_eq_zero (by omega), rfl, (closeF (bu := bu) (u := u) hpk ((((h.fetch (PoolC pc)).fetch (blk bt u.t.cells 128)).fetch (RSpP 110 bs pc u.s)).fetch (blk bu (rcells bs bt xs) 106))).to⟩
  refine W.skip (W.seq ?_)
  have hyl : ∃ y l, x.codes = y :: l := by
    cases hc : x.codes with
    | nil => rw [hc] at c2; exact absurd rfl c2
    | cons y l => exact ⟨y, l, rfl⟩
  obtain ⟨y, l, hyl⟩ := hyl
  have hy0 : x.codes[0]? = some y := by rw [hyl]; rfl
  have hpos : 0 < x.codes.length := by rw [hyl]; exact Nat.succ_pos _
  have CC := h.readsTo CW
  have ha := CC.addr hpos
  obtain ⟨bx, ox, hax⟩ := ha
  have hgw2 := hgw
  rw [hax] at hgw2 CC
  have hcc := cut_codes (k := 1) (l := x.codes) (a := aw) (c := cw) CW hpos hw1
  obtain ⟨a', c', hcut, CT⟩ := hcc
  have hd1 : (x.codes.drop 1).length ≤ 1000000 := by rw [List.length_drop]; omega
  refine W.region (WL.val run_move rfl rfl (WL.val run_move rfl rfl (WL.val (run_nilCheck rfl) rfl rfl (WL.val (run_fieldAddr 2 Tryz.underlying106 rfl Tryz.sizeOf101 rfl rfl) rfl rfl (WL.val (run_indexAddrArr Tryz.underlying101 Tryz.sizeOf43 rfl rfl (by omega) (by omega)) rfl rfl (WL.val (run_load1 Tryz.isAgg43 rfl (h.cellB hgw2)) rfl rfl (WL.val (run_indexAddr Tryz.underlying43 Tryz.sizeOf3 rfl rfl (by omega) (by omega)) rfl rfl ?_)))))))
  refine WL.val (run_load1 Tryz.isAgg3 rfl (CC.elem (i := 0) (vs := [.int .i64 y]) hpos (cV_get hy0) 0 _ rfl)) rfl rfl (WL.val run_assign rfl rfl (WL.nil (W.seq ?_)))
  refine W.draw Tryz.follows h (fun w h => ?_)
  refine WT.pure 0 rfl (by kernel_rfl) (fun w' => run_move) rfl rfl (WT.pure 1 rfl (by kernel_rfl) (fun w' => run_move) rfl rfl (WT.pure 3 rfl (by kernel_rfl) (fun w' => run_move) rfl rfl (WT.pure 4 rfl (by kernel_rfl) (fun w' => run_move) rfl rfl (WT.pure 5 rfl (by kernel_rfl) (fun w' => (run_nilCheck rfl)) rfl rfl (WT.pure 6 rfl (by kernel_rfl) (fun w' => (run_fieldAddr 2 Tryz.underlying106 rfl Tryz.sizeOf101 rfl rfl)) rfl rfl (WT.pure 7 rfl (by kernel_rfl) (fun w' => (run_indexAddrArr Tryz.underlying101 Tryz.sizeOf43 rfl rfl (by omega) (by omega))) rfl rfl (WT.load1 8 rfl (by kernel_rfl) Tryz.isAgg43 rfl (h.cellB hgw) rfl rfl ?_)))))))
  refine WT.pure 9 rfl (by kernel_rfl) (fun w' => (run_cutLV (l := 1) Tryz.underlying43 Tryz.sizeOf3 rfl rfl hpos hcut)) rfl rfl (WT.pure 11 rfl (by kernel_rfl) (fun w' => (run_nilCheck rfl)) rfl rfl (WT.pure 12 rfl (by kernel_rfl) (fun w' => (run_fieldAddr 2 Tryz.underlying106 rfl Tryz.sizeOf101 rfl rfl)) rfl rfl (WT.eff 2 [true] rfl (by kernel_rfl) (by kernel_rfl) (eff_mkSlice (zl := []) (out := []) h Tryz.underlying43 Tryz.sizeOf3 Tryz.zeroValue3 (by decide) (by simp) rfl rfl (by simp) (trivial) rfl rfl (by simp [maxLen])) rfl rfl ?_)))
  rintro _ w ⟨b26, rfl, h⟩
  refine ⟨⟨h.cellB hgw, trivial⟩, ?_⟩
  refine WT.eff 10 [false] rfl (by kernel_rfl) (by kernel_rfl) (eff_app0 (bytes := 8) h rfl rfl (h.readsTo CT) Tryz.underlying43 rfl rfl rfl rfl rfl (by omega) (by omega) cV_one) rfl rfl ?_
  rintro _ w ⟨a34, c34, rfl, h⟩
  refine ⟨trivial, ?_⟩
  refine WT.pure 13 rfl (by kernel_rfl) (fun w' => (run_indexAddrArr Tryz.underlying101 Tryz.sizeOf43 rfl rfl (by omega) (by omega))) rfl rfl (WT.eff 14 [] rfl (by kernel_rfl) (by kernel_rfl) (eff_store (v := .slice a34 (x.codes.drop 1).length c34) (h.fetch (blk bu (rcells bs bt xs) 106)) Tryz.sizeOf43 rfl rfl rfl (rlt (k := 0 + 2 + ((i : Nat) : Int).toNat * 1) hl8 (by simp; omega)) (free0 _)) rfl rfl ?_)
  rintro _ w h
  refine ⟨trivial, ?_⟩
  refine WT.done (by kernel_rfl) (W.seq (W.region (WL.val run_move rfl rfl (WL.eff (eff_call Tryz.call55 (rwrong5_ok h)) rfl rfl ?_))))
  rintro _ w ⟨rfl, h⟩
  refine WL.eff (eff_storeW (vs := [.int .i64 _, .int .i64 _, .int .i64 _, .slice _ _ _, .int .i64 _]) h Tryz.sizeOf36 rfl rfl rfl rfl rfl) rfl rfl ?_
  rintro _ w h
  refine WL.val run_assign rfl rfl (WL.nil (W.ret (bodyQ.rctB (vs := [.int .i64 _, .int .i64 _, .int .i64 _, .slice _ _ _, .int .i64 _]) (v2 := .bool _) h Tryz.results56 Tryz.isAgg36 Tryz.sizeOf36 rfl rfl rfl rfl ?_)))
  have hw := setW (L := L) (TU := 106) (TS := 110) (TT := 128) (bu := bu) (bs := bs) (bt := bt) (u := u) (codes' := x.codes.drop 1) (v' := .slice a34 (x.codes.drop 1).length c34) (n := (x.codes.drop 1).length) (ws := cV (x.codes.drop 1)) hpk hx hxs hok rfl rfl h.to
  have et : (u.guest i).pop = { u.guest i with codes := x.codes.drop 1 } := by unfold Gs.pop; rw [hcd]
  rw [et]
  exact .inl ⟨y, l, hyl, rfl, hw⟩


theorem rin14b_ok {b : Nat} {s : Sp} {pc : PoolK} {at_ n : Int} (h : On W0 (RSpP 110 b pc s :: PoolC pc :: L) w) : Calls Tryz.prog 115 #[.pointer (some ⟨b, 0, none⟩), .int .i64 at_, .int .i64 n] w (Ret fun v w' => ((v = .bool true ∧ inS s at_ n) ∨ (v = .bool false ∧ ¬ inS s at_ n)) ∧ On W0 (RSpP 110 b pc s :: PoolC pc :: L) w') := by
  have ho := openR h
  obtain ⟨bv, mv, m, hpk, h⟩ := ho
  exact (rin14_ok (N := s.N) hpk.1.2.2.1 h).mono fun e w' he => by
    obtain ⟨v, he, hv⟩ := he
    refine ⟨v, he, ?_⟩
    exact ⟨hv.1, closeR hpk hv.2⟩

theorem rblocks_ok {bu : Nat} {u : Un} {pc : PoolK} {kind at_ n key new typ : Int} {force : Bool} {data : List UInt8} {ax : Option Addr} {cx : Nat} (h : On W0 (RefU 106 110 128 bu pc u :: PoolC pc :: L) w) (C : Gives L (Bytes (.slice ax data.length cx) data)) (hd : data.length ≤ 1000000) : Calls Tryz.prog 61 #[.pointer (some ⟨bu, 0, none⟩), (⟨kind, at_, n, data, key, new, typ, force⟩ : Cm).val (.slice ax data.length cx)] w (Ret fun v w' => ∃ pc' s' r dv, runM u.s (⟨kind, at_, n, data, key, new, typ, force⟩ : Cm) = (s', r) ∧ v = r.val dv ∧ subK pc pc' ∧ inB pc' dv r.data ∧ On W0 (RefU 106 110 128 bu pc' (u.setS s') :: PoolC pc' :: L) w') := by
  refine enter Tryz.func61 rfl Tryz.ntmps61 rfl ?_
  have hwf := (RefU_nil h).2.2
  have hN := hwf.2.2.1
  have hmx := maxLen_eq
  have ho := openF h
  obtain ⟨bs, bt, xs, hpk, h⟩ := ho
  have hl8 := xs_len hpk
  refine W.seq (W.region (WL.eff (eff_box (v := .agg _) (l := (⟨kind, at_, n, data, key, new, typ, force⟩ : Cm).cells (.slice ax data.length cx)) h rfl rfl) rfl rfl ?_))
  rintro _ w ⟨b3, rfl, h⟩
  have h : On W0 (blk b3 [.int .i64 kind, .int .i64 at_, .int .i64 n, .slice ax data.length cx, .int .u64 key, .int .u64 new, .int .i64 typ, .bool force] 25 :: _) w := h
  refine WL.eff (eff_alloc h Tryz.zeroValue36 rfl) rfl rfl ?_
  rintro _ w ⟨b4, rfl, h⟩
  refine WL.nil (W.seq (W.seq ?_))
  refine W.draw Tryz.follows h (fun w h => ?_)
  refine WT.pure 0 rfl (by kernel_rfl) (fun w' => run_move) rfl rfl (WT.pure 1 rfl (by kernel_rfl) (fun w' => (run_nilCheck rfl)) rfl rfl (WT.pure 2 rfl (by kernel_rfl) (fun w' => (run_fieldAddr 0 Tryz.underlying106 rfl Tryz.sizeOf96 rfl rfl)) rfl rfl (WT.load1 3 rfl (by kernel_rfl) Tryz.isAgg96 rfl (h.cellB rfl) rfl rfl (WT.pure 4 rfl (by kernel_rfl) (fun w' => (run_fieldAddr 1 Tryz.underlying25 rfl Tryz.sizeOf3 rfl rfl)) rfl rfl (WT.load1 5 rfl (by kernel_rfl) Tryz.isAgg3 rfl (h.cellB rfl) rfl rfl (WT.pure 6 rfl (by kernel_rfl) (fun w' => (run_fieldAddr 2 Tryz.underlying25 rfl Tryz.sizeOf3 rfl rfl)) rfl rfl (WT.load1 7 rfl (by kernel_rfl) Tryz.isAgg3 rfl (h.cellB rfl) rfl rfl ?_)))))))
  refine WT.eff 8 [false, false, false] rfl (by kernel_rfl) (by kernel_rfl) (eff_call Tryz.call115 (rin14b_ok (s := u.s) ((h.fetch (PoolC pc)).fetch (RSpP 110 bs pc u.s)))) rfl rfl ?_
  rintro _ w ⟨hv, h⟩
  rcases hv with ⟨rfl, hin⟩ | ⟨rfl, hin⟩
  all_goals (refine ⟨trivial, ?_⟩)
  ·
   refine WT.pure 9 rfl (by kernel_rfl) (fun w' => (run_not rfl)) rfl rfl (WT.done (by kernel_rfl) (W.condF rfl (W.skip (W.seq (W.seq ?_)))))
   have hin0 := hin
   unfold inS at hin0
   have hp := Int.eq_ofNat_of_zero_le (show 0 ≤ at_ by omega)
   obtain ⟨p, hp⟩ := hp
   subst hp
   have hq := Int.eq_ofNat_of_zero_le (show 0 ≤ n by omega)
   obtain ⟨q, hq⟩ := hq
   subst hq
   refine W.region (WL.val (run_fieldAddr 0 Tryz.underlying25 rfl Tryz.sizeOf3 rfl rfl) rfl rfl (WL.val (run_load1 Tryz.isAgg3 rfl (h.cellB rfl)) rfl rfl (WL.nil (W.block (W.seq (W.region (WL.val (run_eql rfl rfl) rfl rfl ?_)))))))
   refine WL.val run_assign rfl rfl (WL.nil ?_)
   refine W.condIf rfl (fun c9 => ?_) (fun c9 => ?_)
   ·
    refine W.seq ?_
    refine W.draw Tryz.follows h (fun w h => ?_)
    refine WT.pure 0 rfl (by kernel_rfl) (fun w' => run_move) rfl rfl (WT.pure 1 rfl (by kernel_rfl) (fun w' => (run_nilCheck rfl)) rfl rfl (WT.pure 2 rfl (by kernel_rfl) (fun w' => (run_fieldAddr 0 Tryz.underlying106 rfl Tryz.sizeOf96 rfl rfl)) rfl rfl (WT.load1 3 rfl (by kernel_rfl) Tryz.isAgg96 rfl (h.cellB rfl) rfl rfl (WT.pure 4 rfl (by kernel_rfl) (fun w' => (run_fieldAddr 1 Tryz.underlying25 rfl Tryz.sizeOf3 rfl rfl)) rfl rfl (WT.load1 5 rfl (by kernel_rfl) Tryz.isAgg3 rfl (h.cellB rfl) rfl rfl (WT.pure 6 rfl (by kernel_rfl) (fun w' => (run_fieldAddr 2 Tryz.underlying25 rfl Tryz.sizeOf3 rfl rfl)) rfl rfl (WT.load1 7 rfl (by kernel_rfl) Tryz.isAgg3 rfl (h.cellB rfl) rfl rfl ?_)))))))
    refine WT.eff 8 [false, false, false] rfl (by kernel_rfl) (by kernel_rfl) (eff_call Tryz.call116 (rread14_ok (s := u.s) (p := p) (q := q) (by omega) (by omega) ((h.fetch (PoolC pc)).fetch (RSpP 110 bs pc u.s)))) rfl rfl ?_
    rintro _ w ⟨a33, c33, rfl, h⟩
    refine ⟨trivial, ?_⟩
    refine WT.pure 9 rfl (by kernel_rfl) (fun w' => run_move) rfl rfl (WT.pure 10 rfl (by kernel_rfl) (fun w' => (run_extract rfl rfl)) rfl rfl (WT.pure 11 rfl (by kernel_rfl) (fun w' => (run_extract rfl rfl)) rfl rfl (WT.pure 12 rfl (by kernel_rfl) (fun w' => run_assign) rfl rfl (WT.pure 13 rfl (by kernel_rfl) (fun w' => run_assign) rfl rfl (WT.done (by kernel_rfl) (W.seq (W.region ?_)))))))
    refine WL.val run_move rfl rfl (WL.val (run_buildS (pl := [(0, 1), (1, 1), (2, 1), (3, 1), (4, 1)]) (out := [.int .i64 _, .int .i64 _, .int .i64 _, .slice _ _ _, .int .i64 _]) Tryz.underlying36 Tryz.zeroValue36 (fun w => by kernel_rfl) rfl (⟨⟨_, _, rfl, rfl, by decide⟩, trivial⟩) rfl) rfl rfl (WL.eff (eff_storeW (vs := [.int .i64 _, .int .i64 _, .int .i64 _, .slice _ _ _, .int .i64 _]) h Tryz.sizeOf36 rfl rfl rfl rfl rfl) rfl rfl ?_))
    rintro _ w h
    refine WL.nil (W.ret (bodyQ.rcB (vs := [.int .i64 _, .int .i64 _, .int .i64 _, .slice _ _ _, .int .i64 _]) h Tryz.results61 Tryz.isAgg36 Tryz.sizeOf36 rfl rfl rfl ?_))
    have e2 : kind = 2 := c9
    subst e2
    have h := setSp (bu := bu) (u := u) (s' := u.s) hpk subK_refl (((h.fetch (blk bt u.t.cells 128)).fetch (RSpP 110 bs pc u.s)).fetch (blk bu (rcells bs bt xs) 106))
    have hf := finB (L := L) (h.to : On W0 (OwnB (.slice a33 (partS u.s p q).length c33) (partS u.s p q) :: RefU 106 110 128 bu pc (u.setS u.s) :: PoolC pc :: L) _)
    obtain ⟨pc2, hs2, hin2, h⟩ := hf
    exact ⟨pc2, u.s, gave (partS u.s p q), _, runM_read rfl hin, rfl, hs2, hin2, h⟩
   refine W.seq (W.region (WL.val (run_eql rfl rfl) rfl rfl (WL.val run_assign rfl rfl (WL.nil ?_))))
   refine W.condIf rfl (fun c14 => ?_) (fun c14 => ?_)
   ·
    refine W.seq (W.seq (W.region (WL.val (run_fieldAddr 3 Tryz.underlying25 rfl Tryz.sizeOf22 rfl rfl) rfl rfl (WL.val (run_load1 Tryz.isAgg22 rfl (h.cellB rfl)) rfl rfl (WL.val (run_lenSlice Tryz.underlying22 rfl) rfl rfl (WL.val (run_fieldAddr 2 Tryz.underlying25 rfl Tryz.sizeOf3 rfl rfl) rfl rfl (WL.val (run_load1 Tryz.isAgg3 rfl (h.cellB rfl)) rfl rfl ?_)))))))
    refine WL.val (run_mulN (m := q) (n := 8) rfl rfl (by omega)) rfl rfl (WL.val (run_neq rfl rfl) rfl rfl (WL.nil ?_))
    refine W.condIf rfl (fun c16 => ?_) (fun c16 => ?_)
    ·
     refine W.seq (W.region (WL.eff (eff_call Tryz.call55 (rwrong5_ok h)) rfl rfl ?_))
     rintro _ w ⟨rfl, h⟩
     refine WL.eff (eff_storeW (vs := [.int .i64 _, .int .i64 _, .int .i64 _, .slice _ _ _, .int .i64 _]) h Tryz.sizeOf36 rfl rfl rfl rfl rfl) rfl rfl ?_
     rintro _ w h
     refine WL.nil (W.ret (bodyQ.rcB (vs := [.int .i64 _, .int .i64 _, .int .i64 _, .slice _ _ _, .int .i64 _]) h Tryz.results61 Tryz.isAgg36 Tryz.sizeOf36 rfl rfl rfl ?_))
     have e3 : kind = 3 := c14
     subst e3
     have h := setSp (bu := bu) (u := u) (s' := u.s) hpk subK_refl (((h.fetch (blk bt u.t.cells 128)).fetch (RSpP 110 bs pc u.s)).fetch (blk bu (rcells bs bt xs) 106))
     exact ⟨pc, u.s, plain 2 5 9216, .slice none 0 0, (runM_write_no hin (by omega)), rfl, subK_refl, hpk.2.2.2, h.to⟩
    refine W.skip ?_
    refine W.draw Tryz.follows h (fun w h => ?_)
    refine WT.pure 0 rfl (by kernel_rfl) (fun w' => run_move) rfl rfl (WT.pure 1 rfl (by kernel_rfl) (fun w' => (run_nilCheck rfl)) rfl rfl (WT.pure 2 rfl (by kernel_rfl) (fun w' => (run_fieldAddr 0 Tryz.underlying106 rfl Tryz.sizeOf96 rfl rfl)) rfl rfl (WT.load1 3 rfl (by kernel_rfl) Tryz.isAgg96 rfl (h.cellB rfl) rfl rfl (WT.pure 4 rfl (by kernel_rfl) (fun w' => (run_fieldAddr 1 Tryz.underlying25 rfl Tryz.sizeOf3 rfl rfl)) rfl rfl (WT.load1 5 rfl (by kernel_rfl) Tryz.isAgg3 rfl (h.cellB rfl) rfl rfl (WT.pure 6 rfl (by kernel_rfl) (fun w' => (run_fieldAddr 3 Tryz.underlying25 rfl Tryz.sizeOf22 rfl rfl)) rfl rfl (WT.load1 7 rfl (by kernel_rfl) Tryz.isAgg22 rfl (h.cellB rfl) rfl rfl ?_)))))))
    refine WT.eff 8 [false, false, false] rfl (by kernel_rfl) (by kernel_rfl) (eff_call Tryz.call117 (rwrite14_ok (s := u.s) (p := p) (bs := data) (by omega) (by omega) (by omega) ((h.fetch (PoolC pc)).fetch (RSpP 110 bs pc u.s)) (Gives.to C))) rfl rfl ?_
    rintro _ w ⟨pc2, hs2, rfl, h⟩
    refine ⟨trivial, ?_⟩
    refine WT.done (by kernel_rfl) (W.seq (W.region (WL.val (run_buildS (pl := [(0, 1), (1, 1), (2, 1), (3, 1), (4, 1)]) (out := [.int .i64 _, .int .i64 _, .int .i64 _, .slice _ _ _, .int .i64 _]) Tryz.underlying36 Tryz.zeroValue36 (fun w => by kernel_rfl) rfl (trivial) rfl) rfl rfl (WL.eff (eff_storeW (vs := [.int .i64 _, .int .i64 _, .int .i64 _, .slice _ _ _, .int .i64 _]) h Tryz.sizeOf36 rfl rfl rfl rfl rfl) rfl rfl ?_))))
    rintro _ w h
    refine WL.nil (W.ret (bodyQ.rcB (vs := [.int .i64 _, .int .i64 _, .int .i64 _, .slice _ _ _, .int .i64 _]) h Tryz.results61 Tryz.isAgg36 Tryz.sizeOf36 rfl rfl rfl ?_))
    have e3 : kind = 3 := c14
    subst e3
    have h := setSp (bu := bu) (u := u) (s' := (writeS u.s p data)) hpk hs2 (((h.fetch (blk bt u.t.cells 128)).fetch (RSpP 110 bs pc2 (writeS u.s p data))).fetch (blk bu (rcells bs bt xs) 106))
    exact ⟨pc2, (writeS u.s p data), plain 0 0 0, .slice none 0 0, (runM_write hin (by omega)), rfl, hs2, hs2 _ hpk.2.2.2, h.to⟩
   refine W.seq (W.region (WL.val (run_eql rfl rfl) rfl rfl (WL.val run_assign rfl rfl (WL.nil ?_))))
   refine W.condIf rfl (fun c22 => ?_) (fun c22 => ?_)
   ·
    refine W.draw Tryz.follows h (fun w h => ?_)
    refine WT.pure 0 rfl (by kernel_rfl) (fun w' => run_move) rfl rfl (WT.pure 1 rfl (by kernel_rfl) (fun w' => (run_nilCheck rfl)) rfl rfl (WT.pure 2 rfl (by kernel_rfl) (fun w' => (run_fieldAddr 0 Tryz.underlying106 rfl Tryz.sizeOf96 rfl rfl)) rfl rfl (WT.load1 3 rfl (by kernel_rfl) Tryz.isAgg96 rfl (h.cellB rfl) rfl rfl (WT.pure 4 rfl (by kernel_rfl) (fun w' => (run_fieldAddr 1 Tryz.underlying25 rfl Tryz.sizeOf3 rfl rfl)) rfl rfl (WT.load1 5 rfl (by kernel_rfl) Tryz.isAgg3 rfl (h.cellB rfl) rfl rfl (WT.pure 6 rfl (by kernel_rfl) (fun w' => (run_fieldAddr 2 Tryz.underlying25 rfl Tryz.sizeOf3 rfl rfl)) rfl rfl (WT.load1 7 rfl (by kernel_rfl) Tryz.isAgg3 rfl (h.cellB rfl) rfl rfl ?_)))))))
    refine WT.eff 8 [false, false, false] rfl (by kernel_rfl) (by kernel_rfl) (eff_call Tryz.call118 (runmap14_ok (s := u.s) (p := p) (q := q) (by omega) (by omega) ((h.fetch (PoolC pc)).fetch (RSpP 110 bs pc u.s)))) rfl rfl ?_
    rintro _ w ⟨pc2, hs2, rfl, h⟩
    refine ⟨trivial, ?_⟩
    refine WT.done (by kernel_rfl) (W.seq (W.region (WL.val (run_buildS (pl := [(0, 1), (1, 1), (2, 1), (3, 1), (4, 1)]) (out := [.int .i64 _, .int .i64 _, .int .i64 _, .slice _ _ _, .int .i64 _]) Tryz.underlying36 Tryz.zeroValue36 (fun w => by kernel_rfl) rfl (trivial) rfl) rfl rfl (WL.eff (eff_storeW (vs := [.int .i64 _, .int .i64 _, .int .i64 _, .slice _ _ _, .int .i64 _]) h Tryz.sizeOf36 rfl rfl rfl rfl rfl) rfl rfl ?_))))
    rintro _ w h
    refine WL.nil (W.ret (bodyQ.rcB (vs := [.int .i64 _, .int .i64 _, .int .i64 _, .slice _ _ _, .int .i64 _]) h Tryz.results61 Tryz.isAgg36 Tryz.sizeOf36 rfl rfl rfl ?_))
    have e5 : kind = 5 := c22
    subst e5
    have h := setSp (bu := bu) (u := u) (s' := (unmapS u.s p q)) hpk hs2 (((h.fetch (blk bt u.t.cells 128)).fetch (RSpP 110 bs pc2 (unmapS u.s p q))).fetch (blk bu (rcells bs bt xs) 106))
    exact ⟨pc2, (unmapS u.s p q), plain 0 0 0, .slice none 0 0, (runM_unmap rfl hin), rfl, hs2, hs2 _ hpk.2.2.2, h.to⟩
   refine W.seq (W.region (WL.val (run_eql rfl rfl) rfl rfl (WL.val run_assign rfl rfl (WL.nil ?_))))
   refine W.condIf rfl (fun c25 => ?_) (fun c25 => ?_)
   ·
    refine W.seq (W.seq (W.region (WL.val (run_fieldAddr 3 Tryz.underlying25 rfl Tryz.sizeOf22 rfl rfl) rfl rfl (WL.val (run_load1 Tryz.isAgg22 rfl (h.cellB rfl)) rfl rfl (WL.val (run_lenSlice Tryz.underlying22 rfl) rfl rfl (WL.val (run_fieldAddr 2 Tryz.underlying25 rfl Tryz.sizeOf3 rfl rfl) rfl rfl (WL.val (run_load1 Tryz.isAgg3 rfl (h.cellB rfl)) rfl rfl ?_)))))))
    refine WL.val (run_mulN (m := 2) (n := q) rfl rfl (by omega)) rfl rfl (WL.val (run_mulN (m := 2 * q) (n := 8) rfl rfl (by omega)) rfl rfl (WL.val (run_neq rfl rfl) rfl rfl (WL.nil ?_)))
    refine W.condIf rfl (fun c27 => ?_) (fun c27 => ?_)
    ·
     refine W.seq (W.region (WL.eff (eff_call Tryz.call55 (rwrong5_ok h)) rfl rfl ?_))
     rintro _ w ⟨rfl, h⟩
     refine WL.eff (eff_storeW (vs := [.int .i64 _, .int .i64 _, .int .i64 _, .slice _ _ _, .int .i64 _]) h Tryz.sizeOf36 rfl rfl rfl rfl rfl) rfl rfl ?_
     rintro _ w h
     refine WL.nil (W.ret (bodyQ.rcB (vs := [.int .i64 _, .int .i64 _, .int .i64 _, .slice _ _ _, .int .i64 _]) h Tryz.results61 Tryz.isAgg36 Tryz.sizeOf36 rfl rfl rfl ?_))
     have e6 : kind = 6 := c25
     subst e6
     have h := setSp (bu := bu) (u := u) (s' := u.s) hpk subK_refl (((h.fetch (blk bt u.t.cells 128)).fetch (RSpP 110 bs pc u.s)).fetch (blk bu (rcells bs bt xs) 106))
     exact ⟨pc, u.s, plain 2 5 9216, .slice none 0 0, (runM_cmp_no hin (by omega)), rfl, subK_refl, hpk.2.2.2, h.to⟩
    refine W.skip (W.seq ?_)
    refine W.draw Tryz.follows h (fun w h => ?_)
    refine WT.pure 0 rfl (by kernel_rfl) (fun w' => run_move) rfl rfl (WT.pure 1 rfl (by kernel_rfl) (fun w' => (run_nilCheck rfl)) rfl rfl (WT.pure 2 rfl (by kernel_rfl) (fun w' => (run_fieldAddr 0 Tryz.underlying106 rfl Tryz.sizeOf96 rfl rfl)) rfl rfl (WT.load1 3 rfl (by kernel_rfl) Tryz.isAgg96 rfl (h.cellB rfl) rfl rfl (WT.pure 4 rfl (by kernel_rfl) (fun w' => (run_fieldAddr 1 Tryz.underlying25 rfl Tryz.sizeOf3 rfl rfl)) rfl rfl (WT.load1 5 rfl (by kernel_rfl) Tryz.isAgg3 rfl (h.cellB rfl) rfl rfl (WT.pure 6 rfl (by kernel_rfl) (fun w' => (run_fieldAddr 3 Tryz.underlying25 rfl Tryz.sizeOf22 rfl rfl)) rfl rfl (WT.load1 7 rfl (by kernel_rfl) Tryz.isAgg22 rfl (h.cellB rfl) rfl rfl ?_)))))))
    refine WT.eff 8 [false, false, false] rfl (by kernel_rfl) (by kernel_rfl) (eff_call Tryz.call119 (rcompare14_ok (s := u.s) (p := p) (q := q) (bs := data) (by omega) (by omega) (by omega) ((h.fetch (PoolC pc)).fetch (RSpP 110 bs pc u.s)) (Gives.to C))) rfl rfl ?_
    rintro v88 w hv
    rcases hv with ⟨pc2, hs2, hall, rfl, h⟩ | ⟨k, hk, hk1, hk2, rfl, h⟩
    rotate_left
    all_goals (refine ⟨trivial, ?_⟩)
    ·
     refine WT.pure 9 rfl (by kernel_rfl) (fun w' => run_move) rfl rfl (WT.pure 10 rfl (by kernel_rfl) (fun w' => (run_extract rfl rfl)) rfl rfl (WT.pure 11 rfl (by kernel_rfl) (fun w' => (run_extract rfl rfl)) rfl rfl (WT.pure 12 rfl (by kernel_rfl) (fun w' => run_assign) rfl rfl (WT.pure 13 rfl (by kernel_rfl) (fun w' => run_assign) rfl rfl (WT.done (by kernel_rfl) (W.seq (W.region ?_)))))))
     refine WL.val run_move rfl rfl (WL.val (run_geqT rfl rfl (by omega)) rfl rfl (WL.nil (W.condT rfl (W.seq (W.region (WL.val run_move rfl rfl (WL.val (run_buildS (pl := [(0, 1), (1, 1), (2, 1), (3, 1), (4, 1)]) (out := [.int .i64 _, .int .i64 _, .int .i64 _, .slice _ _ _, .int .i64 _]) Tryz.underlying36 Tryz.zeroValue36 (fun w => by kernel_rfl) rfl (⟨⟨_, _, rfl, rfl, by decide⟩, ⟨⟨_, _, rfl, rfl, by decide⟩, ⟨⟨_, _, rfl, rfl, by decide⟩, ⟨⟨_, _, rfl, rfl, by decide⟩, trivial⟩⟩⟩⟩) rfl) rfl rfl ?_)))))))
     refine WL.eff (eff_storeW (vs := [.int .i64 _, .int .i64 _, .int .i64 _, .slice _ _ _, .int .i64 _]) h Tryz.sizeOf36 rfl rfl rfl rfl rfl) rfl rfl ?_
     rintro _ w h
     refine WL.nil (W.ret (bodyQ.rcB (vs := [.int .i64 _, .int .i64 _, .int .i64 _, .slice _ _ _, .int .i64 _]) h Tryz.results61 Tryz.isAgg36 Tryz.sizeOf36 rfl rfl rfl ?_))
     have e6 : kind = 6 := c25
     subst e6
     have h := setSp (bu := bu) (u := u) (s' := u.s) hpk subK_refl (((h.fetch (blk bt u.t.cells 128)).fetch (RSpP 110 bs pc u.s)).fetch (blk bu (rcells bs bt xs) 106))
     exact ⟨pc, u.s, ⟨2, 14, 7424, [], (k : Int)⟩, .slice none 0 0, ((runM_cmp rfl hin (by omega)).trans (cmpM_no hwf (by omega) (by omega) hk hk1 hk2)), rfl, subK_refl, hpk.2.2.2, h.to⟩
    refine WT.pure 9 rfl (by kernel_rfl) (fun w' => run_move) rfl rfl (WT.pure 10 rfl (by kernel_rfl) (fun w' => (run_extract rfl rfl)) rfl rfl (WT.pure 11 rfl (by kernel_rfl) (fun w' => (run_extract rfl rfl)) rfl rfl (WT.pure 12 rfl (by kernel_rfl) (fun w' => run_assign) rfl rfl (WT.pure 13 rfl (by kernel_rfl) (fun w' => run_assign) rfl rfl (WT.done (by kernel_rfl) (W.seq (W.region ?_)))))))
    refine WL.val run_move rfl rfl (WL.val (run_geqF rfl rfl (by decide)) rfl rfl (WL.nil (W.condF rfl (W.skip (W.seq (W.region (WL.val (run_buildS (pl := [(0, 1), (1, 1), (2, 1), (3, 1), (4, 1)]) (out := [.int .i64 _, .int .i64 _, .int .i64 _, .slice _ _ _, .int .i64 _]) Tryz.underlying36 Tryz.zeroValue36 (fun w => by kernel_rfl) rfl (trivial) rfl) rfl rfl ?_)))))))
    refine WL.eff (eff_storeW (vs := [.int .i64 _, .int .i64 _, .int .i64 _, .slice _ _ _, .int .i64 _]) h Tryz.sizeOf36 rfl rfl rfl rfl rfl) rfl rfl ?_
    rintro _ w h
    refine WL.nil (W.ret (bodyQ.rcB (vs := [.int .i64 _, .int .i64 _, .int .i64 _, .slice _ _ _, .int .i64 _]) h Tryz.results61 Tryz.isAgg36 Tryz.sizeOf36 rfl rfl rfl ?_))
    have e6 : kind = 6 := c25
    subst e6
    have h := setSp (bu := bu) (u := u) (s' := (writeS u.s p (data.drop (8 * q)))) hpk hs2 (((h.fetch (blk bt u.t.cells 128)).fetch (RSpP 110 bs pc2 (writeS u.s p (data.drop (8 * q))))).fetch (blk bu (rcells bs bt xs) 106))
    exact ⟨pc2, (writeS u.s p (data.drop (8 * q))), plain 0 0 0, .slice none 0 0, ((runM_cmp rfl hin (by omega)).trans (cmpM_yes hall)), rfl, hs2, hs2 _ hpk.2.2.2, h.to⟩
   refine W.skip (W.seq (W.region (WL.val (run_buildS (pl := [(0, 1), (1, 1), (2, 1), (3, 1), (4, 1)]) (out := [.int .i64 _, .int .i64 _, .int .i64 _, .slice _ _ _, .int .i64 _]) Tryz.underlying36 Tryz.zeroValue36 (fun w => by kernel_rfl) rfl (trivial) rfl) rfl rfl (WL.eff (eff_storeW (vs := [.int .i64 _, .int .i64 _, .int .i64 _, .slice _ _ _, .int .i64 _]) h Tryz.sizeOf36 rfl rfl rfl rfl rfl) rfl rfl ?_))))
   rintro _ w h
   refine WL.nil (W.ret (bodyQ.rcB (vs := [.int .i64 _, .int .i64 _, .int .i64 _, .slice _ _ _, .int .i64 _]) h Tryz.results61 Tryz.isAgg36 Tryz.sizeOf36 rfl rfl rfl ?_))
   have h := setSp (bu := bu) (u := u) (s' := u.s) hpk subK_refl (((h.fetch (blk bt u.t.cells 128)).fetch (RSpP 110 bs pc u.s)).fetch (blk bu (rcells bs bt xs) 106))
   exact ⟨pc, u.s, plain 0 0 0, .slice none 0 0, (runM_else hin c9 c14 c22 c25), rfl, subK_refl, hpk.2.2.2, h.to⟩
  refine WT.pure 9 rfl (by kernel_rfl) (fun w' => (run_not rfl)) rfl rfl (WT.done (by kernel_rfl) (W.condT rfl (W.seq (W.region (WL.eff (eff_call Tryz.call55 (rwrong5_ok h)) rfl rfl ?_)))))
  rintro _ w ⟨rfl, h⟩
  refine WL.eff (eff_storeW (vs := [.int .i64 _, .int .i64 _, .int .i64 _, .slice _ _ _, .int .i64 _]) h Tryz.sizeOf36 rfl rfl rfl rfl rfl) rfl rfl ?_
  rintro _ w h
  refine WL.nil (W.ret (bodyQ.rcB (vs := [.int .i64 _, .int .i64 _, .int .i64 _, .slice _ _ _, .int .i64 _]) h Tryz.results61 Tryz.isAgg36 Tryz.sizeOf36 rfl rfl rfl ?_))
  have h := setSp (bu := bu) (u := u) (s' := u.s) hpk subK_refl (((h.fetch (blk bt u.t.cells 128)).fetch (RSpP 110 bs pc u.s)).fetch (blk bu (rcells bs bt xs) 106))
  exact ⟨pc, u.s, plain 2 5 8448, .slice none 0 0, (runM_out hin), rfl, subK_refl, hpk.2.2.2, h.to⟩

theorem runew_ok {n : Nat} {pc : PoolK} (hn1 : 1 ≤ n) (hn : n ≤ 1024) (h : On W0 (PoolC pc :: L) w) : Calls Tryz.prog 18 #[.int .i64 (n : Int)] w (Ret fun v w' => ∃ pc' bu, subK pc pc' ∧ v = .tuple #[.pointer (some ⟨bu, 0, none⟩), .int .i64 0] ∧ On W0 (RefU 106 110 128 bu pc' (newU n) :: PoolC pc' :: L) w') := by
  refine enter Tryz.func18 rfl Tryz.ntmps18 rfl (W.seq (W.region (WL.val run_assign rfl rfl (WL.val run_assign rfl rfl (WL.nil (W.seq (W.region ?_)))))))
  refine WL.val run_move rfl rfl (WL.eff (eff_call Tryz.call46 (rsnew_ok (n := n) hn1 hn h)) rfl rfl ?_)
  rintro _ w ⟨pc2, b8, hs2, rfl, h⟩
  refine WL.val run_move rfl rfl (WL.val (run_extract rfl rfl) rfl rfl (WL.val (run_extract rfl rfl) rfl rfl (WL.val run_assign rfl rfl (WL.val run_assign rfl rfl (WL.nil (W.seq (W.seq ?_)))))))
  refine W.region (WL.val run_move rfl rfl (WL.val (run_neqF rfl rfl (by decide)) rfl rfl (WL.nil (W.condF rfl (W.skip (W.seq (W.region ?_)))))))
  refine WL.val run_move rfl rfl (WL.eff (eff_call Tryz.call47 (rtnew_ok h)) rfl rfl ?_)
  rintro _ w ⟨b14, rfl, h⟩
  refine WL.val (run_buildS (pl := [(0, 1), (1, 1), (2, 8), (10, 8), (18, 8)]) (out := [.pointer _, .pointer _, .slice _ _ _, .slice _ _ _, .slice _ _ _, .slice _ _ _, .slice _ _ _, .slice _ _ _, .slice _ _ _, .slice _ _ _, .int .u64 _, .int .u64 _, .int .u64 _, .int .u64 _, .int .u64 _, .int .u64 _, .int .u64 _, .int .u64 _, .slice _ _ _, .slice _ _ _, .slice _ _ _, .slice _ _ _, .slice _ _ _, .slice _ _ _, .slice _ _ _, .slice _ _ _]) Tryz.underlying106 Tryz.zeroValue106 (fun w => by kernel_rfl) rfl (⟨⟨_, _, rfl, rfl, by decide⟩, ⟨⟨_, _, rfl, rfl, by decide⟩, trivial⟩⟩) rfl) rfl rfl ?_
  refine WL.eff (eff_box (v := .agg _) (l := [.pointer _, .pointer _, .slice _ _ _, .slice _ _ _, .slice _ _ _, .slice _ _ _, .slice _ _ _, .slice _ _ _, .slice _ _ _, .slice _ _ _, .int .u64 _, .int .u64 _, .int .u64 _, .int .u64 _, .int .u64 _, .int .u64 _, .int .u64 _, .int .u64 _, .slice _ _ _, .slice _ _ _, .slice _ _ _, .slice _ _ _, .slice _ _ _, .slice _ _ _, .slice _ _ _, .slice _ _ _]) h rfl rfl) rfl rfl ?_
  rintro _ w ⟨b16, rfl, h⟩
  refine WL.val run_assign rfl rfl (WL.val run_assign rfl rfl (WL.nil (W.ret (bodyQ.r2 (v1 := .pointer _) (v2 := .int .i64 _) Tryz.results18 rfl rfl ?_))))
  have h : On W0 (blk b16 (rcells b8 b14 (List.replicate 8 zRX)) 106 :: _) w := h
  have h1 := On.toPoolC (show On W0 (Own 1 (.slice none 0 0) 0 [] :: PoolC pc2 :: RSpP 110 b8 pc2 (newS n) :: blk b14 newT.cells 128 :: blk b16 (rcells b8 b14 (List.replicate 8 zRX)) 106 :: L) _ from (h.ownEmpty 1 none).to)
  have h2 := On.toPoolC (h1.ownEmpty 6 none)
  have h3 := RSpP_more (pc' := (6, .slice none 0 0, 0, []) :: (1, .slice none 0 0, 0, []) :: pc2) (subK_cons.trans subK_cons) (h2.fetch (RSpP 110 b8 pc2 (newS n)))
  refine ⟨_, b16, hs2.trans (subK_cons.trans subK_cons), rfl, closeF (u := newU n) (xs := List.replicate 8 zRX) ⟨by rw [List.map_replicate]; rfl, by show (List.replicate 8 _).length = 8; rw [List.length_replicate], fun y hy => ?_, List.mem_cons_of_mem _ (List.mem_cons_self ..)⟩ (((h3.fetch (blk b14 newT.cells 128)).fetch (RSpP 110 b8 ((6, .slice none 0 0, 0, []) :: (1, .slice none 0 0, 0, []) :: pc2) (newS n))).fetch (blk b16 (rcells b8 b14 (List.replicate 8 zRX)) 106))⟩
  rw [List.mem_replicate] at hy
  obtain ⟨_, rfl⟩ := hy
  exact ⟨List.mem_cons_of_mem _ (List.mem_cons_self ..), List.mem_cons_self .., fun d hd => by cases hd⟩

end Go.Proofs.YtdpakoefdpmebaaGreat
