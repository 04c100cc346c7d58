/-
  The document's unit: the unit's parts: the contracts. Lines of walks printed by a program of the prover's.
-/
import Derived.Test.YtjbgiingimhnnaaGreatUnitTwinsFQ4
import Derived.Test.YtjbgiingimhnnaaGreatUnitTwinsFQ3
namespace Go.Proofs.YtjbgiingimhnnaaGreat
open Go.Proofs.Tryz
open Go Go.Sl Go.Sl.BitM Go.Sl.SpM Go.Sl.RsM Go.Sl.ByM Go.Sl.UnM
set_option linter.unusedVariables false
set_option linter.unusedSimpArgs false
set_option maxHeartbeats 1000000
set_option maxRecDepth 8000
variable {W0 w : World} {L F : List HProp}
theorem rnote_ok {bu i : Nat} {u : Un} {pc : PoolK} {z : Int} (hi : i < 8) (hsm : (u.guest i).codes.length ≤ 1000000) (h : On W0 (RefU 89 94 137 bu pc u :: PoolC pc :: L) w) : Calls Tryz.prog 98 #[.pointer (some ⟨bu, 0, none⟩), .int .i64 (i : Int), .int .i64 z] w (Ret fun v w' => ∃ pc', subK pc pc' ∧ On W0 (RefU 89 94 137 bu pc' (u.tell i z) :: PoolC pc' :: L) w') := by
  refine enter func98 rfl ntmps98 rfl ?_
  have hmx := maxLen_eq
  have ho := openF h
  obtain ⟨bs, bt, xs, hpk, h⟩ := ho
  have hl8 := xs_len hpk
  have hr := rx_of hpk hi
  obtain ⟨x, hx, hxs, hok⟩ := hr
  have hcd : x.codes = (u.guest i).codes := congrArg Gs.codes hxs
  have CW : Gives (PoolC pc :: L) (Cells 1 x.wv x.codes.length (cV x.codes)) := Gives.poolC hok.1
  have fW := (h.readsTo CW).form
  obtain ⟨aw, cw, hwv, hw1, hw2, _⟩ := fW
  have hgw := rget_w (bs := bs) (bt := bt) hl8 hx
  rw [hwv] at hgw CW
  rw [← hcd] at hsm
  refine W.seq (W.seq (W.region (WL.val run_assign rfl rfl (WL.nil (W.block ?_)))))
  refine W.loop (fun (k : Nat) env w => k ≤ x.codes.length ∧ ∃ j, env = mkE j [(0, .pointer (some ⟨bu, 0, none⟩)), (1, .int .i64 (i : Int)), (2, .int .i64 z), (6, .int .i64 (k : Int))] ∧ (∀ q, q < k → x.codes[q]? ≠ some z) ∧ On W0 (blk bu (rcells bs bt xs) 89 :: RSpP 94 bs pc u.s :: blk bt u.t.cells 137 :: PoolC pc :: L) w) (fun k => x.codes.length - k) (0) ?_ ?_
  · exact ⟨Nat.zero_le _, _, mkE_of ⟨rfl, rfl, rfl, rfl, trivial⟩, (fun q hq => by omega), h⟩
  rintro k env w ⟨hk, j, rfl, hno, h⟩
  refine W.seq (W.seq (W.region (WL.val run_move rfl rfl (WL.val run_move rfl rfl (WL.val run_move rfl rfl (WL.val (run_nilCheck rfl) rfl rfl (WL.val (run_fieldAddr 2 underlying89 rfl sizeOf84 rfl rfl) rfl rfl ?_)))))))
  refine WL.val (run_indexAddrArr underlying84 sizeOf62 rfl rfl (by omega) (by omega)) rfl rfl (WL.val (run_load1 isAgg62 rfl (h.cellB hgw)) rfl rfl (WL.val (run_lenSlice underlying62 rfl) rfl rfl (WL.val (run_lss rfl rfl) rfl rfl (WL.nil ?_))))
  refine W.condIf rfl (fun c4 => ?_) (fun c4 => ?_)
  ·
   refine W.skip (W.seq ?_)
   have hkl : k < x.codes.length := by omega
   have hy : ∃ y, x.codes[k]? = some y := ⟨x.codes[k]'(by omega), by simp⟩
   obtain ⟨y, hy⟩ := hy
   have CC := h.readsTo CW
   have ha := CC.addr (by omega)
   obtain ⟨bx, ox, hax⟩ := ha
   have hgw2 := hgw
   rw [hax] at hgw2 CC
   refine W.block (W.seq (W.region (WL.val run_move rfl rfl (WL.val run_move rfl rfl (WL.val (run_nilCheck rfl) rfl rfl (WL.val (run_fieldAddr 2 underlying89 rfl sizeOf84 rfl rfl) rfl rfl (WL.val (run_indexAddrArr underlying84 sizeOf62 rfl rfl (by omega) (by omega)) rfl rfl ?_)))))))
   refine WL.val (run_load1 isAgg62 rfl (h.cellB hgw2)) rfl rfl (WL.val run_move rfl rfl (WL.val (run_indexAddr underlying62 sizeOf3 rfl rfl (by omega) (by omega)) rfl rfl (WL.val (run_load1 isAgg3 rfl (CC.elem (i := k) (vs := [.int .i64 y]) hkl (cV_get hy) 0 _ rfl)) rfl rfl (WL.val run_move rfl rfl (WL.val (run_eql rfl rfl) rfl rfl (WL.nil ?_))))))
   refine W.condIf rfl (fun c9 => ?_) (fun c9 => ?_)
   ·
    refine W.ret (bodyQ.r0 results98 ?_)
    rw [tell_same hpk.2.1 hi (by rw [← hcd]; have e : y = z := c9; rw [← e]; exact List.mem_of_getElem? hy)]
    exact ⟨pc, subK_refl, closeF (bu := bu) (u := u) hpk ((((h.fetch (PoolC pc)).fetch (blk bt u.t.cells 137)).fetch (RSpP 94 bs pc u.s)).fetch (blk bu (rcells bs bt xs) 89))⟩
   refine W.skip (W.region (WL.val run_move rfl rfl (WL.val (run_incN rfl rfl (by omega)) rfl rfl (WL.val run_assign rfl rfl (WL.nil ?_)))))
   exact ⟨k + 1, ⟨by omega, _, mkE_of ⟨rfl, rfl, rfl, rfl, trivial⟩, (fun q hq => by
     by_cases hqk : q = k
     · subst hqk; rw [hy]; intro e; simp only [Option.some.injEq] at e; exact c9 e
     · exact hno q (by omega)), h⟩, by show x.codes.length - (k + 1) < x.codes.length - k; omega⟩
  refine W.exit ?_
  have hnin : z ∉ x.codes := fun hm => by
    have ob_ := List.getElem?_of_mem hm
    obtain ⟨q, hq⟩ := ob_
    exact hno q (by have := (List.getElem?_eq_some_iff.1 hq).1; omega) hq
  refine W.draw Tryz.follows h (fun w h => ?_)
  refine WT.pure 0 rfl (by kernel_rfl) (fun w' => run_move) rfl rfl (WT.pure 1 rfl (by kernel_rfl) (fun w' => run_move) rfl rfl (WT.pure 3 rfl (by kernel_rfl) (fun w' => run_move) rfl rfl (WT.pure 4 rfl (by kernel_rfl) (fun w' => run_move) rfl rfl (WT.pure 5 rfl (by kernel_rfl) (fun w' => (run_nilCheck rfl)) rfl rfl (WT.pure 6 rfl (by kernel_rfl) (fun w' => (run_fieldAddr 2 underlying89 rfl sizeOf84 rfl rfl)) rfl rfl (WT.pure 7 rfl (by kernel_rfl) (fun w' => (run_indexAddrArr underlying84 sizeOf62 rfl rfl (by omega) (by omega))) rfl rfl (WT.load1 8 rfl (by kernel_rfl) isAgg62 rfl (h.cellB hgw) rfl rfl ?_)))))))
  refine WT.pure 10 rfl (by kernel_rfl) (fun w' => run_move) rfl rfl (WT.pure 13 rfl (by kernel_rfl) (fun w' => (run_nilCheck rfl)) rfl rfl (WT.pure 14 rfl (by kernel_rfl) (fun w' => (run_fieldAddr 2 underlying89 rfl sizeOf84 rfl rfl)) rfl rfl ?_))
  -- SEVERAL MAY COME UP: [(2, 'buildSlice []int 0[]'), (11, 'buildSlice []int 1[0:t39]')]
  refine WT.two 2 11 (by kernel_rfl) ?_ ?_
  ·
   refine WT.opOf 2 [true] rfl (by kernel_rfl) (eff_mkSlice (zl := []) (out := []) h underlying62 sizeOf3 zeroValue3 (by decide) (by simp) rfl rfl (by simp) (trivial) rfl rfl (by simp [maxLen])) rfl rfl ?_
   rintro _ w ⟨b31, rfl, h⟩
   refine ⟨⟨h.cellB hgw, trivial⟩, ?_⟩
   -- SEVERAL MAY COME UP: [(9, ' append(t31, t37)'), (11, 'buildSlice []int 1[0:t39]')]
   refine WT.two 9 11 (by kernel_rfl) ?_ ?_
   ·
    refine WT.opOf 9 [false] rfl (by kernel_rfl) (eff_app0 (bytes := 8) h rfl rfl (h.readsTo CW) underlying62 rfl rfl rfl rfl rfl (by omega) (by omega) cV_one) rfl rfl ?_
    rintro _ w ⟨a38, c38, rfl, h⟩
    refine ⟨trivial, ?_⟩
    refine WT.eff 11 [] rfl (by kernel_rfl) (by kernel_rfl) (eff_mkSlice (zl := [.int .i64 0]) (out := [.int .i64 _]) h underlying62 sizeOf3 zeroValue3 (by decide) (by kernel_rfl) rfl rfl (by simp) (⟨⟨_, _, rfl, rfl, by decide⟩, trivial⟩) rfl rfl (by simp [maxLen])) rfl rfl ?_
    rintro _ w ⟨b40, rfl, h⟩
    refine ⟨trivial, ?_⟩
    refine WT.eff 12 [] rfl (by kernel_rfl) (by kernel_rfl) (eff_app (c2 := 1) (bytes := 8) (h.fetch (Own 1 (.slice a38 x.codes.length c38) x.codes.length (cV x.codes))) rfl rfl (h.cellsO (v := .slice (some ⟨b40, 0, none⟩) 1 1)) underlying62 rfl rfl rfl rfl rfl (by omega) (by omega) (by simp [Value.oneCell'])) rfl rfl ?_
    rintro _ w ⟨a41, c41, rfl, h⟩
    refine ⟨trivial, ?_⟩
    refine WT.pure 15 rfl (by kernel_rfl) (fun w' => (run_indexAddrArr underlying84 sizeOf62 rfl rfl (by omega) (by omega))) rfl rfl (WT.eff 16 [] rfl (by kernel_rfl) (by kernel_rfl) (eff_store (v := .slice a41 (x.codes.length + 1) c41) (h.fetch (blk bu (rcells bs bt xs) 89)) sizeOf62 rfl rfl rfl (rlt (k := 0 + 2 + ((i : Nat) : Int).toNat * 1) hl8 (by simp; omega)) (free0 _)) rfl rfl ?_)
    rintro _ w h
    refine ⟨trivial, ?_⟩
    refine WT.done (by kernel_rfl) (bodyQ.fall (bodyQ.r0 results98 ?_))
    have hw := setW (L := L) (TU := 89) (TS := 94) (TT := 137) (bu := bu) (bs := bs) (bt := bt) (u := u) (codes' := x.codes ++ [z]) (v' := .slice a41 (x.codes.length + 1) c41) (n := x.codes.length + 1) (ws := cV x.codes ++ [.int .i64 z]) hpk hx hxs hok (by rw [List.length_append]; rfl) (by simp [cV]) h.to
    have et : u.tell i z = u.putG i { u.guest i with codes := x.codes ++ [z] } := by
      unfold Un.tell Gs.tell tellM
      rw [if_neg (by rw [← hcd]; exact hnin), hcd]
    rw [et]
    exact hw
   refine WT.opOf 11 [true] rfl (by kernel_rfl) (eff_mkSlice (zl := [.int .i64 0]) (out := [.int .i64 _]) h underlying62 sizeOf3 zeroValue3 (by decide) (by kernel_rfl) rfl rfl (by simp) (⟨⟨_, _, rfl, rfl, by decide⟩, trivial⟩) rfl rfl (by simp [maxLen])) rfl rfl ?_
   rintro _ w ⟨b40, rfl, h⟩
   refine ⟨⟨h.cellB hgw, trivial⟩, ?_⟩
   refine WT.eff 9 [false] rfl (by kernel_rfl) (by kernel_rfl) (eff_app0 (bytes := 8) h rfl rfl (h.readsTo CW) underlying62 rfl rfl rfl rfl rfl (by omega) (by omega) cV_one) rfl rfl ?_
   rintro _ w ⟨a38, c38, rfl, h⟩
   refine ⟨trivial, ?_⟩
   refine WT.eff 12 [] rfl (by kernel_rfl) (by kernel_rfl) (eff_app (c2 := 1) (bytes := 8) (h.fetch (Own 1 (.slice a38 x.codes.length c38) x.codes.length (cV x.codes))) rfl rfl (h.cellsO (v := .slice (some ⟨b40, 0, none⟩) 1 1)) underlying62 rfl rfl rfl rfl rfl (by omega) (by omega) (by simp [Value.oneCell'])) rfl rfl ?_
   rintro _ w ⟨a41, c41, rfl, h⟩
   refine ⟨trivial, ?_⟩
   refine WT.pure 15 rfl (by kernel_rfl) (fun w' => (run_indexAddrArr underlying84 sizeOf62 rfl rfl (by omega) (by omega))) rfl rfl (WT.eff 16 [] rfl (by kernel_rfl) (by kernel_rfl) (eff_store (v := .slice a41 (x.codes.length + 1) c41) (h.fetch (blk bu (rcells bs bt xs) 89)) sizeOf62 rfl rfl rfl (rlt (k := 0 + 2 + ((i : Nat) : Int).toNat * 1) hl8 (by simp; omega)) (free0 _)) rfl rfl ?_)
   rintro _ w h
   refine ⟨trivial, ?_⟩
   refine WT.done (by kernel_rfl) (bodyQ.fall (bodyQ.r0 results98 ?_))
   have hw := setW (L := L) (TU := 89) (TS := 94) (TT := 137) (bu := bu) (bs := bs) (bt := bt) (u := u) (codes' := x.codes ++ [z]) (v' := .slice a41 (x.codes.length + 1) c41) (n := x.codes.length + 1) (ws := cV x.codes ++ [.int .i64 z]) hpk hx hxs hok (by rw [List.length_append]; rfl) (by simp [cV]) h.to
   have et : u.tell i z = u.putG i { u.guest i with codes := x.codes ++ [z] } := by
     unfold Un.tell Gs.tell tellM
     rw [if_neg (by rw [← hcd]; exact hnin), hcd]
   rw [et]
   exact hw
  refine WT.opOf 11 [true] rfl (by kernel_rfl) (eff_mkSlice (zl := [.int .i64 0]) (out := [.int .i64 _]) h underlying62 sizeOf3 zeroValue3 (by decide) (by kernel_rfl) rfl rfl (by simp) (⟨⟨_, _, rfl, rfl, by decide⟩, trivial⟩) rfl rfl (by simp [maxLen])) rfl rfl ?_
  rintro _ w ⟨b40, rfl, h⟩
  refine ⟨⟨h.cellB hgw, trivial⟩, ?_⟩
  refine WT.eff 2 [true] rfl (by kernel_rfl) (by kernel_rfl) (eff_mkSlice (zl := []) (out := []) h underlying62 sizeOf3 zeroValue3 (by decide) (by simp) rfl rfl (by simp) (trivial) rfl rfl (by simp [maxLen])) rfl rfl ?_
  rintro _ w ⟨b31, rfl, h⟩
  refine ⟨⟨h.cellB hgw, trivial⟩, ?_⟩
  refine WT.eff 9 [false] rfl (by kernel_rfl) (by kernel_rfl) (eff_app0 (bytes := 8) h rfl rfl (h.readsTo CW) underlying62 rfl rfl rfl rfl rfl (by omega) (by omega) cV_one) rfl rfl ?_
  rintro _ w ⟨a38, c38, rfl, h⟩
  refine ⟨trivial, ?_⟩
  refine WT.eff 12 [] rfl (by kernel_rfl) (by kernel_rfl) (eff_app (c2 := 1) (bytes := 8) (h.fetch (Own 1 (.slice a38 x.codes.length c38) x.codes.length (cV x.codes))) rfl rfl (h.cellsO (v := .slice (some ⟨b40, 0, none⟩) 1 1)) underlying62 rfl rfl rfl rfl rfl (by omega) (by omega) (by simp [Value.oneCell'])) rfl rfl ?_
  rintro _ w ⟨a41, c41, rfl, h⟩
  refine ⟨trivial, ?_⟩
  refine WT.pure 15 rfl (by kernel_rfl) (fun w' => (run_indexAddrArr underlying84 sizeOf62 rfl rfl (by omega) (by omega))) rfl rfl (WT.eff 16 [] rfl (by kernel_rfl) (by kernel_rfl) (eff_store (v := .slice a41 (x.codes.length + 1) c41) (h.fetch (blk bu (rcells bs bt xs) 89)) sizeOf62 rfl rfl rfl (rlt (k := 0 + 2 + ((i : Nat) : Int).toNat * 1) hl8 (by simp; omega)) (free0 _)) rfl rfl ?_)
  rintro _ w h
  refine ⟨trivial, ?_⟩
  refine WT.done (by kernel_rfl) (bodyQ.fall (bodyQ.r0 results98 ?_))
  have hw := setW (L := L) (TU := 89) (TS := 94) (TT := 137) (bu := bu) (bs := bs) (bt := bt) (u := u) (codes' := x.codes ++ [z]) (v' := .slice a41 (x.codes.length + 1) c41) (n := x.codes.length + 1) (ws := cV x.codes ++ [.int .i64 z]) hpk hx hxs hok (by rw [List.length_append]; rfl) (by simp [cV]) h.to
  have et : u.tell i z = u.putG i { u.guest i with codes := x.codes ++ [z] } := by
    unfold Un.tell Gs.tell tellM
    rw [if_neg (by rw [← hcd]; exact hnin), hcd]
  rw [et]
  exact hw
theorem rnotes_ok {bu : Nat} {u : Un} {pc : PoolK} {l : List Nat} {code : Int} {a : Option Addr} {c : Nat} (hl8 : l.length ≤ 8) (hlt : ∀ j ∈ l, j < 8) (hsm : small 999000 u) (h : On W0 (Own 2 (.slice a l.length c) l.length (notesV code l) :: RefU 89 94 137 bu pc u :: PoolC pc :: L) w) : Calls Tryz.prog 89 #[.pointer (some ⟨bu, 0, none⟩), .slice a l.length c] w (Ret fun v w' => ∃ pc', subK pc pc' ∧ On W0 (RefU 89 94 137 bu pc' (notM u code l) :: PoolC pc' :: L) w') := by
  refine enter func89 rfl ntmps89 rfl ?_
  have hmx := maxLen_eq
  have hg8 := (RefU_nil (h.fetch (RefU 89 94 137 bu pc u))).2.1
  refine W.seq (W.region (WL.val run_assign rfl rfl (WL.nil (W.block ?_))))
  refine W.loop (fun (k : Nat) env w => k ≤ l.length ∧ ∃ (j : Env) (pq : PoolK), env = mkE j [(0, .pointer (some ⟨bu, 0, none⟩)), (1, .slice a l.length c), (4, .int .i64 (k : Int))] ∧ subK pc pq ∧ On W0 (RefU 89 94 137 bu pq (notM u code (l.take k)) :: PoolC pq :: Own 2 (.slice a l.length c) l.length (notesV code l) :: L) w) (fun k => l.length - k) (0) ?_ ?_
  · have h : On W0 (RefU 89 94 137 bu pc (notM u code (l.take 0)) :: _) w := h.fetch (RefU 89 94 137 bu pc u)
    exact ⟨Nat.zero_le _, _, pc, mkE_of ⟨rfl, rfl, rfl, trivial⟩, subK_refl, h.to⟩
  rintro k env w ⟨hk, j, pq, rfl, hsq, h⟩
  refine W.seq (W.seq (W.region (WL.val run_move rfl rfl (WL.val run_move rfl rfl (WL.val (run_lenSlice underlying141 rfl) rfl rfl (WL.val (run_lss rfl rfl) rfl rfl (WL.nil ?_)))))))
  refine W.condIf rfl (fun c4 => ?_) (fun c4 => ?_)
  ·
   refine W.skip (W.seq ?_)
   have hkl : k < l.length := by omega
   have hn : ∃ n, l[k]? = some n := ⟨l[k]'(by omega), by simp⟩
   obtain ⟨n, hn⟩ := hn
   have hn8 := hlt n (List.mem_of_getElem? hn)
   have h := h.fetch (Own 2 (.slice a l.length c) l.length (notesV code l))
   have ha := Own.addr h (by omega)
   obtain ⟨bn, on, hal⟩ := ha
   subst hal
   have hcl : ((notM u code (l.take k)).guest n).codes.length ≤ 1000000 := by
     have h1 := notM_clen (code := code) hn8 (l.take k) hg8
     have h2 := hsm n hn8
     rw [List.length_take] at h1
     exact Nat.le_trans h1 (by omega)
   refine W.block ?_
   refine W.draw Tryz.follows h (fun w h => ?_)
   refine WT.pure 0 rfl (by kernel_rfl) (fun w' => run_move) rfl rfl (WT.pure 1 rfl (by kernel_rfl) (fun w' => run_move) rfl rfl (WT.pure 2 rfl (by kernel_rfl) (fun w' => run_move) rfl rfl (WT.pure 3 rfl (by kernel_rfl) (fun w' => (run_indexAddr underlying141 sizeOf179 rfl rfl (by omega) (by omega))) rfl rfl (WT.pure 4 rfl (by kernel_rfl) (fun w' => (run_fieldAddr 0 underlying179 rfl sizeOf3 rfl rfl)) rfl rfl (WT.load1 5 rfl (by kernel_rfl) isAgg3 rfl ((h.cellsO (v := .slice (some ⟨bn, on, none⟩) l.length c)).elem (i := k) (vs := noteV code n) hkl (drop_flatMap (noteV code) 2 (noteV_length code) l _ _ hn) 0 _ rfl) rfl rfl (WT.pure 6 rfl (by kernel_rfl) (fun w' => run_move) rfl rfl (WT.pure 7 rfl (by kernel_rfl) (fun w' => run_move) rfl rfl ?_)))))))
   refine WT.pure 8 rfl (by kernel_rfl) (fun w' => (run_indexAddr underlying141 sizeOf179 rfl rfl (by omega) (by omega))) rfl rfl (WT.pure 9 rfl (by kernel_rfl) (fun w' => (run_fieldAddr 1 underlying179 rfl sizeOf3 rfl rfl)) rfl rfl (WT.load1 10 rfl (by kernel_rfl) isAgg3 rfl ((h.cellsO (v := .slice (some ⟨bn, on, none⟩) l.length c)).elem (i := k) (vs := noteV code n) hkl (drop_flatMap (noteV code) 2 (noteV_length code) l _ _ hn) 1 _ rfl) rfl rfl (WT.eff 11 [false, false] rfl (by kernel_rfl) (by kernel_rfl) (eff_call call98 (rnote_ok (i := n) (z := code) (u := notM u code (l.take k)) (pc := pq) hn8 hcl ((h.fetch (PoolC pq)).fetch (RefU 89 94 137 bu pq (notM u code (l.take k)))))) rfl rfl ?_)))
   rintro _ w ⟨pr, hsr, h⟩
   rw [notM_take hn] at h
   refine ⟨trivial, ?_⟩
   refine WT.done (by kernel_rfl) (W.region (WL.val run_move rfl rfl (WL.val (run_incN rfl rfl (by omega)) rfl rfl (WL.val run_assign rfl rfl (WL.nil ?_)))))
   exact ⟨k + 1, ⟨by omega, _, pr, mkE_of ⟨rfl, rfl, rfl, trivial⟩, hsq.trans hsr, h.to⟩, by show l.length - (k + 1) < l.length - k; omega⟩
  refine W.exit (bodyQ.fall (bodyQ.r0 results89 ?_))
  have ob_ : k = l.length := by omega
  obtain rfl := ob_
  rw [List.take_length] at h
  exact ⟨pq, hsq, h.to⟩
theorem rpop_ok {bu i : Nat} {u : Un} {pc : PoolK} (hi : i < 8) (hsm : (u.guest i).codes.length ≤ 1000000) (h : On W0 (RefU 89 94 137 bu pc u :: PoolC pc :: L) w) : Calls Tryz.prog 82 #[.pointer (some ⟨bu, 0, none⟩), .int .i64 (i : Int)] w (Ret fun v w' => (∃ x l, (u.guest i).codes = x :: l ∧ v = .tuple #[(plain 2 6 x).val (.slice none 0 0), .bool true] ∧ ∃ pc', subK pc pc' ∧ On W0 (RefU 89 94 137 bu pc' (u.putG i (u.guest i).pop) :: PoolC pc' :: L) w') ∨ ((u.guest i).codes = [] ∧ v = .tuple #[(plain 0 0 0).val (.slice none 0 0), .bool false] ∧ On W0 (RefU 89 94 137 bu pc u :: PoolC pc :: L) w')) := by
  refine enter func82 rfl ntmps82 rfl ?_
  have hmx := maxLen_eq
  have ho := openF h
  obtain ⟨bs, bt, xs, hpk, h⟩ := ho
  have hl8 := xs_len hpk
  have hr := rx_of hpk hi
  obtain ⟨x, hx, hxs, hok⟩ := hr
  have hcd : x.codes = (u.guest i).codes := congrArg Gs.codes hxs
  have CW : Gives (PoolC pc :: L) (Cells 1 x.wv x.codes.length (cV x.codes)) := Gives.poolC hok.1
  have fW := (h.readsTo CW).form
  obtain ⟨aw, cw, hwv, hw1, hw2, _⟩ := fW
  have hgw := rget_w (bs := bs) (bt := bt) hl8 hx
  rw [hwv] at hgw CW
  rw [← hcd] at hsm
  rw [← hcd]
  refine W.seq (W.region (WL.eff (eff_alloc h zeroValue36 rfl) rfl rfl ?_))
  rintro _ w ⟨b4, rfl, h⟩
  refine WL.val run_assign rfl rfl (WL.nil (W.seq (W.seq (W.region (WL.val run_move rfl rfl (WL.val run_move rfl rfl (WL.val (run_nilCheck rfl) rfl rfl ?_)))))))
  refine WL.val (run_fieldAddr 2 underlying89 rfl sizeOf84 rfl rfl) rfl rfl (WL.val (run_indexAddrArr underlying84 sizeOf62 rfl rfl (by omega) (by omega)) rfl rfl (WL.val (run_load1 isAgg62 rfl (h.cellB hgw)) rfl rfl (WL.val (run_lenSlice underlying62 rfl) rfl rfl (WL.val (run_eql rfl rfl) rfl rfl (WL.nil ?_)))))
  refine W.condIf rfl (fun c2 => ?_) (fun c2 => ?_)
  ·
   refine W.seq (W.region (WL.val (run_buildS (pl := [(0, 1), (1, 1), (2, 1), (3, 1), (4, 1)]) (out := [.int .i64 _, .int .i64 _, .int .i64 _, .slice _ _ _, .int .i64 _]) underlying36 zeroValue36 (fun w => by kernel_rfl) rfl (trivial) rfl) rfl rfl (WL.eff (eff_storeW (vs := [.int .i64 _, .int .i64 _, .int .i64 _, .slice _ _ _, .int .i64 _]) h sizeOf36 rfl rfl rfl rfl rfl) rfl rfl ?_)))
   rintro _ w h
   refine WL.val run_assign rfl rfl (WL.nil (W.ret (bodyQ.rctB (vs := [.int .i64 _, .int .i64 _, .int .i64 _, .slice _ _ _, .int .i64 _]) (v2 := .bool _) h results82 isAgg36 sizeOf36 rfl rfl rfl rfl ?_)))
   exact .inr ⟨List.eq_nil_of_length_eq_zero (by omega), rfl, (closeF (bu := bu) (u := u) hpk ((((h.fetch (PoolC pc)).fetch (blk bt u.t.cells 137)).fetch (RSpP 94 bs pc u.s)).fetch (blk bu (rcells bs bt xs) 89))).to⟩
  refine W.skip (W.seq ?_)
  have hyl : ∃ y l, x.codes = y :: l := by
    cases hc : x.codes with
    | nil => rw [hc] at c2; exact absurd rfl c2
    | cons y l => exact ⟨y, l, rfl⟩
  obtain ⟨y, l, hyl⟩ := hyl
  have hy0 : x.codes[0]? = some y := by rw [hyl]; rfl
  have hpos : 0 < x.codes.length := by rw [hyl]; exact Nat.succ_pos _
  have CC := h.readsTo CW
  have ha := CC.addr hpos
  obtain ⟨bx, ox, hax⟩ := ha
  have hgw2 := hgw
  rw [hax] at hgw2 CC
  have hcc := cut_codes (k := 1) (l := x.codes) (a := aw) (c := cw) CW hpos hw1
  obtain ⟨a', c', hcut, CT⟩ := hcc
  have hd1 : (x.codes.drop 1).length ≤ 1000000 := by rw [List.length_drop]; omega
  refine W.region (WL.val run_move rfl rfl (WL.val run_move rfl rfl (WL.val (run_nilCheck rfl) rfl rfl (WL.val (run_fieldAddr 2 underlying89 rfl sizeOf84 rfl rfl) rfl rfl (WL.val (run_indexAddrArr underlying84 sizeOf62 rfl rfl (by omega) (by omega)) rfl rfl (WL.val (run_load1 isAgg62 rfl (h.cellB hgw2)) rfl rfl (WL.val (run_indexAddr underlying62 sizeOf3 rfl rfl (by omega) (by omega)) rfl rfl ?_)))))))
  refine WL.val (run_load1 isAgg3 rfl (CC.elem (i := 0) (vs := [.int .i64 y]) hpos (cV_get hy0) 0 _ rfl)) rfl rfl (WL.val run_assign rfl rfl (WL.nil (W.seq ?_)))
  refine W.draw Tryz.follows h (fun w h => ?_)
  refine WT.pure 0 rfl (by kernel_rfl) (fun w' => run_move) rfl rfl (WT.pure 1 rfl (by kernel_rfl) (fun w' => run_move) rfl rfl (WT.pure 3 rfl (by kernel_rfl) (fun w' => run_move) rfl rfl (WT.pure 4 rfl (by kernel_rfl) (fun w' => run_move) rfl rfl (WT.pure 5 rfl (by kernel_rfl) (fun w' => (run_nilCheck rfl)) rfl rfl (WT.pure 6 rfl (by kernel_rfl) (fun w' => (run_fieldAddr 2 underlying89 rfl sizeOf84 rfl rfl)) rfl rfl (WT.pure 7 rfl (by kernel_rfl) (fun w' => (run_indexAddrArr underlying84 sizeOf62 rfl rfl (by omega) (by omega))) rfl rfl (WT.load1 8 rfl (by kernel_rfl) isAgg62 rfl (h.cellB hgw) rfl rfl ?_)))))))
  refine WT.pure 9 rfl (by kernel_rfl) (fun w' => (run_cutLV (l := 1) underlying62 sizeOf3 rfl rfl hpos hcut)) rfl rfl (WT.pure 11 rfl (by kernel_rfl) (fun w' => (run_nilCheck rfl)) rfl rfl (WT.pure 12 rfl (by kernel_rfl) (fun w' => (run_fieldAddr 2 underlying89 rfl sizeOf84 rfl rfl)) rfl rfl (WT.eff 2 [true] rfl (by kernel_rfl) (by kernel_rfl) (eff_mkSlice (zl := []) (out := []) h underlying62 sizeOf3 zeroValue3 (by decide) (by simp) rfl rfl (by simp) (trivial) rfl rfl (by simp [maxLen])) rfl rfl ?_)))
  rintro _ w ⟨b26, rfl, h⟩
  refine ⟨⟨h.cellB hgw, trivial⟩, ?_⟩
  refine WT.eff 10 [false] rfl (by kernel_rfl) (by kernel_rfl) (eff_app0 (bytes := 8) h rfl rfl (h.readsTo CT) underlying62 rfl rfl rfl rfl rfl (by omega) (by omega) cV_one) rfl rfl ?_
  rintro _ w ⟨a34, c34, rfl, h⟩
  refine ⟨trivial, ?_⟩
  refine WT.pure 13 rfl (by kernel_rfl) (fun w' => (run_indexAddrArr underlying84 sizeOf62 rfl rfl (by omega) (by omega))) rfl rfl (WT.eff 14 [] rfl (by kernel_rfl) (by kernel_rfl) (eff_store (v := .slice a34 (x.codes.drop 1).length c34) (h.fetch (blk bu (rcells bs bt xs) 89)) sizeOf62 rfl rfl rfl (rlt (k := 0 + 2 + ((i : Nat) : Int).toNat * 1) hl8 (by simp; omega)) (free0 _)) rfl rfl ?_)
  rintro _ w h
  refine ⟨trivial, ?_⟩
  refine WT.done (by kernel_rfl) (W.seq (W.region (WL.val run_move rfl rfl (WL.eff (eff_call call81 (rwrong5_ok h)) rfl rfl ?_))))
  rintro _ w ⟨rfl, h⟩
  refine WL.eff (eff_storeW (vs := [.int .i64 _, .int .i64 _, .int .i64 _, .slice _ _ _, .int .i64 _]) h sizeOf36 rfl rfl rfl rfl rfl) rfl rfl ?_
  rintro _ w h
  refine WL.val run_assign rfl rfl (WL.nil (W.ret (bodyQ.rctB (vs := [.int .i64 _, .int .i64 _, .int .i64 _, .slice _ _ _, .int .i64 _]) (v2 := .bool _) h results82 isAgg36 sizeOf36 rfl rfl rfl rfl ?_)))
  have hw := setW (L := L) (TU := 89) (TS := 94) (TT := 137) (bu := bu) (bs := bs) (bt := bt) (u := u) (codes' := x.codes.drop 1) (v' := .slice a34 (x.codes.drop 1).length c34) (n := (x.codes.drop 1).length) (ws := cV (x.codes.drop 1)) hpk hx hxs hok rfl rfl h.to
  have et : (u.guest i).pop = { u.guest i with codes := x.codes.drop 1 } := by unfold Gs.pop; rw [hcd]
  rw [et]
  exact .inl ⟨y, l, hyl, rfl, hw⟩
theorem rin14b_ok {b : Nat} {s : Sp} {pc : PoolK} {at_ n : Int} (h : On W0 (RSpP 94 b pc s :: PoolC pc :: L) w) : Calls Tryz.prog 124 #[.pointer (some ⟨b, 0, none⟩), .int .i64 at_, .int .i64 n] w (Ret fun v w' => ((v = .bool true ∧ inS s at_ n) ∨ (v = .bool false ∧ ¬ inS s at_ n)) ∧ On W0 (RSpP 94 b pc s :: PoolC pc :: L) w') := by
  have ho := openR h
  obtain ⟨bv, mv, m, hpk, h⟩ := ho
  exact (rin14_ok (N := s.N) hpk.1.2.2.1 h).mono fun e w' he => by
    obtain ⟨v, he, hv⟩ := he
    refine ⟨v, he, ?_⟩
    exact ⟨hv.1, closeR hpk hv.2⟩
theorem rblocks_ok {bu : Nat} {u : Un} {pc : PoolK} {kind at_ n key new typ : Int} {force : Bool} {data : List UInt8} {ax : Option Addr} {cx : Nat} (h : On W0 (RefU 89 94 137 bu pc u :: PoolC pc :: L) w) (C : Gives L (Bytes (.slice ax data.length cx) data)) (hd : data.length ≤ 1000000) : Calls Tryz.prog 87 #[.pointer (some ⟨bu, 0, none⟩), (⟨kind, at_, n, data, key, new, typ, force⟩ : Cm).val (.slice ax data.length cx)] w (Ret fun v w' => ∃ pc' s' r dv, runM u.s (⟨kind, at_, n, data, key, new, typ, force⟩ : Cm) = (s', r) ∧ v = r.val dv ∧ subK pc pc' ∧ inB pc' dv r.data ∧ On W0 (RefU 89 94 137 bu pc' (u.setS s') :: PoolC pc' :: L) w') := by
  refine enter func87 rfl ntmps87 rfl ?_
  have hwf := (RefU_nil h).2.2
  have hN := hwf.2.2.1
  have hmx := maxLen_eq
  have ho := openF h
  obtain ⟨bs, bt, xs, hpk, h⟩ := ho
  have hl8 := xs_len hpk
  refine W.seq (W.region (WL.eff (eff_box (v := .agg _) (l := (⟨kind, at_, n, data, key, new, typ, force⟩ : Cm).cells (.slice ax data.length cx)) h rfl rfl) rfl rfl ?_))
  rintro _ w ⟨b3, rfl, h⟩
  have h : On W0 (blk b3 [.int .i64 kind, .int .i64 at_, .int .i64 n, .slice ax data.length cx, .int .u64 key, .int .u64 new, .int .i64 typ, .bool force] 25 :: _) w := h
  refine WL.eff (eff_alloc h zeroValue36 rfl) rfl rfl ?_
  rintro _ w ⟨b4, rfl, h⟩
  refine WL.nil (W.seq (W.seq ?_))
  refine W.draw Tryz.follows h (fun w h => ?_)
  refine WT.pure 0 rfl (by kernel_rfl) (fun w' => run_move) rfl rfl (WT.pure 1 rfl (by kernel_rfl) (fun w' => (run_nilCheck rfl)) rfl rfl (WT.pure 2 rfl (by kernel_rfl) (fun w' => (run_fieldAddr 0 underlying89 rfl sizeOf79 rfl rfl)) rfl rfl (WT.load1 3 rfl (by kernel_rfl) isAgg79 rfl (h.cellB rfl) rfl rfl (WT.pure 4 rfl (by kernel_rfl) (fun w' => (run_fieldAddr 1 underlying25 rfl sizeOf3 rfl rfl)) rfl rfl (WT.load1 5 rfl (by kernel_rfl) isAgg3 rfl (h.cellB rfl) rfl rfl (WT.pure 6 rfl (by kernel_rfl) (fun w' => (run_fieldAddr 2 underlying25 rfl sizeOf3 rfl rfl)) rfl rfl (WT.load1 7 rfl (by kernel_rfl) isAgg3 rfl (h.cellB rfl) rfl rfl ?_)))))))
  refine WT.eff 8 [false, false, false] rfl (by kernel_rfl) (by kernel_rfl) (eff_call call124 (rin14b_ok (s := u.s) ((h.fetch (PoolC pc)).fetch (RSpP 94 bs pc u.s)))) rfl rfl ?_
  rintro _ w ⟨hv, h⟩
  rcases hv with ⟨rfl, hin⟩ | ⟨rfl, hin⟩
  all_goals (refine ⟨trivial, ?_⟩)
  ·
   refine WT.pure 9 rfl (by kernel_rfl) (fun w' => (run_not rfl)) rfl rfl (WT.done (by kernel_rfl) (W.condF rfl (W.skip (W.seq (W.seq ?_)))))
   have hin0 := hin
   unfold inS at hin0
   have hp := Int.eq_ofNat_of_zero_le (show 0 ≤ at_ by omega)
   obtain ⟨p, hp⟩ := hp
   subst hp
   have hq := Int.eq_ofNat_of_zero_le (show 0 ≤ n by omega)
   obtain ⟨q, hq⟩ := hq
   subst hq
   refine W.region (WL.val (run_fieldAddr 0 underlying25 rfl sizeOf3 rfl rfl) rfl rfl (WL.val (run_load1 isAgg3 rfl (h.cellB rfl)) rfl rfl (WL.nil (W.block (W.seq (W.region (WL.val (run_eql rfl rfl) rfl rfl ?_)))))))
   refine WL.val run_assign rfl rfl (WL.nil ?_)
   refine W.condIf rfl (fun c9 => ?_) (fun c9 => ?_)
   ·
    refine W.seq ?_
    refine W.draw Tryz.follows h (fun w h => ?_)
    refine WT.pure 0 rfl (by kernel_rfl) (fun w' => run_move) rfl rfl (WT.pure 1 rfl (by kernel_rfl) (fun w' => (run_nilCheck rfl)) rfl rfl (WT.pure 2 rfl (by kernel_rfl) (fun w' => (run_fieldAddr 0 underlying89 rfl sizeOf79 rfl rfl)) rfl rfl (WT.load1 3 rfl (by kernel_rfl) isAgg79 rfl (h.cellB rfl) rfl rfl (WT.pure 4 rfl (by kernel_rfl) (fun w' => (run_fieldAddr 1 underlying25 rfl sizeOf3 rfl rfl)) rfl rfl (WT.load1 5 rfl (by kernel_rfl) isAgg3 rfl (h.cellB rfl) rfl rfl (WT.pure 6 rfl (by kernel_rfl) (fun w' => (run_fieldAddr 2 underlying25 rfl sizeOf3 rfl rfl)) rfl rfl (WT.load1 7 rfl (by kernel_rfl) isAgg3 rfl (h.cellB rfl) rfl rfl ?_)))))))
    refine WT.eff 8 [false, false, false] rfl (by kernel_rfl) (by kernel_rfl) (eff_call call125 (rread14_ok (s := u.s) (p := p) (q := q) (by omega) (by omega) ((h.fetch (PoolC pc)).fetch (RSpP 94 bs pc u.s)))) rfl rfl ?_
    rintro _ w ⟨a33, c33, rfl, h⟩
    refine ⟨trivial, ?_⟩
    refine WT.pure 9 rfl (by kernel_rfl) (fun w' => run_move) rfl rfl (WT.pure 10 rfl (by kernel_rfl) (fun w' => (run_extract rfl rfl)) rfl rfl (WT.pure 11 rfl (by kernel_rfl) (fun w' => (run_extract rfl rfl)) rfl rfl (WT.pure 12 rfl (by kernel_rfl) (fun w' => run_assign) rfl rfl (WT.pure 13 rfl (by kernel_rfl) (fun w' => run_assign) rfl rfl (WT.done (by kernel_rfl) (W.seq (W.region ?_)))))))
    refine WL.val run_move rfl rfl (WL.val (run_buildS (pl := [(0, 1), (1, 1), (2, 1), (3, 1), (4, 1)]) (out := [.int .i64 _, .int .i64 _, .int .i64 _, .slice _ _ _, .int .i64 _]) underlying36 zeroValue36 (fun w => by kernel_rfl) rfl (⟨⟨_, _, rfl, rfl, by decide⟩, trivial⟩) rfl) rfl rfl (WL.eff (eff_storeW (vs := [.int .i64 _, .int .i64 _, .int .i64 _, .slice _ _ _, .int .i64 _]) h sizeOf36 rfl rfl rfl rfl rfl) rfl rfl ?_))
    rintro _ w h
    refine WL.nil (W.ret (bodyQ.rcB (vs := [.int .i64 _, .int .i64 _, .int .i64 _, .slice _ _ _, .int .i64 _]) h results87 isAgg36 sizeOf36 rfl rfl rfl ?_))
    have e2 : kind = 2 := c9
    subst e2
    have h := setSp (bu := bu) (u := u) (s' := u.s) hpk subK_refl (((h.fetch (blk bt u.t.cells 137)).fetch (RSpP 94 bs pc u.s)).fetch (blk bu (rcells bs bt xs) 89))
    have hf := finB (L := L) (h.to : On W0 (OwnB (.slice a33 (partS u.s p q).length c33) (partS u.s p q) :: RefU 89 94 137 bu pc (u.setS u.s) :: PoolC pc :: L) _)
    obtain ⟨pc2, hs2, hin2, h⟩ := hf
    exact ⟨pc2, u.s, gave (partS u.s p q), _, runM_read rfl hin, rfl, hs2, hin2, h⟩
   refine W.seq (W.region (WL.val (run_eql rfl rfl) rfl rfl (WL.val run_assign rfl rfl (WL.nil ?_))))
   refine W.condIf rfl (fun c14 => ?_) (fun c14 => ?_)
   ·
    refine W.seq (W.seq (W.region (WL.val (run_fieldAddr 3 underlying25 rfl sizeOf22 rfl rfl) rfl rfl (WL.val (run_load1 isAgg22 rfl (h.cellB rfl)) rfl rfl (WL.val (run_lenSlice underlying22 rfl) rfl rfl (WL.val (run_fieldAddr 2 underlying25 rfl sizeOf3 rfl rfl) rfl rfl (WL.val (run_load1 isAgg3 rfl (h.cellB rfl)) rfl rfl ?_)))))))
    refine WL.val (run_mulN (m := q) (n := 8) rfl rfl (by omega)) rfl rfl (WL.val (run_neq rfl rfl) rfl rfl (WL.nil ?_))
    refine W.condIf rfl (fun c16 => ?_) (fun c16 => ?_)
    ·
     refine W.seq (W.region (WL.eff (eff_call call81 (rwrong5_ok h)) rfl rfl ?_))
     rintro _ w ⟨rfl, h⟩
     refine WL.eff (eff_storeW (vs := [.int .i64 _, .int .i64 _, .int .i64 _, .slice _ _ _, .int .i64 _]) h sizeOf36 rfl rfl rfl rfl rfl) rfl rfl ?_
     rintro _ w h
     refine WL.nil (W.ret (bodyQ.rcB (vs := [.int .i64 _, .int .i64 _, .int .i64 _, .slice _ _ _, .int .i64 _]) h results87 isAgg36 sizeOf36 rfl rfl rfl ?_))
     have e3 : kind = 3 := c14
     subst e3
     have h := setSp (bu := bu) (u := u) (s' := u.s) hpk subK_refl (((h.fetch (blk bt u.t.cells 137)).fetch (RSpP 94 bs pc u.s)).fetch (blk bu (rcells bs bt xs) 89))
     exact ⟨pc, u.s, plain 2 5 9216, .slice none 0 0, (runM_write_no hin (by omega)), rfl, subK_refl, hpk.2.2.2, h.to⟩
    refine W.skip ?_
    refine W.draw Tryz.follows h (fun w h => ?_)
    refine WT.pure 0 rfl (by kernel_rfl) (fun w' => run_move) rfl rfl (WT.pure 1 rfl (by kernel_rfl) (fun w' => (run_nilCheck rfl)) rfl rfl (WT.pure 2 rfl (by kernel_rfl) (fun w' => (run_fieldAddr 0 underlying89 rfl sizeOf79 rfl rfl)) rfl rfl (WT.load1 3 rfl (by kernel_rfl) isAgg79 rfl (h.cellB rfl) rfl rfl (WT.pure 4 rfl (by kernel_rfl) (fun w' => (run_fieldAddr 1 underlying25 rfl sizeOf3 rfl rfl)) rfl rfl (WT.load1 5 rfl (by kernel_rfl) isAgg3 rfl (h.cellB rfl) rfl rfl (WT.pure 6 rfl (by kernel_rfl) (fun w' => (run_fieldAddr 3 underlying25 rfl sizeOf22 rfl rfl)) rfl rfl (WT.load1 7 rfl (by kernel_rfl) isAgg22 rfl (h.cellB rfl) rfl rfl ?_)))))))
    refine WT.eff 8 [false, false, false] rfl (by kernel_rfl) (by kernel_rfl) (eff_call call126 (rwrite14_ok (s := u.s) (p := p) (bs := data) (by omega) (by omega) (by omega) ((h.fetch (PoolC pc)).fetch (RSpP 94 bs pc u.s)) (Gives.to C))) rfl rfl ?_
    rintro _ w ⟨pc2, hs2, rfl, h⟩
    refine ⟨trivial, ?_⟩
    refine WT.done (by kernel_rfl) (W.seq (W.region (WL.val (run_buildS (pl := [(0, 1), (1, 1), (2, 1), (3, 1), (4, 1)]) (out := [.int .i64 _, .int .i64 _, .int .i64 _, .slice _ _ _, .int .i64 _]) underlying36 zeroValue36 (fun w => by kernel_rfl) rfl (trivial) rfl) rfl rfl (WL.eff (eff_storeW (vs := [.int .i64 _, .int .i64 _, .int .i64 _, .slice _ _ _, .int .i64 _]) h sizeOf36 rfl rfl rfl rfl rfl) rfl rfl ?_))))
    rintro _ w h
    refine WL.nil (W.ret (bodyQ.rcB (vs := [.int .i64 _, .int .i64 _, .int .i64 _, .slice _ _ _, .int .i64 _]) h results87 isAgg36 sizeOf36 rfl rfl rfl ?_))
    have e3 : kind = 3 := c14
    subst e3
    have h := setSp (bu := bu) (u := u) (s' := (writeS u.s p data)) hpk hs2 (((h.fetch (blk bt u.t.cells 137)).fetch (RSpP 94 bs pc2 (writeS u.s p data))).fetch (blk bu (rcells bs bt xs) 89))
    exact ⟨pc2, (writeS u.s p data), plain 0 0 0, .slice none 0 0, (runM_write hin (by omega)), rfl, hs2, hs2 _ hpk.2.2.2, h.to⟩
   refine W.seq (W.region (WL.val (run_eql rfl rfl) rfl rfl (WL.val run_assign rfl rfl (WL.nil ?_))))
   refine W.condIf rfl (fun c22 => ?_) (fun c22 => ?_)
   ·
    refine W.draw Tryz.follows h (fun w h => ?_)
    refine WT.pure 0 rfl (by kernel_rfl) (fun w' => run_move) rfl rfl (WT.pure 1 rfl (by kernel_rfl) (fun w' => (run_nilCheck rfl)) rfl rfl (WT.pure 2 rfl (by kernel_rfl) (fun w' => (run_fieldAddr 0 underlying89 rfl sizeOf79 rfl rfl)) rfl rfl (WT.load1 3 rfl (by kernel_rfl) isAgg79 rfl (h.cellB rfl) rfl rfl (WT.pure 4 rfl (by kernel_rfl) (fun w' => (run_fieldAddr 1 underlying25 rfl sizeOf3 rfl rfl)) rfl rfl (WT.load1 5 rfl (by kernel_rfl) isAgg3 rfl (h.cellB rfl) rfl rfl (WT.pure 6 rfl (by kernel_rfl) (fun w' => (run_fieldAddr 2 underlying25 rfl sizeOf3 rfl rfl)) rfl rfl (WT.load1 7 rfl (by kernel_rfl) isAgg3 rfl (h.cellB rfl) rfl rfl ?_)))))))
    refine WT.eff 8 [false, false, false] rfl (by kernel_rfl) (by kernel_rfl) (eff_call call127 (runmap14_ok (s := u.s) (p := p) (q := q) (by omega) (by omega) ((h.fetch (PoolC pc)).fetch (RSpP 94 bs pc u.s)))) rfl rfl ?_
    rintro _ w ⟨pc2, hs2, rfl, h⟩
    refine ⟨trivial, ?_⟩
    refine WT.done (by kernel_rfl) (W.seq (W.region (WL.val (run_buildS (pl := [(0, 1), (1, 1), (2, 1), (3, 1), (4, 1)]) (out := [.int .i64 _, .int .i64 _, .int .i64 _, .slice _ _ _, .int .i64 _]) underlying36 zeroValue36 (fun w => by kernel_rfl) rfl (trivial) rfl) rfl rfl (WL.eff (eff_storeW (vs := [.int .i64 _, .int .i64 _, .int .i64 _, .slice _ _ _, .int .i64 _]) h sizeOf36 rfl rfl rfl rfl rfl) rfl rfl ?_))))
    rintro _ w h
    refine WL.nil (W.ret (bodyQ.rcB (vs := [.int .i64 _, .int .i64 _, .int .i64 _, .slice _ _ _, .int .i64 _]) h results87 isAgg36 sizeOf36 rfl rfl rfl ?_))
    have e5 : kind = 5 := c22
    subst e5
    have h := setSp (bu := bu) (u := u) (s' := (unmapS u.s p q)) hpk hs2 (((h.fetch (blk bt u.t.cells 137)).fetch (RSpP 94 bs pc2 (unmapS u.s p q))).fetch (blk bu (rcells bs bt xs) 89))
    exact ⟨pc2, (unmapS u.s p q), plain 0 0 0, .slice none 0 0, (runM_unmap rfl hin), rfl, hs2, hs2 _ hpk.2.2.2, h.to⟩
   refine W.seq (W.region (WL.val (run_eql rfl rfl) rfl rfl (WL.val run_assign rfl rfl (WL.nil ?_))))
   refine W.condIf rfl (fun c25 => ?_) (fun c25 => ?_)
   ·
    refine W.seq (W.seq (W.region (WL.val (run_fieldAddr 3 underlying25 rfl sizeOf22 rfl rfl) rfl rfl (WL.val (run_load1 isAgg22 rfl (h.cellB rfl)) rfl rfl (WL.val (run_lenSlice underlying22 rfl) rfl rfl (WL.val (run_fieldAddr 2 underlying25 rfl sizeOf3 rfl rfl) rfl rfl (WL.val (run_load1 isAgg3 rfl (h.cellB rfl)) rfl rfl ?_)))))))
    refine WL.val (run_mulN (m := 2) (n := q) rfl rfl (by omega)) rfl rfl (WL.val (run_mulN (m := 2 * q) (n := 8) rfl rfl (by omega)) rfl rfl (WL.val (run_neq rfl rfl) rfl rfl (WL.nil ?_)))
    refine W.condIf rfl (fun c27 => ?_) (fun c27 => ?_)
    ·
     refine W.seq (W.region (WL.eff (eff_call call81 (rwrong5_ok h)) rfl rfl ?_))
     rintro _ w ⟨rfl, h⟩
     refine WL.eff (eff_storeW (vs := [.int .i64 _, .int .i64 _, .int .i64 _, .slice _ _ _, .int .i64 _]) h sizeOf36 rfl rfl rfl rfl rfl) rfl rfl ?_
     rintro _ w h
     refine WL.nil (W.ret (bodyQ.rcB (vs := [.int .i64 _, .int .i64 _, .int .i64 _, .slice _ _ _, .int .i64 _]) h results87 isAgg36 sizeOf36 rfl rfl rfl ?_))
     have e6 : kind = 6 := c25
     subst e6
     have h := setSp (bu := bu) (u := u) (s' := u.s) hpk subK_refl (((h.fetch (blk bt u.t.cells 137)).fetch (RSpP 94 bs pc u.s)).fetch (blk bu (rcells bs bt xs) 89))
     exact ⟨pc, u.s, plain 2 5 9216, .slice none 0 0, (runM_cmp_no hin (by omega)), rfl, subK_refl, hpk.2.2.2, h.to⟩
    refine W.skip (W.seq ?_)
    refine W.draw Tryz.follows h (fun w h => ?_)
    refine WT.pure 0 rfl (by kernel_rfl) (fun w' => run_move) rfl rfl (WT.pure 1 rfl (by kernel_rfl) (fun w' => (run_nilCheck rfl)) rfl rfl (WT.pure 2 rfl (by kernel_rfl) (fun w' => (run_fieldAddr 0 underlying89 rfl sizeOf79 rfl rfl)) rfl rfl (WT.load1 3 rfl (by kernel_rfl) isAgg79 rfl (h.cellB rfl) rfl rfl (WT.pure 4 rfl (by kernel_rfl) (fun w' => (run_fieldAddr 1 underlying25 rfl sizeOf3 rfl rfl)) rfl rfl (WT.load1 5 rfl (by kernel_rfl) isAgg3 rfl (h.cellB rfl) rfl rfl (WT.pure 6 rfl (by kernel_rfl) (fun w' => (run_fieldAddr 3 underlying25 rfl sizeOf22 rfl rfl)) rfl rfl (WT.load1 7 rfl (by kernel_rfl) isAgg22 rfl (h.cellB rfl) rfl rfl ?_)))))))
    refine WT.eff 8 [false, false, false] rfl (by kernel_rfl) (by kernel_rfl) (eff_call call128 (rcompare14_ok (s := u.s) (p := p) (q := q) (bs := data) (by omega) (by omega) (by omega) ((h.fetch (PoolC pc)).fetch (RSpP 94 bs pc u.s)) (Gives.to C))) rfl rfl ?_
    rintro v88 w hv
    rcases hv with ⟨pc2, hs2, hall, rfl, h⟩ | ⟨k, hk, hk1, hk2, rfl, h⟩
    rotate_left
    all_goals (refine ⟨trivial, ?_⟩)
    ·
     refine WT.pure 9 rfl (by kernel_rfl) (fun w' => run_move) rfl rfl (WT.pure 10 rfl (by kernel_rfl) (fun w' => (run_extract rfl rfl)) rfl rfl (WT.pure 11 rfl (by kernel_rfl) (fun w' => (run_extract rfl rfl)) rfl rfl (WT.pure 12 rfl (by kernel_rfl) (fun w' => run_assign) rfl rfl (WT.pure 13 rfl (by kernel_rfl) (fun w' => run_assign) rfl rfl (WT.done (by kernel_rfl) (W.seq (W.region ?_)))))))
     refine WL.val run_move rfl rfl (WL.val (run_geqT rfl rfl (by omega)) rfl rfl (WL.nil (W.condT rfl (W.seq (W.region (WL.val run_move rfl rfl (WL.val (run_buildS (pl := [(0, 1), (1, 1), (2, 1), (3, 1), (4, 1)]) (out := [.int .i64 _, .int .i64 _, .int .i64 _, .slice _ _ _, .int .i64 _]) underlying36 zeroValue36 (fun w => by kernel_rfl) rfl (⟨⟨_, _, rfl, rfl, by decide⟩, ⟨⟨_, _, rfl, rfl, by decide⟩, ⟨⟨_, _, rfl, rfl, by decide⟩, ⟨⟨_, _, rfl, rfl, by decide⟩, trivial⟩⟩⟩⟩) rfl) rfl rfl ?_)))))))
     refine WL.eff (eff_storeW (vs := [.int .i64 _, .int .i64 _, .int .i64 _, .slice _ _ _, .int .i64 _]) h sizeOf36 rfl rfl rfl rfl rfl) rfl rfl ?_
     rintro _ w h
     refine WL.nil (W.ret (bodyQ.rcB (vs := [.int .i64 _, .int .i64 _, .int .i64 _, .slice _ _ _, .int .i64 _]) h results87 isAgg36 sizeOf36 rfl rfl rfl ?_))
     have e6 : kind = 6 := c25
     subst e6
     have h := setSp (bu := bu) (u := u) (s' := u.s) hpk subK_refl (((h.fetch (blk bt u.t.cells 137)).fetch (RSpP 94 bs pc u.s)).fetch (blk bu (rcells bs bt xs) 89))
     exact ⟨pc, u.s, ⟨2, 14, 7424, [], (k : Int)⟩, .slice none 0 0, ((runM_cmp rfl hin (by omega)).trans (cmpM_no hwf (by omega) (by omega) hk hk1 hk2)), rfl, subK_refl, hpk.2.2.2, h.to⟩
    refine WT.pure 9 rfl (by kernel_rfl) (fun w' => run_move) rfl rfl (WT.pure 10 rfl (by kernel_rfl) (fun w' => (run_extract rfl rfl)) rfl rfl (WT.pure 11 rfl (by kernel_rfl) (fun w' => (run_extract rfl rfl)) rfl rfl (WT.pure 12 rfl (by kernel_rfl) (fun w' => run_assign) rfl rfl (WT.pure 13 rfl (by kernel_rfl) (fun w' => run_assign) rfl rfl (WT.done (by kernel_rfl) (W.seq (W.region ?_)))))))
    refine WL.val run_move rfl rfl (WL.val (run_geqF rfl rfl (by decide)) rfl rfl (WL.nil (W.condF rfl (W.skip (W.seq (W.region (WL.val (run_buildS (pl := [(0, 1), (1, 1), (2, 1), (3, 1), (4, 1)]) (out := [.int .i64 _, .int .i64 _, .int .i64 _, .slice _ _ _, .int .i64 _]) underlying36 zeroValue36 (fun w => by kernel_rfl) rfl (trivial) rfl) rfl rfl ?_)))))))
    refine WL.eff (eff_storeW (vs := [.int .i64 _, .int .i64 _, .int .i64 _, .slice _ _ _, .int .i64 _]) h sizeOf36 rfl rfl rfl rfl rfl) rfl rfl ?_
    rintro _ w h
    refine WL.nil (W.ret (bodyQ.rcB (vs := [.int .i64 _, .int .i64 _, .int .i64 _, .slice _ _ _, .int .i64 _]) h results87 isAgg36 sizeOf36 rfl rfl rfl ?_))
    have e6 : kind = 6 := c25
    subst e6
    have h := setSp (bu := bu) (u := u) (s' := (writeS u.s p (data.drop (8 * q)))) hpk hs2 (((h.fetch (blk bt u.t.cells 137)).fetch (RSpP 94 bs pc2 (writeS u.s p (data.drop (8 * q))))).fetch (blk bu (rcells bs bt xs) 89))
    exact ⟨pc2, (writeS u.s p (data.drop (8 * q))), plain 0 0 0, .slice none 0 0, ((runM_cmp rfl hin (by omega)).trans (cmpM_yes hall)), rfl, hs2, hs2 _ hpk.2.2.2, h.to⟩
   refine W.skip (W.seq (W.region (WL.val (run_buildS (pl := [(0, 1), (1, 1), (2, 1), (3, 1), (4, 1)]) (out := [.int .i64 _, .int .i64 _, .int .i64 _, .slice _ _ _, .int .i64 _]) underlying36 zeroValue36 (fun w => by kernel_rfl) rfl (trivial) rfl) rfl rfl (WL.eff (eff_storeW (vs := [.int .i64 _, .int .i64 _, .int .i64 _, .slice _ _ _, .int .i64 _]) h sizeOf36 rfl rfl rfl rfl rfl) rfl rfl ?_))))
   rintro _ w h
   refine WL.nil (W.ret (bodyQ.rcB (vs := [.int .i64 _, .int .i64 _, .int .i64 _, .slice _ _ _, .int .i64 _]) h results87 isAgg36 sizeOf36 rfl rfl rfl ?_))
   have h := setSp (bu := bu) (u := u) (s' := u.s) hpk subK_refl (((h.fetch (blk bt u.t.cells 137)).fetch (RSpP 94 bs pc u.s)).fetch (blk bu (rcells bs bt xs) 89))
   exact ⟨pc, u.s, plain 0 0 0, .slice none 0 0, (runM_else hin c9 c14 c22 c25), rfl, subK_refl, hpk.2.2.2, h.to⟩
  refine WT.pure 9 rfl (by kernel_rfl) (fun w' => (run_not rfl)) rfl rfl (WT.done (by kernel_rfl) (W.condT rfl (W.seq (W.region (WL.eff (eff_call call81 (rwrong5_ok h)) rfl rfl ?_)))))
  rintro _ w ⟨rfl, h⟩
  refine WL.eff (eff_storeW (vs := [.int .i64 _, .int .i64 _, .int .i64 _, .slice _ _ _, .int .i64 _]) h sizeOf36 rfl rfl rfl rfl rfl) rfl rfl ?_
  rintro _ w h
  refine WL.nil (W.ret (bodyQ.rcB (vs := [.int .i64 _, .int .i64 _, .int .i64 _, .slice _ _ _, .int .i64 _]) h results87 isAgg36 sizeOf36 rfl rfl rfl ?_))
  have h := setSp (bu := bu) (u := u) (s' := u.s) hpk subK_refl (((h.fetch (blk bt u.t.cells 137)).fetch (RSpP 94 bs pc u.s)).fetch (blk bu (rcells bs bt xs) 89))
  exact ⟨pc, u.s, plain 2 5 8448, .slice none 0 0, (runM_out hin), rfl, subK_refl, hpk.2.2.2, h.to⟩
theorem runew_ok {n : Nat} {pc : PoolK} (hn1 : 1 ≤ n) (hn : n ≤ 1024) (h : On W0 (PoolC pc :: L) w) : Calls Tryz.prog 11 #[.int .i64 (n : Int)] w (Ret fun v w' => ∃ pc' bu, subK pc pc' ∧ v = .tuple #[.pointer (some ⟨bu, 0, none⟩), .int .i64 0] ∧ On W0 (RefU 89 94 137 bu pc' (newU n) :: PoolC pc' :: L) w') := by
  refine enter func11 rfl ntmps11 rfl (W.seq (W.region (WL.val run_assign rfl rfl (WL.val run_assign rfl rfl (WL.nil (W.seq (W.region ?_)))))))
  refine WL.val run_move rfl rfl (WL.eff (eff_call call34 (rsnew_ok (n := n) hn1 hn h)) rfl rfl ?_)
  rintro _ w ⟨pc2, b8, hs2, rfl, h⟩
  refine WL.val run_move rfl rfl (WL.val (run_extract rfl rfl) rfl rfl (WL.val (run_extract rfl rfl) rfl rfl (WL.val run_assign rfl rfl (WL.val run_assign rfl rfl (WL.nil (W.seq (W.seq ?_)))))))
  refine W.region (WL.val run_move rfl rfl (WL.val (run_neqF rfl rfl (by decide)) rfl rfl (WL.nil (W.condF rfl (W.skip (W.seq (W.region ?_)))))))
  refine WL.val run_move rfl rfl (WL.eff (eff_call call35 (rtnew_ok h)) rfl rfl ?_)
  rintro _ w ⟨b14, rfl, h⟩
  refine WL.val (run_buildS (pl := [(0, 1), (1, 1), (2, 8), (10, 8), (18, 8)]) (out := [.pointer _, .pointer _, .slice _ _ _, .slice _ _ _, .slice _ _ _, .slice _ _ _, .slice _ _ _, .slice _ _ _, .slice _ _ _, .slice _ _ _, .int .u64 _, .int .u64 _, .int .u64 _, .int .u64 _, .int .u64 _, .int .u64 _, .int .u64 _, .int .u64 _, .slice _ _ _, .slice _ _ _, .slice _ _ _, .slice _ _ _, .slice _ _ _, .slice _ _ _, .slice _ _ _, .slice _ _ _]) underlying89 zeroValue89 (fun w => by kernel_rfl) rfl (⟨⟨_, _, rfl, rfl, by decide⟩, ⟨⟨_, _, rfl, rfl, by decide⟩, trivial⟩⟩) rfl) rfl rfl ?_
  refine WL.eff (eff_box (v := .agg _) (l := [.pointer _, .pointer _, .slice _ _ _, .slice _ _ _, .slice _ _ _, .slice _ _ _, .slice _ _ _, .slice _ _ _, .slice _ _ _, .slice _ _ _, .int .u64 _, .int .u64 _, .int .u64 _, .int .u64 _, .int .u64 _, .int .u64 _, .int .u64 _, .int .u64 _, .slice _ _ _, .slice _ _ _, .slice _ _ _, .slice _ _ _, .slice _ _ _, .slice _ _ _, .slice _ _ _, .slice _ _ _]) h rfl rfl) rfl rfl ?_
  rintro _ w ⟨b16, rfl, h⟩
  refine WL.val run_assign rfl rfl (WL.val run_assign rfl rfl (WL.nil (W.ret (bodyQ.r2 (v1 := .pointer _) (v2 := .int .i64 _) results11 rfl rfl ?_))))
  have h : On W0 (blk b16 (rcells b8 b14 (List.replicate 8 zRX)) 89 :: _) w := h
  have h1 := On.toPoolC (show On W0 (Own 1 (.slice none 0 0) 0 [] :: PoolC pc2 :: RSpP 94 b8 pc2 (newS n) :: blk b14 newT.cells 137 :: blk b16 (rcells b8 b14 (List.replicate 8 zRX)) 89 :: L) _ from (h.ownEmpty 1 none).to)
  have h2 := On.toPoolC (h1.ownEmpty 6 none)
  have h3 := RSpP_more (pc' := (6, .slice none 0 0, 0, []) :: (1, .slice none 0 0, 0, []) :: pc2) (subK_cons.trans subK_cons) (h2.fetch (RSpP 94 b8 pc2 (newS n)))
  refine ⟨_, b16, hs2.trans (subK_cons.trans subK_cons), rfl, closeF (u := newU n) (xs := List.replicate 8 zRX) ⟨by rw [List.map_replicate]; rfl, by show (List.replicate 8 _).length = 8; rw [List.length_replicate], fun y hy => ?_, List.mem_cons_of_mem _ (List.mem_cons_self ..)⟩ (((h3.fetch (blk b14 newT.cells 137)).fetch (RSpP 94 b8 ((6, .slice none 0 0, 0, []) :: (1, .slice none 0 0, 0, []) :: pc2) (newS n))).fetch (blk b16 (rcells b8 b14 (List.replicate 8 zRX)) 89))⟩
  rw [List.mem_replicate] at hy
  obtain ⟨_, rfl⟩ := hy
  exact ⟨List.mem_cons_of_mem _ (List.mem_cons_self ..), List.mem_cons_self .., fun d hd => by cases hd⟩
end Go.Proofs.YtjbgiingimhnnaaGreat
/-
  The document's unit: commands: the contracts. Lines of walks printed by a program of the prover's.
-/
namespace Go.Proofs.YtjbgiingimhnnaaGreat
open Go.Proofs.Tryz
open Go Go.Sl Go.Sl.BitM Go.Sl.SpM Go.Sl.RsM Go.Sl.ByM Go.Sl.UnM
set_option linter.unusedVariables false
set_option linter.unusedSimpArgs false
set_option maxHeartbeats 1000000
set_option maxRecDepth 8000
variable {W0 w : World} {L F : List HProp}
theorem rslice_of {pc : PoolK} {A : HProp} {v : Value} {bs : List UInt8} (h : On W0 (A :: PoolC pc :: L) w) (hm : inB pc v bs) : ∃ a c, v = .slice a bs.length c := by
  have C := h.reads (Gives.poolC (L := L) hm).b
  have hf := C.form
  obtain ⟨a, c, hv, _⟩ := hf
  exact ⟨a, c, hv⟩
theorem rdo_ok {bu : Nat} {u : Un} {pc : PoolK} {hh : Int} {kind at_ n key new typ : Int} {force : Bool} {data : List UInt8} {ax : Option Addr} {cx : Nat} (hsm : small 999000 u) (hgu_ : goodU u) (hcm : okCm (⟨kind, at_, n, data, key, new, typ, force⟩ : Cm)) (h : On W0 (RefU 89 94 137 bu pc u :: PoolC pc :: L) w) (C : Gives L (Bytes (.slice ax data.length cx) data)) (hd : data.length ≤ 1000000) : Calls Tryz.prog 38 #[.pointer (some ⟨bu, 0, none⟩), .int .i64 hh, (⟨kind, at_, n, data, key, new, typ, force⟩ : Cm).val (.slice ax data.length cx)] w (Ret fun v w' => ∃ pc' u' r dv, doM u hh (⟨kind, at_, n, data, key, new, typ, force⟩ : Cm) = (u', r) ∧ v = r.val dv ∧ subK pc pc' ∧ inB pc' dv r.data ∧ On W0 (RefU 89 94 137 bu pc' u' :: PoolC pc' :: L) w') := by
  refine enter func38 rfl ntmps38 rfl ?_
  have hmx := maxLen_eq
  have hu := RefU_nil h
  obtain ⟨hnil, hg8, hwf⟩ := hu
  have hgt := hgu_.1
  have hgok := hgt.1
  have hty6 := goodT_le hgt
  have egen : u.t.gen = ((u.t.gen.toNat : Nat) : Int) := by have := hgok.2; omega
  refine W.seq (W.region (WL.eff (eff_box (v := .agg _) (l := (⟨kind, at_, n, data, key, new, typ, force⟩ : Cm).cells (.slice ax data.length cx)) h rfl rfl) rfl rfl ?_))
  rintro _ w ⟨b5, rfl, h⟩
  have h : On W0 (blk b5 [.int .i64 kind, .int .i64 at_, .int .i64 n, .slice ax data.length cx, .int .u64 key, .int .u64 new, .int .i64 typ, .bool force] 25 :: _) w := h
  refine WL.eff (eff_alloc h zeroValue36 rfl) rfl rfl ?_
  rintro _ w ⟨b6, rfl, h⟩
  refine WL.nil (W.seq (W.seq (W.region (WL.val run_move rfl rfl ?_))))
  refine WL.dec (run_lss rfl rfl) rfl rfl (fun c21 => ?_) (fun c21 => ?_)
  ·
   refine WL.val run_move rfl rfl (WL.skip rfl rfl (WL.skip rfl rfl (WL.val (run_pickT rfl) rfl rfl (WL.val run_move rfl rfl (WL.skip rfl rfl (WL.skip rfl rfl (WL.skip rfl rfl ?_)))))))
   refine WL.val (run_pickT rfl) rfl rfl (WL.val run_move rfl rfl (WL.skip rfl rfl (WL.skip rfl rfl (WL.skip rfl rfl (WL.val (run_pickT rfl) rfl rfl (WL.nil (W.condT rfl ?_)))))))
   refine W.seq (W.region (WL.eff (eff_call call81 (rwrong5_ok h)) rfl rfl ?_))
   rintro _ w ⟨rfl, h⟩
   refine WL.eff (eff_storeW (vs := [.int .i64 _, .int .i64 _, .int .i64 _, .slice _ _ _, .int .i64 _]) h sizeOf36 rfl rfl rfl rfl rfl) rfl rfl ?_
   rintro _ w h
   refine WL.nil (W.ret (bodyQ.rcB (vs := [.int .i64 _, .int .i64 _, .int .i64 _, .slice _ _ _, .int .i64 _]) h results38 isAgg36 sizeOf36 rfl rfl rfl ?_))
   exact ⟨pc, u, plain 2 5 8192, .slice none 0 0, doM_bad (.inl (hostB_no.2 (by omega))), rfl, subK_refl, hnil, h.to⟩
  refine WL.val run_move rfl rfl (WL.val run_move rfl rfl ?_)
  refine WL.dec (run_geq rfl rfl) rfl rfl (fun c24 => ?_) (fun c24 => ?_)
  ·
   refine WL.val (run_pickF rfl) rfl rfl (WL.val run_move rfl rfl (WL.skip rfl rfl (WL.skip rfl rfl (WL.skip rfl rfl (WL.val (run_pickT rfl) rfl rfl (WL.val run_move rfl rfl (WL.skip rfl rfl ?_)))))))
   refine WL.skip rfl rfl (WL.skip rfl rfl (WL.val (run_pickT rfl) rfl rfl (WL.nil (W.condT rfl (W.seq (W.region (WL.eff (eff_call call81 (rwrong5_ok h)) rfl rfl ?_)))))))
   rintro _ w ⟨rfl, h⟩
   refine WL.eff (eff_storeW (vs := [.int .i64 _, .int .i64 _, .int .i64 _, .slice _ _ _, .int .i64 _]) h sizeOf36 rfl rfl rfl rfl rfl) rfl rfl ?_
   rintro _ w h
   refine WL.nil (W.ret (bodyQ.rcB (vs := [.int .i64 _, .int .i64 _, .int .i64 _, .slice _ _ _, .int .i64 _]) h results38 isAgg36 sizeOf36 rfl rfl rfl ?_))
   exact ⟨pc, u, plain 2 5 8192, .slice none 0 0, doM_bad (.inl (hostB_no.2 (by omega))), rfl, subK_refl, hnil, h.to⟩
  refine WL.val (run_pickF rfl) rfl rfl (WL.val run_move rfl rfl (WL.val (run_fieldAddr 0 underlying25 rfl sizeOf3 rfl rfl) rfl rfl (WL.val (run_load1 isAgg3 rfl (h.cellB rfl)) rfl rfl ?_)))
  refine WL.dec (run_lss rfl rfl) rfl rfl (fun c29 => ?_) (fun c29 => ?_)
  ·
   refine WL.val (run_pickF rfl) rfl rfl (WL.val run_move rfl rfl (WL.skip rfl rfl (WL.skip rfl rfl (WL.skip rfl rfl (WL.val (run_pickT rfl) rfl rfl (WL.nil (W.condT rfl ?_)))))))
   refine W.seq (W.region (WL.eff (eff_call call81 (rwrong5_ok h)) rfl rfl ?_))
   rintro _ w ⟨rfl, h⟩
   refine WL.eff (eff_storeW (vs := [.int .i64 _, .int .i64 _, .int .i64 _, .slice _ _ _, .int .i64 _]) h sizeOf36 rfl rfl rfl rfl rfl) rfl rfl ?_
   rintro _ w h
   refine WL.nil (W.ret (bodyQ.rcB (vs := [.int .i64 _, .int .i64 _, .int .i64 _, .slice _ _ _, .int .i64 _]) h results38 isAgg36 sizeOf36 rfl rfl rfl ?_))
   exact ⟨pc, u, plain 2 5 8192, .slice none 0 0, doM_bad (.inr (.inl (show kind < 1 by omega))), rfl, subK_refl, hnil, h.to⟩
  refine WL.val (run_pickF rfl) rfl rfl (WL.val run_move rfl rfl (WL.val (run_fieldAddr 0 underlying25 rfl sizeOf3 rfl rfl) rfl rfl (WL.val (run_load1 isAgg3 rfl (h.cellB rfl)) rfl rfl (WL.val (run_gtr rfl rfl) rfl rfl (WL.val (run_pickF rfl) rfl rfl (WL.nil ?_))))))
  refine W.condIf rfl (fun c2 => ?_) (fun c2 => ?_)
  ·
   refine W.seq (W.region (WL.eff (eff_call call81 (rwrong5_ok h)) rfl rfl ?_))
   rintro _ w ⟨rfl, h⟩
   refine WL.eff (eff_storeW (vs := [.int .i64 _, .int .i64 _, .int .i64 _, .slice _ _ _, .int .i64 _]) h sizeOf36 rfl rfl rfl rfl rfl) rfl rfl ?_
   rintro _ w h
   refine WL.nil (W.ret (bodyQ.rcB (vs := [.int .i64 _, .int .i64 _, .int .i64 _, .slice _ _ _, .int .i64 _]) h results38 isAgg36 sizeOf36 rfl rfl rfl ?_))
   exact ⟨pc, u, plain 2 5 8192, .slice none 0 0, doM_bad (.inr (.inr (show 18 < kind by omega))), rfl, subK_refl, hnil, h.to⟩
  refine W.skip (W.seq (W.seq ?_))
  have hh0 := Int.eq_ofNat_of_zero_le (show 0 ≤ hh by omega)
  obtain ⟨i, hh0⟩ := hh0
  subst hh0
  have hi : i < 8 := by omega
  have hsi := small_le hsm (show 999000 ≤ 1000000 by decide) i hi
  refine W.region (WL.val (run_fieldAddr 0 underlying25 rfl sizeOf3 rfl rfl) rfl rfl (WL.val (run_load1 isAgg3 rfl (h.cellB rfl)) rfl rfl (WL.val (run_eql rfl rfl) rfl rfl (WL.nil ?_))))
  refine W.condIf rfl (fun c7 => ?_) (fun c7 => ?_)
  ·
   refine W.seq (W.region (WL.val run_move rfl rfl (WL.val run_move rfl rfl (WL.eff (eff_call call82 (rpop_ok (i := i) (u := u) hi hsi ((h.fetch (PoolC pc)).fetch (RefU 89 94 137 bu pc u)))) rfl rfl ?_))))
   rintro _ w hv
   rcases hv with ⟨x, l, hcx, rfl, pc2, hs2, h⟩ | ⟨hc0, rfl, h⟩
   ·
    refine WL.val run_move rfl rfl (WL.val (run_extract rfl rfl) rfl rfl (WL.val (run_extract rfl rfl) rfl rfl (WL.eff (eff_alloc h zeroValue36 rfl) rfl rfl ?_)))
    rintro _ w ⟨b7, rfl, h⟩
    refine WL.eff (eff_storeW (vs := [.int .i64 _, .int .i64 _, .int .i64 _, .slice _ _ _, .int .i64 _]) h sizeOf36 rfl rfl rfl rfl rfl) rfl rfl ?_
    rintro _ w h
    refine WL.val run_assign rfl rfl (WL.nil (W.seq ?_))
    have hxc := hgu_.2 i hi x (by rw [hcx]; exact List.mem_cons_self ..)
    have hxn := Int.eq_ofNat_of_zero_le hxc.1
    obtain ⟨xn, hxn⟩ := hxn
    subst hxn
    refine W.region (WL.val (run_loadB (vs := [.int .i64 _, .int .i64 _, .int .i64 _, .slice _ _ _, .int .i64 _]) h isAgg36 sizeOf36 rfl rfl rfl) rfl rfl (WL.eff (eff_call call83 (renc5_ok (s := 2) (k := 6) (c := xn) (by decide) (by omega) h)) rfl rfl ?_))
    rintro _ w ⟨a47, rfl, h⟩
    refine WL.val (run_buildS (pl := [(0, 1), (1, 1), (2, 1), (3, 1), (4, 1)]) (out := [.int .i64 _, .int .i64 _, .int .i64 _, .slice _ _ _, .int .i64 _]) underlying36 zeroValue36 (fun w => by kernel_rfl) rfl (⟨⟨_, _, rfl, rfl, by decide⟩, trivial⟩) rfl) rfl rfl (WL.eff (eff_storeW (vs := [.int .i64 _, .int .i64 _, .int .i64 _, .slice _ _ _, .int .i64 _]) h sizeOf36 rfl rfl rfl rfl rfl) rfl rfl ?_)
    rintro _ w h
    refine WL.nil (W.ret (bodyQ.rcB (vs := [.int .i64 _, .int .i64 _, .int .i64 _, .slice _ _ _, .int .i64 _]) h results38 isAgg36 sizeOf36 rfl rfl rfl ?_))
    have hf := finB (L := L) (a := a47) (c := 18) (ys := senseB 6 xn) (h.to : On W0 (OwnB (.slice a47 (senseB 6 xn).length 18) (senseB 6 xn) :: RefU 89 94 137 bu pc2 (u.putG i (u.guest i).pop) :: PoolC pc2 :: L) _)
    obtain ⟨pc3, hs3, hin3, h⟩ := hf
    exact ⟨pc3, _, gave (senseB 6 xn), _, doM_sense1 (c := (⟨kind, at_, n, data, key, new, typ, force⟩ : Cm)) hi c7 hcx, rfl, hs2.trans hs3, hin3, h⟩
   refine WL.val run_move rfl rfl (WL.val (run_extract rfl rfl) rfl rfl (WL.val (run_extract rfl rfl) rfl rfl (WL.eff (eff_alloc h zeroValue36 rfl) rfl rfl ?_)))
   rintro _ w ⟨b7, rfl, h⟩
   refine WL.eff (eff_storeW (vs := [.int .i64 _, .int .i64 _, .int .i64 _, .slice _ _ _, .int .i64 _]) h sizeOf36 rfl rfl rfl rfl rfl) rfl rfl ?_
   rintro _ w h
   refine WL.val run_assign rfl rfl (WL.nil (W.seq (W.region (WL.val (run_loadB (vs := [.int .i64 _, .int .i64 _, .int .i64 _, .slice _ _ _, .int .i64 _]) h isAgg36 sizeOf36 rfl rfl rfl) rfl rfl (WL.eff (eff_call call83 (renc5_ok (s := 0) (k := 0) (c := 0) (by decide) (by decide) h)) rfl rfl ?_)))))
   rintro _ w ⟨a47, rfl, h⟩
   refine WL.val (run_buildS (pl := [(0, 1), (1, 1), (2, 1), (3, 1), (4, 1)]) (out := [.int .i64 _, .int .i64 _, .int .i64 _, .slice _ _ _, .int .i64 _]) underlying36 zeroValue36 (fun w => by kernel_rfl) rfl (⟨⟨_, _, rfl, rfl, by decide⟩, trivial⟩) rfl) rfl rfl (WL.eff (eff_storeW (vs := [.int .i64 _, .int .i64 _, .int .i64 _, .slice _ _ _, .int .i64 _]) h sizeOf36 rfl rfl rfl rfl rfl) rfl rfl ?_)
   rintro _ w h
   refine WL.nil (W.ret (bodyQ.rcB (vs := [.int .i64 _, .int .i64 _, .int .i64 _, .slice _ _ _, .int .i64 _]) h results38 isAgg36 sizeOf36 rfl rfl rfl ?_))
   have hf := finB (L := L) (a := a47) (c := 18) (ys := senseB 0 0) (h.to : On W0 (OwnB (.slice a47 (senseB 0 0).length 18) (senseB 0 0) :: RefU 89 94 137 bu pc u :: PoolC pc :: L) _)
   obtain ⟨pc2, hs2, hin2, h⟩ := hf
   exact ⟨pc2, u, gave (senseB 0 0), _, doM_sense0 (c := (⟨kind, at_, n, data, key, new, typ, force⟩ : Cm)) hi c7 hc0, rfl, hs2, hin2, h⟩
  refine W.skip (W.seq (W.seq (W.region (WL.val (run_fieldAddr 0 underlying25 rfl sizeOf3 rfl rfl) rfl rfl (WL.val (run_load1 isAgg3 rfl (h.cellB rfl)) rfl rfl (WL.val (run_neq rfl rfl) rfl rfl (WL.nil ?_)))))))
  refine W.condIf rfl (fun c13 => ?_) (fun c13 => ?_)
  ·
   refine W.seq (W.region (WL.val run_move rfl rfl (WL.val run_move rfl rfl (WL.eff (eff_call call82 (rpop_ok (i := i) (u := u) hi hsi ((h.fetch (PoolC pc)).fetch (RefU 89 94 137 bu pc u)))) rfl rfl ?_))))
   rintro _ w hv
   rcases hv with ⟨x, l, hcx, rfl, pc2, hs2, h⟩ | ⟨hc0, rfl, h⟩
   ·
    refine WL.val run_move rfl rfl (WL.val (run_extract rfl rfl) rfl rfl (WL.val (run_extract rfl rfl) rfl rfl (WL.eff (eff_alloc h zeroValue36 rfl) rfl rfl ?_)))
    rintro _ w ⟨b9, rfl, h⟩
    refine WL.eff (eff_storeW (vs := [.int .i64 _, .int .i64 _, .int .i64 _, .slice _ _ _, .int .i64 _]) h sizeOf36 rfl rfl rfl rfl rfl) rfl rfl ?_
    rintro _ w h
    refine WL.val run_assign rfl rfl (WL.nil (W.seq (W.region (WL.val run_move rfl rfl (WL.nil (W.condT rfl (W.seq ?_)))))))
    refine W.region (WL.val (run_loadB (vs := [.int .i64 _, .int .i64 _, .int .i64 _, .slice _ _ _, .int .i64 _]) h isAgg36 sizeOf36 rfl rfl rfl) rfl rfl (WL.eff (eff_storeW (vs := [.int .i64 _, .int .i64 _, .int .i64 _, .slice _ _ _, .int .i64 _]) h sizeOf36 rfl rfl rfl rfl rfl) rfl rfl ?_))
    rintro _ w h
    refine WL.nil (W.ret (bodyQ.rcB (vs := [.int .i64 _, .int .i64 _, .int .i64 _, .slice _ _ _, .int .i64 _]) h results38 isAgg36 sizeOf36 rfl rfl rfl ?_))
    exact ⟨pc2, _, _, .slice none 0 0, doM_pop (c := (⟨kind, at_, n, data, key, new, typ, force⟩ : Cm)) hi (show 1 ≤ kind by omega) (show kind ≤ 18 by omega) (show kind ≠ 9 from c7) (show kind ≠ 8 from c13) hcx, rfl, hs2, hs2 _ hnil, h.to⟩
   refine WL.val run_move rfl rfl (WL.val (run_extract rfl rfl) rfl rfl (WL.val (run_extract rfl rfl) rfl rfl (WL.eff (eff_alloc h zeroValue36 rfl) rfl rfl ?_)))
   rintro _ w ⟨b9, rfl, h⟩
   refine WL.eff (eff_storeW (vs := [.int .i64 _, .int .i64 _, .int .i64 _, .slice _ _ _, .int .i64 _]) h sizeOf36 rfl rfl rfl rfl rfl) rfl rfl ?_
   rintro _ w h
   refine WL.val run_assign rfl rfl (WL.nil (W.seq (W.region (WL.val run_move rfl rfl (WL.nil (W.condF rfl (W.skip ?_)))))))
   refine W.seq (W.seq ?_)
   have hmx := maxLen_eq
   have ho := openF (h.fetch (RefU 89 94 137 bu pc u))
   obtain ⟨bs, bt, xs, hpk, h⟩ := ho
   have hl8 := xs_len hpk
   refine W.draw Tryz.follows h (fun w h => ?_)
   refine WT.pure 0 rfl (by kernel_rfl) (fun w' => run_move) rfl rfl (WT.pure 1 rfl (by kernel_rfl) (fun w' => (run_nilCheck rfl)) rfl rfl (WT.pure 2 rfl (by kernel_rfl) (fun w' => (run_fieldAddr 1 underlying89 rfl sizeOf82 rfl rfl)) rfl rfl (WT.load1 3 rfl (by kernel_rfl) isAgg82 rfl (h.cellB rfl) rfl rfl (WT.pure 4 rfl (by kernel_rfl) (fun w' => run_move) rfl rfl (WT.pure 5 rfl (by kernel_rfl) (fun w' => (run_fieldAddr 0 underlying25 rfl sizeOf3 rfl rfl)) rfl rfl (WT.load1 6 rfl (by kernel_rfl) isAgg3 rfl (h.cellB rfl) rfl rfl (WT.eff 7 [false, false] rfl (by kernel_rfl) (by kernel_rfl) (eff_call call84 (rallows_ok (i := i) (t := u.t) (b := bt) (kind := kind) hi hty6 (goodT_hold hgt) (h.fetch (blk bt u.t.cells 137)))) rfl rfl ?_)))))))
   rintro _ w ⟨hv, h⟩
   have hcs := Bool.eq_false_or_eq_true (allowB u.t i kind)
   rcases hcs with hal | hal <;> (rw [hal] at hv; subst hv)
   all_goals (refine ⟨trivial, ?_⟩)
   ·
    refine WT.pure 8 rfl (by kernel_rfl) (fun w' => (run_not rfl)) rfl rfl (WT.done (by kernel_rfl) (W.condF rfl (W.skip (W.seq (W.seq ?_)))))
    have hfree : ((⟨kind, at_, n, data, key, new, typ, force⟩ : Cm).kind = 8 ∨ (u.guest i).codes = []) := .inr hc0
    refine W.region (WL.val (run_fieldAddr 0 underlying25 rfl sizeOf3 rfl rfl) rfl rfl (WL.val (run_load1 isAgg3 rfl (h.cellB rfl)) rfl rfl (WL.nil (W.block (W.seq (W.region (WL.val (run_eql rfl rfl) rfl rfl ?_)))))))
    refine WL.val run_assign rfl rfl (WL.nil ?_)
    refine W.condIf rfl (fun c29 => ?_) (fun c29 => ?_)
    ·
     exact absurd c29 c13
    refine W.seq (W.region (WL.val (run_eql rfl rfl) rfl rfl (WL.val run_assign rfl rfl (WL.nil ?_))))
    refine W.condIf rfl (fun c33 => ?_) (fun c33 => ?_)
    ·
     refine W.seq ?_
     have ho := openR (h.fetch (RSpP 94 bs pc u.s))
     obtain ⟨bv, mv, m, hps, h⟩ := ho
     refine W.region (WL.val run_move rfl rfl (WL.val (run_nilCheck rfl) rfl rfl (WL.val (run_fieldAddr 0 underlying89 rfl sizeOf79 rfl rfl) rfl rfl (WL.val (run_load1 isAgg79 rfl (h.cellB rfl)) rfl rfl (WL.val (run_nilCheck rfl) rfl rfl (WL.val (run_fieldAddr 0 underlying94 rfl sizeOf3 rfl rfl) rfl rfl (WL.val (run_load1 isAgg3 rfl (h.cellB rfl)) rfl rfl ?_)))))))
     refine WL.eff (eff_call call86 (rcap5_ok (n := u.s.N) hwf.2.1 hwf.2.2.1 h)) rfl rfl ?_
     rintro _ w ⟨a85, c85, rfl, h⟩
     refine WL.val (run_buildS (pl := [(0, 1), (1, 1), (2, 1), (3, 1), (4, 1)]) (out := [.int .i64 _, .int .i64 _, .int .i64 _, .slice _ _ _, .int .i64 _]) underlying36 zeroValue36 (fun w => by kernel_rfl) rfl (⟨⟨_, _, rfl, rfl, by decide⟩, trivial⟩) rfl) rfl rfl (WL.eff (eff_storeW (vs := [.int .i64 _, .int .i64 _, .int .i64 _, .slice _ _ _, .int .i64 _]) h sizeOf36 rfl rfl rfl rfl rfl) rfl rfl ?_)
     rintro _ w h
     refine WL.nil (W.ret (bodyQ.rcB (vs := [.int .i64 _, .int .i64 _, .int .i64 _, .slice _ _ _, .int .i64 _]) h results38 isAgg36 sizeOf36 rfl rfl rfl ?_))
     have h := closeR (b := bs) (s := u.s) hps (h.fetch (blk bs [.int .i64 (u.s.N : Int), bv, mv] 94))
     have h := closeF (bu := bu) (u := u) hpk ((((h.fetch (PoolC pc)).fetch (blk bt u.t.cells 137)).fetch (RSpP 94 bs pc u.s)).fetch (blk bu (rcells bs bt xs) 89))
     have hf := finB (L := L) (a := a85) (c := c85) (ys := capB u.s.N) (h.to : On W0 (OwnB (.slice a85 (capB u.s.N).length c85) (capB u.s.N) :: RefU 89 94 137 bu pc u :: PoolC pc :: L) _)
     obtain ⟨pc2, hs2, hin2, h⟩ := hf
     have he : actM u i (⟨kind, at_, n, data, key, new, typ, force⟩ : Cm) = (u, gave (capB u.s.N)) := by unfold actM; rw [if_neg (show ¬ kind = 1 by omega), if_neg (show ¬ kind = 8 by omega), if_pos (show kind = 7 by omega)]
     have hd := (doM_go (u := u) (i := i) (c := (⟨kind, at_, n, data, key, new, typ, force⟩ : Cm)) hi (show 1 ≤ kind by omega) (show kind ≤ 18 by omega) c7 hfree (allowB_iff.1 hal)).trans he
     exact ⟨pc2, u, gave (capB u.s.N), _, hd, rfl, hs2, hin2, h.to⟩
    refine W.seq (W.seq (W.region (WL.val (run_eql rfl rfl) rfl rfl (WL.val run_assign rfl rfl (WL.nil ?_)))))
    refine W.condIf rfl (fun c37 => ?_) (fun c37 => ?_)
    ·
     refine W.skip (W.condT (congrArg Value.bool (decide_eq_true c37)) (W.seq ?_))
     have h := closeF (bu := bu) (u := u) hpk ((((h.fetch (PoolC pc)).fetch (blk bt u.t.cells 137)).fetch (RSpP 94 bs pc u.s)).fetch (blk bu (rcells bs bt xs) 89))
     refine W.region (WL.val run_move rfl rfl (WL.val (run_loadB (vs := [.int .i64 _, .int .i64 _, .int .i64 _, .slice _ _ _, .int .u64 _, .int .u64 _, .int .i64 _, .bool _]) h isAgg25 sizeOf25 rfl rfl rfl) rfl rfl (WL.eff (eff_call call87 (rblocks_ok (bu := bu) (u := u) (pc := pc) ((h.fetch (PoolC pc)).fetch (RefU 89 94 137 bu pc u)) (Gives.to C) hd)) rfl rfl ?_)))
     rintro _ w ⟨pc2, s', r', dv', heq, rfl, hs2, hin2, h⟩
     have hq := hs2
     have hdf := rslice_of h hin2
     obtain ⟨ad, cd, hdv⟩ := hdf
     subst hdv
     refine WL.eff (eff_storeW (vs := [.int .i64 _, .int .i64 _, .int .i64 _, .slice _ _ _, .int .i64 _]) h sizeOf36 rfl rfl rfl rfl rfl) rfl rfl ?_
     rintro _ w h
     refine WL.nil (W.ret (bodyQ.rcB (vs := [.int .i64 _, .int .i64 _, .int .i64 _, .slice _ _ _, .int .i64 _]) h results38 isAgg36 sizeOf36 rfl rfl rfl ?_))
     have he : actM u i (⟨kind, at_, n, data, key, new, typ, force⟩ : Cm) = (u.setS s', r') := by rw [actM_run (by show 2 ≤ kind; omega) (by show kind ≤ 6; omega), heq]
     have hd := (doM_go (u := u) (i := i) (c := (⟨kind, at_, n, data, key, new, typ, force⟩ : Cm)) hi (show 1 ≤ kind by omega) (show kind ≤ 18 by omega) c7 hfree (allowB_iff.1 hal)).trans he
     exact ⟨pc2, (u.setS s'), r', _, hd, rfl, hs2, hin2, h.to⟩
    refine W.seq (W.region (WL.val (run_eql rfl rfl) rfl rfl (WL.val run_assign rfl rfl (WL.nil ?_))))
    refine W.condIf rfl (fun c40 => ?_) (fun c40 => ?_)
    ·
     refine W.skip (W.condT (congrArg Value.bool (decide_eq_true c40)) (W.seq ?_))
     have h := closeF (bu := bu) (u := u) hpk ((((h.fetch (PoolC pc)).fetch (blk bt u.t.cells 137)).fetch (RSpP 94 bs pc u.s)).fetch (blk bu (rcells bs bt xs) 89))
     refine W.region (WL.val run_move rfl rfl (WL.val (run_loadB (vs := [.int .i64 _, .int .i64 _, .int .i64 _, .slice _ _ _, .int .u64 _, .int .u64 _, .int .i64 _, .bool _]) h isAgg25 sizeOf25 rfl rfl rfl) rfl rfl (WL.eff (eff_call call87 (rblocks_ok (bu := bu) (u := u) (pc := pc) ((h.fetch (PoolC pc)).fetch (RefU 89 94 137 bu pc u)) (Gives.to C) hd)) rfl rfl ?_)))
     rintro _ w ⟨pc2, s', r', dv', heq, rfl, hs2, hin2, h⟩
     have hq := hs2
     have hdf := rslice_of h hin2
     obtain ⟨ad, cd, hdv⟩ := hdf
     subst hdv
     refine WL.eff (eff_storeW (vs := [.int .i64 _, .int .i64 _, .int .i64 _, .slice _ _ _, .int .i64 _]) h sizeOf36 rfl rfl rfl rfl rfl) rfl rfl ?_
     rintro _ w h
     refine WL.nil (W.ret (bodyQ.rcB (vs := [.int .i64 _, .int .i64 _, .int .i64 _, .slice _ _ _, .int .i64 _]) h results38 isAgg36 sizeOf36 rfl rfl rfl ?_))
     have he : actM u i (⟨kind, at_, n, data, key, new, typ, force⟩ : Cm) = (u.setS s', r') := by rw [actM_run (by show 2 ≤ kind; omega) (by show kind ≤ 6; omega), heq]
     have hd := (doM_go (u := u) (i := i) (c := (⟨kind, at_, n, data, key, new, typ, force⟩ : Cm)) hi (show 1 ≤ kind by omega) (show kind ≤ 18 by omega) c7 hfree (allowB_iff.1 hal)).trans he
     exact ⟨pc2, (u.setS s'), r', _, hd, rfl, hs2, hin2, h.to⟩
    refine W.seq (W.region (WL.val (run_eql rfl rfl) rfl rfl (WL.val run_assign rfl rfl (WL.nil ?_))))
    refine W.condIf rfl (fun c43 => ?_) (fun c43 => ?_)
    ·
     refine W.skip (W.condT (congrArg Value.bool (decide_eq_true c43)) (W.seq ?_))
     have h := closeF (bu := bu) (u := u) hpk ((((h.fetch (PoolC pc)).fetch (blk bt u.t.cells 137)).fetch (RSpP 94 bs pc u.s)).fetch (blk bu (rcells bs bt xs) 89))
     refine W.region (WL.val run_move rfl rfl (WL.val (run_loadB (vs := [.int .i64 _, .int .i64 _, .int .i64 _, .slice _ _ _, .int .u64 _, .int .u64 _, .int .i64 _, .bool _]) h isAgg25 sizeOf25 rfl rfl rfl) rfl rfl (WL.eff (eff_call call87 (rblocks_ok (bu := bu) (u := u) (pc := pc) ((h.fetch (PoolC pc)).fetch (RefU 89 94 137 bu pc u)) (Gives.to C) hd)) rfl rfl ?_)))
     rintro _ w ⟨pc2, s', r', dv', heq, rfl, hs2, hin2, h⟩
     have hq := hs2
     have hdf := rslice_of h hin2
     obtain ⟨ad, cd, hdv⟩ := hdf
     subst hdv
     refine WL.eff (eff_storeW (vs := [.int .i64 _, .int .i64 _, .int .i64 _, .slice _ _ _, .int .i64 _]) h sizeOf36 rfl rfl rfl rfl rfl) rfl rfl ?_
     rintro _ w h
     refine WL.nil (W.ret (bodyQ.rcB (vs := [.int .i64 _, .int .i64 _, .int .i64 _, .slice _ _ _, .int .i64 _]) h results38 isAgg36 sizeOf36 rfl rfl rfl ?_))
     have he : actM u i (⟨kind, at_, n, data, key, new, typ, force⟩ : Cm) = (u.setS s', r') := by rw [actM_run (by show 2 ≤ kind; omega) (by show kind ≤ 6; omega), heq]
     have hd := (doM_go (u := u) (i := i) (c := (⟨kind, at_, n, data, key, new, typ, force⟩ : Cm)) hi (show 1 ≤ kind by omega) (show kind ≤ 18 by omega) c7 hfree (allowB_iff.1 hal)).trans he
     exact ⟨pc2, (u.setS s'), r', _, hd, rfl, hs2, hin2, h.to⟩
    refine W.seq (W.region (WL.val (run_eql rfl rfl) rfl rfl (WL.val run_assign rfl rfl (WL.nil ?_))))
    refine W.condIf rfl (fun c46 => ?_) (fun c46 => ?_)
    ·
     refine W.skip (W.condT (congrArg Value.bool (decide_eq_true c46)) (W.seq ?_))
     have h := closeF (bu := bu) (u := u) hpk ((((h.fetch (PoolC pc)).fetch (blk bt u.t.cells 137)).fetch (RSpP 94 bs pc u.s)).fetch (blk bu (rcells bs bt xs) 89))
     refine W.region (WL.val run_move rfl rfl (WL.val (run_loadB (vs := [.int .i64 _, .int .i64 _, .int .i64 _, .slice _ _ _, .int .u64 _, .int .u64 _, .int .i64 _, .bool _]) h isAgg25 sizeOf25 rfl rfl rfl) rfl rfl (WL.eff (eff_call call87 (rblocks_ok (bu := bu) (u := u) (pc := pc) ((h.fetch (PoolC pc)).fetch (RefU 89 94 137 bu pc u)) (Gives.to C) hd)) rfl rfl ?_)))
     rintro _ w ⟨pc2, s', r', dv', heq, rfl, hs2, hin2, h⟩
     have hq := hs2
     have hdf := rslice_of h hin2
     obtain ⟨ad, cd, hdv⟩ := hdf
     subst hdv
     refine WL.eff (eff_storeW (vs := [.int .i64 _, .int .i64 _, .int .i64 _, .slice _ _ _, .int .i64 _]) h sizeOf36 rfl rfl rfl rfl rfl) rfl rfl ?_
     rintro _ w h
     refine WL.nil (W.ret (bodyQ.rcB (vs := [.int .i64 _, .int .i64 _, .int .i64 _, .slice _ _ _, .int .i64 _]) h results38 isAgg36 sizeOf36 rfl rfl rfl ?_))
     have he : actM u i (⟨kind, at_, n, data, key, new, typ, force⟩ : Cm) = (u.setS s', r') := by rw [actM_run (by show 2 ≤ kind; omega) (by show kind ≤ 6; omega), heq]
     have hd := (doM_go (u := u) (i := i) (c := (⟨kind, at_, n, data, key, new, typ, force⟩ : Cm)) hi (show 1 ≤ kind by omega) (show kind ≤ 18 by omega) c7 hfree (allowB_iff.1 hal)).trans he
     exact ⟨pc2, (u.setS s'), r', _, hd, rfl, hs2, hin2, h.to⟩
    refine W.region (WL.val (run_eql rfl rfl) rfl rfl (WL.val run_assign rfl rfl (WL.nil ?_)))
    refine W.condIf rfl (fun c49 => ?_) (fun c49 => ?_)
    ·
     refine W.seq ?_
     have h := closeF (bu := bu) (u := u) hpk ((((h.fetch (PoolC pc)).fetch (blk bt u.t.cells 137)).fetch (RSpP 94 bs pc u.s)).fetch (blk bu (rcells bs bt xs) 89))
     refine W.region (WL.val run_move rfl rfl (WL.val (run_loadB (vs := [.int .i64 _, .int .i64 _, .int .i64 _, .slice _ _ _, .int .u64 _, .int .u64 _, .int .i64 _, .bool _]) h isAgg25 sizeOf25 rfl rfl rfl) rfl rfl (WL.eff (eff_call call87 (rblocks_ok (bu := bu) (u := u) (pc := pc) ((h.fetch (PoolC pc)).fetch (RefU 89 94 137 bu pc u)) (Gives.to C) hd)) rfl rfl ?_)))
     rintro _ w ⟨pc2, s', r', dv', heq, rfl, hs2, hin2, h⟩
     have hq := hs2
     have hdf := rslice_of h hin2
     obtain ⟨ad, cd, hdv⟩ := hdf
     subst hdv
     refine WL.eff (eff_storeW (vs := [.int .i64 _, .int .i64 _, .int .i64 _, .slice _ _ _, .int .i64 _]) h sizeOf36 rfl rfl rfl rfl rfl) rfl rfl ?_
     rintro _ w h
     refine WL.nil (W.ret (bodyQ.rcB (vs := [.int .i64 _, .int .i64 _, .int .i64 _, .slice _ _ _, .int .i64 _]) h results38 isAgg36 sizeOf36 rfl rfl rfl ?_))
     have he : actM u i (⟨kind, at_, n, data, key, new, typ, force⟩ : Cm) = (u.setS s', r') := by rw [actM_run (by show 2 ≤ kind; omega) (by show kind ≤ 6; omega), heq]
     have hd := (doM_go (u := u) (i := i) (c := (⟨kind, at_, n, data, key, new, typ, force⟩ : Cm)) hi (show 1 ≤ kind by omega) (show kind ≤ 18 by omega) c7 hfree (allowB_iff.1 hal)).trans he
     exact ⟨pc2, (u.setS s'), r', _, hd, rfl, hs2, hin2, h.to⟩
    refine W.seq (W.seq (W.region (WL.val (run_eql rfl rfl) rfl rfl (WL.val run_assign rfl rfl (WL.nil ?_)))))
    refine W.condIf rfl (fun c53 => ?_) (fun c53 => ?_)
    ·
     refine W.skip (W.condT (congrArg Value.bool (decide_eq_true c53)) (W.seq ?_))
     refine W.draw Tryz.follows h (fun w h => ?_)
     refine WT.pure 0 rfl (by kernel_rfl) (fun w' => run_move) rfl rfl (WT.pure 1 rfl (by kernel_rfl) (fun w' => (run_nilCheck rfl)) rfl rfl (WT.pure 2 rfl (by kernel_rfl) (fun w' => (run_fieldAddr 1 underlying89 rfl sizeOf82 rfl rfl)) rfl rfl (WT.load1 3 rfl (by kernel_rfl) isAgg82 rfl (h.cellB rfl) rfl rfl (WT.pure 4 rfl (by kernel_rfl) (fun w' => run_move) rfl rfl (WT.pure 5 rfl (by kernel_rfl) (fun w' => (run_fieldAddr 4 underlying25 rfl sizeOf23 rfl rfl)) rfl rfl (WT.load1 6 rfl (by kernel_rfl) isAgg23 rfl (h.cellB rfl) rfl rfl (WT.pure 7 rfl (by kernel_rfl) (fun w' => (run_fieldAddr 5 underlying25 rfl sizeOf23 rfl rfl)) rfl rfl ?_)))))))
     refine WT.load1 8 rfl (by kernel_rfl) isAgg23 rfl (h.cellB rfl) rfl rfl (WT.pure 9 rfl (by kernel_rfl) (fun w' => (run_fieldAddr 0 underlying25 rfl sizeOf3 rfl rfl)) rfl rfl (WT.load1 10 rfl (by kernel_rfl) isAgg3 rfl (h.cellB rfl) rfl rfl (WT.pure 11 rfl (by kernel_rfl) (fun w' => (run_eql rfl rfl)) rfl rfl ?_)))
     -- SEVERAL MAY COME UP: [(12, ' (*gemel/gemelref15.Table).Register(t103, t104, t106, t108, t111)'), (16, 'alloc api.Reply')]
     refine WT.two 12 16 (by kernel_rfl) ?_ ?_
     ·
      refine WT.opOf 12 [false, false, false, false] rfl (by kernel_rfl) (eff_call call88 (rregister_ok (key := key) (fresh := new) (ign := decide (kind = 11)) (i := i) (t := u.t) (b := bt) hi hty6 (h.fetch (blk bt u.t.cells 137)))) rfl rfl ?_
      rintro v112 w ⟨a112, c112, hv112, h⟩
      have hX := rvM_reg (t := u.t) (i := i) (c := (⟨kind, at_, n, data, key, new, typ, force⟩ : Cm)) (show kind = 10 ∨ kind = 11 by omega)
      rw [← hX] at hv112 h
      subst hv112
      have h := setTb (bu := bu) (bs := bs) (t' := (rvM u.t i (⟨kind, at_, n, data, key, new, typ, force⟩ : Cm)).t) (u := u) hpk ((((h.fetch (PoolC pc)).fetch (blk bt (rvM u.t i (⟨kind, at_, n, data, key, new, typ, force⟩ : Cm)).t.cells 137)).fetch (RSpP 94 bs pc u.s)).fetch (blk bu (rcells bs bt xs) 89))
      refine ⟨trivial, ?_⟩
      refine WT.pure 13 rfl (by kernel_rfl) (fun w' => run_move) rfl rfl (WT.pure 14 rfl (by kernel_rfl) (fun w' => (run_extract rfl rfl)) rfl rfl (WT.pure 15 rfl (by kernel_rfl) (fun w' => (run_extract rfl rfl)) rfl rfl (WT.eff 16 [] rfl (by kernel_rfl) (by kernel_rfl) (eff_alloc h zeroValue36 rfl) rfl rfl ?_)))
      rintro _ w ⟨b11, rfl, h⟩
      refine ⟨trivial, ?_⟩
      refine WT.eff 17 [] rfl (by kernel_rfl) (by kernel_rfl) (eff_storeW (vs := [.int .i64 _, .int .i64 _, .int .i64 _, .slice _ _ _, .int .i64 _]) h sizeOf36 rfl rfl rfl rfl rfl) rfl rfl ?_
      rintro _ w h
      refine ⟨trivial, ?_⟩
      refine WT.pure 18 rfl (by kernel_rfl) (fun w' => run_assign) rfl rfl (WT.done (by kernel_rfl) (W.seq (W.region (WL.val run_move rfl rfl (WL.val run_move rfl rfl ?_)))))
      refine WL.eff (eff_call call89 (rnotes_ok (bu := bu) (u := u.setT (rvM u.t i (⟨kind, at_, n, data, key, new, typ, force⟩ : Cm)).t) (pc := pc) (l := (rvM u.t i (⟨kind, at_, n, data, key, new, typ, force⟩ : Cm)).l) (code := (rvM u.t i (⟨kind, at_, n, data, key, new, typ, force⟩ : Cm)).code) (a := a112) (c := c112) rvM_l.2.2.2 rvM_l.2.1 hsm (((h.fetch (PoolC pc)).fetch (RefU 89 94 137 bu pc (u.setT (rvM u.t i (⟨kind, at_, n, data, key, new, typ, force⟩ : Cm)).t))).fetch (Own 2 (.slice a112 (rvM u.t i (⟨kind, at_, n, data, key, new, typ, force⟩ : Cm)).l.length c112) (rvM u.t i (⟨kind, at_, n, data, key, new, typ, force⟩ : Cm)).l.length (notesV (rvM u.t i (⟨kind, at_, n, data, key, new, typ, force⟩ : Cm)).code (rvM u.t i (⟨kind, at_, n, data, key, new, typ, force⟩ : Cm)).l))))) rfl rfl ?_
      rintro _ w ⟨pc2, hs2, h⟩
      refine WL.nil (W.seq (W.region (WL.val (run_loadB (vs := [.int .i64 _, .int .i64 _, .int .i64 _, .slice _ _ _, .int .i64 _]) h isAgg36 sizeOf36 rfl rfl rfl) rfl rfl (WL.eff (eff_storeW (vs := [.int .i64 _, .int .i64 _, .int .i64 _, .slice _ _ _, .int .i64 _]) h sizeOf36 rfl rfl rfl rfl rfl) rfl rfl ?_))))
      rintro _ w h
      refine WL.nil (W.ret (bodyQ.rcB (vs := [.int .i64 _, .int .i64 _, .int .i64 _, .slice _ _ _, .int .i64 _]) h results38 isAgg36 sizeOf36 rfl rfl rfl ?_))
      have he := actM_rv (u := u) (i := i) (c := (⟨kind, at_, n, data, key, new, typ, force⟩ : Cm)) (by show 10 ≤ kind; omega) (by show kind ≤ 15; omega)
      have hd := (doM_go (u := u) (i := i) (c := (⟨kind, at_, n, data, key, new, typ, force⟩ : Cm)) hi (show 1 ≤ kind by omega) (show kind ≤ 18 by omega) c7 hfree (allowB_iff.1 hal)).trans he
      exact ⟨pc2, _, (rvM u.t i (⟨kind, at_, n, data, key, new, typ, force⟩ : Cm)).r, .slice none 0 0, hd, rfl, hs2, (by rw [rvM_r]; exact hs2 _ hnil), h.to⟩
     refine WT.opOf 16 [true, true, true, true] rfl (by kernel_rfl) (eff_alloc h zeroValue36 rfl) rfl rfl ?_
     rintro _ w ⟨b11, rfl, h⟩
     refine ⟨⟨h.cellB rfl, h.cellB rfl, h.cellB rfl, h.cellB rfl, trivial⟩, ?_⟩
     refine WT.eff 12 [false, false, false, false] rfl (by kernel_rfl) (by kernel_rfl) (eff_call call88 (rregister_ok (key := key) (fresh := new) (ign := decide (kind = 11)) (i := i) (t := u.t) (b := bt) hi hty6 (h.fetch (blk bt u.t.cells 137)))) rfl rfl ?_
     rintro v112 w ⟨a112, c112, hv112, h⟩
     have hX := rvM_reg (t := u.t) (i := i) (c := (⟨kind, at_, n, data, key, new, typ, force⟩ : Cm)) (show kind = 10 ∨ kind = 11 by omega)
     rw [← hX] at hv112 h
     subst hv112
     have h := setTb (bu := bu) (bs := bs) (t' := (rvM u.t i (⟨kind, at_, n, data, key, new, typ, force⟩ : Cm)).t) (u := u) hpk ((((h.fetch (PoolC pc)).fetch (blk bt (rvM u.t i (⟨kind, at_, n, data, key, new, typ, force⟩ : Cm)).t.cells 137)).fetch (RSpP 94 bs pc u.s)).fetch (blk bu (rcells bs bt xs) 89))
     refine ⟨trivial, ?_⟩
     refine WT.pure 13 rfl (by kernel_rfl) (fun w' => run_move) rfl rfl (WT.pure 14 rfl (by kernel_rfl) (fun w' => (run_extract rfl rfl)) rfl rfl (WT.pure 15 rfl (by kernel_rfl) (fun w' => (run_extract rfl rfl)) rfl rfl (WT.eff 17 [] rfl (by kernel_rfl) (by kernel_rfl) (eff_storeW (vs := [.int .i64 _, .int .i64 _, .int .i64 _, .slice _ _ _, .int .i64 _]) h sizeOf36 rfl rfl rfl rfl rfl) rfl rfl ?_)))
     rintro _ w h
     refine ⟨trivial, ?_⟩
     refine WT.pure 18 rfl (by kernel_rfl) (fun w' => run_assign) rfl rfl (WT.done (by kernel_rfl) (W.seq (W.region (WL.val run_move rfl rfl (WL.val run_move rfl rfl ?_)))))
     refine WL.eff (eff_call call89 (rnotes_ok (bu := bu) (u := u.setT (rvM u.t i (⟨kind, at_, n, data, key, new, typ, force⟩ : Cm)).t) (pc := pc) (l := (rvM u.t i (⟨kind, at_, n, data, key, new, typ, force⟩ : Cm)).l) (code := (rvM u.t i (⟨kind, at_, n, data, key, new, typ, force⟩ : Cm)).code) (a := a112) (c := c112) rvM_l.2.2.2 rvM_l.2.1 hsm (((h.fetch (PoolC pc)).fetch (RefU 89 94 137 bu pc (u.setT (rvM u.t i (⟨kind, at_, n, data, key, new, typ, force⟩ : Cm)).t))).fetch (Own 2 (.slice a112 (rvM u.t i (⟨kind, at_, n, data, key, new, typ, force⟩ : Cm)).l.length c112) (rvM u.t i (⟨kind, at_, n, data, key, new, typ, force⟩ : Cm)).l.length (notesV (rvM u.t i (⟨kind, at_, n, data, key, new, typ, force⟩ : Cm)).code (rvM u.t i (⟨kind, at_, n, data, key, new, typ, force⟩ : Cm)).l))))) rfl rfl ?_
     rintro _ w ⟨pc2, hs2, h⟩
     refine WL.nil (W.seq (W.region (WL.val (run_loadB (vs := [.int .i64 _, .int .i64 _, .int .i64 _, .slice _ _ _, .int .i64 _]) h isAgg36 sizeOf36 rfl rfl rfl) rfl rfl (WL.eff (eff_storeW (vs := [.int .i64 _, .int .i64 _, .int .i64 _, .slice _ _ _, .int .i64 _]) h sizeOf36 rfl rfl rfl rfl rfl) rfl rfl ?_))))
     rintro _ w h
     refine WL.nil (W.ret (bodyQ.rcB (vs := [.int .i64 _, .int .i64 _, .int .i64 _, .slice _ _ _, .int .i64 _]) h results38 isAgg36 sizeOf36 rfl rfl rfl ?_))
     have he := actM_rv (u := u) (i := i) (c := (⟨kind, at_, n, data, key, new, typ, force⟩ : Cm)) (by show 10 ≤ kind; omega) (by show kind ≤ 15; omega)
     have hd := (doM_go (u := u) (i := i) (c := (⟨kind, at_, n, data, key, new, typ, force⟩ : Cm)) hi (show 1 ≤ kind by omega) (show kind ≤ 18 by omega) c7 hfree (allowB_iff.1 hal)).trans he
     exact ⟨pc2, _, (rvM u.t i (⟨kind, at_, n, data, key, new, typ, force⟩ : Cm)).r, .slice none 0 0, hd, rfl, hs2, (by rw [rvM_r]; exact hs2 _ hnil), h.to⟩
    refine W.region (WL.val (run_eql rfl rfl) rfl rfl (WL.val run_assign rfl rfl (WL.nil ?_)))
    refine W.condIf rfl (fun c56 => ?_) (fun c56 => ?_)
    ·
     refine W.seq ?_
     refine W.draw Tryz.follows h (fun w h => ?_)
     refine WT.pure 0 rfl (by kernel_rfl) (fun w' => run_move) rfl rfl (WT.pure 1 rfl (by kernel_rfl) (fun w' => (run_nilCheck rfl)) rfl rfl (WT.pure 2 rfl (by kernel_rfl) (fun w' => (run_fieldAddr 1 underlying89 rfl sizeOf82 rfl rfl)) rfl rfl (WT.load1 3 rfl (by kernel_rfl) isAgg82 rfl (h.cellB rfl) rfl rfl (WT.pure 4 rfl (by kernel_rfl) (fun w' => run_move) rfl rfl (WT.pure 5 rfl (by kernel_rfl) (fun w' => (run_fieldAddr 4 underlying25 rfl sizeOf23 rfl rfl)) rfl rfl (WT.load1 6 rfl (by kernel_rfl) isAgg23 rfl (h.cellB rfl) rfl rfl (WT.pure 7 rfl (by kernel_rfl) (fun w' => (run_fieldAddr 5 underlying25 rfl sizeOf23 rfl rfl)) rfl rfl ?_)))))))
     refine WT.load1 8 rfl (by kernel_rfl) isAgg23 rfl (h.cellB rfl) rfl rfl (WT.pure 9 rfl (by kernel_rfl) (fun w' => (run_fieldAddr 0 underlying25 rfl sizeOf3 rfl rfl)) rfl rfl (WT.load1 10 rfl (by kernel_rfl) isAgg3 rfl (h.cellB rfl) rfl rfl (WT.pure 11 rfl (by kernel_rfl) (fun w' => (run_eql rfl rfl)) rfl rfl ?_)))
     -- SEVERAL MAY COME UP: [(12, ' (*gemel/gemelref15.Table).Register(t103, t104, t106, t108, t111)'), (16, 'alloc api.Reply')]
     refine WT.two 12 16 (by kernel_rfl) ?_ ?_
     ·
      refine WT.opOf 12 [false, false, false, false] rfl (by kernel_rfl) (eff_call call88 (rregister_ok (key := key) (fresh := new) (ign := decide (kind = 11)) (i := i) (t := u.t) (b := bt) hi hty6 (h.fetch (blk bt u.t.cells 137)))) rfl rfl ?_
      rintro v112 w ⟨a112, c112, hv112, h⟩
      have hX := rvM_reg (t := u.t) (i := i) (c := (⟨kind, at_, n, data, key, new, typ, force⟩ : Cm)) (show kind = 10 ∨ kind = 11 by omega)
      rw [← hX] at hv112 h
      subst hv112
      have h := setTb (bu := bu) (bs := bs) (t' := (rvM u.t i (⟨kind, at_, n, data, key, new, typ, force⟩ : Cm)).t) (u := u) hpk ((((h.fetch (PoolC pc)).fetch (blk bt (rvM u.t i (⟨kind, at_, n, data, key, new, typ, force⟩ : Cm)).t.cells 137)).fetch (RSpP 94 bs pc u.s)).fetch (blk bu (rcells bs bt xs) 89))
      refine ⟨trivial, ?_⟩
      refine WT.pure 13 rfl (by kernel_rfl) (fun w' => run_move) rfl rfl (WT.pure 14 rfl (by kernel_rfl) (fun w' => (run_extract rfl rfl)) rfl rfl (WT.pure 15 rfl (by kernel_rfl) (fun w' => (run_extract rfl rfl)) rfl rfl (WT.eff 16 [] rfl (by kernel_rfl) (by kernel_rfl) (eff_alloc h zeroValue36 rfl) rfl rfl ?_)))
      rintro _ w ⟨b11, rfl, h⟩
      refine ⟨trivial, ?_⟩
      refine WT.eff 17 [] rfl (by kernel_rfl) (by kernel_rfl) (eff_storeW (vs := [.int .i64 _, .int .i64 _, .int .i64 _, .slice _ _ _, .int .i64 _]) h sizeOf36 rfl rfl rfl rfl rfl) rfl rfl ?_
      rintro _ w h
      refine ⟨trivial, ?_⟩
      refine WT.pure 18 rfl (by kernel_rfl) (fun w' => run_assign) rfl rfl (WT.done (by kernel_rfl) (W.seq (W.region (WL.val run_move rfl rfl (WL.val run_move rfl rfl ?_)))))
      refine WL.eff (eff_call call89 (rnotes_ok (bu := bu) (u := u.setT (rvM u.t i (⟨kind, at_, n, data, key, new, typ, force⟩ : Cm)).t) (pc := pc) (l := (rvM u.t i (⟨kind, at_, n, data, key, new, typ, force⟩ : Cm)).l) (code := (rvM u.t i (⟨kind, at_, n, data, key, new, typ, force⟩ : Cm)).code) (a := a112) (c := c112) rvM_l.2.2.2 rvM_l.2.1 hsm (((h.fetch (PoolC pc)).fetch (RefU 89 94 137 bu pc (u.setT (rvM u.t i (⟨kind, at_, n, data, key, new, typ, force⟩ : Cm)).t))).fetch (Own 2 (.slice a112 (rvM u.t i (⟨kind, at_, n, data, key, new, typ, force⟩ : Cm)).l.length c112) (rvM u.t i (⟨kind, at_, n, data, key, new, typ, force⟩ : Cm)).l.length (notesV (rvM u.t i (⟨kind, at_, n, data, key, new, typ, force⟩ : Cm)).code (rvM u.t i (⟨kind, at_, n, data, key, new, typ, force⟩ : Cm)).l))))) rfl rfl ?_
      rintro _ w ⟨pc2, hs2, h⟩
      refine WL.nil (W.seq (W.region (WL.val (run_loadB (vs := [.int .i64 _, .int .i64 _, .int .i64 _, .slice _ _ _, .int .i64 _]) h isAgg36 sizeOf36 rfl rfl rfl) rfl rfl (WL.eff (eff_storeW (vs := [.int .i64 _, .int .i64 _, .int .i64 _, .slice _ _ _, .int .i64 _]) h sizeOf36 rfl rfl rfl rfl rfl) rfl rfl ?_))))
      rintro _ w h
      refine WL.nil (W.ret (bodyQ.rcB (vs := [.int .i64 _, .int .i64 _, .int .i64 _, .slice _ _ _, .int .i64 _]) h results38 isAgg36 sizeOf36 rfl rfl rfl ?_))
      have he := actM_rv (u := u) (i := i) (c := (⟨kind, at_, n, data, key, new, typ, force⟩ : Cm)) (by show 10 ≤ kind; omega) (by show kind ≤ 15; omega)
      have hd := (doM_go (u := u) (i := i) (c := (⟨kind, at_, n, data, key, new, typ, force⟩ : Cm)) hi (show 1 ≤ kind by omega) (show kind ≤ 18 by omega) c7 hfree (allowB_iff.1 hal)).trans he
      exact ⟨pc2, _, (rvM u.t i (⟨kind, at_, n, data, key, new, typ, force⟩ : Cm)).r, .slice none 0 0, hd, rfl, hs2, (by rw [rvM_r]; exact hs2 _ hnil), h.to⟩
     refine WT.opOf 16 [true, true, true, true] rfl (by kernel_rfl) (eff_alloc h zeroValue36 rfl) rfl rfl ?_
     rintro _ w ⟨b11, rfl, h⟩
     refine ⟨⟨h.cellB rfl, h.cellB rfl, h.cellB rfl, h.cellB rfl, trivial⟩, ?_⟩
     refine WT.eff 12 [false, false, false, false] rfl (by kernel_rfl) (by kernel_rfl) (eff_call call88 (rregister_ok (key := key) (fresh := new) (ign := decide (kind = 11)) (i := i) (t := u.t) (b := bt) hi hty6 (h.fetch (blk bt u.t.cells 137)))) rfl rfl ?_
     rintro v112 w ⟨a112, c112, hv112, h⟩
     have hX := rvM_reg (t := u.t) (i := i) (c := (⟨kind, at_, n, data, key, new, typ, force⟩ : Cm)) (show kind = 10 ∨ kind = 11 by omega)
     rw [← hX] at hv112 h
     subst hv112
     have h := setTb (bu := bu) (bs := bs) (t' := (rvM u.t i (⟨kind, at_, n, data, key, new, typ, force⟩ : Cm)).t) (u := u) hpk ((((h.fetch (PoolC pc)).fetch (blk bt (rvM u.t i (⟨kind, at_, n, data, key, new, typ, force⟩ : Cm)).t.cells 137)).fetch (RSpP 94 bs pc u.s)).fetch (blk bu (rcells bs bt xs) 89))
     refine ⟨trivial, ?_⟩
     refine WT.pure 13 rfl (by kernel_rfl) (fun w' => run_move) rfl rfl (WT.pure 14 rfl (by kernel_rfl) (fun w' => (run_extract rfl rfl)) rfl rfl (WT.pure 15 rfl (by kernel_rfl) (fun w' => (run_extract rfl rfl)) rfl rfl (WT.eff 17 [] rfl (by kernel_rfl) (by kernel_rfl) (eff_storeW (vs := [.int .i64 _, .int .i64 _, .int .i64 _, .slice _ _ _, .int .i64 _]) h sizeOf36 rfl rfl rfl rfl rfl) rfl rfl ?_)))
     rintro _ w h
     refine ⟨trivial, ?_⟩
     refine WT.pure 18 rfl (by kernel_rfl) (fun w' => run_assign) rfl rfl (WT.done (by kernel_rfl) (W.seq (W.region (WL.val run_move rfl rfl (WL.val run_move rfl rfl ?_)))))
     refine WL.eff (eff_call call89 (rnotes_ok (bu := bu) (u := u.setT (rvM u.t i (⟨kind, at_, n, data, key, new, typ, force⟩ : Cm)).t) (pc := pc) (l := (rvM u.t i (⟨kind, at_, n, data, key, new, typ, force⟩ : Cm)).l) (code := (rvM u.t i (⟨kind, at_, n, data, key, new, typ, force⟩ : Cm)).code) (a := a112) (c := c112) rvM_l.2.2.2 rvM_l.2.1 hsm (((h.fetch (PoolC pc)).fetch (RefU 89 94 137 bu pc (u.setT (rvM u.t i (⟨kind, at_, n, data, key, new, typ, force⟩ : Cm)).t))).fetch (Own 2 (.slice a112 (rvM u.t i (⟨kind, at_, n, data, key, new, typ, force⟩ : Cm)).l.length c112) (rvM u.t i (⟨kind, at_, n, data, key, new, typ, force⟩ : Cm)).l.length (notesV (rvM u.t i (⟨kind, at_, n, data, key, new, typ, force⟩ : Cm)).code (rvM u.t i (⟨kind, at_, n, data, key, new, typ, force⟩ : Cm)).l))))) rfl rfl ?_
     rintro _ w ⟨pc2, hs2, h⟩
     refine WL.nil (W.seq (W.region (WL.val (run_loadB (vs := [.int .i64 _, .int .i64 _, .int .i64 _, .slice _ _ _, .int .i64 _]) h isAgg36 sizeOf36 rfl rfl rfl) rfl rfl (WL.eff (eff_storeW (vs := [.int .i64 _, .int .i64 _, .int .i64 _, .slice _ _ _, .int .i64 _]) h sizeOf36 rfl rfl rfl rfl rfl) rfl rfl ?_))))
     rintro _ w h
     refine WL.nil (W.ret (bodyQ.rcB (vs := [.int .i64 _, .int .i64 _, .int .i64 _, .slice _ _ _, .int .i64 _]) h results38 isAgg36 sizeOf36 rfl rfl rfl ?_))
     have he := actM_rv (u := u) (i := i) (c := (⟨kind, at_, n, data, key, new, typ, force⟩ : Cm)) (by show 10 ≤ kind; omega) (by show kind ≤ 15; omega)
     have hd := (doM_go (u := u) (i := i) (c := (⟨kind, at_, n, data, key, new, typ, force⟩ : Cm)) hi (show 1 ≤ kind by omega) (show kind ≤ 18 by omega) c7 hfree (allowB_iff.1 hal)).trans he
     exact ⟨pc2, _, (rvM u.t i (⟨kind, at_, n, data, key, new, typ, force⟩ : Cm)).r, .slice none 0 0, hd, rfl, hs2, (by rw [rvM_r]; exact hs2 _ hnil), h.to⟩
    refine W.seq (W.region (WL.val (run_eql rfl rfl) rfl rfl (WL.val run_assign rfl rfl (WL.nil ?_))))
    refine W.condIf rfl (fun c62 => ?_) (fun c62 => ?_)
    ·
     refine W.seq ?_
     refine W.draw Tryz.follows h (fun w h => ?_)
     refine WT.pure 0 rfl (by kernel_rfl) (fun w' => run_move) rfl rfl (WT.pure 1 rfl (by kernel_rfl) (fun w' => (run_nilCheck rfl)) rfl rfl (WT.pure 2 rfl (by kernel_rfl) (fun w' => (run_fieldAddr 1 underlying89 rfl sizeOf82 rfl rfl)) rfl rfl (WT.load1 3 rfl (by kernel_rfl) isAgg82 rfl (h.cellB rfl) rfl rfl (WT.pure 4 rfl (by kernel_rfl) (fun w' => run_move) rfl rfl (WT.pure 5 rfl (by kernel_rfl) (fun w' => (run_fieldAddr 4 underlying25 rfl sizeOf23 rfl rfl)) rfl rfl (WT.load1 6 rfl (by kernel_rfl) isAgg23 rfl (h.cellB rfl) rfl rfl (WT.pure 7 rfl (by kernel_rfl) (fun w' => (run_fieldAddr 6 underlying25 rfl sizeOf3 rfl rfl)) rfl rfl ?_)))))))
     refine WT.load1 8 rfl (by kernel_rfl) isAgg3 rfl (h.cellB rfl) rfl rfl (WT.eff 9 [false, false, false] rfl (by kernel_rfl) (by kernel_rfl) (eff_call call90 (rreserve_ok (key := key) (typ := typ) (i := i) (t := u.t) (b := bt) hi (goodT_hold hgt) (h.fetch (blk bt u.t.cells 137)))) rfl rfl ?_)
     rintro v130 w ⟨hv130, h⟩
     have hX := rvM_rsv (t := u.t) (i := i) (c := (⟨kind, at_, n, data, key, new, typ, force⟩ : Cm)) (show kind = 12 by omega)
     rw [← hX] at hv130 h
     subst hv130
     have h := setTb (bu := bu) (bs := bs) (t' := (rvM u.t i (⟨kind, at_, n, data, key, new, typ, force⟩ : Cm)).t) (u := u) hpk ((((h.fetch (PoolC pc)).fetch (blk bt (rvM u.t i (⟨kind, at_, n, data, key, new, typ, force⟩ : Cm)).t.cells 137)).fetch (RSpP 94 bs pc u.s)).fetch (blk bu (rcells bs bt xs) 89))
     refine ⟨trivial, ?_⟩
     refine WT.eff 10 [] rfl (by kernel_rfl) (by kernel_rfl) (eff_storeW (vs := [.int .i64 _, .int .i64 _, .int .i64 _, .slice _ _ _, .int .i64 _]) h sizeOf36 rfl rfl rfl rfl rfl) rfl rfl ?_
     rintro _ w h
     refine ⟨trivial, ?_⟩
     refine WT.done (by kernel_rfl) (W.ret (bodyQ.rcB (vs := [.int .i64 _, .int .i64 _, .int .i64 _, .slice _ _ _, .int .i64 _]) h results38 isAgg36 sizeOf36 rfl rfl rfl ?_))
     have he := actM_rv (u := u) (i := i) (c := (⟨kind, at_, n, data, key, new, typ, force⟩ : Cm)) (by show 10 ≤ kind; omega) (by show kind ≤ 15; omega)
     have hX0 : (rvM u.t i (⟨kind, at_, n, data, key, new, typ, force⟩ : Cm)).l = [] := by rw [hX]; exact rsvF_l
     have he : actM u i (⟨kind, at_, n, data, key, new, typ, force⟩ : Cm) = (u.setT (rvM u.t i (⟨kind, at_, n, data, key, new, typ, force⟩ : Cm)).t, (rvM u.t i (⟨kind, at_, n, data, key, new, typ, force⟩ : Cm)).r) := by rw [he, hX0]; rfl
     skip
     have hd := (doM_go (u := u) (i := i) (c := (⟨kind, at_, n, data, key, new, typ, force⟩ : Cm)) hi (show 1 ≤ kind by omega) (show kind ≤ 18 by omega) c7 hfree (allowB_iff.1 hal)).trans he
     exact ⟨pc, _, (rvM u.t i (⟨kind, at_, n, data, key, new, typ, force⟩ : Cm)).r, .slice none 0 0, hd, rfl, subK_refl, (by rw [rvM_r]; exact hnil), h.to⟩
    refine W.seq (W.region (WL.val (run_eql rfl rfl) rfl rfl (WL.val run_assign rfl rfl (WL.nil ?_))))
    refine W.condIf rfl (fun c66 => ?_) (fun c66 => ?_)
    ·
     refine W.seq ?_
     refine W.draw Tryz.follows h (fun w h => ?_)
     refine WT.pure 0 rfl (by kernel_rfl) (fun w' => run_move) rfl rfl (WT.pure 1 rfl (by kernel_rfl) (fun w' => (run_nilCheck rfl)) rfl rfl (WT.pure 2 rfl (by kernel_rfl) (fun w' => (run_fieldAddr 1 underlying89 rfl sizeOf82 rfl rfl)) rfl rfl (WT.load1 3 rfl (by kernel_rfl) isAgg82 rfl (h.cellB rfl) rfl rfl (WT.pure 4 rfl (by kernel_rfl) (fun w' => run_move) rfl rfl (WT.pure 5 rfl (by kernel_rfl) (fun w' => (run_fieldAddr 4 underlying25 rfl sizeOf23 rfl rfl)) rfl rfl (WT.load1 6 rfl (by kernel_rfl) isAgg23 rfl (h.cellB rfl) rfl rfl (WT.pure 7 rfl (by kernel_rfl) (fun w' => (run_fieldAddr 6 underlying25 rfl sizeOf3 rfl rfl)) rfl rfl ?_)))))))
     refine WT.load1 8 rfl (by kernel_rfl) isAgg3 rfl (h.cellB rfl) rfl rfl ?_
     -- SEVERAL MAY COME UP: [(9, ' (*gemel/gemelref15.Table).Release(t137, t138, t140, t142)'), (13, 'alloc api.Reply')]
     refine WT.two 9 13 (by kernel_rfl) ?_ ?_
     ·
      refine WT.opOf 9 [false, false, false] rfl (by kernel_rfl) (eff_call call91 (rrelease_ok (key := key) (typ := typ) (i := i) (t := u.t) (b := bt) hi hty6 (h.fetch (blk bt u.t.cells 137)))) rfl rfl ?_
      rintro v142 w ⟨a142, c142, hv142, h⟩
      have hX := rvM_rel (t := u.t) (i := i) (c := (⟨kind, at_, n, data, key, new, typ, force⟩ : Cm)) (show kind = 13 by omega)
      rw [← hX] at hv142 h
      subst hv142
      have h := setTb (bu := bu) (bs := bs) (t' := (rvM u.t i (⟨kind, at_, n, data, key, new, typ, force⟩ : Cm)).t) (u := u) hpk ((((h.fetch (PoolC pc)).fetch (blk bt (rvM u.t i (⟨kind, at_, n, data, key, new, typ, force⟩ : Cm)).t.cells 137)).fetch (RSpP 94 bs pc u.s)).fetch (blk bu (rcells bs bt xs) 89))
      refine ⟨trivial, ?_⟩
      refine WT.pure 10 rfl (by kernel_rfl) (fun w' => run_move) rfl rfl (WT.pure 11 rfl (by kernel_rfl) (fun w' => (run_extract rfl rfl)) rfl rfl (WT.pure 12 rfl (by kernel_rfl) (fun w' => (run_extract rfl rfl)) rfl rfl (WT.eff 13 [] rfl (by kernel_rfl) (by kernel_rfl) (eff_alloc h zeroValue36 rfl) rfl rfl ?_)))
      rintro _ w ⟨b13, rfl, h⟩
      refine ⟨trivial, ?_⟩
      refine WT.eff 14 [] rfl (by kernel_rfl) (by kernel_rfl) (eff_storeW (vs := [.int .i64 _, .int .i64 _, .int .i64 _, .slice _ _ _, .int .i64 _]) h sizeOf36 rfl rfl rfl rfl rfl) rfl rfl ?_
      rintro _ w h
      refine ⟨trivial, ?_⟩
      refine WT.pure 15 rfl (by kernel_rfl) (fun w' => run_assign) rfl rfl (WT.done (by kernel_rfl) (W.seq (W.region (WL.val run_move rfl rfl (WL.val run_move rfl rfl ?_)))))
      refine WL.eff (eff_call call89 (rnotes_ok (bu := bu) (u := u.setT (rvM u.t i (⟨kind, at_, n, data, key, new, typ, force⟩ : Cm)).t) (pc := pc) (l := (rvM u.t i (⟨kind, at_, n, data, key, new, typ, force⟩ : Cm)).l) (code := (rvM u.t i (⟨kind, at_, n, data, key, new, typ, force⟩ : Cm)).code) (a := a142) (c := c142) rvM_l.2.2.2 rvM_l.2.1 hsm (((h.fetch (PoolC pc)).fetch (RefU 89 94 137 bu pc (u.setT (rvM u.t i (⟨kind, at_, n, data, key, new, typ, force⟩ : Cm)).t))).fetch (Own 2 (.slice a142 (rvM u.t i (⟨kind, at_, n, data, key, new, typ, force⟩ : Cm)).l.length c142) (rvM u.t i (⟨kind, at_, n, data, key, new, typ, force⟩ : Cm)).l.length (notesV (rvM u.t i (⟨kind, at_, n, data, key, new, typ, force⟩ : Cm)).code (rvM u.t i (⟨kind, at_, n, data, key, new, typ, force⟩ : Cm)).l))))) rfl rfl ?_
      rintro _ w ⟨pc2, hs2, h⟩
      refine WL.nil (W.seq (W.region (WL.val (run_loadB (vs := [.int .i64 _, .int .i64 _, .int .i64 _, .slice _ _ _, .int .i64 _]) h isAgg36 sizeOf36 rfl rfl rfl) rfl rfl (WL.eff (eff_storeW (vs := [.int .i64 _, .int .i64 _, .int .i64 _, .slice _ _ _, .int .i64 _]) h sizeOf36 rfl rfl rfl rfl rfl) rfl rfl ?_))))
      rintro _ w h
      refine WL.nil (W.ret (bodyQ.rcB (vs := [.int .i64 _, .int .i64 _, .int .i64 _, .slice _ _ _, .int .i64 _]) h results38 isAgg36 sizeOf36 rfl rfl rfl ?_))
      have he := actM_rv (u := u) (i := i) (c := (⟨kind, at_, n, data, key, new, typ, force⟩ : Cm)) (by show 10 ≤ kind; omega) (by show kind ≤ 15; omega)
      have hd := (doM_go (u := u) (i := i) (c := (⟨kind, at_, n, data, key, new, typ, force⟩ : Cm)) hi (show 1 ≤ kind by omega) (show kind ≤ 18 by omega) c7 hfree (allowB_iff.1 hal)).trans he
      exact ⟨pc2, _, (rvM u.t i (⟨kind, at_, n, data, key, new, typ, force⟩ : Cm)).r, .slice none 0 0, hd, rfl, hs2, (by rw [rvM_r]; exact hs2 _ hnil), h.to⟩
     refine WT.opOf 13 [true, true, true] rfl (by kernel_rfl) (eff_alloc h zeroValue36 rfl) rfl rfl ?_
     rintro _ w ⟨b13, rfl, h⟩
     refine ⟨⟨h.cellB rfl, h.cellB rfl, h.cellB rfl, trivial⟩, ?_⟩
     refine WT.eff 9 [false, false, false] rfl (by kernel_rfl) (by kernel_rfl) (eff_call call91 (rrelease_ok (key := key) (typ := typ) (i := i) (t := u.t) (b := bt) hi hty6 (h.fetch (blk bt u.t.cells 137)))) rfl rfl ?_
     rintro v142 w ⟨a142, c142, hv142, h⟩
     have hX := rvM_rel (t := u.t) (i := i) (c := (⟨kind, at_, n, data, key, new, typ, force⟩ : Cm)) (show kind = 13 by omega)
     rw [← hX] at hv142 h
     subst hv142
     have h := setTb (bu := bu) (bs := bs) (t' := (rvM u.t i (⟨kind, at_, n, data, key, new, typ, force⟩ : Cm)).t) (u := u) hpk ((((h.fetch (PoolC pc)).fetch (blk bt (rvM u.t i (⟨kind, at_, n, data, key, new, typ, force⟩ : Cm)).t.cells 137)).fetch (RSpP 94 bs pc u.s)).fetch (blk bu (rcells bs bt xs) 89))
     refine ⟨trivial, ?_⟩
     refine WT.pure 10 rfl (by kernel_rfl) (fun w' => run_move) rfl rfl (WT.pure 11 rfl (by kernel_rfl) (fun w' => (run_extract rfl rfl)) rfl rfl (WT.pure 12 rfl (by kernel_rfl) (fun w' => (run_extract rfl rfl)) rfl rfl (WT.eff 14 [] rfl (by kernel_rfl) (by kernel_rfl) (eff_storeW (vs := [.int .i64 _, .int .i64 _, .int .i64 _, .slice _ _ _, .int .i64 _]) h sizeOf36 rfl rfl rfl rfl rfl) rfl rfl ?_)))
     rintro _ w h
     refine ⟨trivial, ?_⟩
     refine WT.pure 15 rfl (by kernel_rfl) (fun w' => run_assign) rfl rfl (WT.done (by kernel_rfl) (W.seq (W.region (WL.val run_move rfl rfl (WL.val run_move rfl rfl ?_)))))
     refine WL.eff (eff_call call89 (rnotes_ok (bu := bu) (u := u.setT (rvM u.t i (⟨kind, at_, n, data, key, new, typ, force⟩ : Cm)).t) (pc := pc) (l := (rvM u.t i (⟨kind, at_, n, data, key, new, typ, force⟩ : Cm)).l) (code := (rvM u.t i (⟨kind, at_, n, data, key, new, typ, force⟩ : Cm)).code) (a := a142) (c := c142) rvM_l.2.2.2 rvM_l.2.1 hsm (((h.fetch (PoolC pc)).fetch (RefU 89 94 137 bu pc (u.setT (rvM u.t i (⟨kind, at_, n, data, key, new, typ, force⟩ : Cm)).t))).fetch (Own 2 (.slice a142 (rvM u.t i (⟨kind, at_, n, data, key, new, typ, force⟩ : Cm)).l.length c142) (rvM u.t i (⟨kind, at_, n, data, key, new, typ, force⟩ : Cm)).l.length (notesV (rvM u.t i (⟨kind, at_, n, data, key, new, typ, force⟩ : Cm)).code (rvM u.t i (⟨kind, at_, n, data, key, new, typ, force⟩ : Cm)).l))))) rfl rfl ?_
     rintro _ w ⟨pc2, hs2, h⟩
     refine WL.nil (W.seq (W.region (WL.val (run_loadB (vs := [.int .i64 _, .int .i64 _, .int .i64 _, .slice _ _ _, .int .i64 _]) h isAgg36 sizeOf36 rfl rfl rfl) rfl rfl (WL.eff (eff_storeW (vs := [.int .i64 _, .int .i64 _, .int .i64 _, .slice _ _ _, .int .i64 _]) h sizeOf36 rfl rfl rfl rfl rfl) rfl rfl ?_))))
     rintro _ w h
     refine WL.nil (W.ret (bodyQ.rcB (vs := [.int .i64 _, .int .i64 _, .int .i64 _, .slice _ _ _, .int .i64 _]) h results38 isAgg36 sizeOf36 rfl rfl rfl ?_))
     have he := actM_rv (u := u) (i := i) (c := (⟨kind, at_, n, data, key, new, typ, force⟩ : Cm)) (by show 10 ≤ kind; omega) (by show kind ≤ 15; omega)
     have hd := (doM_go (u := u) (i := i) (c := (⟨kind, at_, n, data, key, new, typ, force⟩ : Cm)) hi (show 1 ≤ kind by omega) (show kind ≤ 18 by omega) c7 hfree (allowB_iff.1 hal)).trans he
     exact ⟨pc2, _, (rvM u.t i (⟨kind, at_, n, data, key, new, typ, force⟩ : Cm)).r, .slice none 0 0, hd, rfl, hs2, (by rw [rvM_r]; exact hs2 _ hnil), h.to⟩
    refine W.seq (W.region (WL.val (run_eql rfl rfl) rfl rfl (WL.val run_assign rfl rfl (WL.nil ?_))))
    refine W.condIf rfl (fun c72 => ?_) (fun c72 => ?_)
    ·
     refine W.seq ?_
     refine W.draw Tryz.follows h (fun w h => ?_)
     refine WT.pure 0 rfl (by kernel_rfl) (fun w' => run_move) rfl rfl (WT.pure 1 rfl (by kernel_rfl) (fun w' => (run_nilCheck rfl)) rfl rfl (WT.pure 2 rfl (by kernel_rfl) (fun w' => (run_fieldAddr 1 underlying89 rfl sizeOf82 rfl rfl)) rfl rfl (WT.load1 3 rfl (by kernel_rfl) isAgg82 rfl (h.cellB rfl) rfl rfl (WT.pure 4 rfl (by kernel_rfl) (fun w' => run_move) rfl rfl (WT.pure 5 rfl (by kernel_rfl) (fun w' => (run_fieldAddr 4 underlying25 rfl sizeOf23 rfl rfl)) rfl rfl (WT.load1 6 rfl (by kernel_rfl) isAgg23 rfl (h.cellB rfl) rfl rfl ?_))))))
     -- SEVERAL MAY COME UP: [(7, ' (*gemel/gemelref15.Table).Clear(t156, t157, t159)'), (11, 'alloc api.Reply')]
     refine WT.two 7 11 (by kernel_rfl) ?_ ?_
     ·
      refine WT.opOf 7 [false, false] rfl (by kernel_rfl) (eff_call call92 (rclear_ok (key := key) (i := i) (t := u.t) (b := bt) hi (h.fetch (blk bt u.t.cells 137)))) rfl rfl ?_
      rintro v160 w ⟨a160, c160, hv160, h⟩
      have hX := rvM_clr (t := u.t) (i := i) (c := (⟨kind, at_, n, data, key, new, typ, force⟩ : Cm)) (show kind = 14 by omega)
      rw [← hX] at hv160 h
      subst hv160
      have h := setTb (bu := bu) (bs := bs) (t' := (rvM u.t i (⟨kind, at_, n, data, key, new, typ, force⟩ : Cm)).t) (u := u) hpk ((((h.fetch (PoolC pc)).fetch (blk bt (rvM u.t i (⟨kind, at_, n, data, key, new, typ, force⟩ : Cm)).t.cells 137)).fetch (RSpP 94 bs pc u.s)).fetch (blk bu (rcells bs bt xs) 89))
      refine ⟨trivial, ?_⟩
      refine WT.pure 8 rfl (by kernel_rfl) (fun w' => run_move) rfl rfl (WT.pure 9 rfl (by kernel_rfl) (fun w' => (run_extract rfl rfl)) rfl rfl (WT.pure 10 rfl (by kernel_rfl) (fun w' => (run_extract rfl rfl)) rfl rfl (WT.eff 11 [] rfl (by kernel_rfl) (by kernel_rfl) (eff_alloc h zeroValue36 rfl) rfl rfl ?_)))
      rintro _ w ⟨b15, rfl, h⟩
      refine ⟨trivial, ?_⟩
      refine WT.eff 12 [] rfl (by kernel_rfl) (by kernel_rfl) (eff_storeW (vs := [.int .i64 _, .int .i64 _, .int .i64 _, .slice _ _ _, .int .i64 _]) h sizeOf36 rfl rfl rfl rfl rfl) rfl rfl ?_
      rintro _ w h
      refine ⟨trivial, ?_⟩
      refine WT.pure 13 rfl (by kernel_rfl) (fun w' => run_assign) rfl rfl (WT.done (by kernel_rfl) (W.seq (W.region (WL.val run_move rfl rfl (WL.val run_move rfl rfl ?_)))))
      refine WL.eff (eff_call call89 (rnotes_ok (bu := bu) (u := u.setT (rvM u.t i (⟨kind, at_, n, data, key, new, typ, force⟩ : Cm)).t) (pc := pc) (l := (rvM u.t i (⟨kind, at_, n, data, key, new, typ, force⟩ : Cm)).l) (code := (rvM u.t i (⟨kind, at_, n, data, key, new, typ, force⟩ : Cm)).code) (a := a160) (c := c160) rvM_l.2.2.2 rvM_l.2.1 hsm (((h.fetch (PoolC pc)).fetch (RefU 89 94 137 bu pc (u.setT (rvM u.t i (⟨kind, at_, n, data, key, new, typ, force⟩ : Cm)).t))).fetch (Own 2 (.slice a160 (rvM u.t i (⟨kind, at_, n, data, key, new, typ, force⟩ : Cm)).l.length c160) (rvM u.t i (⟨kind, at_, n, data, key, new, typ, force⟩ : Cm)).l.length (notesV (rvM u.t i (⟨kind, at_, n, data, key, new, typ, force⟩ : Cm)).code (rvM u.t i (⟨kind, at_, n, data, key, new, typ, force⟩ : Cm)).l))))) rfl rfl ?_
      rintro _ w ⟨pc2, hs2, h⟩
      refine WL.nil (W.seq (W.region (WL.val (run_loadB (vs := [.int .i64 _, .int .i64 _, .int .i64 _, .slice _ _ _, .int .i64 _]) h isAgg36 sizeOf36 rfl rfl rfl) rfl rfl (WL.eff (eff_storeW (vs := [.int .i64 _, .int .i64 _, .int .i64 _, .slice _ _ _, .int .i64 _]) h sizeOf36 rfl rfl rfl rfl rfl) rfl rfl ?_))))
      rintro _ w h
      refine WL.nil (W.ret (bodyQ.rcB (vs := [.int .i64 _, .int .i64 _, .int .i64 _, .slice _ _ _, .int .i64 _]) h results38 isAgg36 sizeOf36 rfl rfl rfl ?_))
      have he := actM_rv (u := u) (i := i) (c := (⟨kind, at_, n, data, key, new, typ, force⟩ : Cm)) (by show 10 ≤ kind; omega) (by show kind ≤ 15; omega)
      have hd := (doM_go (u := u) (i := i) (c := (⟨kind, at_, n, data, key, new, typ, force⟩ : Cm)) hi (show 1 ≤ kind by omega) (show kind ≤ 18 by omega) c7 hfree (allowB_iff.1 hal)).trans he
      exact ⟨pc2, _, (rvM u.t i (⟨kind, at_, n, data, key, new, typ, force⟩ : Cm)).r, .slice none 0 0, hd, rfl, hs2, (by rw [rvM_r]; exact hs2 _ hnil), h.to⟩
     refine WT.opOf 11 [true, true] rfl (by kernel_rfl) (eff_alloc h zeroValue36 rfl) rfl rfl ?_
     rintro _ w ⟨b15, rfl, h⟩
     refine ⟨⟨h.cellB rfl, h.cellB rfl, trivial⟩, ?_⟩
     refine WT.eff 7 [false, false] rfl (by kernel_rfl) (by kernel_rfl) (eff_call call92 (rclear_ok (key := key) (i := i) (t := u.t) (b := bt) hi (h.fetch (blk bt u.t.cells 137)))) rfl rfl ?_
     rintro v160 w ⟨a160, c160, hv160, h⟩
     have hX := rvM_clr (t := u.t) (i := i) (c := (⟨kind, at_, n, data, key, new, typ, force⟩ : Cm)) (show kind = 14 by omega)
     rw [← hX] at hv160 h
     subst hv160
     have h := setTb (bu := bu) (bs := bs) (t' := (rvM u.t i (⟨kind, at_, n, data, key, new, typ, force⟩ : Cm)).t) (u := u) hpk ((((h.fetch (PoolC pc)).fetch (blk bt (rvM u.t i (⟨kind, at_, n, data, key, new, typ, force⟩ : Cm)).t.cells 137)).fetch (RSpP 94 bs pc u.s)).fetch (blk bu (rcells bs bt xs) 89))
     refine ⟨trivial, ?_⟩
     refine WT.pure 8 rfl (by kernel_rfl) (fun w' => run_move) rfl rfl (WT.pure 9 rfl (by kernel_rfl) (fun w' => (run_extract rfl rfl)) rfl rfl (WT.pure 10 rfl (by kernel_rfl) (fun w' => (run_extract rfl rfl)) rfl rfl (WT.eff 12 [] rfl (by kernel_rfl) (by kernel_rfl) (eff_storeW (vs := [.int .i64 _, .int .i64 _, .int .i64 _, .slice _ _ _, .int .i64 _]) h sizeOf36 rfl rfl rfl rfl rfl) rfl rfl ?_)))
     rintro _ w h
     refine ⟨trivial, ?_⟩
     refine WT.pure 13 rfl (by kernel_rfl) (fun w' => run_assign) rfl rfl (WT.done (by kernel_rfl) (W.seq (W.region (WL.val run_move rfl rfl (WL.val run_move rfl rfl ?_)))))
     refine WL.eff (eff_call call89 (rnotes_ok (bu := bu) (u := u.setT (rvM u.t i (⟨kind, at_, n, data, key, new, typ, force⟩ : Cm)).t) (pc := pc) (l := (rvM u.t i (⟨kind, at_, n, data, key, new, typ, force⟩ : Cm)).l) (code := (rvM u.t i (⟨kind, at_, n, data, key, new, typ, force⟩ : Cm)).code) (a := a160) (c := c160) rvM_l.2.2.2 rvM_l.2.1 hsm (((h.fetch (PoolC pc)).fetch (RefU 89 94 137 bu pc (u.setT (rvM u.t i (⟨kind, at_, n, data, key, new, typ, force⟩ : Cm)).t))).fetch (Own 2 (.slice a160 (rvM u.t i (⟨kind, at_, n, data, key, new, typ, force⟩ : Cm)).l.length c160) (rvM u.t i (⟨kind, at_, n, data, key, new, typ, force⟩ : Cm)).l.length (notesV (rvM u.t i (⟨kind, at_, n, data, key, new, typ, force⟩ : Cm)).code (rvM u.t i (⟨kind, at_, n, data, key, new, typ, force⟩ : Cm)).l))))) rfl rfl ?_
     rintro _ w ⟨pc2, hs2, h⟩
     refine WL.nil (W.seq (W.region (WL.val (run_loadB (vs := [.int .i64 _, .int .i64 _, .int .i64 _, .slice _ _ _, .int .i64 _]) h isAgg36 sizeOf36 rfl rfl rfl) rfl rfl (WL.eff (eff_storeW (vs := [.int .i64 _, .int .i64 _, .int .i64 _, .slice _ _ _, .int .i64 _]) h sizeOf36 rfl rfl rfl rfl rfl) rfl rfl ?_))))
     rintro _ w h
     refine WL.nil (W.ret (bodyQ.rcB (vs := [.int .i64 _, .int .i64 _, .int .i64 _, .slice _ _ _, .int .i64 _]) h results38 isAgg36 sizeOf36 rfl rfl rfl ?_))
     have he := actM_rv (u := u) (i := i) (c := (⟨kind, at_, n, data, key, new, typ, force⟩ : Cm)) (by show 10 ≤ kind; omega) (by show kind ≤ 15; omega)
     have hd := (doM_go (u := u) (i := i) (c := (⟨kind, at_, n, data, key, new, typ, force⟩ : Cm)) hi (show 1 ≤ kind by omega) (show kind ≤ 18 by omega) c7 hfree (allowB_iff.1 hal)).trans he
     exact ⟨pc2, _, (rvM u.t i (⟨kind, at_, n, data, key, new, typ, force⟩ : Cm)).r, .slice none 0 0, hd, rfl, hs2, (by rw [rvM_r]; exact hs2 _ hnil), h.to⟩
    refine W.seq (W.region (WL.val (run_eql rfl rfl) rfl rfl (WL.val run_assign rfl rfl (WL.nil ?_))))
    refine W.condIf rfl (fun c78 => ?_) (fun c78 => ?_)
    ·
     refine W.seq ?_
     refine W.draw Tryz.follows h (fun w h => ?_)
     refine WT.pure 0 rfl (by kernel_rfl) (fun w' => run_move) rfl rfl (WT.pure 1 rfl (by kernel_rfl) (fun w' => (run_nilCheck rfl)) rfl rfl (WT.pure 2 rfl (by kernel_rfl) (fun w' => (run_fieldAddr 1 underlying89 rfl sizeOf82 rfl rfl)) rfl rfl (WT.load1 3 rfl (by kernel_rfl) isAgg82 rfl (h.cellB rfl) rfl rfl (WT.pure 4 rfl (by kernel_rfl) (fun w' => run_move) rfl rfl (WT.pure 5 rfl (by kernel_rfl) (fun w' => (run_fieldAddr 4 underlying25 rfl sizeOf23 rfl rfl)) rfl rfl (WT.load1 6 rfl (by kernel_rfl) isAgg23 rfl (h.cellB rfl) rfl rfl (WT.pure 7 rfl (by kernel_rfl) (fun w' => (run_fieldAddr 5 underlying25 rfl sizeOf23 rfl rfl)) rfl rfl ?_)))))))
     refine WT.load1 8 rfl (by kernel_rfl) isAgg23 rfl (h.cellB rfl) rfl rfl (WT.pure 9 rfl (by kernel_rfl) (fun w' => (run_fieldAddr 6 underlying25 rfl sizeOf3 rfl rfl)) rfl rfl (WT.load1 10 rfl (by kernel_rfl) isAgg3 rfl (h.cellB rfl) rfl rfl ?_))
     -- SEVERAL MAY COME UP: [(11, ' (*gemel/gemelref15.Table).Preempt(t173, t174, t176, t178, t180)'), (15, 'alloc api.Reply')]
     refine WT.two 11 15 (by kernel_rfl) ?_ ?_
     ·
      refine WT.opOf 11 [false, false, false, false] rfl (by kernel_rfl) (eff_call call93 (rpreempt_ok (key := key) (other := new) (typ := typ) (i := i) (t := u.t) (b := bt) hi (goodT_hold hgt) (h.fetch (blk bt u.t.cells 137)))) rfl rfl ?_
      rintro v181 w ⟨a181, c181, hv181, h⟩
      have hX := rvM_pre (t := u.t) (i := i) (c := (⟨kind, at_, n, data, key, new, typ, force⟩ : Cm)) (show kind = 15 by omega)
      rw [← hX] at hv181 h
      subst hv181
      have h := setTb (bu := bu) (bs := bs) (t' := (rvM u.t i (⟨kind, at_, n, data, key, new, typ, force⟩ : Cm)).t) (u := u) hpk ((((h.fetch (PoolC pc)).fetch (blk bt (rvM u.t i (⟨kind, at_, n, data, key, new, typ, force⟩ : Cm)).t.cells 137)).fetch (RSpP 94 bs pc u.s)).fetch (blk bu (rcells bs bt xs) 89))
      refine ⟨trivial, ?_⟩
      refine WT.pure 12 rfl (by kernel_rfl) (fun w' => run_move) rfl rfl (WT.pure 13 rfl (by kernel_rfl) (fun w' => (run_extract rfl rfl)) rfl rfl (WT.pure 14 rfl (by kernel_rfl) (fun w' => (run_extract rfl rfl)) rfl rfl (WT.eff 15 [] rfl (by kernel_rfl) (by kernel_rfl) (eff_alloc h zeroValue36 rfl) rfl rfl ?_)))
      rintro _ w ⟨b17, rfl, h⟩
      refine ⟨trivial, ?_⟩
      refine WT.eff 16 [] rfl (by kernel_rfl) (by kernel_rfl) (eff_storeW (vs := [.int .i64 _, .int .i64 _, .int .i64 _, .slice _ _ _, .int .i64 _]) h sizeOf36 rfl rfl rfl rfl rfl) rfl rfl ?_
      rintro _ w h
      refine ⟨trivial, ?_⟩
      refine WT.pure 17 rfl (by kernel_rfl) (fun w' => run_assign) rfl rfl (WT.done (by kernel_rfl) (W.seq (W.region (WL.val run_move rfl rfl (WL.val run_move rfl rfl ?_)))))
      refine WL.eff (eff_call call89 (rnotes_ok (bu := bu) (u := u.setT (rvM u.t i (⟨kind, at_, n, data, key, new, typ, force⟩ : Cm)).t) (pc := pc) (l := (rvM u.t i (⟨kind, at_, n, data, key, new, typ, force⟩ : Cm)).l) (code := (rvM u.t i (⟨kind, at_, n, data, key, new, typ, force⟩ : Cm)).code) (a := a181) (c := c181) rvM_l.2.2.2 rvM_l.2.1 hsm (((h.fetch (PoolC pc)).fetch (RefU 89 94 137 bu pc (u.setT (rvM u.t i (⟨kind, at_, n, data, key, new, typ, force⟩ : Cm)).t))).fetch (Own 2 (.slice a181 (rvM u.t i (⟨kind, at_, n, data, key, new, typ, force⟩ : Cm)).l.length c181) (rvM u.t i (⟨kind, at_, n, data, key, new, typ, force⟩ : Cm)).l.length (notesV (rvM u.t i (⟨kind, at_, n, data, key, new, typ, force⟩ : Cm)).code (rvM u.t i (⟨kind, at_, n, data, key, new, typ, force⟩ : Cm)).l))))) rfl rfl ?_
      rintro _ w ⟨pc2, hs2, h⟩
      refine WL.nil (W.seq (W.region (WL.val (run_loadB (vs := [.int .i64 _, .int .i64 _, .int .i64 _, .slice _ _ _, .int .i64 _]) h isAgg36 sizeOf36 rfl rfl rfl) rfl rfl (WL.eff (eff_storeW (vs := [.int .i64 _, .int .i64 _, .int .i64 _, .slice _ _ _, .int .i64 _]) h sizeOf36 rfl rfl rfl rfl rfl) rfl rfl ?_))))
      rintro _ w h
      refine WL.nil (W.ret (bodyQ.rcB (vs := [.int .i64 _, .int .i64 _, .int .i64 _, .slice _ _ _, .int .i64 _]) h results38 isAgg36 sizeOf36 rfl rfl rfl ?_))
      have he := actM_rv (u := u) (i := i) (c := (⟨kind, at_, n, data, key, new, typ, force⟩ : Cm)) (by show 10 ≤ kind; omega) (by show kind ≤ 15; omega)
      have hd := (doM_go (u := u) (i := i) (c := (⟨kind, at_, n, data, key, new, typ, force⟩ : Cm)) hi (show 1 ≤ kind by omega) (show kind ≤ 18 by omega) c7 hfree (allowB_iff.1 hal)).trans he
      exact ⟨pc2, _, (rvM u.t i (⟨kind, at_, n, data, key, new, typ, force⟩ : Cm)).r, .slice none 0 0, hd, rfl, hs2, (by rw [rvM_r]; exact hs2 _ hnil), h.to⟩
     refine WT.opOf 15 [true, true, true, true] rfl (by kernel_rfl) (eff_alloc h zeroValue36 rfl) rfl rfl ?_
     rintro _ w ⟨b17, rfl, h⟩
     refine ⟨⟨h.cellB rfl, h.cellB rfl, h.cellB rfl, h.cellB rfl, trivial⟩, ?_⟩
     refine WT.eff 11 [false, false, false, false] rfl (by kernel_rfl) (by kernel_rfl) (eff_call call93 (rpreempt_ok (key := key) (other := new) (typ := typ) (i := i) (t := u.t) (b := bt) hi (goodT_hold hgt) (h.fetch (blk bt u.t.cells 137)))) rfl rfl ?_
     rintro v181 w ⟨a181, c181, hv181, h⟩
     have hX := rvM_pre (t := u.t) (i := i) (c := (⟨kind, at_, n, data, key, new, typ, force⟩ : Cm)) (show kind = 15 by omega)
     rw [← hX] at hv181 h
     subst hv181
     have h := setTb (bu := bu) (bs := bs) (t' := (rvM u.t i (⟨kind, at_, n, data, key, new, typ, force⟩ : Cm)).t) (u := u) hpk ((((h.fetch (PoolC pc)).fetch (blk bt (rvM u.t i (⟨kind, at_, n, data, key, new, typ, force⟩ : Cm)).t.cells 137)).fetch (RSpP 94 bs pc u.s)).fetch (blk bu (rcells bs bt xs) 89))
     refine ⟨trivial, ?_⟩
     refine WT.pure 12 rfl (by kernel_rfl) (fun w' => run_move) rfl rfl (WT.pure 13 rfl (by kernel_rfl) (fun w' => (run_extract rfl rfl)) rfl rfl (WT.pure 14 rfl (by kernel_rfl) (fun w' => (run_extract rfl rfl)) rfl rfl (WT.eff 16 [] rfl (by kernel_rfl) (by kernel_rfl) (eff_storeW (vs := [.int .i64 _, .int .i64 _, .int .i64 _, .slice _ _ _, .int .i64 _]) h sizeOf36 rfl rfl rfl rfl rfl) rfl rfl ?_)))
     rintro _ w h
     refine ⟨trivial, ?_⟩
     refine WT.pure 17 rfl (by kernel_rfl) (fun w' => run_assign) rfl rfl (WT.done (by kernel_rfl) (W.seq (W.region (WL.val run_move rfl rfl (WL.val run_move rfl rfl ?_)))))
     refine WL.eff (eff_call call89 (rnotes_ok (bu := bu) (u := u.setT (rvM u.t i (⟨kind, at_, n, data, key, new, typ, force⟩ : Cm)).t) (pc := pc) (l := (rvM u.t i (⟨kind, at_, n, data, key, new, typ, force⟩ : Cm)).l) (code := (rvM u.t i (⟨kind, at_, n, data, key, new, typ, force⟩ : Cm)).code) (a := a181) (c := c181) rvM_l.2.2.2 rvM_l.2.1 hsm (((h.fetch (PoolC pc)).fetch (RefU 89 94 137 bu pc (u.setT (rvM u.t i (⟨kind, at_, n, data, key, new, typ, force⟩ : Cm)).t))).fetch (Own 2 (.slice a181 (rvM u.t i (⟨kind, at_, n, data, key, new, typ, force⟩ : Cm)).l.length c181) (rvM u.t i (⟨kind, at_, n, data, key, new, typ, force⟩ : Cm)).l.length (notesV (rvM u.t i (⟨kind, at_, n, data, key, new, typ, force⟩ : Cm)).code (rvM u.t i (⟨kind, at_, n, data, key, new, typ, force⟩ : Cm)).l))))) rfl rfl ?_
     rintro _ w ⟨pc2, hs2, h⟩
     refine WL.nil (W.seq (W.region (WL.val (run_loadB (vs := [.int .i64 _, .int .i64 _, .int .i64 _, .slice _ _ _, .int .i64 _]) h isAgg36 sizeOf36 rfl rfl rfl) rfl rfl (WL.eff (eff_storeW (vs := [.int .i64 _, .int .i64 _, .int .i64 _, .slice _ _ _, .int .i64 _]) h sizeOf36 rfl rfl rfl rfl rfl) rfl rfl ?_))))
     rintro _ w h
     refine WL.nil (W.ret (bodyQ.rcB (vs := [.int .i64 _, .int .i64 _, .int .i64 _, .slice _ _ _, .int .i64 _]) h results38 isAgg36 sizeOf36 rfl rfl rfl ?_))
     have he := actM_rv (u := u) (i := i) (c := (⟨kind, at_, n, data, key, new, typ, force⟩ : Cm)) (by show 10 ≤ kind; omega) (by show kind ≤ 15; omega)
     have hd := (doM_go (u := u) (i := i) (c := (⟨kind, at_, n, data, key, new, typ, force⟩ : Cm)) hi (show 1 ≤ kind by omega) (show kind ≤ 18 by omega) c7 hfree (allowB_iff.1 hal)).trans he
     exact ⟨pc2, _, (rvM u.t i (⟨kind, at_, n, data, key, new, typ, force⟩ : Cm)).r, .slice none 0 0, hd, rfl, hs2, (by rw [rvM_r]; exact hs2 _ hnil), h.to⟩
    refine W.seq (W.region (WL.val (run_eql rfl rfl) rfl rfl (WL.val run_assign rfl rfl (WL.nil ?_))))
    refine W.condIf rfl (fun c84 => ?_) (fun c84 => ?_)
    ·
     refine W.seq ?_
     refine W.draw Tryz.follows h (fun w h => ?_)
     refine WT.pure 0 rfl (by kernel_rfl) (fun w' => run_move) rfl rfl (WT.pure 1 rfl (by kernel_rfl) (fun w' => (run_nilCheck rfl)) rfl rfl (WT.pure 2 rfl (by kernel_rfl) (fun w' => (run_fieldAddr 1 underlying89 rfl sizeOf82 rfl rfl)) rfl rfl (WT.load1 3 rfl (by kernel_rfl) isAgg82 rfl (h.cellB rfl) rfl rfl (WT.pure 4 rfl (by kernel_rfl) (fun w' => (run_nilCheck rfl)) rfl rfl (WT.pure 5 rfl (by kernel_rfl) (fun w' => (run_fieldAddr 10 underlying137 rfl sizeOf111 rfl rfl)) rfl rfl (WT.load1 6 rfl (by kernel_rfl) isAgg111 rfl ((h.cellB rfl).trans (congrArg (fun z : Int => some (Value.int .u32 z)) egen)) rfl rfl (WT.pure 7 rfl (by kernel_rfl) (fun w' => run_move) rfl rfl ?_)))))))
     refine WT.pure 8 rfl (by kernel_rfl) (fun w' => (run_nilCheck rfl)) rfl rfl (WT.pure 9 rfl (by kernel_rfl) (fun w' => (run_fieldAddr 1 underlying89 rfl sizeOf82 rfl rfl)) rfl rfl (WT.load1 10 rfl (by kernel_rfl) isAgg82 rfl (h.cellB rfl) rfl rfl (WT.eff 11 [false, true, true] rfl (by kernel_rfl) (by kernel_rfl) (eff_call call95 (rlist_ok (t := u.t) (b := bt) (h.fetch (blk bt u.t.cells 137)))) rfl rfl ?_)))
     rintro _ w ⟨a201, c201, rfl, h⟩
     refine ⟨⟨(h.cellB rfl).trans (congrArg (fun z : Int => some (Value.int .u32 z)) egen), h.cellB rfl, trivial⟩, ?_⟩
     refine WT.eff 12 [false, false] rfl (by kernel_rfl) (by kernel_rfl) (eff_call call94 (rkeys6_ok (g := u.t.gen.toNat) (ks := keysN u.t.K 8) (ak := a201) (ck := c201) (by have := hgok.2; omega) (fun x hx => by have hm := keysN_mem hx; obtain ⟨q, hq, e⟩ := hm; rw [e]; exact hgok.1 q hq) (keysN_len ..) h (Gives.ownO (v := .slice a201 (keysN u.t.K 8).length c201)))) rfl rfl ?_
     rintro v202 w ⟨a202, c202, hv202, h⟩
     rw [keysP_all] at hv202 h
     subst hv202
     refine ⟨trivial, ?_⟩
     refine WT.pure 13 rfl (by kernel_rfl) (fun w' => (run_buildS (pl := [(0, 1), (1, 1), (2, 1), (3, 1), (4, 1)]) (out := [.int .i64 _, .int .i64 _, .int .i64 _, .slice _ _ _, .int .i64 _]) underlying36 zeroValue36 (fun w => by kernel_rfl) rfl (⟨⟨_, _, rfl, rfl, by decide⟩, trivial⟩) rfl)) rfl rfl (WT.eff 14 [] rfl (by kernel_rfl) (by kernel_rfl) (eff_storeW (vs := [.int .i64 _, .int .i64 _, .int .i64 _, .slice _ _ _, .int .i64 _]) h sizeOf36 rfl rfl rfl rfl rfl) rfl rfl ?_)
     rintro _ w h
     refine ⟨trivial, ?_⟩
     refine WT.done (by kernel_rfl) (W.ret (bodyQ.rcB (vs := [.int .i64 _, .int .i64 _, .int .i64 _, .slice _ _ _, .int .i64 _]) h results38 isAgg36 sizeOf36 rfl rfl rfl ?_))
     have h := closeF (bu := bu) (u := u) hpk ((((h.fetch (PoolC pc)).fetch (blk bt u.t.cells 137)).fetch (RSpP 94 bs pc u.s)).fetch (blk bu (rcells bs bt xs) 89))
     have hf := finB (L := L) (a := a202) (c := c202) (ys := keysB u.t) (h.to : On W0 (OwnB (.slice a202 (keysB u.t).length c202) (keysB u.t) :: RefU 89 94 137 bu pc u :: PoolC pc :: L) _)
     obtain ⟨pc2, hs2, hin2, h⟩ := hf
     have he := actM_keys (u := u) (i := i) (c := (⟨kind, at_, n, data, key, new, typ, force⟩ : Cm)) (show kind = 16 by omega)
     have hd := (doM_go (u := u) (i := i) (c := (⟨kind, at_, n, data, key, new, typ, force⟩ : Cm)) hi (show 1 ≤ kind by omega) (show kind ≤ 18 by omega) c7 hfree (allowB_iff.1 hal)).trans he
     exact ⟨pc2, u, gave (keysB u.t), _, hd, rfl, hs2, hin2, h.to⟩
    refine W.seq (W.region (WL.val (run_eql rfl rfl) rfl rfl (WL.val run_assign rfl rfl (WL.nil ?_))))
    refine W.condIf rfl (fun c88 => ?_) (fun c88 => ?_)
    ·
     refine W.seq ?_
     have htyp := goodT_typ hgt
     have etyp : u.t.typ = ((u.t.typ.toNat : Nat) : Int) := by omega
     refine W.draw Tryz.follows h (fun w h => ?_)
     refine WT.pure 0 rfl (by kernel_rfl) (fun w' => run_move) rfl rfl (WT.pure 1 rfl (by kernel_rfl) (fun w' => (run_nilCheck rfl)) rfl rfl (WT.pure 2 rfl (by kernel_rfl) (fun w' => (run_fieldAddr 1 underlying89 rfl sizeOf82 rfl rfl)) rfl rfl (WT.load1 3 rfl (by kernel_rfl) isAgg82 rfl (h.cellB rfl) rfl rfl (WT.pure 4 rfl (by kernel_rfl) (fun w' => (run_nilCheck rfl)) rfl rfl (WT.pure 5 rfl (by kernel_rfl) (fun w' => (run_fieldAddr 10 underlying137 rfl sizeOf111 rfl rfl)) rfl rfl (WT.load1 6 rfl (by kernel_rfl) isAgg111 rfl ((h.cellB rfl).trans (congrArg (fun z : Int => some (Value.int .u32 z)) egen)) rfl rfl (WT.pure 7 rfl (by kernel_rfl) (fun w' => run_move) rfl rfl ?_)))))))
     refine WT.pure 8 rfl (by kernel_rfl) (fun w' => (run_nilCheck rfl)) rfl rfl (WT.pure 9 rfl (by kernel_rfl) (fun w' => (run_fieldAddr 1 underlying89 rfl sizeOf82 rfl rfl)) rfl rfl (WT.load1 10 rfl (by kernel_rfl) isAgg82 rfl (h.cellB rfl) rfl rfl (WT.pure 11 rfl (by kernel_rfl) (fun w' => run_move) rfl rfl (WT.pure 12 rfl (by kernel_rfl) (fun w' => (run_nilCheck rfl)) rfl rfl (WT.pure 13 rfl (by kernel_rfl) (fun w' => (run_fieldAddr 1 underlying89 rfl sizeOf82 rfl rfl)) rfl rfl (WT.load1 14 rfl (by kernel_rfl) isAgg82 rfl (h.cellB rfl) rfl rfl (WT.pure 15 rfl (by kernel_rfl) (fun w' => (run_nilCheck rfl)) rfl rfl ?_)))))))
     refine WT.pure 16 rfl (by kernel_rfl) (fun w' => (run_fieldAddr 8 underlying137 rfl sizeOf3 rfl rfl)) rfl rfl (WT.load1 17 rfl (by kernel_rfl) isAgg3 rfl (h.cellB rfl) rfl rfl (WT.pure 19 rfl (by kernel_rfl) (fun w' => run_move) rfl rfl (WT.pure 20 rfl (by kernel_rfl) (fun w' => (run_nilCheck rfl)) rfl rfl (WT.pure 21 rfl (by kernel_rfl) (fun w' => (run_fieldAddr 1 underlying89 rfl sizeOf82 rfl rfl)) rfl rfl (WT.load1 22 rfl (by kernel_rfl) isAgg82 rfl (h.cellB rfl) rfl rfl (WT.pure 23 rfl (by kernel_rfl) (fun w' => (run_nilCheck rfl)) rfl rfl (WT.pure 24 rfl (by kernel_rfl) (fun w' => (run_fieldAddr 9 underlying137 rfl sizeOf3 rfl rfl)) rfl rfl ?_)))))))
     refine WT.load1 25 rfl (by kernel_rfl) isAgg3 rfl ((h.cellB rfl).trans (congrArg (fun z : Int => some (Value.int .i64 z)) etyp)) rfl rfl (WT.eff 18 [true, true, false, false, false, true, true] rfl (by kernel_rfl) (by kernel_rfl) (eff_call call97 (rkey_ok (t := u.t) (b := bt) (hh := u.t.hold) (h.fetch (blk bt u.t.cells 137)))) rfl rfl ?_)
     rintro v149 w ⟨hv149, h⟩
     have hv149 : v149 = .int .u64 (holdK u.t) := hv149
     have hkk : 0 ≤ holdK u.t ∧ holdK u.t < 18446744073709551616 := by
       unfold holdK
       split
       · rename_i hb
         have hb := hostB_iff.1 hb
         exact hgok.1 _ (by omega)
       · exact ⟨Int.le_refl 0, by decide⟩
     have ekk : holdK u.t = (((holdK u.t).toNat : Nat) : Int) := by omega
     rw [ekk] at hv149
     subst hv149
     refine ⟨⟨(h.cellB rfl).trans (congrArg (fun z : Int => some (Value.int .i64 z)) etyp), h.cellB rfl, (h.cellB rfl).trans (congrArg (fun z : Int => some (Value.int .u32 z)) egen), h.cellB rfl, trivial⟩, ?_⟩
     refine WT.eff 26 [false, false, false, false] rfl (by kernel_rfl) (by kernel_rfl) (eff_call call96 (rholder6_ok (g := u.t.gen.toNat) (key := (holdK u.t).toNat) (y := u.t.typ.toNat) (by have := hgok.2; omega) (by omega) (by omega) h)) rfl rfl ?_
     rintro v232 w ⟨a232, c232, hv232, h⟩
     rw [← holdB_P htyp.1] at hv232 h
     subst hv232
     refine ⟨trivial, ?_⟩
     refine WT.pure 27 rfl (by kernel_rfl) (fun w' => (run_buildS (pl := [(0, 1), (1, 1), (2, 1), (3, 1), (4, 1)]) (out := [.int .i64 _, .int .i64 _, .int .i64 _, .slice _ _ _, .int .i64 _]) underlying36 zeroValue36 (fun w => by kernel_rfl) rfl (⟨⟨_, _, rfl, rfl, by decide⟩, trivial⟩) rfl)) rfl rfl (WT.eff 28 [] rfl (by kernel_rfl) (by kernel_rfl) (eff_storeW (vs := [.int .i64 _, .int .i64 _, .int .i64 _, .slice _ _ _, .int .i64 _]) h sizeOf36 rfl rfl rfl rfl rfl) rfl rfl ?_)
     rintro _ w h
     refine ⟨trivial, ?_⟩
     refine WT.done (by kernel_rfl) (W.ret (bodyQ.rcB (vs := [.int .i64 _, .int .i64 _, .int .i64 _, .slice _ _ _, .int .i64 _]) h results38 isAgg36 sizeOf36 rfl rfl rfl ?_))
     have h := closeF (bu := bu) (u := u) hpk ((((h.fetch (PoolC pc)).fetch (blk bt u.t.cells 137)).fetch (RSpP 94 bs pc u.s)).fetch (blk bu (rcells bs bt xs) 89))
     have hf := finB (L := L) (a := a232) (c := c232) (ys := holdB u.t) (h.to : On W0 (OwnB (.slice a232 (holdB u.t).length c232) (holdB u.t) :: RefU 89 94 137 bu pc u :: PoolC pc :: L) _)
     obtain ⟨pc2, hs2, hin2, h⟩ := hf
     have he := actM_hold (u := u) (i := i) (c := (⟨kind, at_, n, data, key, new, typ, force⟩ : Cm)) (show kind = 17 by omega)
     have hd := (doM_go (u := u) (i := i) (c := (⟨kind, at_, n, data, key, new, typ, force⟩ : Cm)) hi (show 1 ≤ kind by omega) (show kind ≤ 18 by omega) c7 hfree (allowB_iff.1 hal)).trans he
     exact ⟨pc2, u, gave (holdB u.t), _, hd, rfl, hs2, hin2, h.to⟩
    refine W.seq (W.region (WL.val (run_eql rfl rfl) rfl rfl (WL.val run_assign rfl rfl (WL.nil ?_))))
    refine W.condIf rfl (fun c92 => ?_) (fun c92 => ?_)
    ·
     refine W.seq ?_
     have h := closeF (bu := bu) (u := u) hpk ((((h.fetch (PoolC pc)).fetch (blk bt u.t.cells 137)).fetch (RSpP 94 bs pc u.s)).fetch (blk bu (rcells bs bt xs) 89))
     refine W.region (WL.val run_assign rfl rfl (WL.nil (W.block ?_)))
     refine W.loop (fun (k : Nat) env w => k ≤ 8 ∧ ∃ (j : Env) (pq : PoolK), env = mkE j [(0, .pointer (some ⟨bu, 0, none⟩)), (6, .pointer (some ⟨b6, 0, none⟩)), (19, .int .i64 (k : Int))] ∧ subK pc pq ∧ On W0 (RefU 89 94 137 bu pq (resetN u k) :: PoolC pq :: blk b6 [.int .i64 0, .int .i64 0, .int .i64 0, .slice none 0 0, .int .i64 0] 36 :: L) w) (fun k => 8 - k) (0) ?_ ?_
     · have h : On W0 (RefU 89 94 137 bu pc (resetN u 0) :: _) w := h.fetch (RefU 89 94 137 bu pc u)
       exact ⟨Nat.zero_le _, _, pc, mkE_of ⟨rfl, rfl, rfl, trivial⟩, subK_refl, h.to⟩
     rintro k env w ⟨hk8, j, pq, rfl, hsq, h⟩
     refine W.seq (W.seq (W.region (WL.val run_move rfl rfl (WL.val (run_lss rfl rfl) rfl rfl (WL.nil ?_)))))
     refine W.condIf rfl (fun c97 => ?_) (fun c97 => ?_)
     ·
      refine W.skip (W.seq ?_)
      have hk7 : k < 8 := by omega
      have hsk : ((resetN u k).guest k).codes.length ≤ 1000000 := by rw [resetN_guest k (Nat.le_refl _)]; exact small_le hsm (by decide) k hk7
      refine W.block (W.region (WL.val run_move rfl rfl (WL.val run_move rfl rfl (WL.eff (eff_call call98 (rnote_ok (i := k) (z := 10499) (u := resetN u k) (pc := pq) hk7 hsk ((h.fetch (PoolC pq)).fetch (RefU 89 94 137 bu pq (resetN u k))))) rfl rfl ?_))))
      rintro _ w ⟨pr, hsr, h⟩
      have h : On W0 (RefU 89 94 137 bu pr (resetN u (k + 1)) :: _) w := h
      refine WL.nil (W.region (WL.val run_move rfl rfl (WL.val (run_incN rfl rfl (by omega)) rfl rfl (WL.val run_assign rfl rfl (WL.nil ?_)))))
      exact ⟨k + 1, ⟨by omega, _, pr, mkE_of ⟨rfl, rfl, rfl, trivial⟩, hsq.trans hsr, h.to⟩, by show 8 - (k + 1) < 8 - k; omega⟩
     refine W.exit (W.seq (W.region (WL.val (run_buildS (pl := [(0, 1), (1, 1), (2, 1), (3, 1), (4, 1)]) (out := [.int .i64 _, .int .i64 _, .int .i64 _, .slice _ _ _, .int .i64 _]) underlying36 zeroValue36 (fun w => by kernel_rfl) rfl (trivial) rfl) rfl rfl (WL.eff (eff_storeW (vs := [.int .i64 _, .int .i64 _, .int .i64 _, .slice _ _ _, .int .i64 _]) h sizeOf36 rfl rfl rfl rfl rfl) rfl rfl ?_))))
     rintro _ w h
     refine WL.nil (W.ret (bodyQ.rcB (vs := [.int .i64 _, .int .i64 _, .int .i64 _, .slice _ _ _, .int .i64 _]) h results38 isAgg36 sizeOf36 rfl rfl rfl ?_))
     have ob_ : k = 8 := by omega
     obtain rfl := ob_
     have he := actM_reset (u := u) (i := i) (c := (⟨kind, at_, n, data, key, new, typ, force⟩ : Cm)) (show kind = 18 by omega)
     have hd := (doM_go (u := u) (i := i) (c := (⟨kind, at_, n, data, key, new, typ, force⟩ : Cm)) hi (show 1 ≤ kind by omega) (show kind ≤ 18 by omega) c7 hfree (allowB_iff.1 hal)).trans he
     exact ⟨pq, (resetN u 8), plain 0 0 0, .slice none 0 0, hd, rfl, hsq, (hsq _ hnil), h.to⟩
    have h := closeF (bu := bu) (u := u) hpk ((((h.fetch (PoolC pc)).fetch (blk bt u.t.cells 137)).fetch (RSpP 94 bs pc u.s)).fetch (blk bu (rcells bs bt xs) 89))
    refine W.skip (W.seq (W.region (WL.val (run_buildS (pl := [(0, 1), (1, 1), (2, 1), (3, 1), (4, 1)]) (out := [.int .i64 _, .int .i64 _, .int .i64 _, .slice _ _ _, .int .i64 _]) underlying36 zeroValue36 (fun w => by kernel_rfl) rfl (trivial) rfl) rfl rfl (WL.eff (eff_storeW (vs := [.int .i64 _, .int .i64 _, .int .i64 _, .slice _ _ _, .int .i64 _]) h sizeOf36 rfl rfl rfl rfl rfl) rfl rfl ?_))))
    rintro _ w h
    refine WL.nil (W.ret (bodyQ.rcB (vs := [.int .i64 _, .int .i64 _, .int .i64 _, .slice _ _ _, .int .i64 _]) h results38 isAgg36 sizeOf36 rfl rfl rfl ?_))
    have he : actM u i (⟨kind, at_, n, data, key, new, typ, force⟩ : Cm) = (u, plain 0 0 0) := by unfold actM; rw [if_pos (show kind = 1 by omega)]
    have hd := (doM_go (u := u) (i := i) (c := (⟨kind, at_, n, data, key, new, typ, force⟩ : Cm)) hi (show 1 ≤ kind by omega) (show kind ≤ 18 by omega) c7 hfree (allowB_iff.1 hal)).trans he
    exact ⟨pc, u, plain 0 0 0, .slice none 0 0, hd, rfl, subK_refl, (subK_refl _ hnil), h.to⟩
   refine WT.pure 8 rfl (by kernel_rfl) (fun w' => (run_not rfl)) rfl rfl (WT.done (by kernel_rfl) (W.condT rfl (W.seq (W.region (WL.val (run_buildS (pl := [(0, 1), (1, 1), (2, 1), (3, 1), (4, 1)]) (out := [.int .i64 _, .int .i64 _, .int .i64 _, .slice _ _ _, .int .i64 _]) underlying36 zeroValue36 (fun w => by kernel_rfl) rfl (⟨⟨_, _, rfl, rfl, by decide⟩, trivial⟩) rfl) rfl rfl (WL.eff (eff_storeW (vs := [.int .i64 _, .int .i64 _, .int .i64 _, .slice _ _ _, .int .i64 _]) h sizeOf36 rfl rfl rfl rfl rfl) rfl rfl ?_))))))
   rintro _ w h
   refine WL.nil (W.ret (bodyQ.rcB (vs := [.int .i64 _, .int .i64 _, .int .i64 _, .slice _ _ _, .int .i64 _]) h results38 isAgg36 sizeOf36 rfl rfl rfl ?_))
   have h := closeF (bu := bu) (u := u) hpk ((((h.fetch (PoolC pc)).fetch (blk bt u.t.cells 137)).fetch (RSpP 94 bs pc u.s)).fetch (blk bu (rcells bs bt xs) 89))
   exact ⟨pc, u, plain 24 0 0, .slice none 0 0, doM_no (c := (⟨kind, at_, n, data, key, new, typ, force⟩ : Cm)) hi (show 1 ≤ kind by omega) (show kind ≤ 18 by omega) c7 (.inr hc0) (by rw [← allowB_iff]; show ¬ allowB u.t i kind = true; rw [hal]; decide), rfl, subK_refl, hnil, h.to⟩
  refine W.skip (W.seq (W.seq ?_))
  have hmx := maxLen_eq
  have ho := openF (h.fetch (RefU 89 94 137 bu pc u))
  obtain ⟨bs, bt, xs, hpk, h⟩ := ho
  have hl8 := xs_len hpk
  refine W.draw Tryz.follows h (fun w h => ?_)
  refine WT.pure 0 rfl (by kernel_rfl) (fun w' => run_move) rfl rfl (WT.pure 1 rfl (by kernel_rfl) (fun w' => (run_nilCheck rfl)) rfl rfl (WT.pure 2 rfl (by kernel_rfl) (fun w' => (run_fieldAddr 1 underlying89 rfl sizeOf82 rfl rfl)) rfl rfl (WT.load1 3 rfl (by kernel_rfl) isAgg82 rfl (h.cellB rfl) rfl rfl (WT.pure 4 rfl (by kernel_rfl) (fun w' => run_move) rfl rfl (WT.pure 5 rfl (by kernel_rfl) (fun w' => (run_fieldAddr 0 underlying25 rfl sizeOf3 rfl rfl)) rfl rfl (WT.load1 6 rfl (by kernel_rfl) isAgg3 rfl (h.cellB rfl) rfl rfl (WT.eff 7 [false, false] rfl (by kernel_rfl) (by kernel_rfl) (eff_call call84 (rallows_ok (i := i) (t := u.t) (b := bt) (kind := kind) hi hty6 (goodT_hold hgt) (h.fetch (blk bt u.t.cells 137)))) rfl rfl ?_)))))))
  rintro _ w ⟨hv, h⟩
  have hcs := Bool.eq_false_or_eq_true (allowB u.t i kind)
  rcases hcs with hal | hal <;> (rw [hal] at hv; subst hv)
  all_goals (refine ⟨trivial, ?_⟩)
  ·
   refine WT.pure 8 rfl (by kernel_rfl) (fun w' => (run_not rfl)) rfl rfl (WT.done (by kernel_rfl) (W.condF rfl (W.skip (W.seq (W.seq ?_)))))
   have hfree : ((⟨kind, at_, n, data, key, new, typ, force⟩ : Cm).kind = 8 ∨ (u.guest i).codes = []) := .inl (show kind = 8 by omega)
   refine W.region (WL.val (run_fieldAddr 0 underlying25 rfl sizeOf3 rfl rfl) rfl rfl (WL.val (run_load1 isAgg3 rfl (h.cellB rfl)) rfl rfl (WL.nil (W.block (W.seq (W.region (WL.val (run_eql rfl rfl) rfl rfl ?_)))))))
   refine WL.val run_assign rfl rfl (WL.nil ?_)
   refine W.condIf rfl (fun c29 => ?_) (fun c29 => ?_)
   ·
    refine W.seq (W.region (WL.eff (eff_call call85 (rinq5_ok h)) rfl rfl ?_))
    rintro _ w ⟨a74, c74, rfl, h⟩
    refine WL.val (run_buildS (pl := [(0, 1), (1, 1), (2, 1), (3, 1), (4, 1)]) (out := [.int .i64 _, .int .i64 _, .int .i64 _, .slice _ _ _, .int .i64 _]) underlying36 zeroValue36 (fun w => by kernel_rfl) rfl (⟨⟨_, _, rfl, rfl, by decide⟩, trivial⟩) rfl) rfl rfl (WL.eff (eff_storeW (vs := [.int .i64 _, .int .i64 _, .int .i64 _, .slice _ _ _, .int .i64 _]) h sizeOf36 rfl rfl rfl rfl rfl) rfl rfl ?_)
    rintro _ w h
    refine WL.nil (W.ret (bodyQ.rcB (vs := [.int .i64 _, .int .i64 _, .int .i64 _, .slice _ _ _, .int .i64 _]) h results38 isAgg36 sizeOf36 rfl rfl rfl ?_))
    have h := closeF (bu := bu) (u := u) hpk ((((h.fetch (PoolC pc)).fetch (blk bt u.t.cells 137)).fetch (RSpP 94 bs pc u.s)).fetch (blk bu (rcells bs bt xs) 89))
    have hf := finB (L := L) (a := a74) (c := c74) (ys := inqB) (h.to : On W0 (OwnB (.slice a74 (inqB).length c74) (inqB) :: RefU 89 94 137 bu pc u :: PoolC pc :: L) _)
    obtain ⟨pc2, hs2, hin2, h⟩ := hf
    have he : actM u i (⟨kind, at_, n, data, key, new, typ, force⟩ : Cm) = (u, gave inqB) := by unfold actM; rw [if_neg (show ¬ kind = 1 by omega), if_pos (show kind = 8 by omega)]
    have hd := (doM_go (u := u) (i := i) (c := (⟨kind, at_, n, data, key, new, typ, force⟩ : Cm)) hi (show 1 ≤ kind by omega) (show kind ≤ 18 by omega) c7 hfree (allowB_iff.1 hal)).trans he
    exact ⟨pc2, u, gave inqB, _, hd, rfl, hs2, hin2, h.to⟩
   exact (c13 c29).elim
  refine WT.pure 8 rfl (by kernel_rfl) (fun w' => (run_not rfl)) rfl rfl (WT.done (by kernel_rfl) (W.condT rfl (W.seq (W.region (WL.val (run_buildS (pl := [(0, 1), (1, 1), (2, 1), (3, 1), (4, 1)]) (out := [.int .i64 _, .int .i64 _, .int .i64 _, .slice _ _ _, .int .i64 _]) underlying36 zeroValue36 (fun w => by kernel_rfl) rfl (⟨⟨_, _, rfl, rfl, by decide⟩, trivial⟩) rfl) rfl rfl (WL.eff (eff_storeW (vs := [.int .i64 _, .int .i64 _, .int .i64 _, .slice _ _ _, .int .i64 _]) h sizeOf36 rfl rfl rfl rfl rfl) rfl rfl ?_))))))
  rintro _ w h
  refine WL.nil (W.ret (bodyQ.rcB (vs := [.int .i64 _, .int .i64 _, .int .i64 _, .slice _ _ _, .int .i64 _]) h results38 isAgg36 sizeOf36 rfl rfl rfl ?_))
  have h := closeF (bu := bu) (u := u) hpk ((((h.fetch (PoolC pc)).fetch (blk bt u.t.cells 137)).fetch (RSpP 94 bs pc u.s)).fetch (blk bu (rcells bs bt xs) 89))
  exact ⟨pc, u, plain 24 0 0, .slice none 0 0, doM_no (c := (⟨kind, at_, n, data, key, new, typ, force⟩ : Cm)) hi (show 1 ≤ kind by omega) (show kind ≤ 18 by omega) c7 (.inl (show kind = 8 by omega)) (by rw [← allowB_iff]; show ¬ allowB u.t i kind = true; rw [hal]; decide), rfl, subK_refl, hnil, h.to⟩
end Go.Proofs.YtjbgiingimhnnaaGreat
/-
  A unit and its twin: what stays true of both. No program is named here.
-/
namespace Go.Sl.UnM
open Go Go.Sl Go.Sl.BitM Go.Sl.SpM Go.Sl.RsM Go.Sl.ByM
set_option linter.unusedVariables false
set_option linter.unusedSectionVars false
theorem goodU_setD {u : Un} {i : Nat} {fl : Int} {D : List (Int × Rp)} (h8 : u.g.length = 8) (hi : i < 8) (h : goodU u) : goodU (u.putG i ((u.guest i).setD fl D)) := ⟨h.1, setD_okC h8 hi h.2⟩
/-- Kept replies are short, and few. -/
def shortU (u : Un) : Prop := ∀ i, i < 8 → (u.guest i).done.length ≤ 4 ∧ ∀ x ∈ (u.guest i).done, x.2.data.length ≤ 1000
theorem shortU_of {u u' : Un} (h : ∀ j, j < 8 → (u'.guest j).done = (u.guest j).done) (hs : shortU u) : shortU u' := fun i hi => by rw [h i hi]; exact hs i hi
theorem shortU_do {u : Un} {hh : Int} {c : Cm} (h8 : u.g.length = 8) (h : shortU u) : shortU (doM u hh c).1 := shortU_of (fun j hj => ((kept_do (hh := hh) (c := c) h8).2.1 j hj).2) h
theorem shortU_put {u : Un} {i : Nat} {g : Gs} (h8 : u.g.length = 8) (hi : i < 8) (h : shortU u) (h4 : g.done.length ≤ 4) (hg : ∀ x ∈ g.done, x.2.data.length ≤ 1000) : shortU (u.putG i g) := fun j hj => by
  by_cases e : i = j
  · subst e; rw [guest_put h8 hi]; exact ⟨h4, hg⟩
  · rw [guest_other e]; exact h j hj
/-- All that a play needs of a unit. -/
def calmU (k : Nat) (u : Un) : Prop := small k u ∧ goodU u ∧ shortU u ∧ u.g.length = 8
theorem guest_new {n i : Nat} (hi : i < 8) : (newU n).guest i = ⟨[], 0, []⟩ := by
  unfold Un.guest newU
  simp only []
  rw [List.getD_eq_getElem?_getD, List.getElem?_replicate, if_pos hi]; rfl
theorem calmU_new (n : Nat) : calmU 0 (newU n) := by
  refine ⟨new_small n, goodU_new n, fun i hi => ?_, by show (List.replicate 8 _).length = 8; rw [List.length_replicate]⟩
  rw [guest_new hi]
  exact ⟨Nat.zero_le _, fun x hx => by cases hx⟩
theorem calmU_do {k : Nat} {u : Un} {hh : Int} {c : Cm} (h : calmU k u) (hc : okCm c) : calmU (k + 1) (doM u hh c).1 :=
  ⟨(kept_do h.2.2.2).2.2 k h.1, goodU_do h.2.2.2 h.2.1 hc, shortU_do h.2.2.2 h.2.2.1, by rw [(kept_do h.2.2.2).1]; exact h.2.2.2⟩
theorem keep_short {D : List (Int × Rp)} {fl : Int} (h : ∀ x ∈ D, x.2.data.length ≤ 1000) : ∀ x ∈ keepM D fl, x.2.data.length ≤ 1000 := fun x hx => h x (List.mem_filter.1 hx).1
theorem keep_len {D : List (Int × Rp)} {fl : Int} {k : Nat} (h : D.length ≤ k) : (keepM D fl).length ≤ k := Nat.le_trans (List.length_filter_le _ _) h
theorem calmU_setD {k i : Nat} {u : Un} {fl : Int} {D : List (Int × Rp)} (h : calmU k u) (hi : i < 8) (h4 : D.length ≤ 4) (hD : ∀ x ∈ D, x.2.data.length ≤ 1000) : calmU k (u.putG i ((u.guest i).setD fl D)) :=
  ⟨setD_small h.2.2.2 hi h.1, goodU_setD h.2.2.2 hi h.2.1, shortU_put h.2.2.2 hi h.2.2.1 h4 hD, put_len h.2.2.2⟩
theorem calmU_once {k i : Nat} {u : Un} {id floor : Int} {c : Cm} (h : calmU k u) (hi : i < 8) (hc : okCm c) : calmU (k + 1) (onceM u i id floor c).1 := by
  have hs : calmU (k + 1) u := ⟨small_le h.1 (by omega), h.2⟩
  have hk := keep_short (fl := flM (u.guest i) id floor) (h.2.2.1 i hi).2
  have hl := keep_len (fl := flM (u.guest i) id floor) (h.2.2.1 i hi).1
  unfold onceM
  simp only []
  split
  · exact hs
  · split
    · exact calmU_setD hs hi hl hk
    · split
      · exact hs
      · rename_i h4
        refine calmU_setD (calmU_do (calmU_setD h hi hl hk) hc) hi (by rw [List.length_append, List.length_singleton]; omega) fun x hx => ?_
        rcases List.mem_append.1 hx with hx | hx
        · exact hk x hx
        · rw [List.mem_singleton] at hx
          subst hx
          exact doM_dlen
/-- By whichever host. -/
def onceH (u : Un) (hh : Int) (id floor : Int) (c : Cm) : Un × Rp × Bool := if hostB hh = true then onceM u hh.toNat id floor c else (u, plain 8 0 0, false)
theorem onceH_nat {u : Un} {i : Nat} {id floor : Int} {c : Cm} (hi : i < 8) : onceH u i id floor c = onceM u i id floor c := by unfold onceH; rw [if_pos (host_nat hi)]; rfl
theorem onceH_bad {u : Un} {hh : Int} {id floor : Int} {c : Cm} (h : hostB hh = false) : onceH u hh id floor c = (u, plain 8 0 0, false) := by unfold onceH; rw [if_neg (by rw [h]; decide)]
theorem calmU_onceH {k : Nat} {u : Un} {hh id floor : Int} {c : Cm} (h : calmU k u) (hc : okCm c) : calmU (k + 1) (onceH u hh id floor c).1 := by
  unfold onceH
  split
  · rename_i hb
    have hb := hostB_iff.1 hb
    exact calmU_once h (by omega) hc
  · exact ⟨small_le h.1 (by omega), h.2⟩
/-- An act of a play. -/
def actsM (u : Un) (once : Bool) (hh id floor : Int) (c : Cm) : Un × Rp × Bool := if once = true then onceH u hh id floor c else ((doM u hh c).1, (doM u hh c).2, false)
theorem calmU_acts {k : Nat} {u : Un} {once : Bool} {hh id floor : Int} {c : Cm} (h : calmU k u) (hc : okCm c) : calmU (k + 1) (actsM u once hh id floor c).1 := by
  unfold actsM
  split
  · exact calmU_onceH h hc
  · exact calmU_do h hc
section
variable {W0 w : World} {L : List HProp} {pool pool' : PoolL}
theorem okD_sub {D : List (Int × Rp)} {kvs : List KV} (hs : ∀ p ∈ pool, p ∈ pool') (h : okD pool D kvs) : okD pool' D kvs := by
  obtain ⟨h1, h2, h3⟩ := h
  refine ⟨h1, h2, fun x hx => ?_⟩
  obtain ⟨r, dv, hr1, hr2, hr3⟩ := h3 x hx
  exact ⟨r, dv, hr1, hr2, hs _ hr3⟩
theorem UnP_sub {TU TS TT bu : Nat} {ms : List Nat} {u : Un} (hs : ∀ p ∈ pool, p ∈ pool') (H : On W0 (UnP TU TS TT bu pool ms u :: L) w) : On W0 (UnP TU TS TT bu pool' ms u :: L) w := by
  obtain ⟨bs, bt, gs, hm, hl, H⟩ := openU H
  have H1 : On W0 (Big (GOwn pool) gs :: blk bu (ucells bs bt gs) TU :: SpP TS bs u.s :: blk bt u.t.cells TT :: L) w := H.to
  have H2 : On W0 (Big (GOwn pool') gs :: blk bu (ucells bs bt gs) TU :: SpP TS bs u.s :: blk bt u.t.cells TT :: L) w := H1.head (big_mono (fun x hh h => ⟨okD_sub hs h.1, h.2⟩) gs)
  have H3 : On W0 (blk bu (ucells bs bt gs) TU :: SpP TS bs u.s :: blk bt u.t.cells TT :: Big (GOwn pool') gs :: L) w := H2.to
  exact closeU hm hl H3
end
end Go.Sl.UnM
/-
  What is kept of the commands that were done does not tell in what a command does. No program is named here.
-/
namespace Go.Sl.UnM
open Go Go.Sl Go.Sl.BitM Go.Sl.SpM Go.Sl.RsM Go.Sl.ByM
set_option linter.unusedVariables false
set_option linter.unusedSectionVars false
def Un.setDone (u : Un) (i : Nat) (D : List (Int × Rp)) : Un := u.putG i { u.guest i with done := D }
theorem put_put {u : Un} {i : Nat} {x y : Gs} : (u.putG i x).putG i y = u.putG i y := by
  unfold Un.putG
  simp only [List.set_set]
theorem put_comm {u : Un} {i j : Nat} {x y : Gs} (h : i ≠ j) : (u.putG i x).putG j y = (u.putG j y).putG i x := by
  unfold Un.putG
  simp only []
  rw [List.set_comm _ _ h]
section
variable {u : Un} {i : Nat} {D : List (Int × Rp)} (h8 : u.g.length = 8) (hi : i < 8)
include h8 hi
theorem sd_guest {j : Nat} : ((u.setDone i D).guest j).codes = (u.guest j).codes := by
  unfold Un.setDone
  by_cases e : i = j
  · subst e; rw [guest_put h8 hi]
  · rw [guest_other e]
/-- Another guest, or this one with other codes. -/
theorem sd_put {j : Nat} {cs : List Int} (hj : j < 8) : (u.setDone i D).putG j { (u.setDone i D).guest j with codes := cs } = (u.putG j { u.guest j with codes := cs }).setDone i D := by
  unfold Un.setDone
  by_cases e : i = j
  · subst e
    rw [guest_put h8 hi, guest_put h8 hi, put_put, put_put]
  · rw [guest_other e, guest_other (fun e2 => e e2.symm), put_comm e]
theorem sd_tell {j : Nat} {x : Int} (hj : j < 8) : (u.setDone i D).tell j x = (u.tell j x).setDone i D := by
  have h1 := sd_put h8 hi (D := D) hj (cs := tellM (u.guest j).codes x)
  unfold Un.tell Gs.tell
  rw [sd_guest h8 hi]
  exact h1
theorem sd_pop {j : Nat} (hj : j < 8) : (u.setDone i D).putG j ((u.setDone i D).guest j).pop = (u.putG j (u.guest j).pop).setDone i D := by
  have h1 := sd_put h8 hi (D := D) hj (cs := (u.guest j).codes.drop 1)
  unfold Gs.pop
  rw [sd_guest h8 hi]
  exact h1
end
theorem sd_not {i : Nat} {D : List (Int × Rp)} {code : Int} (hi : i < 8) : ∀ (l : List Nat) {u : Un}, u.g.length = 8 → (∀ j ∈ l, j < 8) → notM (u.setDone i D) code l = (notM u code l).setDone i D
  | [], u, _, _ => rfl
  | n :: l, u, h8, hl => by
    have h1 := sd_tell h8 hi (D := D) (x := code) (hl n (List.mem_cons_self ..))
    show notM ((u.setDone i D).tell n code) code l = _
    rw [h1]
    exact sd_not hi l (u := u.tell n code) (tell_len h8) (fun j hj => hl j (List.mem_cons_of_mem _ hj))
theorem sd_reset {i : Nat} {D : List (Int × Rp)} (hi : i < 8) {u : Un} (h8 : u.g.length = 8) : ∀ n, n ≤ 8 → resetN (u.setDone i D) n = (resetN u n).setDone i D
  | 0, _ => rfl
  | n + 1, hn => by
    show (resetN (u.setDone i D) n).tell n 10499 = _
    rw [sd_reset hi h8 n (by omega)]
    exact sd_tell (resetN_len h8 n) hi (by omega)
theorem sd_act {i q : Nat} {D : List (Int × Rp)} {u : Un} {c : Cm} (h8 : u.g.length = 8) (hi : i < 8) : actM (u.setDone i D) q c = ((actM u q c).1.setDone i D, (actM u q c).2) := by
  have e1 : (u.setDone i D).s = u.s := rfl
  have e2 : (u.setDone i D).t = u.t := rfl
  unfold actM
  split
  · rfl
  split
  · rfl
  split
  · rfl
  split
  · rfl
  split
  · rw [sd_reset hi h8 8 (Nat.le_refl _)]
  · unfold resM
    split
    · rfl
    split
    · rfl
    have e3 : (u.setDone i D).setT (rvM (u.setDone i D).t q c).t = (u.setT (rvM u.t q c).t).setDone i D := rfl
    rw [e3]
    have h9 : (u.setT (rvM u.t q c).t).g.length = 8 := h8
    exact Prod.ext (sd_not hi (rvM u.t q c).l (u := u.setT (rvM u.t q c).t) h9 rvM_l.2.1) rfl
theorem sd_do {i : Nat} {D : List (Int × Rp)} {u : Un} {hh : Int} {c : Cm} (h8 : u.g.length = 8) (hi : i < 8) : doM (u.setDone i D) hh c = ((doM u hh c).1.setDone i D, (doM u hh c).2) := by
  unfold doM
  split
  · rfl
  · rename_i hn
    have hh8 : hh.toNat < 8 := by
      cases hb : hostB hh with
      | false => exact absurd (.inl hb) hn
      | true => have := hostB_iff.1 hb; omega
    split
    · rw [sd_guest h8 hi]
      cases hc : (u.guest hh.toNat).codes with
      | nil => rfl
      | cons x l => exact Prod.ext (sd_pop h8 hi hh8) rfl
    · rw [sd_guest h8 hi]
      split
      · exact Prod.ext (sd_pop h8 hi hh8) rfl
      · have e2 : allowB (u.setDone i D).t hh c.kind = allowB u.t hh c.kind := rfl
        rw [e2]
        split
        · rfl
        · exact sd_act h8 hi
/-- A command by its number that is done now: as the document does it. -/
theorem once_done {u u' : Un} {i : Nat} {id floor : Int} {c : Cm} {r : Rp} (h8 : u.g.length = 8) (hi : i < 8) (h : ¬ (id = 0 ∨ id < (u.guest i).floor)) (hl : lookD (keepM (u.guest i).done (flM (u.guest i) id floor)) id = none) (h4 : ¬ 4 ≤ (keepM (u.guest i).done (flM (u.guest i) id floor)).length)
    (hd : doM (u.putG i { u.guest i with floor := flM (u.guest i) id floor }) i c = (u', r)) :
    onceM u i id floor c = (u'.putG i { u'.guest i with done := keepM (u.guest i).done (flM (u.guest i) id floor) ++ [(id, r)] }, r, true) := by
  have h9 : (u.putG i { u.guest i with floor := flM (u.guest i) id floor }).g.length = 8 := put_len h8
  have e1 : u.putG i (onceG u i id floor) = (u.putG i { u.guest i with floor := flM (u.guest i) id floor }).setDone i (keepM (u.guest i).done (flM (u.guest i) id floor)) := by
    unfold Un.setDone
    rw [guest_put h8 hi, put_put]
    rfl
  have e2 := sd_do (D := keepM (u.guest i).done (flM (u.guest i) id floor)) (hh := (i : Int)) (c := c) h9 hi
  rw [← e1, hd] at e2
  have hk := kept_do (u := u.putG i { u.guest i with floor := flM (u.guest i) id floor }) (hh := (i : Int)) (c := c) h9
  rw [hd] at hk
  have h10 : u'.g.length = 8 := by have := hk.1; rw [h9] at this; exact this
  have hf : (u'.guest i).floor = flM (u.guest i) id floor := by
    have := (hk.2.1 i hi).1
    rw [guest_put h8 hi] at this
    exact this
  rw [once_new h hl h4 e2]
  have e3 : (u'.setDone i (keepM (u.guest i).done (flM (u.guest i) id floor))).putG i (((u'.setDone i (keepM (u.guest i).done (flM (u.guest i) id floor))).guest i).setD (flM (u.guest i) id floor) (keepM (u.guest i).done (flM (u.guest i) id floor) ++ [(id, r)])) = u'.putG i { u'.guest i with done := keepM (u.guest i).done (flM (u.guest i) id floor) ++ [(id, r)] } := by
    unfold Un.setDone
    rw [guest_put h10 hi, put_put]
    unfold Gs.setD
    rw [← hf]
  rw [e3]
end Go.Sl.UnM
/-
  What the document's unit keeps of commands that were done. No program is named here.
-/
namespace Go.Sl.UnM
open Go Go.Sl Go.Sl.BitM Go.Sl.SpM Go.Sl.RsM Go.Sl.ByM
set_option linter.unusedVariables false
set_option linter.unusedSectionVars false
theorem DX.cells_length (d : DX) : d.cells.length = 6 := rfl
def keepX (D : List DX) (fl : Int) : List DX := D.filter fun d => decide (fl ≤ d.id)
theorem keep_map {D : List DX} {fl : Int} : keepM (D.map DX.out) fl = (keepX D fl).map DX.out := by
  unfold keepM keepX
  rw [List.filter_map]
  rfl
theorem keepX_take {D : List DX} {fl : Int} {k : Nat} {d : DX} (h : D[k]? = some d) : keepX (D.take (k + 1)) fl = keepX (D.take k) fl ++ if fl ≤ d.id then [d] else [] := by
  unfold keepX
  rw [List.take_add_one, h, List.filter_append]
  congr 1
  by_cases hd : fl ≤ d.id
  · rw [if_pos hd]; simp [hd]
  · rw [if_neg hd]; simp [hd]
theorem keepX_len {D : List DX} {fl : Int} : (keepX D fl).length ≤ D.length := List.length_filter_le _ _
theorem keepX_mem {D : List DX} {fl : Int} {d : DX} (h : d ∈ keepX D fl) : d ∈ D := (List.mem_filter.1 h).1
theorem lookX_some {id : Int} : ∀ {K : List DX} {q : Nat} {d : DX}, K[q]? = some d → d.id = id → (∀ (p : Nat), p < q → ∀ e : DX, K[p]? = some e → e.id ≠ id) → lookD (K.map DX.out) id = some d.r
  | [], q, d, h, _, _ => by simp at h
  | e :: K, 0, d, h, hd, _ => by
    simp at h
    subst h
    unfold lookD
    rw [List.map_cons, List.find?_cons]
    have : ((DX.out e).1 == id) = true := by simpa [DX.out] using hd
    rw [this]; rfl
  | e :: K, q + 1, d, h, hd, hn => by
    have h0 := hn 0 (by omega) e (by simp)
    have ih := lookX_some (K := K) (q := q) (by simpa using h) hd (fun p hp f hf => hn (p + 1) (by omega) f (by simpa using hf))
    unfold lookD at ih ⊢
    rw [List.map_cons, List.find?_cons]
    have : ((DX.out e).1 == id) = false := by simpa [DX.out] using h0
    rw [this]
    exact ih
theorem lookX_none {id : Int} {K : List DX} (h : ∀ (p : Nat) (d : DX), K[p]? = some d → d.id ≠ id) : lookD (K.map DX.out) id = none := lookD_none fun hm => by
  rw [List.map_map] at hm
  obtain ⟨d, hd, e⟩ := List.mem_map.1 hm
  obtain ⟨p, hp⟩ := List.getElem?_of_mem hd
  exact h p d hp e
section
variable {W0 w : World} {L : List HProp} {TU TS TT bu bs bt : Nat} {pc pc' : PoolK} {u : Un} {xs : List RX} {x : RX} {i : Nat}
theorem setFl {fl : Int} (hpk : xs.map RX.s = u.g ∧ u.g.length = 8 ∧ (∀ y ∈ xs, okX pc y) ∧ inB pc (.slice none 0 0) []) (hx : xs[i]? = some x) (hxs : x.s = u.guest i) (hok : okX pc x)
    (H : On W0 (blk bu ((rcells bs bt xs).set (0 + 10 + ((i : Nat) : Int).toNat * 1) (.int .u64 fl)) TU :: RSpP TS bs pc u.s :: blk bt u.t.cells TT :: L) w) : On W0 (RefU TU TS TT bu pc (u.putG i { u.guest i with floor := fl }) :: L) w := by
  have hl8 := xs_len hpk
  have e : (rcells bs bt xs).set (0 + 10 + ((i : Nat) : Int).toNat * 1) (.int .u64 fl) = rcells bs bt (xs.set i { x with floor := fl }) := rset_f (x' := { x with floor := fl }) hl8 hx ⟨rfl, rfl⟩
  rw [e] at H
  have es : ({ x with floor := fl } : RX).s = { u.guest i with floor := fl } := by rw [← hxs]; rfl
  have hp2 := rx_put (i := i) (x' := { x with floor := fl }) hpk (pc' := pc) subK_refl hok
  rw [es] at hp2
  exact closeF (u := u.putG i { u.guest i with floor := fl }) hp2 H
theorem setDo {D' : List DX} {dv' : Value} {n : Nat} {rows : List Value} (hpk : xs.map RX.s = u.g ∧ u.g.length = 8 ∧ (∀ y ∈ xs, okX pc y) ∧ inB pc (.slice none 0 0) []) (hx : xs[i]? = some x) (hxs : x.s = u.guest i) (hok : okX pc x) (hn : D'.length = n) (hr : rows = D'.flatMap DX.cells) (hD : ∀ d ∈ D', inB pc d.v d.r.data)
    (H : On W0 (Own 6 dv' n rows :: blk bu ((rcells bs bt xs).set (0 + 18 + ((i : Nat) : Int).toNat * 1) dv') TU :: RSpP TS bs pc u.s :: blk bt u.t.cells TT :: PoolC pc :: L) w) :
    ∃ pc', subK pc pc' ∧ On W0 (RefU TU TS TT bu pc' (u.putG i { u.guest i with done := D'.map DX.out }) :: PoolC pc' :: L) w := by
  subst hn
  subst hr
  have hl8 := xs_len hpk
  have H1 : On W0 (Own 6 dv' D'.length (D'.flatMap DX.cells) :: PoolC pc :: RSpP TS bs pc u.s :: blk bu ((rcells bs bt xs).set (0 + 18 + ((i : Nat) : Int).toNat * 1) dv') TU :: blk bt u.t.cells TT :: L) w := H.to
  have H2 := On.toPoolC H1
  have H3 : On W0 (RSpP TS bs pc u.s :: blk bu ((rcells bs bt xs).set (0 + 18 + ((i : Nat) : Int).toNat * 1) dv') TU :: blk bt u.t.cells TT :: PoolC ((6, dv', D'.length, D'.flatMap DX.cells) :: pc) :: L) w := H2.to
  have H4 := RSpP_more (pc' := (6, dv', D'.length, D'.flatMap DX.cells) :: pc) subK_cons H3
  have e : (rcells bs bt xs).set (0 + 18 + ((i : Nat) : Int).toNat * 1) dv' = rcells bs bt (xs.set i { x with D := D', dv := dv' }) := rset_d (x' := { x with D := D', dv := dv' }) hl8 hx ⟨rfl, rfl⟩
  rw [e] at H4
  have H5 : On W0 (blk bu (rcells bs bt (xs.set i { x with D := D', dv := dv' })) TU :: RSpP TS bs ((6, dv', D'.length, D'.flatMap DX.cells) :: pc) u.s :: blk bt u.t.cells TT :: PoolC ((6, dv', D'.length, D'.flatMap DX.cells) :: pc) :: L) w := H4.to
  have es : ({ x with D := D', dv := dv' } : RX).s = { u.guest i with done := D'.map DX.out } := by rw [← hxs]; rfl
  have hp2 := rx_put (i := i) (x' := { x with D := D', dv := dv' }) hpk (pc' := (6, dv', D'.length, D'.flatMap DX.cells) :: pc) subK_cons ⟨List.mem_cons_of_mem _ hok.1, List.mem_cons_self .., fun d hd => List.mem_cons_of_mem _ (hD d hd)⟩
  rw [es] at hp2
  exact ⟨_, subK_cons, closeF (u := u.putG i { u.guest i with done := D'.map DX.out }) hp2 H5⟩
end
end Go.Sl.UnM
/-
  The document's unit: commands by their numbers: the contracts. Lines of walks printed by a program of the prover's.
-/
namespace Go.Proofs.YtjbgiingimhnnaaGreat
open Go.Proofs.Tryz
open Go Go.Sl Go.Sl.BitM Go.Sl.SpM Go.Sl.RsM Go.Sl.ByM Go.Sl.UnM
set_option linter.unusedVariables false
set_option linter.unusedSimpArgs false
set_option maxHeartbeats 1000000
set_option maxRecDepth 8000
variable {W0 w : World} {L F : List HProp}
theorem rbusy_ok (h : On W0 L w) : Calls Tryz.prog 80 #[] w (Ret fun v w' => v = (plain 8 0 0 : Rp).val (.slice none 0 0) ∧ On W0 L w') := by
  refine enter func80 rfl ntmps80 rfl (W.seq (W.region (WL.eff (eff_alloc h zeroValue36 rfl) rfl rfl ?_)))
  rintro _ w ⟨b0, rfl, h⟩
  refine WL.nil (W.seq (W.region (WL.val (run_buildS (pl := [(0, 1), (1, 1), (2, 1), (3, 1), (4, 1)]) (out := [.int .i64 _, .int .i64 _, .int .i64 _, .slice _ _ _, .int .i64 _]) underlying36 zeroValue36 (fun w => by kernel_rfl) rfl (⟨⟨_, _, rfl, rfl, by decide⟩, trivial⟩) rfl) rfl rfl (WL.eff (eff_storeW (vs := [.int .i64 _, .int .i64 _, .int .i64 _, .slice _ _ _, .int .i64 _]) h sizeOf36 rfl rfl rfl rfl rfl) rfl rfl ?_))))
  rintro _ w h
  refine WL.nil (W.ret (bodyQ.rcB (vs := [.int .i64 _, .int .i64 _, .int .i64 _, .slice _ _ _, .int .i64 _]) h results80 isAgg36 sizeOf36 rfl rfl rfl ?_))
  exact ⟨rfl, h.tail⟩
theorem ronce_ok {bu i : Nat} {id floor : Int} {u : Un} {pc : PoolK} {kind at_ n key new typ : Int} {force : Bool} {data : List UInt8} {ax : Option Addr} {cx : Nat} (hi : i < 8) (hsm : small 999000 u) (hgu_ : goodU u) (hcm : okCm (⟨kind, at_, n, data, key, new, typ, force⟩ : Cm)) (hd4 : (u.guest i).done.length ≤ 4) (h : On W0 (RefU 89 94 137 bu pc u :: PoolC pc :: L) w) (C : Gives L (Bytes (.slice ax data.length cx) data)) (hd : data.length ≤ 1000000) : Calls Tryz.prog 36 #[.pointer (some ⟨bu, 0, none⟩), .int .i64 (i : Int), .int .u64 id, .int .u64 floor, (⟨kind, at_, n, data, key, new, typ, force⟩ : Cm).val (.slice ax data.length cx)] w (Ret fun v w' => ∃ pc' u' r fresh dv, onceM u i id floor (⟨kind, at_, n, data, key, new, typ, force⟩ : Cm) = (u', r, fresh) ∧ v = .tuple #[r.val dv, .bool fresh] ∧ subK pc pc' ∧ inB pc' dv r.data ∧ On W0 (RefU 89 94 137 bu pc' u' :: PoolC pc' :: L) w') := by
  refine enter func36 rfl ntmps36 rfl ?_
  have hnil := (RefU_nil h).1
  have hg8 := (RefU_nil h).2.1
  have hmx := maxLen_eq
  have ho := openF h
  obtain ⟨bs, bt, xs, hpk, h⟩ := ho
  have hl8 := xs_len hpk
  have hr := rx_of hpk hi
  obtain ⟨x, hx, hxs, hok⟩ := hr
  have hdn : x.D.map DX.out = (u.guest i).done := congrArg Gs.done hxs
  have hfl : x.floor = (u.guest i).floor := congrArg Gs.floor hxs
  have hD4 : x.D.length ≤ 4 := by rw [← List.length_map (f := DX.out), hdn]; exact hd4
  have CW : Gives (PoolC pc :: L) (Cells 6 x.dv x.D.length (x.D.flatMap DX.cells)) := Gives.poolC hok.2.1
  have fW := (h.readsTo CW).form
  obtain ⟨adv, cdv, hdv, hw1, hw2, _⟩ := fW
  have hgd := rget_d (bs := bs) (bt := bt) hl8 hx
  have hgf := rget_f (bs := bs) (bt := bt) hl8 hx
  rw [hdv] at hgd CW
  rw [hfl] at hgf
  refine W.seq (W.region (WL.eff (eff_box (v := .agg _) (l := (⟨kind, at_, n, data, key, new, typ, force⟩ : Cm).cells (.slice ax data.length cx)) h rfl rfl) rfl rfl ?_))
  rintro _ w ⟨b9, rfl, h⟩
  have h : On W0 (blk b9 [.int .i64 kind, .int .i64 at_, .int .i64 n, .slice ax data.length cx, .int .u64 key, .int .u64 new, .int .i64 typ, .bool force] 25 :: _) w := h
  refine WL.eff (eff_alloc h zeroValue36 rfl) rfl rfl ?_
  rintro _ w ⟨b10, rfl, h⟩
  refine WL.val run_assign rfl rfl (WL.nil (W.seq (W.seq (W.region (WL.val run_move rfl rfl (WL.val (run_lssF rfl rfl (by omega)) rfl rfl (WL.val run_move rfl rfl ?_)))))))
  refine WL.val run_move rfl rfl (WL.val (run_geqF rfl rfl (by omega)) rfl rfl (WL.val (run_pickF rfl) rfl rfl (WL.val run_move rfl rfl (WL.val run_move rfl rfl (WL.val (run_eql rfl rfl) rfl rfl (WL.val (run_pickF rfl) rfl rfl (WL.nil ?_)))))))
  refine W.condIf rfl (fun c2 => ?_) (fun c2 => ?_)
  ·
   refine W.seq (W.region (WL.eff (eff_call call80 (rbusy_ok h)) rfl rfl ?_))
   rintro _ w ⟨rfl, h⟩
   refine WL.eff (eff_storeW (vs := [.int .i64 _, .int .i64 _, .int .i64 _, .slice _ _ _, .int .i64 _]) h sizeOf36 rfl rfl rfl rfl rfl) rfl rfl ?_
   rintro _ w h
   refine WL.val run_assign rfl rfl (WL.nil (W.ret (bodyQ.rctB (vs := [.int .i64 _, .int .i64 _, .int .i64 _, .slice _ _ _, .int .i64 _]) (v2 := .bool _) h results36 isAgg36 sizeOf36 rfl rfl rfl rfl ?_)))
   have h := closeF (bu := bu) (u := u) hpk ((((h.fetch (PoolC pc)).fetch (blk bt u.t.cells 137)).fetch (RSpP 94 bs pc u.s)).fetch (blk bu (rcells bs bt xs) 89))
   exact ⟨pc, u, plain 8 0 0, false, .slice none 0 0, (once_busy (.inl c2)), rfl, subK_refl, hnil, h.to⟩
  refine W.skip ?_
  refine W.cut (fun env w => ∃ j, env = mkE j [(0, .pointer (some ⟨bu, 0, none⟩)), (1, .int .i64 (i : Int)), (2, .int .u64 id), (3, .int .u64 (min floor id)), (9, .pointer (some ⟨b9, 0, none⟩)), (10, .pointer (some ⟨b10, 0, none⟩))] ∧ On W0 (blk bu (rcells bs bt xs) 89 :: RSpP 94 bs pc u.s :: blk bt u.t.cells 137 :: PoolC pc :: blk b10 [.int .i64 0, .int .i64 0, .int .i64 0, .slice none 0 0, .int .i64 0] 36 :: blk b9 [.int .i64 kind, .int .i64 at_, .int .i64 n, .slice ax data.length cx, .int .u64 key, .int .u64 new, .int .i64 typ, .bool force] 25 :: L) w) ?_ ?_
  ·
   refine W.seq (W.region (WL.val run_move rfl rfl (WL.val run_move rfl rfl (WL.val (run_gtr rfl rfl) rfl rfl (WL.nil ?_)))))
   refine W.condIf rfl (fun c7 => ?_) (fun c7 => ?_)
   ·
    refine W.region (WL.val run_move rfl rfl (WL.val run_assign rfl rfl (WL.nil ?_)))
    exact ⟨_, mkE_of ⟨rfl, rfl, rfl, (by show Value.int .u64 _ = Value.int .u64 _; congr 1; omega), rfl, rfl, trivial⟩, h.to⟩
   refine W.skip ?_
   exact ⟨_, mkE_of ⟨rfl, rfl, rfl, (by show Value.int .u64 _ = Value.int .u64 _; congr 1; omega), rfl, rfl, trivial⟩, h.to⟩
  clear h
  rintro env w ⟨j, rfl, h⟩
  refine W.seq (W.seq (W.region (WL.val run_move rfl rfl (WL.val run_move rfl rfl (WL.val run_move rfl rfl (WL.val (run_nilCheck rfl) rfl rfl (WL.val (run_fieldAddr 10 underlying89 rfl sizeOf85 rfl rfl) rfl rfl ?_)))))))
  refine WL.val (run_indexAddrArr underlying85 sizeOf23 rfl rfl (by omega) (by omega)) rfl rfl (WL.val (run_load1 isAgg23 rfl (h.cellB hgf)) rfl rfl (WL.val (run_lss rfl rfl) rfl rfl (WL.nil ?_)))
  refine W.condIf rfl (fun c11 => ?_) (fun c11 => ?_)
  ·
   refine W.seq (W.region (WL.eff (eff_call call80 (rbusy_ok h)) rfl rfl ?_))
   rintro _ w ⟨rfl, h⟩
   refine WL.eff (eff_storeW (vs := [.int .i64 _, .int .i64 _, .int .i64 _, .slice _ _ _, .int .i64 _]) h sizeOf36 rfl rfl rfl rfl rfl) rfl rfl ?_
   rintro _ w h
   refine WL.val run_assign rfl rfl (WL.nil (W.ret (bodyQ.rctB (vs := [.int .i64 _, .int .i64 _, .int .i64 _, .slice _ _ _, .int .i64 _]) (v2 := .bool _) h results36 isAgg36 sizeOf36 rfl rfl rfl rfl ?_)))
   have h := closeF (bu := bu) (u := u) hpk ((((h.fetch (PoolC pc)).fetch (blk bt u.t.cells 137)).fetch (RSpP 94 bs pc u.s)).fetch (blk bu (rcells bs bt xs) 89))
   exact ⟨pc, u, plain 8 0 0, false, .slice none 0 0, (once_busy (.inr c11)), rfl, subK_refl, hnil, h.to⟩
  refine W.skip ?_
  refine W.cut (fun env w => ∃ j, env = mkE j [(0, .pointer (some ⟨bu, 0, none⟩)), (1, .int .i64 (i : Int)), (2, .int .u64 id), (3, .int .u64 (flM (u.guest i) id floor)), (9, .pointer (some ⟨b9, 0, none⟩)), (10, .pointer (some ⟨b10, 0, none⟩))] ∧ (¬ (id = 0 ∨ id < (u.guest i).floor)) ∧ On W0 (blk bu (rcells bs bt xs) 89 :: RSpP 94 bs pc u.s :: blk bt u.t.cells 137 :: PoolC pc :: blk b10 [.int .i64 0, .int .i64 0, .int .i64 0, .slice none 0 0, .int .i64 0] 36 :: blk b9 [.int .i64 kind, .int .i64 at_, .int .i64 n, .slice ax data.length cx, .int .u64 key, .int .u64 new, .int .i64 typ, .bool force] 25 :: L) w) ?_ ?_
  ·
   refine W.seq (W.region (WL.val run_move rfl rfl (WL.val run_move rfl rfl (WL.val run_move rfl rfl (WL.val (run_nilCheck rfl) rfl rfl (WL.val (run_fieldAddr 10 underlying89 rfl sizeOf85 rfl rfl) rfl rfl (WL.val (run_indexAddrArr underlying85 sizeOf23 rfl rfl (by omega) (by omega)) rfl rfl ?_)))))))
   refine WL.val (run_load1 isAgg23 rfl (h.cellB hgf)) rfl rfl (WL.val (run_lss rfl rfl) rfl rfl (WL.nil ?_))
   refine W.condIf rfl (fun c16 => ?_) (fun c16 => ?_)
   ·
    refine W.region (WL.val run_move rfl rfl (WL.val run_move rfl rfl (WL.val (run_nilCheck rfl) rfl rfl (WL.val (run_fieldAddr 10 underlying89 rfl sizeOf85 rfl rfl) rfl rfl (WL.val (run_indexAddrArr underlying85 sizeOf23 rfl rfl (by omega) (by omega)) rfl rfl (WL.val (run_load1 isAgg23 rfl (h.cellB hgf)) rfl rfl (WL.val run_assign rfl rfl ?_)))))))
    refine WL.nil ?_
    exact ⟨_, mkE_of ⟨rfl, rfl, rfl, (by show Value.int .u64 _ = Value.int .u64 _; unfold flM; congr 1; omega), rfl, rfl, trivial⟩, (by rintro (e | e); exact c2 e; exact c11 e), h.to⟩
   refine W.skip ?_
   exact ⟨_, mkE_of ⟨rfl, rfl, rfl, (by show Value.int .u64 _ = Value.int .u64 _; unfold flM; congr 1; omega), rfl, rfl, trivial⟩, (by rintro (e | e); exact c2 e; exact c11 e), h.to⟩
  clear h
  rintro env w ⟨j, rfl, hnb, h⟩
  refine W.seq (W.region (WL.val run_assign rfl rfl (WL.nil (W.seq (W.seq (W.region (WL.val run_assign rfl rfl ?_)))))))
  refine WL.nil (W.block ?_)
  refine W.loop (fun (k : Nat) env w => k ≤ x.D.length ∧ ∃ (j : Env) (ak : Option Addr) (ck : Nat), env = mkE j [(0, .pointer (some ⟨bu, 0, none⟩)), (1, .int .i64 (i : Int)), (2, .int .u64 id), (3, .int .u64 (flM (u.guest i) id floor)), (9, .pointer (some ⟨b9, 0, none⟩)), (10, .pointer (some ⟨b10, 0, none⟩)), (12, .slice ak (keepX (x.D.take k) (flM (u.guest i) id floor)).length ck), (13, .int .i64 (k : Int))] ∧ On W0 (Own 6 (.slice ak (keepX (x.D.take k) (flM (u.guest i) id floor)).length ck) (keepX (x.D.take k) (flM (u.guest i) id floor)).length ((keepX (x.D.take k) (flM (u.guest i) id floor)).flatMap DX.cells) :: blk bu (rcells bs bt xs) 89 :: RSpP 94 bs pc u.s :: blk bt u.t.cells 137 :: PoolC pc :: blk b10 [.int .i64 0, .int .i64 0, .int .i64 0, .slice none 0 0, .int .i64 0] 36 :: blk b9 [.int .i64 kind, .int .i64 at_, .int .i64 n, .slice ax data.length cx, .int .u64 key, .int .u64 new, .int .i64 typ, .bool force] 25 :: L) w) (fun k => x.D.length - k) (0) ?_ ?_
  · have h : On W0 (Own 6 (.slice none (keepX (x.D.take 0) (flM (u.guest i) id floor)).length 0) (keepX (x.D.take 0) (flM (u.guest i) id floor)).length ((keepX (x.D.take 0) (flM (u.guest i) id floor)).flatMap DX.cells) :: _) w := h.ownEmpty 6 none
    exact ⟨Nat.zero_le _, _, none, 0, mkE_of ⟨rfl, rfl, rfl, rfl, rfl, rfl, rfl, rfl, trivial⟩, h.to⟩
  clear h
  rintro k env w ⟨hk, j, ak, ck, rfl, h⟩
  have hkl := keepX_len (D := x.D.take k) (fl := (flM (u.guest i) id floor))
  rw [List.length_take] at hkl
  refine W.seq (W.seq (W.region (WL.val run_move rfl rfl (WL.val run_move rfl rfl (WL.val run_move rfl rfl (WL.val (run_nilCheck rfl) rfl rfl (WL.val (run_fieldAddr 18 underlying89 rfl sizeOf87 rfl rfl) rfl rfl ?_)))))))
  refine WL.val (run_indexAddrArr underlying87 sizeOf86 rfl rfl (by omega) (by omega)) rfl rfl (WL.val (run_load1 isAgg86 rfl (h.cellB hgd)) rfl rfl (WL.val (run_lenSlice underlying86 rfl) rfl rfl (WL.val (run_lss rfl rfl) rfl rfl (WL.nil ?_))))
  refine W.condIf rfl (fun c24 => ?_) (fun c24 => ?_)
  ·
   refine W.skip (W.seq ?_)
   have hkD : k < x.D.length := by omega
   have ex_ : ∃ d, x.D[k]? = some d := ⟨x.D[k]'(by omega), by simp⟩
   obtain ⟨⟨did, ⟨dst, dky, dco, dda, din⟩, dvv⟩, hq⟩ := ex_
   have hdm := List.mem_of_getElem? hq
   have hdp0 := hok.2.2 _ hdm
   have hdp : inB pc dvv dda := hdp0
   have hdf := rslice_of ((h.fetch (PoolC pc)).fetch (blk bu (rcells bs bt xs) 89)) hdp
   obtain ⟨dax, dcx, hdf⟩ := hdf
   subst hdf
   have hrow := drop_flatMap DX.cells 6 DX.cells_length x.D _ _ hq
   have CC := h.readsTo CW
   have ha := CC.addr (by omega)
   obtain ⟨bx, ox, hax⟩ := ha
   have hgd2 := hgd
   rw [hax] at hgd2
   have CW2 := CW
   rw [hax] at CW2
   refine W.block (W.seq (W.region (WL.val run_move rfl rfl (WL.val run_move rfl rfl (WL.val (run_nilCheck rfl) rfl rfl (WL.val (run_fieldAddr 18 underlying89 rfl sizeOf87 rfl rfl) rfl rfl (WL.val (run_indexAddrArr underlying87 sizeOf86 rfl rfl (by omega) (by omega)) rfl rfl ?_)))))))
   refine WL.val (run_load1 isAgg86 rfl (h.cellB hgd2)) rfl rfl (WL.val run_move rfl rfl (WL.val (run_indexAddr underlying86 sizeOf140 rfl rfl (by omega) (by omega)) rfl rfl (WL.val (run_fieldAddr 0 underlying140 rfl sizeOf23 rfl rfl) rfl rfl (WL.val (run_load1 isAgg23 rfl ((h.readsTo CW2).elem (i := k) (vs := [.int .u64 did, .int .i64 dst, .int .i64 dky, .int .i64 dco, .slice dax dda.length dcx, .int .i64 din]) hkD hrow 0 _ rfl)) rfl rfl (WL.val run_move rfl rfl (WL.val (run_geq rfl rfl) rfl rfl (WL.nil ?_)))))))
   refine W.condIf rfl (fun c29 => ?_) (fun c29 => ?_)
   ·
    refine W.region (WL.val run_move rfl rfl (WL.val run_move rfl rfl (WL.val run_move rfl rfl (WL.val (run_nilCheck rfl) rfl rfl (WL.val (run_fieldAddr 18 underlying89 rfl sizeOf87 rfl rfl) rfl rfl (WL.val (run_indexAddrArr underlying87 sizeOf86 rfl rfl (by omega) (by omega)) rfl rfl (WL.val (run_load1 isAgg86 rfl (h.cellB hgd2)) rfl rfl ?_)))))))
    refine WL.val run_move rfl rfl (WL.val (run_indexAddr underlying86 sizeOf140 rfl rfl (by omega) (by omega)) rfl rfl (WL.val (run_loadN isAgg140 sizeOf140 rfl rfl ((h.readsTo CW2).elem (i := k) (vs := [.int .u64 did, .int .i64 dst, .int .i64 dky, .int .i64 dco, .slice dax dda.length dcx, .int .i64 din]) hkD hrow)) rfl rfl (WL.eff (eff_mkSlice (zl := [.int .u64 0, .int .i64 0, .int .i64 0, .int .i64 0, .slice none 0 0, .int .i64 0]) (out := [.int .u64 _, .int .i64 _, .int .i64 _, .int .i64 _, .slice _ _ _, .int .i64 _]) h underlying86 sizeOf140 zeroValue140 (by decide) (by kernel_rfl) rfl rfl (by simp) (⟨⟨_, _, rfl, rfl, by decide⟩, trivial⟩) rfl rfl (by simp [maxLen])) rfl rfl ?_)))
    rintro _ w ⟨b87, rfl, h⟩
    refine WL.eff (eff_app (c2 := 1) (bytes := 64) (h.fetch (Own 6 (.slice ak (keepX (x.D.take k) (flM (u.guest i) id floor)).length ck) (keepX (x.D.take k) (flM (u.guest i) id floor)).length ((keepX (x.D.take k) (flM (u.guest i) id floor)).flatMap DX.cells))) rfl rfl (h.cellsO (v := .slice (some ⟨b87, 0, none⟩) 1 1)) underlying86 rfl rfl rfl rfl rfl (by omega) (by omega) (by simp [Value.oneCell'])) rfl rfl ?_
    rintro _ w ⟨a88, c88, rfl, h⟩
    have h : On W0 (Own 6 (.slice a88 ((keepX (x.D.take k) (flM (u.guest i) id floor)).length + 1) c88) ((keepX (x.D.take k) (flM (u.guest i) id floor)).length + 1) ((keepX (x.D.take k) (flM (u.guest i) id floor)).flatMap DX.cells ++ DX.cells (⟨did, ⟨dst, dky, dco, dda, din⟩, .slice dax dda.length dcx⟩ : DX)) :: _) w := h
    rw [show (keepX (x.D.take k) (flM (u.guest i) id floor)).flatMap DX.cells ++ DX.cells (⟨did, ⟨dst, dky, dco, dda, din⟩, .slice dax dda.length dcx⟩ : DX) = ((keepX (x.D.take k) (flM (u.guest i) id floor)) ++ [(⟨did, ⟨dst, dky, dco, dda, din⟩, .slice dax dda.length dcx⟩ : DX)]).flatMap DX.cells by simp] at h
    refine WL.val run_assign rfl rfl (WL.nil (W.region (WL.val run_move rfl rfl (WL.val (run_incN rfl rfl (by omega)) rfl rfl (WL.val run_assign rfl rfl (WL.nil ?_))))))
    have e := keepX_take (fl := (flM (u.guest i) id floor)) hq
    rw [if_pos (show (flM (u.guest i) id floor) ≤ (⟨did, ⟨dst, dky, dco, dda, din⟩, .slice dax dda.length dcx⟩ : DX).id from c29)] at e
    have el : (keepX (x.D.take (k + 1)) (flM (u.guest i) id floor)).length = (keepX (x.D.take k) (flM (u.guest i) id floor)).length + 1 := by rw [e, List.length_append]; rfl
    exact ⟨k + 1, ⟨by omega, _, a88, c88, mkE_of ⟨rfl, rfl, rfl, rfl, rfl, rfl, (by rw [el]; rfl), rfl, trivial⟩, (by rw [el, e]; exact h.to)⟩, by show x.D.length - (k + 1) < x.D.length - k; omega⟩
   refine W.skip (W.region (WL.val run_move rfl rfl (WL.val (run_incN rfl rfl (by omega)) rfl rfl (WL.val run_assign rfl rfl (WL.nil ?_)))))
   have e := keepX_take (fl := (flM (u.guest i) id floor)) hq
   rw [if_neg (show ¬ (flM (u.guest i) id floor) ≤ (⟨did, ⟨dst, dky, dco, dda, din⟩, .slice dax dda.length dcx⟩ : DX).id from c29), List.append_nil] at e
   exact ⟨k + 1, ⟨by omega, _, ak, ck, mkE_of ⟨rfl, rfl, rfl, rfl, rfl, rfl, (by rw [e]; rfl), rfl, trivial⟩, (by rw [e]; exact h.to)⟩, by show x.D.length - (k + 1) < x.D.length - k; omega⟩
  refine W.exit (W.seq (W.seq ?_))
  have hke : k = x.D.length := by omega
  have eK : (keepX (x.D.take k) (flM (u.guest i) id floor)) = (keepX x.D (flM (u.guest i) id floor)) := by rw [hke, List.take_length]
  rw [eK] at h
  have hKl := keepX_len (D := x.D) (fl := (flM (u.guest i) id floor))
  have eM : keepM (u.guest i).done (flM (u.guest i) id floor) = (keepX x.D (flM (u.guest i) id floor)).map DX.out := by rw [← hdn]; exact keep_map
  have eLen : (keepM (u.guest i).done (flM (u.guest i) id floor)).length = (keepX x.D (flM (u.guest i) id floor)).length := by rw [eM, List.length_map]
  refine W.region (WL.val run_assign rfl rfl (WL.nil (W.block ?_)))
  refine W.loop (fun (q : Nat) env w => q ≤ (keepX x.D (flM (u.guest i) id floor)).length ∧ ∃ (j : Env), env = mkE j [(0, .pointer (some ⟨bu, 0, none⟩)), (1, .int .i64 (i : Int)), (2, .int .u64 id), (3, .int .u64 (flM (u.guest i) id floor)), (9, .pointer (some ⟨b9, 0, none⟩)), (10, .pointer (some ⟨b10, 0, none⟩)), (12, .slice ak (keepX x.D (flM (u.guest i) id floor)).length ck), (14, .int .i64 (q : Int))] ∧ (∀ (p : Nat), p < q → ∀ e : DX, (keepX x.D (flM (u.guest i) id floor))[p]? = some e → e.id ≠ id) ∧ On W0 (Own 6 (.slice ak (keepX x.D (flM (u.guest i) id floor)).length ck) (keepX x.D (flM (u.guest i) id floor)).length ((keepX x.D (flM (u.guest i) id floor)).flatMap DX.cells) :: blk bu (rcells bs bt xs) 89 :: RSpP 94 bs pc u.s :: blk bt u.t.cells 137 :: PoolC pc :: blk b10 [.int .i64 0, .int .i64 0, .int .i64 0, .slice none 0 0, .int .i64 0] 36 :: blk b9 [.int .i64 kind, .int .i64 at_, .int .i64 n, .slice ax data.length cx, .int .u64 key, .int .u64 new, .int .i64 typ, .bool force] 25 :: L) w) (fun q => (keepX x.D (flM (u.guest i) id floor)).length - q) (0) ?_ ?_
  · exact ⟨Nat.zero_le _, _, mkE_of ⟨rfl, rfl, rfl, rfl, rfl, rfl, congrArg (fun z : List DX => Value.slice ak z.length ck) eK, rfl, trivial⟩, (fun p hp => by omega), h.to⟩
  clear h
  rintro q env w ⟨hq8, j, rfl, hno, h⟩
  refine W.seq (W.seq (W.region (WL.val run_move rfl rfl (WL.val run_move rfl rfl (WL.val (run_lenSlice underlying86 rfl) rfl rfl (WL.val (run_lss rfl rfl) rfl rfl (WL.nil ?_)))))))
  refine W.condIf rfl (fun c37 => ?_) (fun c37 => ?_)
  ·
   refine W.skip (W.seq ?_)
   have hqK : q < (keepX x.D (flM (u.guest i) id floor)).length := by omega
   have ex_ : ∃ d, (keepX x.D (flM (u.guest i) id floor))[q]? = some d := ⟨(keepX x.D (flM (u.guest i) id floor))[q]'(by omega), by simp⟩
   obtain ⟨⟨did, ⟨dst, dky, dco, dda, din⟩, dvv⟩, hq⟩ := ex_
   have hdm := List.mem_of_getElem? hq
   have hdp0 := hok.2.2 _ (keepX_mem hdm)
   have hdp : inB pc dvv dda := hdp0
   have hdf := rslice_of ((h.fetch (PoolC pc)).fetch (blk bu (rcells bs bt xs) 89)) hdp
   obtain ⟨dax, dcx, hdf⟩ := hdf
   subst hdf
   have hrow := drop_flatMap DX.cells 6 DX.cells_length (keepX x.D (flM (u.guest i) id floor)) _ _ hq
   have h := h.fetch (Own 6 (.slice ak (keepX x.D (flM (u.guest i) id floor)).length ck) (keepX x.D (flM (u.guest i) id floor)).length ((keepX x.D (flM (u.guest i) id floor)).flatMap DX.cells))
   have ha := Own.addr h (by omega)
   obtain ⟨bn, on, hal⟩ := ha
   subst hal
   refine W.block (W.seq (W.region (WL.val run_move rfl rfl (WL.val run_move rfl rfl (WL.val (run_indexAddr underlying86 sizeOf140 rfl rfl (by omega) (by omega)) rfl rfl (WL.val (run_fieldAddr 0 underlying140 rfl sizeOf23 rfl rfl) rfl rfl (WL.val (run_load1 isAgg23 rfl ((h.cellsO (v := .slice (some ⟨bn, on, none⟩) (keepX x.D (flM (u.guest i) id floor)).length ck)).elem (i := q) (vs := [.int .u64 did, .int .i64 dst, .int .i64 dky, .int .i64 dco, .slice dax dda.length dcx, .int .i64 din]) hqK hrow 0 _ rfl)) rfl rfl ?_)))))))
   refine WL.val run_move rfl rfl (WL.val (run_eql rfl rfl) rfl rfl (WL.nil ?_))
   refine W.condIf rfl (fun c42 => ?_) (fun c42 => ?_)
   ·
    refine W.seq (W.region (WL.val run_move rfl rfl (WL.val run_move rfl rfl (WL.val run_move rfl rfl (WL.val (run_nilCheck rfl) rfl rfl (WL.val (run_fieldAddr 10 underlying89 rfl sizeOf85 rfl rfl) rfl rfl (WL.val (run_indexAddrArr underlying85 sizeOf23 rfl rfl (by omega) (by omega)) rfl rfl ?_)))))))
    refine WL.eff (eff_store (v := .int .u64 (flM (u.guest i) id floor)) (h.fetch (blk bu (rcells bs bt xs) 89)) sizeOf23 rfl rfl rfl (rlt (k := 0 + 10 + ((i : Nat) : Int).toNat * 1) hl8 (by simp; omega)) (free0 _)) rfl rfl ?_
    rintro _ w h
    have h := setFl (TS := 94) (TT := 137) (u := u) (fl := (flM (u.guest i) id floor)) (bu := bu) (bs := bs) (bt := bt) hpk hx hxs hok ((((h.fetch (PoolC pc)).fetch (blk bt u.t.cells 137)).fetch (RSpP 94 bs pc u.s)).fetch (blk bu ((rcells bs bt xs).set (0 + 10 + ((i : Nat) : Int).toNat * 1) (.int .u64 (flM (u.guest i) id floor))) 89))
    have ho := openF h
    obtain ⟨bs2, bt2, xs2, hpk2, h⟩ := ho
    have hl82 := xs_len hpk2
    have hr2 := rx_of hpk2 hi
    obtain ⟨x2, hx2, hxs2, hok2⟩ := hr2
    refine WL.nil (W.seq (W.region (WL.val run_move rfl rfl (WL.val run_move rfl rfl (WL.val run_move rfl rfl (WL.val (run_nilCheck rfl) rfl rfl (WL.val (run_fieldAddr 18 underlying89 rfl sizeOf87 rfl rfl) rfl rfl ?_)))))))
    refine WL.val (run_indexAddrArr underlying87 sizeOf86 rfl rfl (by omega) (by omega)) rfl rfl (WL.eff (eff_store (v := .slice (some ⟨bn, on, none⟩) (keepX x.D (flM (u.guest i) id floor)).length ck) (h.fetch (blk bu (rcells bs2 bt2 xs2) 89)) sizeOf86 rfl rfl rfl (rlt (k := 0 + 18 + ((i : Nat) : Int).toNat * 1) hl82 (by simp; omega)) (free0 _)) rfl rfl ?_)
    rintro _ w h
    refine WL.nil (W.seq (W.region (WL.val run_move rfl rfl (WL.val run_move rfl rfl (WL.val (run_indexAddr underlying86 sizeOf140 rfl rfl (by omega) (by omega)) rfl rfl (WL.val (run_fieldAddr 1 underlying140 rfl sizeOf36 rfl rfl) rfl rfl ?_))))))
    refine WL.val (run_loadN isAgg36 sizeOf36 rfl rfl (fun jj uu hj => by
      have e := (h.cellsO (v := .slice (some ⟨bn, on, none⟩) (keepX x.D (flM (u.guest i) id floor)).length ck)).elem (i := q) (vs := [.int .u64 did, .int .i64 dst, .int .i64 dky, .int .i64 dco, .slice dax dda.length dcx, .int .i64 din]) hqK hrow (1 + jj) uu (by rw [Nat.add_comm]; exact hj)
      rw [← Nat.add_assoc] at e
      exact e)) rfl rfl ?_
    refine WL.eff (eff_storeW (vs := [.int .i64 _, .int .i64 _, .int .i64 _, .slice _ _ _, .int .i64 _]) h sizeOf36 rfl rfl rfl rfl rfl) rfl rfl ?_
    rintro _ w h
    refine WL.val run_assign rfl rfl (WL.nil (W.ret (bodyQ.rctB (vs := [.int .i64 _, .int .i64 _, .int .i64 _, .slice _ _ _, .int .i64 _]) (v2 := .bool _) h results36 isAgg36 sizeOf36 rfl rfl rfl rfl ?_)))
    have hw := setDo (L := L) (TU := 89) (TS := 94) (TT := 137) (bu := bu) (bs := bs2) (bt := bt2) (pc := pc) (u := (u.putG i { u.guest i with floor := (flM (u.guest i) id floor) })) (D' := (keepX x.D (flM (u.guest i) id floor))) (dv' := .slice (some ⟨bn, on, none⟩) (keepX x.D (flM (u.guest i) id floor)).length ck) (n := (keepX x.D (flM (u.guest i) id floor)).length) (rows := ((keepX x.D (flM (u.guest i) id floor)).flatMap DX.cells)) hpk2 hx2 hxs2 hok2 rfl rfl (fun d hd => hok.2.2 d (keepX_mem hd)) h.to
    obtain ⟨pc3, hs3, h⟩ := hw
    have hlk : lookD (keepM (u.guest i).done (flM (u.guest i) id floor)) id = some (⟨did, ⟨dst, dky, dco, dda, din⟩, .slice dax dda.length dcx⟩ : DX).r := by rw [eM]; exact lookX_some hq c42 hno
    have eu : ((u.putG i { u.guest i with floor := (flM (u.guest i) id floor) }).putG i { (u.putG i { u.guest i with floor := (flM (u.guest i) id floor) }).guest i with done := (keepX x.D (flM (u.guest i) id floor)).map DX.out }) = u.putG i (onceG u i id floor) := by
      rw [guest_put hg8 hi, put_put]
      unfold onceG Gs.setD
      rw [eM]
    rw [eu] at h
    exact ⟨pc3, _, (⟨did, ⟨dst, dky, dco, dda, din⟩, .slice dax dda.length dcx⟩ : DX).r, false, .slice dax dda.length dcx, once_old hnb hlk, rfl, hs3, hs3 _ hdp, h.to⟩
   refine W.skip (W.region (WL.val run_move rfl rfl (WL.val (run_incN rfl rfl (by omega)) rfl rfl (WL.val run_assign rfl rfl (WL.nil ?_)))))
   exact ⟨q + 1, ⟨by omega, _, mkE_of ⟨rfl, rfl, rfl, rfl, rfl, rfl, rfl, rfl, trivial⟩, (fun p hp e he => by by_cases epq : p = q; subst epq; rw [hq] at he; cases he; exact c42; exact hno p (by omega) e he), h.to⟩, by show (keepX x.D (flM (u.guest i) id floor)).length - (q + 1) < (keepX x.D (flM (u.guest i) id floor)).length - q; omega⟩
  refine W.exit (W.seq (W.seq ?_))
  have hln : lookD (keepM (u.guest i).done (flM (u.guest i) id floor)) id = none := by rw [eM]; exact lookX_none (fun p d hd => hno p (by have := (List.getElem?_eq_some_iff.1 hd).1; omega) d hd)
  refine W.region (WL.val run_move rfl rfl (WL.val (run_lenSlice underlying86 rfl) rfl rfl (WL.val (run_geq rfl rfl) rfl rfl (WL.nil ?_))))
  refine W.condIf rfl (fun c50 => ?_) (fun c50 => ?_)
  ·
   refine W.seq (W.region (WL.eff (eff_call call80 (rbusy_ok h)) rfl rfl ?_))
   rintro _ w ⟨rfl, h⟩
   refine WL.eff (eff_storeW (vs := [.int .i64 _, .int .i64 _, .int .i64 _, .slice _ _ _, .int .i64 _]) h sizeOf36 rfl rfl rfl rfl rfl) rfl rfl ?_
   rintro _ w h
   refine WL.val run_assign rfl rfl (WL.nil (W.ret (bodyQ.rctB (vs := [.int .i64 _, .int .i64 _, .int .i64 _, .slice _ _ _, .int .i64 _]) (v2 := .bool _) h results36 isAgg36 sizeOf36 rfl rfl rfl rfl ?_)))
   have h := closeF (bu := bu) (u := u) hpk ((((h.fetch (PoolC pc)).fetch (blk bt u.t.cells 137)).fetch (RSpP 94 bs pc u.s)).fetch (blk bu (rcells bs bt xs) 89))
   exact ⟨pc, u, plain 8 0 0, false, .slice none 0 0, (once_full hnb hln (by rw [eLen]; omega)), rfl, subK_refl, hnil, h.to⟩
  refine W.skip (W.seq (W.region (WL.val run_move rfl rfl (WL.val run_move rfl rfl (WL.val run_move rfl rfl (WL.val (run_nilCheck rfl) rfl rfl (WL.val (run_fieldAddr 10 underlying89 rfl sizeOf85 rfl rfl) rfl rfl ?_)))))))
  refine WL.val (run_indexAddrArr underlying85 sizeOf23 rfl rfl (by omega) (by omega)) rfl rfl (WL.eff (eff_store (v := .int .u64 (flM (u.guest i) id floor)) (h.fetch (blk bu (rcells bs bt xs) 89)) sizeOf23 rfl rfl rfl (rlt (k := 0 + 10 + ((i : Nat) : Int).toNat * 1) hl8 (by simp; omega)) (free0 _)) rfl rfl ?_)
  rintro _ w h
  have h := setFl (TS := 94) (TT := 137) (u := u) (fl := (flM (u.guest i) id floor)) (bu := bu) (bs := bs) (bt := bt) hpk hx hxs hok ((((h.fetch (PoolC pc)).fetch (blk bt u.t.cells 137)).fetch (RSpP 94 bs pc u.s)).fetch (blk bu ((rcells bs bt xs).set (0 + 10 + ((i : Nat) : Int).toNat * 1) (.int .u64 (flM (u.guest i) id floor))) 89))
  have hsm1 : small 999000 (u.putG i { u.guest i with floor := (flM (u.guest i) id floor) }) := setD_small (fl := (flM (u.guest i) id floor)) (D := (u.guest i).done) hg8 hi hsm
  have hgu1 : goodU (u.putG i { u.guest i with floor := (flM (u.guest i) id floor) }) := goodU_setD (fl := (flM (u.guest i) id floor)) (D := (u.guest i).done) hg8 hi hgu_
  refine WL.nil (W.seq (W.region (WL.val run_move rfl rfl (WL.val run_move rfl rfl (WL.val (run_loadB (vs := [.int .i64 _, .int .i64 _, .int .i64 _, .slice _ _ _, .int .u64 _, .int .u64 _, .int .i64 _, .bool _]) h isAgg25 sizeOf25 rfl rfl rfl) rfl rfl (WL.eff (eff_call call38 (rdo_ok (bu := bu) (u := (u.putG i { u.guest i with floor := (flM (u.guest i) id floor) })) (pc := pc) (hh := (i : Int)) hsm1 hgu1 hcm ((h.fetch (PoolC pc)).fetch (RefU 89 94 137 bu pc (u.putG i { u.guest i with floor := (flM (u.guest i) id floor) }))) (Gives.to C) hd)) rfl rfl ?_))))))
  rintro _ w ⟨pc2, u', r', dv', hdo, rfl, hs2, hin2, h⟩
  have hdf := rslice_of ((h.fetch (PoolC pc2)).fetch (RefU 89 94 137 bu pc2 u')) hin2
  obtain ⟨adr, cdr, hdf⟩ := hdf
  subst hdf
  have ho := openF (h.fetch (RefU 89 94 137 bu pc2 u'))
  obtain ⟨bs2, bt2, xs2, hpk2, h⟩ := ho
  have hl82 := xs_len hpk2
  have hr2 := rx_of hpk2 hi
  obtain ⟨x2, hx2, hxs2, hok2⟩ := hr2
  refine WL.eff (eff_alloc h zeroValue36 rfl) rfl rfl ?_
  rintro _ w ⟨b15, rfl, h⟩
  refine WL.eff (eff_storeW (vs := [.int .i64 _, .int .i64 _, .int .i64 _, .slice _ _ _, .int .i64 _]) h sizeOf36 rfl rfl rfl rfl rfl) rfl rfl ?_
  rintro _ w h
  refine WL.nil (W.seq ?_)
  refine W.draw Tryz.follows h (fun w h => ?_)
  refine WT.pure 0 rfl (by kernel_rfl) (fun w' => run_move) rfl rfl (WT.pure 1 rfl (by kernel_rfl) (fun w' => run_move) rfl rfl (WT.pure 2 rfl (by kernel_rfl) (fun w' => run_move) rfl rfl (WT.pure 3 rfl (by kernel_rfl) (fun w' => run_move) rfl rfl (WT.loadN (vs := [.int .i64 _, .int .i64 _, .int .i64 _, .slice _ _ _, .int .i64 _]) 4 rfl (by kernel_rfl) isAgg36 sizeOf36 rfl rfl (h.rowV (n := 5) rfl) rfl rfl (WT.pure 5 rfl (by kernel_rfl) (fun w' => (run_buildS (pl := [(0, 1), (1, 5)]) (out := [.int .u64 _, .int .i64 _, .int .i64 _, .int .i64 _, .slice _ _ _, .int .i64 _]) underlying140 zeroValue140 (fun w => by kernel_rfl) rfl (⟨⟨_, _, rfl, rfl, by decide⟩, ⟨⟨_, _, rfl, rfl, by decide⟩, trivial⟩⟩) rfl)) rfl rfl (WT.pure 8 rfl (by kernel_rfl) (fun w' => (run_nilCheck rfl)) rfl rfl (WT.pure 9 rfl (by kernel_rfl) (fun w' => (run_fieldAddr 18 underlying89 rfl sizeOf87 rfl rfl)) rfl rfl ?_)))))))
  refine WT.eff 6 [false] rfl (by kernel_rfl) (by kernel_rfl) (eff_mkSlice (zl := [.int .u64 0, .int .i64 0, .int .i64 0, .int .i64 0, .slice none 0 0, .int .i64 0]) (out := [.int .u64 _, .int .i64 _, .int .i64 _, .int .i64 _, .slice _ _ _, .int .i64 _]) h underlying86 sizeOf140 zeroValue140 (by decide) (by kernel_rfl) rfl rfl (by simp) (⟨⟨_, _, rfl, rfl, by decide⟩, trivial⟩) rfl rfl (by simp [maxLen])) rfl rfl ?_
  rintro _ w ⟨b139, rfl, h⟩
  refine ⟨trivial, ?_⟩
  refine WT.eff 7 [] rfl (by kernel_rfl) (by kernel_rfl) (eff_app (c2 := 1) (bytes := 64) (h.fetch (Own 6 (.slice ak (keepX x.D (flM (u.guest i) id floor)).length ck) (keepX x.D (flM (u.guest i) id floor)).length ((keepX x.D (flM (u.guest i) id floor)).flatMap DX.cells))) rfl rfl (h.cellsO (v := .slice (some ⟨b139, 0, none⟩) 1 1)) underlying86 rfl rfl rfl rfl rfl (by omega) (by omega) (by simp [Value.oneCell'])) rfl rfl ?_
  rintro _ w ⟨a140, c140, rfl, h⟩
  have h : On W0 (Own 6 (.slice a140 ((keepX x.D (flM (u.guest i) id floor)).length + 1) c140) ((keepX x.D (flM (u.guest i) id floor)).length + 1) ((keepX x.D (flM (u.guest i) id floor)).flatMap DX.cells ++ DX.cells (⟨id, r', .slice adr r'.data.length cdr⟩ : DX)) :: _) w := h
  rw [show (keepX x.D (flM (u.guest i) id floor)).flatMap DX.cells ++ DX.cells (⟨id, r', .slice adr r'.data.length cdr⟩ : DX) = ((keepX x.D (flM (u.guest i) id floor)) ++ [(⟨id, r', .slice adr r'.data.length cdr⟩ : DX)]).flatMap DX.cells by simp] at h
  refine ⟨trivial, ?_⟩
  refine WT.pure 10 rfl (by kernel_rfl) (fun w' => (run_indexAddrArr underlying87 sizeOf86 rfl rfl (by omega) (by omega))) rfl rfl (WT.eff 11 [] rfl (by kernel_rfl) (by kernel_rfl) (eff_store (v := .slice a140 ((keepX x.D (flM (u.guest i) id floor)).length + 1) c140) (h.fetch (blk bu (rcells bs2 bt2 xs2) 89)) sizeOf86 rfl rfl rfl (rlt (k := 0 + 18 + ((i : Nat) : Int).toNat * 1) hl82 (by simp; omega)) (free0 _)) rfl rfl ?_)
  rintro _ w h
  refine ⟨trivial, ?_⟩
  refine WT.done (by kernel_rfl) (W.seq (W.region (WL.val (run_loadB (vs := [.int .i64 _, .int .i64 _, .int .i64 _, .slice _ _ _, .int .i64 _]) h isAgg36 sizeOf36 rfl rfl rfl) rfl rfl (WL.eff (eff_storeW (vs := [.int .i64 _, .int .i64 _, .int .i64 _, .slice _ _ _, .int .i64 _]) h sizeOf36 rfl rfl rfl rfl rfl) rfl rfl ?_))))
  rintro _ w h
  refine WL.val run_assign rfl rfl (WL.nil (W.ret (bodyQ.rctB (vs := [.int .i64 _, .int .i64 _, .int .i64 _, .slice _ _ _, .int .i64 _]) (v2 := .bool _) h results36 isAgg36 sizeOf36 rfl rfl rfl rfl ?_)))
  have hw := setDo (L := L) (TU := 89) (TS := 94) (TT := 137) (bu := bu) (bs := bs2) (bt := bt2) (pc := pc2) (u := u') (D' := ((keepX x.D (flM (u.guest i) id floor)) ++ [(⟨id, r', .slice adr r'.data.length cdr⟩ : DX)])) (dv' := .slice a140 ((keepX x.D (flM (u.guest i) id floor)).length + 1) c140) (n := ((keepX x.D (flM (u.guest i) id floor)).length + 1)) (rows := (((keepX x.D (flM (u.guest i) id floor)) ++ [(⟨id, r', .slice adr r'.data.length cdr⟩ : DX)]).flatMap DX.cells)) hpk2 hx2 hxs2 hok2 (by rw [List.length_append]; rfl) rfl (fun d hd => by rcases List.mem_append.1 hd with hd | hd; exact hs2 _ (hok.2.2 d (keepX_mem hd)); rw [List.mem_singleton] at hd; subst hd; exact hin2) h.to
  obtain ⟨pc3, hs3, h⟩ := hw
  have hfin := once_done hg8 hi hnb hln (by rw [eLen]; omega) hdo
  rw [eM] at hfin
  have em : ((keepX x.D (flM (u.guest i) id floor)) ++ [(⟨id, r', .slice adr r'.data.length cdr⟩ : DX)]).map DX.out = (keepX x.D (flM (u.guest i) id floor)).map DX.out ++ [(id, r')] := by rw [List.map_append]; rfl
  rw [em] at h
  exact ⟨pc3, _, r', true, _, hfin, rfl, hs2.trans hs3, hs3 _ hin2, h.to⟩
theorem roncebad_ok {bu : Nat} {hh id floor : Int} {u : Un} {pc : PoolK} {kind at_ n key new typ : Int} {force : Bool} {data : List UInt8} {ax : Option Addr} {cx : Nat} (hb : hostB hh = false) (h : On W0 (RefU 89 94 137 bu pc u :: PoolC pc :: L) w) : Calls Tryz.prog 36 #[.pointer (some ⟨bu, 0, none⟩), .int .i64 hh, .int .u64 id, .int .u64 floor, (⟨kind, at_, n, data, key, new, typ, force⟩ : Cm).val (.slice ax data.length cx)] w (Ret fun v w' => v = .tuple #[(plain 8 0 0 : Rp).val (.slice none 0 0), .bool false] ∧ On W0 (RefU 89 94 137 bu pc u :: PoolC pc :: L) w') := by
  refine enter func36 rfl ntmps36 rfl ?_
  have hb := hostB_no.1 hb
  refine W.seq (W.region (WL.eff (eff_box (v := .agg _) (l := (⟨kind, at_, n, data, key, new, typ, force⟩ : Cm).cells (.slice ax data.length cx)) h rfl rfl) rfl rfl ?_))
  rintro _ w ⟨b9, rfl, h⟩
  have h : On W0 (blk b9 [.int .i64 kind, .int .i64 at_, .int .i64 n, .slice ax data.length cx, .int .u64 key, .int .u64 new, .int .i64 typ, .bool force] 25 :: _) w := h
  refine WL.eff (eff_alloc h zeroValue36 rfl) rfl rfl ?_
  rintro _ w ⟨b10, rfl, h⟩
  refine WL.val run_assign rfl rfl (WL.nil (W.seq (W.seq (W.region (WL.val run_move rfl rfl ?_)))))
  refine WL.dec (run_lss rfl rfl) rfl rfl (fun c17 => ?_) (fun c17 => ?_)
  ·
   refine WL.val run_move rfl rfl (WL.skip rfl rfl (WL.skip rfl rfl (WL.val (run_pickT rfl) rfl rfl (WL.val run_move rfl rfl (WL.skip rfl rfl (WL.skip rfl rfl (WL.val (run_pickT rfl) rfl rfl ?_)))))))
   refine WL.nil (W.condT rfl (W.seq (W.region (WL.eff (eff_call call80 (rbusy_ok h)) rfl rfl ?_))))
   rintro _ w ⟨rfl, h⟩
   refine WL.eff (eff_storeW (vs := [.int .i64 _, .int .i64 _, .int .i64 _, .slice _ _ _, .int .i64 _]) h sizeOf36 rfl rfl rfl rfl rfl) rfl rfl ?_
   rintro _ w h
   refine WL.val run_assign rfl rfl (WL.nil (W.ret (bodyQ.rctB (vs := [.int .i64 _, .int .i64 _, .int .i64 _, .slice _ _ _, .int .i64 _]) (v2 := .bool _) h results36 isAgg36 sizeOf36 rfl rfl rfl rfl ?_)))
   exact ⟨rfl, h.to⟩
  refine WL.val run_move rfl rfl (WL.val run_move rfl rfl ?_)
  refine WL.dec (run_geq rfl rfl) rfl rfl (fun c20 => ?_) (fun c20 => ?_)
  ·
   refine WL.val (run_pickF rfl) rfl rfl (WL.val run_move rfl rfl (WL.skip rfl rfl (WL.skip rfl rfl (WL.val (run_pickT rfl) rfl rfl (WL.nil (W.condT rfl (W.seq ?_)))))))
   refine W.region (WL.eff (eff_call call80 (rbusy_ok h)) rfl rfl ?_)
   rintro _ w ⟨rfl, h⟩
   refine WL.eff (eff_storeW (vs := [.int .i64 _, .int .i64 _, .int .i64 _, .slice _ _ _, .int .i64 _]) h sizeOf36 rfl rfl rfl rfl rfl) rfl rfl ?_
   rintro _ w h
   refine WL.val run_assign rfl rfl (WL.nil (W.ret (bodyQ.rctB (vs := [.int .i64 _, .int .i64 _, .int .i64 _, .slice _ _ _, .int .i64 _]) (v2 := .bool _) h results36 isAgg36 sizeOf36 rfl rfl rfl rfl ?_)))
   exact ⟨rfl, h.to⟩
  exact absurd (show 0 ≤ hh ∧ hh < 8 by omega) hb
end Go.Proofs.YtjbgiingimhnnaaGreat
/-
  A unit: a new one, the same, apart: the contracts. Lines of walks printed by a program of the prover's.
-/
namespace Go.Proofs.YtjbgiingimhnnaaGreat
open Go.Proofs.Tryz
open Go Go.Sl Go.Sl.BitM Go.Sl.SpM Go.Sl.RsM Go.Sl.ByM Go.Sl.UnM
set_option linter.unusedVariables false
set_option linter.unusedSimpArgs false
set_option maxHeartbeats 1000000
set_option maxRecDepth 8000
variable {W0 w : World} {L F : List HProp}
theorem usame_ok {s1 k1 c1 i1 : Int} {d1 : List UInt8} {a1 : Option Addr} {x1 : Nat} {s2 k2 c2 i2 : Int} {d2 : List UInt8} {a2 : Option Addr} {x2 : Nat} (h : On W0 L w) (C1 : Gives L (Bytes (.slice a1 d1.length x1) d1)) (C2 : Gives L (Bytes (.slice a2 d2.length x2) d2)) : Calls Tryz.prog 18 #[(⟨s1, k1, c1, d1, i1⟩ : Rp).val (.slice a1 d1.length x1), (⟨s2, k2, c2, d2, i2⟩ : Rp).val (.slice a2 d2.length x2)] w (Ret fun v w' => v = .bool (decide ((⟨s1, k1, c1, d1, i1⟩ : Rp) = (⟨s2, k2, c2, d2, i2⟩ : Rp))) ∧ On W0 L w') := by
  refine enter func18 rfl ntmps18 rfl (W.seq (W.region (WL.eff (eff_box (v := .agg _) (l := (⟨s1, k1, c1, d1, i1⟩ : Rp).cells (.slice a1 d1.length x1)) h rfl rfl) rfl rfl ?_)))
  rintro _ w ⟨b2, rfl, h⟩
  have h : On W0 (blk b2 [.int .i64 s1, .int .i64 k1, .int .i64 c1, .slice a1 d1.length x1, .int .i64 i1] 36 :: _) w := h
  refine WL.eff (eff_box (v := .agg _) (l := (⟨s2, k2, c2, d2, i2⟩ : Rp).cells (.slice a2 d2.length x2)) h rfl rfl) rfl rfl ?_
  rintro _ w ⟨b3, rfl, h⟩
  have h : On W0 (blk b3 [.int .i64 s2, .int .i64 k2, .int .i64 c2, .slice a2 d2.length x2, .int .i64 i2] 36 :: _) w := h
  refine WL.val run_assign rfl rfl (WL.nil (W.seq (W.region (WL.val (run_fieldAddr 0 underlying36 rfl sizeOf3 rfl rfl) rfl rfl (WL.val (run_load1 isAgg3 rfl (h.cellB rfl)) rfl rfl (WL.val (run_fieldAddr 0 underlying36 rfl sizeOf3 rfl rfl) rfl rfl (WL.val (run_load1 isAgg3 rfl (h.cellB rfl)) rfl rfl ?_)))))))
  refine WL.dec (run_eql rfl rfl) rfl rfl (fun c9 => ?_) (fun c9 => ?_)
  ·
   refine WL.val run_move rfl rfl (WL.val (run_fieldAddr 1 underlying36 rfl sizeOf3 rfl rfl) rfl rfl (WL.val (run_load1 isAgg3 rfl (h.cellB rfl)) rfl rfl (WL.val (run_fieldAddr 1 underlying36 rfl sizeOf3 rfl rfl) rfl rfl (WL.val (run_load1 isAgg3 rfl (h.cellB rfl)) rfl rfl ?_))))
   refine WL.dec (run_eql rfl rfl) rfl rfl (fun c15 => ?_) (fun c15 => ?_)
   ·
    refine WL.val (run_pickT rfl) rfl rfl (WL.val run_move rfl rfl (WL.val (run_fieldAddr 2 underlying36 rfl sizeOf3 rfl rfl) rfl rfl (WL.val (run_load1 isAgg3 rfl (h.cellB rfl)) rfl rfl (WL.val (run_fieldAddr 2 underlying36 rfl sizeOf3 rfl rfl) rfl rfl (WL.val (run_load1 isAgg3 rfl (h.cellB rfl)) rfl rfl ?_)))))
    refine WL.dec (run_eql rfl rfl) rfl rfl (fun c22 => ?_) (fun c22 => ?_)
    ·
     refine WL.val (run_pickT rfl) rfl rfl (WL.val run_move rfl rfl (WL.val (run_fieldAddr 4 underlying36 rfl sizeOf3 rfl rfl) rfl rfl (WL.val (run_load1 isAgg3 rfl (h.cellB rfl)) rfl rfl (WL.val (run_fieldAddr 4 underlying36 rfl sizeOf3 rfl rfl) rfl rfl (WL.val (run_load1 isAgg3 rfl (h.cellB rfl)) rfl rfl ?_)))))
     refine WL.dec (run_eql rfl rfl) rfl rfl (fun c29 => ?_) (fun c29 => ?_)
     ·
      refine WL.val (run_pickT rfl) rfl rfl (WL.val run_move rfl rfl (WL.val (run_fieldAddr 3 underlying36 rfl sizeOf22 rfl rfl) rfl rfl (WL.val (run_load1 isAgg22 rfl (h.cellB rfl)) rfl rfl (WL.val (run_fieldAddr 3 underlying36 rfl sizeOf22 rfl rfl) rfl rfl (WL.val (run_load1 isAgg22 rfl (h.cellB rfl)) rfl rfl (WL.eff (eff_call call24 (bequal_ok (bs := d1) (cs := d2) h (Gives.to C1) (Gives.to C2))) rfl rfl ?_))))))
      rintro _ w ⟨rfl, h⟩
      refine WL.val (run_pickT rfl) rfl rfl (WL.val run_assign rfl rfl (WL.nil (W.ret (bodyQ.r1 (v := .bool _) results18 rfl ?_))))
      exact ⟨congrArg Value.bool (decide_eq_decide.2 ⟨fun e => by rw [c9, c15, c22, c29, e], fun e => by cases e; rfl⟩), h.to⟩
     refine WL.val (run_pickT rfl) rfl rfl (WL.val run_move rfl rfl (WL.skip rfl rfl (WL.skip rfl rfl (WL.skip rfl rfl (WL.skip rfl rfl (WL.skip rfl rfl (WL.val (run_pickF rfl) rfl rfl ?_)))))))
     refine WL.val run_assign rfl rfl (WL.nil (W.ret (bodyQ.r1 (v := .bool _) results18 rfl ?_)))
     exact ⟨congrArg Value.bool (decide_eq_false (by intro e; cases e; exact c29 rfl)).symm, h.to⟩
    refine WL.val (run_pickT rfl) rfl rfl (WL.val run_move rfl rfl (WL.skip rfl rfl (WL.skip rfl rfl (WL.skip rfl rfl (WL.skip rfl rfl (WL.skip rfl rfl (WL.val (run_pickF rfl) rfl rfl ?_)))))))
    refine WL.val run_move rfl rfl (WL.skip rfl rfl (WL.skip rfl rfl (WL.skip rfl rfl (WL.skip rfl rfl (WL.skip rfl rfl (WL.val (run_pickF rfl) rfl rfl (WL.val run_assign rfl rfl ?_)))))))
    refine WL.nil (W.ret (bodyQ.r1 (v := .bool _) results18 rfl ?_))
    exact ⟨congrArg Value.bool (decide_eq_false (by intro e; cases e; exact c22 rfl)).symm, h.to⟩
   refine WL.val (run_pickT rfl) rfl rfl (WL.val run_move rfl rfl (WL.skip rfl rfl (WL.skip rfl rfl (WL.skip rfl rfl (WL.skip rfl rfl (WL.skip rfl rfl (WL.val (run_pickF rfl) rfl rfl ?_)))))))
   refine WL.val run_move rfl rfl (WL.skip rfl rfl (WL.skip rfl rfl (WL.skip rfl rfl (WL.skip rfl rfl (WL.skip rfl rfl (WL.val (run_pickF rfl) rfl rfl (WL.val run_move rfl rfl ?_)))))))
   refine WL.skip rfl rfl (WL.skip rfl rfl (WL.skip rfl rfl (WL.skip rfl rfl (WL.skip rfl rfl (WL.val (run_pickF rfl) rfl rfl (WL.val run_assign rfl rfl (WL.nil ?_)))))))
   refine W.ret (bodyQ.r1 (v := .bool _) results18 rfl ?_)
   exact ⟨congrArg Value.bool (decide_eq_false (by intro e; cases e; exact c15 rfl)).symm, h.to⟩
  refine WL.val run_move rfl rfl (WL.skip rfl rfl (WL.skip rfl rfl (WL.skip rfl rfl (WL.skip rfl rfl (WL.skip rfl rfl (WL.val (run_pickF rfl) rfl rfl (WL.val run_move rfl rfl ?_)))))))
  refine WL.skip rfl rfl (WL.skip rfl rfl (WL.skip rfl rfl (WL.skip rfl rfl (WL.skip rfl rfl (WL.val (run_pickF rfl) rfl rfl (WL.val run_move rfl rfl (WL.skip rfl rfl ?_)))))))
  refine WL.skip rfl rfl (WL.skip rfl rfl (WL.skip rfl rfl (WL.skip rfl rfl (WL.val (run_pickF rfl) rfl rfl (WL.val run_move rfl rfl (WL.skip rfl rfl (WL.skip rfl rfl ?_)))))))
  refine WL.skip rfl rfl (WL.skip rfl rfl (WL.skip rfl rfl (WL.val (run_pickF rfl) rfl rfl (WL.val run_assign rfl rfl (WL.nil (W.ret (bodyQ.r1 (v := .bool _) results18 rfl ?_)))))))
  exact ⟨congrArg Value.bool (decide_eq_false (by intro e; cases e; exact c9 rfl)).symm, h.to⟩
theorem usameR_ok {s1 k1 c1 i1 : Int} {d1 : List UInt8} {a1 : Option Addr} {x1 : Nat} {s2 k2 c2 i2 : Int} {d2 : List UInt8} {a2 : Option Addr} {x2 : Nat} (h : On W0 L w) (C1 : Gives L (Bytes (.slice a1 d1.length x1) d1)) (C2 : Gives L (Bytes (.slice a2 d2.length x2) d2)) : Calls Tryz.prog 37 #[(⟨s1, k1, c1, d1, i1⟩ : Rp).val (.slice a1 d1.length x1), (⟨s2, k2, c2, d2, i2⟩ : Rp).val (.slice a2 d2.length x2)] w (Ret fun v w' => v = .bool (decide ((⟨s1, k1, c1, d1, i1⟩ : Rp) = (⟨s2, k2, c2, d2, i2⟩ : Rp))) ∧ On W0 L w') := by
  refine enter func37 rfl ntmps37 rfl (W.seq (W.region (WL.eff (eff_box (v := .agg _) (l := (⟨s1, k1, c1, d1, i1⟩ : Rp).cells (.slice a1 d1.length x1)) h rfl rfl) rfl rfl ?_)))
  rintro _ w ⟨b2, rfl, h⟩
  have h : On W0 (blk b2 [.int .i64 s1, .int .i64 k1, .int .i64 c1, .slice a1 d1.length x1, .int .i64 i1] 36 :: _) w := h
  refine WL.eff (eff_box (v := .agg _) (l := (⟨s2, k2, c2, d2, i2⟩ : Rp).cells (.slice a2 d2.length x2)) h rfl rfl) rfl rfl ?_
  rintro _ w ⟨b3, rfl, h⟩
  have h : On W0 (blk b3 [.int .i64 s2, .int .i64 k2, .int .i64 c2, .slice a2 d2.length x2, .int .i64 i2] 36 :: _) w := h
  refine WL.val run_assign rfl rfl (WL.nil (W.seq (W.region (WL.val (run_fieldAddr 0 underlying36 rfl sizeOf3 rfl rfl) rfl rfl (WL.val (run_load1 isAgg3 rfl (h.cellB rfl)) rfl rfl (WL.val (run_fieldAddr 0 underlying36 rfl sizeOf3 rfl rfl) rfl rfl (WL.val (run_load1 isAgg3 rfl (h.cellB rfl)) rfl rfl ?_)))))))
  refine WL.dec (run_eql rfl rfl) rfl rfl (fun c9 => ?_) (fun c9 => ?_)
  ·
   refine WL.val run_move rfl rfl (WL.val (run_fieldAddr 1 underlying36 rfl sizeOf3 rfl rfl) rfl rfl (WL.val (run_load1 isAgg3 rfl (h.cellB rfl)) rfl rfl (WL.val (run_fieldAddr 1 underlying36 rfl sizeOf3 rfl rfl) rfl rfl (WL.val (run_load1 isAgg3 rfl (h.cellB rfl)) rfl rfl ?_))))
   refine WL.dec (run_eql rfl rfl) rfl rfl (fun c15 => ?_) (fun c15 => ?_)
   ·
    refine WL.val (run_pickT rfl) rfl rfl (WL.val run_move rfl rfl (WL.val (run_fieldAddr 2 underlying36 rfl sizeOf3 rfl rfl) rfl rfl (WL.val (run_load1 isAgg3 rfl (h.cellB rfl)) rfl rfl (WL.val (run_fieldAddr 2 underlying36 rfl sizeOf3 rfl rfl) rfl rfl (WL.val (run_load1 isAgg3 rfl (h.cellB rfl)) rfl rfl ?_)))))
    refine WL.dec (run_eql rfl rfl) rfl rfl (fun c22 => ?_) (fun c22 => ?_)
    ·
     refine WL.val (run_pickT rfl) rfl rfl (WL.val run_move rfl rfl (WL.val (run_fieldAddr 4 underlying36 rfl sizeOf3 rfl rfl) rfl rfl (WL.val (run_load1 isAgg3 rfl (h.cellB rfl)) rfl rfl (WL.val (run_fieldAddr 4 underlying36 rfl sizeOf3 rfl rfl) rfl rfl (WL.val (run_load1 isAgg3 rfl (h.cellB rfl)) rfl rfl ?_)))))
     refine WL.dec (run_eql rfl rfl) rfl rfl (fun c29 => ?_) (fun c29 => ?_)
     ·
      refine WL.val (run_pickT rfl) rfl rfl (WL.val run_move rfl rfl (WL.val (run_fieldAddr 3 underlying36 rfl sizeOf22 rfl rfl) rfl rfl (WL.val (run_load1 isAgg22 rfl (h.cellB rfl)) rfl rfl (WL.val (run_bytesStr underlying22 underlying5 underlying9 rfl (h.readsTo C1)) rfl rfl (WL.val (run_fieldAddr 3 underlying36 rfl sizeOf22 rfl rfl) rfl rfl (WL.val (run_load1 isAgg22 rfl (h.cellB rfl)) rfl rfl (WL.val (run_bytesStr underlying22 underlying5 underlying9 rfl (h.readsTo C2)) rfl rfl ?_)))))))
      refine WL.val (run_eqlStr rfl rfl) rfl rfl (WL.val (run_pickT rfl) rfl rfl (WL.val run_assign rfl rfl (WL.nil (W.ret (bodyQ.r1 (v := .bool _) results37 rfl ?_)))))
      refine ⟨congrArg Value.bool (decide_eq_decide.2 ?_), h.to⟩
      simp only [Go.ByteArray.toList_eq]
      exact ⟨fun e => by rw [c9, c15, c22, c29, e], fun e => by cases e; rfl⟩
     refine WL.val (run_pickT rfl) rfl rfl (WL.val run_move rfl rfl (WL.skip rfl rfl (WL.skip rfl rfl (WL.skip rfl rfl (WL.skip rfl rfl (WL.skip rfl rfl (WL.skip rfl rfl ?_)))))))
     refine WL.skip rfl rfl (WL.val (run_pickF rfl) rfl rfl (WL.val run_assign rfl rfl (WL.nil (W.ret (bodyQ.r1 (v := .bool _) results37 rfl ?_)))))
     exact ⟨congrArg Value.bool (decide_eq_false (by intro e; cases e; exact c29 rfl)).symm, h.to⟩
    refine WL.val (run_pickT rfl) rfl rfl (WL.val run_move rfl rfl (WL.skip rfl rfl (WL.skip rfl rfl (WL.skip rfl rfl (WL.skip rfl rfl (WL.skip rfl rfl (WL.val (run_pickF rfl) rfl rfl ?_)))))))
    refine WL.val run_move rfl rfl (WL.skip rfl rfl (WL.skip rfl rfl (WL.skip rfl rfl (WL.skip rfl rfl (WL.skip rfl rfl (WL.skip rfl rfl (WL.skip rfl rfl ?_)))))))
    refine WL.val (run_pickF rfl) rfl rfl (WL.val run_assign rfl rfl (WL.nil (W.ret (bodyQ.r1 (v := .bool _) results37 rfl ?_))))
    exact ⟨congrArg Value.bool (decide_eq_false (by intro e; cases e; exact c22 rfl)).symm, h.to⟩
   refine WL.val (run_pickT rfl) rfl rfl (WL.val run_move rfl rfl (WL.skip rfl rfl (WL.skip rfl rfl (WL.skip rfl rfl (WL.skip rfl rfl (WL.skip rfl rfl (WL.val (run_pickF rfl) rfl rfl ?_)))))))
   refine WL.val run_move rfl rfl (WL.skip rfl rfl (WL.skip rfl rfl (WL.skip rfl rfl (WL.skip rfl rfl (WL.skip rfl rfl (WL.val (run_pickF rfl) rfl rfl (WL.val run_move rfl rfl ?_)))))))
   refine WL.skip rfl rfl (WL.skip rfl rfl (WL.skip rfl rfl (WL.skip rfl rfl (WL.skip rfl rfl (WL.skip rfl rfl (WL.skip rfl rfl (WL.val (run_pickF rfl) rfl rfl ?_)))))))
   refine WL.val run_assign rfl rfl (WL.nil (W.ret (bodyQ.r1 (v := .bool _) results37 rfl ?_)))
   exact ⟨congrArg Value.bool (decide_eq_false (by intro e; cases e; exact c15 rfl)).symm, h.to⟩
  refine WL.val run_move rfl rfl (WL.skip rfl rfl (WL.skip rfl rfl (WL.skip rfl rfl (WL.skip rfl rfl (WL.skip rfl rfl (WL.val (run_pickF rfl) rfl rfl (WL.val run_move rfl rfl ?_)))))))
  refine WL.skip rfl rfl (WL.skip rfl rfl (WL.skip rfl rfl (WL.skip rfl rfl (WL.skip rfl rfl (WL.val (run_pickF rfl) rfl rfl (WL.val run_move rfl rfl (WL.skip rfl rfl ?_)))))))
  refine WL.skip rfl rfl (WL.skip rfl rfl (WL.skip rfl rfl (WL.skip rfl rfl (WL.val (run_pickF rfl) rfl rfl (WL.val run_move rfl rfl (WL.skip rfl rfl (WL.skip rfl rfl ?_)))))))
  refine WL.skip rfl rfl (WL.skip rfl rfl (WL.skip rfl rfl (WL.skip rfl rfl (WL.skip rfl rfl (WL.val (run_pickF rfl) rfl rfl (WL.val run_assign rfl rfl (WL.nil ?_)))))))
  refine W.ret (bodyQ.r1 (v := .bool _) results37 rfl ?_)
  exact ⟨congrArg Value.bool (decide_eq_false (by intro e; cases e; exact c9 rfl)).symm, h.to⟩
theorem uapart_ok {s1 k1 c1 i1 : Int} {d1 : List UInt8} {a1 : Option Addr} {x1 : Nat} (h : On W0 L w) (C1 : Gives L (Bytes (.slice a1 d1.length x1) d1)) (hd : d1.length ≤ 1000000) : Calls Tryz.prog 46 #[(⟨s1, k1, c1, d1, i1⟩ : Rp).val (.slice a1 d1.length x1)] w (Ret fun v w' => ∃ a, v = (⟨s1, k1, c1, d1, i1⟩ : Rp).val (.slice a d1.length d1.length) ∧ On W0 (OwnB (.slice a d1.length d1.length) d1 :: L) w') := by
  refine enter func46 rfl ntmps46 rfl (W.seq (W.region (WL.eff (eff_box (v := .agg _) (l := (⟨s1, k1, c1, d1, i1⟩ : Rp).cells (.slice a1 d1.length x1)) h rfl rfl) rfl rfl ?_)))
  rintro _ w ⟨b1, rfl, h⟩
  have h : On W0 (blk b1 [.int .i64 s1, .int .i64 k1, .int .i64 c1, .slice a1 d1.length x1, .int .i64 i1] 36 :: _) w := h
  refine WL.eff (eff_alloc h zeroValue36 rfl) rfl rfl ?_
  rintro _ w ⟨b2, rfl, h⟩
  refine WL.nil (W.seq (W.region (WL.val (run_fieldAddr 3 underlying36 rfl sizeOf22 rfl rfl) rfl rfl (WL.val (run_load1 isAgg22 rfl (h.cellB rfl)) rfl rfl (WL.eff (eff_call call57 (clone_bytes (bs := d1) h (Gives.to C1) (by omega))) rfl rfl ?_)))))
  rintro _ w ⟨a5, c5, rfl, h⟩
  refine WL.eff (eff_call call51 (clip_bytes h)) rfl rfl ?_
  rintro _ w ⟨rfl, h⟩
  refine WL.val (run_fieldAddr 3 underlying36 rfl sizeOf22 rfl rfl) rfl rfl (WL.eff (eff_store (v := .slice _ _ _) h sizeOf22 rfl rfl rfl rfl rfl) rfl rfl ?_)
  rintro _ w h
  try simp only [Nat.zero_add, Nat.add_zero, List.set_cons_zero, List.set_cons_succ] at h
  refine WL.nil (W.seq (W.region (WL.val (run_loadB (vs := [.int .i64 _, .int .i64 _, .int .i64 _, .slice _ _ _, .int .i64 _]) h isAgg36 sizeOf36 rfl rfl rfl) rfl rfl (WL.eff (eff_storeW (vs := [.int .i64 _, .int .i64 _, .int .i64 _, .slice _ _ _, .int .i64 _]) h sizeOf36 rfl rfl rfl rfl rfl) rfl rfl ?_))))
  rintro _ w h
  refine WL.nil (W.ret (bodyQ.rcB (vs := [.int .i64 _, .int .i64 _, .int .i64 _, .slice _ _ _, .int .i64 _]) h results46 isAgg36 sizeOf36 rfl rfl rfl ?_))
  exact ⟨a5, rfl, h.to⟩
theorem upending_ok {bu i : Nat} {u : Un} {pool : PoolL} {ms : List Nat} (hi : i < 8) (hsm : (u.guest i).codes.length ≤ 1000000) (h : On W0 (UnP 68 105 113 bu pool ms u :: L) w) : Calls Tryz.prog 45 #[.pointer (some ⟨bu, 0, none⟩), .int .i64 (i : Int)] w (Ret fun v w' => ∃ a, v = .slice a (u.guest i).codes.length (u.guest i).codes.length ∧ On W0 (Own 1 (.slice a (u.guest i).codes.length (u.guest i).codes.length) (u.guest i).codes.length (cV (u.guest i).codes) :: UnP 68 105 113 bu pool ms u :: L) w') := by
  refine enter func45 rfl ntmps45 rfl ?_
  have hmx := maxLen_eq
  have ob_ := openU h
  obtain ⟨bs, bt, gs, hm, hl, h⟩ := ob_
  have ob_ := row_of hm hl hi
  obtain ⟨g, hg, hgu⟩ := ob_
  have h := Big.open hg (h.fetch (Big (GOwn pool) gs))
  have ob_ := openG h
  obtain ⟨hok, h⟩ := ob_
  have ob1_ := Own.bounds h
  obtain ⟨hb1, hb2⟩ := ob1_
  have hig : i < gs.length := by have := (List.getElem?_eq_some_iff.1 hg).1; omega
  rw [← hgu] at hsm
  rw [← hgu]
  refine W.seq (W.region (WL.val run_assign rfl rfl (WL.nil (W.seq (W.seq (W.region (WL.val run_move rfl rfl ?_)))))))
  refine WL.eff (eff_call call25 (uhost_ok h)) rfl rfl ?_
  rintro _ w ⟨hv, h⟩
  rw [host_nat hi] at hv
  subst hv
  refine WL.val (run_not rfl) rfl rfl (WL.nil (W.condF rfl (W.skip (W.seq (W.region (WL.val run_move rfl rfl (WL.val run_move rfl rfl ?_)))))))
  refine WL.val (run_nilCheck rfl) rfl rfl (WL.val (run_fieldAddr 2 underlying68 rfl sizeOf66 rfl rfl) rfl rfl (WL.val (run_indexAddrArr underlying66 sizeOf65 rfl rfl (by omega) (by omega)) rfl rfl (WL.val (run_fieldAddr 0 underlying65 rfl sizeOf62 rfl rfl) rfl rfl (WL.val (run_load1 isAgg62 rfl (h.cellB (ucell (bs := bs) (bt := bt) hg (k := 0) (by decide) rfl))) rfl rfl (WL.eff (eff_call call41 (clone_ints (l := g.s.codes) h (Gives.ownO (v := .slice g.a g.s.codes.length g.c)) (by omega))) rfl rfl ?_)))))
  rintro _ w ⟨a15, c15, rfl, h⟩
  refine WL.eff (eff_call call101 (clip_ints h)) rfl rfl ?_
  rintro _ w ⟨rfl, h⟩
  refine WL.val run_assign rfl rfl (WL.nil (W.ret (bodyQ.r1 (v := .slice _ _ _) results45 rfl ?_)))
  have h := Big.close (y := g) hig (closeG (g := g) hok (((h.fetch (Big (GOwn pool) (gs.eraseIdx i))).fetch (MapC g.mb .u64 g.kvs g.ck)).fetch (CodesO g)))
  rw [set_same hg] at h
  have h := closeU (bu := bu) (u := u) hm hl ((((h.fetch (Big (GOwn pool) gs)).fetch (blk bt u.t.cells 113)).fetch (SpP 105 bs u.s)).fetch (blk bu (ucells bs bt gs) 68))
  exact ⟨a15, rfl, (h.fetch (Own 1 (.slice a15 g.s.codes.length g.s.codes.length) g.s.codes.length (cV g.s.codes))).to⟩
theorem unewR_ok {n : Int} {pool : PoolL} (h : On W0 L w) : Calls Tryz.prog 10 #[.int .i64 n] w (Ret fun v w' => (∃ N : Nat, n = N ∧ 1 ≤ N ∧ N ≤ 1024 ∧ ∃ (bu bs bt : Nat) (mbs : List Nat), mbs.length = 8 ∧ v = .tuple #[.pointer (some ⟨bu, 0, none⟩), .int .i64 0] ∧ On W0 (blk bu (ucells bs bt (mbs.map zG)) 68 :: SpP 105 bs (newS N) :: blk bt newT.cells 113 :: Big (GOwn pool) (mbs.map zG) :: L) w') ∨ (¬ (1 ≤ n ∧ n ≤ 1024) ∧ v = .tuple #[.pointer none, .int .i64 1] ∧ On W0 L w')) := by
  refine enter func10 rfl ntmps10 rfl (W.seq (W.region (WL.val run_assign rfl rfl (WL.val run_assign rfl rfl (WL.nil (W.seq (W.region ?_)))))))
  refine WL.val run_move rfl rfl (WL.eff (eff_call call32 (snew_ok (n := n) h)) rfl rfl ?_)
  rintro _ w hv
  rcases hv with ⟨N, rfl, h1, h2b, bs, rfl, h⟩ | ⟨hno, rfl, h⟩
  ·
   refine WL.val run_move rfl rfl (WL.val (run_extract rfl rfl) rfl rfl (WL.val (run_extract rfl rfl) rfl rfl (WL.val run_assign rfl rfl (WL.val run_assign rfl rfl (WL.nil (W.seq (W.seq ?_)))))))
   refine W.region (WL.val run_move rfl rfl (WL.val (run_neqF rfl rfl (by decide)) rfl rfl (WL.nil (W.condF rfl (W.skip (W.seq (W.region ?_)))))))
   refine WL.val run_move rfl rfl (WL.eff (eff_call call33 (rnew_ok h)) rfl rfl ?_)
   rintro _ w ⟨bt, rfl, h⟩
   refine WL.val (run_buildS (pl := [(0, 1), (1, 1), (2, 24)]) (out := [.pointer _, .pointer _, .slice _ _ _, .int .u64 _, .map _, .slice _ _ _, .int .u64 _, .map _, .slice _ _ _, .int .u64 _, .map _, .slice _ _ _, .int .u64 _, .map _, .slice _ _ _, .int .u64 _, .map _, .slice _ _ _, .int .u64 _, .map _, .slice _ _ _, .int .u64 _, .map _, .slice _ _ _, .int .u64 _, .map _]) underlying68 zeroValue68 (fun w => by kernel_rfl) rfl (⟨⟨_, _, rfl, rfl, by decide⟩, ⟨⟨_, _, rfl, rfl, by decide⟩, trivial⟩⟩) rfl) rfl rfl ?_
   refine WL.eff (eff_box (v := .agg _) (l := [.pointer _, .pointer _, .slice _ _ _, .int .u64 _, .map _, .slice _ _ _, .int .u64 _, .map _, .slice _ _ _, .int .u64 _, .map _, .slice _ _ _, .int .u64 _, .map _, .slice _ _ _, .int .u64 _, .map _, .slice _ _ _, .int .u64 _, .map _, .slice _ _ _, .int .u64 _, .map _, .slice _ _ _, .int .u64 _, .map _]) h rfl rfl) rfl rfl ?_
   rintro _ w ⟨b19, rfl, h⟩
   refine WL.val run_assign rfl rfl (WL.nil (W.seq (W.seq (W.region (WL.val run_move rfl rfl (WL.nil (W.block ?_)))))))
   refine W.loop (fun (k : Nat) env w => k ≤ 8 ∧ ∃ (j : Env) (mbs : List Nat), mbs.length = k ∧ env = mkE j [(6, .pointer (some ⟨b19, 0, none⟩)), (20, .int .i64 (k : Int))] ∧ On W0 (blk b19 (ncells bs bt (mbs.map zG) (8 - k)) 68 :: SpP 105 bs (newS N) :: blk bt newT.cells 113 :: Big (GOwn pool) (mbs.map zG) :: L) w) (fun k => 8 - k) (0) ?_ ?_
   · have h : On W0 (Big (GOwn pool) (([] : List Nat).map zG) :: blk b19 (ncells bs bt (([] : List Nat).map zG) (8 - 0)) 68 :: _) w := Big.nil h
     exact ⟨Nat.zero_le _, _, [], rfl, mkE_of ⟨rfl, rfl, trivial⟩, h.to⟩
   rintro k env w ⟨hk8, j, mbs, hml, rfl, h⟩
   have hgl : (mbs.map zG).length = k := by rw [List.length_map, hml]
   refine W.seq (W.region (WL.val (run_lss rfl rfl) rfl rfl (WL.nil (W.seq ?_))))
   refine W.condIf rfl (fun c12 => ?_) (fun c12 => ?_)
   ·
    refine W.skip (W.seq (W.block (W.seq ?_)))
    have h8k : 8 - k = 8 - (k + 1) + 1 := by omega
    rw [h8k] at h
    refine W.region (WL.val run_move rfl rfl (WL.val run_assign rfl rfl (WL.nil (W.region (WL.val run_move rfl rfl (WL.val run_move rfl rfl (WL.eff (eff_makeMap (kd := .u64) h) rfl rfl ?_)))))))
    rintro _ w ⟨b25, rfl, h⟩
    refine WL.val (run_nilCheck rfl) rfl rfl (WL.val (run_fieldAddr 2 underlying68 rfl sizeOf66 rfl rfl) rfl rfl (WL.val (run_indexAddrArr underlying66 sizeOf65 rfl rfl (by omega) (by omega)) rfl rfl (WL.val (run_fieldAddr 2 underlying65 rfl sizeOf63 rfl rfl) rfl rfl (WL.eff (eff_store (v := .map (some b25)) h sizeOf63 rfl rfl rfl (nlt (bs := bs) (bt := bt) hgl) (free0 _)) rfl rfl ?_))))
    rintro _ w h
    rw [nset (bs := bs) (bt := bt) hgl] at h
    have h := zG_own (pool := pool) (h.fetch (MapC b25 .u64 [] 0))
    have h := Big.push ((h.fetch (Big (GOwn pool) (mbs.map zG))).fetch (GOwn pool (zG b25)))
    rw [show mbs.map zG ++ [zG b25] = (mbs ++ [b25]).map zG by rw [List.map_append]; rfl] at h
    refine WL.nil (W.region (WL.val (run_incN rfl rfl (by omega)) rfl rfl (WL.val run_move rfl rfl (WL.nil ?_))))
    exact ⟨k + 1, ⟨by omega, _, mbs ++ [b25], by rw [List.length_append, hml]; rfl, mkE_of ⟨rfl, rfl, trivial⟩, h.to⟩, by show 8 - (k + 1) < 8 - k; omega⟩
   refine W.exit (W.seq (W.region (WL.val run_move rfl rfl (WL.val run_assign rfl rfl (WL.val run_assign rfl rfl (WL.nil (W.ret ?_)))))))
   refine bodyQ.r2 (v1 := .pointer _) (v2 := .int .i64 _) results10 rfl rfl ?_
   have ob_ : k = 8 := by omega
   obtain rfl := ob_
   have h2 : On W0 (blk b19 (ucells bs bt (mbs.map zG)) 68 :: SpP 105 bs (newS N) :: blk bt newT.cells 113 :: Big (GOwn pool) (mbs.map zG) :: L) w := by
     have e : ncells bs bt (mbs.map zG) (8 - 8) = ucells bs bt (mbs.map zG) := by show _ :: _ :: ((mbs.map zG).flatMap GX.row ++ []) = _; rw [List.append_nil]
     rw [e] at h
     exact h
   exact .inl ⟨N, rfl, h1, h2b, b19, bs, bt, mbs, hml, rfl, h2⟩
  refine WL.val run_move rfl rfl (WL.val (run_extract rfl rfl) rfl rfl (WL.val (run_extract rfl rfl) rfl rfl (WL.val run_assign rfl rfl (WL.val run_assign rfl rfl (WL.nil (W.seq (W.seq ?_)))))))
  refine W.region (WL.val run_move rfl rfl (WL.val (run_neqT rfl rfl (by decide)) rfl rfl (WL.nil (W.condT rfl (W.seq (W.region (WL.val run_move rfl rfl ?_)))))))
  refine WL.val run_assign rfl rfl (WL.val run_assign rfl rfl (WL.nil (W.ret (bodyQ.r2 (v1 := .pointer _) (v2 := .int .i64 _) results10 rfl rfl ?_))))
  exact .inr ⟨hno, rfl, h⟩
theorem unew_ok {n : Int} {pool : PoolL} (h : On W0 L w) : Calls Tryz.prog 10 #[.int .i64 n] w (Ret fun v w' => (∃ N : Nat, n = N ∧ 1 ≤ N ∧ N ≤ 1024 ∧ ∃ bu ms, v = .tuple #[.pointer (some ⟨bu, 0, none⟩), .int .i64 0] ∧ On W0 (UnP 68 105 113 bu pool ms (newU N) :: L) w') ∨ (¬ (1 ≤ n ∧ n ≤ 1024) ∧ v = .tuple #[.pointer none, .int .i64 1] ∧ On W0 L w')) := by
  skip
  exact (unewR_ok (pool := pool) h).mono fun e w' he => by
    obtain ⟨v, he, hv⟩ := he
    refine ⟨v, he, ?_⟩
    rcases hv with ⟨N, hN, h1, h2, bu, bs, bt, mbs, hml, hv, h⟩ | hv
    · refine .inl ⟨N, hN, h1, h2, bu, _, hv, closeU (u := newU N) ⟨?_, rfl⟩ rfl h⟩
      rw [List.map_map]
      show mbs.map (fun _ => (⟨[], 0, []⟩ : Gs)) = List.replicate 8 ⟨[], 0, []⟩
      rw [List.map_const', hml]
    · exact .inr hv
end Go.Proofs.YtjbgiingimhnnaaGreat
