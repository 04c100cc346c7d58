/-
  A unit: commands of all kinds: the contracts. Lines of walks printed by a program of the prover's.
-/
import Derived.Test.YtdpakoefdpmebaaGreatUnit6
import Derived.Test.YtdpakoefdpmebaaGreatRs
import Derived.Test.YtdpakoefdpmebaaGreatUnitFull
namespace Go.Proofs.YtdpakoefdpmebaaGreat
open Go Go.Sl Go.Sl.BitM Go.Sl.SpM Go.Sl.RsM Go.Sl.ByM Go.Sl.UnM
set_option linter.unusedVariables false
set_option linter.unusedSimpArgs false
set_option maxHeartbeats 1000000
set_option maxRecDepth 8000
variable {W0 w : World} {L F : List HProp}

theorem unoticed_ok {bu c : Nat} {code : Int} {u : Un} {pool : PoolL} {ms : List Nat} {l : List Nat} {a : Option Addr} {rv : Value} {z0 z1 z2 z4 : Int} (hl8 : l.length ≤ 8) (hlt : ∀ j ∈ l, j < 8) (hsm : small 999000 u) (hr : rv = .agg #[.int .i64 z0, .int .i64 z1, .int .i64 z2, .slice none 0 0, .int .i64 z4]) (h : On W0 (UnP 84 146 152 bu pool ms u :: Own 2 (.slice a l.length c) l.length (notesV code l) :: L) w) : Calls Tryz.prog 93 #[.pointer (some ⟨bu, 0, none⟩), rv, .slice a l.length c] w (Ret fun v w' => v = rv ∧ On W0 (UnP 84 146 152 bu pool ms (notM u code l) :: L) w') := by
  refine enter Tryz.func93 rfl Tryz.ntmps93 rfl ?_
  subst hr
  have hul := On.unLen h
  obtain ⟨hl_, hwf⟩ := hul
  refine W.seq (W.region (WL.eff (eff_box (v := .agg _) (l := [.int .i64 z0, .int .i64 z1, .int .i64 z2, .slice none 0 0, .int .i64 z4]) h rfl rfl) rfl rfl ?_))
  rintro _ w ⟨b4, rfl, h⟩
  refine WL.eff (eff_alloc h Tryz.zeroValue36 rfl) rfl rfl ?_
  rintro _ w ⟨b6, rfl, h⟩
  refine WL.nil (W.seq (W.seq (W.region (WL.val run_move rfl rfl (WL.val (run_lenSlice Tryz.underlying157 rfl) rfl rfl (WL.val run_move rfl rfl (WL.nil ?_)))))))
  refine W.block ?_
  refine W.loop (fun (k : Nat) env w => k ≤ l.length ∧ ∃ j, env = mkE j [(0, .pointer (some ⟨bu, 0, none⟩)), (4, .pointer (some ⟨b4, 0, none⟩)), (6, .pointer (some ⟨b6, 0, none⟩)), (9, .slice a l.length c), (10, .int .i64 (l.length : Int)), (11, .int .i64 (k : Int))] ∧ On W0 (UnP 84 146 152 bu pool ms (notM u code (l.take k)) :: Own 2 (.slice a l.length c) l.length (notesV code l) :: blk b6 [.int .i64 0, .int .i64 0, .int .i64 0, .slice none 0 0, .int .i64 0] 36 :: blk b4 [.int .i64 z0, .int .i64 z1, .int .i64 z2, .slice none 0 0, .int .i64 z4] 36 :: L) w) (fun k => l.length - k) (0) ?_ ?_
  · have h : On W0 (UnP 84 146 152 bu pool ms (notM u code (l.take 0)) :: _) w := h.fetch (UnP 84 146 152 bu pool ms u)
    exact ⟨Nat.zero_le _, _, mkE_of ⟨rfl, rfl, rfl, rfl, rfl, rfl, trivial⟩, h.to⟩
  rintro k env w ⟨hk, j, rfl, h⟩
  refine W.seq (W.region (WL.val (run_lss rfl rfl) rfl rfl (WL.nil (W.seq ?_))))
  refine W.condIf rfl (fun c5 => ?_) (fun c5 => ?_)
  ·
   refine W.skip (W.seq ?_)
   have hkl : k < l.length := by omega
   have ex_ : ∃ i, l[k]? = some i := ⟨l[k], by simp⟩
   obtain ⟨i, hq⟩ := ex_
   have hi8 : i < 8 := hlt i (List.mem_of_getElem? hq)
   have hrow := drop_flatMap (noteV code) 2 (noteV_length code) l _ _ hq
   have oa_ := Own.addr (h.own (.slice a l.length c)) (by omega)
   obtain ⟨bn, on, ha_⟩ := oa_
   subst ha_
   have hcl := notM_clen (code := code) hi8 (l.take k) (u := u) hl_
   have hcs := hsm i hi8
   have htl : (l.take k).length ≤ 8 := by rw [List.length_take]; omega
   refine W.block (W.seq (W.region (WL.val (run_indexAddr Tryz.underlying157 Tryz.sizeOf207 rfl rfl (by omega) (by omega)) rfl rfl (WL.val (run_loadN Tryz.isAgg207 Tryz.sizeOf207 rfl rfl ((h.cellsO (v := .slice (some ⟨bn, on, none⟩) l.length c)).elem (i := k) (vs := [.int .i64 (i : Int), .int .i64 code]) hkl hrow)) rfl rfl (WL.eff (eff_alloc h Tryz.zeroValue207 rfl) rfl rfl ?_)))))
   rintro _ w ⟨b8, rfl, h⟩
   refine WL.eff (eff_storeW (vs := [.int .i64 _, .int .i64 _]) h Tryz.sizeOf207 rfl rfl rfl rfl rfl) rfl rfl ?_
   rintro _ w h
   refine WL.nil (W.region (WL.val run_move rfl rfl (WL.val (run_fieldAddr 0 Tryz.underlying207 rfl Tryz.sizeOf3 rfl rfl) rfl rfl (WL.val (run_load1 Tryz.isAgg3 rfl (h.cellB rfl)) rfl rfl (WL.val (run_fieldAddr 1 Tryz.underlying207 rfl Tryz.sizeOf3 rfl rfl) rfl rfl (WL.val (run_load1 Tryz.isAgg3 rfl (h.cellB rfl)) rfl rfl (WL.eff (eff_call Tryz.call105 (tell_ok (i := i) (x := code) hi8 (by omega) (h.fetch (UnP 84 146 152 bu pool ms (notM u code (l.take k)))))) rfl rfl ?_)))))))
   rintro _ w h
   rw [notM_take hq] at h
   refine WL.nil (W.region (WL.val (run_incN rfl rfl (by omega)) rfl rfl (WL.val run_move rfl rfl (WL.nil ?_))))
   exact ⟨k + 1, ⟨by omega, _, mkE_of ⟨rfl, rfl, rfl, rfl, rfl, rfl, trivial⟩, h.to⟩, by show l.length - (k + 1) < l.length - k; omega⟩
  refine W.exit (W.seq (W.region (WL.val (run_loadB (vs := [.int .i64 _, .int .i64 _, .int .i64 _, .slice _ _ _, .int .i64 _]) h Tryz.isAgg36 Tryz.sizeOf36 rfl rfl rfl) rfl rfl (WL.eff (eff_storeW (vs := [.int .i64 _, .int .i64 _, .int .i64 _, .slice _ _ _, .int .i64 _]) h Tryz.sizeOf36 rfl rfl rfl rfl rfl) rfl rfl ?_))))
  rintro _ w h
  refine WL.nil (W.ret (bodyQ.rcB (vs := [.int .i64 _, .int .i64 _, .int .i64 _, .slice _ _ _, .int .i64 _]) h Tryz.results93 Tryz.isAgg36 Tryz.sizeOf36 rfl rfl rfl ?_))
  have ob_ : k = l.length := by omega
  obtain rfl := ob_
  rw [List.take_length] at h
  exact ⟨rfl, h.to⟩

theorem ukeys_ok {b : Nat} {t : Tb} (h : On W0 (blk b t.cells 152 :: L) w) : Calls Tryz.prog 101 #[.pointer (some ⟨b, 0, none⟩)] w (Ret fun v w' => ∃ a, v = .slice a (keysN t.K 8).length (keysN t.K 8).length ∧ On W0 (Own 1 (.slice a (keysN t.K 8).length (keysN t.K 8).length) (keysN t.K 8).length (kV (keysN t.K 8)) :: blk b t.cells 152 :: L) w') := by
  refine enter Tryz.func101 rfl Tryz.ntmps101 rfl ?_
  have hmx := maxLen_eq
  refine W.seq (W.region (WL.val run_assign rfl rfl (WL.nil (W.seq (W.region (WL.val run_assign rfl rfl (WL.nil ?_)))))))
  refine W.seq (W.seq (W.region (WL.val run_move rfl rfl (WL.val (run_nilCheck rfl) rfl rfl (WL.val (run_fieldAddr 0 Tryz.underlying152 rfl Tryz.sizeOf102 rfl rfl) rfl rfl (WL.val (run_loadB (vs := [.int .u64 _, .int .u64 _, .int .u64 _, .int .u64 _, .int .u64 _, .int .u64 _, .int .u64 _, .int .u64 _]) h Tryz.isAgg102 Tryz.sizeOf102 rfl rfl rfl) rfl rfl (WL.val run_move rfl rfl ?_)))))))
  refine WL.nil (W.block ?_)
  refine W.loop (fun (i : Nat) env w => ∃ j a c, env = mkE j [(3, .slice a (keysN t.K i).length c), (9, .agg (keysV t.K).toArray), (10, .int .i64 (i : Int))] ∧ i ≤ 8 ∧ On W0 (Own 1 (.slice a (keysN t.K i).length c) (keysN t.K i).length (kV (keysN t.K i)) :: blk b t.cells 152 :: L) w) (fun i => 8 - i) (0) ?_ ?_
  · exact ⟨_, none, 0, mkE_of ⟨rfl, rfl, rfl, trivial⟩, Nat.zero_le _, h.ownEmpty 1 none⟩
  rintro i env w ⟨j, a, c, rfl, hi, h⟩
  have hkn := keysN_len t.K i
  refine W.seq (W.region (WL.val (run_lss rfl rfl) rfl rfl (WL.nil (W.seq ?_))))
  refine W.condIf rfl (fun c6 => ?_) (fun c6 => ?_)
  ·
   refine W.skip (W.seq (W.block (W.seq (W.region (WL.val (run_indexArr Tryz.underlying102 Tryz.sizeOf23 Tryz.isAgg23 rfl rfl (by omega) (by omega) (keysV_key (i := i) (by omega))) rfl rfl (WL.val run_assign rfl rfl (WL.nil ?_)))))))
   refine W.seq (W.region (WL.val run_move rfl rfl (WL.val (run_neq rfl rfl) rfl rfl (WL.nil ?_))))
   refine W.condIf rfl (fun c12 => ?_) (fun c12 => ?_)
   ·
    refine W.region (WL.val run_move rfl rfl (WL.val run_move rfl rfl (WL.eff (eff_mkSlice (zl := [.int .u64 0]) (out := [.int .u64 _]) h Tryz.underlying129 Tryz.sizeOf23 Tryz.zeroValue23 (by decide) (by kernel_rfl) rfl rfl (by simp) (⟨⟨_, _, rfl, rfl, by decide⟩, trivial⟩) rfl rfl (by simp [maxLen])) rfl rfl ?_)))
    rintro _ w ⟨b17, rfl, h⟩
    refine WL.eff (eff_app (c2 := 1) (bytes := 8) h rfl rfl (h.cellsO (v := .slice (some ⟨b17, 0, none⟩) 1 1)) Tryz.underlying129 rfl rfl rfl rfl rfl (by omega) (by omega) (by simp [Value.oneCell'])) rfl rfl ?_
    rintro _ w ⟨a18, c18, rfl, h⟩
    have e1 : keysN t.K i ++ [t.K i] = keysN t.K (i + 1) := by
      show _ = keysN t.K i ++ if t.K i = 0 then [] else [t.K i]
      rw [if_neg (by omega)]
    have e2 : kV (keysN t.K i) ++ [Value.int .u64 (t.K i)] = kV (keysN t.K (i + 1)) := by rw [← e1, ← kV_app]; rfl
    have el : (keysN t.K i).length + 1 = (keysN t.K (i + 1)).length := by rw [← e1, List.length_append]; rfl
    have h : On W0 (Own 1 (.slice a18 ((keysN t.K i).length + 1) c18) ((keysN t.K i).length + 1) (kV (keysN t.K i) ++ [.int .u64 (t.K i)]) :: _) w := h
    rw [e2, el] at h
    refine WL.val run_assign rfl rfl (WL.nil (W.region (WL.val (run_incN rfl rfl (by omega)) rfl rfl (WL.val run_move rfl rfl (WL.nil ?_)))))
    exact ⟨i + 1, ⟨_, a18, c18, mkE_of ⟨congrArg (fun q => Value.slice a18 q c18) el, rfl, rfl, trivial⟩, by omega, h.to⟩, by show 8 - (i + 1) < 8 - i; omega⟩
   refine W.skip (W.region (WL.val (run_incN rfl rfl (by omega)) rfl rfl (WL.val run_move rfl rfl (WL.nil ?_))))
   have e1 : keysN t.K (i + 1) = keysN t.K i := by
     show keysN t.K i ++ (if t.K i = 0 then [] else [t.K i]) = _
     rw [if_pos (show t.K i = 0 by omega), List.append_nil]
   rw [← e1] at h
   exact ⟨i + 1, ⟨_, a, c, mkE_of ⟨congrArg (fun q : List Int => Value.slice a q.length c) e1.symm, rfl, rfl, trivial⟩, by omega, h.to⟩, by show 8 - (i + 1) < 8 - i; omega⟩
  refine W.exit (W.seq ?_)
  have ob_ : i = 8 := by omega
  obtain rfl := ob_
  refine W.region (WL.val run_move rfl rfl (WL.eff (eff_call Tryz.call146 (clip_keys h)) rfl rfl ?_))
  rintro _ w ⟨rfl, h⟩
  refine WL.val run_assign rfl rfl (WL.nil (W.ret (bodyQ.r1 (v := .slice _ _ _) Tryz.results101 rfl ?_)))
  exact ⟨a, rfl, h⟩

theorem pkeys_ok {g ck : Nat} {ak : Option Addr} {ks : List Int} (hg : g < 4294967296) (hk : ∀ x ∈ ks, 0 ≤ x ∧ x < 18446744073709551616) (hl : ks.length ≤ 8) (h : On W0 L w) (C : Gives L (Cells 1 (.slice ak ks.length ck) ks.length (kV ks))) : Calls Tryz.prog 99 #[.int .u32 (g : Int), .slice ak ks.length ck] w (Ret fun v w' => ∃ a, v = .slice a (keysP g (8 * ks.length) ks ks.length).length (keysP g (8 * ks.length) ks ks.length).length ∧ On W0 (OwnB (.slice a (keysP g (8 * ks.length) ks ks.length).length (keysP g (8 * ks.length) ks ks.length).length) (keysP g (8 * ks.length) ks ks.length) :: L) w') := by
  refine enter Tryz.func99 rfl Tryz.ntmps99 rfl ?_
  have hmx := maxLen_eq
  have hbd := (h.reads C).bounds
  obtain ⟨hc1, hc2⟩ := hbd
  have e0 : ([] ++ be g 4) ++ be (8 * ks.length) 4 = (keysP g (8 * ks.length) ks 0) := by rw [keysP_zero, List.nil_append]
  refine W.seq (W.region (WL.val run_assign rfl rfl (WL.nil (W.seq (W.region (WL.val run_move rfl rfl (WL.val run_move rfl rfl ?_)))))))
  refine WL.val (run_lenSlice Tryz.underlying129 rfl) rfl rfl (WL.val (run_minN (m := ks.length) (n := 16) rfl rfl (Nat.min_eq_left (by omega))) rfl rfl (WL.val (run_cutH Tryz.underlying129 Tryz.sizeOf23 rfl rfl  (by omega)) rfl rfl (WL.val run_assign rfl rfl (WL.nil (W.seq (W.region (WL.val run_move rfl rfl ?_)))))))
  refine WL.val (run_convIn Tryz.underlying126 Tryz.underlying23 rfl (by show (0 : Int) ≤ _; omega) (by show _ ≤ (18446744073709551615 : Int); omega)) rfl rfl (WL.eff (eff_call Tryz.call87 (bput_ok (ax := none) (cx := 0) (bs := []) (v := g) (n := 4) h Gives.nilB (by decide) (by decide) (by omega) (by decide))) rfl rfl ?_)
  rintro _ w ⟨a15, rfl, h⟩
  refine WL.val run_move rfl rfl (WL.val (run_lenSlice Tryz.underlying129 rfl) rfl rfl (WL.val (run_mulN (m := 8) (n := ks.length) rfl rfl (by omega)) rfl rfl (WL.val (run_convIn Tryz.underlying3 Tryz.underlying23 rfl (by show (0 : Int) ≤ _; omega) (by show _ ≤ (18446744073709551615 : Int); omega)) rfl rfl (WL.eff (eff_call Tryz.call87 (bput_ok (v := 8 * ks.length) (n := 4) h (Gives.ownO (v := .slice a15 ([] ++ be g 4).length ([] ++ be g 4).length)) (by decide) (by decide) (by omega) (by rw [List.nil_append, be_length]; decide))) rfl rfl ?_))))
  rintro v20 w ⟨a20, hv20, h⟩
  rw [e0] at hv20 h
  subst hv20
  refine WL.val run_assign rfl rfl (WL.nil (W.seq (W.seq (W.region (WL.val run_move rfl rfl (WL.val (run_lenSlice Tryz.underlying129 rfl) rfl rfl (WL.val run_move rfl rfl ?_)))))))
  refine WL.nil (W.block ?_)
  refine W.loop (fun (k : Nat) env w => k ≤ ks.length ∧ ∃ (j : Env) (ao : Option Addr) (co : Nat), env = mkE j [(5, .slice ao (keysP g (8 * ks.length) ks k).length co), (21, .slice ak ks.length ck), (22, .int .i64 (ks.length : Int)), (23, .int .i64 (k : Int))] ∧ co = (keysP g (8 * ks.length) ks k).length ∧ On W0 (OwnB (.slice ao (keysP g (8 * ks.length) ks k).length co) (keysP g (8 * ks.length) ks k) :: L) w) (fun k => ks.length - k) (0) ?_ ?_
  · exact ⟨Nat.zero_le _, _, a20, _, mkE_of ⟨rfl, rfl, rfl, rfl, trivial⟩, rfl, h.to⟩
  rintro k env w ⟨hk8, j, ao, co, rfl, hco, h⟩
  have hlk := keysP_len (g := g) (n := 8 * ks.length) hk8
  refine W.seq (W.region (WL.val (run_lss rfl rfl) rfl rfl (WL.nil (W.seq ?_))))
  refine W.condIf rfl (fun c7 => ?_) (fun c7 => ?_)
  ·
   refine W.skip (W.seq ?_)
   have hkl : k < ks.length := by omega
   have ex_ : ∃ x, ks[k]? = some x := ⟨ks[k], by simp⟩
   obtain ⟨x, hx⟩ := ex_
   have hxk := hk x (List.mem_of_getElem? hx)
   have ekx : x = ((x.toNat : Nat) : Int) := by omega
   have adx := (h.readsTo C).addr (by omega)
   obtain ⟨bx, ox, hax⟩ := adx
   subst hax
   refine W.block (W.seq (W.region (WL.val (run_indexAddr Tryz.underlying129 Tryz.sizeOf23 rfl rfl (by omega) (by omega)) rfl rfl (WL.val (run_load1 Tryz.isAgg23 rfl ((h.readsTo C).elem (i := k) (vs := [.int .u64 ((x.toNat : Nat) : Int)]) hkl ((kV_get hx).trans (congrArg (fun q => [Value.int .u64 q]) ekx)) 0 _ rfl)) rfl rfl (WL.val run_assign rfl rfl (WL.nil (W.region ?_)))))))
   refine WL.val run_move rfl rfl (WL.val run_move rfl rfl (WL.eff (eff_call Tryz.call87 (bput_ok (v := x.toNat) (n := 8) (bs := (keysP g (8 * ks.length) ks k)) h (Gives.ownO (v := .slice ao (keysP g (8 * ks.length) ks k).length co)) (by decide) (by decide) (by omega) (by omega))) rfl rfl ?_))
   rintro _ w ⟨a29, rfl, h⟩
   refine WL.val run_assign rfl rfl (WL.nil (W.region (WL.val (run_incN rfl rfl (by omega)) rfl rfl (WL.val run_move rfl rfl (WL.nil ?_)))))
   rw [keysP_succ hx] at h
   exact ⟨k + 1, ⟨by omega, _, a29, _, mkE_of ⟨congrArg (fun q : List UInt8 => Value.slice a29 q.length q.length) (keysP_succ hx), rfl, rfl, rfl, trivial⟩, rfl, h.to⟩, by show ks.length - (k + 1) < ks.length - k; omega⟩
  refine W.exit (W.seq (W.region (WL.val run_move rfl rfl (WL.val run_assign rfl rfl (WL.nil (W.ret (bodyQ.r1 (v := .slice _ _ _) Tryz.results99 rfl ?_)))))))
  have ob_ : k = ks.length := by omega
  obtain rfl := ob_
  subst hco
  exact ⟨ao, rfl, h⟩


def holdP (g key y : Nat) : List UInt8 := if y = 0 then be g 4 ++ be 0 4 else be g 4 ++ be 16 4 ++ be key 8 ++ be 0 4 ++ be y 2 ++ be 0 2
theorem and15 {y : Nat} (h : y < 16) : ((y &&& 15 : Nat) : Int) = (y : Int) := by
  have : y &&& 15 = y % 2 ^ 4 := Nat.and_two_pow_sub_one_eq_mod y 4
  rw [this, Nat.mod_eq_of_lt (by omega)]
theorem holdB_P {t : Tb} (h1 : 0 ≤ t.typ) : holdB t = holdP t.gen.toNat (holdK t).toNat t.typ.toNat := by
  unfold holdB holdP
  by_cases h : t.typ = 0
  · rw [if_pos h, if_pos (by omega)]
  · rw [if_neg h, if_neg (by omega)]

theorem pholder_ok {g key y : Nat} (hg : g < 4294967296) (hk : key < 18446744073709551616) (hy : y < 16) (h : On W0 L w) : Calls Tryz.prog 103 #[.int .u32 (g : Int), .int .u64 (key : Int), .int .i64 (y : Int)] w (Ret fun v w' => ∃ a, v = .slice a (holdP g key y).length (holdP g key y).length ∧ On W0 (OwnB (.slice a (holdP g key y).length (holdP g key y).length) (holdP g key y) :: L) w') := by
  refine enter Tryz.func103 rfl Tryz.ntmps103 rfl ?_
  have hmx := maxLen_eq
  refine W.seq (W.region (WL.val run_assign rfl rfl (WL.nil (W.seq (W.region (WL.val run_move rfl rfl (WL.val (run_convIn Tryz.underlying126 Tryz.underlying23 rfl (by show (0 : Int) ≤ _; omega) (by show _ ≤ (18446744073709551615 : Int); omega)) rfl rfl ?_)))))))
  refine WL.eff (eff_call Tryz.call87 (bput_ok (ax := none) (cx := 0) (bs := []) (v := g) (n := 4) h Gives.nilB (by decide) (by decide) (by omega) (by decide))) rfl rfl ?_
  rintro _ w ⟨a10, rfl, h⟩
  refine WL.val run_assign rfl rfl (WL.nil (W.seq (W.seq (W.region (WL.val run_move rfl rfl (WL.val (run_andV (m := y) (n := 15) (and15 hy) rfl rfl (by show _ ≤ (9223372036854775807 : Int); omega) (by decide)) rfl rfl (WL.val (run_eql rfl rfl) rfl rfl ?_)))))))
  refine WL.nil ?_
  refine W.condIf rfl (fun c3 => ?_) (fun c3 => ?_)
  ·
   refine W.seq (W.region (WL.val run_move rfl rfl (WL.eff (eff_call Tryz.call87 (bput_ok (v := 0) (n := 4) (bs := [] ++ be g 4) h (Gives.ownO (v := .slice a10 ([] ++ be g 4).length ([] ++ be g 4).length)) (by decide) (by decide) (by omega) (by simp only [List.length_append, List.length_nil, be_length]; omega))) rfl rfl ?_)))
   rintro _ w ⟨a15, rfl, h⟩
   refine WL.val run_assign rfl rfl (WL.nil (W.ret (bodyQ.r1 (v := .slice _ _ _) Tryz.results103 rfl ?_)))
   have e : holdP g key y = [] ++ be g 4 ++ be 0 4 := by unfold holdP; rw [if_pos (by omega), List.nil_append]
   rw [e]
   exact ⟨a15, rfl, h.to⟩
  refine W.skip (W.seq (W.region (WL.val run_move rfl rfl (WL.eff (eff_call Tryz.call87 (bput_ok (v := 16) (n := 4) (bs := [] ++ be g 4) h (Gives.ownO (v := .slice a10 ([] ++ be g 4).length ([] ++ be g 4).length)) (by decide) (by decide) (by omega) (by simp only [List.length_append, List.length_nil, be_length]; omega))) rfl rfl ?_))))
  rintro _ w ⟨a17, rfl, h⟩
  refine WL.val run_move rfl rfl (WL.eff (eff_call Tryz.call87 (bput_ok (v := key) (n := 8) (bs := [] ++ be g 4 ++ be 16 4) h (Gives.ownO (v := .slice a17 ([] ++ be g 4 ++ be 16 4).length ([] ++ be g 4 ++ be 16 4).length)) (by decide) (by decide) (by omega) (by simp only [List.length_append, List.length_nil, be_length]; omega))) rfl rfl ?_)
  rintro _ w ⟨a19, rfl, h⟩
  refine WL.eff (eff_call Tryz.call87 (bput_ok (v := 0) (n := 4) (bs := [] ++ be g 4 ++ be 16 4 ++ be key 8) h (Gives.ownO (v := .slice a19 ([] ++ be g 4 ++ be 16 4 ++ be key 8).length ([] ++ be g 4 ++ be 16 4 ++ be key 8).length)) (by decide) (by decide) (by omega) (by simp only [List.length_append, List.length_nil, be_length]; omega))) rfl rfl ?_
  rintro _ w ⟨a20, rfl, h⟩
  refine WL.val run_assign rfl rfl (WL.nil (W.seq (W.region (WL.val run_move rfl rfl (WL.val run_move rfl rfl (WL.val (run_andV (m := y) (n := 15) (and15 hy) rfl rfl (by show _ ≤ (9223372036854775807 : Int); omega) (by decide)) rfl rfl (WL.val (run_convIn Tryz.underlying3 Tryz.underlying23 rfl (by show (0 : Int) ≤ _; omega) (by show _ ≤ (18446744073709551615 : Int); omega)) rfl rfl ?_)))))))
  refine WL.eff (eff_call Tryz.call87 (bput_ok (v := y) (n := 2) (bs := [] ++ be g 4 ++ be 16 4 ++ be key 8 ++ be 0 4) h (Gives.ownO (v := .slice a20 ([] ++ be g 4 ++ be 16 4 ++ be key 8 ++ be 0 4).length ([] ++ be g 4 ++ be 16 4 ++ be key 8 ++ be 0 4).length)) (by decide) (by decide) (by omega) (by simp only [List.length_append, List.length_nil, be_length]; omega))) rfl rfl ?_
  rintro _ w ⟨a25, rfl, h⟩
  refine WL.eff (eff_call Tryz.call87 (bput_ok (v := 0) (n := 2) (bs := [] ++ be g 4 ++ be 16 4 ++ be key 8 ++ be 0 4 ++ be y 2) h (Gives.ownO (v := .slice a25 ([] ++ be g 4 ++ be 16 4 ++ be key 8 ++ be 0 4 ++ be y 2).length ([] ++ be g 4 ++ be 16 4 ++ be key 8 ++ be 0 4 ++ be y 2).length)) (by decide) (by decide) (by omega) (by simp only [List.length_append, List.length_nil, be_length]; omega))) rfl rfl ?_
  rintro _ w ⟨a26, rfl, h⟩
  refine WL.val run_assign rfl rfl (WL.nil (W.ret (bodyQ.r1 (v := .slice _ _ _) Tryz.results103 rfl ?_)))
  have e : holdP g key y = [] ++ be g 4 ++ be 16 4 ++ be key 8 ++ be 0 4 ++ be y 2 ++ be 0 2 := by unfold holdP; rw [if_neg (by omega), List.nil_append]
  rw [e]
  exact ⟨a26, rfl, h.to⟩

end Go.Proofs.YtdpakoefdpmebaaGreat
