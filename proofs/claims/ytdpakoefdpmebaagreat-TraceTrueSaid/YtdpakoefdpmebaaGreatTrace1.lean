/-
  A unit: what was asked, committed, told: the contracts. Lines of walks printed by a program of the prover's.
-/
import Derived.Test.YtdpakoefdpmebaaGreatAct
import Derived.Test.YtdpakoefdpmebaaGreatTraceM
import Derived.Test.YtdpakoefdpmebaaGreatSlRange
namespace Go.Proofs.YtdpakoefdpmebaaGreat
open Go Go.Sl Go.Sl.TrM Go.Sl.BitM Go.Sl.SpM Go.Sl.RsM Go.Sl.ByM Go.Sl.UnM
set_option linter.unusedVariables false
set_option linter.unusedSimpArgs false
set_option maxHeartbeats 1000000
set_option maxRecDepth 8000
variable {W0 w : World} {L F : List HProp}


theorem nameKey : PairKey Tryz.prog 137 .i64 .u64 := ⟨⟨_, _, Tryz.underlying137, by decide, by decide, rfl, rfl, Tryz.underlying3, Tryz.underlying23, Tryz.isAgg3, Tryz.isAgg23⟩, by kernel_rfl⟩

theorem invoked_ok {ai : Option Addr} {ci : Nat} {ins : List InX} (h : On W0 L w) (CI : Gives L (Cells 11 (.slice ai ins.length ci) ins.length (ins.flatMap InX.cells))) : Calls Tryz.prog 127 #[.slice ai ins.length ci] w (Ret fun v w' => ((ins.map InX.nm).Nodup ∧ ∃ b kvs ck, v = .tuple #[.map (some b), .int .i64 0, .bool true] ∧ SpecN kvs InX.nm InX.val ins ∧ On W0 (MapS b .i64 .u64 kvs ck :: L) w') ∨ (¬ (ins.map InX.nm).Nodup ∧ ∃ i, v = .tuple #[.map none, .int .i64 i, .bool false] ∧ On W0 L w')) := by
  refine enter Tryz.func127 rfl Tryz.ntmps127 rfl ?_
  have hbd := (h.reads CI).bounds
  obtain ⟨hc1, hc2⟩ := hbd
  have hmx := maxLen_eq
  refine W.seq (W.region (WL.val run_assign rfl rfl (WL.val run_assign rfl rfl (WL.val run_assign rfl rfl (WL.nil (W.seq (W.region ?_)))))))
  refine WL.eff (eff_makeMapS .i64 .u64 h) rfl rfl ?_
  rintro _ w ⟨b11, rfl, h⟩
  refine WL.val run_assign rfl rfl (WL.nil (W.seq (W.seq (W.region (WL.val run_move rfl rfl (WL.val (run_lenSlice Tryz.underlying55 rfl) rfl rfl (WL.val run_move rfl rfl ?_)))))))
  refine WL.nil (W.block ?_)
  refine W.loop (fun (k : Nat) env w => k ≤ ins.length ∧ ∃ (j : Env) (kvs : List KS) (ck : Nat), env = mkE j [(5, .map (some b11)), (12, .slice ai ins.length ci), (13, .int .i64 (ins.length : Int)), (14, .int .i64 (k : Int))] ∧ ((ins.take k).map InX.nm).Nodup ∧ SpecN kvs InX.nm InX.val (ins.take k) ∧ On W0 (MapS b11 .i64 .u64 kvs ck :: L) w) (fun k => ins.length - k) (0) ?_ ?_
  · exact ⟨Nat.zero_le _, _, [], 0, mkE_of ⟨rfl, rfl, rfl, rfl, trivial⟩, List.nodup_nil, spec_nil, h⟩
  rintro k env w ⟨hk, j, kvs, ck, rfl, hnd, hsp, h⟩
  refine W.seq (W.region (WL.val (run_lss rfl rfl) rfl rfl (WL.nil (W.seq ?_))))
  refine W.condIf rfl (fun c6 => ?_) (fun c6 => ?_)
  ·
   refine W.skip (W.seq ?_)
   have hkl : k < ins.length := by omega
   have ad_ := (h.readsTo CI).addr (by omega)
   obtain ⟨bq, oq, hal_⟩ := ad_
   subst hal_
   have ex_ : ∃ a, ins[k]? = some a := ⟨ins[k], by simp⟩
   obtain ⟨⟨xh, xid, ⟨xk, xa, xn, xax, xac, xbs, xky, xnw, xty, xfo⟩, xat⟩, hq⟩ := ex_
   have hrow := drop_flatMap InX.cells 11 InX.cells_length ins _ _ hq
   refine W.block (W.seq (W.region (WL.val run_move rfl rfl (WL.val (run_indexAddr Tryz.underlying55 Tryz.sizeOf59 rfl rfl (by omega) (by omega)) rfl rfl (WL.val (run_loadN Tryz.isAgg59 Tryz.sizeOf59 rfl rfl ((h.readsTo CI).elem (i := k) (vs := [.int .i64 xh, .int .u64 xid, .int .i64 xk, .int .i64 xa, .int .i64 xn, .slice xax xbs.length xac, .int .u64 xky, .int .u64 xnw, .int .i64 xty, .bool xfo, .int .i64 xat]) hkl hrow)) rfl rfl (WL.eff (eff_alloc h Tryz.zeroValue59 rfl) rfl rfl ?_))))))
   rintro _ w ⟨b7, rfl, h⟩
   refine WL.val run_assign rfl rfl (WL.eff (eff_storeW (vs := [.int .i64 _, .int .u64 _, .int .i64 _, .int .i64 _, .int .i64 _, .slice _ _ _, .int .u64 _, .int .u64 _, .int .i64 _, .bool _, .int .i64 _]) h Tryz.sizeOf59 rfl rfl rfl rfl rfl) rfl rfl ?_)
   rintro _ w h
   refine WL.nil (W.seq (W.region (WL.val (run_fieldAddr 0 Tryz.underlying59 rfl Tryz.sizeOf3 rfl rfl) rfl rfl (WL.val (run_load1 Tryz.isAgg3 rfl (h.cellB rfl)) rfl rfl (WL.val (run_fieldAddr 1 Tryz.underlying59 rfl Tryz.sizeOf23 rfl rfl) rfl rfl (WL.val (run_load1 Tryz.isAgg23 rfl (h.cellB rfl)) rfl rfl (WL.val (run_buildS (pl := [(0, 1), (1, 1)]) (out := [.int .i64 _, .int .u64 _]) Tryz.underlying137 Tryz.zeroValue137 (fun w => by kernel_rfl) rfl (⟨⟨_, _, rfl, rfl, by decide⟩, ⟨⟨_, _, rfl, rfl, by decide⟩, trivial⟩⟩) rfl) rfl rfl ?_)))))))
   refine WL.eff (eff_alloc h Tryz.zeroValue137 rfl) rfl rfl ?_
   rintro _ w ⟨b8, rfl, h⟩
   refine WL.eff (eff_storeW (vs := [.int .i64 _, .int .u64 _]) h Tryz.sizeOf137 rfl rfl rfl rfl rfl) rfl rfl ?_
   rintro _ w h
   refine WL.nil (W.seq (W.seq (W.region (WL.val run_move rfl rfl (WL.val (run_loadB (vs := [.int .i64 _, .int .u64 _]) h Tryz.isAgg137 Tryz.sizeOf137 rfl rfl rfl) rfl rfl ?_)))))
   have hks_ := (On.mapSC (h.fetch (MapS b11 .i64 .u64 kvs ck))).2
   have hcs_ := Classical.em ((xh, xid) ∈ (ins.take k).map InX.nm)
   rcases hcs_ with hin | hin
   have fm_ := findN_mem hin
   obtain ⟨⟨yh, yid, ⟨yk, ya, yn, yax, yac, ybs, yky, ynw, yty, yfo⟩, yat⟩, hf⟩ := fm_
   refine WL.val (run_lookupSOk (p := (xh, xid)) (v := (⟨yh, yid, ⟨yk, ya, yn, yax, yac, ybs, yky, ynw, yty, yfo⟩, yat⟩ : InX).val) (o := true) nameKey hks_ Tryz.underlying172 Tryz.zeroValue59 rfl rfl (by rw [hsp, hf]; rfl) (by rw [hsp, hf]; rfl)) rfl rfl ?_
   rotate_left
   refine WL.val (run_lookupSOk (p := (xh, xid)) (v := .agg #[.int .i64 0, .int .u64 0, .int .i64 0, .int .i64 0, .int .i64 0, .slice none 0 0, .int .u64 0, .int .u64 0, .int .i64 0, .bool false, .int .i64 0]) (o := false) nameKey hks_ Tryz.underlying172 Tryz.zeroValue59 rfl rfl (by rw [hsp, findN_none.2 hin]; rfl) (by rw [hsp, findN_none.2 hin]; rfl)) rfl rfl ?_
   rotate_left
   ·
    refine WL.val run_move rfl rfl (WL.val (run_extract rfl rfl) rfl rfl (WL.val (run_extract rfl rfl) rfl rfl (WL.eff (eff_alloc h Tryz.zeroValue59 rfl) rfl rfl ?_)))
    rintro _ w ⟨b9, rfl, h⟩
    refine WL.eff (eff_storeW (vs := [.int .i64 _, .int .u64 _, .int .i64 _, .int .i64 _, .int .i64 _, .slice _ _ _, .int .u64 _, .int .u64 _, .int .i64 _, .bool _, .int .i64 _]) h Tryz.sizeOf59 rfl rfl rfl rfl rfl) rfl rfl ?_
    rintro _ w h
    refine WL.val run_assign rfl rfl (WL.nil (W.seq (W.region (WL.val run_move rfl rfl (WL.nil (W.condT rfl (W.seq ?_)))))))
    refine W.region (WL.val run_move rfl rfl (WL.val run_assign rfl rfl (WL.val run_assign rfl rfl (WL.val run_assign rfl rfl (WL.nil (W.ret (bodyQ.r3 (v1 := .map _) (v2 := .int .i64 _) (v3 := .bool _) Tryz.results127 rfl rfl rfl ?_)))))))
    exact .inr ⟨not_nodup hq hin, _, rfl, h.to⟩
   refine WL.val run_move rfl rfl (WL.val (run_extract rfl rfl) rfl rfl (WL.val (run_extract rfl rfl) rfl rfl (WL.eff (eff_alloc h Tryz.zeroValue59 rfl) rfl rfl ?_)))
   rintro _ w ⟨b9, rfl, h⟩
   refine WL.eff (eff_storeW (vs := [.int .i64 _, .int .u64 _, .int .i64 _, .int .i64 _, .int .i64 _, .slice _ _ _, .int .u64 _, .int .u64 _, .int .i64 _, .bool _, .int .i64 _]) h Tryz.sizeOf59 rfl rfl rfl rfl rfl) rfl rfl ?_
   rintro _ w h
   refine WL.val run_assign rfl rfl (WL.nil (W.seq (W.region (WL.val run_move rfl rfl (WL.nil (W.condF rfl (W.skip ?_)))))))
   refine W.region (WL.val run_move rfl rfl (WL.val (run_loadB (vs := [.int .i64 _, .int .u64 _]) h Tryz.isAgg137 Tryz.sizeOf137 rfl rfl rfl) rfl rfl (WL.val (run_loadB (vs := [.int .i64 _, .int .u64 _, .int .i64 _, .int .i64 _, .int .i64 _, .slice _ _ _, .int .u64 _, .int .u64 _, .int .i64 _, .bool _, .int .i64 _]) h Tryz.isAgg59 Tryz.sizeOf59 rfl rfl rfl) rfl rfl (WL.eff (eff_mapUpdateS (p := (xh, xid)) (v := (⟨xh, xid, ⟨xk, xa, xn, xax, xac, xbs, xky, xnw, xty, xfo⟩, xat⟩ : InX).val) nameKey (h.fetch (MapS b11 .i64 .u64 kvs ck)) Tryz.underlying172 rfl rfl rfl) rfl rfl ?_))))
   rintro _ w h
   have h : On W0 (MapS b11 .i64 .u64 (putS kvs (⟨xh, xid, ⟨xk, xa, xn, xax, xac, xbs, xky, xnw, xty, xfo⟩, xat⟩ : InX).nm (⟨xh, xid, ⟨xk, xa, xn, xax, xac, xbs, xky, xnw, xty, xfo⟩, xat⟩ : InX).val ck) (clockS kvs (⟨xh, xid, ⟨xk, xa, xn, xax, xac, xbs, xky, xnw, xty, xfo⟩, xat⟩ : InX).nm ck) :: _) w := h
   refine WL.nil (W.region (WL.val (run_incN rfl rfl (by omega)) rfl rfl (WL.val run_move rfl rfl (WL.nil ?_))))
   exact ⟨k + 1, ⟨by omega, _, (putS kvs (⟨xh, xid, ⟨xk, xa, xn, xax, xac, xbs, xky, xnw, xty, xfo⟩, xat⟩ : InX).nm (⟨xh, xid, ⟨xk, xa, xn, xax, xac, xbs, xky, xnw, xty, xfo⟩, xat⟩ : InX).val ck), (clockS kvs (⟨xh, xid, ⟨xk, xa, xn, xax, xac, xbs, xky, xnw, xty, xfo⟩, xat⟩ : InX).nm ck), mkE_of ⟨rfl, rfl, rfl, rfl, trivial⟩, by rw [Go.Sl.take_snoc hq]; exact nodup_snoc hnd hin, by rw [Go.Sl.take_snoc hq]; exact spec_snoc (ck := ck) hsp hin, h.to⟩, by show ins.length - (k + 1) < ins.length - k; omega⟩
  refine W.exit (W.seq (W.region (WL.val run_move rfl rfl (WL.val run_assign rfl rfl (WL.val run_assign rfl rfl (WL.val run_assign rfl rfl (WL.nil ?_)))))))
  refine W.ret (bodyQ.r3 (v1 := .map _) (v2 := .int .i64 _) (v3 := .bool _) Tryz.results127 rfl rfl rfl ?_)
  have ob_ : k = ins.length := by omega
  obtain rfl := ob_
  rw [List.take_length] at hnd hsp
  exact .inl ⟨hnd, b11, kvs, ck, rfl, hsp, h⟩

theorem order_ok {ai : Option Addr} {ci : Nat} {ins : List InX} {ar : Option Addr} {cr : Nat} {row : List CoX} {ao : Option Addr} {co : Nat} {out : List OuX} (h : On W0 L w) (CI : Gives L (Cells 11 (.slice ai ins.length ci) ins.length (ins.flatMap InX.cells))) (CR : Gives L (Cells 3 (.slice ar row.length cr) row.length (row.flatMap CoX.cells))) (CO : Gives L (Cells 8 (.slice ao out.length co) out.length (out.flatMap OuX.cells))) : Calls Tryz.prog 73 #[.slice ai ins.length ci, .slice ar row.length cr, .slice ao out.length co] w (Ret fun v w' => ((ins.map InX.nm).Nodup ∧ v = .tuple #[.int .i64 ((orderM ins row out).1 : Int), .int .i64 (orderM ins row out).2] ∧ On W0 L w') ∨ (¬ (ins.map InX.nm).Nodup ∧ ∃ i, v = .tuple #[.int .i64 i, .int .i64 1] ∧ On W0 L w')) := by
  refine enter Tryz.func73 rfl Tryz.ntmps73 rfl ?_
  have hb1 := (h.reads CI).bounds
  obtain ⟨hi1, hi2⟩ := hb1
  have hb2 := (h.reads CR).bounds
  obtain ⟨hr1, hr2⟩ := hb2
  have hb3 := (h.reads CO).bounds
  obtain ⟨ho1, ho2⟩ := hb3
  have hmx := maxLen_eq
  refine W.seq (W.region (WL.val run_assign rfl rfl (WL.val run_assign rfl rfl (WL.nil (W.scope (W.seq (W.region ?_)))))))
  refine WL.val run_move rfl rfl (WL.eff (eff_call Tryz.call127 (invoked_ok h (Gives.to CI))) rfl rfl ?_)
  rintro _ w hv
  rcases hv with ⟨hnd, bm, kvs, ck, rfl, hsp, h⟩ | ⟨hnd, i, rfl, h⟩
  ·
   refine WL.val run_move rfl rfl (WL.val (run_extract rfl rfl) rfl rfl (WL.val (run_extract rfl rfl) rfl rfl (WL.val (run_extract rfl rfl) rfl rfl (WL.val run_assign rfl rfl (WL.val run_assign rfl rfl (WL.val run_assign rfl rfl (WL.nil ?_)))))))
   refine W.seq (W.seq (W.region (WL.val run_move rfl rfl (WL.val (run_not rfl) rfl rfl (WL.nil (W.condF rfl (W.skip ?_)))))))
   refine W.seq (W.region (WL.eff (eff_makeMapS .i64 .u64 h) rfl rfl ?_))
   rintro _ w ⟨bd, rfl, h⟩
   refine WL.val run_assign rfl rfl (WL.nil (W.seq (W.region (WL.val run_assign rfl rfl (WL.nil (W.seq (W.region ?_)))))))
   refine WL.val run_assign rfl rfl (WL.nil (W.seq (W.region (WL.val run_assign rfl rfl (WL.nil (W.seq (W.label ?_)))))))
   refine W.cut (fun env w => ∃ (j : Env) (kvd : List KS) (ckd : Nat), ((rowM ins row []).2 = 0 → SpecN kvd CoX.nm CoX.val row) ∧ env = mkE j [(2, .slice ao out.length co), (11, .map (some bd)), (13, .int .i64 (rowM ins row []).2), (14, .int .i64 ((rowM ins row []).1 : Int))] ∧ On W0 (MapS bd .i64 .u64 kvd ckd :: L) w) ?_ ?_
   ·
    refine W.seq (W.region (WL.val run_move rfl rfl (WL.val (run_lenSlice Tryz.underlying56 rfl) rfl rfl (WL.val run_move rfl rfl (WL.nil (W.block ?_))))))
    refine W.loop (fun (k : Nat) env w => k ≤ row.length ∧ ∃ (j : Env) (kvd : List KS) (ckd : Nat), env = mkE j [(2, .slice ao out.length co), (8, .map (some bm)), (11, .map (some bd)), (12, .int .i64 (lastAt (row.take k))), (13, .int .i64 0), (14, .int .i64 0), (38, .slice ar row.length cr), (39, .int .i64 (row.length : Int)), (40, .int .i64 (k : Int))] ∧ SpecN kvd CoX.nm CoX.val (row.take k) ∧ rowM ins (row.drop k) (row.take k) = (rowM ins row []) ∧ On W0 (MapS bd .i64 .u64 kvd ckd :: MapS bm .i64 .u64 kvs ck :: L) w) (fun k => row.length - k) (0) ?_ ?_
    · exact ⟨Nat.zero_le _, _, [], 0, mkE_of ⟨rfl, rfl, rfl, rfl, rfl, rfl, rfl, rfl, rfl, trivial⟩, spec_nil, rfl, h⟩
    clear h
    rintro k env w ⟨hk, j, kvd, ckd, rfl, hsd, hR, h⟩
    refine W.seq (W.region (WL.val (run_lss rfl rfl) rfl rfl (WL.nil (W.seq ?_))))
    refine W.condIf rfl (fun c17 => ?_) (fun c17 => ?_)
    ·
     refine W.skip (W.seq ?_)
     have hkl : k < row.length := by omega
     have ad_ := (h.readsTo CR).addr (by omega)
     obtain ⟨br, or_, hal_⟩ := ad_
     subst hal_
     have ex_ : ∃ a, row[k]? = some a := ⟨row[k], by simp⟩
     obtain ⟨⟨ch, cid, cat⟩, hq⟩ := ex_
     have hrow := drop_flatMap CoX.cells 3 CoX.cells_length row _ _ hq
     have hkl2 := take_len (l := row) (k := k) (by omega)
     refine W.block (W.seq (W.region (WL.val run_move rfl rfl (WL.val (run_indexAddr Tryz.underlying56 Tryz.sizeOf61 rfl rfl (by omega) (by omega)) rfl rfl (WL.val (run_loadN Tryz.isAgg61 Tryz.sizeOf61 rfl rfl ((h.readsTo CR).elem (i := k) (vs := [.int .i64 ch, .int .u64 cid, .int .i64 cat]) hkl hrow)) rfl rfl (WL.eff (eff_alloc h Tryz.zeroValue61 rfl) rfl rfl ?_))))))
     rintro _ w ⟨b16, rfl, h⟩
     refine WL.val run_assign rfl rfl (WL.eff (eff_storeW (vs := [.int .i64 _, .int .u64 _, .int .i64 _]) h Tryz.sizeOf61 rfl rfl rfl rfl rfl) rfl rfl ?_)
     rintro _ w h
     refine WL.nil (W.seq (W.region (WL.val (run_fieldAddr 0 Tryz.underlying61 rfl Tryz.sizeOf3 rfl rfl) rfl rfl (WL.val (run_load1 Tryz.isAgg3 rfl (h.cellB rfl)) rfl rfl (WL.val (run_fieldAddr 1 Tryz.underlying61 rfl Tryz.sizeOf23 rfl rfl) rfl rfl (WL.val (run_load1 Tryz.isAgg23 rfl (h.cellB rfl)) rfl rfl (WL.val (run_buildS (pl := [(0, 1), (1, 1)]) (out := [.int .i64 _, .int .u64 _]) Tryz.underlying137 Tryz.zeroValue137 (fun w => by kernel_rfl) rfl (⟨⟨_, _, rfl, rfl, by decide⟩, ⟨⟨_, _, rfl, rfl, by decide⟩, trivial⟩⟩) rfl) rfl rfl ?_)))))))
     refine WL.eff (eff_alloc h Tryz.zeroValue137 rfl) rfl rfl ?_
     rintro _ w ⟨b17, rfl, h⟩
     refine WL.eff (eff_storeW (vs := [.int .i64 _, .int .u64 _]) h Tryz.sizeOf137 rfl rfl rfl rfl rfl) rfl rfl ?_
     rintro _ w h
     refine WL.nil ?_
     refine W.cut (fun env w => ∃ (j : Env) (b16 b17 b18 : Nat) (is : Bool) (xv : InX), (is = true → findN InX.nm ins (ch, cid) = some xv) ∧ (is = false → (ch, cid) ∉ ins.map InX.nm) ∧ env = mkE j [(2, .slice ao out.length co), (8, .map (some bm)), (11, .map (some bd)), (12, .int .i64 (lastAt (row.take k))), (14, .int .i64 0), (38, .slice (some ⟨br, or_, none⟩) row.length cr), (39, .int .i64 (row.length : Int)), (40, .int .i64 (k : Int)), (15, .int .i64 (k : Int)), (16, .pointer (some ⟨b16, 0, none⟩)), (17, .pointer (some ⟨b17, 0, none⟩)), (13, .int .i64 0), (18, .pointer (some ⟨b18, 0, none⟩)), (19, .bool is)] ∧ On W0 (blk b18 xv.cells 59 :: blk b16 [.int .i64 ch, .int .u64 cid, .int .i64 cat] 61 :: blk b17 [.int .i64 ch, .int .u64 cid] 137 :: MapS bd .i64 .u64 kvd ckd :: MapS bm .i64 .u64 kvs ck :: L) w) ?_ ?_
     ·
      refine W.region (WL.val run_move rfl rfl (WL.val (run_loadB (vs := [.int .i64 _, .int .u64 _]) h Tryz.isAgg137 Tryz.sizeOf137 rfl rfl rfl) rfl rfl ?_))
      have hks_ := (On.mapSC (h.fetch (MapS bm .i64 .u64 kvs ck))).2
      have hcs_ := Classical.em ((ch, cid) ∈ (ins).map InX.nm)
      rcases hcs_ with hin | hin
      have fm_ := findN_mem hin
      obtain ⟨⟨yh, yid, ⟨yk, ya, yn, yax, yac, ybs, yky, ynw, yty, yfo⟩, yat⟩, hf⟩ := fm_
      refine WL.val (run_lookupSOk (p := (ch, cid)) (v := (⟨yh, yid, ⟨yk, ya, yn, yax, yac, ybs, yky, ynw, yty, yfo⟩, yat⟩ : InX).val) (o := true) nameKey hks_ Tryz.underlying172 Tryz.zeroValue59 rfl rfl (by rw [hsp, hf]; rfl) (by rw [hsp, hf]; rfl)) rfl rfl ?_
      rotate_left
      refine WL.val (run_lookupSOk (p := (ch, cid)) (v := .agg #[.int .i64 0, .int .u64 0, .int .i64 0, .int .i64 0, .int .i64 0, .slice none 0 0, .int .u64 0, .int .u64 0, .int .i64 0, .bool false, .int .i64 0]) (o := false) nameKey hks_ Tryz.underlying172 Tryz.zeroValue59 rfl rfl (by rw [hsp, findN_none.2 hin]; rfl) (by rw [hsp, findN_none.2 hin]; rfl)) rfl rfl ?_
      rotate_left
      ·
       refine WL.val run_move rfl rfl (WL.val (run_extract rfl rfl) rfl rfl (WL.val (run_extract rfl rfl) rfl rfl (WL.eff (eff_alloc h Tryz.zeroValue59 rfl) rfl rfl ?_)))
       rintro _ w ⟨b18, rfl, h⟩
       refine WL.eff (eff_storeW (vs := [.int .i64 _, .int .u64 _, .int .i64 _, .int .i64 _, .int .i64 _, .slice _ _ _, .int .u64 _, .int .u64 _, .int .i64 _, .bool _, .int .i64 _]) h Tryz.sizeOf59 rfl rfl rfl rfl rfl) rfl rfl ?_
       rintro _ w h
       refine WL.val run_assign rfl rfl (WL.nil ?_)
       have h : On W0 (blk b18 ((⟨yh, yid, ⟨yk, ya, yn, yax, yac, ybs, yky, ynw, yty, yfo⟩, yat⟩ : InX)).cells 59 :: _) w := h
       exact ⟨_, b16, b17, b18, true, (⟨yh, yid, ⟨yk, ya, yn, yax, yac, ybs, yky, ynw, yty, yfo⟩, yat⟩ : InX), (fun _ => hf), (fun e => by cases e), mkE_of ⟨rfl, rfl, rfl, rfl, rfl, rfl, rfl, rfl, rfl, rfl, rfl, rfl, rfl, rfl, trivial⟩, h.to⟩
      refine WL.val run_move rfl rfl (WL.val (run_extract rfl rfl) rfl rfl (WL.val (run_extract rfl rfl) rfl rfl (WL.eff (eff_alloc h Tryz.zeroValue59 rfl) rfl rfl ?_)))
      rintro _ w ⟨b18, rfl, h⟩
      refine WL.eff (eff_storeW (vs := [.int .i64 _, .int .u64 _, .int .i64 _, .int .i64 _, .int .i64 _, .slice _ _ _, .int .u64 _, .int .u64 _, .int .i64 _, .bool _, .int .i64 _]) h Tryz.sizeOf59 rfl rfl rfl rfl rfl) rfl rfl ?_
      rintro _ w h
      refine WL.val run_assign rfl rfl (WL.nil ?_)
      have h : On W0 (blk b18 ((⟨0, 0, ⟨0, 0, 0, none, 0, [], 0, 0, 0, false⟩, 0⟩ : InX)).cells 59 :: _) w := h
      exact ⟨_, b16, b17, b18, false, (⟨0, 0, ⟨0, 0, 0, none, 0, [], 0, 0, 0, false⟩, 0⟩ : InX), (fun e => by cases e), (fun _ => hin), mkE_of ⟨rfl, rfl, rfl, rfl, rfl, rfl, rfl, rfl, rfl, rfl, rfl, rfl, rfl, rfl, trivial⟩, h.to⟩
     clear h
     rintro env w ⟨j, b16, b17, b18, is, ⟨yh, yid, ⟨yk, ya, yn, yax, yac, ybs, yky, ynw, yty, yfo⟩, yat⟩, hisT, hisF, rfl, h⟩
     refine W.cut (fun env w => ∃ (j : Env) (tw : Bool), tw = decide ((ch, cid) ∈ (row.take k).map CoX.nm) ∧ env = mkE j [(2, .slice ao out.length co), (8, .map (some bm)), (11, .map (some bd)), (12, .int .i64 (lastAt (row.take k))), (14, .int .i64 0), (38, .slice (some ⟨br, or_, none⟩) row.length cr), (39, .int .i64 (row.length : Int)), (40, .int .i64 (k : Int)), (15, .int .i64 (k : Int)), (16, .pointer (some ⟨b16, 0, none⟩)), (17, .pointer (some ⟨b17, 0, none⟩)), (13, .int .i64 0), (18, .pointer (some ⟨b18, 0, none⟩)), (19, .bool is), (21, .bool tw)] ∧ On W0 (blk b18 (⟨yh, yid, ⟨yk, ya, yn, yax, yac, ybs, yky, ynw, yty, yfo⟩, yat⟩ : InX).cells 59 :: blk b16 [.int .i64 ch, .int .u64 cid, .int .i64 cat] 61 :: blk b17 [.int .i64 ch, .int .u64 cid] 137 :: MapS bd .i64 .u64 kvd ckd :: MapS bm .i64 .u64 kvs ck :: L) w) ?_ ?_
     ·
      refine W.region (WL.val run_move rfl rfl (WL.val (run_loadB (vs := [.int .i64 _, .int .u64 _]) h Tryz.isAgg137 Tryz.sizeOf137 rfl rfl rfl) rfl rfl ?_))
      have hks_ := (On.mapSC (h.fetch (MapS bd .i64 .u64 kvd ckd))).2
      have hcs_ := Classical.em ((ch, cid) ∈ (row.take k).map CoX.nm)
      rcases hcs_ with hin2 | hin2
      have fm_ := findN_mem hin2
      obtain ⟨⟨dh, did, dat⟩, hf2⟩ := fm_
      refine WL.val (run_lookupSOk (p := (ch, cid)) (v := (⟨dh, did, dat⟩ : CoX).val) (o := true) nameKey hks_ Tryz.underlying192 Tryz.zeroValue61 rfl rfl (by rw [hsd, hf2]; rfl) (by rw [hsd, hf2]; rfl)) rfl rfl ?_
      rotate_left
      refine WL.val (run_lookupSOk (p := (ch, cid)) (v := .agg #[.int .i64 0, .int .u64 0, .int .i64 0]) (o := false) nameKey hks_ Tryz.underlying192 Tryz.zeroValue61 rfl rfl (by rw [hsd, findN_none.2 hin2]; rfl) (by rw [hsd, findN_none.2 hin2]; rfl)) rfl rfl ?_
      rotate_left
      ·
       refine WL.val run_move rfl rfl (WL.val (run_extract rfl rfl) rfl rfl (WL.val (run_extract rfl rfl) rfl rfl (WL.eff (eff_alloc h Tryz.zeroValue61 rfl) rfl rfl ?_)))
       rintro _ w ⟨b20, rfl, h⟩
       refine WL.eff (eff_storeW (vs := [.int .i64 _, .int .u64 _, .int .i64 _]) h Tryz.sizeOf61 rfl rfl rfl rfl rfl) rfl rfl ?_
       rintro _ w h
       refine WL.val run_assign rfl rfl (WL.nil ?_)
       exact ⟨_, true, (decide_eq_true hin2).symm, mkE_of ⟨rfl, rfl, rfl, rfl, rfl, rfl, rfl, rfl, rfl, rfl, rfl, rfl, rfl, rfl, rfl, trivial⟩, h.to⟩
      refine WL.val run_move rfl rfl (WL.val (run_extract rfl rfl) rfl rfl (WL.val (run_extract rfl rfl) rfl rfl (WL.eff (eff_alloc h Tryz.zeroValue61 rfl) rfl rfl ?_)))
      rintro _ w ⟨b20, rfl, h⟩
      refine WL.eff (eff_storeW (vs := [.int .i64 _, .int .u64 _, .int .i64 _]) h Tryz.sizeOf61 rfl rfl rfl rfl rfl) rfl rfl ?_
      rintro _ w h
      refine WL.val run_assign rfl rfl (WL.nil ?_)
      exact ⟨_, false, (decide_eq_false hin2).symm, mkE_of ⟨rfl, rfl, rfl, rfl, rfl, rfl, rfl, rfl, rfl, rfl, rfl, rfl, rfl, rfl, rfl, trivial⟩, h.to⟩
     clear h
     rintro env w ⟨j, tw, htw, rfl, h⟩
     refine W.cut (fun env w => ∃ (j : Env) (b16 b17 : Nat) (e : Int), e = okC ins (row.take k) (⟨ch, cid, cat⟩ : CoX) ∧ env = mkE j [(2, .slice ao out.length co), (8, .map (some bm)), (11, .map (some bd)), (12, .int .i64 (lastAt (row.take k))), (14, .int .i64 0), (38, .slice (some ⟨br, or_, none⟩) row.length cr), (39, .int .i64 (row.length : Int)), (40, .int .i64 (k : Int)), (15, .int .i64 (k : Int)), (16, .pointer (some ⟨b16, 0, none⟩)), (17, .pointer (some ⟨b17, 0, none⟩)), (13, .int .i64 e)] ∧ On W0 (blk b16 [.int .i64 ch, .int .u64 cid, .int .i64 cat] 61 :: blk b17 [.int .i64 ch, .int .u64 cid] 137 :: MapS bd .i64 .u64 kvd ckd :: MapS bm .i64 .u64 kvs ck :: L) w) ?_ ?_
     ·
      refine W.block (W.seq (W.region (WL.val run_move rfl rfl (WL.val (run_not rfl) rfl rfl (WL.val run_assign rfl rfl (WL.nil ?_))))))
      refine W.condB rfl (fun c27 => ?_) (fun c27 => ?_)
      ·
       refine W.region (WL.val run_assign rfl rfl (WL.nil ?_))
       exact ⟨_, b16, b17, _, (okC_none (hisF (by simpa using c27))).symm, mkE_of ⟨rfl, rfl, rfl, rfl, rfl, rfl, rfl, rfl, rfl, rfl, rfl, rfl, trivial⟩, h.to⟩
      refine W.seq (W.region ?_)
      refine WL.boolB run_move rfl rfl (fun c66 => ?_) (fun c66 => ?_)
      ·
       refine WL.val run_move rfl rfl (WL.skip rfl rfl (WL.skip rfl rfl (WL.skip rfl rfl (WL.skip rfl rfl (WL.skip rfl rfl (WL.skip rfl rfl (WL.skip rfl rfl ?_)))))))
       refine WL.skip rfl rfl (WL.val (run_pickT rfl) rfl rfl (WL.val run_move rfl rfl (WL.skip rfl rfl (WL.skip rfl rfl (WL.skip rfl rfl (WL.skip rfl rfl (WL.skip rfl rfl ?_)))))))
       refine WL.val (run_pickT rfl) rfl rfl (WL.val run_assign rfl rfl (WL.nil (W.condT rfl (W.region (WL.val run_assign rfl rfl (WL.nil ?_))))))
       exact ⟨_, b16, b17, _, (okC_bad (hisT (by simpa using c27)) (.inl (of_decide_eq_true (htw.symm.trans c66)))).symm, mkE_of ⟨rfl, rfl, rfl, rfl, rfl, rfl, rfl, rfl, rfl, rfl, rfl, rfl, trivial⟩, h.to⟩
      refine WL.val run_move rfl rfl (WL.val run_move rfl rfl ?_)
      refine WL.dec (run_gtr rfl rfl) rfl rfl (fun c69 => ?_) (fun c69 => ?_)
      ·
       refine WL.val run_move rfl rfl (WL.val (run_fieldAddr 2 Tryz.underlying61 rfl Tryz.sizeOf3 rfl rfl) rfl rfl (WL.val (run_load1 Tryz.isAgg3 rfl (h.cellB rfl)) rfl rfl (WL.val run_move rfl rfl ?_)))
       refine WL.dec (run_lss rfl rfl) rfl rfl (fun c74 => ?_) (fun c74 => ?_)
       ·
        refine WL.val (run_pickT rfl) rfl rfl (WL.val (run_pickF rfl) rfl rfl (WL.val run_move rfl rfl (WL.skip rfl rfl (WL.skip rfl rfl (WL.skip rfl rfl (WL.skip rfl rfl (WL.skip rfl rfl ?_)))))))
        refine WL.val (run_pickT rfl) rfl rfl (WL.val run_assign rfl rfl (WL.nil (W.condT rfl (W.region (WL.val run_assign rfl rfl (WL.nil ?_))))))
        exact ⟨_, b16, b17, _, (okC_bad (hisT (by simpa using c27)) (.inr (.inl ⟨by rw [hkl2]; omega, c74⟩))).symm, mkE_of ⟨rfl, rfl, rfl, rfl, rfl, rfl, rfl, rfl, rfl, rfl, rfl, rfl, trivial⟩, h.to⟩
       refine WL.val (run_pickT rfl) rfl rfl (WL.val (run_pickF rfl) rfl rfl (WL.val run_move rfl rfl (WL.val (run_fieldAddr 2 Tryz.underlying61 rfl Tryz.sizeOf3 rfl rfl) rfl rfl (WL.val (run_load1 Tryz.isAgg3 rfl (h.cellB rfl)) rfl rfl (WL.val (run_fieldAddr 10 Tryz.underlying59 rfl Tryz.sizeOf3 rfl rfl) rfl rfl (WL.val (run_load1 Tryz.isAgg3 rfl (h.cellB rfl)) rfl rfl ?_))))))
       refine WL.dec (run_lss rfl rfl) rfl rfl (fun c82 => ?_) (fun c82 => ?_)
       ·
        refine WL.val (run_pickF rfl) rfl rfl (WL.val run_assign rfl rfl (WL.nil (W.condT rfl (W.region (WL.val run_assign rfl rfl (WL.nil ?_))))))
        exact ⟨_, b16, b17, _, (okC_bad (hisT (by simpa using c27)) (.inr (.inr c82))).symm, mkE_of ⟨rfl, rfl, rfl, rfl, rfl, rfl, rfl, rfl, rfl, rfl, rfl, rfl, trivial⟩, h.to⟩
       refine WL.val (run_pickF rfl) rfl rfl (WL.val run_assign rfl rfl (WL.nil (W.condF rfl (W.skip ?_))))
       exact ⟨_, b16, b17, _, (okC_good (hisT (by simpa using c27)) (fun hx => by rcases hx with hx | hx | hx; exact of_decide_eq_false (htw.symm.trans c66) hx; exact c74 hx.2; exact c82 hx)).symm, mkE_of ⟨rfl, rfl, rfl, rfl, rfl, rfl, rfl, rfl, rfl, rfl, rfl, rfl, trivial⟩, h.to⟩
      refine WL.val run_move rfl rfl (WL.skip rfl rfl (WL.skip rfl rfl (WL.skip rfl rfl (WL.skip rfl rfl (WL.val (run_pickF rfl) rfl rfl (WL.val (run_pickF rfl) rfl rfl (WL.val run_move rfl rfl ?_)))))))
      refine WL.val (run_fieldAddr 2 Tryz.underlying61 rfl Tryz.sizeOf3 rfl rfl) rfl rfl (WL.val (run_load1 Tryz.isAgg3 rfl (h.cellB rfl)) rfl rfl (WL.val (run_fieldAddr 10 Tryz.underlying59 rfl Tryz.sizeOf3 rfl rfl) rfl rfl (WL.val (run_load1 Tryz.isAgg3 rfl (h.cellB rfl)) rfl rfl ?_)))
      refine WL.dec (run_lss rfl rfl) rfl rfl (fun c82 => ?_) (fun c82 => ?_)
      ·
       refine WL.val (run_pickF rfl) rfl rfl (WL.val run_assign rfl rfl (WL.nil (W.condT rfl (W.region (WL.val run_assign rfl rfl (WL.nil ?_))))))
       exact ⟨_, b16, b17, _, (okC_bad (hisT (by simpa using c27)) (.inr (.inr c82))).symm, mkE_of ⟨rfl, rfl, rfl, rfl, rfl, rfl, rfl, rfl, rfl, rfl, rfl, rfl, trivial⟩, h.to⟩
      refine WL.val (run_pickF rfl) rfl rfl (WL.val run_assign rfl rfl (WL.nil (W.condF rfl (W.skip ?_))))
      exact ⟨_, b16, b17, _, (okC_good (hisT (by simpa using c27)) (fun hx => by rcases hx with hx | hx | hx; exact of_decide_eq_false (htw.symm.trans c66) hx; exact absurd hx.1 (by rw [hkl2]; omega); exact c82 hx)).symm, mkE_of ⟨rfl, rfl, rfl, rfl, rfl, rfl, rfl, rfl, rfl, rfl, rfl, rfl, trivial⟩, h.to⟩
     clear h
     rintro env w ⟨j, b16, b17, e, he_, rfl, h⟩
     refine W.seq (W.seq (W.region (WL.val run_move rfl rfl (WL.val (run_neq rfl rfl) rfl rfl (WL.nil ?_)))))
     refine W.condIf rfl (fun c34 => ?_) (fun c34 => ?_)
     ·
      refine W.seq (W.region (WL.val run_move rfl rfl (WL.val run_assign rfl rfl (WL.nil (W.exit ?_)))))
      rw [rowM_stop hq (by rw [← he_]; exact c34)] at hR
      exact ⟨_, kvd, ckd, fun e0 => absurd e0 (by rw [← hR, ← he_]; exact c34), mkE_of ⟨rfl, rfl, (congrArg (fun z => Value.int .i64 z) (show e = (rowM ins row []).2 by rw [← hR]; exact he_)), (congrArg (fun z : Nat => Value.int .i64 (z : Int)) (show k = (rowM ins row []).1 by rw [← hR])), trivial⟩, h.to⟩
     refine W.skip (W.seq (W.region (WL.val (run_fieldAddr 2 Tryz.underlying61 rfl Tryz.sizeOf3 rfl rfl) rfl rfl (WL.val (run_load1 Tryz.isAgg3 rfl (h.cellB rfl)) rfl rfl (WL.val run_assign rfl rfl (WL.nil (W.region ?_)))))))
     refine WL.val run_move rfl rfl (WL.val (run_loadB (vs := [.int .i64 _, .int .u64 _]) h Tryz.isAgg137 Tryz.sizeOf137 rfl rfl rfl) rfl rfl (WL.val (run_loadB (vs := [.int .i64 _, .int .u64 _, .int .i64 _]) h Tryz.isAgg61 Tryz.sizeOf61 rfl rfl rfl) rfl rfl (WL.eff (eff_mapUpdateS (p := (ch, cid)) (v := (⟨ch, cid, cat⟩ : CoX).val) nameKey (h.fetch (MapS bd .i64 .u64 kvd ckd)) Tryz.underlying192 rfl rfl rfl) rfl rfl ?_)))
     rintro _ w h
     have h : On W0 (MapS bd .i64 .u64 (putS kvd (⟨ch, cid, cat⟩ : CoX).nm (⟨ch, cid, cat⟩ : CoX).val ckd) (clockS kvd (⟨ch, cid, cat⟩ : CoX).nm ckd) :: _) w := h
     refine WL.nil (W.region (WL.val (run_incN rfl rfl (by omega)) rfl rfl (WL.val run_move rfl rfl (WL.nil ?_))))
     have ob_ : e = 0 := by omega
     obtain rfl := ob_
     have hz : okC ins (row.take k) (⟨ch, cid, cat⟩ : CoX) = 0 := he_.symm
     exact ⟨k + 1, ⟨by omega, _, (putS kvd (⟨ch, cid, cat⟩ : CoX).nm (⟨ch, cid, cat⟩ : CoX).val ckd), (clockS kvd (⟨ch, cid, cat⟩ : CoX).nm ckd), mkE_of ⟨rfl, rfl, rfl, (by rw [Go.Sl.take_snoc hq, lastAt_snoc]; rfl), rfl, rfl, rfl, rfl, rfl, trivial⟩, by rw [Go.Sl.take_snoc hq]; exact spec_snoc (ck := ckd) hsd (okC_new hz), by rw [← rowM_step hq hz]; exact hR, h.to⟩, by show row.length - (k + 1) < row.length - k; omega⟩
    refine W.exit ?_
    have ob_ : k = row.length := by omega
    obtain rfl := ob_
    rw [List.take_length, List.drop_length] at hR
    rw [List.take_length] at hsd
    exact ⟨_, kvd, ckd, fun _ => hsd, mkE_of ⟨rfl, rfl, (congrArg (fun z => Value.int .i64 z) (show (0 : Int) = (rowM ins row []).2 by rw [← hR]; rfl)), (congrArg (fun z : Nat => Value.int .i64 (z : Int)) (show 0 = (rowM ins row []).1 by rw [← hR]; rfl)), trivial⟩, h.to⟩
   clear h
   rintro env w ⟨j, kvd, ckd, hsd0, rfl, h⟩
   refine W.seq (W.seq (W.region (WL.val run_move rfl rfl (WL.val (run_neq rfl rfl) rfl rfl (WL.nil ?_)))))
   refine W.condIf rfl (fun c42 => ?_) (fun c42 => ?_)
   ·
    refine W.seq (W.region (WL.val run_move rfl rfl (WL.val run_move rfl rfl (WL.val run_assign rfl rfl (WL.val run_assign rfl rfl (WL.nil (W.ret ?_)))))))
    refine bodyQ.r2 (v1 := .int .i64 _) (v2 := .int .i64 _) Tryz.results73 rfl rfl ?_
    have hom : orderM ins row out = (rowM ins row []) := by unfold orderM; rw [if_neg c42]
    rw [hom]
    exact .inl ⟨hnd, rfl, h.to⟩
   have hR0 : (rowM ins row []).2 = 0 := by omega
   have hsd := hsd0 hR0
   have hom : orderM ins row out = (outM row out []) := by unfold orderM; rw [if_pos hR0]
   refine W.skip (W.seq (W.region (WL.eff (eff_makeMapS .i64 .u64 h) rfl rfl ?_)))
   rintro _ w ⟨bh, rfl, h⟩
   refine WL.val run_assign rfl rfl (WL.nil (W.seq (W.label (W.seq (W.seq (W.region (WL.val run_move rfl rfl ?_)))))))
   refine WL.val (run_lenSlice Tryz.underlying57 rfl) rfl rfl (WL.val run_move rfl rfl (WL.nil (W.block ?_)))
   refine W.loop (fun (k : Nat) env w => k ≤ out.length ∧ ∃ (j : Env) (kvh : List KS) (ckh : Nat), env = mkE j [(11, .map (some bd)), (13, .int .i64 0), (14, .int .i64 0), (22, .map (some bh)), (98, .slice ao out.length co), (99, .int .i64 (out.length : Int)), (100, .int .i64 (k : Int))] ∧ SpecH kvh (out.take k) ∧ outM row (out.drop k) (out.take k) = (outM row out []) ∧ On W0 (MapS bh .i64 .u64 kvh ckh :: MapS bd .i64 .u64 kvd ckd :: L) w) (fun k => out.length - k) (0) ?_ ?_
   · have hRv : ((rowM ins row [])).2 = 0 ∧ ((rowM ins row [])).1 = 0 := rowM_zero hR0
     exact ⟨Nat.zero_le _, _, [], 0, mkE_of ⟨rfl, congrArg (Value.int .i64) hRv.1, congrArg (fun z : Nat => Value.int .i64 (z : Int)) hRv.2, rfl, rfl, rfl, rfl, trivial⟩, specH_nil, rfl, h.to⟩
   clear h
   rintro k env w ⟨hk, j, kvh, ckh, rfl, hsh, hX, h⟩
   refine W.seq (W.region (WL.val (run_lss rfl rfl) rfl rfl (WL.nil (W.seq ?_))))
   refine W.condIf rfl (fun c52 => ?_) (fun c52 => ?_)
   ·
    refine W.skip (W.seq ?_)
    have hkl : k < out.length := by omega
    have ad_ := (h.readsTo CO).addr (by omega)
    obtain ⟨bo, oo, hal_⟩ := ad_
    subst hal_
    have ex_ : ∃ a, out[k]? = some a := ⟨out[k], by simp⟩
    obtain ⟨⟨oh, oid, ost, oky, oco, oax, oac, obs, oin, oat⟩, hq⟩ := ex_
    have hrow := drop_flatMap OuX.cells 8 OuX.cells_length out _ _ hq
    refine W.block (W.seq (W.region (WL.val run_move rfl rfl (WL.val (run_indexAddr Tryz.underlying57 Tryz.sizeOf63 rfl rfl (by omega) (by omega)) rfl rfl (WL.val (run_loadN Tryz.isAgg63 Tryz.sizeOf63 rfl rfl ((h.readsTo CO).elem (i := k) (vs := [.int .i64 oh, .int .u64 oid, .int .i64 ost, .int .i64 oky, .int .i64 oco, .slice oax obs.length oac, .int .i64 oin, .int .i64 oat]) hkl hrow)) rfl rfl (WL.eff (eff_alloc h Tryz.zeroValue63 rfl) rfl rfl ?_))))))
    rintro _ w ⟨b24, rfl, h⟩
    refine WL.val run_assign rfl rfl (WL.eff (eff_storeW (vs := [.int .i64 _, .int .u64 _, .int .i64 _, .int .i64 _, .int .i64 _, .slice _ _ _, .int .i64 _, .int .i64 _]) h Tryz.sizeOf63 rfl rfl rfl rfl rfl) rfl rfl ?_)
    rintro _ w h
    refine WL.nil (W.seq (W.region (WL.val (run_fieldAddr 0 Tryz.underlying63 rfl Tryz.sizeOf3 rfl rfl) rfl rfl (WL.val (run_load1 Tryz.isAgg3 rfl (h.cellB rfl)) rfl rfl (WL.val (run_fieldAddr 1 Tryz.underlying63 rfl Tryz.sizeOf23 rfl rfl) rfl rfl (WL.val (run_load1 Tryz.isAgg23 rfl (h.cellB rfl)) rfl rfl (WL.val (run_buildS (pl := [(0, 1), (1, 1)]) (out := [.int .i64 _, .int .u64 _]) Tryz.underlying137 Tryz.zeroValue137 (fun w => by kernel_rfl) rfl (⟨⟨_, _, rfl, rfl, by decide⟩, ⟨⟨_, _, rfl, rfl, by decide⟩, trivial⟩⟩) rfl) rfl rfl ?_)))))))
    refine WL.eff (eff_alloc h Tryz.zeroValue137 rfl) rfl rfl ?_
    rintro _ w ⟨b25, rfl, h⟩
    refine WL.eff (eff_storeW (vs := [.int .i64 _, .int .u64 _]) h Tryz.sizeOf137 rfl rfl rfl rfl rfl) rfl rfl ?_
    rintro _ w h
    refine WL.nil ?_
    refine W.cut (fun env w => ∃ (j : Env) (b24 b25 b26 : Nat) (is : Bool) (yv : CoX), (is = true → findN CoX.nm row (oh, oid) = some yv) ∧ (is = false → (oh, oid) ∉ row.map CoX.nm) ∧ env = mkE j [(11, .map (some bd)), (14, .int .i64 0), (22, .map (some bh)), (98, .slice (some ⟨bo, oo, none⟩) out.length co), (99, .int .i64 (out.length : Int)), (100, .int .i64 (k : Int)), (23, .int .i64 (k : Int)), (24, .pointer (some ⟨b24, 0, none⟩)), (25, .pointer (some ⟨b25, 0, none⟩)), (13, .int .i64 0), (26, .pointer (some ⟨b26, 0, none⟩)), (27, .bool is)] ∧ On W0 (blk b26 yv.cells 61 :: blk b24 [.int .i64 oh, .int .u64 oid, .int .i64 ost, .int .i64 oky, .int .i64 oco, .slice oax obs.length oac, .int .i64 oin, .int .i64 oat] 63 :: blk b25 [.int .i64 oh, .int .u64 oid] 137 :: MapS bh .i64 .u64 kvh ckh :: MapS bd .i64 .u64 kvd ckd :: L) w) ?_ ?_
    ·
     refine W.region (WL.val run_move rfl rfl (WL.val (run_loadB (vs := [.int .i64 _, .int .u64 _]) h Tryz.isAgg137 Tryz.sizeOf137 rfl rfl rfl) rfl rfl ?_))
     have hks_ := (On.mapSC (h.fetch (MapS bd .i64 .u64 kvd ckd))).2
     have hcs_ := Classical.em ((oh, oid) ∈ (row).map CoX.nm)
     rcases hcs_ with hin | hin
     have fm_ := findN_mem hin
     obtain ⟨⟨dh, did, dat⟩, hf⟩ := fm_
     refine WL.val (run_lookupSOk (p := (oh, oid)) (v := (⟨dh, did, dat⟩ : CoX).val) (o := true) nameKey hks_ Tryz.underlying192 Tryz.zeroValue61 rfl rfl (by rw [hsd, hf]; rfl) (by rw [hsd, hf]; rfl)) rfl rfl ?_
     rotate_left
     refine WL.val (run_lookupSOk (p := (oh, oid)) (v := .agg #[.int .i64 0, .int .u64 0, .int .i64 0]) (o := false) nameKey hks_ Tryz.underlying192 Tryz.zeroValue61 rfl rfl (by rw [hsd, findN_none.2 hin]; rfl) (by rw [hsd, findN_none.2 hin]; rfl)) rfl rfl ?_
     rotate_left
     ·
      refine WL.val run_move rfl rfl (WL.val (run_extract rfl rfl) rfl rfl (WL.val (run_extract rfl rfl) rfl rfl (WL.eff (eff_alloc h Tryz.zeroValue61 rfl) rfl rfl ?_)))
      rintro _ w ⟨b26, rfl, h⟩
      refine WL.eff (eff_storeW (vs := [.int .i64 _, .int .u64 _, .int .i64 _]) h Tryz.sizeOf61 rfl rfl rfl rfl rfl) rfl rfl ?_
      rintro _ w h
      refine WL.val run_assign rfl rfl (WL.nil ?_)
      have h : On W0 (blk b26 ((⟨dh, did, dat⟩ : CoX)).cells 61 :: _) w := h
      exact ⟨_, b24, b25, b26, true, (⟨dh, did, dat⟩ : CoX), (fun _ => hf), (fun e => by cases e), mkE_of ⟨rfl, rfl, rfl, rfl, rfl, rfl, rfl, rfl, rfl, rfl, rfl, rfl, trivial⟩, h.to⟩
     refine WL.val run_move rfl rfl (WL.val (run_extract rfl rfl) rfl rfl (WL.val (run_extract rfl rfl) rfl rfl (WL.eff (eff_alloc h Tryz.zeroValue61 rfl) rfl rfl ?_)))
     rintro _ w ⟨b26, rfl, h⟩
     refine WL.eff (eff_storeW (vs := [.int .i64 _, .int .u64 _, .int .i64 _]) h Tryz.sizeOf61 rfl rfl rfl rfl rfl) rfl rfl ?_
     rintro _ w h
     refine WL.val run_assign rfl rfl (WL.nil ?_)
     have h : On W0 (blk b26 ((⟨0, 0, 0⟩ : CoX)).cells 61 :: _) w := h
     exact ⟨_, b24, b25, b26, false, (⟨0, 0, 0⟩ : CoX), (fun e => by cases e), (fun _ => hin), mkE_of ⟨rfl, rfl, rfl, rfl, rfl, rfl, rfl, rfl, rfl, rfl, rfl, rfl, trivial⟩, h.to⟩
    clear h
    rintro env w ⟨j, b24, b25, b26, is, ⟨dh, did, dat⟩, hisT, hisF, rfl, h⟩
    refine W.cut (fun env w => ∃ (j : Env) (b24 b25 : Nat) (e : Int), e = okO row (out.take k) (⟨oh, oid, ost, oky, oco, oax, oac, obs, oin, oat⟩ : OuX) ∧ env = mkE j [(11, .map (some bd)), (14, .int .i64 0), (22, .map (some bh)), (98, .slice (some ⟨bo, oo, none⟩) out.length co), (99, .int .i64 (out.length : Int)), (100, .int .i64 (k : Int)), (23, .int .i64 (k : Int)), (24, .pointer (some ⟨b24, 0, none⟩)), (25, .pointer (some ⟨b25, 0, none⟩)), (13, .int .i64 e)] ∧ On W0 (blk b24 [.int .i64 oh, .int .u64 oid, .int .i64 ost, .int .i64 oky, .int .i64 oco, .slice oax obs.length oac, .int .i64 oin, .int .i64 oat] 63 :: blk b25 [.int .i64 oh, .int .u64 oid] 137 :: MapS bh .i64 .u64 kvh ckh :: MapS bd .i64 .u64 kvd ckd :: L) w) ?_ ?_
    ·
     refine W.block (W.seq (W.region (WL.val run_move rfl rfl (WL.val (run_not rfl) rfl rfl (WL.val run_assign rfl rfl (WL.nil ?_))))))
     refine W.condB rfl (fun c61 => ?_) (fun c61 => ?_)
     ·
      refine W.region (WL.val run_assign rfl rfl (WL.nil ?_))
      exact ⟨_, b24, b25, _, (okO_none (hisF (by simpa using c61))).symm, mkE_of ⟨rfl, rfl, rfl, rfl, rfl, rfl, rfl, rfl, rfl, rfl, trivial⟩, h.to⟩
     refine W.seq (W.region (WL.val run_move rfl rfl (WL.val (run_loadB (vs := [.int .i64 _, .int .u64 _]) h Tryz.isAgg137 Tryz.sizeOf137 rfl rfl rfl) rfl rfl ?_)))
     have hks_ := (On.mapSC (h.fetch (MapS bh .i64 .u64 kvh ckh))).2
     refine WL.val (run_lookupS (p := (oh, oid)) nameKey hks_ Tryz.underlying194 Tryz.zeroValue4 rfl rfl (specH_get hsh (oh, oid))) rfl rfl ?_
     refine WL.dec run_move rfl rfl (fun c123 => ?_) (fun c123 => ?_)
     ·
      refine WL.skip rfl rfl (WL.skip rfl rfl (WL.skip rfl rfl (WL.skip rfl rfl (WL.skip rfl rfl (WL.val (run_pickT rfl) rfl rfl (WL.val run_assign rfl rfl (WL.nil ?_)))))))
      refine W.condT rfl (W.region (WL.val run_assign rfl rfl (WL.nil ?_)))
      exact ⟨_, b24, b25, _, (okO_bad (hisT (by simpa using c61)) (.inl c123)).symm, mkE_of ⟨rfl, rfl, rfl, rfl, rfl, rfl, rfl, rfl, rfl, rfl, trivial⟩, h.to⟩
     refine WL.val (run_fieldAddr 7 Tryz.underlying63 rfl Tryz.sizeOf3 rfl rfl) rfl rfl (WL.val (run_load1 Tryz.isAgg3 rfl (h.cellB rfl)) rfl rfl (WL.val (run_fieldAddr 2 Tryz.underlying61 rfl Tryz.sizeOf3 rfl rfl) rfl rfl (WL.val (run_load1 Tryz.isAgg3 rfl (h.cellB rfl)) rfl rfl ?_)))
     refine WL.dec (run_lss rfl rfl) rfl rfl (fun c128 => ?_) (fun c128 => ?_)
     ·
      refine WL.val (run_pickF rfl) rfl rfl (WL.val run_assign rfl rfl (WL.nil (W.condT rfl (W.region (WL.val run_assign rfl rfl (WL.nil ?_))))))
      exact ⟨_, b24, b25, _, (okO_bad (hisT (by simpa using c61)) (.inr c128)).symm, mkE_of ⟨rfl, rfl, rfl, rfl, rfl, rfl, rfl, rfl, rfl, rfl, trivial⟩, h.to⟩
     refine WL.val (run_pickF rfl) rfl rfl (WL.val run_assign rfl rfl (WL.nil (W.condF rfl (W.skip ?_))))
     exact ⟨_, b24, b25, _, (okO_good (hisT (by simpa using c61)) (fun hx => by rcases hx with hx | hx; exact c123 hx; exact c128 hx)).symm, mkE_of ⟨rfl, rfl, rfl, rfl, rfl, rfl, rfl, rfl, rfl, rfl, trivial⟩, h.to⟩
    clear h
    rintro env w ⟨j, b24, b25, e, he_, rfl, h⟩
    refine W.seq (W.seq (W.region (WL.val run_move rfl rfl (WL.val (run_neq rfl rfl) rfl rfl (WL.nil ?_)))))
    refine W.condIf rfl (fun c68 => ?_) (fun c68 => ?_)
    ·
     refine W.seq (W.region (WL.val run_move rfl rfl (WL.val run_assign rfl rfl (WL.nil (W.exit (W.seq (W.region ?_)))))))
     refine WL.val run_move rfl rfl (WL.val run_move rfl rfl (WL.val run_assign rfl rfl (WL.val run_assign rfl rfl (WL.nil (W.ret (bodyQ.r2 (v1 := .int .i64 _) (v2 := .int .i64 _) Tryz.results73 rfl rfl ?_))))))
     rw [outM_stop hq (by rw [← he_]; exact c68)] at hX
     rw [hom, ← hX, ← he_]
     exact .inl ⟨hnd, rfl, h.to⟩
    refine W.skip (W.region (WL.val run_move rfl rfl (WL.val (run_loadB (vs := [.int .i64 _, .int .u64 _]) h Tryz.isAgg137 Tryz.sizeOf137 rfl rfl rfl) rfl rfl (WL.eff (eff_mapUpdateS (p := (oh, oid)) (v := .bool true) nameKey (h.fetch (MapS bh .i64 .u64 kvh ckh)) Tryz.underlying194 rfl rfl rfl) rfl rfl ?_))))
    rintro _ w h
    have h : On W0 (MapS bh .i64 .u64 (putS kvh (⟨oh, oid, ost, oky, oco, oax, oac, obs, oin, oat⟩ : OuX).nm (.bool true) ckh) (clockS kvh (⟨oh, oid, ost, oky, oco, oax, oac, obs, oin, oat⟩ : OuX).nm ckh) :: _) w := h
    refine WL.nil (W.region (WL.val (run_incN rfl rfl (by omega)) rfl rfl (WL.val run_move rfl rfl (WL.nil ?_))))
    have ob_ : e = 0 := by omega
    obtain rfl := ob_
    have hz : okO row (out.take k) (⟨oh, oid, ost, oky, oco, oax, oac, obs, oin, oat⟩ : OuX) = 0 := he_.symm
    exact ⟨k + 1, ⟨by omega, _, (putS kvh (⟨oh, oid, ost, oky, oco, oax, oac, obs, oin, oat⟩ : OuX).nm (.bool true) ckh), (clockS kvh (⟨oh, oid, ost, oky, oco, oax, oac, obs, oin, oat⟩ : OuX).nm ckh), mkE_of ⟨rfl, rfl, rfl, rfl, rfl, rfl, rfl, trivial⟩, by rw [Go.Sl.take_snoc hq]; exact specH_snoc (ck := ckh) hsh, by rw [← outM_step hq hz]; exact hX, h.to⟩, by show out.length - (k + 1) < out.length - k; omega⟩
   refine W.exit (W.seq (W.region (WL.val run_move rfl rfl (WL.val run_move rfl rfl (WL.val run_assign rfl rfl (WL.val run_assign rfl rfl (WL.nil ?_)))))))
   refine W.ret (bodyQ.r2 (v1 := .int .i64 _) (v2 := .int .i64 _) Tryz.results73 rfl rfl ?_)
   have ob_ : k = out.length := by omega
   obtain rfl := ob_
   rw [List.take_length, List.drop_length] at hX
   rw [hom, ← hX]
   exact .inl ⟨hnd, rfl, h.to⟩
  refine WL.val run_move rfl rfl (WL.val (run_extract rfl rfl) rfl rfl (WL.val (run_extract rfl rfl) rfl rfl (WL.val (run_extract rfl rfl) rfl rfl (WL.val run_assign rfl rfl (WL.val run_assign rfl rfl (WL.val run_assign rfl rfl (WL.nil ?_)))))))
  refine W.seq (W.seq (W.region (WL.val run_move rfl rfl (WL.val (run_not rfl) rfl rfl (WL.nil (W.condT rfl (W.seq ?_)))))))
  refine W.region (WL.val run_move rfl rfl (WL.val run_assign rfl rfl (WL.val run_assign rfl rfl (WL.nil (W.ret (bodyQ.r2 (v1 := .int .i64 _) (v2 := .int .i64 _) Tryz.results73 rfl rfl ?_))))))
  exact .inr ⟨hnd, i, rfl, h⟩

end Go.Proofs.YtdpakoefdpmebaaGreat
