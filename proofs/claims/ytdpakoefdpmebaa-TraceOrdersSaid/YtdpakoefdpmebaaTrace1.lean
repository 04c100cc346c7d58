/-
  A unit: what was asked, committed, told: the contracts. Lines of walks printed by a program of the prover's.
-/
import Derived.Test.YtdpakoefdpmebaaAct
import Derived.Test.YtdpakoefdpmebaaTraceM
import Derived.Test.YtdpakoefdpmebaaSlRange
namespace Go.Proofs.Ytdpakoefdpmebaa
open Go Go.Sl Go.Sl.TrM Go.Sl.BitM Go.Sl.SpM Go.Sl.RsM Go.Sl.ByM Go.Sl.UnM
set_option linter.unusedVariables false
set_option linter.unusedSimpArgs false
set_option maxHeartbeats 1000000
set_option maxRecDepth 8000
variable {W0 w : World} {L F : List HProp}


theorem nameKey : PairKey Try.prog 49 .i64 .u64 := ⟨⟨_, _, Try.underlying49, by decide, by decide, rfl, rfl, Try.underlying3, Try.underlying24, Try.isAgg3, Try.isAgg24⟩, by kernel_rfl⟩

theorem invoked_ok {ai : Option Addr} {ci : Nat} {ins : List InX} (h : On W0 L w) (CI : Gives L (Cells 11 (.slice ai ins.length ci) ins.length (ins.flatMap InX.cells))) : Calls Try.prog 13 #[.slice ai ins.length ci] w (Ret fun v w' => ((ins.map InX.nm).Nodup ∧ ∃ b kvs ck, v = .tuple #[.map (some b), .int .i64 0, .bool true] ∧ SpecN kvs InX.nm InX.val ins ∧ On W0 (MapS b .i64 .u64 kvs ck :: L) w') ∨ (¬ (ins.map InX.nm).Nodup ∧ ∃ i, v = .tuple #[.map none, .int .i64 i, .bool false] ∧ On W0 L w')) := by
  refine enter Try.func13 rfl Try.ntmps13 rfl ?_
  have hbd := (h.reads CI).bounds
  obtain ⟨hc1, hc2⟩ := hbd
  have hmx := maxLen_eq
  refine W.seq ?_
  refine W.region ?_
  refine WL.val run_assign rfl rfl ?_
  refine WL.val run_assign rfl rfl ?_
  refine WL.val run_assign rfl rfl ?_
  refine WL.nil ?_
  refine W.seq ?_
  refine W.region ?_
  refine WL.eff (eff_makeMapS .i64 .u64 h) rfl rfl ?_
  rintro _ w ⟨b11, rfl, h⟩
  refine WL.val run_assign rfl rfl ?_
  refine WL.nil ?_
  refine W.seq ?_
  refine W.seq ?_
  refine W.region ?_
  refine WL.val run_move rfl rfl ?_
  refine WL.val (run_lenSlice Try.underlying29 rfl) rfl rfl ?_
  refine WL.val run_move rfl rfl ?_
  refine WL.nil ?_
  refine W.block ?_
  refine W.loop (fun (k : Nat) env w => k ≤ ins.length ∧ ∃ (j : Env) (kvs : List KS) (ck : Nat), env = mkE j [(5, .map (some b11)), (12, .slice ai ins.length ci), (13, .int .i64 (ins.length : Int)), (14, .int .i64 (k : Int))] ∧ ((ins.take k).map InX.nm).Nodup ∧ SpecN kvs InX.nm InX.val (ins.take k) ∧ On W0 (MapS b11 .i64 .u64 kvs ck :: L) w) (fun k => ins.length - k) (0) ?_ ?_
  · exact ⟨Nat.zero_le _, _, [], 0, mkE_of ⟨rfl, rfl, rfl, rfl, trivial⟩, List.nodup_nil, spec_nil, h⟩
  · rintro k env w ⟨hk, j, kvs, ck, rfl, hnd, hsp, h⟩
    refine W.seq ?_
    refine W.region ?_
    refine WL.val (run_lss rfl rfl) rfl rfl ?_
    refine WL.nil ?_
    refine W.seq ?_
    refine W.condIf rfl (fun c6 => ?_) (fun c6 => ?_)
    · skip
      refine W.skip ?_
      refine W.seq ?_
      have hkl : k < ins.length := by omega
      have ad_ := (h.readsTo CI).addr (by omega)
      obtain ⟨bq, oq, hal_⟩ := ad_
      subst hal_
      have ex_ : ∃ a, ins[k]? = some a := ⟨ins[k], by simp⟩
      obtain ⟨⟨xh, xid, ⟨xk, xa, xn, xax, xac, xbs, xky, xnw, xty, xfo⟩, xat⟩, hq⟩ := ex_
      have hrow := drop_flatMap InX.cells 11 InX.cells_length ins _ _ hq
      refine W.block ?_
      refine W.seq ?_
      refine W.region ?_
      refine WL.val run_move rfl rfl ?_
      refine WL.val (run_indexAddr Try.underlying29 Try.sizeOf28 rfl rfl (by omega) (by omega)) rfl rfl ?_
      refine WL.val (run_loadN Try.isAgg28 Try.sizeOf28 rfl rfl ((h.readsTo CI).elem (i := k) (vs := [.int .i64 xh, .int .u64 xid, .int .i64 xk, .int .i64 xa, .int .i64 xn, .slice xax xbs.length xac, .int .u64 xky, .int .u64 xnw, .int .i64 xty, .bool xfo, .int .i64 xat]) hkl hrow)) rfl rfl ?_
      refine WL.eff (eff_alloc h Try.zeroValue28 rfl) rfl rfl ?_
      rintro _ w ⟨b7, rfl, h⟩
      refine WL.val run_assign rfl rfl ?_
      refine WL.eff (eff_storeN (vs := [.int .i64 _, .int .u64 _, .int .i64 _, .int .i64 _, .int .i64 _, .slice _ _ _, .int .u64 _, .int .u64 _, .int .i64 _, .bool _, .int .i64 _]) h Try.sizeOf28 rfl rfl rfl rfl rfl (fun k _ _ => free0 k)) rfl rfl ?_
      rintro _ w h
      try simp only [splice, List.take_zero, List.take_succ_cons, List.take_nil, List.drop_succ_cons, List.drop_zero, List.drop_nil, List.nil_append, List.cons_append, List.append_nil, List.length_cons, List.length_nil, Nat.zero_add, Nat.reduceAdd] at h
      refine WL.nil ?_
      refine W.seq ?_
      refine W.region ?_
      refine WL.val (run_fieldAddr 0 Try.underlying28 rfl Try.sizeOf3 rfl rfl) rfl rfl ?_
      refine WL.val (run_load1 Try.isAgg3 rfl (h.cellB rfl)) rfl rfl ?_
      refine WL.val (run_fieldAddr 1 Try.underlying28 rfl Try.sizeOf24 rfl rfl) rfl rfl ?_
      refine WL.val (run_load1 Try.isAgg24 rfl (h.cellB rfl)) rfl rfl ?_
      refine WL.val (run_buildS (pl := [(0, 1), (1, 1)]) (out := [.int .i64 _, .int .u64 _]) Try.underlying49 Try.zeroValue49 (fun w => by kernel_rfl) rfl (⟨⟨_, _, rfl, rfl, by decide⟩, ⟨⟨_, _, rfl, rfl, by decide⟩, trivial⟩⟩) rfl) rfl rfl ?_
      refine WL.eff (eff_alloc h Try.zeroValue49 rfl) rfl rfl ?_
      rintro _ w ⟨b8, rfl, h⟩
      refine WL.eff (eff_storeN (vs := [.int .i64 _, .int .u64 _]) h Try.sizeOf49 rfl rfl rfl rfl rfl (fun k _ _ => free0 k)) rfl rfl ?_
      rintro _ w h
      try simp only [splice, List.take_zero, List.take_succ_cons, List.take_nil, List.drop_succ_cons, List.drop_zero, List.drop_nil, List.nil_append, List.cons_append, List.append_nil, List.length_cons, List.length_nil, Nat.zero_add, Nat.reduceAdd] at h
      refine WL.nil ?_
      refine W.seq ?_
      refine W.seq ?_
      refine W.region ?_
      refine WL.val run_move rfl rfl ?_
      refine WL.val (run_loadB (vs := [.int .i64 _, .int .u64 _]) h Try.isAgg49 Try.sizeOf49 rfl rfl rfl) rfl rfl ?_
      have hks_ := (On.mapSC (h.fetch (MapS b11 .i64 .u64 kvs ck))).2
      have hcs_ := Classical.em ((xh, xid) ∈ (ins.take k).map InX.nm)
      rcases hcs_ with hin | hin
      have fm_ := findN_mem hin
      obtain ⟨⟨yh, yid, ⟨yk, ya, yn, yax, yac, ybs, yky, ynw, yty, yfo⟩, yat⟩, hf⟩ := fm_
      refine WL.val (run_lookupSOk (p := (xh, xid)) (v := (⟨yh, yid, ⟨yk, ya, yn, yax, yac, ybs, yky, ynw, yty, yfo⟩, yat⟩ : InX).val) (o := true) nameKey hks_ Try.underlying54 Try.zeroValue28 rfl rfl (by rw [hsp, hf]; rfl) (by rw [hsp, hf]; rfl)) rfl rfl ?_
      rotate_left
      refine WL.val (run_lookupSOk (p := (xh, xid)) (v := .agg #[.int .i64 0, .int .u64 0, .int .i64 0, .int .i64 0, .int .i64 0, .slice none 0 0, .int .u64 0, .int .u64 0, .int .i64 0, .bool false, .int .i64 0]) (o := false) nameKey hks_ Try.underlying54 Try.zeroValue28 rfl rfl (by rw [hsp, findN_none.2 hin]; rfl) (by rw [hsp, findN_none.2 hin]; rfl)) rfl rfl ?_
      rotate_left
      · skip
        refine WL.val run_move rfl rfl ?_
        refine WL.val (run_extract rfl rfl) rfl rfl ?_
        refine WL.val (run_extract rfl rfl) rfl rfl ?_
        refine WL.eff (eff_alloc h Try.zeroValue28 rfl) rfl rfl ?_
        rintro _ w ⟨b9, rfl, h⟩
        refine WL.eff (eff_storeN (vs := [.int .i64 _, .int .u64 _, .int .i64 _, .int .i64 _, .int .i64 _, .slice _ _ _, .int .u64 _, .int .u64 _, .int .i64 _, .bool _, .int .i64 _]) h Try.sizeOf28 rfl rfl rfl rfl rfl (fun k _ _ => free0 k)) rfl rfl ?_
        rintro _ w h
        try simp only [splice, List.take_zero, List.take_succ_cons, List.take_nil, List.drop_succ_cons, List.drop_zero, List.drop_nil, List.nil_append, List.cons_append, List.append_nil, List.length_cons, List.length_nil, Nat.zero_add, Nat.reduceAdd] at h
        refine WL.val run_assign rfl rfl ?_
        refine WL.nil ?_
        refine W.seq ?_
        refine W.region ?_
        refine WL.val run_move rfl rfl ?_
        refine WL.nil ?_
        refine W.condT rfl ?_
        refine W.seq ?_
        refine W.region ?_
        refine WL.val run_move rfl rfl ?_
        refine WL.val run_assign rfl rfl ?_
        refine WL.val run_assign rfl rfl ?_
        refine WL.val run_assign rfl rfl ?_
        refine WL.nil ?_
        refine W.ret ?_
        refine bodyQ.r3 (v1 := .map _) (v2 := .int .i64 _) (v3 := .bool _) Try.results13 rfl rfl rfl ?_
        -- path LTT
        exact .inr ⟨not_nodup hq hin, _, rfl, h.to⟩
      · skip
        refine WL.val run_move rfl rfl ?_
        refine WL.val (run_extract rfl rfl) rfl rfl ?_
        refine WL.val (run_extract rfl rfl) rfl rfl ?_
        refine WL.eff (eff_alloc h Try.zeroValue28 rfl) rfl rfl ?_
        rintro _ w ⟨b9, rfl, h⟩
        refine WL.eff (eff_storeN (vs := [.int .i64 _, .int .u64 _, .int .i64 _, .int .i64 _, .int .i64 _, .slice _ _ _, .int .u64 _, .int .u64 _, .int .i64 _, .bool _, .int .i64 _]) h Try.sizeOf28 rfl rfl rfl rfl rfl (fun k _ _ => free0 k)) rfl rfl ?_
        rintro _ w h
        try simp only [splice, List.take_zero, List.take_succ_cons, List.take_nil, List.drop_succ_cons, List.drop_zero, List.drop_nil, List.nil_append, List.cons_append, List.append_nil, List.length_cons, List.length_nil, Nat.zero_add, Nat.reduceAdd] at h
        refine WL.val run_assign rfl rfl ?_
        refine WL.nil ?_
        refine W.seq ?_
        refine W.region ?_
        refine WL.val run_move rfl rfl ?_
        refine WL.nil ?_
        refine W.condF rfl ?_
        refine W.skip ?_
        refine W.region ?_
        refine WL.val run_move rfl rfl ?_
        refine WL.val (run_loadB (vs := [.int .i64 _, .int .u64 _]) h Try.isAgg49 Try.sizeOf49 rfl rfl rfl) rfl rfl ?_
        refine WL.val (run_loadB (vs := [.int .i64 _, .int .u64 _, .int .i64 _, .int .i64 _, .int .i64 _, .slice _ _ _, .int .u64 _, .int .u64 _, .int .i64 _, .bool _, .int .i64 _]) h Try.isAgg28 Try.sizeOf28 rfl rfl rfl) rfl rfl ?_
        refine WL.eff (eff_mapUpdateS (p := (xh, xid)) (v := (⟨xh, xid, ⟨xk, xa, xn, xax, xac, xbs, xky, xnw, xty, xfo⟩, xat⟩ : InX).val) nameKey (h.fetch (MapS b11 .i64 .u64 kvs ck)) Try.underlying54 rfl rfl rfl) rfl rfl ?_
        rintro _ w h
        have h : On W0 (MapS b11 .i64 .u64 (putS kvs (⟨xh, xid, ⟨xk, xa, xn, xax, xac, xbs, xky, xnw, xty, xfo⟩, xat⟩ : InX).nm (⟨xh, xid, ⟨xk, xa, xn, xax, xac, xbs, xky, xnw, xty, xfo⟩, xat⟩ : InX).val ck) (clockS kvs (⟨xh, xid, ⟨xk, xa, xn, xax, xac, xbs, xky, xnw, xty, xfo⟩, xat⟩ : InX).nm ck) :: _) w := h
        refine WL.nil ?_
        refine W.region ?_
        refine WL.val (run_incN rfl rfl (by omega)) rfl rfl ?_
        refine WL.val run_move rfl rfl ?_
        refine WL.nil ?_
        -- round, path LTF
        exact ⟨k + 1, ⟨by omega, _, (putS kvs (⟨xh, xid, ⟨xk, xa, xn, xax, xac, xbs, xky, xnw, xty, xfo⟩, xat⟩ : InX).nm (⟨xh, xid, ⟨xk, xa, xn, xax, xac, xbs, xky, xnw, xty, xfo⟩, xat⟩ : InX).val ck), (clockS kvs (⟨xh, xid, ⟨xk, xa, xn, xax, xac, xbs, xky, xnw, xty, xfo⟩, xat⟩ : InX).nm ck), mkE_of ⟨rfl, rfl, rfl, rfl, trivial⟩, by rw [Go.Sl.take_snoc hq]; exact nodup_snoc hnd hin, by rw [Go.Sl.take_snoc hq]; exact spec_snoc (ck := ck) hsp hin, h.to⟩, by show ins.length - (k + 1) < ins.length - k; omega⟩
    · skip
      refine W.exit ?_
      refine W.seq ?_
      refine W.region ?_
      refine WL.val run_move rfl rfl ?_
      refine WL.val run_assign rfl rfl ?_
      refine WL.val run_assign rfl rfl ?_
      refine WL.val run_assign rfl rfl ?_
      refine WL.nil ?_
      refine W.ret ?_
      refine bodyQ.r3 (v1 := .map _) (v2 := .int .i64 _) (v3 := .bool _) Try.results13 rfl rfl rfl ?_
      -- path LF
      have ob_ : k = ins.length := by omega
      obtain rfl := ob_
      rw [List.take_length] at hnd hsp
      exact .inl ⟨hnd, b11, kvs, ck, rfl, hsp, h⟩

theorem order_ok {ai : Option Addr} {ci : Nat} {ins : List InX} {ar : Option Addr} {cr : Nat} {row : List CoX} {ao : Option Addr} {co : Nat} {out : List OuX} (h : On W0 L w) (CI : Gives L (Cells 11 (.slice ai ins.length ci) ins.length (ins.flatMap InX.cells))) (CR : Gives L (Cells 3 (.slice ar row.length cr) row.length (row.flatMap CoX.cells))) (CO : Gives L (Cells 8 (.slice ao out.length co) out.length (out.flatMap OuX.cells))) : Calls Try.prog 7 #[.slice ai ins.length ci, .slice ar row.length cr, .slice ao out.length co] w (Ret fun v w' => ((ins.map InX.nm).Nodup ∧ v = .tuple #[.int .i64 ((orderM ins row out).1 : Int), .int .i64 (orderM ins row out).2] ∧ On W0 L w') ∨ (¬ (ins.map InX.nm).Nodup ∧ ∃ i, v = .tuple #[.int .i64 i, .int .i64 1] ∧ On W0 L w')) := by
  refine enter Try.func7 rfl Try.ntmps7 rfl ?_
  have hb1 := (h.reads CI).bounds
  obtain ⟨hi1, hi2⟩ := hb1
  have hb2 := (h.reads CR).bounds
  obtain ⟨hr1, hr2⟩ := hb2
  have hb3 := (h.reads CO).bounds
  obtain ⟨ho1, ho2⟩ := hb3
  have hmx := maxLen_eq
  refine W.seq ?_
  refine W.region ?_
  refine WL.val run_assign rfl rfl ?_
  refine WL.val run_assign rfl rfl ?_
  refine WL.nil ?_
  refine W.scope ?_
  refine W.seq ?_
  refine W.region ?_
  refine WL.val run_move rfl rfl ?_
  refine WL.eff (eff_call Try.call13 (invoked_ok h (Gives.to CI))) rfl rfl ?_
  rintro _ w hv
  rcases hv with ⟨hnd, bm, kvs, ck, rfl, hsp, h⟩ | ⟨hnd, i, rfl, h⟩
  · skip
    refine WL.val run_move rfl rfl ?_
    refine WL.val (run_extract rfl rfl) rfl rfl ?_
    refine WL.val (run_extract rfl rfl) rfl rfl ?_
    refine WL.val (run_extract rfl rfl) rfl rfl ?_
    refine WL.val run_assign rfl rfl ?_
    refine WL.val run_assign rfl rfl ?_
    refine WL.val run_assign rfl rfl ?_
    refine WL.nil ?_
    refine W.seq ?_
    refine W.seq ?_
    refine W.region ?_
    refine WL.val run_move rfl rfl ?_
    refine WL.val (run_not rfl) rfl rfl ?_
    refine WL.nil ?_
    refine W.condF rfl ?_
    refine W.skip ?_
    refine W.seq ?_
    refine W.region ?_
    refine WL.eff (eff_makeMapS .i64 .u64 h) rfl rfl ?_
    rintro _ w ⟨bd, rfl, h⟩
    refine WL.val run_assign rfl rfl ?_
    refine WL.nil ?_
    refine W.seq ?_
    refine W.region ?_
    refine WL.val run_assign rfl rfl ?_
    refine WL.nil ?_
    refine W.seq ?_
    refine W.region ?_
    refine WL.val run_assign rfl rfl ?_
    refine WL.nil ?_
    refine W.seq ?_
    refine W.region ?_
    refine WL.val run_assign rfl rfl ?_
    refine WL.nil ?_
    refine W.seq ?_
    refine W.label ?_
    refine W.cut (fun env w => ∃ (j : Env) (kvd : List KS) (ckd : Nat), ((rowM ins row []).2 = 0 → SpecN kvd CoX.nm CoX.val row) ∧ env = mkE j [(2, .slice ao out.length co), (11, .map (some bd)), (13, .int .i64 (rowM ins row []).2), (14, .int .i64 ((rowM ins row []).1 : Int))] ∧ On W0 (MapS bd .i64 .u64 kvd ckd :: L) w) ?_ ?_
    · skip
      refine W.seq ?_
      refine W.region ?_
      refine WL.val run_move rfl rfl ?_
      refine WL.val (run_lenSlice Try.underlying41 rfl) rfl rfl ?_
      refine WL.val run_move rfl rfl ?_
      refine WL.nil ?_
      refine W.block ?_
      refine W.loop (fun (k : Nat) env w => k ≤ row.length ∧ ∃ (j : Env) (kvd : List KS) (ckd : Nat), env = mkE j [(2, .slice ao out.length co), (8, .map (some bm)), (11, .map (some bd)), (12, .int .i64 (lastAt (row.take k))), (13, .int .i64 0), (14, .int .i64 0), (38, .slice ar row.length cr), (39, .int .i64 (row.length : Int)), (40, .int .i64 (k : Int))] ∧ SpecN kvd CoX.nm CoX.val (row.take k) ∧ rowM ins (row.drop k) (row.take k) = (rowM ins row []) ∧ On W0 (MapS bd .i64 .u64 kvd ckd :: MapS bm .i64 .u64 kvs ck :: L) w) (fun k => row.length - k) (0) ?_ ?_
      · exact ⟨Nat.zero_le _, _, [], 0, mkE_of ⟨rfl, rfl, rfl, rfl, rfl, rfl, rfl, rfl, rfl, trivial⟩, spec_nil, rfl, h⟩
      · clear h
        rintro k env w ⟨hk, j, kvd, ckd, rfl, hsd, hR, h⟩
        refine W.seq ?_
        refine W.region ?_
        refine WL.val (run_lss rfl rfl) rfl rfl ?_
        refine WL.nil ?_
        refine W.seq ?_
        refine W.condIf rfl (fun c17 => ?_) (fun c17 => ?_)
        · skip
          refine W.skip ?_
          refine W.seq ?_
          have hkl : k < row.length := by omega
          have ad_ := (h.readsTo CR).addr (by omega)
          obtain ⟨br, or_, hal_⟩ := ad_
          subst hal_
          have ex_ : ∃ a, row[k]? = some a := ⟨row[k], by simp⟩
          obtain ⟨⟨ch, cid, cat⟩, hq⟩ := ex_
          have hrow := drop_flatMap CoX.cells 3 CoX.cells_length row _ _ hq
          have hkl2 := take_len (l := row) (k := k) (by omega)
          refine W.block ?_
          refine W.seq ?_
          refine W.region ?_
          refine WL.val run_move rfl rfl ?_
          refine WL.val (run_indexAddr Try.underlying41 Try.sizeOf40 rfl rfl (by omega) (by omega)) rfl rfl ?_
          refine WL.val (run_loadN Try.isAgg40 Try.sizeOf40 rfl rfl ((h.readsTo CR).elem (i := k) (vs := [.int .i64 ch, .int .u64 cid, .int .i64 cat]) hkl hrow)) rfl rfl ?_
          refine WL.eff (eff_alloc h Try.zeroValue40 rfl) rfl rfl ?_
          rintro _ w ⟨b16, rfl, h⟩
          refine WL.val run_assign rfl rfl ?_
          refine WL.eff (eff_storeN (vs := [.int .i64 _, .int .u64 _, .int .i64 _]) h Try.sizeOf40 rfl rfl rfl rfl rfl (fun k _ _ => free0 k)) rfl rfl ?_
          rintro _ w h
          try simp only [splice, List.take_zero, List.take_succ_cons, List.take_nil, List.drop_succ_cons, List.drop_zero, List.drop_nil, List.nil_append, List.cons_append, List.append_nil, List.length_cons, List.length_nil, Nat.zero_add, Nat.reduceAdd] at h
          refine WL.nil ?_
          refine W.seq ?_
          refine W.region ?_
          refine WL.val (run_fieldAddr 0 Try.underlying40 rfl Try.sizeOf3 rfl rfl) rfl rfl ?_
          refine WL.val (run_load1 Try.isAgg3 rfl (h.cellB rfl)) rfl rfl ?_
          refine WL.val (run_fieldAddr 1 Try.underlying40 rfl Try.sizeOf24 rfl rfl) rfl rfl ?_
          refine WL.val (run_load1 Try.isAgg24 rfl (h.cellB rfl)) rfl rfl ?_
          refine WL.val (run_buildS (pl := [(0, 1), (1, 1)]) (out := [.int .i64 _, .int .u64 _]) Try.underlying49 Try.zeroValue49 (fun w => by kernel_rfl) rfl (⟨⟨_, _, rfl, rfl, by decide⟩, ⟨⟨_, _, rfl, rfl, by decide⟩, trivial⟩⟩) rfl) rfl rfl ?_
          refine WL.eff (eff_alloc h Try.zeroValue49 rfl) rfl rfl ?_
          rintro _ w ⟨b17, rfl, h⟩
          refine WL.eff (eff_storeN (vs := [.int .i64 _, .int .u64 _]) h Try.sizeOf49 rfl rfl rfl rfl rfl (fun k _ _ => free0 k)) rfl rfl ?_
          rintro _ w h
          try simp only [splice, List.take_zero, List.take_succ_cons, List.take_nil, List.drop_succ_cons, List.drop_zero, List.drop_nil, List.nil_append, List.cons_append, List.append_nil, List.length_cons, List.length_nil, Nat.zero_add, Nat.reduceAdd] at h
          refine WL.nil ?_
          refine W.cut (fun env w => ∃ (j : Env) (b16 b17 b18 : Nat) (is : Bool) (xv : InX), (is = true → findN InX.nm ins (ch, cid) = some xv) ∧ (is = false → (ch, cid) ∉ ins.map InX.nm) ∧ env = mkE j [(2, .slice ao out.length co), (8, .map (some bm)), (11, .map (some bd)), (12, .int .i64 (lastAt (row.take k))), (14, .int .i64 0), (38, .slice (some ⟨br, or_, none⟩) row.length cr), (39, .int .i64 (row.length : Int)), (40, .int .i64 (k : Int)), (15, .int .i64 (k : Int)), (16, .pointer (some ⟨b16, 0, none⟩)), (17, .pointer (some ⟨b17, 0, none⟩)), (13, .int .i64 0), (18, .pointer (some ⟨b18, 0, none⟩)), (19, .bool is)] ∧ On W0 (blk b18 xv.cells 28 :: blk b16 [.int .i64 ch, .int .u64 cid, .int .i64 cat] 40 :: blk b17 [.int .i64 ch, .int .u64 cid] 49 :: MapS bd .i64 .u64 kvd ckd :: MapS bm .i64 .u64 kvs ck :: L) w) ?_ ?_
          · skip
            refine W.region ?_
            refine WL.val run_move rfl rfl ?_
            refine WL.val (run_loadB (vs := [.int .i64 _, .int .u64 _]) h Try.isAgg49 Try.sizeOf49 rfl rfl rfl) rfl rfl ?_
            have hks_ := (On.mapSC (h.fetch (MapS bm .i64 .u64 kvs ck))).2
            have hcs_ := Classical.em ((ch, cid) ∈ (ins).map InX.nm)
            rcases hcs_ with hin | hin
            have fm_ := findN_mem hin
            obtain ⟨⟨yh, yid, ⟨yk, ya, yn, yax, yac, ybs, yky, ynw, yty, yfo⟩, yat⟩, hf⟩ := fm_
            refine WL.val (run_lookupSOk (p := (ch, cid)) (v := (⟨yh, yid, ⟨yk, ya, yn, yax, yac, ybs, yky, ynw, yty, yfo⟩, yat⟩ : InX).val) (o := true) nameKey hks_ Try.underlying54 Try.zeroValue28 rfl rfl (by rw [hsp, hf]; rfl) (by rw [hsp, hf]; rfl)) rfl rfl ?_
            rotate_left
            refine WL.val (run_lookupSOk (p := (ch, cid)) (v := .agg #[.int .i64 0, .int .u64 0, .int .i64 0, .int .i64 0, .int .i64 0, .slice none 0 0, .int .u64 0, .int .u64 0, .int .i64 0, .bool false, .int .i64 0]) (o := false) nameKey hks_ Try.underlying54 Try.zeroValue28 rfl rfl (by rw [hsp, findN_none.2 hin]; rfl) (by rw [hsp, findN_none.2 hin]; rfl)) rfl rfl ?_
            rotate_left
            · skip
              refine WL.val run_move rfl rfl ?_
              refine WL.val (run_extract rfl rfl) rfl rfl ?_
              refine WL.val (run_extract rfl rfl) rfl rfl ?_
              refine WL.eff (eff_alloc h Try.zeroValue28 rfl) rfl rfl ?_
              rintro _ w ⟨b18, rfl, h⟩
              refine WL.eff (eff_storeN (vs := [.int .i64 _, .int .u64 _, .int .i64 _, .int .i64 _, .int .i64 _, .slice _ _ _, .int .u64 _, .int .u64 _, .int .i64 _, .bool _, .int .i64 _]) h Try.sizeOf28 rfl rfl rfl rfl rfl (fun k _ _ => free0 k)) rfl rfl ?_
              rintro _ w h
              try simp only [splice, List.take_zero, List.take_succ_cons, List.take_nil, List.drop_succ_cons, List.drop_zero, List.drop_nil, List.nil_append, List.cons_append, List.append_nil, List.length_cons, List.length_nil, Nat.zero_add, Nat.reduceAdd] at h
              refine WL.val run_assign rfl rfl ?_
              refine WL.nil ?_
              -- to the cut, path TLTT
              have h : On W0 (blk b18 ((⟨yh, yid, ⟨yk, ya, yn, yax, yac, ybs, yky, ynw, yty, yfo⟩, yat⟩ : InX)).cells 28 :: _) w := h
              exact ⟨_, b16, b17, b18, true, (⟨yh, yid, ⟨yk, ya, yn, yax, yac, ybs, yky, ynw, yty, yfo⟩, yat⟩ : InX), (fun _ => hf), (fun e => by cases e), mkE_of ⟨rfl, rfl, rfl, rfl, rfl, rfl, rfl, rfl, rfl, rfl, rfl, rfl, rfl, rfl, trivial⟩, h.to⟩
            · skip
              refine WL.val run_move rfl rfl ?_
              refine WL.val (run_extract rfl rfl) rfl rfl ?_
              refine WL.val (run_extract rfl rfl) rfl rfl ?_
              refine WL.eff (eff_alloc h Try.zeroValue28 rfl) rfl rfl ?_
              rintro _ w ⟨b18, rfl, h⟩
              refine WL.eff (eff_storeN (vs := [.int .i64 _, .int .u64 _, .int .i64 _, .int .i64 _, .int .i64 _, .slice _ _ _, .int .u64 _, .int .u64 _, .int .i64 _, .bool _, .int .i64 _]) h Try.sizeOf28 rfl rfl rfl rfl rfl (fun k _ _ => free0 k)) rfl rfl ?_
              rintro _ w h
              try simp only [splice, List.take_zero, List.take_succ_cons, List.take_nil, List.drop_succ_cons, List.drop_zero, List.drop_nil, List.nil_append, List.cons_append, List.append_nil, List.length_cons, List.length_nil, Nat.zero_add, Nat.reduceAdd] at h
              refine WL.val run_assign rfl rfl ?_
              refine WL.nil ?_
              -- to the cut, path TLTF
              have h : On W0 (blk b18 ((⟨0, 0, ⟨0, 0, 0, none, 0, [], 0, 0, 0, false⟩, 0⟩ : InX)).cells 28 :: _) w := h
              exact ⟨_, b16, b17, b18, false, (⟨0, 0, ⟨0, 0, 0, none, 0, [], 0, 0, 0, false⟩, 0⟩ : InX), (fun e => by cases e), (fun _ => hin), mkE_of ⟨rfl, rfl, rfl, rfl, rfl, rfl, rfl, rfl, rfl, rfl, rfl, rfl, rfl, rfl, trivial⟩, h.to⟩
          · clear h
            rintro env w ⟨j, b16, b17, b18, is, ⟨yh, yid, ⟨yk, ya, yn, yax, yac, ybs, yky, ynw, yty, yfo⟩, yat⟩, hisT, hisF, rfl, h⟩
            refine W.cut (fun env w => ∃ (j : Env) (tw : Bool), tw = decide ((ch, cid) ∈ (row.take k).map CoX.nm) ∧ env = mkE j [(2, .slice ao out.length co), (8, .map (some bm)), (11, .map (some bd)), (12, .int .i64 (lastAt (row.take k))), (14, .int .i64 0), (38, .slice (some ⟨br, or_, none⟩) row.length cr), (39, .int .i64 (row.length : Int)), (40, .int .i64 (k : Int)), (15, .int .i64 (k : Int)), (16, .pointer (some ⟨b16, 0, none⟩)), (17, .pointer (some ⟨b17, 0, none⟩)), (13, .int .i64 0), (18, .pointer (some ⟨b18, 0, none⟩)), (19, .bool is), (21, .bool tw)] ∧ On W0 (blk b18 (⟨yh, yid, ⟨yk, ya, yn, yax, yac, ybs, yky, ynw, yty, yfo⟩, yat⟩ : InX).cells 28 :: blk b16 [.int .i64 ch, .int .u64 cid, .int .i64 cat] 40 :: blk b17 [.int .i64 ch, .int .u64 cid] 49 :: MapS bd .i64 .u64 kvd ckd :: MapS bm .i64 .u64 kvs ck :: L) w) ?_ ?_
            · skip
              refine W.region ?_
              refine WL.val run_move rfl rfl ?_
              refine WL.val (run_loadB (vs := [.int .i64 _, .int .u64 _]) h Try.isAgg49 Try.sizeOf49 rfl rfl rfl) rfl rfl ?_
              have hks_ := (On.mapSC (h.fetch (MapS bd .i64 .u64 kvd ckd))).2
              have hcs_ := Classical.em ((ch, cid) ∈ (row.take k).map CoX.nm)
              rcases hcs_ with hin2 | hin2
              have fm_ := findN_mem hin2
              obtain ⟨⟨dh, did, dat⟩, hf2⟩ := fm_
              refine WL.val (run_lookupSOk (p := (ch, cid)) (v := (⟨dh, did, dat⟩ : CoX).val) (o := true) nameKey hks_ Try.underlying63 Try.zeroValue40 rfl rfl (by rw [hsd, hf2]; rfl) (by rw [hsd, hf2]; rfl)) rfl rfl ?_
              rotate_left
              refine WL.val (run_lookupSOk (p := (ch, cid)) (v := .agg #[.int .i64 0, .int .u64 0, .int .i64 0]) (o := false) nameKey hks_ Try.underlying63 Try.zeroValue40 rfl rfl (by rw [hsd, findN_none.2 hin2]; rfl) (by rw [hsd, findN_none.2 hin2]; rfl)) rfl rfl ?_
              rotate_left
              · skip
                refine WL.val run_move rfl rfl ?_
                refine WL.val (run_extract rfl rfl) rfl rfl ?_
                refine WL.val (run_extract rfl rfl) rfl rfl ?_
                refine WL.eff (eff_alloc h Try.zeroValue40 rfl) rfl rfl ?_
                rintro _ w ⟨b20, rfl, h⟩
                refine WL.eff (eff_storeN (vs := [.int .i64 _, .int .u64 _, .int .i64 _]) h Try.sizeOf40 rfl rfl rfl rfl rfl (fun k _ _ => free0 k)) rfl rfl ?_
                rintro _ w h
                try simp only [splice, List.take_zero, List.take_succ_cons, List.take_nil, List.drop_succ_cons, List.drop_zero, List.drop_nil, List.nil_append, List.cons_append, List.append_nil, List.length_cons, List.length_nil, Nat.zero_add, Nat.reduceAdd] at h
                refine WL.val run_assign rfl rfl ?_
                refine WL.nil ?_
                -- to the cut, path TLTT
                exact ⟨_, true, (decide_eq_true hin2).symm, mkE_of ⟨rfl, rfl, rfl, rfl, rfl, rfl, rfl, rfl, rfl, rfl, rfl, rfl, rfl, rfl, rfl, trivial⟩, h.to⟩
              · skip
                refine WL.val run_move rfl rfl ?_
                refine WL.val (run_extract rfl rfl) rfl rfl ?_
                refine WL.val (run_extract rfl rfl) rfl rfl ?_
                refine WL.eff (eff_alloc h Try.zeroValue40 rfl) rfl rfl ?_
                rintro _ w ⟨b20, rfl, h⟩
                refine WL.eff (eff_storeN (vs := [.int .i64 _, .int .u64 _, .int .i64 _]) h Try.sizeOf40 rfl rfl rfl rfl rfl (fun k _ _ => free0 k)) rfl rfl ?_
                rintro _ w h
                try simp only [splice, List.take_zero, List.take_succ_cons, List.take_nil, List.drop_succ_cons, List.drop_zero, List.drop_nil, List.nil_append, List.cons_append, List.append_nil, List.length_cons, List.length_nil, Nat.zero_add, Nat.reduceAdd] at h
                refine WL.val run_assign rfl rfl ?_
                refine WL.nil ?_
                -- to the cut, path TLTF
                exact ⟨_, false, (decide_eq_false hin2).symm, mkE_of ⟨rfl, rfl, rfl, rfl, rfl, rfl, rfl, rfl, rfl, rfl, rfl, rfl, rfl, rfl, rfl, trivial⟩, h.to⟩
            · clear h
              rintro env w ⟨j, tw, htw, rfl, h⟩
              refine W.cut (fun env w => ∃ (j : Env) (b16 b17 : Nat) (e : Int), e = okC ins (row.take k) (⟨ch, cid, cat⟩ : CoX) ∧ env = mkE j [(2, .slice ao out.length co), (8, .map (some bm)), (11, .map (some bd)), (12, .int .i64 (lastAt (row.take k))), (14, .int .i64 0), (38, .slice (some ⟨br, or_, none⟩) row.length cr), (39, .int .i64 (row.length : Int)), (40, .int .i64 (k : Int)), (15, .int .i64 (k : Int)), (16, .pointer (some ⟨b16, 0, none⟩)), (17, .pointer (some ⟨b17, 0, none⟩)), (13, .int .i64 e)] ∧ On W0 (blk b16 [.int .i64 ch, .int .u64 cid, .int .i64 cat] 40 :: blk b17 [.int .i64 ch, .int .u64 cid] 49 :: MapS bd .i64 .u64 kvd ckd :: MapS bm .i64 .u64 kvs ck :: L) w) ?_ ?_
              · skip
                refine W.block ?_
                refine W.seq ?_
                refine W.region ?_
                refine WL.val run_move rfl rfl ?_
                refine WL.val (run_not rfl) rfl rfl ?_
                refine WL.val run_assign rfl rfl ?_
                refine WL.nil ?_
                refine W.condB rfl (fun c27 => ?_) (fun c27 => ?_)
                · skip
                  refine W.region ?_
                  refine WL.val run_assign rfl rfl ?_
                  refine WL.nil ?_
                  -- to the cut, path TLTT
                  exact ⟨_, b16, b17, _, (okC_none (hisF (by simpa using c27))).symm, mkE_of ⟨rfl, rfl, rfl, rfl, rfl, rfl, rfl, rfl, rfl, rfl, rfl, rfl, trivial⟩, h.to⟩
                · skip
                  refine W.seq ?_
                  refine W.region ?_
                  refine WL.boolB run_move rfl rfl (fun c66 => ?_) (fun c66 => ?_)
                  · skip
                    refine WL.val run_move rfl rfl ?_
                    refine WL.skip rfl rfl ?_
                    refine WL.skip rfl rfl ?_
                    refine WL.skip rfl rfl ?_
                    refine WL.skip rfl rfl ?_
                    refine WL.skip rfl rfl ?_
                    refine WL.skip rfl rfl ?_
                    refine WL.skip rfl rfl ?_
                    refine WL.skip rfl rfl ?_
                    refine WL.val (run_pickT rfl) rfl rfl ?_
                    refine WL.val run_move rfl rfl ?_
                    refine WL.skip rfl rfl ?_
                    refine WL.skip rfl rfl ?_
                    refine WL.skip rfl rfl ?_
                    refine WL.skip rfl rfl ?_
                    refine WL.skip rfl rfl ?_
                    refine WL.val (run_pickT rfl) rfl rfl ?_
                    refine WL.val run_assign rfl rfl ?_
                    refine WL.nil ?_
                    refine W.condT rfl ?_
                    refine W.region ?_
                    refine WL.val run_assign rfl rfl ?_
                    refine WL.nil ?_
                    -- to the cut, path TLTFT
                    exact ⟨_, b16, b17, _, (okC_bad (hisT (by simpa using c27)) (.inl (of_decide_eq_true (htw.symm.trans c66)))).symm, mkE_of ⟨rfl, rfl, rfl, rfl, rfl, rfl, rfl, rfl, rfl, rfl, rfl, rfl, trivial⟩, h.to⟩
                  · skip
                    refine WL.val run_move rfl rfl ?_
                    refine WL.val run_move rfl rfl ?_
                    refine WL.dec (run_gtr rfl rfl) rfl rfl (fun c69 => ?_) (fun c69 => ?_)
                    · skip
                      refine WL.val run_move rfl rfl ?_
                      refine WL.val (run_fieldAddr 2 Try.underlying40 rfl Try.sizeOf3 rfl rfl) rfl rfl ?_
                      refine WL.val (run_load1 Try.isAgg3 rfl (h.cellB rfl)) rfl rfl ?_
                      refine WL.val run_move rfl rfl ?_
                      refine WL.dec (run_lss rfl rfl) rfl rfl (fun c74 => ?_) (fun c74 => ?_)
                      · skip
                        refine WL.val (run_pickT rfl) rfl rfl ?_
                        refine WL.val (run_pickF rfl) rfl rfl ?_
                        refine WL.val run_move rfl rfl ?_
                        refine WL.skip rfl rfl ?_
                        refine WL.skip rfl rfl ?_
                        refine WL.skip rfl rfl ?_
                        refine WL.skip rfl rfl ?_
                        refine WL.skip rfl rfl ?_
                        refine WL.val (run_pickT rfl) rfl rfl ?_
                        refine WL.val run_assign rfl rfl ?_
                        refine WL.nil ?_
                        refine W.condT rfl ?_
                        refine W.region ?_
                        refine WL.val run_assign rfl rfl ?_
                        refine WL.nil ?_
                        -- to the cut, path TLTFFTT
                        exact ⟨_, b16, b17, _, (okC_bad (hisT (by simpa using c27)) (.inr (.inl ⟨by rw [hkl2]; omega, c74⟩))).symm, mkE_of ⟨rfl, rfl, rfl, rfl, rfl, rfl, rfl, rfl, rfl, rfl, rfl, rfl, trivial⟩, h.to⟩
                      · skip
                        refine WL.val (run_pickT rfl) rfl rfl ?_
                        refine WL.val (run_pickF rfl) rfl rfl ?_
                        refine WL.val run_move rfl rfl ?_
                        refine WL.val (run_fieldAddr 2 Try.underlying40 rfl Try.sizeOf3 rfl rfl) rfl rfl ?_
                        refine WL.val (run_load1 Try.isAgg3 rfl (h.cellB rfl)) rfl rfl ?_
                        refine WL.val (run_fieldAddr 10 Try.underlying28 rfl Try.sizeOf3 rfl rfl) rfl rfl ?_
                        refine WL.val (run_load1 Try.isAgg3 rfl (h.cellB rfl)) rfl rfl ?_
                        refine WL.dec (run_lss rfl rfl) rfl rfl (fun c82 => ?_) (fun c82 => ?_)
                        · skip
                          refine WL.val (run_pickF rfl) rfl rfl ?_
                          refine WL.val run_assign rfl rfl ?_
                          refine WL.nil ?_
                          refine W.condT rfl ?_
                          refine W.region ?_
                          refine WL.val run_assign rfl rfl ?_
                          refine WL.nil ?_
                          -- to the cut, path TLTFFTFT
                          exact ⟨_, b16, b17, _, (okC_bad (hisT (by simpa using c27)) (.inr (.inr c82))).symm, mkE_of ⟨rfl, rfl, rfl, rfl, rfl, rfl, rfl, rfl, rfl, rfl, rfl, rfl, trivial⟩, h.to⟩
                        · skip
                          refine WL.val (run_pickF rfl) rfl rfl ?_
                          refine WL.val run_assign rfl rfl ?_
                          refine WL.nil ?_
                          refine W.condF rfl ?_
                          refine W.skip ?_
                          -- to the cut, path TLTFFTFF
                          exact ⟨_, b16, b17, _, (okC_good (hisT (by simpa using c27)) (fun hx => by rcases hx with hx | hx | hx; exact of_decide_eq_false (htw.symm.trans c66) hx; exact c74 hx.2; exact c82 hx)).symm, mkE_of ⟨rfl, rfl, rfl, rfl, rfl, rfl, rfl, rfl, rfl, rfl, rfl, rfl, trivial⟩, h.to⟩
                    · skip
                      refine WL.val run_move rfl rfl ?_
                      refine WL.skip rfl rfl ?_
                      refine WL.skip rfl rfl ?_
                      refine WL.skip rfl rfl ?_
                      refine WL.skip rfl rfl ?_
                      refine WL.val (run_pickF rfl) rfl rfl ?_
                      refine WL.val (run_pickF rfl) rfl rfl ?_
                      refine WL.val run_move rfl rfl ?_
                      refine WL.val (run_fieldAddr 2 Try.underlying40 rfl Try.sizeOf3 rfl rfl) rfl rfl ?_
                      refine WL.val (run_load1 Try.isAgg3 rfl (h.cellB rfl)) rfl rfl ?_
                      refine WL.val (run_fieldAddr 10 Try.underlying28 rfl Try.sizeOf3 rfl rfl) rfl rfl ?_
                      refine WL.val (run_load1 Try.isAgg3 rfl (h.cellB rfl)) rfl rfl ?_
                      refine WL.dec (run_lss rfl rfl) rfl rfl (fun c82 => ?_) (fun c82 => ?_)
                      · skip
                        refine WL.val (run_pickF rfl) rfl rfl ?_
                        refine WL.val run_assign rfl rfl ?_
                        refine WL.nil ?_
                        refine W.condT rfl ?_
                        refine W.region ?_
                        refine WL.val run_assign rfl rfl ?_
                        refine WL.nil ?_
                        -- to the cut, path TLTFFFT
                        exact ⟨_, b16, b17, _, (okC_bad (hisT (by simpa using c27)) (.inr (.inr c82))).symm, mkE_of ⟨rfl, rfl, rfl, rfl, rfl, rfl, rfl, rfl, rfl, rfl, rfl, rfl, trivial⟩, h.to⟩
                      · skip
                        refine WL.val (run_pickF rfl) rfl rfl ?_
                        refine WL.val run_assign rfl rfl ?_
                        refine WL.nil ?_
                        refine W.condF rfl ?_
                        refine W.skip ?_
                        -- to the cut, path TLTFFFF
                        exact ⟨_, b16, b17, _, (okC_good (hisT (by simpa using c27)) (fun hx => by rcases hx with hx | hx | hx; exact of_decide_eq_false (htw.symm.trans c66) hx; exact absurd hx.1 (by rw [hkl2]; omega); exact c82 hx)).symm, mkE_of ⟨rfl, rfl, rfl, rfl, rfl, rfl, rfl, rfl, rfl, rfl, rfl, rfl, trivial⟩, h.to⟩
              · clear h
                rintro env w ⟨j, b16, b17, e, he_, rfl, h⟩
                refine W.seq ?_
                refine W.seq ?_
                refine W.region ?_
                refine WL.val run_move rfl rfl ?_
                refine WL.val (run_neq rfl rfl) rfl rfl ?_
                refine WL.nil ?_
                refine W.condIf rfl (fun c34 => ?_) (fun c34 => ?_)
                · skip
                  refine W.seq ?_
                  refine W.region ?_
                  refine WL.val run_move rfl rfl ?_
                  refine WL.val run_assign rfl rfl ?_
                  refine WL.nil ?_
                  refine W.exit ?_
                  -- to the cut, path TLTT
                  rw [rowM_stop hq (by rw [← he_]; exact c34)] at hR
                  exact ⟨_, kvd, ckd, fun e0 => absurd e0 (by rw [← hR, ← he_]; exact c34), mkE_of ⟨rfl, rfl, (congrArg (fun z => Value.int .i64 z) (show e = (rowM ins row []).2 by rw [← hR]; exact he_)), (congrArg (fun z : Nat => Value.int .i64 (z : Int)) (show k = (rowM ins row []).1 by rw [← hR])), trivial⟩, h.to⟩
                · skip
                  refine W.skip ?_
                  refine W.seq ?_
                  refine W.region ?_
                  refine WL.val (run_fieldAddr 2 Try.underlying40 rfl Try.sizeOf3 rfl rfl) rfl rfl ?_
                  refine WL.val (run_load1 Try.isAgg3 rfl (h.cellB rfl)) rfl rfl ?_
                  refine WL.val run_assign rfl rfl ?_
                  refine WL.nil ?_
                  refine W.region ?_
                  refine WL.val run_move rfl rfl ?_
                  refine WL.val (run_loadB (vs := [.int .i64 _, .int .u64 _]) h Try.isAgg49 Try.sizeOf49 rfl rfl rfl) rfl rfl ?_
                  refine WL.val (run_loadB (vs := [.int .i64 _, .int .u64 _, .int .i64 _]) h Try.isAgg40 Try.sizeOf40 rfl rfl rfl) rfl rfl ?_
                  refine WL.eff (eff_mapUpdateS (p := (ch, cid)) (v := (⟨ch, cid, cat⟩ : CoX).val) nameKey (h.fetch (MapS bd .i64 .u64 kvd ckd)) Try.underlying63 rfl rfl rfl) rfl rfl ?_
                  rintro _ w h
                  have h : On W0 (MapS bd .i64 .u64 (putS kvd (⟨ch, cid, cat⟩ : CoX).nm (⟨ch, cid, cat⟩ : CoX).val ckd) (clockS kvd (⟨ch, cid, cat⟩ : CoX).nm ckd) :: _) w := h
                  refine WL.nil ?_
                  refine W.region ?_
                  refine WL.val (run_incN rfl rfl (by omega)) rfl rfl ?_
                  refine WL.val run_move rfl rfl ?_
                  refine WL.nil ?_
                  -- round, path TLTF
                  have ob_ : e = 0 := by omega
                  obtain rfl := ob_
                  have hz : okC ins (row.take k) (⟨ch, cid, cat⟩ : CoX) = 0 := he_.symm
                  exact ⟨k + 1, ⟨by omega, _, (putS kvd (⟨ch, cid, cat⟩ : CoX).nm (⟨ch, cid, cat⟩ : CoX).val ckd), (clockS kvd (⟨ch, cid, cat⟩ : CoX).nm ckd), mkE_of ⟨rfl, rfl, rfl, (by rw [Go.Sl.take_snoc hq, lastAt_snoc]; rfl), rfl, rfl, rfl, rfl, rfl, trivial⟩, by rw [Go.Sl.take_snoc hq]; exact spec_snoc (ck := ckd) hsd (okC_new hz), by rw [← rowM_step hq hz]; exact hR, h.to⟩, by show row.length - (k + 1) < row.length - k; omega⟩
        · skip
          refine W.exit ?_
          -- to the cut, path TLF
          have ob_ : k = row.length := by omega
          obtain rfl := ob_
          rw [List.take_length, List.drop_length] at hR
          rw [List.take_length] at hsd
          exact ⟨_, kvd, ckd, fun _ => hsd, mkE_of ⟨rfl, rfl, (congrArg (fun z => Value.int .i64 z) (show (0 : Int) = (rowM ins row []).2 by rw [← hR]; rfl)), (congrArg (fun z : Nat => Value.int .i64 (z : Int)) (show 0 = (rowM ins row []).1 by rw [← hR]; rfl)), trivial⟩, h.to⟩
    · clear h
      rintro env w ⟨j, kvd, ckd, hsd0, rfl, h⟩
      refine W.seq ?_
      refine W.seq ?_
      refine W.region ?_
      refine WL.val run_move rfl rfl ?_
      refine WL.val (run_neq rfl rfl) rfl rfl ?_
      refine WL.nil ?_
      refine W.condIf rfl (fun c42 => ?_) (fun c42 => ?_)
      · skip
        refine W.seq ?_
        refine W.region ?_
        refine WL.val run_move rfl rfl ?_
        refine WL.val run_move rfl rfl ?_
        refine WL.val run_assign rfl rfl ?_
        refine WL.val run_assign rfl rfl ?_
        refine WL.nil ?_
        refine W.ret ?_
        refine bodyQ.r2 (v1 := .int .i64 _) (v2 := .int .i64 _) Try.results7 rfl rfl ?_
        -- path TT
        have hom : orderM ins row out = (rowM ins row []) := by unfold orderM; rw [if_neg c42]
        rw [hom]
        exact .inl ⟨hnd, rfl, h.to⟩
      · skip
        have hR0 : (rowM ins row []).2 = 0 := by omega
        have hsd := hsd0 hR0
        have hom : orderM ins row out = (outM row out []) := by unfold orderM; rw [if_pos hR0]
        refine W.skip ?_
        refine W.seq ?_
        refine W.region ?_
        refine WL.eff (eff_makeMapS .i64 .u64 h) rfl rfl ?_
        rintro _ w ⟨bh, rfl, h⟩
        refine WL.val run_assign rfl rfl ?_
        refine WL.nil ?_
        refine W.seq ?_
        refine W.label ?_
        refine W.seq ?_
        refine W.seq ?_
        refine W.region ?_
        refine WL.val run_move rfl rfl ?_
        refine WL.val (run_lenSlice Try.underlying34 rfl) rfl rfl ?_
        refine WL.val run_move rfl rfl ?_
        refine WL.nil ?_
        refine W.block ?_
        refine W.loop (fun (k : Nat) env w => k ≤ out.length ∧ ∃ (j : Env) (kvh : List KS) (ckh : Nat), env = mkE j [(11, .map (some bd)), (13, .int .i64 0), (14, .int .i64 0), (22, .map (some bh)), (98, .slice ao out.length co), (99, .int .i64 (out.length : Int)), (100, .int .i64 (k : Int))] ∧ SpecH kvh (out.take k) ∧ outM row (out.drop k) (out.take k) = (outM row out []) ∧ On W0 (MapS bh .i64 .u64 kvh ckh :: MapS bd .i64 .u64 kvd ckd :: L) w) (fun k => out.length - k) (0) ?_ ?_
        · have hRv : ((rowM ins row [])).2 = 0 ∧ ((rowM ins row [])).1 = 0 := rowM_zero hR0
          exact ⟨Nat.zero_le _, _, [], 0, mkE_of ⟨rfl, congrArg (Value.int .i64) hRv.1, congrArg (fun z : Nat => Value.int .i64 (z : Int)) hRv.2, rfl, rfl, rfl, rfl, trivial⟩, specH_nil, rfl, h.to⟩
        · clear h
          rintro k env w ⟨hk, j, kvh, ckh, rfl, hsh, hX, h⟩
          refine W.seq ?_
          refine W.region ?_
          refine WL.val (run_lss rfl rfl) rfl rfl ?_
          refine WL.nil ?_
          refine W.seq ?_
          refine W.condIf rfl (fun c52 => ?_) (fun c52 => ?_)
          · skip
            refine W.skip ?_
            refine W.seq ?_
            have hkl : k < out.length := by omega
            have ad_ := (h.readsTo CO).addr (by omega)
            obtain ⟨bo, oo, hal_⟩ := ad_
            subst hal_
            have ex_ : ∃ a, out[k]? = some a := ⟨out[k], by simp⟩
            obtain ⟨⟨oh, oid, ost, oky, oco, oax, oac, obs, oin, oat⟩, hq⟩ := ex_
            have hrow := drop_flatMap OuX.cells 8 OuX.cells_length out _ _ hq
            refine W.block ?_
            refine W.seq ?_
            refine W.region ?_
            refine WL.val run_move rfl rfl ?_
            refine WL.val (run_indexAddr Try.underlying34 Try.sizeOf33 rfl rfl (by omega) (by omega)) rfl rfl ?_
            refine WL.val (run_loadN Try.isAgg33 Try.sizeOf33 rfl rfl ((h.readsTo CO).elem (i := k) (vs := [.int .i64 oh, .int .u64 oid, .int .i64 ost, .int .i64 oky, .int .i64 oco, .slice oax obs.length oac, .int .i64 oin, .int .i64 oat]) hkl hrow)) rfl rfl ?_
            refine WL.eff (eff_alloc h Try.zeroValue33 rfl) rfl rfl ?_
            rintro _ w ⟨b24, rfl, h⟩
            refine WL.val run_assign rfl rfl ?_
            refine WL.eff (eff_storeN (vs := [.int .i64 _, .int .u64 _, .int .i64 _, .int .i64 _, .int .i64 _, .slice _ _ _, .int .i64 _, .int .i64 _]) h Try.sizeOf33 rfl rfl rfl rfl rfl (fun k _ _ => free0 k)) rfl rfl ?_
            rintro _ w h
            try simp only [splice, List.take_zero, List.take_succ_cons, List.take_nil, List.drop_succ_cons, List.drop_zero, List.drop_nil, List.nil_append, List.cons_append, List.append_nil, List.length_cons, List.length_nil, Nat.zero_add, Nat.reduceAdd] at h
            refine WL.nil ?_
            refine W.seq ?_
            refine W.region ?_
            refine WL.val (run_fieldAddr 0 Try.underlying33 rfl Try.sizeOf3 rfl rfl) rfl rfl ?_
            refine WL.val (run_load1 Try.isAgg3 rfl (h.cellB rfl)) rfl rfl ?_
            refine WL.val (run_fieldAddr 1 Try.underlying33 rfl Try.sizeOf24 rfl rfl) rfl rfl ?_
            refine WL.val (run_load1 Try.isAgg24 rfl (h.cellB rfl)) rfl rfl ?_
            refine WL.val (run_buildS (pl := [(0, 1), (1, 1)]) (out := [.int .i64 _, .int .u64 _]) Try.underlying49 Try.zeroValue49 (fun w => by kernel_rfl) rfl (⟨⟨_, _, rfl, rfl, by decide⟩, ⟨⟨_, _, rfl, rfl, by decide⟩, trivial⟩⟩) rfl) rfl rfl ?_
            refine WL.eff (eff_alloc h Try.zeroValue49 rfl) rfl rfl ?_
            rintro _ w ⟨b25, rfl, h⟩
            refine WL.eff (eff_storeN (vs := [.int .i64 _, .int .u64 _]) h Try.sizeOf49 rfl rfl rfl rfl rfl (fun k _ _ => free0 k)) rfl rfl ?_
            rintro _ w h
            try simp only [splice, List.take_zero, List.take_succ_cons, List.take_nil, List.drop_succ_cons, List.drop_zero, List.drop_nil, List.nil_append, List.cons_append, List.append_nil, List.length_cons, List.length_nil, Nat.zero_add, Nat.reduceAdd] at h
            refine WL.nil ?_
            refine W.cut (fun env w => ∃ (j : Env) (b24 b25 b26 : Nat) (is : Bool) (yv : CoX), (is = true → findN CoX.nm row (oh, oid) = some yv) ∧ (is = false → (oh, oid) ∉ row.map CoX.nm) ∧ env = mkE j [(11, .map (some bd)), (14, .int .i64 0), (22, .map (some bh)), (98, .slice (some ⟨bo, oo, none⟩) out.length co), (99, .int .i64 (out.length : Int)), (100, .int .i64 (k : Int)), (23, .int .i64 (k : Int)), (24, .pointer (some ⟨b24, 0, none⟩)), (25, .pointer (some ⟨b25, 0, none⟩)), (13, .int .i64 0), (26, .pointer (some ⟨b26, 0, none⟩)), (27, .bool is)] ∧ On W0 (blk b26 yv.cells 40 :: blk b24 [.int .i64 oh, .int .u64 oid, .int .i64 ost, .int .i64 oky, .int .i64 oco, .slice oax obs.length oac, .int .i64 oin, .int .i64 oat] 33 :: blk b25 [.int .i64 oh, .int .u64 oid] 49 :: MapS bh .i64 .u64 kvh ckh :: MapS bd .i64 .u64 kvd ckd :: L) w) ?_ ?_
            · skip
              refine W.region ?_
              refine WL.val run_move rfl rfl ?_
              refine WL.val (run_loadB (vs := [.int .i64 _, .int .u64 _]) h Try.isAgg49 Try.sizeOf49 rfl rfl rfl) rfl rfl ?_
              have hks_ := (On.mapSC (h.fetch (MapS bd .i64 .u64 kvd ckd))).2
              have hcs_ := Classical.em ((oh, oid) ∈ (row).map CoX.nm)
              rcases hcs_ with hin | hin
              have fm_ := findN_mem hin
              obtain ⟨⟨dh, did, dat⟩, hf⟩ := fm_
              refine WL.val (run_lookupSOk (p := (oh, oid)) (v := (⟨dh, did, dat⟩ : CoX).val) (o := true) nameKey hks_ Try.underlying63 Try.zeroValue40 rfl rfl (by rw [hsd, hf]; rfl) (by rw [hsd, hf]; rfl)) rfl rfl ?_
              rotate_left
              refine WL.val (run_lookupSOk (p := (oh, oid)) (v := .agg #[.int .i64 0, .int .u64 0, .int .i64 0]) (o := false) nameKey hks_ Try.underlying63 Try.zeroValue40 rfl rfl (by rw [hsd, findN_none.2 hin]; rfl) (by rw [hsd, findN_none.2 hin]; rfl)) rfl rfl ?_
              rotate_left
              · skip
                refine WL.val run_move rfl rfl ?_
                refine WL.val (run_extract rfl rfl) rfl rfl ?_
                refine WL.val (run_extract rfl rfl) rfl rfl ?_
                refine WL.eff (eff_alloc h Try.zeroValue40 rfl) rfl rfl ?_
                rintro _ w ⟨b26, rfl, h⟩
                refine WL.eff (eff_storeN (vs := [.int .i64 _, .int .u64 _, .int .i64 _]) h Try.sizeOf40 rfl rfl rfl rfl rfl (fun k _ _ => free0 k)) rfl rfl ?_
                rintro _ w h
                try simp only [splice, List.take_zero, List.take_succ_cons, List.take_nil, List.drop_succ_cons, List.drop_zero, List.drop_nil, List.nil_append, List.cons_append, List.append_nil, List.length_cons, List.length_nil, Nat.zero_add, Nat.reduceAdd] at h
                refine WL.val run_assign rfl rfl ?_
                refine WL.nil ?_
                -- to the cut, path TFLTT
                have h : On W0 (blk b26 ((⟨dh, did, dat⟩ : CoX)).cells 40 :: _) w := h
                exact ⟨_, b24, b25, b26, true, (⟨dh, did, dat⟩ : CoX), (fun _ => hf), (fun e => by cases e), mkE_of ⟨rfl, rfl, rfl, rfl, rfl, rfl, rfl, rfl, rfl, rfl, rfl, rfl, trivial⟩, h.to⟩
              · skip
                refine WL.val run_move rfl rfl ?_
                refine WL.val (run_extract rfl rfl) rfl rfl ?_
                refine WL.val (run_extract rfl rfl) rfl rfl ?_
                refine WL.eff (eff_alloc h Try.zeroValue40 rfl) rfl rfl ?_
                rintro _ w ⟨b26, rfl, h⟩
                refine WL.eff (eff_storeN (vs := [.int .i64 _, .int .u64 _, .int .i64 _]) h Try.sizeOf40 rfl rfl rfl rfl rfl (fun k _ _ => free0 k)) rfl rfl ?_
                rintro _ w h
                try simp only [splice, List.take_zero, List.take_succ_cons, List.take_nil, List.drop_succ_cons, List.drop_zero, List.drop_nil, List.nil_append, List.cons_append, List.append_nil, List.length_cons, List.length_nil, Nat.zero_add, Nat.reduceAdd] at h
                refine WL.val run_assign rfl rfl ?_
                refine WL.nil ?_
                -- to the cut, path TFLTF
                have h : On W0 (blk b26 ((⟨0, 0, 0⟩ : CoX)).cells 40 :: _) w := h
                exact ⟨_, b24, b25, b26, false, (⟨0, 0, 0⟩ : CoX), (fun e => by cases e), (fun _ => hin), mkE_of ⟨rfl, rfl, rfl, rfl, rfl, rfl, rfl, rfl, rfl, rfl, rfl, rfl, trivial⟩, h.to⟩
            · clear h
              rintro env w ⟨j, b24, b25, b26, is, ⟨dh, did, dat⟩, hisT, hisF, rfl, h⟩
              refine W.cut (fun env w => ∃ (j : Env) (b24 b25 : Nat) (e : Int), e = okO row (out.take k) (⟨oh, oid, ost, oky, oco, oax, oac, obs, oin, oat⟩ : OuX) ∧ env = mkE j [(11, .map (some bd)), (14, .int .i64 0), (22, .map (some bh)), (98, .slice (some ⟨bo, oo, none⟩) out.length co), (99, .int .i64 (out.length : Int)), (100, .int .i64 (k : Int)), (23, .int .i64 (k : Int)), (24, .pointer (some ⟨b24, 0, none⟩)), (25, .pointer (some ⟨b25, 0, none⟩)), (13, .int .i64 e)] ∧ On W0 (blk b24 [.int .i64 oh, .int .u64 oid, .int .i64 ost, .int .i64 oky, .int .i64 oco, .slice oax obs.length oac, .int .i64 oin, .int .i64 oat] 33 :: blk b25 [.int .i64 oh, .int .u64 oid] 49 :: MapS bh .i64 .u64 kvh ckh :: MapS bd .i64 .u64 kvd ckd :: L) w) ?_ ?_
              · skip
                refine W.block ?_
                refine W.seq ?_
                refine W.region ?_
                refine WL.val run_move rfl rfl ?_
                refine WL.val (run_not rfl) rfl rfl ?_
                refine WL.val run_assign rfl rfl ?_
                refine WL.nil ?_
                refine W.condB rfl (fun c61 => ?_) (fun c61 => ?_)
                · skip
                  refine W.region ?_
                  refine WL.val run_assign rfl rfl ?_
                  refine WL.nil ?_
                  -- to the cut, path TFLTT
                  exact ⟨_, b24, b25, _, (okO_none (hisF (by simpa using c61))).symm, mkE_of ⟨rfl, rfl, rfl, rfl, rfl, rfl, rfl, rfl, rfl, rfl, trivial⟩, h.to⟩
                · skip
                  refine W.seq ?_
                  refine W.region ?_
                  refine WL.val run_move rfl rfl ?_
                  refine WL.val (run_loadB (vs := [.int .i64 _, .int .u64 _]) h Try.isAgg49 Try.sizeOf49 rfl rfl rfl) rfl rfl ?_
                  have hks_ := (On.mapSC (h.fetch (MapS bh .i64 .u64 kvh ckh))).2
                  refine WL.val (run_lookupS (p := (oh, oid)) nameKey hks_ Try.underlying65 Try.zeroValue4 rfl rfl (specH_get hsh (oh, oid))) rfl rfl ?_
                  refine WL.dec run_move rfl rfl (fun c123 => ?_) (fun c123 => ?_)
                  · skip
                    refine WL.skip rfl rfl ?_
                    refine WL.skip rfl rfl ?_
                    refine WL.skip rfl rfl ?_
                    refine WL.skip rfl rfl ?_
                    refine WL.skip rfl rfl ?_
                    refine WL.val (run_pickT rfl) rfl rfl ?_
                    refine WL.val run_assign rfl rfl ?_
                    refine WL.nil ?_
                    refine W.condT rfl ?_
                    refine W.region ?_
                    refine WL.val run_assign rfl rfl ?_
                    refine WL.nil ?_
                    -- to the cut, path TFLTFT
                    exact ⟨_, b24, b25, _, (okO_bad (hisT (by simpa using c61)) (.inl c123)).symm, mkE_of ⟨rfl, rfl, rfl, rfl, rfl, rfl, rfl, rfl, rfl, rfl, trivial⟩, h.to⟩
                  · skip
                    refine WL.val (run_fieldAddr 7 Try.underlying33 rfl Try.sizeOf3 rfl rfl) rfl rfl ?_
                    refine WL.val (run_load1 Try.isAgg3 rfl (h.cellB rfl)) rfl rfl ?_
                    refine WL.val (run_fieldAddr 2 Try.underlying40 rfl Try.sizeOf3 rfl rfl) rfl rfl ?_
                    refine WL.val (run_load1 Try.isAgg3 rfl (h.cellB rfl)) rfl rfl ?_
                    refine WL.dec (run_lss rfl rfl) rfl rfl (fun c128 => ?_) (fun c128 => ?_)
                    · skip
                      refine WL.val (run_pickF rfl) rfl rfl ?_
                      refine WL.val run_assign rfl rfl ?_
                      refine WL.nil ?_
                      refine W.condT rfl ?_
                      refine W.region ?_
                      refine WL.val run_assign rfl rfl ?_
                      refine WL.nil ?_
                      -- to the cut, path TFLTFFT
                      exact ⟨_, b24, b25, _, (okO_bad (hisT (by simpa using c61)) (.inr c128)).symm, mkE_of ⟨rfl, rfl, rfl, rfl, rfl, rfl, rfl, rfl, rfl, rfl, trivial⟩, h.to⟩
                    · skip
                      refine WL.val (run_pickF rfl) rfl rfl ?_
                      refine WL.val run_assign rfl rfl ?_
                      refine WL.nil ?_
                      refine W.condF rfl ?_
                      refine W.skip ?_
                      -- to the cut, path TFLTFFF
                      exact ⟨_, b24, b25, _, (okO_good (hisT (by simpa using c61)) (fun hx => by rcases hx with hx | hx; exact c123 hx; exact c128 hx)).symm, mkE_of ⟨rfl, rfl, rfl, rfl, rfl, rfl, rfl, rfl, rfl, rfl, trivial⟩, h.to⟩
              · clear h
                rintro env w ⟨j, b24, b25, e, he_, rfl, h⟩
                refine W.seq ?_
                refine W.seq ?_
                refine W.region ?_
                refine WL.val run_move rfl rfl ?_
                refine WL.val (run_neq rfl rfl) rfl rfl ?_
                refine WL.nil ?_
                refine W.condIf rfl (fun c68 => ?_) (fun c68 => ?_)
                · skip
                  refine W.seq ?_
                  refine W.region ?_
                  refine WL.val run_move rfl rfl ?_
                  refine WL.val run_assign rfl rfl ?_
                  refine WL.nil ?_
                  refine W.exit ?_
                  refine W.seq ?_
                  refine W.region ?_
                  refine WL.val run_move rfl rfl ?_
                  refine WL.val run_move rfl rfl ?_
                  refine WL.val run_assign rfl rfl ?_
                  refine WL.val run_assign rfl rfl ?_
                  refine WL.nil ?_
                  refine W.ret ?_
                  refine bodyQ.r2 (v1 := .int .i64 _) (v2 := .int .i64 _) Try.results7 rfl rfl ?_
                  -- path TFLTT
                  rw [outM_stop hq (by rw [← he_]; exact c68)] at hX
                  rw [hom, ← hX, ← he_]
                  exact .inl ⟨hnd, rfl, h.to⟩
                · skip
                  refine W.skip ?_
                  refine W.region ?_
                  refine WL.val run_move rfl rfl ?_
                  refine WL.val (run_loadB (vs := [.int .i64 _, .int .u64 _]) h Try.isAgg49 Try.sizeOf49 rfl rfl rfl) rfl rfl ?_
                  refine WL.eff (eff_mapUpdateS (p := (oh, oid)) (v := .bool true) nameKey (h.fetch (MapS bh .i64 .u64 kvh ckh)) Try.underlying65 rfl rfl rfl) rfl rfl ?_
                  rintro _ w h
                  have h : On W0 (MapS bh .i64 .u64 (putS kvh (⟨oh, oid, ost, oky, oco, oax, oac, obs, oin, oat⟩ : OuX).nm (.bool true) ckh) (clockS kvh (⟨oh, oid, ost, oky, oco, oax, oac, obs, oin, oat⟩ : OuX).nm ckh) :: _) w := h
                  refine WL.nil ?_
                  refine W.region ?_
                  refine WL.val (run_incN rfl rfl (by omega)) rfl rfl ?_
                  refine WL.val run_move rfl rfl ?_
                  refine WL.nil ?_
                  -- round, path TFLTF
                  have ob_ : e = 0 := by omega
                  obtain rfl := ob_
                  have hz : okO row (out.take k) (⟨oh, oid, ost, oky, oco, oax, oac, obs, oin, oat⟩ : OuX) = 0 := he_.symm
                  exact ⟨k + 1, ⟨by omega, _, (putS kvh (⟨oh, oid, ost, oky, oco, oax, oac, obs, oin, oat⟩ : OuX).nm (.bool true) ckh), (clockS kvh (⟨oh, oid, ost, oky, oco, oax, oac, obs, oin, oat⟩ : OuX).nm ckh), mkE_of ⟨rfl, rfl, rfl, rfl, rfl, rfl, rfl, trivial⟩, by rw [Go.Sl.take_snoc hq]; exact specH_snoc (ck := ckh) hsh, by rw [← outM_step hq hz]; exact hX, h.to⟩, by show out.length - (k + 1) < out.length - k; omega⟩
          · skip
            refine W.exit ?_
            refine W.seq ?_
            refine W.region ?_
            refine WL.val run_move rfl rfl ?_
            refine WL.val run_move rfl rfl ?_
            refine WL.val run_assign rfl rfl ?_
            refine WL.val run_assign rfl rfl ?_
            refine WL.nil ?_
            refine W.ret ?_
            refine bodyQ.r2 (v1 := .int .i64 _) (v2 := .int .i64 _) Try.results7 rfl rfl ?_
            -- path TFLF
            have ob_ : k = out.length := by omega
            obtain rfl := ob_
            rw [List.take_length, List.drop_length] at hX
            rw [hom, ← hX]
            exact .inl ⟨hnd, rfl, h.to⟩
  · skip
    refine WL.val run_move rfl rfl ?_
    refine WL.val (run_extract rfl rfl) rfl rfl ?_
    refine WL.val (run_extract rfl rfl) rfl rfl ?_
    refine WL.val (run_extract rfl rfl) rfl rfl ?_
    refine WL.val run_assign rfl rfl ?_
    refine WL.val run_assign rfl rfl ?_
    refine WL.val run_assign rfl rfl ?_
    refine WL.nil ?_
    refine W.seq ?_
    refine W.seq ?_
    refine W.region ?_
    refine WL.val run_move rfl rfl ?_
    refine WL.val (run_not rfl) rfl rfl ?_
    refine WL.nil ?_
    refine W.condT rfl ?_
    refine W.seq ?_
    refine W.region ?_
    refine WL.val run_move rfl rfl ?_
    refine WL.val run_assign rfl rfl ?_
    refine WL.val run_assign rfl rfl ?_
    refine WL.nil ?_
    refine W.ret ?_
    refine bodyQ.r2 (v1 := .int .i64 _) (v2 := .int .i64 _) Try.results7 rfl rfl ?_
    -- path F
    exact .inr ⟨hnd, i, rfl, h⟩

end Go.Proofs.Ytdpakoefdpmebaa
