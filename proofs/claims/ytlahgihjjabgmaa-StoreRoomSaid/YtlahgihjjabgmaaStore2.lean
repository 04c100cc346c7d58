/-
  A store is opened, appended to, compacted: the contracts. Lines of walks printed by a program of the prover's.
-/
import Derived.Test.YtlahgihjjabgmaaStore
namespace Go.Proofs.Ytlahgihjjabgmaa
open Go Go.Sl Go.Sl.ByM Go.Sl.DkM Go.Sl.TwM Go.Sl.RgM Go.Sl.StM
set_option linter.unusedVariables false
set_option linter.unusedSimpArgs false
set_option maxHeartbeats 1000000
set_option maxRecDepth 8000
variable {W0 w : World} {L F : List HProp}

theorem sread_n {bs b bt w_ n : Nat} {hd : Hd} {vr sv lv : Value} {d : Dk} {s : List UInt8} (hnl : s.length = n) (hS : SnapOn d w_ s) (hw : w_ ≤ 1) (hsl : s.length ≤ 24576) (hs : stE d = 0) (hn : d.n = 354) (h : On W0 (blk bs [.pointer (some ⟨b, 0, none⟩), .pointer (some ⟨bt, 0, none⟩), vr, .int .u64 (hd.epoch : Int), .int .u32 (hd.life : Int), .int .i64 (hd.which : Int), .int .u64 (hd.base : Int), .int .i64 (hd.size : Int), .int .u64 (hd.first : Int), .int .i64 (hd.place : Int), sv, lv] 150 :: DiskP 106 110 b d :: L) w) : Calls Try.prog 100 #[.pointer (some ⟨bs, 0, none⟩), .int .i64 (w_ : Int), .int .i64 (n : Int)] w (Ret fun v w' => ∃ a, v = .tuple #[.slice a s.length s.length, .int .i64 0] ∧ On W0 (OwnB (.slice a s.length s.length) s :: blk bs [.pointer (some ⟨b, 0, none⟩), .pointer (some ⟨bt, 0, none⟩), vr, .int .u64 (hd.epoch : Int), .int .u32 (hd.life : Int), .int .i64 (hd.which : Int), .int .u64 (hd.base : Int), .int .i64 (hd.size : Int), .int .u64 (hd.first : Int), .int .i64 (hd.place : Int), sv, lv] 150 :: DiskP 106 110 b d :: L) w') := by
  subst hnl
  exact (sread_ok hS hw hsl hs hn h).mono fun e w' he => by
    obtain ⟨v, he, hv⟩ := he
    refine ⟨v, he, ?_⟩
    exact hv

theorem rtrim_at {br b : Nat} {g : Rg} {k f : Nat} (hf : g.first = f) (hk : k ≤ g.l.length) (h : On W0 (RingP 130 br b g :: L) w) : Calls Try.prog 42 #[.pointer (some ⟨br, 0, none⟩), .int .u64 ((f + k : Nat) : Int)] w (Ret fun v w' => v = .int .i64 0 ∧ On W0 (RingP 130 br b (trimN g k) :: L) w') := by
  subst hf
  exact (rtrim_ok hk h).mono fun e w' he => by
    obtain ⟨v, he, hv⟩ := he
    refine ⟨v, he, ?_⟩
    exact hv

theorem rfirst_at {br b : Nat} {g : Rg} {f p : Nat} (hf : g.first = f) (hp : rgWhere g = p) (h : On W0 (RingP 130 br b g :: L) w) : Calls Try.prog 41 #[.pointer (some ⟨br, 0, none⟩)] w (Ret fun v w' => v = .tuple #[.int .u64 (f : Int), .int .i64 (p : Int)] ∧ On W0 (RingP 130 br b g :: L) w') := by
  subst hf; subst hp
  exact (rfirst_ok h).mono fun e w' he => by
    obtain ⟨v, he, hv⟩ := he
    refine ⟨v, he, ?_⟩
    exact hv

theorem sopen_ok {b tn lvj : Nat} {d : Dk} {hd : Hd} {snap : List UInt8} {es : List En} (I : TwI d 0 tn (headB hd)) (o : hd.ok) (hp : hd.place < 256) (hsz : snap.length = hd.size) (hS : SnapOn d hd.which snap) (J : JI d hd.first hd.place lvj (es.map enB)) (hlv : lvj ≤ hd.life + 1) (hE : ∀ (j : Nat) (e : En), es[j]? = some e → e.idx = hd.base + 1 + j ∧ e.ep < 256 ^ 8 ∧ e.data.length ≤ 2048) (hn : d.n = 354) (hfi : hd.first ≤ 4000000000000000000) (hb : hd.base + es.length < 9000000000000000000) (hlf : hd.life + 1 < 4294967296) (htn : tn + 1 < 256 ^ 8) (hlow : d.calls ≤ 1000000000) (h : On W0 (DiskP 106 110 b d :: L) w) : Calls Try.prog 56 #[.pointer (some ⟨b, 0, none⟩)] w (Ret fun v w' => ∃ bs bt br, v = .tuple #[.pointer (some ⟨bs, 0, none⟩), .int .i64 0] ∧ On W0 (StoreP 150 bs b bt br { hd with life := hd.life + 1 } snap es :: TwinP 126 bt b 0 (tn + 1) (headB { hd with life := hd.life + 1 }) :: RingP 130 br b (rgF (g0R 98 256 hd.first hd.place (hd.life + 1)) (es.map enB)) :: DiskP 106 110 b (putT d 0 tn (headB { hd with life := hd.life + 1 })).2 :: L) w') := by
  refine enter Try.func56 rfl Try.ntmps56 rfl ?_
  have o2 := o
  obtain ⟨o_1, o_2, o_3, o_4, o_5, o_6, o_7⟩ := o2
  have hpa := put_all (v2 := headB { hd with life := hd.life + 1 }) I htn (by rw [headB_length]; decide)
  obtain ⟨e3, l3, f3, n3, c3, T3, r3⟩ := hpa
  have on : ({ hd with life := hd.life + 1 } : Hd).ok := ⟨o_1, hlf, o_3, o_4, o_5, o_6, o_7⟩
  refine W.seq ?_
  refine W.region ?_
  refine WL.val run_assign rfl rfl ?_
  refine WL.val run_assign rfl rfl ?_
  refine WL.nil ?_
  refine W.seq ?_
  refine W.seq ?_
  refine W.region ?_
  refine WL.val run_move rfl rfl ?_
  refine WL.eff (eff_call Try.call63 (sectors_ok h)) rfl rfl ?_
  rintro _ w ⟨rfl, h⟩
  refine WL.val (run_lssF rfl rfl (by rw [hn]; decide)) rfl rfl ?_
  refine WL.nil ?_
  refine W.condF rfl ?_
  refine W.skip ?_
  refine W.seq ?_
  refine W.region ?_
  refine WL.val run_move rfl rfl ?_
  refine WL.eff (eff_call Try.call29 (open_found I (by omega) h)) rfl rfl ?_
  rintro _ w ⟨bt, rfl, h⟩
  refine WL.val run_move rfl rfl ?_
  refine WL.val (run_extract rfl rfl) rfl rfl ?_
  refine WL.val (run_extract rfl rfl) rfl rfl ?_
  refine WL.val run_assign rfl rfl ?_
  refine WL.val run_assign rfl rfl ?_
  refine WL.nil ?_
  refine W.seq ?_
  refine W.seq ?_
  refine W.region ?_
  refine WL.val run_move rfl rfl ?_
  refine WL.val (run_neqF rfl rfl (rfl)) rfl rfl ?_
  refine WL.nil ?_
  refine W.condF rfl ?_
  refine W.skip ?_
  refine W.seq ?_
  refine W.region ?_
  refine WL.val run_move rfl rfl ?_
  refine WL.eff (eff_call Try.call32 (value_ok (bt := bt) (number := tn) (at_ := 0) (value := headB hd) (by rw [headB_length]; decide) h)) rfl rfl ?_
  rintro _ w ⟨a24, rfl, h⟩
  refine WL.eff (eff_call Try.call97 (parse_ok (hd := hd) o rfl h (Gives.ownO (v := .slice a24 (headB hd).length (headB hd).length)))) rfl rfl ?_
  rintro _ w ⟨rfl, h⟩
  refine WL.val run_move rfl rfl ?_
  refine WL.val (run_extract rfl rfl) rfl rfl ?_
  refine WL.val (run_extract rfl rfl) rfl rfl ?_
  refine WL.eff (eff_alloc h Try.zeroValue144 rfl) rfl rfl ?_
  rintro _ w ⟨b6, rfl, h⟩
  refine WL.eff (eff_storeN (vs := [.int .u64 _, .int .u32 _, .int .i64 _, .int .u64 _, .int .i64 _, .int .u64 _, .int .i64 _]) h Try.sizeOf144 rfl rfl rfl rfl rfl (fun k _ _ => free0 k)) rfl rfl ?_
  rintro _ w h
  try simp only [splice, List.take_zero, List.take_succ_cons, List.take_nil, List.drop_succ_cons, List.drop_zero, List.drop_nil, List.nil_append, List.cons_append, List.append_nil, List.length_cons, List.length_nil, Nat.zero_add, Nat.reduceAdd] at h
  refine WL.val run_assign rfl rfl ?_
  refine WL.nil ?_
  refine W.seq ?_
  refine W.seq ?_
  refine W.region ?_
  refine WL.val run_move rfl rfl ?_
  refine WL.val (run_not rfl) rfl rfl ?_
  refine WL.nil ?_
  refine W.condF rfl ?_
  refine W.skip ?_
  refine W.seq ?_
  refine W.region ?_
  refine WL.val run_move rfl rfl ?_
  refine WL.val run_move rfl rfl ?_
  refine WL.val (run_loadB (vs := [.int .u64 _, .int .u32 _, .int .i64 _, .int .u64 _, .int .i64 _, .int .u64 _, .int .i64 _]) h Try.isAgg144 Try.sizeOf144 rfl rfl rfl) rfl rfl ?_
  refine WL.val (run_buildS (pl := [(0, 1), (1, 1), (2, 1), (3, 7), (10, 1), (11, 1)]) (out := [.pointer _, .pointer _, .pointer _, .int .u64 _, .int .u32 _, .int .i64 _, .int .u64 _, .int .i64 _, .int .u64 _, .int .i64 _, .slice _ _ _, .slice _ _ _]) Try.underlying150 Try.zeroValue150 (fun w => by kernel_rfl) rfl (⟨⟨_, _, rfl, rfl, by decide⟩, ⟨⟨_, _, rfl, rfl, by decide⟩, ⟨⟨_, _, rfl, rfl, by decide⟩, trivial⟩⟩⟩) rfl) rfl rfl ?_
  refine WL.eff (eff_box (v := .agg _) (l := [.pointer _, .pointer _, .pointer _, .int .u64 _, .int .u32 _, .int .i64 _, .int .u64 _, .int .i64 _, .int .u64 _, .int .i64 _, .slice _ _ _, .slice _ _ _]) h rfl rfl) rfl rfl ?_
  rintro _ w ⟨b34, rfl, h⟩
  refine WL.val run_assign rfl rfl ?_
  refine WL.nil ?_
  refine W.seq ?_
  refine W.seq ?_
  refine W.region ?_
  refine WL.val run_move rfl rfl ?_
  refine WL.val run_move rfl rfl ?_
  refine WL.val (run_fieldAddr 2 Try.underlying144 rfl Try.sizeOf3 rfl rfl) rfl rfl ?_
  refine WL.val (run_load1 Try.isAgg3 rfl (h.cellB rfl)) rfl rfl ?_
  refine WL.val (run_fieldAddr 4 Try.underlying144 rfl Try.sizeOf3 rfl rfl) rfl rfl ?_
  refine WL.val (run_load1 Try.isAgg3 rfl (h.cellB rfl)) rfl rfl ?_
  refine WL.eff (eff_call Try.call100 (sread_n (bs := b34) (bt := bt) (hd := hd) (vr := .pointer none) (sv := .slice none 0 0) (lv := .slice none 0 0) hsz hS o_3 (by omega) I.live.st hn ((h.fetch (DiskP 106 110 b d)).fetch (blk b34 [.pointer (some ⟨b, 0, none⟩), .pointer (some ⟨bt, 0, none⟩), .pointer none, .int .u64 (hd.epoch : Int), .int .u32 (hd.life : Int), .int .i64 (hd.which : Int), .int .u64 (hd.base : Int), .int .i64 (hd.size : Int), .int .u64 (hd.first : Int), .int .i64 (hd.place : Int), .slice none 0 0, .slice none 0 0] 150)))) rfl rfl ?_
  rintro _ w ⟨a42, rfl, h⟩
  refine WL.val run_move rfl rfl ?_
  refine WL.val (run_extract rfl rfl) rfl rfl ?_
  refine WL.val (run_extract rfl rfl) rfl rfl ?_
  refine WL.val (run_nilCheck rfl) rfl rfl ?_
  refine WL.val (run_fieldAddr 10 Try.underlying150 rfl Try.sizeOf22 rfl rfl) rfl rfl ?_
  refine WL.eff (eff_store (v := .slice _ _ _) h Try.sizeOf22 rfl rfl rfl rfl rfl) rfl rfl ?_
  rintro _ w h
  try simp only [Nat.zero_add, Nat.add_zero, List.set_cons_zero, List.set_cons_succ] at h
  refine WL.val run_assign rfl rfl ?_
  refine WL.nil ?_
  refine W.seq ?_
  refine W.region ?_
  refine WL.val run_move rfl rfl ?_
  refine WL.val (run_neqF rfl rfl (rfl)) rfl rfl ?_
  refine WL.nil ?_
  refine W.condF rfl ?_
  refine W.skip ?_
  refine W.seq ?_
  refine W.region ?_
  refine WL.val (run_fieldAddr 1 Try.underlying144 rfl Try.sizeOf59 rfl rfl) rfl rfl ?_
  refine WL.val (run_load1 Try.isAgg59 rfl (h.cellB rfl)) rfl rfl ?_
  refine WL.val (run_addK (k := .u32) (m := hd.life) (n := 1) rfl rfl (by show _ ≤ (4294967295 : Int); omega)) rfl rfl ?_
  refine WL.val (run_fieldAddr 1 Try.underlying144 rfl Try.sizeOf59 rfl rfl) rfl rfl ?_
  refine WL.eff (eff_store (v := .int .u32 _) h Try.sizeOf59 rfl rfl rfl rfl rfl) rfl rfl ?_
  rintro _ w h
  try simp only [Nat.zero_add, Nat.add_zero, List.set_cons_zero, List.set_cons_succ] at h
  refine WL.nil ?_
  refine W.seq ?_
  refine W.seq ?_
  refine W.region ?_
  refine WL.val run_move rfl rfl ?_
  refine WL.val (run_loadB (vs := [.int .u64 _, .int .u32 _, .int .i64 _, .int .u64 _, .int .i64 _, .int .u64 _, .int .i64 _]) h Try.isAgg144 Try.sizeOf144 rfl rfl rfl) rfl rfl ?_
  refine WL.eff (eff_call Try.call101 (sput_ok (bs := b34) (b := b) (bt := bt) (tn := tn) (hd := hd) (nh := { hd with life := hd.life + 1 }) (vr := .pointer none) (sv := .slice a42 snap.length snap.length) (lv := .slice none 0 0) (d := d) (val := headB hd) on I htn hlow (((h.fetch (DiskP 106 110 b d)).fetch (TwinP 126 bt b 0 tn (headB hd))).fetch (blk b34 [.pointer (some ⟨b, 0, none⟩), .pointer (some ⟨bt, 0, none⟩), .pointer none, .int .u64 (hd.epoch : Int), .int .u32 (hd.life : Int), .int .i64 (hd.which : Int), .int .u64 (hd.base : Int), .int .i64 (hd.size : Int), .int .u64 (hd.first : Int), .int .i64 (hd.place : Int), .slice a42 snap.length snap.length, .slice none 0 0] 150)))) rfl rfl ?_
  rintro _ w ⟨rfl, h⟩
  refine WL.val run_assign rfl rfl ?_
  refine WL.nil ?_
  refine W.seq ?_
  refine W.region ?_
  refine WL.val run_move rfl rfl ?_
  refine WL.val (run_neqF rfl rfl (rfl)) rfl rfl ?_
  refine WL.nil ?_
  refine W.condF rfl ?_
  refine W.skip ?_
  refine W.seq ?_
  refine W.seq ?_
  refine W.region ?_
  refine WL.val run_move rfl rfl ?_
  refine WL.eff (eff_call Try.call102 (sjournal_ok (bs := b34) (b := b) (bt := bt) (lvj := lvj) (hd := { hd with life := hd.life + 1 }) (vr := .pointer none) (sv := .slice a42 snap.length snap.length) (lv := .slice none 0 0) (d := (putT d 0 tn (headB { hd with life := hd.life + 1 })).2) (es := es) on hp hfi (J.same fun q hq => r3 _ (by omega)) hlv hE hb l3.st (n3.trans hn) ((h.fetch (DiskP 106 110 b (putT d 0 tn (headB { hd with life := hd.life + 1 })).2)).fetch (blk b34 [.pointer (some ⟨b, 0, none⟩), .pointer (some ⟨bt, 0, none⟩), .pointer none, .int .u64 ({ hd with life := hd.life + 1 }.epoch : Int), .int .u32 ({ hd with life := hd.life + 1 }.life : Int), .int .i64 ({ hd with life := hd.life + 1 }.which : Int), .int .u64 ({ hd with life := hd.life + 1 }.base : Int), .int .i64 ({ hd with life := hd.life + 1 }.size : Int), .int .u64 ({ hd with life := hd.life + 1 }.first : Int), .int .i64 ({ hd with life := hd.life + 1 }.place : Int), .slice a42 snap.length snap.length, .slice none 0 0] 150)))) rfl rfl ?_
  rintro _ w ⟨rfl, br, al, cl, ws, pool, hws, hpl, h⟩
  refine WL.val run_assign rfl rfl ?_
  refine WL.nil ?_
  refine W.seq ?_
  refine W.region ?_
  refine WL.val run_move rfl rfl ?_
  refine WL.val (run_neqF rfl rfl (rfl)) rfl rfl ?_
  refine WL.nil ?_
  refine W.condF rfl ?_
  refine W.skip ?_
  refine W.seq ?_
  refine W.region ?_
  refine WL.val run_move rfl rfl ?_
  refine WL.val run_assign rfl rfl ?_
  refine WL.val run_assign rfl rfl ?_
  refine WL.nil ?_
  refine W.ret ?_
  refine bodyQ.r2 (v1 := .pointer _) (v2 := .int .i64 _) Try.results56 rfl rfl ?_
  -- path 
  exact ⟨b34, bt, br, rfl, closeSt (a1 := a42) (c1 := snap.length) (a2 := al) (c2 := cl) hws hpl h.to⟩

theorem sappend_ok {bs b bt br tn : Nat} {d : Dk} {hd : Hd} {snap : List UInt8} {es : List En} {g : Rg} {e : En} {ax : Option Addr} {cx : Nat} (S : SI d hd tn snap es g) (hi : e.idx = hd.base + 1 + es.length) (hp : e.ep < 256 ^ 8) (hd2 : e.data.length ≤ 2048) (hroom : usedB (es.map enB) + needR (enB e).length ≤ 256) (hbb : hd.base + es.length < 4000000000000000000) (hfi : hd.first + es.length < 4500000000000000000) (hlow : d.calls ≤ 1000000000) (h : On W0 (StoreP 150 bs b bt br hd snap es :: RingP 130 br b g :: DiskP 106 110 b d :: L) w) (C : Gives L (Bytes (.slice ax e.data.length cx) e.data)) : Calls Try.prog 57 #[.pointer (some ⟨bs, 0, none⟩), .agg #[.int .u64 (e.idx : Int), .int .u64 (e.ep : Int), .slice ax e.data.length cx]] w (Ret fun v w' => v = .int .i64 0 ∧ On W0 (StoreP 150 bs b bt br hd snap (es ++ [e]) :: RingP 130 br b (keepR g (enB e)) :: DiskP 106 110 b (flushD (appD d 98 256 g.place g.next 2 (enB e) (needR (enB e).length))).2 :: L) w') := by
  refine enter Try.func57 rfl Try.ntmps57 rfl ?_
  have R_ := S.ri
  have hok := S.hok
  obtain ⟨ok1, ok2, ok3, ok4, ok5, ok6, ok7⟩ := hok
  have hmx := maxLen_eq
  have hml : (es.map enB).length = es.length := List.length_map ..
  have hul := len_used (lvs 2 (es.map enB))
  rw [lvs_used] at hul
  have hll : (lvs 2 (es.map enB)).length = es.length := by unfold lvs; rw [List.length_map, hml]
  have hle : es.length ≤ 256 := by have := S.ji.used; omega
  have hbl := enB_length e
  have r1 := R_.at_; have r2 := R_.n; have r3 := R_.first; have r4 := R_.life; have r5 := R_.used; have r6 := R_.len
  rw [hml] at r6
  have ob_ := openSt h
  obtain ⟨a1, c1, a2, c2, ws, pool, hws, hpl, h⟩ := ob_
  refine W.seq ?_
  refine W.region ?_
  refine WL.eff (eff_box (v := .agg _) (l := [.int .u64 (e.idx : Int), .int .u64 (e.ep : Int), .slice ax e.data.length cx]) h rfl rfl) rfl rfl ?_
  rintro _ w ⟨b3, rfl, h⟩
  refine WL.val run_assign rfl rfl ?_
  refine WL.nil ?_
  refine W.seq ?_
  refine W.seq ?_
  refine W.draw Try.follows h (fun w h => ?_)
  refine WT.pure 0 rfl (by kernel_rfl) (fun w' => (run_fieldAddr 0 Try.underlying96 rfl Try.sizeOf40 rfl rfl)) rfl rfl ?_
  refine WT.load1 1 rfl (by kernel_rfl) Try.isAgg40 rfl (h.cellB rfl) rfl rfl ?_
  refine WT.pure 2 rfl (by kernel_rfl) (fun w' => run_move) rfl rfl ?_
  refine WT.eff 3 [true] rfl (by kernel_rfl) (by kernel_rfl) (eff_call Try.call61 (slast_ok (bs := bs) (b := b) (bt := bt) (hd := hd) (vr := .pointer (some ⟨br, 0, none⟩)) (sv := .slice a1 snap.length c1) (a := a2) (n := es.length) (c := c2) (by omega) (by omega) (h.fetch (blk bs [.pointer (some ⟨b, 0, none⟩), .pointer (some ⟨bt, 0, none⟩), .pointer (some ⟨br, 0, none⟩), .int .u64 (hd.epoch : Int), .int .u32 (hd.life : Int), .int .i64 (hd.which : Int), .int .u64 (hd.base : Int), .int .i64 (hd.size : Int), .int .u64 (hd.first : Int), .int .i64 (hd.place : Int), .slice a1 snap.length c1, .slice a2 es.length c2] 150)))) rfl rfl ?_
  rintro _ w ⟨rfl, h⟩
  refine ⟨⟨h.cellB rfl, trivial⟩, ?_⟩
  refine WT.pure 4 rfl (by kernel_rfl) (fun w' => (run_addK (k := .u64) (m := hd.base + es.length) (n := 1) rfl rfl (Int.ofNat_le.2 (show _ ≤ 18446744073709551615 by omega)))) rfl rfl ?_
  refine WT.pure 5 rfl (by kernel_rfl) (fun w' => run_neqF rfl rfl (by rw [hi]; omega)) rfl rfl ?_
  refine WT.pure 6 rfl (by kernel_rfl) (fun w' => run_move) rfl rfl ?_
  refine WT.pure 7 rfl (by kernel_rfl) (fun w' => (run_fieldAddr 2 Try.underlying96 rfl Try.sizeOf22 rfl rfl)) rfl rfl ?_
  refine WT.load1 8 rfl (by kernel_rfl) Try.isAgg22 rfl (h.cellB rfl) rfl rfl ?_
  refine WT.pure 9 rfl (by kernel_rfl) (fun w' => (run_lenSlice Try.underlying22 rfl)) rfl rfl ?_
  refine WT.pure 10 rfl (by kernel_rfl) (fun w' => run_gtrF rfl rfl (by omega)) rfl rfl ?_
  refine WT.pure 11 rfl (by kernel_rfl) (fun w' => (run_pickF rfl)) rfl rfl ?_
  refine WT.done (by kernel_rfl) ?_
  refine W.condF rfl ?_
  refine W.skip ?_
  refine W.seq ?_
  refine W.seq ?_
  refine W.draw Try.follows h (fun w h => ?_)
  refine WT.pure 0 rfl (by kernel_rfl) (fun w' => run_move) rfl rfl ?_
  refine WT.pure 1 rfl (by kernel_rfl) (fun w' => (run_nilCheck rfl)) rfl rfl ?_
  refine WT.pure 2 rfl (by kernel_rfl) (fun w' => (run_fieldAddr 2 Try.underlying150 rfl Try.sizeOf56 rfl rfl)) rfl rfl ?_
  refine WT.load1 3 rfl (by kernel_rfl) Try.isAgg56 rfl (h.cellB rfl) rfl rfl ?_
  refine WT.pure 4 rfl (by kernel_rfl) (fun w' => (run_fieldAddr 0 Try.underlying96 rfl Try.sizeOf40 rfl rfl)) rfl rfl ?_
  refine WT.load1 5 rfl (by kernel_rfl) Try.isAgg40 rfl (h.cellB rfl) rfl rfl ?_
  refine WT.pure 7 rfl (by kernel_rfl) (fun w' => (run_fieldAddr 1 Try.underlying96 rfl Try.sizeOf40 rfl rfl)) rfl rfl ?_
  refine WT.load1 8 rfl (by kernel_rfl) Try.isAgg40 rfl (h.cellB rfl) rfl rfl ?_
  refine WT.pure 10 rfl (by kernel_rfl) (fun w' => (run_fieldAddr 2 Try.underlying96 rfl Try.sizeOf22 rfl rfl)) rfl rfl ?_
  refine WT.load1 11 rfl (by kernel_rfl) Try.isAgg22 rfl (h.cellB rfl) rfl rfl ?_
  refine WT.eff 6 [true, true, false, true] rfl (by kernel_rfl) (by kernel_rfl) (eff_call Try.call73 (bput_ok (v := e.idx) (n := 8) (bs := []) h Gives.nilB (by decide) (by decide) (by omega) (by decide))) rfl rfl ?_
  rintro _ w ⟨a27, rfl, h⟩
  refine ⟨⟨h.cellB rfl, h.cellB rfl, h.cellB rfl, trivial⟩, ?_⟩
  refine WT.eff 9 [true, false, true] rfl (by kernel_rfl) (by kernel_rfl) (eff_call Try.call73 (bput_ok (v := e.ep) (n := 8) (bs := (([] : List UInt8) ++ be e.idx 8)) h (Gives.ownO (v := .slice a27 (([] : List UInt8) ++ be e.idx 8).length (([] : List UInt8) ++ be e.idx 8).length)) (by decide) (by decide) hp (by rw [show (([] : List UInt8) ++ be e.idx 8).length = 8 from by simp only [List.length_append, be_length, List.length_nil]]; decide))) rfl rfl ?_
  rintro _ w ⟨a30, rfl, h⟩
  have hq1 : ((([] : List UInt8) ++ be e.idx 8) ++ be e.ep 8).length = 16 := by simp only [List.length_append, be_length, List.length_nil]
  refine ⟨⟨h.cellB rfl, h.cellB rfl, trivial⟩, ?_⟩
  refine WT.eff 12 [false, true] rfl (by kernel_rfl) (by kernel_rfl) (eff_app (bytes := 1) h rfl rfl (h.readsTo C) Try.underlying22 rfl rfl rfl rfl rfl (by rw [hq1]; omega) (by rw [hq1]; omega) bytes_one) rfl rfl ?_
  rintro _ w ⟨a33, c33, hv33, h⟩
  have e2 : bytesV ((([] : List UInt8) ++ be e.idx 8) ++ be e.ep 8) ++ bytesV e.data = bytesV (enB e) := (List.map_append ..).symm
  have e3 : ((([] : List UInt8) ++ be e.idx 8) ++ be e.ep 8).length + e.data.length = (enB e).length := by rw [hq1, hbl]
  rw [e3] at hv33
  rw [e2, e3] at h
  subst hv33
  refine ⟨⟨h.cellB rfl, trivial⟩, ?_⟩
  refine WT.eff 13 [false] rfl (by kernel_rfl) (by kernel_rfl) (eff_call Try.call35 (append_found (br := br) (g := g) (bb := enB e) (d := d) S.live (by rw [r2]; omega) (by rw [r1, r2, S.n]; decide) (by omega) (by rw [r5, r2]; exact hroom) (by rw [r3, r6]; omega) ((h.fetch (DiskP 106 110 b d)).fetch (RingP 130 br b g)) (Gives.ownO (v := .slice a33 (enB e).length c33)))) rfl rfl ?_
  rintro _ w ⟨rfl, d1, hd1, l1, n1, c1_, h⟩
  rw [r1, r2, r4] at hd1
  refine ⟨trivial, ?_⟩
  refine WT.pure 14 rfl (by kernel_rfl) (fun w' => run_move) rfl rfl ?_
  refine WT.pure 15 rfl (by kernel_rfl) (fun w' => (run_extract rfl rfl)) rfl rfl ?_
  refine WT.pure 16 rfl (by kernel_rfl) (fun w' => (run_extract rfl rfl)) rfl rfl ?_
  refine WT.pure 17 rfl (by kernel_rfl) (fun w' => run_assign) rfl rfl ?_
  refine WT.pure 18 rfl (by kernel_rfl) (fun w' => run_assign) rfl rfl ?_
  refine WT.done (by kernel_rfl) ?_
  refine W.seq ?_
  refine W.region ?_
  refine WL.val run_move rfl rfl ?_
  refine WL.val (run_neqF rfl rfl (rfl)) rfl rfl ?_
  refine WL.nil ?_
  refine W.condF rfl ?_
  refine W.skip ?_
  refine W.seq ?_
  refine W.seq ?_
  refine W.region ?_
  refine WL.val run_move rfl rfl ?_
  refine WL.val (run_nilCheck rfl) rfl rfl ?_
  refine WL.val (run_fieldAddr 2 Try.underlying150 rfl Try.sizeOf56 rfl rfl) rfl rfl ?_
  refine WL.val (run_load1 Try.isAgg56 rfl (h.cellB rfl)) rfl rfl ?_
  refine WL.eff (eff_call Try.call36 (rflush_ok (br := br) (b := b) (g := (keepR g (enB e))) (d := d1) ⟨by omega, by rw [l1.armed]; decide⟩ h)) rfl rfl ?_
  rintro v44 w ⟨hv44, h⟩
  rw [(live_flush l1).1] at hv44
  subst hv44
  rw [hd1] at h
  refine WL.val run_assign rfl rfl ?_
  refine WL.nil ?_
  refine W.seq ?_
  refine W.region ?_
  refine WL.val run_move rfl rfl ?_
  refine WL.val (run_neqF rfl rfl (rfl)) rfl rfl ?_
  refine WL.nil ?_
  refine W.condF rfl ?_
  refine W.skip ?_
  refine W.seq ?_
  refine W.region ?_
  refine WL.val (run_fieldAddr 2 Try.underlying96 rfl Try.sizeOf22 rfl rfl) rfl rfl ?_
  refine WL.val (run_load1 Try.isAgg22 rfl (h.cellB rfl)) rfl rfl ?_
  refine WL.eff (eff_call Try.call68 (clone_bytes h (Gives.to C) (by omega))) rfl rfl ?_
  rintro _ w ⟨a50, c50, rfl, h⟩
  refine WL.val (run_fieldAddr 2 Try.underlying96 rfl Try.sizeOf22 rfl rfl) rfl rfl ?_
  refine WL.eff (eff_store (v := .slice _ _ _) h Try.sizeOf22 rfl rfl rfl rfl rfl) rfl rfl ?_
  rintro _ w h
  try simp only [Nat.zero_add, Nat.add_zero, List.set_cons_zero, List.set_cons_succ] at h
  refine WL.nil ?_
  refine W.seq ?_
  refine W.draw Try.follows h (fun w h => ?_)
  refine WT.pure 0 rfl (by kernel_rfl) (fun w' => run_move) rfl rfl ?_
  refine WT.pure 1 rfl (by kernel_rfl) (fun w' => run_move) rfl rfl ?_
  refine WT.pure 2 rfl (by kernel_rfl) (fun w' => (run_nilCheck rfl)) rfl rfl ?_
  refine WT.pure 3 rfl (by kernel_rfl) (fun w' => (run_fieldAddr 11 Try.underlying150 rfl Try.sizeOf148 rfl rfl)) rfl rfl ?_
  refine WT.load1 4 rfl (by kernel_rfl) Try.isAgg148 rfl (h.cellB rfl) rfl rfl ?_
  refine WT.loadN (vs := [.int .u64 _, .int .u64 _, .slice _ _ _]) 5 rfl (by kernel_rfl) Try.isAgg96 Try.sizeOf96 rfl rfl (h.rowV (n := 3) rfl) rfl rfl ?_
  refine WT.eff 6 [false, true] rfl (by kernel_rfl) (by kernel_rfl) (eff_mkSlice (zl := [.int .u64 0, .int .u64 0, .slice none 0 0]) (out := [.int .u64 _, .int .u64 _, .slice _ _ _]) h Try.underlying148 Try.sizeOf96 Try.zeroValue96 (by decide) (by kernel_rfl) rfl rfl (by simp) (⟨⟨_, _, rfl, rfl, by decide⟩, trivial⟩) rfl rfl (by simp [maxLen])) rfl rfl ?_
  rintro _ w ⟨b58, rfl, h⟩
  refine ⟨⟨h.cellB rfl, trivial⟩, ?_⟩
  refine WT.eff 7 [false] rfl (by kernel_rfl) (by kernel_rfl) (eff_app (bytes := 40) (c2 := 1) h rfl rfl (h.cellsO (v := .slice (some ⟨b58, 0, none⟩) 1 1)) Try.underlying148 rfl rfl rfl rfl rfl (by omega) (by omega) (by simp [Value.oneCell'])) rfl rfl ?_
  rintro _ w ⟨a59, c59, rfl, h⟩
  refine ⟨trivial, ?_⟩
  refine WT.pure 8 rfl (by kernel_rfl) (fun w' => (run_nilCheck rfl)) rfl rfl ?_
  refine WT.pure 9 rfl (by kernel_rfl) (fun w' => (run_fieldAddr 11 Try.underlying150 rfl Try.sizeOf148 rfl rfl)) rfl rfl ?_
  refine WT.eff 10 [] rfl (by kernel_rfl) (by kernel_rfl) (eff_store (v := .slice _ _ _) h Try.sizeOf148 rfl rfl rfl rfl rfl) rfl rfl ?_
  rintro _ w h
  try simp only [Nat.zero_add, Nat.add_zero, List.set_cons_zero, List.set_cons_succ] at h
  refine ⟨trivial, ?_⟩
  refine WT.done (by kernel_rfl) ?_
  refine W.seq ?_
  refine W.region ?_
  refine WL.val run_assign rfl rfl ?_
  refine WL.nil ?_
  refine W.ret ?_
  refine bodyQ.r1 (v := .int .i64 _) Try.results57 rfl ?_
  -- path 
  have hp2 := ens_push (e := e) (v := .slice a50 e.data.length c50) hws hpl rfl
  obtain ⟨q1, q2, q3⟩ := hp2
  have hel : (es ++ [e]).length = es.length + 1 := by rw [List.length_append]; rfl
  have h2 := On.toPool ((h.fetch (Pool pool)).fetch (OwnB (.slice a50 e.data.length c50) e.data))
  exact ⟨rfl, closeSt (a1 := a1) (c1 := c1) (a2 := a59) (c2 := c59) (ws := ws ++ [(e, .slice a50 e.data.length c50)]) (pool := (.slice a50 e.data.length c50, e.data) :: pool) q1 q2 (by rw [q3, hel]; exact h2.to)⟩

theorem sepoch_ok {bs b bt br tn ep : Nat} {d : Dk} {hd : Hd} {snap : List UInt8} {es : List En} (o : hd.ok) (I : TwI d 0 tn (headB hd)) (hep : hd.epoch < ep) (he2 : ep < 18446744073709551616) (htn : tn + 1 < 256 ^ 8) (hlow : d.calls ≤ 1000000000) (h : On W0 (StoreP 150 bs b bt br hd snap es :: TwinP 126 bt b 0 tn (headB hd) :: DiskP 106 110 b d :: L) w) : Calls Try.prog 95 #[.pointer (some ⟨bs, 0, none⟩), .int .u64 (ep : Int)] w (Ret fun v w' => v = .int .i64 0 ∧ On W0 (StoreP 150 bs b bt br { hd with epoch := ep } snap es :: TwinP 126 bt b 0 (tn + 1) (headB { hd with epoch := ep }) :: DiskP 106 110 b (putT d 0 tn (headB { hd with epoch := ep })).2 :: L) w') := by
  refine enter Try.func95 rfl Try.ntmps95 rfl ?_
  obtain ⟨o1, o2, o3, o4, o5, o6, o7⟩ := o
  have on : ({ hd with epoch := ep } : Hd).ok := ⟨he2, o2, o3, o4, o5, o6, o7⟩
  have ob_ := openSt h
  obtain ⟨a1, c1, a2, c2, ws, pool, hws, hpl, h⟩ := ob_
  refine W.seq ?_
  refine W.region ?_
  refine WL.val run_assign rfl rfl ?_
  refine WL.nil ?_
  refine W.seq ?_
  refine W.block ?_
  refine W.seq ?_
  refine W.region ?_
  refine WL.val run_move rfl rfl ?_
  refine WL.val run_move rfl rfl ?_
  refine WL.val (run_nilCheck rfl) rfl rfl ?_
  refine WL.val (run_fieldAddr 3 Try.underlying150 rfl Try.sizeOf144 rfl rfl) rfl rfl ?_
  refine WL.val (run_fieldAddr 0 Try.underlying144 rfl Try.sizeOf40 rfl rfl) rfl rfl ?_
  refine WL.val (run_load1 Try.isAgg40 rfl (h.cellB rfl)) rfl rfl ?_
  refine WL.val (run_lssF rfl rfl (by omega)) rfl rfl ?_
  refine WL.val run_assign rfl rfl ?_
  refine WL.nil ?_
  refine W.condF rfl ?_
  refine W.seq ?_
  refine W.region ?_
  refine WL.val run_move rfl rfl ?_
  refine WL.val run_move rfl rfl ?_
  refine WL.val (run_nilCheck rfl) rfl rfl ?_
  refine WL.val (run_fieldAddr 3 Try.underlying150 rfl Try.sizeOf144 rfl rfl) rfl rfl ?_
  refine WL.val (run_fieldAddr 0 Try.underlying144 rfl Try.sizeOf40 rfl rfl) rfl rfl ?_
  refine WL.val (run_load1 Try.isAgg40 rfl (h.cellB rfl)) rfl rfl ?_
  refine WL.val (run_eqlF rfl rfl (by omega)) rfl rfl ?_
  refine WL.val run_assign rfl rfl ?_
  refine WL.nil ?_
  refine W.condF rfl ?_
  refine W.skip ?_
  refine W.seq ?_
  refine W.region ?_
  refine WL.val run_move rfl rfl ?_
  refine WL.val (run_nilCheck rfl) rfl rfl ?_
  refine WL.val (run_fieldAddr 3 Try.underlying150 rfl Try.sizeOf144 rfl rfl) rfl rfl ?_
  refine WL.val (run_loadB (vs := [.int .u64 _, .int .u32 _, .int .i64 _, .int .u64 _, .int .i64 _, .int .u64 _, .int .i64 _]) h Try.isAgg144 Try.sizeOf144 rfl rfl rfl) rfl rfl ?_
  refine WL.eff (eff_alloc h Try.zeroValue144 rfl) rfl rfl ?_
  rintro _ w ⟨b5, rfl, h⟩
  refine WL.eff (eff_storeN (vs := [.int .u64 _, .int .u32 _, .int .i64 _, .int .u64 _, .int .i64 _, .int .u64 _, .int .i64 _]) h Try.sizeOf144 rfl rfl rfl rfl rfl (fun k _ _ => free0 k)) rfl rfl ?_
  rintro _ w h
  try simp only [splice, List.take_zero, List.take_succ_cons, List.take_nil, List.drop_succ_cons, List.drop_zero, List.drop_nil, List.nil_append, List.cons_append, List.append_nil, List.length_cons, List.length_nil, Nat.zero_add, Nat.reduceAdd] at h
  refine WL.nil ?_
  refine W.seq ?_
  refine W.region ?_
  refine WL.val run_move rfl rfl ?_
  refine WL.val (run_fieldAddr 0 Try.underlying144 rfl Try.sizeOf40 rfl rfl) rfl rfl ?_
  refine WL.eff (eff_store (v := .int .u64 _) h Try.sizeOf40 rfl rfl rfl rfl rfl) rfl rfl ?_
  rintro _ w h
  try simp only [Nat.zero_add, Nat.add_zero, List.set_cons_zero, List.set_cons_succ] at h
  refine WL.nil ?_
  refine W.seq ?_
  refine W.region ?_
  refine WL.val run_move rfl rfl ?_
  refine WL.val (run_loadB (vs := [.int .u64 _, .int .u32 _, .int .i64 _, .int .u64 _, .int .i64 _, .int .u64 _, .int .i64 _]) h Try.isAgg144 Try.sizeOf144 rfl rfl rfl) rfl rfl ?_
  refine WL.eff (eff_call Try.call101 (sput_ok (bs := bs) (b := b) (bt := bt) (tn := tn) (hd := hd) (nh := { hd with epoch := ep }) (vr := .pointer (some ⟨br, 0, none⟩)) (sv := .slice a1 snap.length c1) (lv := .slice a2 es.length c2) (d := d) (val := headB hd) on I htn hlow (((h.fetch (DiskP 106 110 b d)).fetch (TwinP 126 bt b 0 tn (headB hd))).fetch (blk bs [.pointer (some ⟨b, 0, none⟩), .pointer (some ⟨bt, 0, none⟩), .pointer (some ⟨br, 0, none⟩), .int .u64 (hd.epoch : Int), .int .u32 (hd.life : Int), .int .i64 (hd.which : Int), .int .u64 (hd.base : Int), .int .i64 (hd.size : Int), .int .u64 (hd.first : Int), .int .i64 (hd.place : Int), .slice a1 snap.length c1, .slice a2 es.length c2] 150)))) rfl rfl ?_
  rintro _ w ⟨rfl, h⟩
  refine WL.val run_assign rfl rfl ?_
  refine WL.nil ?_
  refine W.ret ?_
  refine bodyQ.r1 (v := .int .i64 _) Try.results95 rfl ?_
  -- path 
  exact ⟨rfl, closeSt (a1 := a1) (c1 := c1) (a2 := a2) (c2 := c2) (ws := ws) (pool := pool) hws hpl h.to⟩

theorem sepochget_ok {bs b bt br : Nat} {hd : Hd} {snap : List UInt8} {es : List En} (h : On W0 (StoreP 150 bs b bt br hd snap es :: L) w) : Calls Try.prog 96 #[.pointer (some ⟨bs, 0, none⟩)] w (Ret fun v w' => v = .int .u64 (hd.epoch : Int) ∧ On W0 (StoreP 150 bs b bt br hd snap es :: L) w') := by
  refine enter Try.func96 rfl Try.ntmps96 rfl ?_
  have ob_ := openSt h
  obtain ⟨a1, c1, a2, c2, ws, pool, hws, hpl, h⟩ := ob_
  refine W.seq ?_
  refine W.region ?_
  refine WL.val run_assign rfl rfl ?_
  refine WL.nil ?_
  refine W.seq ?_
  refine W.region ?_
  refine WL.val run_move rfl rfl ?_
  refine WL.val (run_nilCheck rfl) rfl rfl ?_
  refine WL.val (run_fieldAddr 3 Try.underlying150 rfl Try.sizeOf144 rfl rfl) rfl rfl ?_
  refine WL.val (run_fieldAddr 0 Try.underlying144 rfl Try.sizeOf40 rfl rfl) rfl rfl ?_
  refine WL.val (run_load1 Try.isAgg40 rfl (h.cellB rfl)) rfl rfl ?_
  refine WL.val run_assign rfl rfl ?_
  refine WL.nil ?_
  refine W.ret ?_
  refine bodyQ.r1 (v := .int .u64 _) Try.results96 rfl ?_
  -- path 
  exact ⟨rfl, closeSt (a1 := a1) (c1 := c1) (a2 := a2) (c2 := c2) (ws := ws) (pool := pool) hws hpl h⟩

theorem slastP_ok {bs b bt br : Nat} {hd : Hd} {snap : List UInt8} {es : List En} (hb : hd.base + es.length < 18446744073709551616) (hn : es.length ≤ 1000000) (h : On W0 (StoreP 150 bs b bt br hd snap es :: L) w) : Calls Try.prog 61 #[.pointer (some ⟨bs, 0, none⟩)] w (Ret fun v w' => v = .int .u64 ((hd.base + es.length : Nat) : Int) ∧ On W0 (StoreP 150 bs b bt br hd snap es :: L) w') := by
  obtain ⟨a1, c1, a2, c2, ws, pool, hws, hpl, h⟩ := openSt h
  exact (slast_ok hb hn h).mono fun e w' he => by
    obtain ⟨v, he, hv⟩ := he
    refine ⟨v, he, ?_⟩
    obtain ⟨hv, h⟩ := hv
    exact ⟨hv, closeSt (a1 := a1) (c1 := c1) (a2 := a2) (c2 := c2) (ws := ws) (pool := pool) hws hpl h⟩

theorem sbase_ok {bs b bt br : Nat} {hd : Hd} {snap : List UInt8} {es : List En} (hsl : snap.length ≤ 24576) (h : On W0 (StoreP 150 bs b bt br hd snap es :: L) w) : Calls Try.prog 60 #[.pointer (some ⟨bs, 0, none⟩)] w (Ret fun v w' => ∃ a, v = .tuple #[.int .u64 (hd.base : Int), .slice a snap.length snap.length] ∧ On W0 (OwnB (.slice a snap.length snap.length) snap :: StoreP 150 bs b bt br hd snap es :: L) w') := by
  refine enter Try.func60 rfl Try.ntmps60 rfl ?_
  have ob_ := openSt h
  obtain ⟨a1, c1, a2, c2, ws, pool, hws, hpl, h⟩ := ob_
  refine W.seq ?_
  refine W.region ?_
  refine WL.val run_assign rfl rfl ?_
  refine WL.val run_assign rfl rfl ?_
  refine WL.nil ?_
  refine W.seq ?_
  refine W.draw Try.follows h (fun w h => ?_)
  refine WT.pure 0 rfl (by kernel_rfl) (fun w' => run_move) rfl rfl ?_
  refine WT.pure 1 rfl (by kernel_rfl) (fun w' => (run_nilCheck rfl)) rfl rfl ?_
  refine WT.pure 2 rfl (by kernel_rfl) (fun w' => (run_fieldAddr 3 Try.underlying150 rfl Try.sizeOf144 rfl rfl)) rfl rfl ?_
  refine WT.pure 3 rfl (by kernel_rfl) (fun w' => (run_fieldAddr 3 Try.underlying144 rfl Try.sizeOf40 rfl rfl)) rfl rfl ?_
  refine WT.load1 4 rfl (by kernel_rfl) Try.isAgg40 rfl (h.cellB rfl) rfl rfl ?_
  refine WT.pure 5 rfl (by kernel_rfl) (fun w' => run_move) rfl rfl ?_
  refine WT.pure 6 rfl (by kernel_rfl) (fun w' => (run_nilCheck rfl)) rfl rfl ?_
  refine WT.pure 7 rfl (by kernel_rfl) (fun w' => (run_fieldAddr 10 Try.underlying150 rfl Try.sizeOf22 rfl rfl)) rfl rfl ?_
  refine WT.load1 8 rfl (by kernel_rfl) Try.isAgg22 rfl (h.cellB rfl) rfl rfl ?_
  refine WT.eff 9 [false, true] rfl (by kernel_rfl) (by kernel_rfl) (eff_call Try.call68 (clone_bytes h (Gives.ownO (v := .slice a1 snap.length c1)) (by omega))) rfl rfl ?_
  rintro _ w ⟨a13, c13, rfl, h⟩
  refine ⟨⟨h.cellB rfl, trivial⟩, ?_⟩
  refine WT.eff 10 [true] rfl (by kernel_rfl) (by kernel_rfl) (eff_call Try.call81 (clip_bytes h)) rfl rfl ?_
  rintro _ w ⟨rfl, h⟩
  refine ⟨⟨h.cellB rfl, trivial⟩, ?_⟩
  refine WT.pure 11 rfl (by kernel_rfl) (fun w' => run_assign) rfl rfl ?_
  refine WT.pure 12 rfl (by kernel_rfl) (fun w' => run_assign) rfl rfl ?_
  refine WT.done (by kernel_rfl) ?_
  refine W.ret ?_
  refine bodyQ.r2 (v1 := .int .u64 _) (v2 := .slice _ _ _) Try.results60 rfl rfl ?_
  -- path 
  have h := closeSt (TG := 150) (bs := bs) (b := b) (bt := bt) (br := br) (h := hd) (snap := snap) (es := es) (a1 := a1) (c1 := c1) (a2 := a2) (c2 := c2) (ws := ws) (pool := pool) (L := OwnB (.slice a13 snap.length snap.length) snap :: L) hws hpl h.to
  exact ⟨a13, rfl, h.to⟩

theorem sentry_ok {bs b bt br : Nat} {hd : Hd} {snap : List UInt8} {es : List En} {k i : Nat} {e : En} (he : es[k]? = some e) (hi : i = hd.base + 1 + k) (hb : hd.base + es.length < 9000000000000000000) (hl : es.length ≤ 1000000) (hde : e.data.length ≤ 2048) (h : On W0 (StoreP 150 bs b bt br hd snap es :: L) w) : Calls Try.prog 62 #[.pointer (some ⟨bs, 0, none⟩), .int .u64 (i : Int)] w (Ret fun v w' => ∃ a, v = .tuple #[.agg #[.int .u64 (e.idx : Int), .int .u64 (e.ep : Int), .slice a e.data.length e.data.length], .bool true] ∧ On W0 (OwnB (.slice a e.data.length e.data.length) e.data :: StoreP 150 bs b bt br hd snap es :: L) w') := by
  refine enter Try.func62 rfl Try.ntmps62 rfl ?_
  have ob_ := openSt h
  obtain ⟨a1, c1, a2, c2, ws, pool, hws, hpl, h⟩ := ob_
  have hlt := (List.getElem?_eq_some_iff.1 he).1
  have ob_ := en_get hws he
  obtain ⟨vq, hq⟩ := ob_
  refine W.seq ?_
  refine W.region ?_
  refine WL.eff (eff_alloc h Try.zeroValue96 rfl) rfl rfl ?_
  rintro _ w ⟨b4, rfl, h⟩
  refine WL.val run_assign rfl rfl ?_
  refine WL.nil ?_
  refine W.seq ?_
  refine W.seq ?_
  refine W.region ?_
  refine WL.val run_move rfl rfl ?_
  refine WL.val run_move rfl rfl ?_
  refine WL.val (run_nilCheck rfl) rfl rfl ?_
  refine WL.val (run_fieldAddr 3 Try.underlying150 rfl Try.sizeOf144 rfl rfl) rfl rfl ?_
  refine WL.val (run_fieldAddr 3 Try.underlying144 rfl Try.sizeOf40 rfl rfl) rfl rfl ?_
  refine WL.val (run_load1 Try.isAgg40 rfl (h.cellB rfl)) rfl rfl ?_
  refine WL.val (run_leqF rfl rfl (by omega)) rfl rfl ?_
  refine WL.val run_move rfl rfl ?_
  refine WL.val run_move rfl rfl ?_
  refine WL.val run_move rfl rfl ?_
  refine WL.eff (eff_call Try.call61 (slast_ok (bs := bs) (b := b) (bt := bt) (hd := hd) (vr := .pointer (some ⟨br, 0, none⟩)) (sv := .slice a1 snap.length c1) (a := a2) (n := es.length) (c := c2) (by omega) (by omega) (h.fetch (blk bs [.pointer (some ⟨b, 0, none⟩), .pointer (some ⟨bt, 0, none⟩), .pointer (some ⟨br, 0, none⟩), .int .u64 (hd.epoch : Int), .int .u32 (hd.life : Int), .int .i64 (hd.which : Int), .int .u64 (hd.base : Int), .int .i64 (hd.size : Int), .int .u64 (hd.first : Int), .int .i64 (hd.place : Int), .slice a1 snap.length c1, .slice a2 es.length c2] 150)))) rfl rfl ?_
  rintro _ w ⟨rfl, h⟩
  refine WL.val (run_gtrF rfl rfl (by omega)) rfl rfl ?_
  refine WL.val (run_pickF rfl) rfl rfl ?_
  refine WL.nil ?_
  refine W.condF rfl ?_
  refine W.skip ?_
  refine W.seq ?_
  have ob_ := hpl _ (List.mem_of_getElem? hq)
  obtain ⟨hq3, hq4⟩ := ob_
  have ob3_ := hq3.form (h.fetch (Pool pool))
  obtain ⟨aq, cq, hqv, hqc, hqm⟩ := ob3_
  have hqv : vq = .slice aq e.data.length cq := hqv
  subst hqv
  have ob4_ := (h.cellsO (v := .slice a2 es.length c2)).addr (by omega)
  obtain ⟨ba, oa, haa⟩ := ob4_
  subst haa
  have gD : Gives [Pool pool] (Bytes (.slice aq e.data.length cq) e.data) := hq3.gives (L := [])
  refine W.draw Try.follows h (fun w h => ?_)
  refine WT.pure 0 rfl (by kernel_rfl) (fun w' => run_move) rfl rfl ?_
  refine WT.pure 1 rfl (by kernel_rfl) (fun w' => (run_nilCheck rfl)) rfl rfl ?_
  refine WT.pure 2 rfl (by kernel_rfl) (fun w' => (run_fieldAddr 11 Try.underlying150 rfl Try.sizeOf148 rfl rfl)) rfl rfl ?_
  refine WT.load1 3 rfl (by kernel_rfl) Try.isAgg148 rfl (h.cellB rfl) rfl rfl ?_
  refine WT.pure 4 rfl (by kernel_rfl) (fun w' => run_move) rfl rfl ?_
  refine WT.pure 5 rfl (by kernel_rfl) (fun w' => run_move) rfl rfl ?_
  refine WT.pure 6 rfl (by kernel_rfl) (fun w' => (run_nilCheck rfl)) rfl rfl ?_
  refine WT.pure 7 rfl (by kernel_rfl) (fun w' => (run_fieldAddr 3 Try.underlying150 rfl Try.sizeOf144 rfl rfl)) rfl rfl ?_
  refine WT.pure 8 rfl (by kernel_rfl) (fun w' => (run_fieldAddr 3 Try.underlying144 rfl Try.sizeOf40 rfl rfl)) rfl rfl ?_
  refine WT.load1 9 rfl (by kernel_rfl) Try.isAgg40 rfl (h.cellB rfl) rfl rfl ?_
  refine WT.pure 10 rfl (by kernel_rfl) (fun w' => (run_subKV (k := .u64) (m := i) (n := hd.base) (r := 1 + k) rfl rfl (by omega) (Int.ofNat_le.2 (show _ ≤ 18446744073709551615 by omega)) (by omega))) rfl rfl ?_
  refine WT.pure 11 rfl (by kernel_rfl) (fun w' => (run_subKV (k := .u64) (m := 1 + k) (n := 1) (r := k) rfl rfl (by omega) (Int.ofNat_le.2 (show _ ≤ 18446744073709551615 by omega)) (by omega))) rfl rfl ?_
  refine WT.pure 12 rfl (by kernel_rfl) (fun w' => (run_indexAddr Try.underlying148 Try.sizeOf96 rfl rfl (by omega) (by omega))) rfl rfl ?_
  refine WT.loadN 13 rfl (by kernel_rfl) Try.isAgg96 Try.sizeOf96 rfl rfl ((h.cellsO (v := .slice (some ⟨ba, oa, none⟩) es.length c2)).elem (i := k) (vs := [.int .u64 (e.idx : Int), .int .u64 (e.ep : Int), .slice aq e.data.length cq]) (by omega) (drop_flatMap EX.row 3 EX.row_length ws _ _ hq)) rfl rfl ?_
  refine WT.eff 14 [true, true, true] rfl (by kernel_rfl) (by kernel_rfl) (eff_alloc h Try.zeroValue96 rfl) rfl rfl ?_
  rintro _ w ⟨b6, rfl, h⟩
  refine ⟨⟨((h.cellsO (v := .slice (some ⟨ba, oa, none⟩) es.length c2)).elem (i := k) (vs := [.int .u64 (e.idx : Int), .int .u64 (e.ep : Int), .slice aq e.data.length cq]) (by omega) (drop_flatMap EX.row 3 EX.row_length ws _ _ hq)), h.cellB rfl, h.cellB rfl, trivial⟩, ?_⟩
  refine WT.eff 15 [false, false, false] rfl (by kernel_rfl) (by kernel_rfl) (eff_storeN (vs := [.int .u64 _, .int .u64 _, .slice _ _ _]) h Try.sizeOf96 rfl rfl rfl rfl rfl (fun k _ _ => free0 k)) rfl rfl ?_
  rintro _ w h
  try simp only [splice, List.take_zero, List.take_succ_cons, List.take_nil, List.drop_succ_cons, List.drop_zero, List.drop_nil, List.nil_append, List.cons_append, List.append_nil, List.length_cons, List.length_nil, Nat.zero_add, Nat.reduceAdd] at h
  refine ⟨trivial, ?_⟩
  refine WT.done (by kernel_rfl) ?_
  refine W.seq ?_
  refine W.region ?_
  refine WL.val (run_fieldAddr 2 Try.underlying96 rfl Try.sizeOf22 rfl rfl) rfl rfl ?_
  refine WL.val (run_load1 Try.isAgg22 rfl (h.cellB rfl)) rfl rfl ?_
  refine WL.eff (eff_call Try.call68 (clone_bytes h (Gives.to gD) (by omega))) rfl rfl ?_
  rintro _ w ⟨a37, c37, rfl, h⟩
  refine WL.eff (eff_call Try.call81 (clip_bytes h)) rfl rfl ?_
  rintro _ w ⟨rfl, h⟩
  refine WL.val (run_fieldAddr 2 Try.underlying96 rfl Try.sizeOf22 rfl rfl) rfl rfl ?_
  refine WL.eff (eff_store (v := .slice _ _ _) h Try.sizeOf22 rfl rfl rfl rfl rfl) rfl rfl ?_
  rintro _ w h
  try simp only [Nat.zero_add, Nat.add_zero, List.set_cons_zero, List.set_cons_succ] at h
  refine WL.nil ?_
  refine W.seq ?_
  refine W.region ?_
  refine WL.val (run_loadB (vs := [.int .u64 _, .int .u64 _, .slice _ _ _]) h Try.isAgg96 Try.sizeOf96 rfl rfl rfl) rfl rfl ?_
  refine WL.eff (eff_storeN (vs := [.int .u64 _, .int .u64 _, .slice _ _ _]) h Try.sizeOf96 rfl rfl rfl rfl rfl (fun k _ _ => free0 k)) rfl rfl ?_
  rintro _ w h
  try simp only [splice, List.take_zero, List.take_succ_cons, List.take_nil, List.drop_succ_cons, List.drop_zero, List.drop_nil, List.nil_append, List.cons_append, List.append_nil, List.length_cons, List.length_nil, Nat.zero_add, Nat.reduceAdd] at h
  refine WL.val run_assign rfl rfl ?_
  refine WL.nil ?_
  refine W.ret ?_
  refine bodyQ.rctB (vs := [.int .u64 _, .int .u64 _, .slice _ _ _]) (v2 := .bool _) h Try.results62 Try.isAgg96 Try.sizeOf96 rfl rfl rfl rfl ?_
  -- path 
  have h := closeSt (TG := 150) (bs := bs) (b := b) (bt := bt) (br := br) (h := hd) (snap := snap) (es := es) (a1 := a1) (c1 := c1) (a2 := some ⟨ba, oa, none⟩) (c2 := c2) (ws := ws) (pool := pool) (L := OwnB (.slice a37 e.data.length e.data.length) e.data :: L) hws hpl h.to
  exact ⟨a37, rfl, h.to⟩

theorem sentry_no {bs b bt br : Nat} {hd : Hd} {snap : List UInt8} {es : List En} {i : Nat} (hi : i ≤ hd.base) (h : On W0 (StoreP 150 bs b bt br hd snap es :: L) w) : Calls Try.prog 62 #[.pointer (some ⟨bs, 0, none⟩), .int .u64 (i : Int)] w (Ret fun v w' => v = .tuple #[.agg #[.int .u64 0, .int .u64 0, .slice none 0 0], .bool false] ∧ On W0 (StoreP 150 bs b bt br hd snap es :: L) w') := by
  refine enter Try.func62 rfl Try.ntmps62 rfl ?_
  have ob_ := openSt h
  obtain ⟨a1, c1, a2, c2, ws, pool, hws, hpl, h⟩ := ob_
  refine W.seq ?_
  refine W.region ?_
  refine WL.eff (eff_alloc h Try.zeroValue96 rfl) rfl rfl ?_
  rintro _ w ⟨b4, rfl, h⟩
  refine WL.val run_assign rfl rfl ?_
  refine WL.nil ?_
  refine W.seq ?_
  refine W.seq ?_
  refine W.region ?_
  refine WL.val run_move rfl rfl ?_
  refine WL.val run_move rfl rfl ?_
  refine WL.val (run_nilCheck rfl) rfl rfl ?_
  refine WL.val (run_fieldAddr 3 Try.underlying150 rfl Try.sizeOf144 rfl rfl) rfl rfl ?_
  refine WL.val (run_fieldAddr 3 Try.underlying144 rfl Try.sizeOf40 rfl rfl) rfl rfl ?_
  refine WL.val (run_load1 Try.isAgg40 rfl (h.cellB rfl)) rfl rfl ?_
  refine WL.val (run_leqT rfl rfl (by omega)) rfl rfl ?_
  refine WL.val run_move rfl rfl ?_
  refine WL.skip rfl rfl ?_
  refine WL.skip rfl rfl ?_
  refine WL.skip rfl rfl ?_
  refine WL.skip rfl rfl ?_
  refine WL.val (run_pickT rfl) rfl rfl ?_
  refine WL.nil ?_
  refine W.condT rfl ?_
  refine W.seq ?_
  refine W.region ?_
  refine WL.val (run_buildS (pl := [(0, 1), (1, 1), (2, 1)]) (out := [.int .u64 _, .int .u64 _, .slice _ _ _]) Try.underlying96 Try.zeroValue96 (fun w => by kernel_rfl) rfl (trivial) rfl) rfl rfl ?_
  refine WL.eff (eff_storeN (vs := [.int .u64 _, .int .u64 _, .slice _ _ _]) h Try.sizeOf96 rfl rfl rfl rfl rfl (fun k _ _ => free0 k)) rfl rfl ?_
  rintro _ w h
  try simp only [splice, List.take_zero, List.take_succ_cons, List.take_nil, List.drop_succ_cons, List.drop_zero, List.drop_nil, List.nil_append, List.cons_append, List.append_nil, List.length_cons, List.length_nil, Nat.zero_add, Nat.reduceAdd] at h
  refine WL.val run_assign rfl rfl ?_
  refine WL.nil ?_
  refine W.ret ?_
  refine bodyQ.rctB (vs := [.int .u64 _, .int .u64 _, .slice _ _ _]) (v2 := .bool _) h Try.results62 Try.isAgg96 Try.sizeOf96 rfl rfl rfl rfl ?_
  -- path 
  exact ⟨rfl, closeSt (a1 := a1) (c1 := c1) (a2 := a2) (c2 := c2) (ws := ws) (pool := pool) hws hpl h.to⟩

end Go.Proofs.Ytlahgihjjabgmaa
