/-
  A unit: a guest read: the contracts. Lines of walks printed by a program of the prover's.
-/
import Derived.Test.YtdpakoefdpmebaaGreatUnit12
namespace Go.Proofs.YtdpakoefdpmebaaGreat
open Go Go.Sl Go.Sl.BitM Go.Sl.SpM Go.Sl.RsM Go.Sl.ByM Go.Sl.UnM
set_option linter.unusedVariables false
set_option linter.unusedSimpArgs false
set_option maxHeartbeats 1000000
set_option maxRecDepth 8000
variable {W0 w : World} {L F : List HProp}

theorem gread_ok [tF : To L F] {bu bs bt i mb cb : Nat} {ab : Option Addr} {gs : List GX} {pool : PoolL} {b : List UInt8} (hg : gs[i]? = some (zG mb)) (hb : b.length ≤ 100000) (h : On W0 (MapC mb .u64 [] 0 :: blk bu (ucells bs bt gs) 84 :: Pool pool :: L) w) (C : Gives F (Bytes (.slice ab b.length cb) b)) : Calls Tryz.prog 33 #[.pointer (some ⟨bu, 0 + 2 + ((i : Nat) : Int).toNat * 3, none⟩), .slice ab b.length cb] w (Ret fun v w' => ∃ (a : Option Addr) (c ck : Nat) (kvs : List KV) (pool' : PoolL), okD pool' (readG b).2.done kvs ∧ (∀ p ∈ pool, p ∈ pool') ∧ v = .bool (readG b).1 ∧ On W0 (Own 1 (.slice a (readG b).2.codes.length c) (readG b).2.codes.length (cV (readG b).2.codes) :: MapC mb .u64 kvs ck :: blk bu (ucells bs bt (gs.set i ⟨(readG b).2, a, c, mb, ck, kvs⟩)) 84 :: Pool pool' :: L) w') := by
  refine enter Tryz.func33 rfl Tryz.ntmps33 rfl ?_
  have hmx := maxLen_eq
  have hig : i < gs.length := (List.getElem?_eq_some_iff.1 hg).1
  have h := h.ownEmpty 1 none
  rw [show gs = gs.set i (zG mb) from (set_same hg).symm] at h
  have h : On W0 (Own 1 (.slice none ([] : List Int).length 0) ([] : List Int).length (cV ([] : List Int)) :: MapC mb .u64 [] 0 :: blk bu (ucells bs bt (gs.set i (⟨⟨[], 0, []⟩, none, 0, mb, 0, []⟩ : GX))) 84 :: Pool pool :: L) w := h
  refine W.seq ?_
  refine W.region ?_
  refine WL.val run_assign rfl rfl ?_
  refine WL.nil ?_
  refine W.seq ?_
  refine W.region ?_
  refine WL.val run_move rfl rfl ?_
  refine WL.val (run_buildS (pl := [(0, 1), (1, 1)]) (out := [.slice _ _ _, .bool _]) Tryz.underlying72 Tryz.zeroValue72 (fun w => by kernel_rfl) rfl (⟨⟨_, _, rfl, rfl, by decide⟩, trivial⟩) rfl) rfl rfl ?_
  refine WL.eff (eff_box (v := .agg _) (l := [.slice ab b.length cb, .bool false]) h rfl rfl) rfl rfl ?_
  rintro _ w ⟨b12, rfl, h⟩
  refine WL.val run_assign rfl rfl ?_
  refine WL.nil ?_
  refine W.cut (fun env w => ∃ (j : Env) (ab : Option Addr) (cb : Nat) (s : RS) (l : List Int) (a : Option Addr) (c : Nat), Gives F (Bytes (.slice ab s.1.length cb) s.1) ∧ (l, s) = (rdCodes (rdN 2 (b, false)).1 (rdN 2 (b, false)).2 []) ∧ l.length ≤ 65536 ∧ env = mkE j [(0, .pointer (some ⟨bu, 0 + 2 + ((i : Nat) : Int).toNat * 3, none⟩)), (5, .pointer (some ⟨b12, 0, none⟩))] ∧ On W0 (Own 1 (.slice a l.length c) l.length (cV l) :: MapC mb .u64 [] 0 :: blk bu (ucells bs bt (gs.set i (⟨⟨l, 0, []⟩, a, c, mb, 0, []⟩ : GX))) 84 :: Pool pool :: blk b12 [.slice ab s.1.length cb, .bool s.2] 72 :: L) w) ?_ ?_
  · skip
    refine W.seq ?_
    refine W.region ?_
    refine WL.val run_move rfl rfl ?_
    refine WL.eff (eff_call Tryz.call83 (rnum_ok (F := F) (n := 2) (s := (b, false)) (by decide) (by decide) h C)) rfl rfl ?_
    rintro _ w ⟨ab, cb, C, rfl, h⟩
    have hn2 : (rdN 2 (b, false)).1 < 65536 := rdN_lt
    refine WL.val run_assign rfl rfl ?_
    refine WL.nil ?_
    refine W.block ?_
    refine W.loop (fun (n : Nat) env w => ∃ (j : Env) (ab : Option Addr) (cb : Nat) (s : RS) (l : List Int) (a : Option Addr) (c : Nat), Gives F (Bytes (.slice ab s.1.length cb) s.1) ∧ rdCodes n s l = (rdCodes (rdN 2 (b, false)).1 (rdN 2 (b, false)).2 []) ∧ l.length + n ≤ 65536 ∧ env = mkE j [(0, .pointer (some ⟨bu, 0 + 2 + ((i : Nat) : Int).toNat * 3, none⟩)), (5, .pointer (some ⟨b12, 0, none⟩)), (6, .int .u64 (n : Int))] ∧ On W0 (Own 1 (.slice a l.length c) l.length (cV l) :: MapC mb .u64 [] 0 :: blk bu (ucells bs bt (gs.set i (⟨⟨l, 0, []⟩, a, c, mb, 0, []⟩ : GX))) 84 :: Pool pool :: blk b12 [.slice ab s.1.length cb, .bool s.2] 72 :: L) w) (fun n => n) ((rdN 2 (b, false)).1) ?_ ?_
    · exact ⟨_, ab, cb, _, [], none, 0, C, rfl, by show 0 + _ ≤ 65536; omega, mkE_of ⟨rfl, rfl, rfl, trivial⟩, h.to⟩
    · clear h C
      rintro n env w ⟨j, ab, cb, s, l, a, c, C, hX, hln, rfl, h⟩
      refine W.seq ?_
      refine W.seq ?_
      refine W.region ?_
      refine WL.val run_move rfl rfl ?_
      refine WL.dec (run_gtr rfl rfl) rfl rfl (fun c16 => ?_) (fun c16 => ?_)
      · skip
        refine WL.val run_move rfl rfl ?_
        refine WL.val run_move rfl rfl ?_
        refine WL.val (run_nilCheck rfl) rfl rfl ?_
        refine WL.val (run_fieldAddr 1 Tryz.underlying72 rfl Tryz.sizeOf4 rfl rfl) rfl rfl ?_
        refine WL.val (run_load1 Tryz.isAgg4 rfl (h.cellB rfl)) rfl rfl ?_
        refine WL.val (run_not rfl) rfl rfl ?_
        refine WL.val (run_pickT rfl) rfl rfl ?_
        refine WL.nil ?_
        refine W.condB rfl (fun c6 => ?_) (fun c6 => ?_)
        · skip
          refine W.skip ?_
          refine W.seq ?_
          refine W.block ?_
          have hg2 := (List.getElem?_set_self hig : (gs.set i (⟨⟨l, 0, []⟩, a, c, mb, 0, []⟩ : GX))[i]? = some (⟨⟨l, 0, []⟩, a, c, mb, 0, []⟩ : GX))
          have hlt2 : (rdN 2 s).1 < 65536 := rdN_lt
          have ob1_ := Own.bounds (h.own (.slice a l.length c))
          obtain ⟨hb1, hb2⟩ := ob1_
          refine W.draw Tryz.follows h (fun w h => ?_)
          refine WT.pure 0 rfl (by kernel_rfl) (fun w' => run_move) rfl rfl ?_
          refine WT.pure 1 rfl (by kernel_rfl) (fun w' => run_move) rfl rfl ?_
          refine WT.pure 2 rfl (by kernel_rfl) (fun w' => (run_nilCheck rfl)) rfl rfl ?_
          refine WT.pure 3 rfl (by kernel_rfl) (fun w' => (run_fieldAddr 0 Tryz.underlying81 rfl Tryz.sizeOf43 rfl rfl)) rfl rfl ?_
          refine WT.load1 4 rfl (by kernel_rfl) Tryz.isAgg43 rfl (h.cellB (ucell (bs := bs) (bt := bt) hg2 (k := 0) (x := .slice a l.length c) (by decide) rfl)) rfl rfl ?_
          refine WT.pure 5 rfl (by kernel_rfl) (fun w' => run_move) rfl rfl ?_
          refine WT.eff 6 [true] rfl (by kernel_rfl) (by kernel_rfl) (eff_call Tryz.call83 (rnum_ok (F := F) (n := 2) (s := s) (by decide) (by decide) (h.fetch (blk b12 [.slice ab s.1.length cb, .bool s.2] 72)) C)) rfl rfl ?_
          rintro _ w ⟨ab, cb, C, rfl, h⟩
          refine ⟨⟨h.cellB (ucell (bs := bs) (bt := bt) hg2 (k := 0) (x := .slice a l.length c) (by decide) rfl), trivial⟩, ?_⟩
          refine WT.pure 7 rfl (by kernel_rfl) (fun w' => (run_convInt64 Tryz.underlying23 Tryz.underlying3 rfl (by omega) (by omega))) rfl rfl ?_
          refine WT.eff 8 [true] rfl (by kernel_rfl) (by kernel_rfl) (eff_mkSlice (zl := [.int .i64 0]) (out := [.int .i64 _]) h Tryz.underlying43 Tryz.sizeOf3 Tryz.zeroValue3 (by decide) (by kernel_rfl) rfl rfl (by simp) (⟨⟨_, _, rfl, rfl, by decide⟩, trivial⟩) rfl rfl (by simp [maxLen])) rfl rfl ?_
          rintro _ w ⟨b34, rfl, h⟩
          refine ⟨⟨h.cellB (ucell (bs := bs) (bt := bt) hg2 (k := 0) (x := .slice a l.length c) (by decide) rfl), trivial⟩, ?_⟩
          refine WT.eff 9 [false] rfl (by kernel_rfl) (by kernel_rfl) (eff_app (c2 := 1) (bytes := 8) h rfl rfl (h.cellsO (v := .slice (some ⟨b34, 0, none⟩) 1 1)) Tryz.underlying43 rfl rfl rfl rfl rfl (by omega) (by omega) (by simp [Value.oneCell'])) rfl rfl ?_
          rintro _ w ⟨a35, c35, rfl, h⟩
          refine ⟨trivial, ?_⟩
          refine WT.pure 10 rfl (by kernel_rfl) (fun w' => (run_nilCheck rfl)) rfl rfl ?_
          refine WT.pure 11 rfl (by kernel_rfl) (fun w' => (run_fieldAddr 0 Tryz.underlying81 rfl Tryz.sizeOf43 rfl rfl)) rfl rfl ?_
          refine WT.eff 12 [] rfl (by kernel_rfl) (by kernel_rfl) (eff_store (v := .slice a35 (l.length + 1) c35) h Tryz.sizeOf43 rfl rfl rfl (ult (bs := bs) (bt := bt) hg2 (k := 0) (by decide)) (free0 _)) rfl rfl ?_
          rintro _ w h
          have el : (l ++ [((rdN 2 s).1 : Int)]).length = l.length + 1 := by rw [List.length_append]; rfl
          have em : cV (l ++ [((rdN 2 s).1 : Int)]) = cV l ++ [.int .i64 ((rdN 2 s).1 : Int)] := by unfold cV; rw [List.map_append]; rfl
          have er : (⟨⟨(l ++ [((rdN 2 s).1 : Int)]), 0, []⟩, a35, c35, mb, 0, []⟩ : GX).row = (⟨⟨l, 0, []⟩, a, c, mb, 0, []⟩ : GX).row.set 0 (.slice a35 (l.length + 1) c35) := by
            show [Value.slice a35 (l ++ [((rdN 2 s).1 : Int)]).length c35, _, _] = _
            rw [el]; rfl
          rw [uset (bs := bs) (bt := bt) hg2 (k := 0) (by decide) er, List.set_set] at h
          have h : On W0 (Own 1 (.slice a35 (l.length + 1) c35) (l.length + 1) (cV l ++ [.int .i64 ((rdN 2 s).1 : Int)]) :: _) w := h.own (.slice a35 (l.length + 1) c35)
          rw [← em, ← el] at h
          refine ⟨trivial, ?_⟩
          refine WT.done (by kernel_rfl) ?_
          refine W.region ?_
          refine WL.val run_move rfl rfl ?_
          refine WL.val (run_subK (k := .u64) (m := n) (n := 1) rfl rfl (by omega) (by show _ ≤ (18446744073709551615 : Int); omega)) rfl rfl ?_
          refine WL.val run_assign rfl rfl ?_
          refine WL.nil ?_
          -- round, path LTT
          have ob_ : ∃ m, n = m + 1 := ⟨n - 1, by omega⟩
          obtain ⟨m, rfl⟩ := ob_
          have hs2 : s.2 = false := by simpa using c6
          have hX2 : rdCodes (m + 1) s l = rdCodes m (rdN 2 s).2 (l ++ [((rdN 2 s).1 : Int)]) := by show (if s.2 = true then _ else _) = _; rw [if_neg (by rw [hs2]; decide)]
          rw [hX2] at hX
          exact ⟨m, ⟨_, ab, cb, _, l ++ [((rdN 2 s).1 : Int)], a35, c35, C, hX, by rw [List.length_append]; show l.length + 1 + m ≤ 65536; omega, mkE_of ⟨rfl, rfl, rfl, trivial⟩, h.to⟩, by show m < m + 1; omega⟩
        · skip
          refine W.exit ?_
          -- to the cut, path LTF
          have hs2 : s.2 = true := by simpa using c6
          rw [rdCodes_bad hs2] at hX
          exact ⟨_, ab, cb, s, l, a, c, C, hX, by omega, mkE_of ⟨rfl, rfl, trivial⟩, h.to⟩
      · skip
        refine WL.val run_move rfl rfl ?_
        refine WL.skip rfl rfl ?_
        refine WL.skip rfl rfl ?_
        refine WL.skip rfl rfl ?_
        refine WL.skip rfl rfl ?_
        refine WL.skip rfl rfl ?_
        refine WL.val (run_pickF rfl) rfl rfl ?_
        refine WL.nil ?_
        refine W.condF rfl ?_
        refine W.exit ?_
        -- to the cut, path LF
        have ob_ : n = 0 := by omega
        obtain rfl := ob_
        exact ⟨_, ab, cb, s, l, a, c, C, hX, by omega, mkE_of ⟨rfl, rfl, trivial⟩, h.to⟩
  · clear h C
    rintro env w ⟨j, ab, cb, s, l, a, c, C, hX, hll, rfl, h⟩
    have hl1 : l = (rdCodes (rdN 2 (b, false)).1 (rdN 2 (b, false)).2 []).1 := congrArg Prod.fst hX
    have hs1 : s = (rdCodes (rdN 2 (b, false)).1 (rdN 2 (b, false)).2 []).2 := congrArg Prod.snd hX
    subst hl1
    subst hs1
    have hg2 := (List.getElem?_set_self hig : (gs.set i (⟨⟨(rdCodes (rdN 2 (b, false)).1 (rdN 2 (b, false)).2 []).1, 0, []⟩, a, c, mb, 0, []⟩ : GX))[i]? = some (⟨⟨(rdCodes (rdN 2 (b, false)).1 (rdN 2 (b, false)).2 []).1, 0, []⟩, a, c, mb, 0, []⟩ : GX))
    refine W.seq ?_
    refine W.region ?_
    refine WL.val run_move rfl rfl ?_
    refine WL.val run_move rfl rfl ?_
    refine WL.eff (eff_call Tryz.call83 (rnum_ok (F := F) (n := 8) (s := (rdCodes (rdN 2 (b, false)).1 (rdN 2 (b, false)).2 []).2) (by decide) (by decide) (h.fetch (blk b12 [.slice ab (rdCodes (rdN 2 (b, false)).1 (rdN 2 (b, false)).2 []).2.1.length cb, .bool (rdCodes (rdN 2 (b, false)).1 (rdN 2 (b, false)).2 []).2.2] 72)) C)) rfl rfl ?_
    rintro _ w ⟨ab, cb, C, rfl, h⟩
    refine WL.val (run_nilCheck rfl) rfl rfl ?_
    refine WL.val (run_fieldAddr 1 Tryz.underlying81 rfl Tryz.sizeOf23 rfl rfl) rfl rfl ?_
    refine WL.eff (eff_store (v := .int .u64 ((rdN 8 (rdCodes (rdN 2 (b, false)).1 (rdN 2 (b, false)).2 []).2).1 : Int)) h Tryz.sizeOf23 rfl rfl rfl (ult (bs := bs) (bt := bt) hg2 (k := 1) (by decide)) (free0 _)) rfl rfl ?_
    rintro _ w h
    have er : (⟨⟨(rdCodes (rdN 2 (b, false)).1 (rdN 2 (b, false)).2 []).1, ((rdN 8 (rdCodes (rdN 2 (b, false)).1 (rdN 2 (b, false)).2 []).2).1 : Int), []⟩, a, c, mb, 0, []⟩ : GX).row = (⟨⟨(rdCodes (rdN 2 (b, false)).1 (rdN 2 (b, false)).2 []).1, 0, []⟩, a, c, mb, 0, []⟩ : GX).row.set 1 (.int .u64 ((rdN 8 (rdCodes (rdN 2 (b, false)).1 (rdN 2 (b, false)).2 []).2).1 : Int)) := rfl
    rw [uset (bs := bs) (bt := bt) hg2 (k := 1) (by decide) er, List.set_set] at h
    refine WL.nil ?_
    refine W.cut (fun env w => ∃ (j : Env) (ab : Option Addr) (cb : Nat) (s : RS) (D : List (Int × Rp)) (kvs : List KV) (ck : Nat) (pool2 : PoolL), (D, s) = (rdDone (rdN 2 (rdN 8 (rdCodes (rdN 2 (b, false)).1 (rdN 2 (b, false)).2 []).2).2).1 (rdN 2 (rdN 8 (rdCodes (rdN 2 (b, false)).1 (rdN 2 (b, false)).2 []).2).2).2 []) ∧ okD pool2 D kvs ∧ (∀ p ∈ pool, p ∈ pool2) ∧ env = mkE j [(5, .pointer (some ⟨b12, 0, none⟩))] ∧ On W0 (Own 1 (.slice a (rdCodes (rdN 2 (b, false)).1 (rdN 2 (b, false)).2 []).1.length c) (rdCodes (rdN 2 (b, false)).1 (rdN 2 (b, false)).2 []).1.length (cV (rdCodes (rdN 2 (b, false)).1 (rdN 2 (b, false)).2 []).1) :: MapC mb .u64 kvs ck :: blk bu (ucells bs bt (gs.set i (⟨⟨(rdCodes (rdN 2 (b, false)).1 (rdN 2 (b, false)).2 []).1, ((rdN 8 (rdCodes (rdN 2 (b, false)).1 (rdN 2 (b, false)).2 []).2).1 : Int), []⟩, a, c, mb, 0, []⟩ : GX))) 84 :: Pool pool2 :: blk b12 [.slice ab s.1.length cb, .bool s.2] 72 :: L) w) ?_ ?_
    · skip
      refine W.seq ?_
      refine W.region ?_
      refine WL.val run_move rfl rfl ?_
      refine WL.eff (eff_call Tryz.call83 (rnum_ok (F := F) (n := 2) (s := (rdN 8 (rdCodes (rdN 2 (b, false)).1 (rdN 2 (b, false)).2 []).2).2) (by decide) (by decide) (h.fetch (blk b12 [.slice ab (rdN 8 (rdCodes (rdN 2 (b, false)).1 (rdN 2 (b, false)).2 []).2).2.1.length cb, .bool (rdN 8 (rdCodes (rdN 2 (b, false)).1 (rdN 2 (b, false)).2 []).2).2.2] 72)) C)) rfl rfl ?_
      rintro _ w ⟨ab, cb, C, rfl, h⟩
      have hg3 := (List.getElem?_set_self hig : (gs.set i (⟨⟨(rdCodes (rdN 2 (b, false)).1 (rdN 2 (b, false)).2 []).1, ((rdN 8 (rdCodes (rdN 2 (b, false)).1 (rdN 2 (b, false)).2 []).2).1 : Int), []⟩, a, c, mb, 0, []⟩ : GX))[i]? = some (⟨⟨(rdCodes (rdN 2 (b, false)).1 (rdN 2 (b, false)).2 []).1, ((rdN 8 (rdCodes (rdN 2 (b, false)).1 (rdN 2 (b, false)).2 []).2).1 : Int), []⟩, a, c, mb, 0, []⟩ : GX))
      have z1 := rdN_len (n := 2) (s := (rdN 8 (rdCodes (rdN 2 (b, false)).1 (rdN 2 (b, false)).2 []).2).2)
      have z2 := rdN_len (n := 8) (s := (rdCodes (rdN 2 (b, false)).1 (rdN 2 (b, false)).2 []).2)
      have z3 := rdCodes_len (rdN 2 (b, false)).1 (rdN 2 (b, false)).2 []
      have z4 := rdN_len (n := 2) (s := (b, false))
      have z4 : (rdN 2 (b, false)).2.1.length ≤ b.length := z4
      have hx3l : (rdN 2 (rdN 8 (rdCodes (rdN 2 (b, false)).1 (rdN 2 (b, false)).2 []).2).2).2.1.length ≤ 100000 := by omega
      refine WL.val run_assign rfl rfl ?_
      refine WL.nil ?_
      refine W.block ?_
      refine W.loop (fun (n : Nat) env w => ∃ (j : Env) (ab : Option Addr) (cb : Nat) (s : RS) (D : List (Int × Rp)) (kvs : List KV) (ck : Nat) (pool2 : PoolL), Gives F (Bytes (.slice ab s.1.length cb) s.1) ∧ rdDone n s D = (rdDone (rdN 2 (rdN 8 (rdCodes (rdN 2 (b, false)).1 (rdN 2 (b, false)).2 []).2).2).1 (rdN 2 (rdN 8 (rdCodes (rdN 2 (b, false)).1 (rdN 2 (b, false)).2 []).2).2).2 []) ∧ s.1.length ≤ 100000 ∧ n ≤ 65536 ∧ okD pool2 D kvs ∧ (∀ p ∈ pool, p ∈ pool2) ∧ env = mkE j [(0, .pointer (some ⟨bu, 0 + 2 + ((i : Nat) : Int).toNat * 3, none⟩)), (5, .pointer (some ⟨b12, 0, none⟩)), (7, .int .u64 (n : Int))] ∧ On W0 (Own 1 (.slice a (rdCodes (rdN 2 (b, false)).1 (rdN 2 (b, false)).2 []).1.length c) (rdCodes (rdN 2 (b, false)).1 (rdN 2 (b, false)).2 []).1.length (cV (rdCodes (rdN 2 (b, false)).1 (rdN 2 (b, false)).2 []).1) :: MapC mb .u64 kvs ck :: blk bu (ucells bs bt (gs.set i (⟨⟨(rdCodes (rdN 2 (b, false)).1 (rdN 2 (b, false)).2 []).1, ((rdN 8 (rdCodes (rdN 2 (b, false)).1 (rdN 2 (b, false)).2 []).2).1 : Int), []⟩, a, c, mb, 0, []⟩ : GX))) 84 :: Pool pool2 :: blk b12 [.slice ab s.1.length cb, .bool s.2] 72 :: L) w) (fun n => n) ((rdN 2 (rdN 8 (rdCodes (rdN 2 (b, false)).1 (rdN 2 (b, false)).2 []).2).2).1) ?_ ?_
      · have hn3 : (rdN 2 (rdN 8 (rdCodes (rdN 2 (b, false)).1 (rdN 2 (b, false)).2 []).2).2).1 < 65536 := rdN_lt
        have hsl : (rdN 2 (rdN 8 (rdCodes (rdN 2 (b, false)).1 (rdN 2 (b, false)).2 []).2).2).2.1.length ≤ 100000 := hx3l
        exact ⟨_, ab, cb, _, [], [], 0, pool, C, rfl, hsl, by omega, ⟨List.Perm.refl _, List.nodup_nil, fun x hx => (by cases hx)⟩, fun p hp => hp, mkE_of ⟨rfl, rfl, rfl, trivial⟩, h.to⟩
      · clear h C
        rintro n env w ⟨j, ab, cb, s, D, kvs, ck, pool2, C, hX4, hsl, hnl, hok, hps, rfl, h⟩
        refine W.seq ?_
        refine W.seq ?_
        refine W.region ?_
        refine WL.val run_move rfl rfl ?_
        refine WL.dec (run_gtr rfl rfl) rfl rfl (fun c46 => ?_) (fun c46 => ?_)
        · skip
          refine WL.val run_move rfl rfl ?_
          refine WL.val run_move rfl rfl ?_
          refine WL.val (run_nilCheck rfl) rfl rfl ?_
          refine WL.val (run_fieldAddr 1 Tryz.underlying72 rfl Tryz.sizeOf4 rfl rfl) rfl rfl ?_
          refine WL.val (run_load1 Tryz.isAgg4 rfl (h.cellB rfl)) rfl rfl ?_
          refine WL.val (run_not rfl) rfl rfl ?_
          refine WL.val (run_pickT rfl) rfl rfl ?_
          refine WL.nil ?_
          refine W.condB rfl (fun c17 => ?_) (fun c17 => ?_)
          · skip
            refine W.skip ?_
            refine W.seq ?_
            have q0 := rdN_len (n := 8) (s := s)
            have q1 := rdN_len (n := 1) (s := (rdN 8 s).2)
            have q2 := rdN_len (n := 1) (s := (rdN 1 (rdN 8 s).2).2)
            have q3 := rdN_len (n := 2) (s := (rdN 1 (rdN 1 (rdN 8 s).2).2).2)
            have q4 := rdN_len (n := 4) (s := (rdN 2 (rdN 1 (rdN 1 (rdN 8 s).2).2).2).2)
            have q5 := rdP_len (s := (rdN 4 (rdN 2 (rdN 1 (rdN 1 (rdN 8 s).2).2).2).2).2)
            have l1 : (rdN 1 (rdN 8 s).2).1 < 256 := rdN_lt
            have l2 : (rdN 1 (rdN 1 (rdN 8 s).2).2).1 < 256 := rdN_lt
            have l3 : (rdN 2 (rdN 1 (rdN 1 (rdN 8 s).2).2).2).1 < 65536 := rdN_lt
            have l4 : (rdN 4 (rdN 2 (rdN 1 (rdN 1 (rdN 8 s).2).2).2).2).1 < 4294967296 := rdN_lt
            refine W.block ?_
            refine W.seq ?_
            refine W.region ?_
            refine WL.val run_move rfl rfl ?_
            refine WL.eff (eff_call Tryz.call83 (rnum_ok (F := F) (n := 8) (s := s) (by decide) (by decide) (h.fetch (blk b12 [.slice ab s.1.length cb, .bool s.2] 72)) C)) rfl rfl ?_
            rintro _ w ⟨ab, cb, C, rfl, h⟩
            refine WL.val run_assign rfl rfl ?_
            refine WL.nil ?_
            refine W.seq ?_
            refine W.region ?_
            refine WL.val run_move rfl rfl ?_
            refine WL.eff (eff_call Tryz.call83 (rnum_ok (F := F) (n := 1) (s := (rdN 8 s).2) (by decide) (by decide) (h.fetch (blk b12 [.slice ab (rdN 8 s).2.1.length cb, .bool (rdN 8 s).2.2] 72)) C)) rfl rfl ?_
            rintro _ w ⟨ab, cb, C, rfl, h⟩
            refine WL.val (run_convInt64 Tryz.underlying23 Tryz.underlying3 rfl (by omega) (by omega)) rfl rfl ?_
            refine WL.val run_move rfl rfl ?_
            refine WL.eff (eff_call Tryz.call83 (rnum_ok (F := F) (n := 1) (s := (rdN 1 (rdN 8 s).2).2) (by decide) (by decide) (h.fetch (blk b12 [.slice ab (rdN 1 (rdN 8 s).2).2.1.length cb, .bool (rdN 1 (rdN 8 s).2).2.2] 72)) C)) rfl rfl ?_
            rintro _ w ⟨ab, cb, C, rfl, h⟩
            refine WL.val (run_convInt64 Tryz.underlying23 Tryz.underlying3 rfl (by omega) (by omega)) rfl rfl ?_
            refine WL.val (run_buildS (pl := [(0, 1), (1, 1), (2, 1), (3, 1), (4, 1)]) (out := [.int .i64 _, .int .i64 _, .int .i64 _, .slice _ _ _, .int .i64 _]) Tryz.underlying36 Tryz.zeroValue36 (fun w => by kernel_rfl) rfl (⟨⟨_, _, rfl, rfl, by decide⟩, ⟨⟨_, _, rfl, rfl, by decide⟩, trivial⟩⟩) rfl) rfl rfl ?_
            refine WL.eff (eff_alloc h Tryz.zeroValue36 rfl) rfl rfl ?_
            rintro _ w ⟨b9, rfl, h⟩
            refine WL.eff (eff_storeN (vs := [.int .i64 _, .int .i64 _, .int .i64 _, .slice _ _ _, .int .i64 _]) h Tryz.sizeOf36 rfl rfl rfl rfl rfl (fun k _ _ => free0 k)) rfl rfl ?_
            rintro _ w h
            try simp only [splice, List.take_zero, List.take_succ_cons, List.take_nil, List.drop_succ_cons, List.drop_zero, List.drop_nil, List.nil_append, List.cons_append, List.append_nil, List.length_cons, List.length_nil, Nat.zero_add, Nat.reduceAdd] at h
            refine WL.nil ?_
            refine W.seq ?_
            refine W.region ?_
            refine WL.val run_move rfl rfl ?_
            refine WL.eff (eff_call Tryz.call83 (rnum_ok (F := F) (n := 2) (s := (rdN 1 (rdN 1 (rdN 8 s).2).2).2) (by decide) (by decide) (h.fetch (blk b12 [.slice ab (rdN 1 (rdN 1 (rdN 8 s).2).2).2.1.length cb, .bool (rdN 1 (rdN 1 (rdN 8 s).2).2).2.2] 72)) C)) rfl rfl ?_
            rintro _ w ⟨ab, cb, C, rfl, h⟩
            refine WL.val (run_convInt64 Tryz.underlying23 Tryz.underlying3 rfl (by omega) (by omega)) rfl rfl ?_
            refine WL.val run_move rfl rfl ?_
            refine WL.eff (eff_call Tryz.call83 (rnum_ok (F := F) (n := 4) (s := (rdN 2 (rdN 1 (rdN 1 (rdN 8 s).2).2).2).2) (by decide) (by decide) (h.fetch (blk b12 [.slice ab (rdN 2 (rdN 1 (rdN 1 (rdN 8 s).2).2).2).2.1.length cb, .bool (rdN 2 (rdN 1 (rdN 1 (rdN 8 s).2).2).2).2.2] 72)) C)) rfl rfl ?_
            rintro _ w ⟨ab, cb, C, rfl, h⟩
            refine WL.val (run_convInt64 Tryz.underlying23 Tryz.underlying3 rfl (by omega) (by omega)) rfl rfl ?_
            refine WL.val (run_fieldAddr 2 Tryz.underlying36 rfl Tryz.sizeOf3 rfl rfl) rfl rfl ?_
            refine WL.eff (eff_store (v := .int .i64 _) h Tryz.sizeOf3 rfl rfl rfl rfl rfl) rfl rfl ?_
            rintro _ w h
            try simp only [Nat.zero_add, Nat.add_zero, List.set_cons_zero, List.set_cons_succ] at h
            refine WL.val (run_fieldAddr 4 Tryz.underlying36 rfl Tryz.sizeOf3 rfl rfl) rfl rfl ?_
            refine WL.eff (eff_store (v := .int .i64 _) h Tryz.sizeOf3 rfl rfl rfl rfl rfl) rfl rfl ?_
            rintro _ w h
            try simp only [Nat.zero_add, Nat.add_zero, List.set_cons_zero, List.set_cons_succ] at h
            refine WL.nil ?_
            refine W.seq ?_
            refine W.region ?_
            refine WL.val run_move rfl rfl ?_
            refine WL.eff (eff_call Tryz.call30 (rprt_ok (F := F) (s := (rdN 4 (rdN 2 (rdN 1 (rdN 1 (rdN 8 s).2).2).2).2).2) (h.fetch (blk b12 [.slice ab (rdN 4 (rdN 2 (rdN 1 (rdN 1 (rdN 8 s).2).2).2).2).2.1.length cb, .bool (rdN 4 (rdN 2 (rdN 1 (rdN 1 (rdN 8 s).2).2).2).2).2.2] 72)) C)) rfl rfl ?_
            rintro _ w ⟨a1, c1, ab, cb, C1, C, rfl, h⟩
            refine WL.eff (eff_call Tryz.call85 (clone_bytes (bs := (rdP (rdN 4 (rdN 2 (rdN 1 (rdN 1 (rdN 8 s).2).2).2).2).2).1) h (Gives.to C1) (by omega))) rfl rfl ?_
            rintro _ w ⟨a75, c75, rfl, h⟩
            refine WL.val (run_fieldAddr 3 Tryz.underlying36 rfl Tryz.sizeOf22 rfl rfl) rfl rfl ?_
            refine WL.eff (eff_store (v := .slice _ _ _) h Tryz.sizeOf22 rfl rfl rfl rfl rfl) rfl rfl ?_
            rintro _ w h
            try simp only [Nat.zero_add, Nat.add_zero, List.set_cons_zero, List.set_cons_succ] at h
            refine WL.nil ?_
            refine W.draw Tryz.follows h (fun w h => ?_)
            refine WT.pure 0 rfl (by kernel_rfl) (fun w' => run_move) rfl rfl ?_
            refine WT.pure 1 rfl (by kernel_rfl) (fun w' => (run_nilCheck rfl)) rfl rfl ?_
            refine WT.pure 2 rfl (by kernel_rfl) (fun w' => (run_fieldAddr 2 Tryz.underlying81 rfl Tryz.sizeOf79 rfl rfl)) rfl rfl ?_
            refine WT.load1 3 rfl (by kernel_rfl) Tryz.isAgg79 rfl (h.cellB (ucell (bs := bs) (bt := bt) hg3 (k := 2) (x := .map (some mb)) (by decide) rfl)) rfl rfl ?_
            refine WT.pure 4 rfl (by kernel_rfl) (fun w' => run_move) rfl rfl ?_
            refine WT.loadN (vs := [.int .i64 _, .int .i64 _, .int .i64 _, .slice _ _ _, .int .i64 _]) 5 rfl (by kernel_rfl) Tryz.isAgg36 Tryz.sizeOf36 rfl rfl (h.rowV (n := 5) rfl) rfl rfl ?_
            refine WT.eff 6 [false, false] rfl (by kernel_rfl) (by kernel_rfl) (eff_mapUpdate (k := ((rdN 8 s).1 : Int)) (v := (⟨((rdN 1 (rdN 8 s).2).1 : Int), ((rdN 1 (rdN 1 (rdN 8 s).2).2).1 : Int), ((rdN 2 (rdN 1 (rdN 1 (rdN 8 s).2).2).2).1 : Int), (rdP (rdN 4 (rdN 2 (rdN 1 (rdN 1 (rdN 8 s).2).2).2).2).2).1, ((rdN 4 (rdN 2 (rdN 1 (rdN 1 (rdN 8 s).2).2).2).2).1 : Int)⟩ : Rp).val (.slice a75 (rdP (rdN 4 (rdN 2 (rdN 1 (rdN 1 (rdN 8 s).2).2).2).2).2).1.length c75)) (h.fetch (MapC mb .u64 kvs ck)) Tryz.underlying79 Tryz.underlying23 rfl rfl rfl) rfl rfl ?_
            rintro _ w h
            have h := On.toPool ((h.fetch (Pool pool2)).fetch (OwnB (.slice a75 (rdP (rdN 4 (rdN 2 (rdN 1 (rdN 1 (rdN 8 s).2).2).2).2).2).1.length c75) (rdP (rdN 4 (rdN 2 (rdN 1 (rdN 1 (rdN 8 s).2).2).2).2).2).1))
            refine ⟨trivial, ?_⟩
            refine WT.done (by kernel_rfl) ?_
            refine W.region ?_
            refine WL.val run_move rfl rfl ?_
            refine WL.val (run_subK (k := .u64) (m := n) (n := 1) rfl rfl (by omega) (by show _ ≤ (18446744073709551615 : Int); omega)) rfl rfl ?_
            refine WL.val run_assign rfl rfl ?_
            refine WL.nil ?_
            -- round, path LTT
            have ob_ : ∃ m, n = m + 1 := ⟨n - 1, by omega⟩
            obtain ⟨m, rfl⟩ := ob_
            have hs2 : s.2 = false := by simpa using c17
            have hXd := rdDone_step (m := m) (D := D) hs2
            rw [hXd] at hX4
            have hok2 := okD_set (id := ((rdN 8 s).1 : Int)) (r := (⟨((rdN 1 (rdN 8 s).2).1 : Int), ((rdN 1 (rdN 1 (rdN 8 s).2).2).1 : Int), ((rdN 2 (rdN 1 (rdN 1 (rdN 8 s).2).2).2).1 : Int), (rdP (rdN 4 (rdN 2 (rdN 1 (rdN 1 (rdN 8 s).2).2).2).2).2).1, ((rdN 4 (rdN 2 (rdN 1 (rdN 1 (rdN 8 s).2).2).2).2).1 : Int)⟩ : Rp)) (dv := (.slice a75 (rdP (rdN 4 (rdN 2 (rdN 1 (rdN 1 (rdN 8 s).2).2).2).2).2).1.length c75)) (ck := ck) (okD_more (p := ((.slice a75 (rdP (rdN 4 (rdN 2 (rdN 1 (rdN 1 (rdN 8 s).2).2).2).2).2).1.length c75), (rdP (rdN 4 (rdN 2 (rdN 1 (rdN 1 (rdN 8 s).2).2).2).2).2).1)) hok) (List.mem_cons_self ..)
            have hl6 : (rdP (rdN 4 (rdN 2 (rdN 1 (rdN 1 (rdN 8 s).2).2).2).2).2).2.1.length ≤ 100000 := by omega
            exact ⟨m, ⟨_, ab, cb, (rdP (rdN 4 (rdN 2 (rdN 1 (rdN 1 (rdN 8 s).2).2).2).2).2).2, putD D ((rdN 8 s).1 : Int) (⟨((rdN 1 (rdN 8 s).2).1 : Int), ((rdN 1 (rdN 1 (rdN 8 s).2).2).1 : Int), ((rdN 2 (rdN 1 (rdN 1 (rdN 8 s).2).2).2).1 : Int), (rdP (rdN 4 (rdN 2 (rdN 1 (rdN 1 (rdN 8 s).2).2).2).2).2).1, ((rdN 4 (rdN 2 (rdN 1 (rdN 1 (rdN 8 s).2).2).2).2).1 : Int)⟩ : Rp), putM kvs ((rdN 8 s).1 : Int) ((⟨((rdN 1 (rdN 8 s).2).1 : Int), ((rdN 1 (rdN 1 (rdN 8 s).2).2).1 : Int), ((rdN 2 (rdN 1 (rdN 1 (rdN 8 s).2).2).2).1 : Int), (rdP (rdN 4 (rdN 2 (rdN 1 (rdN 1 (rdN 8 s).2).2).2).2).2).1, ((rdN 4 (rdN 2 (rdN 1 (rdN 1 (rdN 8 s).2).2).2).2).1 : Int)⟩ : Rp).val (.slice a75 (rdP (rdN 4 (rdN 2 (rdN 1 (rdN 1 (rdN 8 s).2).2).2).2).2).1.length c75)) ck, clockM kvs ((rdN 8 s).1 : Int) ck, ((.slice a75 (rdP (rdN 4 (rdN 2 (rdN 1 (rdN 1 (rdN 8 s).2).2).2).2).2).1.length c75), (rdP (rdN 4 (rdN 2 (rdN 1 (rdN 1 (rdN 8 s).2).2).2).2).2).1) :: pool2, C, hX4, hl6, by omega, hok2, fun p hp => List.mem_cons_of_mem _ (hps p hp), mkE_of ⟨rfl, rfl, rfl, trivial⟩, h.to⟩, by show m < m + 1; omega⟩
          · skip
            refine W.exit ?_
            -- to the cut, path LTF
            have hs2 : s.2 = true := by simpa using c17
            rw [rdDone_bad hs2] at hX4
            exact ⟨_, ab, cb, s, D, kvs, ck, pool2, hX4, hok, hps, mkE_of ⟨rfl, trivial⟩, h.to⟩
        · skip
          refine WL.val run_move rfl rfl ?_
          refine WL.skip rfl rfl ?_
          refine WL.skip rfl rfl ?_
          refine WL.skip rfl rfl ?_
          refine WL.skip rfl rfl ?_
          refine WL.skip rfl rfl ?_
          refine WL.val (run_pickF rfl) rfl rfl ?_
          refine WL.nil ?_
          refine W.condF rfl ?_
          refine W.exit ?_
          -- to the cut, path LF
          have ob_ : n = 0 := by omega
          obtain rfl := ob_
          exact ⟨_, ab, cb, s, D, kvs, ck, pool2, hX4, hok, hps, mkE_of ⟨rfl, trivial⟩, h.to⟩
    · clear h C
      rintro env w ⟨j, ab, cb, s, D, kvs, ck, pool2, hX4, hok, hps, rfl, h⟩
      have hD1 : D = (rdDone (rdN 2 (rdN 8 (rdCodes (rdN 2 (b, false)).1 (rdN 2 (b, false)).2 []).2).2).1 (rdN 2 (rdN 8 (rdCodes (rdN 2 (b, false)).1 (rdN 2 (b, false)).2 []).2).2).2 []).1 := congrArg Prod.fst hX4
      have hs1 : s = (rdDone (rdN 2 (rdN 8 (rdCodes (rdN 2 (b, false)).1 (rdN 2 (b, false)).2 []).2).2).1 (rdN 2 (rdN 8 (rdCodes (rdN 2 (b, false)).1 (rdN 2 (b, false)).2 []).2).2).2 []).2 := congrArg Prod.snd hX4
      subst hD1
      subst hs1
      refine W.seq ?_
      refine W.region ?_
      refine WL.val run_move rfl rfl ?_
      refine WL.val (run_nilCheck rfl) rfl rfl ?_
      refine WL.val (run_fieldAddr 1 Tryz.underlying72 rfl Tryz.sizeOf4 rfl rfl) rfl rfl ?_
      refine WL.val (run_load1 Tryz.isAgg4 rfl (h.cellB rfl)) rfl rfl ?_
      refine WL.boolB (run_not rfl) rfl rfl (fun c87 => ?_) (fun c87 => ?_)
      · skip
        refine WL.val run_move rfl rfl ?_
        refine WL.val run_move rfl rfl ?_
        refine WL.val (run_nilCheck rfl) rfl rfl ?_
        refine WL.val (run_fieldAddr 0 Tryz.underlying72 rfl Tryz.sizeOf22 rfl rfl) rfl rfl ?_
        refine WL.val (run_load1 Tryz.isAgg22 rfl (h.cellB rfl)) rfl rfl ?_
        refine WL.val (run_lenSlice Tryz.underlying22 rfl) rfl rfl ?_
        refine WL.val (run_eql rfl rfl) rfl rfl ?_
        refine WL.val (run_pickT rfl) rfl rfl ?_
        refine WL.val run_assign rfl rfl ?_
        refine WL.nil ?_
        refine W.ret ?_
        refine bodyQ.r1 (v := .bool _) Tryz.results33 rfl ?_
        -- path T
        rw [readG_eq]
        have er : (⟨⟨(rdCodes (rdN 2 (b, false)).1 (rdN 2 (b, false)).2 []).1, ((rdN 8 (rdCodes (rdN 2 (b, false)).1 (rdN 2 (b, false)).2 []).2).1 : Int), (rdDone (rdN 2 (rdN 8 (rdCodes (rdN 2 (b, false)).1 (rdN 2 (b, false)).2 []).2).2).1 (rdN 2 (rdN 8 (rdCodes (rdN 2 (b, false)).1 (rdN 2 (b, false)).2 []).2).2).2 []).1⟩, a, c, mb, ck, kvs⟩ : GX).row = (⟨⟨(rdCodes (rdN 2 (b, false)).1 (rdN 2 (b, false)).2 []).1, ((rdN 8 (rdCodes (rdN 2 (b, false)).1 (rdN 2 (b, false)).2 []).2).1 : Int), []⟩, a, c, mb, 0, []⟩ : GX).row := rfl
        have e1 := rows_same (gs := gs.set i (⟨⟨(rdCodes (rdN 2 (b, false)).1 (rdN 2 (b, false)).2 []).1, ((rdN 8 (rdCodes (rdN 2 (b, false)).1 (rdN 2 (b, false)).2 []).2).1 : Int), []⟩, a, c, mb, 0, []⟩ : GX)) (i := i) (g := (⟨⟨(rdCodes (rdN 2 (b, false)).1 (rdN 2 (b, false)).2 []).1, ((rdN 8 (rdCodes (rdN 2 (b, false)).1 (rdN 2 (b, false)).2 []).2).1 : Int), []⟩, a, c, mb, 0, []⟩ : GX)) (g' := (⟨⟨(rdCodes (rdN 2 (b, false)).1 (rdN 2 (b, false)).2 []).1, ((rdN 8 (rdCodes (rdN 2 (b, false)).1 (rdN 2 (b, false)).2 []).2).1 : Int), (rdDone (rdN 2 (rdN 8 (rdCodes (rdN 2 (b, false)).1 (rdN 2 (b, false)).2 []).2).2).1 (rdN 2 (rdN 8 (rdCodes (rdN 2 (b, false)).1 (rdN 2 (b, false)).2 []).2).2).2 []).1⟩, a, c, mb, ck, kvs⟩ : GX)) (List.getElem?_set_self hig : (gs.set i (⟨⟨(rdCodes (rdN 2 (b, false)).1 (rdN 2 (b, false)).2 []).1, ((rdN 8 (rdCodes (rdN 2 (b, false)).1 (rdN 2 (b, false)).2 []).2).1 : Int), []⟩, a, c, mb, 0, []⟩ : GX))[i]? = some (⟨⟨(rdCodes (rdN 2 (b, false)).1 (rdN 2 (b, false)).2 []).1, ((rdN 8 (rdCodes (rdN 2 (b, false)).1 (rdN 2 (b, false)).2 []).2).1 : Int), []⟩, a, c, mb, 0, []⟩ : GX)) er
        rw [List.set_set] at e1
        have e : ucells bs bt (gs.set i (⟨⟨(rdCodes (rdN 2 (b, false)).1 (rdN 2 (b, false)).2 []).1, ((rdN 8 (rdCodes (rdN 2 (b, false)).1 (rdN 2 (b, false)).2 []).2).1 : Int), []⟩, a, c, mb, 0, []⟩ : GX)) = ucells bs bt (gs.set i (⟨⟨(rdCodes (rdN 2 (b, false)).1 (rdN 2 (b, false)).2 []).1, ((rdN 8 (rdCodes (rdN 2 (b, false)).1 (rdN 2 (b, false)).2 []).2).1 : Int), (rdDone (rdN 2 (rdN 8 (rdCodes (rdN 2 (b, false)).1 (rdN 2 (b, false)).2 []).2).2).1 (rdN 2 (rdN 8 (rdCodes (rdN 2 (b, false)).1 (rdN 2 (b, false)).2 []).2).2).2 []).1⟩, a, c, mb, ck, kvs⟩ : GX)) := by show _ :: _ :: _ = _ :: _ :: (gs.set i (⟨⟨(rdCodes (rdN 2 (b, false)).1 (rdN 2 (b, false)).2 []).1, ((rdN 8 (rdCodes (rdN 2 (b, false)).1 (rdN 2 (b, false)).2 []).2).1 : Int), (rdDone (rdN 2 (rdN 8 (rdCodes (rdN 2 (b, false)).1 (rdN 2 (b, false)).2 []).2).2).1 (rdN 2 (rdN 8 (rdCodes (rdN 2 (b, false)).1 (rdN 2 (b, false)).2 []).2).2).2 []).1⟩, a, c, mb, ck, kvs⟩ : GX)).flatMap GX.row; rw [e1]
        have h := h.fetch (blk bu (ucells bs bt (gs.set i (⟨⟨(rdCodes (rdN 2 (b, false)).1 (rdN 2 (b, false)).2 []).1, ((rdN 8 (rdCodes (rdN 2 (b, false)).1 (rdN 2 (b, false)).2 []).2).1 : Int), []⟩, a, c, mb, 0, []⟩ : GX))) 84)
        rw [e] at h
        refine ⟨a, c, ck, kvs, pool2, hok, hps, congrArg Value.bool ?_, h.to⟩
        rw [c87]
        rw [Bool.true_and]
        exact decide_eq_decide.2 ⟨fun e0 => List.eq_nil_of_length_eq_zero (by omega), fun e0 => by rw [e0]; rfl⟩
      · skip
        refine WL.val run_move rfl rfl ?_
        refine WL.skip rfl rfl ?_
        refine WL.skip rfl rfl ?_
        refine WL.skip rfl rfl ?_
        refine WL.skip rfl rfl ?_
        refine WL.skip rfl rfl ?_
        refine WL.skip rfl rfl ?_
        refine WL.val (run_pickF rfl) rfl rfl ?_
        refine WL.val run_assign rfl rfl ?_
        refine WL.nil ?_
        refine W.ret ?_
        refine bodyQ.r1 (v := .bool _) Tryz.results33 rfl ?_
        -- path F
        rw [readG_eq]
        have er : (⟨⟨(rdCodes (rdN 2 (b, false)).1 (rdN 2 (b, false)).2 []).1, ((rdN 8 (rdCodes (rdN 2 (b, false)).1 (rdN 2 (b, false)).2 []).2).1 : Int), (rdDone (rdN 2 (rdN 8 (rdCodes (rdN 2 (b, false)).1 (rdN 2 (b, false)).2 []).2).2).1 (rdN 2 (rdN 8 (rdCodes (rdN 2 (b, false)).1 (rdN 2 (b, false)).2 []).2).2).2 []).1⟩, a, c, mb, ck, kvs⟩ : GX).row = (⟨⟨(rdCodes (rdN 2 (b, false)).1 (rdN 2 (b, false)).2 []).1, ((rdN 8 (rdCodes (rdN 2 (b, false)).1 (rdN 2 (b, false)).2 []).2).1 : Int), []⟩, a, c, mb, 0, []⟩ : GX).row := rfl
        have e1 := rows_same (gs := gs.set i (⟨⟨(rdCodes (rdN 2 (b, false)).1 (rdN 2 (b, false)).2 []).1, ((rdN 8 (rdCodes (rdN 2 (b, false)).1 (rdN 2 (b, false)).2 []).2).1 : Int), []⟩, a, c, mb, 0, []⟩ : GX)) (i := i) (g := (⟨⟨(rdCodes (rdN 2 (b, false)).1 (rdN 2 (b, false)).2 []).1, ((rdN 8 (rdCodes (rdN 2 (b, false)).1 (rdN 2 (b, false)).2 []).2).1 : Int), []⟩, a, c, mb, 0, []⟩ : GX)) (g' := (⟨⟨(rdCodes (rdN 2 (b, false)).1 (rdN 2 (b, false)).2 []).1, ((rdN 8 (rdCodes (rdN 2 (b, false)).1 (rdN 2 (b, false)).2 []).2).1 : Int), (rdDone (rdN 2 (rdN 8 (rdCodes (rdN 2 (b, false)).1 (rdN 2 (b, false)).2 []).2).2).1 (rdN 2 (rdN 8 (rdCodes (rdN 2 (b, false)).1 (rdN 2 (b, false)).2 []).2).2).2 []).1⟩, a, c, mb, ck, kvs⟩ : GX)) (List.getElem?_set_self hig : (gs.set i (⟨⟨(rdCodes (rdN 2 (b, false)).1 (rdN 2 (b, false)).2 []).1, ((rdN 8 (rdCodes (rdN 2 (b, false)).1 (rdN 2 (b, false)).2 []).2).1 : Int), []⟩, a, c, mb, 0, []⟩ : GX))[i]? = some (⟨⟨(rdCodes (rdN 2 (b, false)).1 (rdN 2 (b, false)).2 []).1, ((rdN 8 (rdCodes (rdN 2 (b, false)).1 (rdN 2 (b, false)).2 []).2).1 : Int), []⟩, a, c, mb, 0, []⟩ : GX)) er
        rw [List.set_set] at e1
        have e : ucells bs bt (gs.set i (⟨⟨(rdCodes (rdN 2 (b, false)).1 (rdN 2 (b, false)).2 []).1, ((rdN 8 (rdCodes (rdN 2 (b, false)).1 (rdN 2 (b, false)).2 []).2).1 : Int), []⟩, a, c, mb, 0, []⟩ : GX)) = ucells bs bt (gs.set i (⟨⟨(rdCodes (rdN 2 (b, false)).1 (rdN 2 (b, false)).2 []).1, ((rdN 8 (rdCodes (rdN 2 (b, false)).1 (rdN 2 (b, false)).2 []).2).1 : Int), (rdDone (rdN 2 (rdN 8 (rdCodes (rdN 2 (b, false)).1 (rdN 2 (b, false)).2 []).2).2).1 (rdN 2 (rdN 8 (rdCodes (rdN 2 (b, false)).1 (rdN 2 (b, false)).2 []).2).2).2 []).1⟩, a, c, mb, ck, kvs⟩ : GX)) := by show _ :: _ :: _ = _ :: _ :: (gs.set i (⟨⟨(rdCodes (rdN 2 (b, false)).1 (rdN 2 (b, false)).2 []).1, ((rdN 8 (rdCodes (rdN 2 (b, false)).1 (rdN 2 (b, false)).2 []).2).1 : Int), (rdDone (rdN 2 (rdN 8 (rdCodes (rdN 2 (b, false)).1 (rdN 2 (b, false)).2 []).2).2).1 (rdN 2 (rdN 8 (rdCodes (rdN 2 (b, false)).1 (rdN 2 (b, false)).2 []).2).2).2 []).1⟩, a, c, mb, ck, kvs⟩ : GX)).flatMap GX.row; rw [e1]
        have h := h.fetch (blk bu (ucells bs bt (gs.set i (⟨⟨(rdCodes (rdN 2 (b, false)).1 (rdN 2 (b, false)).2 []).1, ((rdN 8 (rdCodes (rdN 2 (b, false)).1 (rdN 2 (b, false)).2 []).2).1 : Int), []⟩, a, c, mb, 0, []⟩ : GX))) 84)
        rw [e] at h
        refine ⟨a, c, ck, kvs, pool2, hok, hps, congrArg Value.bool ?_, h.to⟩
        rw [c87]
        rfl

end Go.Proofs.YtdpakoefdpmebaaGreat
