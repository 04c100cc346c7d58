/-
  A unit: a guest, a unit written: the contracts. Lines of walks printed by a program of the prover's.
-/
import Derived.Test.YtdpakoefdpmebaaGreatUnit9
namespace Go.Proofs.YtdpakoefdpmebaaGreat
open Go Go.Sl Go.Sl.BitM Go.Sl.SpM Go.Sl.RsM Go.Sl.ByM Go.Sl.UnM
set_option linter.unusedVariables false
set_option linter.unusedSimpArgs false
set_option maxHeartbeats 1000000
set_option maxRecDepth 8000
variable {W0 w : World} {L F : List HProp}

theorem gwrite_ok {codes : List Int} {fl mb ck gc : Nat} {done : List (Int × Rp)} {ga : Option Addr} {kvs : List KV} {pool : PoolL} (hok : okD pool done kvs) (hg : okG (⟨codes, ((fl : Nat) : Int), done⟩ : Gs)) (hd1 : done.length ≤ 1) (h : On W0 (Own 1 (.slice ga codes.length gc) codes.length (cV codes) :: MapC mb .u64 kvs ck :: Pool pool :: L) w) : Calls Tryz.prog 78 #[.agg #[.slice ga codes.length gc, .int .u64 ((fl : Nat) : Int), .map (some mb)]] w (Ret fun v w' => ∃ a c, v = .slice a (guestB (⟨codes, ((fl : Nat) : Int), done⟩ : Gs)).length c ∧ On W0 (OwnB (.slice a (guestB (⟨codes, ((fl : Nat) : Int), done⟩ : Gs)).length c) (guestB (⟨codes, ((fl : Nat) : Int), done⟩ : Gs)) :: Own 1 (.slice ga codes.length gc) codes.length (cV codes) :: MapC mb .u64 kvs ck :: Pool pool :: L) w') := by
  refine enter Tryz.func78 rfl Tryz.ntmps78 rfl ?_
  have hmx := maxLen_eq
  obtain ⟨hc1, hc2, hf1, hf2, hdn⟩ := hg
  have hc1 : codes.length ≤ 10000 := hc1
  have hf2 : ((fl : Nat) : Int) < 18446744073709551616 := hf2
  have hkl : kvs.length = done.length := by have := hok.1.length_eq; simpa using this
  have e0 : [] ++ be codes.length 2 = (codesB codes 0) := by unfold codesB; simp
  have hhl := headB_len (⟨codes, ((fl : Nat) : Int), done⟩ : Gs)
  have hhl : (headB (⟨codes, ((fl : Nat) : Int), done⟩ : Gs)).length = 12 + codes.length * 2 := hhl
  have hRd : ∀ x ∈ done, okR x.2 := fun x hx => (hdn x hx).2
  have hdl := done_len hd1 hRd
  refine W.seq ?_
  refine W.region ?_
  refine WL.eff (eff_box (v := .agg _) (l := [.slice ga codes.length gc, .int .u64 ((fl : Nat) : Int), .map (some mb)]) h rfl rfl) rfl rfl ?_
  rintro _ w ⟨b1, rfl, h⟩
  refine WL.val run_assign rfl rfl ?_
  refine WL.nil ?_
  refine W.seq ?_
  refine W.region ?_
  refine WL.val (run_fieldAddr 0 Tryz.underlying81 rfl Tryz.sizeOf43 rfl rfl) rfl rfl ?_
  refine WL.val (run_load1 Tryz.isAgg43 rfl (h.cellB rfl)) rfl rfl ?_
  refine WL.val (run_lenSlice Tryz.underlying43 rfl) rfl rfl ?_
  refine WL.val (run_convIn Tryz.underlying3 Tryz.underlying23 rfl (by show (0 : Int) ≤ _; omega) (by show _ ≤ (18446744073709551615 : Int); omega)) rfl rfl ?_
  refine WL.eff (eff_call Tryz.call87 (bput_ok (ax := none) (cx := 0) (bs := []) (v := codes.length) (n := 2) h Gives.nilB (by decide) (by decide) (by omega) (by decide))) rfl rfl ?_
  rintro _ w ⟨a13, hv, h⟩
  rw [e0] at hv h
  subst hv
  refine WL.val run_assign rfl rfl ?_
  refine WL.nil ?_
  refine W.seq ?_
  refine W.seq ?_
  refine W.region ?_
  refine WL.val (run_fieldAddr 0 Tryz.underlying81 rfl Tryz.sizeOf43 rfl rfl) rfl rfl ?_
  refine WL.val (run_load1 Tryz.isAgg43 rfl (h.cellB rfl)) rfl rfl ?_
  refine WL.val (run_lenSlice Tryz.underlying43 rfl) rfl rfl ?_
  refine WL.val run_move rfl rfl ?_
  refine WL.nil ?_
  refine W.block ?_
  refine W.loop (fun (k : Nat) env w => k ≤ codes.length ∧ ∃ (j : Env) (ao : Option Addr) (co : Nat), env = mkE j [(1, .pointer (some ⟨b1, 0, none⟩)), (3, .slice ao (codesB codes k).length co), (15, .slice ga codes.length gc), (16, .int .i64 (codes.length : Nat)), (17, .int .i64 (k : Nat))] ∧ On W0 (OwnB (.slice ao (codesB codes k).length co) (codesB codes k) :: Own 1 (.slice ga codes.length gc) codes.length (cV codes) :: MapC mb .u64 kvs ck :: Pool pool :: blk b1 [.slice ga codes.length gc, .int .u64 ((fl : Nat) : Int), .map (some mb)] 81 :: L) w) (fun k => codes.length - k) (0) ?_ ?_
  · exact ⟨Nat.zero_le _, _, a13, _, mkE_of ⟨rfl, rfl, rfl, rfl, rfl, trivial⟩, h.to⟩
  · rintro k env w ⟨hk8, j, ao, co, rfl, h⟩
    have hlk := codesB_len codes k hk8
    refine W.seq ?_
    refine W.region ?_
    refine WL.val (run_lss rfl rfl) rfl rfl ?_
    refine WL.nil ?_
    refine W.seq ?_
    refine W.condIf rfl (fun c6 => ?_) (fun c6 => ?_)
    · skip
      refine W.skip ?_
      refine W.seq ?_
      have hk7 : k < codes.length := by omega
      have ob_ : ∃ c, codes[k]? = some c := ⟨codes[k]'hk7, by simp⟩
      obtain ⟨c0, hcx⟩ := ob_
      have hcc := hc2 c0 (List.mem_of_getElem? hcx)
      have ob_ := Int.eq_ofNat_of_zero_le hcc.1
      obtain ⟨cn, hcn⟩ := ob_
      subst hcn
      have hcs : (codesB codes (k + 1)) = (codesB codes k) ++ be cn 2 := codesB_succ hcx
      have ob3_ := Own.addr (h.own (.slice ga codes.length gc)) (by omega)
      obtain ⟨ba, oa, haa⟩ := ob3_
      subst haa
      refine W.block ?_
      refine W.seq ?_
      refine W.region ?_
      refine WL.val (run_indexAddr Tryz.underlying43 Tryz.sizeOf3 rfl rfl (by omega) (by omega)) rfl rfl ?_
      refine WL.val (run_load1 Tryz.isAgg3 rfl ((h.cellsO (v := .slice (some ⟨ba, oa, none⟩) codes.length gc)).elem (i := k) (vs := [.int .i64 (cn : Int)]) (by omega) (cV_get hcx) 0 _ rfl)) rfl rfl ?_
      refine WL.val run_assign rfl rfl ?_
      refine WL.nil ?_
      refine W.region ?_
      refine WL.val run_move rfl rfl ?_
      refine WL.val run_move rfl rfl ?_
      refine WL.val (run_convIn Tryz.underlying3 Tryz.underlying23 rfl (by show (0 : Int) ≤ _; omega) (by show _ ≤ (18446744073709551615 : Int); omega)) rfl rfl ?_
      refine WL.eff (eff_call Tryz.call87 (bput_ok (v := cn) (n := 2) (bs := (codesB codes k)) h (Gives.ownO (v := .slice ao (codesB codes k).length co)) (by decide) (by decide) (by omega) (by omega))) rfl rfl ?_
      rintro _ w ⟨a24, rfl, h⟩
      refine WL.val run_assign rfl rfl ?_
      refine WL.nil ?_
      refine W.region ?_
      refine WL.val (run_incN rfl rfl (by omega)) rfl rfl ?_
      refine WL.val run_move rfl rfl ?_
      refine WL.nil ?_
      -- round, path LT
      rw [← hcs] at h
      exact ⟨k + 1, ⟨by omega, _, a24, _, mkE_of ⟨rfl, congrArg (fun q : List UInt8 => Value.slice a24 q.length q.length) hcs.symm, rfl, rfl, rfl, trivial⟩, h.to⟩, by show codes.length - (k + 1) < codes.length - k; omega⟩
    · skip
      refine W.exit ?_
      refine W.seq ?_
      have ob_ : k = codes.length := by omega
      obtain rfl := ob_
      have hl29 : ((codesB codes codes.length) ++ be fl 8).length = 10 + codes.length * 2 := by rw [List.length_append, be_length]; omega
      refine W.draw Tryz.follows h (fun w h => ?_)
      refine WT.pure 0 rfl (by kernel_rfl) (fun w' => run_move) rfl rfl ?_
      refine WT.pure 1 rfl (by kernel_rfl) (fun w' => (run_fieldAddr 1 Tryz.underlying81 rfl Tryz.sizeOf23 rfl rfl)) rfl rfl ?_
      refine WT.load1 2 rfl (by kernel_rfl) Tryz.isAgg23 rfl (h.cellB rfl) rfl rfl ?_
      refine WT.pure 4 rfl (by kernel_rfl) (fun w' => (run_fieldAddr 2 Tryz.underlying81 rfl Tryz.sizeOf79 rfl rfl)) rfl rfl ?_
      refine WT.load1 5 rfl (by kernel_rfl) Tryz.isAgg79 rfl (h.cellB rfl) rfl rfl ?_
      refine WT.eff 3 [true, false] rfl (by kernel_rfl) (by kernel_rfl) (eff_call Tryz.call87 (bput_ok (v := fl) (n := 8) (bs := (codesB codes codes.length)) h (Gives.ownO (v := .slice ao (codesB codes codes.length).length co)) (by decide) (by decide) (by omega) (by omega))) rfl rfl ?_
      rintro _ w ⟨a29, rfl, h⟩
      refine ⟨⟨h.cellB rfl, trivial⟩, ?_⟩
      refine WT.take 6 (fun w => w.heap[mb]? = some (mapO .u64 kvs ck)) rfl (by kernel_rfl) rfl rfl ((On.mapC (h.fetch (MapC mb .u64 kvs ck))).2) (fun w' hC => run_lenMap hC rfl Tryz.underlying79 rfl hkl) ?_
      refine WT.pure 7 rfl (by kernel_rfl) (fun w' => (run_convIn Tryz.underlying3 Tryz.underlying23 rfl (by show (0 : Int) ≤ _; omega) (by show _ ≤ (18446744073709551615 : Int); omega))) rfl rfl ?_
      refine WT.eff 8 [false, false] rfl (by kernel_rfl) (by kernel_rfl) (eff_call Tryz.call87 (bput_ok (v := done.length) (n := 2) (bs := ((codesB codes codes.length) ++ be fl 8)) h (Gives.ownO (v := .slice a29 ((codesB codes codes.length) ++ be fl 8).length ((codesB codes codes.length) ++ be fl 8).length)) (by decide) (by decide) (by omega) (by omega))) rfl rfl ?_
      rintro _ w ⟨a34, rfl, h⟩
      have h : On W0 (OwnB (.slice a34 (headB (⟨codes, ((fl : Nat) : Int), done⟩ : Gs)).length (headB (⟨codes, ((fl : Nat) : Int), done⟩ : Gs)).length) (headB (⟨codes, ((fl : Nat) : Int), done⟩ : Gs)) :: _) w := h
      refine ⟨trivial, ?_⟩
      refine WT.pure 9 rfl (by kernel_rfl) (fun w' => run_assign) rfl rfl ?_
      refine WT.done (by kernel_rfl) ?_
      refine W.seq ?_
      refine W.seq ?_
      refine W.region ?_
      refine WL.val (run_fieldAddr 2 Tryz.underlying81 rfl Tryz.sizeOf79 rfl rfl) rfl rfl ?_
      refine WL.val (run_load1 Tryz.isAgg79 rfl (h.cellB rfl)) rfl rfl ?_
      refine WL.eff (eff_call Tryz.call129 (keysU_ok (h.fetch (MapC mb .u64 kvs ck)))) rfl rfl ?_
      rintro _ w ⟨bb, rfl, h⟩
      refine WL.eff (eff_call Tryz.call128 (sortedU_ok (by omega) h)) rfl rfl ?_
      rintro _ w ⟨as_, cs_, ss, hS, rfl, h⟩
      have hss : ss = done.map (·.1) := perm_one (hS.trans hok.1) (by rw [List.length_map]; exact hd1)
      subst hss
      have e00 : (headB (⟨codes, ((fl : Nat) : Int), done⟩ : Gs)) = ((headB (⟨codes, ((fl : Nat) : Int), done⟩ : Gs)) ++ (done.take 0).flatMap recB) := by simp
      have h := h.fetch (OwnB (.slice a34 (headB (⟨codes, ((fl : Nat) : Int), done⟩ : Gs)).length (headB (⟨codes, ((fl : Nat) : Int), done⟩ : Gs)).length) (headB (⟨codes, ((fl : Nat) : Int), done⟩ : Gs)))
      rw [e00] at h
      have hsl : (done.map (·.1)).length = done.length := List.length_map ..
      rw [hsl] at h
      refine WL.val (run_lenSlice Tryz.underlying129 rfl) rfl rfl ?_
      refine WL.val run_move rfl rfl ?_
      refine WL.nil ?_
      refine W.block ?_
      refine W.loop (fun (k : Nat) env w => k ≤ done.length ∧ ∃ (j : Env) (ao : Option Addr) (co : Nat), env = mkE j [(1, .pointer (some ⟨b1, 0, none⟩)), (3, .slice ao ((headB (⟨codes, ((fl : Nat) : Int), done⟩ : Gs)) ++ (done.take k).flatMap recB).length co), (38, .slice as_ done.length cs_), (39, .int .i64 (done.length : Nat)), (40, .int .i64 (k : Nat))] ∧ On W0 (OwnB (.slice ao ((headB (⟨codes, ((fl : Nat) : Int), done⟩ : Gs)) ++ (done.take k).flatMap recB).length co) ((headB (⟨codes, ((fl : Nat) : Int), done⟩ : Gs)) ++ (done.take k).flatMap recB) :: Own 1 (.slice as_ done.length cs_) done.length ((done.map (·.1)).map (Value.int .u64)) :: Own 1 (.slice ga codes.length gc) codes.length (cV codes) :: MapC mb .u64 kvs ck :: Pool pool :: blk b1 [.slice ga codes.length gc, .int .u64 ((fl : Nat) : Int), .map (some mb)] 81 :: L) w) (fun k => done.length - k) (0) ?_ ?_
      · exact ⟨Nat.zero_le _, _, a34, _, mkE_of ⟨rfl, congrArg (fun q : List UInt8 => Value.slice a34 q.length q.length) e00, congrArg (fun q => Value.slice as_ q cs_) hsl, congrArg (fun q : Nat => Value.int .i64 (q : Int)) hsl, rfl, trivial⟩, h.to⟩
      · rintro k env w ⟨hk8, j, ao, co, rfl, h⟩
        refine W.seq ?_
        refine W.region ?_
        refine WL.val (run_lss rfl rfl) rfl rfl ?_
        refine WL.nil ?_
        refine W.seq ?_
        refine W.condIf rfl (fun c18 => ?_) (fun c18 => ?_)
        · skip
          refine W.skip ?_
          refine W.seq ?_
          have hk7 : k < done.length := by omega
          have ob_ : ∃ x, done[k]? = some x := ⟨done[k]'hk7, by simp⟩
          obtain ⟨⟨id, r⟩, hx⟩ := ob_
          have hxm := List.mem_of_getElem? hx
          have ob_ := hdn _ hxm
          obtain ⟨⟨hi1, hi2⟩, hr⟩ := ob_
          have ob_ := Int.eq_ofNat_of_zero_le hi1
          obtain ⟨idn, hidn⟩ := ob_
          have hidn : id = (idn : Int) := hidn
          subst hidn
          obtain ⟨st, ky, cd, dt, inf⟩ := r
          obtain ⟨r1, r2, r3, r4, r5, r6, r7, r8, r9⟩ := hr
          have ob_ := Int.eq_ofNat_of_zero_le (show 0 ≤ cd from r5)
          obtain ⟨cdn, hcdn⟩ := ob_
          subst hcdn
          have ob_ := Int.eq_ofNat_of_zero_le (show 0 ≤ inf from r7)
          obtain ⟨infn, hinfn⟩ := ob_
          subst hinfn
          have r6 : (cdn : Int) < 65536 := r6
          have r8 : (infn : Int) < 4294967296 := r8
          have r9 : dt.length ≤ 10000 := r9
          have hi2 : (idn : Int) < 18446744073709551616 := hi2
          have hlk := look_ok hok ((idn : Nat) : Int)
          rcases hlk with ⟨r', dv, hl1, hl2, hp⟩ | ⟨_, _, hno⟩
          rotate_left
          · exact (hno (List.mem_map.2 ⟨_, hxm, rfl⟩)).elim
          have hre := Option.some.inj (hl1.symm.trans (lookD_mem hok.2.1 hxm))
          subst hre
          have hfm := Cells.form (On.reads (h.fetch (Pool pool)) (Gives.pool hp))
          obtain ⟨ad, cdd, hdv, _⟩ := hfm
          subst hdv
          have ob4_ := Own.addr (h.own (.slice as_ done.length cs_)) (by omega)
          obtain ⟨bs_, os_, has⟩ := ob4_
          subst has
          have hlo : ((headB (⟨codes, ((fl : Nat) : Int), done⟩ : Gs)) ++ (done.take k).flatMap recB).length ≤ 40000 := by rw [List.length_append]; have := hdl k; omega
          have hq1 : (((headB (⟨codes, ((fl : Nat) : Int), done⟩ : Gs)) ++ (done.take k).flatMap recB) ++ be idn 8).length ≤ 40008 := by rw [List.length_append, be_length]; omega
          have hq2 : ((((headB (⟨codes, ((fl : Nat) : Int), done⟩ : Gs)) ++ (done.take k).flatMap recB) ++ be idn 8) ++ [byteI st, byteI ky]).length ≤ 40010 := by rw [List.length_append]; simp only [List.length_cons, List.length_nil]; omega
          have hq3 : (((((headB (⟨codes, ((fl : Nat) : Int), done⟩ : Gs)) ++ (done.take k).flatMap recB) ++ be idn 8) ++ [byteI st, byteI ky]) ++ be cdn 2).length ≤ 40012 := by rw [List.length_append, be_length]; omega
          have hq4 : ((((((headB (⟨codes, ((fl : Nat) : Int), done⟩ : Gs)) ++ (done.take k).flatMap recB) ++ be idn 8) ++ [byteI st, byteI ky]) ++ be cdn 2) ++ be infn 4).length ≤ 40016 := by rw [List.length_append, be_length]; omega
          have e5 : partB ((((((headB (⟨codes, ((fl : Nat) : Int), done⟩ : Gs)) ++ (done.take k).flatMap recB) ++ be idn 8) ++ [byteI st, byteI ky]) ++ be cdn 2) ++ be infn 4) dt = ((headB (⟨codes, ((fl : Nat) : Int), done⟩ : Gs)) ++ (done.take (k + 1)).flatMap recB) := by
            rw [List.take_add_one, hx]
            simp [recB, partB]
          refine W.block ?_
          refine W.seq ?_
          refine W.region ?_
          refine WL.val (run_indexAddr Tryz.underlying129 Tryz.sizeOf23 rfl rfl (by omega) (by omega)) rfl rfl ?_
          refine WL.val (run_load1 Tryz.isAgg23 rfl ((h.cellsO (v := .slice (some ⟨bs_, os_, none⟩) done.length cs_)).elem (i := k) (vs := [.int .u64 ((idn : Nat) : Int)]) (by omega) (one_rowU (by rw [List.getElem?_map, List.getElem?_map, hx]; rfl)) 0 _ rfl)) rfl rfl ?_
          refine WL.val run_assign rfl rfl ?_
          refine WL.nil ?_
          refine W.seq ?_
          refine W.region ?_
          refine WL.val (run_fieldAddr 2 Tryz.underlying81 rfl Tryz.sizeOf79 rfl rfl) rfl rfl ?_
          refine WL.val (run_load1 Tryz.isAgg79 rfl (h.cellB rfl)) rfl rfl ?_
          refine WL.val run_move rfl rfl ?_
          refine WL.val (run_lookupV (v := (⟨st, ky, (cdn : Int), dt, (infn : Int)⟩ : Rp).val (.slice ad dt.length cdd)) (On.mapC (h.fetch (MapC mb .u64 kvs ck))).2 Tryz.underlying79 Tryz.underlying23 Tryz.zeroValue36 rfl rfl (by rw [hl2]; rfl)) rfl rfl ?_
          refine WL.eff (eff_alloc h Tryz.zeroValue36 rfl) rfl rfl ?_
          rintro _ w ⟨b8, rfl, h⟩
          refine WL.eff (eff_storeN (vs := [.int .i64 _, .int .i64 _, .int .i64 _, .slice _ _ _, .int .i64 _]) h Tryz.sizeOf36 rfl rfl rfl rfl rfl (fun k _ _ => free0 k)) rfl rfl ?_
          rintro _ w h
          try simp only [splice, List.take_zero, List.take_succ_cons, List.take_nil, List.drop_succ_cons, List.drop_zero, List.drop_nil, List.nil_append, List.cons_append, List.append_nil, List.length_cons, List.length_nil, Nat.zero_add, Nat.reduceAdd] at h
          refine WL.nil ?_
          refine W.seq ?_
          refine W.region ?_
          refine WL.val run_move rfl rfl ?_
          refine WL.val run_move rfl rfl ?_
          refine WL.eff (eff_call Tryz.call87 (bput_ok (v := idn) (n := 8) (bs := ((headB (⟨codes, ((fl : Nat) : Int), done⟩ : Gs)) ++ (done.take k).flatMap recB)) h (Gives.ownO (v := .slice ao ((headB (⟨codes, ((fl : Nat) : Int), done⟩ : Gs)) ++ (done.take k).flatMap recB).length co)) (by decide) (by decide) (by omega) (by omega))) rfl rfl ?_
          rintro _ w ⟨a50, rfl, h⟩
          refine WL.val run_assign rfl rfl ?_
          refine WL.nil ?_
          refine W.seq ?_
          refine W.region ?_
          refine WL.val run_move rfl rfl ?_
          refine WL.val (run_fieldAddr 0 Tryz.underlying36 rfl Tryz.sizeOf3 rfl rfl) rfl rfl ?_
          refine WL.val (run_load1 Tryz.isAgg3 rfl (h.cellB rfl)) rfl rfl ?_
          refine WL.val (run_convByteI Tryz.underlying3 Tryz.underlying5 rfl) rfl rfl ?_
          refine WL.val (run_fieldAddr 1 Tryz.underlying36 rfl Tryz.sizeOf3 rfl rfl) rfl rfl ?_
          refine WL.val (run_load1 Tryz.isAgg3 rfl (h.cellB rfl)) rfl rfl ?_
          refine WL.val (run_convByteI Tryz.underlying3 Tryz.underlying5 rfl) rfl rfl ?_
          refine WL.eff (eff_mkSlice (zl := [.int .u8 0, .int .u8 0]) (out := [.int .u8 _, .int .u8 _]) h Tryz.underlying22 Tryz.sizeOf5 Tryz.zeroValue5 (by decide) (by kernel_rfl) rfl rfl (by simp) (⟨⟨_, _, rfl, rfl, by decide⟩, ⟨⟨_, _, rfl, rfl, by decide⟩, trivial⟩⟩) rfl rfl (by simp [maxLen])) rfl rfl ?_
          rintro _ w ⟨b58, rfl, h⟩
          refine WL.eff (eff_app (c2 := 2) (bytes := 1) h rfl rfl (h.cellsO (v := .slice (some ⟨b58, 0, none⟩) 2 2)) Tryz.underlying22 rfl rfl rfl rfl rfl (by omega) (by omega) (by simp [Value.oneCell'])) rfl rfl ?_
          rintro _ w ⟨a59, c59, hv59, h⟩
          have e2 : bytesV (((headB (⟨codes, ((fl : Nat) : Int), done⟩ : Gs)) ++ (done.take k).flatMap recB) ++ be idn 8) ++ [.int .u8 ((byteI st).toNat : Int), .int .u8 ((byteI ky).toNat : Int)] = bytesV ((((headB (⟨codes, ((fl : Nat) : Int), done⟩ : Gs)) ++ (done.take k).flatMap recB) ++ be idn 8) ++ [byteI st, byteI ky]) := by simp [bytesV, byteV]
          have e3 : (((headB (⟨codes, ((fl : Nat) : Int), done⟩ : Gs)) ++ (done.take k).flatMap recB) ++ be idn 8).length + 2 = ((((headB (⟨codes, ((fl : Nat) : Int), done⟩ : Gs)) ++ (done.take k).flatMap recB) ++ be idn 8) ++ [byteI st, byteI ky]).length := by rw [List.length_append (bs := [byteI st, byteI ky])]; rfl
          have h : On W0 (Own 1 (.slice a59 ((((headB (⟨codes, ((fl : Nat) : Int), done⟩ : Gs)) ++ (done.take k).flatMap recB) ++ be idn 8).length + 2) c59) ((((headB (⟨codes, ((fl : Nat) : Int), done⟩ : Gs)) ++ (done.take k).flatMap recB) ++ be idn 8).length + 2) (bytesV (((headB (⟨codes, ((fl : Nat) : Int), done⟩ : Gs)) ++ (done.take k).flatMap recB) ++ be idn 8) ++ [.int .u8 ((byteI st).toNat : Int), .int .u8 ((byteI ky).toNat : Int)]) :: _) w := h
          rw [e2, e3] at h
          rw [e3] at hv59
          subst hv59
          refine WL.val run_assign rfl rfl ?_
          refine WL.nil ?_
          refine W.seq ?_
          refine W.draw Tryz.follows h (fun w h => ?_)
          refine WT.pure 0 rfl (by kernel_rfl) (fun w' => run_move) rfl rfl ?_
          refine WT.pure 1 rfl (by kernel_rfl) (fun w' => (run_fieldAddr 2 Tryz.underlying36 rfl Tryz.sizeOf3 rfl rfl)) rfl rfl ?_
          refine WT.load1 2 rfl (by kernel_rfl) Tryz.isAgg3 rfl (h.cellB rfl) rfl rfl ?_
          refine WT.pure 3 rfl (by kernel_rfl) (fun w' => (run_convIn Tryz.underlying3 Tryz.underlying23 rfl (by show (0 : Int) ≤ _; omega) (by show _ ≤ (18446744073709551615 : Int); omega))) rfl rfl ?_
          refine WT.pure 5 rfl (by kernel_rfl) (fun w' => (run_fieldAddr 4 Tryz.underlying36 rfl Tryz.sizeOf3 rfl rfl)) rfl rfl ?_
          refine WT.load1 6 rfl (by kernel_rfl) Tryz.isAgg3 rfl (h.cellB rfl) rfl rfl ?_
          refine WT.pure 7 rfl (by kernel_rfl) (fun w' => (run_convIn Tryz.underlying3 Tryz.underlying23 rfl (by show (0 : Int) ≤ _; omega) (by show _ ≤ (18446744073709551615 : Int); omega))) rfl rfl ?_
          refine WT.eff 4 [true, false] rfl (by kernel_rfl) (by kernel_rfl) (eff_call Tryz.call87 (bput_ok (v := cdn) (n := 2) (bs := ((((headB (⟨codes, ((fl : Nat) : Int), done⟩ : Gs)) ++ (done.take k).flatMap recB) ++ be idn 8) ++ [byteI st, byteI ky])) h (Gives.ownO (v := .slice a59 ((((headB (⟨codes, ((fl : Nat) : Int), done⟩ : Gs)) ++ (done.take k).flatMap recB) ++ be idn 8) ++ [byteI st, byteI ky]).length c59)) (by decide) (by decide) (by omega) (by omega))) rfl rfl ?_
          rintro _ w ⟨a64, rfl, h⟩
          refine ⟨⟨h.cellB rfl, trivial⟩, ?_⟩
          refine WT.eff 8 [false] rfl (by kernel_rfl) (by kernel_rfl) (eff_call Tryz.call87 (bput_ok (v := infn) (n := 4) (bs := (((((headB (⟨codes, ((fl : Nat) : Int), done⟩ : Gs)) ++ (done.take k).flatMap recB) ++ be idn 8) ++ [byteI st, byteI ky]) ++ be cdn 2)) h (Gives.ownO (v := .slice a64 (((((headB (⟨codes, ((fl : Nat) : Int), done⟩ : Gs)) ++ (done.take k).flatMap recB) ++ be idn 8) ++ [byteI st, byteI ky]) ++ be cdn 2).length (((((headB (⟨codes, ((fl : Nat) : Int), done⟩ : Gs)) ++ (done.take k).flatMap recB) ++ be idn 8) ++ [byteI st, byteI ky]) ++ be cdn 2).length)) (by decide) (by decide) (by omega) (by omega))) rfl rfl ?_
          rintro _ w ⟨a68, rfl, h⟩
          refine ⟨trivial, ?_⟩
          refine WT.pure 9 rfl (by kernel_rfl) (fun w' => run_assign) rfl rfl ?_
          refine WT.done (by kernel_rfl) ?_
          refine W.region ?_
          refine WL.val run_move rfl rfl ?_
          refine WL.val (run_fieldAddr 3 Tryz.underlying36 rfl Tryz.sizeOf22 rfl rfl) rfl rfl ?_
          refine WL.val (run_load1 Tryz.isAgg22 rfl (h.cellB rfl)) rfl rfl ?_
          refine WL.eff (eff_call Tryz.call75 (upart_ok (bs := ((((((headB (⟨codes, ((fl : Nat) : Int), done⟩ : Gs)) ++ (done.take k).flatMap recB) ++ be idn 8) ++ [byteI st, byteI ky]) ++ be cdn 2) ++ be infn 4)) (vs := dt) (by omega) (by omega) h (Gives.ownO (v := .slice a68 ((((((headB (⟨codes, ((fl : Nat) : Int), done⟩ : Gs)) ++ (done.take k).flatMap recB) ++ be idn 8) ++ [byteI st, byteI ky]) ++ be cdn 2) ++ be infn 4).length ((((((headB (⟨codes, ((fl : Nat) : Int), done⟩ : Gs)) ++ (done.take k).flatMap recB) ++ be idn 8) ++ [byteI st, byteI ky]) ++ be cdn 2) ++ be infn 4).length)) (Gives.to (T := [Pool pool]) (Gives.pool hp)))) rfl rfl ?_
          rintro _ w ⟨a72, c72, rfl, h⟩
          refine WL.val run_assign rfl rfl ?_
          refine WL.nil ?_
          refine W.region ?_
          refine WL.val (run_incN rfl rfl (by omega)) rfl rfl ?_
          refine WL.val run_move rfl rfl ?_
          refine WL.nil ?_
          -- round, path LFLT
          exact ⟨k + 1, ⟨by omega, _, a72, c72, mkE_of ⟨rfl, congrArg (fun q : List UInt8 => Value.slice a72 q.length c72) e5, rfl, rfl, rfl, trivial⟩, by rw [e5] at h; exact h.to⟩, by show done.length - (k + 1) < done.length - k; omega⟩
        · skip
          refine W.exit ?_
          refine W.seq ?_
          refine W.region ?_
          refine WL.val run_move rfl rfl ?_
          refine WL.val run_assign rfl rfl ?_
          refine WL.nil ?_
          refine W.ret ?_
          refine bodyQ.r1 (v := .slice _ _ _) Tryz.results78 rfl ?_
          -- path LFLF
          have ob_ : k = done.length := by omega
          obtain rfl := ob_
          have e6 : ((headB (⟨codes, ((fl : Nat) : Int), done⟩ : Gs)) ++ (done.take done.length).flatMap recB) = guestB (⟨codes, ((fl : Nat) : Int), done⟩ : Gs) := by unfold guestB; rw [List.take_length]
          rw [e6] at h
          exact ⟨ao, co, congrArg (fun q : List UInt8 => Value.slice ao q.length co) e6, h.to⟩

end Go.Proofs.YtdpakoefdpmebaaGreat
