/-
  The contracts of disks. Lines of walks printed by a program of the prover's.
-/
import Derived.Test.YtlahgihjjabgmaaDiskKeys
import Derived.Test.YtlahgihjjabgmaaSlA
import Derived.Test.YtlahgihjjabgmaaDiskCrash
namespace Go.Proofs.Ytlahgihjjabgmaa
open Go Go.Sl Go.Sl.DkM
set_option linter.unusedVariables false
set_option linter.unusedSimpArgs false
set_option maxHeartbeats 1000000
set_option maxRecDepth 8000
variable {W0 w : World} {L F : List HProp}


theorem row_int {l : List Int} {i : Nat} {u : Int} (h : l[i]? = some u) : ((intsV l).drop (i * 1)).take 1 = [.int .i64 u] := by
  rw [Nat.mul_one]; exact row_one (by unfold intsV; rw [List.getElem?_map, h]; rfl)
theorem intsV_one (l : List Int) : ∀ u ∈ intsV l, u.oneCell' = true := by
  intro u hu
  obtain ⟨x, _, rfl⟩ := List.mem_map.1 hu
  rfl
theorem wf_key {x : Int} (h : 0 ≤ x) (h2 : x ≤ 4096) : (Lit.int .i64 x).wf = true := by
  have e1 : IntKind.i64.min = -9223372036854775808 := rfl
  have e2 : IntKind.i64.max = 9223372036854775807 := rfl
  simp [Lit.wf]; omega

theorem crash_ok {b : Nat} {d : Dk} {pa : Option Addr} {pn pc : Nat} {picks : List Int} {ap : Option Addr} {cp : Nat} (hcl : d.calls ≤ 1000000000000000000) (h : On W0 (DiskQ 106 110 b d pa pn pc :: L) w) (C : Gives L (Cells 1 (.slice ap picks.length cp) picks.length (intsV picks))) : Calls Try.prog 19 #[.pointer (some ⟨b, 0, none⟩), .slice ap picks.length cp] w (Ret fun v w' => On W0 (DiskQ 106 110 b (crashD d picks) pa pn pc :: L) w') := by
  refine enter Try.func19 rfl Try.ntmps19 rfl ?_
  have ob_ := openQ h
  obtain ⟨mb, ck, rows, pool, hok, hm, h⟩ := ob_
  have hmx := maxLen_eq
  have ob_ := Cells.bounds (h.readsTo C)
  obtain ⟨hpc, hpm⟩ := ob_
  have hnd : (d.m.map (·.1)).Nodup := hok.2.2.1
  have hndr : (rows.map (·.k)).Nodup := by rw [hm, ks_of rfl] at hnd; exact hnd
  have hsz := hok.size
  have hkeyr : ∀ x ∈ rows.map Rw.kv, (Lit.int .i64 x.1).wf = true := by
    intro x hx
    have ob_ := List.mem_map.1 hx
    obtain ⟨r, hr, rfl⟩ := ob_
    have h2 := hok.2.2.2 r.ks (by rw [hm]; exact List.mem_map.2 ⟨r, hr, rfl⟩)
    have h1 := hok.1
    have e : r.ks.1 = r.k := rfl
    exact wf_key (x := r.k) (by omega) (by omega)
  have hklen : (rows.map Rw.kv).length ≤ 1000000 := by
    have e : d.m.length = rows.length := by rw [hm, List.length_map]
    rw [List.length_map]; omega
  refine W.scope ?_
  refine W.seq ?_
  refine W.seq ?_
  refine W.region ?_
  refine WL.val run_move rfl rfl ?_
  refine WL.val (run_nilCheck rfl) rfl rfl ?_
  refine WL.val (run_fieldAddr 2 Try.underlying106 rfl Try.sizeOf4 rfl rfl) rfl rfl ?_
  refine WL.val (run_load1 Try.isAgg4 rfl (h.cellB rfl)) rfl rfl ?_
  refine WL.nil ?_
  refine W.condB rfl (fun c2 => ?_) (fun c2 => ?_)
  · skip
    refine W.ret ?_
    refine bodyQ.r0 Try.results19 ?_
    -- path T
    rw [crashD_off c2]
    exact closeQ (d := d) (mb := mb) (ck := ck) (rows := rows) (pool := pool) hok hm h
  · skip
    refine W.skip ?_
    refine W.seq ?_
    refine W.region ?_
    refine WL.val run_move rfl rfl ?_
    refine WL.val run_move rfl rfl ?_
    refine WL.val (run_nilCheck rfl) rfl rfl ?_
    refine WL.val (run_fieldAddr 2 Try.underlying106 rfl Try.sizeOf4 rfl rfl) rfl rfl ?_
    refine WL.eff (eff_store (v := .bool _) h Try.sizeOf4 rfl rfl rfl rfl rfl) rfl rfl ?_
    rintro _ w h
    try simp only [Nat.zero_add, Nat.add_zero, List.set_cons_zero, List.set_cons_succ] at h
    refine WL.val (run_nilCheck rfl) rfl rfl ?_
    refine WL.val (run_fieldAddr 4 Try.underlying106 rfl Try.sizeOf3 rfl rfl) rfl rfl ?_
    refine WL.eff (eff_store (v := .int .i64 _) h Try.sizeOf3 rfl rfl rfl rfl rfl) rfl rfl ?_
    rintro _ w h
    try simp only [Nat.zero_add, Nat.add_zero, List.set_cons_zero, List.set_cons_succ] at h
    refine WL.nil ?_
    refine W.seq ?_
    refine W.seq ?_
    refine W.region ?_
    refine WL.val run_move rfl rfl ?_
    refine WL.val (run_nilCheck rfl) rfl rfl ?_
    refine WL.val (run_fieldAddr 3 Try.underlying106 rfl Try.sizeOf4 rfl rfl) rfl rfl ?_
    refine WL.val (run_load1 Try.isAgg4 rfl (h.cellB rfl)) rfl rfl ?_
    refine WL.nil ?_
    refine W.condB rfl (fun c7 => ?_) (fun c7 => ?_)
    · skip
      refine W.ret ?_
      refine bodyQ.r0 Try.results19 ?_
      -- path FT
      rw [crashD_dead c2 c7]
      have hok2 : Dk.ok { d with off := true, armed := 0 } := hok
      exact closeQ (d := { d with off := true, armed := 0 }) (mb := mb) (ck := ck) (rows := rows) (pool := pool) hok2 hm h
    · skip
      refine W.skip ?_
      refine W.seq ?_
      refine W.region ?_
      refine WL.val run_assign rfl rfl ?_
      refine WL.nil ?_
      refine W.seq ?_
      refine W.label ?_
      refine W.seq ?_
      refine W.region ?_
      refine WL.val run_move rfl rfl ?_
      refine WL.val (run_nilCheck rfl) rfl rfl ?_
      refine WL.val (run_fieldAddr 1 Try.underlying106 rfl Try.sizeOf104 rfl rfl) rfl rfl ?_
      refine WL.val (run_load1 Try.isAgg104 rfl (h.cellB rfl)) rfl rfl ?_
      refine WL.eff (eff_call Try.call71 (keys_ok (h.fetch (MapC mb .i64 (rows.map Rw.kv) ck)))) rfl rfl ?_
      rintro _ w ⟨bb, rfl, h⟩
      refine WL.eff (eff_call Try.call70 (sorted_ok hkeyr hklen h)) rfl rfl ?_
      rintro _ w ⟨ka, kc, ks, rfl, hperm, hsort, h⟩
      have ob_ := Own.bounds h
      obtain ⟨hkc, hkm⟩ := ob_
      have hperm2 : ks.Perm (d.m.map (·.1)) := by rw [hm, ks_of rfl]; rw [List.map_map] at hperm; exact hperm
      have hkn : ks.Nodup := hperm2.nodup_iff.2 hnd
      refine WL.val (run_lenSlice Try.underlying24 rfl) rfl rfl ?_
      refine WL.val run_move rfl rfl ?_
      refine WL.nil ?_
      refine W.block ?_
      refine W.loop (fun (j : Nat) env w => j ≤ ks.length ∧ ∃ jk, env = mkE jk [(0, .pointer (some ⟨b, 0, none⟩)), (1, .slice ap picks.length cp), (4, .int .i64 (cntK d.m ks j : Nat)), (29, .slice ka ks.length kc), (30, .int .i64 (ks.length : Nat)), (31, .int .i64 (j : Nat))] ∧ On W0 (Own 1 (.slice ka ks.length kc) ks.length (intsV ks) :: Big (SecA 110 pool) (rowsAt (crash1 d.m picks) (ks.take j) rows) :: MapC mb .i64 (rows.map Rw.kv) ck :: blk b [.int .i64 d.n, .map (some mb), .bool true, .bool d.dead, .int .i64 0, .slice pa pn pc, .int .i64 d.calls] 106 :: Pool pool :: L) w) (fun j => ks.length - j) (0) ?_ ?_
      · exact ⟨Nat.zero_le _, _, mkE_of ⟨rfl, rfl, rfl, rfl, rfl, rfl, trivial⟩, by rw [List.take_zero, rowsAt_nil]; exact h.to⟩
      · rintro j env w ⟨hj, jk, rfl, h⟩
        refine W.seq ?_
        refine W.region ?_
        refine WL.dec (run_lss rfl rfl) rfl rfl (fun c32 => ?_) (fun c32 => ?_)
        · skip
          refine WL.nil ?_
          refine W.seq ?_
          refine W.condT rfl ?_
          refine W.skip ?_
          refine W.seq ?_
          refine W.block ?_
          refine W.seq ?_
          have ob_ : ∃ k, ks[j]? = some k := ⟨ks[j]'(by omega), by simp⟩
          obtain ⟨k, hk⟩ := ob_
          have hj1 : j + 1 ≤ ks.length := by omega
          have ob_ := Own.addr h (by omega)
          obtain ⟨bk, ok, rfl⟩ := ob_
          refine W.region ?_
          refine WL.val (run_indexAddr Try.underlying24 Try.sizeOf3 rfl rfl (by omega) (by omega)) rfl rfl ?_
          refine WL.val (run_load1 Try.isAgg3 rfl ((h.cellsO (v := .slice (some ⟨bk, ok, none⟩) ks.length kc)).elem (i := j) (vs := [.int .i64 k]) (by omega) (row_int hk) 0 _ rfl)) rfl rfl ?_
          refine WL.val run_assign rfl rfl ?_
          refine WL.nil ?_
          refine W.seq ?_
          have hcs := rows_cases rows k
          have ob_ : ∃ (i : Nat) (r : Rw), rows[i]? = some r ∧ r.k = k ∧ lookM (rows.map Rw.kv) k = some (.pointer (some ⟨r.p, 0, none⟩)) := by
            rcases hcs with ⟨_, hno⟩ | hyes
            · exfalso
              have hmem : k ∈ d.m.map (·.1) := hperm2.mem_iff.1 (List.mem_of_getElem? hk)
              rw [hm, ks_of rfl] at hmem
              obtain ⟨r, hr, he⟩ := List.mem_map.1 hmem
              exact hno r hr he
            · exact hyes
          obtain ⟨i, r, hi, hrk, hl0⟩ := ob_
          have hl := congrArg (fun o : Option Value => o.getD (.pointer none)) hl0
          have hnot : (ks.take j).contains r.k = false := by rw [hrk]; exact take_not hkn hk
          have hri : r ∈ rows := List.mem_of_getElem? hi
          have hmb := (On.mapC (h.fetch (MapC mb .i64 (rows.map Rw.kv) ck))).2
          have hsome := someW_row hm hndr hri
          rw [hrk] at hsome
          have hset : (rowsAt (crash1 d.m picks) (ks.take j) rows).set i { r with s := crash1 d.m picks k r.s } = rowsAt (crash1 d.m picks) (ks.take (j + 1)) rows := by
            rw [take_one hk, ← hrk]
            exact rowsAt_set hndr hi hnot
          have hlen : i < (rowsAt (crash1 d.m picks) (ks.take j) rows).length := by rw [rowsAt_len]; exact (List.getElem?_eq_some_iff.1 hi).1
          have h := Big.open (rowsAt_get (f := (crash1 d.m picks)) hi hnot) (h.fetch (Big (SecA 110 pool) (rowsAt (crash1 d.m picks) (ks.take j) rows)))
          have ob_ := openS h
          obtain ⟨vk, a, c, vs, hvk, hv1, hws, h⟩ := ob_
          have ob_ := Own.bounds h.p1
          obtain ⟨hbc, hbm⟩ := ob_
          have hvl := hws.1
          have hwl : (r.s.wait.length : Int) ≤ d.calls := (hok.2.2.2 r.ks (by rw [hm]; exact List.mem_map.2 ⟨r, hri, rfl⟩)).2.2
          refine W.region ?_
          refine WL.val run_move rfl rfl ?_
          refine WL.val (run_nilCheck rfl) rfl rfl ?_
          refine WL.val (run_fieldAddr 1 Try.underlying106 rfl Try.sizeOf104 rfl rfl) rfl rfl ?_
          refine WL.val (run_load1 Try.isAgg104 rfl (h.cellB rfl)) rfl rfl ?_
          refine WL.val run_move rfl rfl ?_
          refine WL.val (run_lookupV hmb Try.underlying104 Try.underlying3 Try.zeroValue108 rfl rfl hl) rfl rfl ?_
          refine WL.val run_assign rfl rfl ?_
          refine WL.nil ?_
          refine W.seq ?_
          refine W.region ?_
          refine WL.val run_move rfl rfl ?_
          refine WL.val (run_nilCheck rfl) rfl rfl ?_
          refine WL.val (run_fieldAddr 1 Try.underlying110 rfl Try.sizeOf23 rfl rfl) rfl rfl ?_
          refine WL.val (run_load1 Try.isAgg23 rfl (h.cellB rfl)) rfl rfl ?_
          refine WL.val (run_lenSlice Try.underlying23 rfl) rfl rfl ?_
          refine WL.val run_assign rfl rfl ?_
          refine WL.nil ?_
          refine W.seq ?_
          refine W.seq ?_
          refine W.region ?_
          refine WL.val run_move rfl rfl ?_
          refine WL.dec (run_eql rfl rfl) rfl rfl (fun c47 => ?_) (fun c47 => ?_)
          · skip
            refine WL.nil ?_
            refine W.condT rfl ?_
            have hw0 : r.s.wait = [] := List.eq_nil_of_length_eq_zero (by omega)
            have hc1 : crash1 d.m picks k r.s = r.s := crash1_none hw0
            have hcnt : cntK d.m ks (j + 1) = cntK d.m ks j := cntK_none hk (by rw [hsome, hw0]; rfl)
            have h := closeS (a := a) (c := c) hvk hv1 hws h
            have h := Big.close (y := r) hlen h
            have hend : On W0 (Own 1 (.slice (some ⟨bk, ok, none⟩) ks.length kc) ks.length (intsV ks) :: Big (SecA 110 pool) (rowsAt (crash1 d.m picks) (ks.take (j + 1)) rows) :: MapC mb .i64 (rows.map Rw.kv) ck :: blk b [.int .i64 d.n, .map (some mb), .bool true, .bool d.dead, .int .i64 0, .slice pa pn pc, .int .i64 d.calls] 106 :: Pool pool :: L) w := by
              have hset0 : (rowsAt (crash1 d.m picks) (ks.take j) rows).set i r = rowsAt (crash1 d.m picks) (ks.take (j + 1)) rows := by
                rw [hc1] at hset
                exact hset
              rw [← hset0]
              exact h.to
            refine W.exit ?_
            refine W.region ?_
            refine WL.val (run_add rfl rfl (by omega) (by omega)) rfl rfl ?_
            refine WL.val run_move rfl rfl ?_
            refine WL.nil ?_
            -- round, path FFLTT
            exact ⟨j + 1, ⟨hj1, _, mkE_of ⟨rfl, rfl, (congrArg (fun n : Nat => Value.int .i64 (n : Int)) hcnt).symm, rfl, rfl, rfl, trivial⟩, hend⟩, by show ks.length - (j + 1) < ks.length - j; omega⟩
          · skip
            refine WL.nil ?_
            refine W.condF rfl ?_
            refine W.skip ?_
            refine W.seq ?_
            have hw0 : ¬ r.s.wait = [] := by intro e; rw [e] at c47; exact c47 rfl
            have hcnt : cntK d.m ks (j + 1) = cntK d.m ks j + 1 := cntK_some hk (by rw [hsome]; cases hww : r.s.wait with
              | nil => exact absurd hww hw0
              | cons _ _ => rfl)
            have hcle := cntK_le d.m ks j
            have hrank := rank_take hnd hperm2 hsort hk
            have hrank : cntK d.m ks j = rank d.m k := hrank
            have hc1 := crash1_some (m := d.m) (picks := picks) (k := k) hw0
            rw [← hrank] at hc1
            have hple := pickP_le picks (cntK d.m ks j) r.s.wait.length
            have hkl : ks.length ≤ 4096 := by have := hperm2.length_eq; rw [List.length_map] at this; omega
            refine W.region ?_
            refine WL.val run_assign rfl rfl ?_
            refine WL.nil ?_
            refine W.cut (fun env w => ∃ jk, env = mkE jk [(0, .pointer (some ⟨b, 0, none⟩)), (1, .slice ap picks.length cp), (4, .int .i64 (cntK d.m ks j : Nat)), (7, .pointer (some ⟨r.p, 0, none⟩)), (9, .int .i64 (pickP picks (cntK d.m ks j) r.s.wait.length : Nat)), (29, .slice (some ⟨bk, ok, none⟩) ks.length kc), (30, .int .i64 (ks.length : Nat)), (31, .int .i64 (j : Nat))] ∧ On W0 (blk r.p [vk, .slice a r.s.wait.length c] 110 :: Own 1 (.slice a r.s.wait.length c) r.s.wait.length vs :: Big (SecA 110 pool) ((rowsAt (crash1 d.m picks) (ks.take j) rows).eraseIdx i) :: Own 1 (.slice (some ⟨bk, ok, none⟩) ks.length kc) ks.length (intsV ks) :: MapC mb .i64 (rows.map Rw.kv) ck :: blk b [.int .i64 d.n, .map (some mb), .bool true, .bool d.dead, .int .i64 0, .slice pa pn pc, .int .i64 d.calls] 106 :: Pool pool :: L) w) ?_ ?_
            · skip
              refine W.seq ?_
              refine W.region ?_
              refine WL.val run_move rfl rfl ?_
              refine WL.val run_move rfl rfl ?_
              refine WL.val (run_lenSlice Try.underlying24 rfl) rfl rfl ?_
              refine WL.val (run_lss rfl rfl) rfl rfl ?_
              refine WL.nil ?_
              refine W.condIf rfl (fun c29 => ?_) (fun c29 => ?_)
              · skip
                refine W.seq ?_
                have ob_ : ∃ q, picks[cntK d.m ks j]? = some q := ⟨picks[cntK d.m ks j]'(by omega), by simp⟩
                obtain ⟨q, hq⟩ := ob_
                have hCp := h.readsTo C
                have ob_ := hCp.addr (by omega)
                obtain ⟨bp, op, rfl⟩ := ob_
                have hqlo : -((r.s.wait.length : Int) + 1) < q.tmod ((r.s.wait.length : Int) + 1) := Int.lt_tmod_of_pos q (by omega)
                have hqhi := Int.tmod_lt_of_pos q (show (0 : Int) < (r.s.wait.length : Int) + 1 by omega)
                refine W.region ?_
                refine WL.val run_move rfl rfl ?_
                refine WL.val run_move rfl rfl ?_
                refine WL.val (run_indexAddr Try.underlying24 Try.sizeOf3 rfl rfl (by omega) (by omega)) rfl rfl ?_
                refine WL.val (run_load1 Try.isAgg3 rfl ((h.readsTo C).elem (i := cntK d.m ks j) (vs := [.int .i64 q]) (by omega) (row_int hq) 0 _ rfl)) rfl rfl ?_
                refine WL.val run_move rfl rfl ?_
                refine WL.val (run_add rfl rfl (by omega) (by omega)) rfl rfl ?_
                refine WL.val (run_remT rfl rfl (by omega)) rfl rfl ?_
                refine WL.val run_assign rfl rfl ?_
                refine WL.nil ?_
                refine W.seq ?_
                refine W.region ?_
                refine WL.val run_move rfl rfl ?_
                refine WL.val (run_lss rfl rfl) rfl rfl ?_
                refine WL.nil ?_
                refine W.condIf rfl (fun c32 => ?_) (fun c32 => ?_)
                · skip
                  refine W.region ?_
                  refine WL.val run_move rfl rfl ?_
                  refine WL.val run_move rfl rfl ?_
                  refine WL.val (run_add rfl rfl (by omega) (by omega)) rfl rfl ?_
                  refine WL.val (run_add rfl rfl (by omega) (by omega)) rfl rfl ?_
                  refine WL.val run_assign rfl rfl ?_
                  refine WL.nil ?_
                  -- to the cut, path FFLTFTT
                  have hp := pickP_neg hq c32
                  exact ⟨_, mkE_of ⟨rfl, rfl, rfl, rfl, (congrArg (Value.int .i64) hp).symm, rfl, rfl, rfl, trivial⟩, h.to⟩
                · skip
                  refine W.skip ?_
                  -- to the cut, path FFLTFTF
                  have hp := pickP_pos hq c32
                  exact ⟨_, mkE_of ⟨rfl, rfl, rfl, rfl, (congrArg (Value.int .i64) hp).symm, rfl, rfl, rfl, trivial⟩, h.to⟩
              · skip
                refine W.skip ?_
                -- to the cut, path FFLTFF
                have hp := pickP_none (len := r.s.wait.length) (show picks.length ≤ cntK d.m ks j by omega)
                exact ⟨_, mkE_of ⟨rfl, rfl, rfl, rfl, (congrArg (Value.int .i64) hp).symm, rfl, rfl, rfl, trivial⟩, h.to⟩
            · rintro env w ⟨jk, rfl, h⟩
              refine W.seq ?_
              refine W.region ?_
              refine WL.val run_move rfl rfl ?_
              refine WL.val (run_add rfl rfl (by omega) (by omega)) rfl rfl ?_
              refine WL.val run_assign rfl rfl ?_
              refine WL.nil ?_
              refine W.cut (fun env w => ∃ jk v2, env = mkE jk [(0, .pointer (some ⟨b, 0, none⟩)), (1, .slice ap picks.length cp), (4, .int .i64 (cntK d.m ks (j + 1) : Nat)), (7, .pointer (some ⟨r.p, 0, none⟩)), (29, .slice (some ⟨bk, ok, none⟩) ks.length kc), (30, .int .i64 (ks.length : Nat)), (31, .int .i64 (j : Nat))] ∧ InP pool v2 (crash1 d.m picks k r.s).kept ∧ v2.oneCell' = true ∧ On W0 (blk r.p [v2, .slice a r.s.wait.length c] 110 :: Big (SecA 110 pool) ((rowsAt (crash1 d.m picks) (ks.take j) rows).eraseIdx i) :: Own 1 (.slice (some ⟨bk, ok, none⟩) ks.length kc) ks.length (intsV ks) :: MapC mb .i64 (rows.map Rw.kv) ck :: blk b [.int .i64 d.n, .map (some mb), .bool true, .bool d.dead, .int .i64 0, .slice pa pn pc, .int .i64 d.calls] 106 :: Pool pool :: L) w) ?_ ?_
              · skip
                refine W.seq ?_
                refine W.region ?_
                refine WL.val run_move rfl rfl ?_
                refine WL.val (run_gtr rfl rfl) rfl rfl ?_
                refine WL.nil ?_
                refine W.condIf rfl (fun c38 => ?_) (fun c38 => ?_)
                · skip
                  have ob_ : ∃ x, r.s.wait[pickP picks (cntK d.m ks j) r.s.wait.length - 1]? = some x := ⟨r.s.wait[pickP picks (cntK d.m ks j) r.s.wait.length - 1]'(by omega), by simp⟩
                  obtain ⟨x, hx⟩ := ob_
                  have ob_ : ∃ u, vs[pickP picks (cntK d.m ks j) r.s.wait.length - 1]? = some u := ⟨vs[pickP picks (cntK d.m ks j) r.s.wait.length - 1]'(by omega), by simp⟩
                  obtain ⟨u, hu⟩ := ob_
                  have ob_ := Own.addr h.p1 (by omega)
                  obtain ⟨ba, oa, rfl⟩ := ob_
                  have ob_ := hws.2 _ u x hu hx
                  obtain ⟨hup, hu1⟩ := ob_
                  have ob_ : ∃ au nu cu, u = .slice au nu cu := by
                    have hb := (h.readsTo (T := [Pool pool]) (InP.gives hup)).form
                    obtain ⟨a1, a2, a3, _⟩ := hb
                    exact ⟨_, _, _, a3⟩
                  obtain ⟨au, nu, cu, huv⟩ := ob_
                  subst huv
                  refine W.region ?_
                  refine WL.val run_move rfl rfl ?_
                  refine WL.val run_move rfl rfl ?_
                  refine WL.val (run_nilCheck rfl) rfl rfl ?_
                  refine WL.val (run_fieldAddr 1 Try.underlying110 rfl Try.sizeOf23 rfl rfl) rfl rfl ?_
                  refine WL.val (run_load1 Try.isAgg23 rfl (h.cellB rfl)) rfl rfl ?_
                  refine WL.val run_move rfl rfl ?_
                  refine WL.val (run_subN (m := pickP picks (cntK d.m ks j) r.s.wait.length) (n := 1) rfl rfl (by omega) (by omega)) rfl rfl ?_
                  refine WL.val (run_indexAddr Try.underlying23 Try.sizeOf22 rfl rfl (by omega) (by omega)) rfl rfl ?_
                  refine WL.val (run_load1 Try.isAgg22 rfl ((h.cellsO (v := .slice (some ⟨ba, oa, none⟩) r.s.wait.length c)).elem (i := pickP picks (cntK d.m ks j) r.s.wait.length - 1) (vs := [.slice au nu cu]) (by omega) (by rw [Nat.mul_one]; exact row_one hu) 0 _ rfl)) rfl rfl ?_
                  refine WL.val (run_nilCheck rfl) rfl rfl ?_
                  refine WL.val (run_fieldAddr 0 Try.underlying110 rfl Try.sizeOf22 rfl rfl) rfl rfl ?_
                  refine WL.eff (eff_store (v := .slice _ _ _) h Try.sizeOf22 rfl rfl rfl rfl rfl) rfl rfl ?_
                  rintro _ w h
                  try simp only [Nat.zero_add, Nat.add_zero, List.set_cons_zero, List.set_cons_succ] at h
                  refine WL.nil ?_
                  -- to the cut, path FFLTFT
                  have hkept : (crash1 d.m picks k r.s).kept = x := by rw [hc1]; unfold DkM.settle; rw [if_neg (by omega), hx]; rfl
                  exact ⟨_, .slice au nu cu, mkE_of ⟨rfl, rfl, (congrArg (fun n : Nat => Value.int .i64 (n : Int)) hcnt).symm, rfl, rfl, rfl, rfl, trivial⟩, by rw [hkept]; exact hup, rfl, h.to⟩
                · skip
                  refine W.skip ?_
                  -- to the cut, path FFLTFF
                  have hkept : (crash1 d.m picks k r.s).kept = r.s.kept := by rw [hc1]; unfold DkM.settle; rw [if_pos (by omega)]
                  exact ⟨_, vk, mkE_of ⟨rfl, rfl, (congrArg (fun n : Nat => Value.int .i64 (n : Int)) hcnt).symm, rfl, rfl, rfl, rfl, trivial⟩, by rw [hkept]; exact hvk, hv1, h.to⟩
              · rintro env w ⟨jk, v2, rfl, hv2, hv21, h⟩
                refine W.region ?_
                refine WL.val run_move rfl rfl ?_
                refine WL.val (run_nilCheck rfl) rfl rfl ?_
                refine WL.val (run_fieldAddr 1 Try.underlying110 rfl Try.sizeOf23 rfl rfl) rfl rfl ?_
                refine WL.eff (eff_store (v := .slice _ _ _) h Try.sizeOf23 rfl rfl rfl rfl rfl) rfl rfl ?_
                rintro _ w h
                try simp only [Nat.zero_add, Nat.add_zero, List.set_cons_zero, List.set_cons_succ] at h
                refine WL.nil ?_
                refine W.region ?_
                refine WL.val (run_add rfl rfl (by omega) (by omega)) rfl rfl ?_
                refine WL.val run_move rfl rfl ?_
                refine WL.nil ?_
                -- round, path FFLTF
                have hq : On W0 (blk r.p [v2, .slice none 0 0] 110 :: Own 1 (.slice none 0 0) 0 [] :: Big (SecA 110 pool) ((rowsAt (crash1 d.m picks) (ks.take j) rows).eraseIdx i) :: Own 1 (.slice (some ⟨bk, ok, none⟩) ks.length kc) ks.length (intsV ks) :: MapC mb .i64 (rows.map Rw.kv) ck :: blk b [.int .i64 d.n, .map (some mb), .bool true, .bool d.dead, .int .i64 0, .slice pa pn pc, .int .i64 d.calls] 106 :: Pool pool :: L) w := (h.ownEmpty 1 none).to
                have h := closeS (r := { r with s := crash1 d.m picks k r.s }) (pool := pool) (vk := v2) (a := none) (c := 0) (vs := []) hv2 hv21 waitsP_nil hq
                have h := Big.close hlen h
                rw [hset] at h
                exact ⟨j + 1, ⟨hj1, _, mkE_of ⟨rfl, rfl, rfl, rfl, rfl, rfl, trivial⟩, h.to⟩, by show ks.length - (j + 1) < ks.length - j; omega⟩
        · skip
          refine WL.nil ?_
          refine W.seq ?_
          refine W.condF rfl ?_
          refine W.exit ?_
          refine bodyQ.fall ?_
          refine bodyQ.r0 Try.results19 ?_
          -- path FFLF
          rw [crashD_on c2 c7]
          have hall : rowsAt (crash1 d.m picks) (ks.take j) rows = rows.map fun r => { r with s := crash1 d.m picks r.k r.s } := rowsAt_all (fun r hr => by rw [List.take_of_length_le (by omega)]; exact hperm2.mem_iff.2 (by rw [hm, ks_of rfl]; exact List.mem_map.2 ⟨r, hr, rfl⟩))
          rw [hall] at h
          have hkv : (rows.map fun r => { r with s := crash1 d.m picks r.k r.s }).map Rw.kv = rows.map Rw.kv := by rw [List.map_map]; rfl
          have hok2 : Dk.ok { d with off := true, armed := 0, m := crashM d.m picks } := hok.crashM picks
          rw [← hkv] at h
          exact closeQ (d := { d with off := true, armed := 0, m := crashM d.m picks }) (mb := mb) (ck := ck) (rows := rows.map fun r => { r with s := crash1 d.m picks r.k r.s }) (pool := pool) hok2 (crash_rows hm) h.to

end Go.Proofs.Ytlahgihjjabgmaa
