/-
  The contracts of disks. Lines of walks printed by a program of the prover's.
-/
import Derived.Test.YtlahgihjjabgmaaDisk3
import Derived.Test.YtlahgihjjabgmaaDiskCrash
namespace Go.Proofs.Ytlahgihjjabgmaa
open Go Go.Sl Go.Sl.DkM
set_option linter.unusedVariables false
set_option linter.unusedSimpArgs false
set_option maxHeartbeats 1000000
set_option maxRecDepth 8000
variable {W0 w : World} {L F : List HProp}

theorem new_ok {n : Int} (h : On W0 L w) : Calls Try.prog 16 #[.int .i64 n] w (Ret fun v w' => (1 ≤ n ∧ n ≤ 4096 ∧ ∃ b, v = .tuple #[.pointer (some ⟨b, 0, none⟩), .int .i64 0] ∧ On W0 (DiskP 106 110 b (newD n) :: L) w') ∨ (¬ (1 ≤ n ∧ n ≤ 4096) ∧ v = .tuple #[.pointer none, .int .i64 1] ∧ On W0 L w')) := by
  refine enter Try.func16 rfl Try.ntmps16 rfl ?_
  refine W.seq ?_
  refine W.region ?_
  refine WL.val run_assign rfl rfl ?_
  refine WL.val run_assign rfl rfl ?_
  refine WL.nil ?_
  refine W.seq ?_
  refine W.seq ?_
  refine W.region ?_
  refine WL.val run_move rfl rfl ?_
  refine WL.dec (run_lss rfl rfl) rfl rfl (fun c5 => ?_) (fun c5 => ?_)
  · skip
    refine WL.val run_move rfl rfl ?_
    refine WL.skip rfl rfl ?_
    refine WL.skip rfl rfl ?_
    refine WL.val (run_pickT rfl) rfl rfl ?_
    refine WL.nil ?_
    refine W.condT rfl ?_
    refine W.seq ?_
    refine W.region ?_
    refine WL.val run_assign rfl rfl ?_
    refine WL.val run_assign rfl rfl ?_
    refine WL.nil ?_
    refine W.ret ?_
    refine bodyQ.r2 (v1 := .pointer _) (v2 := .int .i64 _) Try.results16 rfl rfl ?_
    -- path T
    exact .inr ⟨by omega, rfl, h⟩
  · skip
    refine WL.val run_move rfl rfl ?_
    refine WL.val run_move rfl rfl ?_
    refine WL.val (run_gtr rfl rfl) rfl rfl ?_
    refine WL.val (run_pickF rfl) rfl rfl ?_
    refine WL.nil ?_
    refine W.condIf rfl (fun c2 => ?_) (fun c2 => ?_)
    · skip
      refine W.seq ?_
      refine W.region ?_
      refine WL.val run_assign rfl rfl ?_
      refine WL.val run_assign rfl rfl ?_
      refine WL.nil ?_
      refine W.ret ?_
      refine bodyQ.r2 (v1 := .pointer _) (v2 := .int .i64 _) Try.results16 rfl rfl ?_
      -- path FT
      exact .inr ⟨by omega, rfl, h⟩
    · skip
      refine W.skip ?_
      refine W.seq ?_
      refine W.region ?_
      refine WL.val run_move rfl rfl ?_
      refine WL.eff (eff_makeMap (kd := .i64) h) rfl rfl ?_
      rintro _ w ⟨mb, rfl, h⟩
      refine WL.val (run_buildS (pl := [(0, 1), (1, 1), (2, 1), (3, 1), (4, 1), (5, 1), (6, 1)]) (out := [.int .i64 _, .map _, .bool _, .bool _, .int .i64 _, .slice _ _ _, .int .i64 _]) Try.underlying106 Try.zeroValue106 (fun w => by kernel_rfl) rfl (⟨⟨_, _, rfl, rfl, by decide⟩, ⟨⟨_, _, rfl, rfl, by decide⟩, trivial⟩⟩) rfl) rfl rfl ?_
      refine WL.eff (eff_box (v := .agg _) (l := [.int .i64 _, .map _, .bool _, .bool _, .int .i64 _, .slice _ _ _, .int .i64 _]) h rfl rfl) rfl rfl ?_
      rintro _ w ⟨b13, rfl, h⟩
      refine WL.val run_assign rfl rfl ?_
      refine WL.val run_assign rfl rfl ?_
      refine WL.nil ?_
      refine W.ret ?_
      refine bodyQ.r2 (v1 := .pointer _) (v2 := .int .i64 _) Try.results16 rfl rfl ?_
      -- path FF
      refine .inl ⟨by omega, by omega, b13, rfl, ?_⟩
      have h2 := (Big.nil (A := SecA 110 []) h).pool0
      have h3 := On.ownEmpty h2 1 none
      have hok : Dk.ok (newD n) := ⟨by show n ≤ 4096; omega, by show (0 : Int) ≤ 0; omega, List.nodup_nil, fun x hx => by cases hx⟩
      have h4 := closeQ (T := 106) (TS := 110) (b := b13) (d := newD n) (mb := mb) (ck := 0) (rows := []) (pool := []) (pa := none) (pn := 0) (pc := 0) (L := Own 1 (.slice none 0 0) 0 [] :: L) hok rfl (show On W0 (blk b13 [.int .i64 n, .map (some mb), .bool false, .bool false, .int .i64 0, .slice none 0 0, .int .i64 0] 106 :: MapC mb .i64 [] 0 :: Big (SecA 110 []) [] :: Pool [] :: Own 1 (.slice none 0 0) 0 [] :: L) w from h3.to)
      exact closeP (d := newD n) h4

theorem read_ok {b : Nat} {d : Dk} {k : Int} (h : On W0 (DiskP 106 110 b d :: L) w) : Calls Try.prog 21 #[.pointer (some ⟨b, 0, none⟩), .int .i64 k] w (Ret fun v w' => (rdE d k = 0 ∧ ∃ br, v = .tuple #[.slice (some ⟨br, 0, none⟩) 512 512, .int .i64 0] ∧ On W0 (Own 1 (.slice (some ⟨br, 0, none⟩) 512 512) 512 (bytesV (readD d k)) :: DiskP 106 110 b d :: L) w') ∨ (rdE d k ≠ 0 ∧ v = .tuple #[.slice none 0 0, .int .i64 (rdE d k)] ∧ On W0 (DiskP 106 110 b d :: L) w')) := by
  refine enter Try.func21 rfl Try.ntmps21 rfl ?_
  refine W.seq ?_
  refine W.region ?_
  refine WL.val run_assign rfl rfl ?_
  refine WL.val run_assign rfl rfl ?_
  refine WL.nil ?_
  refine W.seq ?_
  refine W.seq ?_
  refine W.region ?_
  refine WL.val run_move rfl rfl ?_
  refine WL.eff (eff_call Try.call65 (stateP h)) rfl rfl ?_
  rintro _ w ⟨rfl, h⟩
  refine WL.val run_assign rfl rfl ?_
  refine WL.nil ?_
  refine W.seq ?_
  refine W.region ?_
  refine WL.val run_move rfl rfl ?_
  refine WL.val (run_neq rfl rfl) rfl rfl ?_
  refine WL.nil ?_
  refine W.condIf rfl (fun c3 => ?_) (fun c3 => ?_)
  · skip
    refine W.seq ?_
    refine W.region ?_
    refine WL.val run_move rfl rfl ?_
    refine WL.val run_assign rfl rfl ?_
    refine WL.val run_assign rfl rfl ?_
    refine WL.nil ?_
    refine W.ret ?_
    refine bodyQ.r2 (v1 := .slice _ _ _) (v2 := .int .i64 _) Try.results21 rfl rfl ?_
    -- path T
    have e := rdE_st (k := k) (rfl : stE d = stE d) c3
    exact .inr ⟨by rw [e]; exact c3, by rw [e], h⟩
  · skip
    refine W.skip ?_
    refine W.seq ?_
    refine W.seq ?_
    have hst : stE d = 0 := Decidable.not_not.1 c3
    refine W.region ?_
    refine WL.val run_move rfl rfl ?_
    refine WL.val run_move rfl rfl ?_
    refine WL.eff (eff_call Try.call66 (dinP h)) rfl rfl ?_
    rintro _ w ⟨rfl, h⟩
    refine WL.val (run_notDec rfl) rfl rfl ?_
    refine WL.nil ?_
    refine W.condIf rfl (fun c8 => ?_) (fun c8 => ?_)
    · skip
      refine W.seq ?_
      refine W.region ?_
      refine WL.val run_assign rfl rfl ?_
      refine WL.val run_assign rfl rfl ?_
      refine WL.nil ?_
      refine W.ret ?_
      refine bodyQ.r2 (v1 := .slice _ _ _) (v2 := .int .i64 _) Try.results21 rfl rfl ?_
      -- path FT
      have ha := rdE_arg hst c8
      exact .inr ⟨by rw [ha]; decide, by rw [ha], h⟩
    · skip
      refine W.skip ?_
      refine W.seq ?_
      have hmx := maxLen_eq
      have hre := rdE_ok hst (Decidable.not_not.1 c8)
      refine W.region ?_
      refine WL.eff (eff_make (n := 512) (bytes := 1) h (rfl) (rfl) Try.underlying22 rfl rfl rfl rfl rfl (by omega) (by omega)) rfl rfl ?_
      rintro _ w ⟨b18, rfl, h⟩
      refine WL.val run_assign rfl rfl ?_
      refine WL.nil ?_
      refine W.seq ?_
      refine W.seq ?_
      have ob_ := openP (h.fetch (DiskP 106 110 b d))
      obtain ⟨pa, pc, h⟩ := ob_
      have ob_ := openQ h
      obtain ⟨mb, ck, rows, pool, hok, hm, h⟩ := ob_
      have ob_ := On.mapC h.p1
      obtain ⟨hfit, hmb⟩ := ob_
      have hnd := fitM_key hfit
      refine W.region ?_
      refine WL.val run_move rfl rfl ?_
      refine WL.val (run_nilCheck rfl) rfl rfl ?_
      refine WL.val (run_fieldAddr 1 Try.underlying106 rfl Try.sizeOf104 rfl rfl) rfl rfl ?_
      refine WL.val (run_load1 Try.isAgg104 rfl (h.cellB rfl)) rfl rfl ?_
      refine WL.val run_move rfl rfl ?_
      have hcs := rows_cases rows k
      rcases hcs with ⟨hl0, hno⟩ | ⟨i, r, hi, hk, hl0⟩ <;> (have hl := congrArg (fun o : Option Value => o.getD (.pointer none)) hl0) <;> refine WL.val (run_lookupV hmb Try.underlying104 Try.underlying3 Try.zeroValue108 rfl rfl hl) rfl rfl ?_
      · skip
        refine WL.val run_assign rfl rfl ?_
        refine WL.nil ?_
        refine W.seq ?_
        refine W.region ?_
        refine WL.val run_move rfl rfl ?_
        refine WL.val (run_neqPtrNil Try.underlying108 rfl rfl) rfl rfl ?_
        refine WL.nil ?_
        refine W.condF rfl ?_
        refine W.skip ?_
        refine W.seq ?_
        refine W.region ?_
        refine WL.val run_move rfl rfl ?_
        refine WL.val run_assign rfl rfl ?_
        refine WL.val run_assign rfl rfl ?_
        refine WL.nil ?_
        refine W.ret ?_
        refine bodyQ.r2 (v1 := .slice _ _ _) (v2 := .int .i64 _) Try.results21 rfl rfl ?_
        -- path FFT
        refine .inl ⟨hre, b18, rfl, ?_⟩
        rw [readD_none hm hl0, show bytesV (List.replicate 512 0) = List.replicate 512 (.int .u8 0) by unfold bytesV; rw [List.map_replicate]; rfl]
        have h := closeQ (mb := mb) (ck := ck) (T := 106) (TS := 110) (b := b) (d := d) (pa := pa) (pn := d.picks.length) (pc := pc) (rows := rows) (pool := pool) (L := Own 1 (.slice pa d.picks.length pc) d.picks.length (intsV d.picks) :: Own 1 (.slice (some ⟨b18, 0, none⟩) 512 512) 512 (List.replicate 512 (.int .u8 0)) :: L) hok hm h.to
        exact (closeP h).p1
      · skip
        refine WL.val run_assign rfl rfl ?_
        refine WL.nil ?_
        refine W.seq ?_
        refine W.region ?_
        refine WL.val run_move rfl rfl ?_
        refine WL.val (run_neqPtrNil Try.underlying108 rfl rfl) rfl rfl ?_
        refine WL.nil ?_
        refine W.condT rfl ?_
        have h := Big.open hi (h.fetch (Big (SecA 110 pool) rows))
        refine W.region ?_
        refine WL.val run_move rfl rfl ?_
        refine WL.val run_move rfl rfl ?_
        refine WL.eff (eff_call Try.call69 (now_ok h)) rfl rfl ?_
        rintro _ w ⟨hnp, hn1, h⟩
        have ob_ := hnp.form (h.fetch (Pool pool))
        obtain ⟨an, cn, hnv, hnc, hnm⟩ := ob_
        subst hnv
        refine WL.eff (eff_copyIn (h.fetch (Own 1 (.slice (some ⟨b18, 0, none⟩) 512 512) 512 (List.replicate 512 (.int .u8 0)))) rfl rfl (h.readsTo (T := [Pool pool]) (InP.gives hnp)) rfl Try.underlying22 Try.sizeOf5 (lo := 0) (by omega) (bytes_one)) rfl rfl ?_
        rintro _ w ⟨_, h⟩
        rw [copy_full] at h
        refine WL.nil ?_
        refine W.seq ?_
        refine W.region ?_
        refine WL.val run_move rfl rfl ?_
        refine WL.val run_assign rfl rfl ?_
        refine WL.val run_assign rfl rfl ?_
        refine WL.nil ?_
        refine W.ret ?_
        refine bodyQ.r2 (v1 := .slice _ _ _) (v2 := .int .i64 _) Try.results21 rfl rfl ?_
        -- path FFF
        refine .inl ⟨hre, b18, rfl, ?_⟩
        rw [readD_some hm hnd (List.mem_of_getElem? hi) hk]
        have h := Big.close (y := r) (List.getElem?_eq_some_iff.1 hi).1 ((h.fetch (Big (SecA 110 pool) (rows.eraseIdx i))).fetch (SecA 110 pool r))
        rw [set_same hi] at h
        have h := closeQ (mb := mb) (ck := ck) (T := 106) (TS := 110) (b := b) (d := d) (pa := pa) (pn := d.picks.length) (pc := pc) (rows := rows) (pool := pool) (L := Own 1 (.slice pa d.picks.length pc) d.picks.length (intsV d.picks) :: Own 1 (.slice (some ⟨b18, 0, none⟩) 512 512) 512 (bytesV (full r.s.now)) :: L) hok hm h.to
        exact (closeP h).p1

theorem flush_ok {b : Nat} {d : Dk} (hlow : d.low) (h : On W0 (DiskP 106 110 b d :: L) w) : Calls Try.prog 18 #[.pointer (some ⟨b, 0, none⟩)] w (Ret fun v w' => v = .int .i64 (flushD d).1 ∧ On W0 (DiskP 106 110 b (flushD d).2 :: L) w') := by
  refine enter Try.func18 rfl Try.ntmps18 rfl ?_
  have hok0 := diskOk h
  refine W.seq ?_
  refine W.region ?_
  refine WL.val run_assign rfl rfl ?_
  refine WL.nil ?_
  refine W.seq ?_
  refine W.seq ?_
  refine W.region ?_
  refine WL.val run_move rfl rfl ?_
  refine WL.eff (eff_call Try.call65 (stateP h)) rfl rfl ?_
  rintro _ w ⟨rfl, h⟩
  refine WL.val run_assign rfl rfl ?_
  refine WL.nil ?_
  refine W.seq ?_
  refine W.region ?_
  refine WL.val run_move rfl rfl ?_
  refine WL.val (run_neq rfl rfl) rfl rfl ?_
  refine WL.nil ?_
  refine W.condIf rfl (fun c3 => ?_) (fun c3 => ?_)
  · skip
    refine W.seq ?_
    refine W.region ?_
    refine WL.val run_move rfl rfl ?_
    refine WL.val run_assign rfl rfl ?_
    refine WL.nil ?_
    refine W.ret ?_
    refine bodyQ.r1 (v := .int .i64 _) Try.results18 rfl ?_
    -- path T
    have e := flushD_st (rfl : stE d = stE d) c3
    exact ⟨by rw [e], by rw [e]; exact h⟩
  · skip
    refine W.skip ?_
    refine W.seq ?_
    refine W.seq ?_
    have hst : stE d = 0 := Decidable.not_not.1 c3
    refine W.region ?_
    refine WL.val run_move rfl rfl ?_
    refine WL.eff (eff_call Try.call67 (call_ok hlow h)) rfl rfl ?_
    rintro _ w ⟨rfl, h⟩
    refine WL.val run_assign rfl rfl ?_
    refine WL.nil ?_
    refine W.seq ?_
    refine W.region ?_
    refine WL.val run_move rfl rfl ?_
    refine WL.val (run_neq rfl rfl) rfl rfl ?_
    refine WL.nil ?_
    refine W.condIf rfl (fun c9 => ?_) (fun c9 => ?_)
    · skip
      refine W.seq ?_
      refine W.region ?_
      refine WL.val run_move rfl rfl ?_
      refine WL.val run_assign rfl rfl ?_
      refine WL.nil ?_
      refine W.ret ?_
      refine bodyQ.r1 (v := .int .i64 _) Try.results18 rfl ?_
      -- path FT
      have e := flushD_call hst c9
      exact ⟨by rw [e], by rw [e]; exact h⟩
    · skip
      refine W.skip ?_
      refine W.seq ?_
      refine W.seq ?_
      have hc0 : (callD d).1 = 0 := Decidable.not_not.1 c9
      have hfl := flushD_ok hst hc0
      have ob_ : ∃ d2, d2 = (callD d).2 := ⟨_, rfl⟩
      obtain ⟨d2, hd2⟩ := ob_
      rw [← hd2] at h hfl
      have ob_ := openP h
      obtain ⟨pa, pc, h⟩ := ob_
      have ob_ := openQ h
      obtain ⟨mb, ck, rows, pool, hok, hm, h⟩ := ob_
      have ob_ := On.mapC h.p1
      obtain ⟨hfit, hmb⟩ := ob_
      refine W.region ?_
      refine WL.val run_move rfl rfl ?_
      refine WL.val (run_nilCheck rfl) rfl rfl ?_
      refine WL.val (run_fieldAddr 1 Try.underlying106 rfl Try.sizeOf104 rfl rfl) rfl rfl ?_
      refine WL.val (run_load1 Try.isAgg104 rfl (h.cellB rfl)) rfl rfl ?_
      refine WL.eff (eff_range (h.fetch (MapC mb .i64 (rows.map Rw.kv) ck)) Try.underlying104 rfl) rfl rfl ?_
      rintro _ w ⟨rr, rfl, h⟩
      refine WL.nil ?_
      refine W.block ?_
      refine W.loop (fun (seen : Array Nat) env w => ∃ j, env = mkE j [(21, .pointer (some ⟨rr, 0, none⟩))] ∧ On W0 (IterC rr mb seen ck :: MapC mb .i64 (rows.map Rw.kv) ck :: Big (SecA 110 pool) (updR (fun s => ⟨s.now, []⟩) seen rows) :: blk b [.int .i64 d2.n, .map (some mb), .bool d2.off, .bool d2.dead, .int .i64 d2.armed, .slice pa d2.picks.length pc, .int .i64 d2.calls] 106 :: Pool pool :: Own 1 (.slice pa d2.picks.length pc) d2.picks.length (intsV d2.picks) :: L) w) (fun seen => (remM (rows.map Rw.kv) seen).length) (#[]) ?_ ?_
      · exact ⟨_, mkE_of ⟨rfl, trivial⟩, by rw [updR_none]; exact h.to⟩
      · rintro seen env w ⟨j, rfl, h⟩
        refine W.seq ?_
        refine W.region ?_
        refine WL.eff (eff_next (h.fetch (IterC rr mb seen ck)) rfl) rfl rfl ?_
        rintro _ w h0
        rcases h0 with ⟨hnil, rfl, h⟩ | ⟨e1, hin, rfl, h⟩
        rotate_left
        · skip
          refine WL.val (run_extract rfl rfl) rfl rfl ?_
          refine WL.nil ?_
          refine W.seq ?_
          refine W.condT rfl ?_
          refine W.skip ?_
          refine W.block ?_
          refine W.seq ?_
          have ob_ := rem_row hin
          obtain ⟨i, r, hi, rfl, hseen⟩ := ob_
          have hri : r ∈ rows := List.mem_of_getElem? hi
          have hborn := fitM_born hfit
          have hless := remM_push hin
          change On W0 (IterC rr mb (seen.push r.born) ck :: MapC mb .i64 (rows.map Rw.kv) ck :: _) w at h
          refine W.region ?_
          refine WL.val (run_entryM h (rem_mem hin) rfl) rfl rfl ?_
          refine WL.val (run_extract rfl rfl) rfl rfl ?_
          refine WL.val run_assign rfl rfl ?_
          refine WL.nil ?_
          have hlen : i < (updR (fun s => ⟨s.now, []⟩) seen rows).length := by rw [updR_len]; exact (List.getElem?_eq_some_iff.1 hi).1
          have h := Big.open (updR_get (f := (fun s => ⟨s.now, []⟩)) hi hseen) (h.fetch (Big (SecA 110 pool) (updR (fun s => ⟨s.now, []⟩) seen rows)))
          refine W.region ?_
          refine WL.val run_move rfl rfl ?_
          refine WL.val run_move rfl rfl ?_
          refine WL.val run_move rfl rfl ?_
          refine WL.eff (eff_call Try.call69 (now_ok h)) rfl rfl ?_
          rintro _ w ⟨hnp, hn1, h⟩
          have ob_ := hnp.form (h.fetch (Pool pool))
          obtain ⟨an, cn, hnv, hnc, hnm⟩ := ob_
          subst hnv
          have ob_ := openS (h.fetch (SecA 110 pool r))
          obtain ⟨vk, a, c, vs, hvk, hv1, hws, h⟩ := ob_
          refine WL.val (run_nilCheck rfl) rfl rfl ?_
          refine WL.val (run_fieldAddr 0 Try.underlying110 rfl Try.sizeOf22 rfl rfl) rfl rfl ?_
          refine WL.eff (eff_store (v := .slice _ _ _) h Try.sizeOf22 rfl rfl rfl rfl rfl) rfl rfl ?_
          rintro _ w h
          try simp only [Nat.zero_add, Nat.add_zero, List.set_cons_zero, List.set_cons_succ] at h
          refine WL.val (run_nilCheck rfl) rfl rfl ?_
          refine WL.val (run_fieldAddr 1 Try.underlying110 rfl Try.sizeOf23 rfl rfl) rfl rfl ?_
          refine WL.eff (eff_store (v := .slice _ _ _) h Try.sizeOf23 rfl rfl rfl rfl rfl) rfl rfl ?_
          rintro _ w h
          try simp only [Nat.zero_add, Nat.add_zero, List.set_cons_zero, List.set_cons_succ] at h
          refine WL.nil ?_
          -- round, path FFLT
          have hq := (h.ownEmpty 1 none).fetch (blk r.p [.slice an r.s.now.length cn, .slice none 0 0] 110)
          have h := closeS (TS := 110) (r := { r with s := ⟨r.s.now, []⟩ }) (pool := pool) (vk := .slice an r.s.now.length cn) (a := none) (c := 0) (vs := []) hnp hn1 waitsP_nil hq
          have h := Big.close hlen ((h.fetch (Big (SecA 110 pool) ((updR (fun s => ⟨s.now, []⟩) seen rows).eraseIdx i))).fetch (SecA 110 pool { r with s := ⟨r.s.now, []⟩ }))
          rw [updR_set (f := (fun s => ⟨s.now, []⟩)) hborn hi hseen] at h
          exact ⟨seen.push r.born, ⟨_, mkE_of ⟨rfl, trivial⟩, h.to⟩, hless⟩
        · skip
          refine WL.val (run_extract rfl rfl) rfl rfl ?_
          refine WL.nil ?_
          refine W.seq ?_
          refine W.condF rfl ?_
          refine W.exit ?_
          refine W.seq ?_
          refine W.region ?_
          refine WL.val run_assign rfl rfl ?_
          refine WL.nil ?_
          refine W.ret ?_
          refine bodyQ.r1 (v := .int .i64 _) Try.results18 rfl ?_
          -- path FFLF
          have hall := updR_all (f := (fun s => ⟨s.now, []⟩)) hnil
          rw [hall] at h
          have hkv : (rows.map fun r => { r with s := (⟨r.s.now, []⟩ : Sec) }).map Rw.kv = rows.map Rw.kv := by rw [List.map_map]; rfl
          rw [← hkv] at h
          have hm2 : flushM d2.m = (rows.map fun r => { r with s := (⟨r.s.now, []⟩ : Sec) }).map Rw.ks := by unfold flushM; rw [hm, List.map_map, List.map_map]; rfl
          have h := closeQ (T := 106) (TS := 110) (b := b) (pa := pa) (pn := d2.picks.length) (pc := pc) (d := { d2 with m := flushM d2.m }) (mb := mb) (ck := ck) (pool := pool) (L := Own 1 (.slice pa d2.picks.length pc) d2.picks.length (intsV d2.picks) :: L) hok.flush hm2 h.to
          refine ⟨by rw [hfl], ?_⟩
          rw [hfl]
          exact closeP (d := { d2 with m := flushM d2.m }) h

theorem waiting_ok {b : Nat} {d : Dk} (hlow : d.low) (h : On W0 (DiskP 106 110 b d :: L) w) : Calls Try.prog 23 #[.pointer (some ⟨b, 0, none⟩)] w (Ret fun v w' => v = .int .i64 (if stE d = 0 then (waitD d : Int) else 0) ∧ On W0 (DiskP 106 110 b d :: L) w') := by
  refine enter Try.func23 rfl Try.ntmps23 rfl ?_
  refine W.seq ?_
  refine W.region ?_
  refine WL.val run_assign rfl rfl ?_
  refine WL.nil ?_
  refine W.seq ?_
  refine W.seq ?_
  refine W.region ?_
  refine WL.val run_move rfl rfl ?_
  refine WL.eff (eff_call Try.call65 (stateP h)) rfl rfl ?_
  rintro _ w ⟨rfl, h⟩
  refine WL.val (run_neq rfl rfl) rfl rfl ?_
  refine WL.nil ?_
  refine W.condIf rfl (fun c2 => ?_) (fun c2 => ?_)
  · skip
    refine W.seq ?_
    refine W.region ?_
    refine WL.val run_assign rfl rfl ?_
    refine WL.nil ?_
    refine W.ret ?_
    refine bodyQ.r1 (v := .int .i64 _) Try.results23 rfl ?_
    -- path T
    exact ⟨by rw [if_neg c2], h⟩
  · skip
    refine W.skip ?_
    refine W.seq ?_
    have hst : stE d = 0 := Decidable.not_not.1 c2
    have ob_ := openP h
    obtain ⟨pa, pc, h⟩ := ob_
    have ob_ := openQ h
    obtain ⟨mb, ck, rows, pool, hok, hm, h⟩ := ob_
    have ob_ := On.mapC h.p1
    obtain ⟨hfit, hmb⟩ := ob_
    have hborn := fitM_born hfit
    have hwb := waitD_le hok
    have hcl := hlow.1
    have hws : waitD d = (rows.map fun r => r.s.wait.length).sum := by unfold waitD; rw [hm, List.map_map]; rfl
    refine W.region ?_
    refine WL.val run_assign rfl rfl ?_
    refine WL.nil ?_
    refine W.seq ?_
    refine W.seq ?_
    refine W.region ?_
    refine WL.val run_move rfl rfl ?_
    refine WL.val (run_nilCheck rfl) rfl rfl ?_
    refine WL.val (run_fieldAddr 1 Try.underlying106 rfl Try.sizeOf104 rfl rfl) rfl rfl ?_
    refine WL.val (run_load1 Try.isAgg104 rfl (h.cellB rfl)) rfl rfl ?_
    refine WL.eff (eff_range (h.fetch (MapC mb .i64 (rows.map Rw.kv) ck)) Try.underlying104 rfl) rfl rfl ?_
    rintro _ w ⟨rr, rfl, h⟩
    refine WL.nil ?_
    refine W.block ?_
    refine W.loop (fun (seen : Array Nat) env w => ∃ j, env = mkE j [(13, .pointer (some ⟨rr, 0, none⟩)), (3, .int .i64 ((waitD d - sumR seen rows : Nat) : Int))] ∧ sumR seen rows ≤ waitD d ∧ On W0 (IterC rr mb seen ck :: MapC mb .i64 (rows.map Rw.kv) ck :: Big (SecA 110 pool) rows :: blk b [.int .i64 d.n, .map (some mb), .bool d.off, .bool d.dead, .int .i64 d.armed, .slice pa d.picks.length pc, .int .i64 d.calls] 106 :: Pool pool :: Own 1 (.slice pa d.picks.length pc) d.picks.length (intsV d.picks) :: L) w) (fun seen => (remM (rows.map Rw.kv) seen).length) (#[]) ?_ ?_
    · exact ⟨_, mkE_of ⟨rfl, (congrArg (fun n : Nat => Value.int .i64 (n : Int)) (show waitD d - sumR #[] rows = 0 by rw [sumR_none, hws]; omega)).symm, trivial⟩, by rw [sumR_none, hws]; exact Nat.le_refl _, h.to⟩
    · rintro seen env w ⟨j, rfl, hle, h⟩
      refine W.seq ?_
      refine W.region ?_
      refine WL.eff (eff_next (h.fetch (IterC rr mb seen ck)) rfl) rfl rfl ?_
      rintro _ w h0
      rcases h0 with ⟨hnil, rfl, h⟩ | ⟨e1, hin, rfl, h⟩
      rotate_left
      · skip
        refine WL.val (run_extract rfl rfl) rfl rfl ?_
        refine WL.nil ?_
        refine W.seq ?_
        refine W.condT rfl ?_
        refine W.skip ?_
        refine W.block ?_
        refine W.seq ?_
        skip
        refine W.region ?_
        refine WL.val (run_entryM h (rem_mem hin) rfl) rfl rfl ?_
        refine WL.val (run_extract rfl rfl) rfl rfl ?_
        refine WL.val run_assign rfl rfl ?_
        refine WL.nil ?_
        have ob_ := rem_row hin
        obtain ⟨i, r, hi, rfl, hseen⟩ := ob_
        have hri : r ∈ rows := List.mem_of_getElem? hi
        have hborn := fitM_born hfit
        have hless := remM_push hin
        change On W0 (IterC rr mb (seen.push r.born) ck :: MapC mb .i64 (rows.map Rw.kv) ck :: _) w at h
        have hpush := sumR_push hborn hri hseen
        have hlen : i < rows.length := (List.getElem?_eq_some_iff.1 hi).1
        have h := Big.open hi (h.fetch (Big (SecA 110 pool) rows))
        have ob_ := openS h
        obtain ⟨vk, a, c, vs, hvk, hv1, hws2, h⟩ := ob_
        refine W.region ?_
        refine WL.val run_move rfl rfl ?_
        refine WL.val run_move rfl rfl ?_
        refine WL.val (run_nilCheck rfl) rfl rfl ?_
        refine WL.val (run_fieldAddr 1 Try.underlying110 rfl Try.sizeOf23 rfl rfl) rfl rfl ?_
        refine WL.val (run_load1 Try.isAgg23 rfl (h.cellB rfl)) rfl rfl ?_
        refine WL.val (run_lenSlice Try.underlying23 rfl) rfl rfl ?_
        refine WL.val (run_addN rfl rfl (by omega)) rfl rfl ?_
        refine WL.val run_assign rfl rfl ?_
        refine WL.nil ?_
        -- round, path FLT
        have h := closeS (TS := 110) (r := r) (pool := pool) (a := a) (c := c) (vk := vk) (vs := vs) hvk hv1 hws2 h
        have h := Big.close (y := r) hlen ((h.fetch (Big (SecA 110 pool) (rows.eraseIdx i))).fetch (SecA 110 pool r))
        rw [set_same hi] at h
        exact ⟨seen.push r.born, ⟨_, mkE_of ⟨rfl, (congrArg (fun n : Nat => Value.int .i64 (n : Int)) (show waitD d - sumR (seen.push r.born) rows = waitD d - sumR seen rows + r.s.wait.length by omega)).symm, trivial⟩, by omega, h.to⟩, hless⟩
      · skip
        refine WL.val (run_extract rfl rfl) rfl rfl ?_
        refine WL.nil ?_
        refine W.seq ?_
        refine W.condF rfl ?_
        refine W.exit ?_
        refine W.seq ?_
        refine W.region ?_
        refine WL.val run_move rfl rfl ?_
        refine WL.val run_assign rfl rfl ?_
        refine WL.nil ?_
        refine W.ret ?_
        refine bodyQ.r1 (v := .int .i64 _) Try.results23 rfl ?_
        -- path FLF
        have h0 := sumR_all hnil
        have h := closeQ (T := 106) (TS := 110) (b := b) (pa := pa) (pn := d.picks.length) (pc := pc) (d := d) (mb := mb) (ck := ck) (rows := rows) (pool := pool) (L := Own 1 (.slice pa d.picks.length pc) d.picks.length (intsV d.picks) :: L) hok hm h.to
        refine ⟨?_, closeP h⟩
        rw [if_pos hst, show waitD d - sumR seen rows = waitD d by omega]

end Go.Proofs.Ytlahgihjjabgmaa
