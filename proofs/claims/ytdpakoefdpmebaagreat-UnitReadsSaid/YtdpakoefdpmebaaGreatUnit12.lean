/-
  A unit: a reader: the contracts. Lines of walks printed by a program of the prover's.
-/
import Derived.Test.YtdpakoefdpmebaaGreatUnit11
import Derived.Test.YtdpakoefdpmebaaGreatUnitRead
namespace Go.Proofs.YtdpakoefdpmebaaGreat
open Go Go.Sl Go.Sl.BitM Go.Sl.SpM Go.Sl.RsM Go.Sl.ByM Go.Sl.UnM
set_option linter.unusedVariables false
set_option linter.unusedSimpArgs false
set_option maxHeartbeats 1000000
set_option maxRecDepth 8000
variable {W0 w : World} {L F : List HProp}

theorem number_ok [tF : To L F] {br cb : Nat} {ab : Option Addr} {bs : List UInt8} {bad : Bool} {n : Nat} (hn1 : 1 ≤ n) (hn8 : n ≤ 8) (h : On W0 (blk br [.slice ab bs.length cb, .bool bad] 72 :: L) w) (C : Gives F (Bytes (.slice ab bs.length cb) bs)) : Calls Tryz.prog 83 #[.pointer (some ⟨br, 0, none⟩), .int .i64 (n : Int)] w (Ret fun v w' => (n ≤ bs.length ∧ ∃ a' c', Gives F (Bytes (.slice a' (bs.drop n).length c') (bs.drop n)) ∧ v = .int .u64 (beV (bs.take n) : Int) ∧ On W0 (blk br [.slice a' (bs.drop n).length c', .bool bad] 72 :: L) w') ∨ (bs.length < n ∧ v = .int .u64 0 ∧ On W0 (blk br [.slice none ([] : List UInt8).length 0, .bool true] 72 :: L) w')) := by
  refine enter Tryz.func83 rfl Tryz.ntmps83 rfl ?_
  have hmx := maxLen_eq
  have ob_ := Cells.bounds (h.readsTo C)
  obtain ⟨hbc, hbm⟩ := ob_
  refine W.seq ?_
  refine W.region ?_
  refine WL.val run_assign rfl rfl ?_
  refine WL.nil ?_
  refine W.seq ?_
  refine W.region ?_
  refine WL.val run_move rfl rfl ?_
  refine WL.val (run_nilCheck rfl) rfl rfl ?_
  refine WL.val (run_fieldAddr 0 Tryz.underlying72 rfl Tryz.sizeOf22 rfl rfl) rfl rfl ?_
  refine WL.val (run_load1 Tryz.isAgg22 rfl (h.cellB rfl)) rfl rfl ?_
  refine WL.val run_move rfl rfl ?_
  refine WL.eff (eff_call Tryz.call80 (bget_ok (at_ := ((0 : Nat) : Int)) (n := (n : Int)) (bs := bs) h (Gives.to C))) rfl rfl ?_
  rintro _ w hg
  rcases hg with ⟨hok, rfl, h⟩ | ⟨hno, rfl, h⟩
  · skip
    refine WL.val run_move rfl rfl ?_
    refine WL.val (run_extract rfl rfl) rfl rfl ?_
    refine WL.val (run_extract rfl rfl) rfl rfl ?_
    refine WL.val run_assign rfl rfl ?_
    refine WL.val run_assign rfl rfl ?_
    refine WL.nil ?_
    refine W.seq ?_
    refine W.seq ?_
    refine W.region ?_
    refine WL.val run_move rfl rfl ?_
    refine WL.val (run_not rfl) rfl rfl ?_
    refine WL.nil ?_
    refine W.condF rfl ?_
    refine W.skip ?_
    refine W.seq ?_
    have hle : n ≤ bs.length := by omega
    have ob_ := cut_gives (k := n) C hle hbc
    obtain ⟨a', c', hcut, CC⟩ := ob_
    refine W.region ?_
    refine WL.val run_move rfl rfl ?_
    refine WL.val run_move rfl rfl ?_
    refine WL.val (run_nilCheck rfl) rfl rfl ?_
    refine WL.val (run_fieldAddr 0 Tryz.underlying72 rfl Tryz.sizeOf22 rfl rfl) rfl rfl ?_
    refine WL.val (run_load1 Tryz.isAgg22 rfl (h.cellB rfl)) rfl rfl ?_
    refine WL.val run_move rfl rfl ?_
    refine WL.val (run_cutLV (l := n) Tryz.underlying22 Tryz.sizeOf5 rfl rfl hle hcut) rfl rfl ?_
    refine WL.val (run_nilCheck rfl) rfl rfl ?_
    refine WL.val (run_fieldAddr 0 Tryz.underlying72 rfl Tryz.sizeOf22 rfl rfl) rfl rfl ?_
    refine WL.eff (eff_store (v := .slice _ _ _) h Tryz.sizeOf22 rfl rfl rfl rfl rfl) rfl rfl ?_
    rintro _ w h
    try simp only [Nat.zero_add, Nat.add_zero, List.set_cons_zero, List.set_cons_succ] at h
    refine WL.nil ?_
    refine W.seq ?_
    refine W.region ?_
    refine WL.val run_move rfl rfl ?_
    refine WL.val run_assign rfl rfl ?_
    refine WL.nil ?_
    refine W.ret ?_
    refine bodyQ.r1 (v := .int .u64 _) Tryz.results83 rfl ?_
    -- path T
    have ev : bs.take n = (bs.drop ((0 : Nat) : Int).toNat).take ((n : Int)).toNat := by simp
    rw [ev]
    exact .inl ⟨hle, a', c', CC, rfl, h.to⟩
  · skip
    refine WL.val run_move rfl rfl ?_
    refine WL.val (run_extract rfl rfl) rfl rfl ?_
    refine WL.val (run_extract rfl rfl) rfl rfl ?_
    refine WL.val run_assign rfl rfl ?_
    refine WL.val run_assign rfl rfl ?_
    refine WL.nil ?_
    refine W.seq ?_
    refine W.seq ?_
    refine W.region ?_
    refine WL.val run_move rfl rfl ?_
    refine WL.val (run_not rfl) rfl rfl ?_
    refine WL.nil ?_
    refine W.condT rfl ?_
    refine W.seq ?_
    refine W.region ?_
    refine WL.val run_move rfl rfl ?_
    refine WL.val run_move rfl rfl ?_
    refine WL.val (run_nilCheck rfl) rfl rfl ?_
    refine WL.val (run_fieldAddr 1 Tryz.underlying72 rfl Tryz.sizeOf4 rfl rfl) rfl rfl ?_
    refine WL.eff (eff_store (v := .bool _) h Tryz.sizeOf4 rfl rfl rfl rfl rfl) rfl rfl ?_
    rintro _ w h
    try simp only [Nat.zero_add, Nat.add_zero, List.set_cons_zero, List.set_cons_succ] at h
    refine WL.val (run_nilCheck rfl) rfl rfl ?_
    refine WL.val (run_fieldAddr 0 Tryz.underlying72 rfl Tryz.sizeOf22 rfl rfl) rfl rfl ?_
    refine WL.eff (eff_store (v := .slice _ _ _) h Tryz.sizeOf22 rfl rfl rfl rfl rfl) rfl rfl ?_
    rintro _ w h
    try simp only [Nat.zero_add, Nat.add_zero, List.set_cons_zero, List.set_cons_succ] at h
    refine WL.nil ?_
    refine W.seq ?_
    refine W.region ?_
    refine WL.val run_assign rfl rfl ?_
    refine WL.nil ?_
    refine W.ret ?_
    refine bodyQ.r1 (v := .int .u64 _) Tryz.results83 rfl ?_
    -- path F
    exact .inr ⟨by omega, rfl, h.to⟩

theorem rpart_ok [tF : To L F] {br cb : Nat} {ab : Option Addr} {bs : List UInt8} {bad : Bool} (h : On W0 (blk br [.slice ab bs.length cb, .bool bad] 72 :: L) w) (C : Gives F (Bytes (.slice ab bs.length cb) bs)) : Calls Tryz.prog 30 #[.pointer (some ⟨br, 0, none⟩)] w (Ret fun v w' => (4 ≤ bs.length ∧ (beV (bs.take 4)) ≤ (bs.drop 4).length ∧ ∃ a1 c1 a2 c2, Gives F (Bytes (.slice a1 ((bs.drop 4).take (beV (bs.take 4))).length c1) ((bs.drop 4).take (beV (bs.take 4)))) ∧ Gives F (Bytes (.slice a2 ((bs.drop 4).drop (beV (bs.take 4))).length c2) ((bs.drop 4).drop (beV (bs.take 4)))) ∧ v = .slice a1 ((bs.drop 4).take (beV (bs.take 4))).length c1 ∧ On W0 (blk br [.slice a2 ((bs.drop 4).drop (beV (bs.take 4))).length c2, .bool bad] 72 :: L) w') ∨ (¬ (4 ≤ bs.length ∧ (beV (bs.take 4)) ≤ (bs.drop 4).length) ∧ v = .slice none 0 0 ∧ On W0 (blk br [.slice none ([] : List UInt8).length 0, .bool true] 72 :: L) w')) := by
  refine enter Tryz.func30 rfl Tryz.ntmps30 rfl ?_
  have hmx := maxLen_eq
  refine W.seq ?_
  refine W.region ?_
  refine WL.val run_assign rfl rfl ?_
  refine WL.nil ?_
  refine W.seq ?_
  refine W.region ?_
  refine WL.val run_move rfl rfl ?_
  refine WL.eff (eff_call Tryz.call83 (number_ok (n := 4) (by decide) (by decide) h C)) rfl rfl ?_
  rintro _ w hg
  rcases hg with ⟨h4, a', c', CC, rfl, h⟩ | ⟨h4, rfl, h⟩
  · skip
    have ob_ := Cells.bounds (h.readsTo CC)
    obtain ⟨hbc, hbm⟩ := ob_
    refine WL.val run_assign rfl rfl ?_
    refine WL.nil ?_
    refine W.seq ?_
    refine W.seq ?_
    refine W.region ?_
    refine WL.val run_move rfl rfl ?_
    refine WL.val run_move rfl rfl ?_
    refine WL.val (run_nilCheck rfl) rfl rfl ?_
    refine WL.val (run_fieldAddr 0 Tryz.underlying72 rfl Tryz.sizeOf22 rfl rfl) rfl rfl ?_
    refine WL.val (run_load1 Tryz.isAgg22 rfl (h.cellB rfl)) rfl rfl ?_
    refine WL.val (run_lenSlice Tryz.underlying22 rfl) rfl rfl ?_
    refine WL.val (run_convIn Tryz.underlying3 Tryz.underlying23 rfl (by show (0 : Int) ≤ _; omega) (by show _ ≤ (18446744073709551615 : Int); omega)) rfl rfl ?_
    refine WL.dec (run_gtr rfl rfl) rfl rfl (fun c14 => ?_) (fun c14 => ?_)
    · skip
      refine WL.nil ?_
      refine W.condT rfl ?_
      refine W.seq ?_
      refine W.region ?_
      refine WL.val run_move rfl rfl ?_
      refine WL.val run_move rfl rfl ?_
      refine WL.val (run_nilCheck rfl) rfl rfl ?_
      refine WL.val (run_fieldAddr 1 Tryz.underlying72 rfl Tryz.sizeOf4 rfl rfl) rfl rfl ?_
      refine WL.eff (eff_store (v := .bool _) h Tryz.sizeOf4 rfl rfl rfl rfl rfl) rfl rfl ?_
      rintro _ w h
      try simp only [Nat.zero_add, Nat.add_zero, List.set_cons_zero, List.set_cons_succ] at h
      refine WL.val (run_nilCheck rfl) rfl rfl ?_
      refine WL.val (run_fieldAddr 0 Tryz.underlying72 rfl Tryz.sizeOf22 rfl rfl) rfl rfl ?_
      refine WL.eff (eff_store (v := .slice _ _ _) h Tryz.sizeOf22 rfl rfl rfl rfl rfl) rfl rfl ?_
      rintro _ w h
      try simp only [Nat.zero_add, Nat.add_zero, List.set_cons_zero, List.set_cons_succ] at h
      refine WL.nil ?_
      refine W.seq ?_
      refine W.region ?_
      refine WL.val run_assign rfl rfl ?_
      refine WL.nil ?_
      refine W.ret ?_
      refine bodyQ.r1 (v := .slice _ _ _) Tryz.results30 rfl ?_
      -- path TT
      exact .inr ⟨by omega, rfl, h.to⟩
    · skip
      refine WL.nil ?_
      refine W.condF rfl ?_
      refine W.skip ?_
      refine W.seq ?_
      have hle : (beV (bs.take 4)) ≤ (bs.drop 4).length := by omega
      have hvl : (beV (bs.take 4)) = ((bs.drop 4).take (beV (bs.take 4))).length := by rw [List.length_take]; omega
      have ob_ := cut_gives (k := (beV (bs.take 4))) CC hle hbc
      obtain ⟨a2, c2, hcut, C2⟩ := ob_
      refine W.region ?_
      refine WL.val run_move rfl rfl ?_
      refine WL.val (run_nilCheck rfl) rfl rfl ?_
      refine WL.val (run_fieldAddr 0 Tryz.underlying72 rfl Tryz.sizeOf22 rfl rfl) rfl rfl ?_
      refine WL.val (run_load1 Tryz.isAgg22 rfl (h.cellB rfl)) rfl rfl ?_
      refine WL.val run_move rfl rfl ?_
      refine WL.val (run_cutHV (h := (beV (bs.take 4))) Tryz.underlying22 Tryz.sizeOf5 rfl rfl (by omega) hvl) rfl rfl ?_
      refine WL.val run_assign rfl rfl ?_
      refine WL.nil ?_
      refine W.seq ?_
      refine W.region ?_
      refine WL.val run_move rfl rfl ?_
      refine WL.val run_move rfl rfl ?_
      refine WL.val (run_nilCheck rfl) rfl rfl ?_
      refine WL.val (run_fieldAddr 0 Tryz.underlying72 rfl Tryz.sizeOf22 rfl rfl) rfl rfl ?_
      refine WL.val (run_load1 Tryz.isAgg22 rfl (h.cellB rfl)) rfl rfl ?_
      refine WL.val run_move rfl rfl ?_
      refine WL.val (run_cutLV (l := (beV (bs.take 4))) Tryz.underlying22 Tryz.sizeOf5 rfl rfl hle hcut) rfl rfl ?_
      refine WL.val (run_nilCheck rfl) rfl rfl ?_
      refine WL.val (run_fieldAddr 0 Tryz.underlying72 rfl Tryz.sizeOf22 rfl rfl) rfl rfl ?_
      refine WL.eff (eff_store (v := .slice _ _ _) h Tryz.sizeOf22 rfl rfl rfl rfl rfl) rfl rfl ?_
      rintro _ w h
      try simp only [Nat.zero_add, Nat.add_zero, List.set_cons_zero, List.set_cons_succ] at h
      refine WL.nil ?_
      refine W.seq ?_
      refine W.region ?_
      refine WL.val run_move rfl rfl ?_
      refine WL.val run_assign rfl rfl ?_
      refine WL.nil ?_
      refine W.ret ?_
      refine bodyQ.r1 (v := .slice _ _ _) Tryz.results30 rfl ?_
      -- path TF
      exact .inl ⟨h4, hle, a', c', a2, c2, front_bytes CC hle, C2, rfl, h.to⟩
  · skip
    refine WL.val run_assign rfl rfl ?_
    refine WL.nil ?_
    refine W.seq ?_
    refine W.seq ?_
    refine W.region ?_
    refine WL.val run_move rfl rfl ?_
    refine WL.val run_move rfl rfl ?_
    refine WL.val (run_nilCheck rfl) rfl rfl ?_
    refine WL.val (run_fieldAddr 0 Tryz.underlying72 rfl Tryz.sizeOf22 rfl rfl) rfl rfl ?_
    refine WL.val (run_load1 Tryz.isAgg22 rfl (h.cellB rfl)) rfl rfl ?_
    refine WL.val (run_lenSlice Tryz.underlying22 rfl) rfl rfl ?_
    refine WL.val (run_convIn (n := 0) Tryz.underlying3 Tryz.underlying23 rfl (by decide) (by decide)) rfl rfl ?_
    refine WL.val (run_gtrF rfl rfl (by decide)) rfl rfl ?_
    refine WL.nil ?_
    refine W.condF rfl ?_
    refine W.skip ?_
    refine W.seq ?_
    refine W.region ?_
    refine WL.val run_move rfl rfl ?_
    refine WL.val (run_nilCheck rfl) rfl rfl ?_
    refine WL.val (run_fieldAddr 0 Tryz.underlying72 rfl Tryz.sizeOf22 rfl rfl) rfl rfl ?_
    refine WL.val (run_load1 Tryz.isAgg22 rfl (h.cellB rfl)) rfl rfl ?_
    refine WL.val run_move rfl rfl ?_
    refine WL.val (run_cutHV (h := 0) (r := 0) Tryz.underlying22 Tryz.sizeOf5 rfl rfl (Nat.le_refl _) rfl) rfl rfl ?_
    refine WL.val run_assign rfl rfl ?_
    refine WL.nil ?_
    refine W.seq ?_
    refine W.region ?_
    refine WL.val run_move rfl rfl ?_
    refine WL.val run_move rfl rfl ?_
    refine WL.val (run_nilCheck rfl) rfl rfl ?_
    refine WL.val (run_fieldAddr 0 Tryz.underlying72 rfl Tryz.sizeOf22 rfl rfl) rfl rfl ?_
    refine WL.val (run_load1 Tryz.isAgg22 rfl (h.cellB rfl)) rfl rfl ?_
    refine WL.val run_move rfl rfl ?_
    refine WL.val (run_cutLV (l := 0) Tryz.underlying22 Tryz.sizeOf5 rfl rfl (Nat.le_refl _) rfl) rfl rfl ?_
    refine WL.val (run_nilCheck rfl) rfl rfl ?_
    refine WL.val (run_fieldAddr 0 Tryz.underlying72 rfl Tryz.sizeOf22 rfl rfl) rfl rfl ?_
    refine WL.eff (eff_store (v := .slice _ _ _) h Tryz.sizeOf22 rfl rfl rfl rfl rfl) rfl rfl ?_
    rintro _ w h
    try simp only [Nat.zero_add, Nat.add_zero, List.set_cons_zero, List.set_cons_succ] at h
    refine WL.nil ?_
    refine W.seq ?_
    refine W.region ?_
    refine WL.val run_move rfl rfl ?_
    refine WL.val run_assign rfl rfl ?_
    refine WL.nil ?_
    refine W.ret ?_
    refine bodyQ.r1 (v := .slice _ _ _) Tryz.results30 rfl ?_
    -- path F
    have h : On W0 (blk br [.slice none ([] : List UInt8).length 0, .bool true] 72 :: _) w := h
    exact .inr ⟨by omega, rfl, h.to⟩

theorem rnum_ok [tF : To L F] {br cb : Nat} {ab : Option Addr} {s : RS} {n : Nat} (hn1 : 1 ≤ n) (hn8 : n ≤ 8) (h : On W0 (blk br [.slice ab s.1.length cb, .bool s.2] 72 :: L) w) (C : Gives F (Bytes (.slice ab s.1.length cb) s.1)) : Calls Tryz.prog 83 #[.pointer (some ⟨br, 0, none⟩), .int .i64 (n : Int)] w (Ret fun v w' => ∃ a' c', Gives F (Bytes (.slice a' (rdN n s).2.1.length c') (rdN n s).2.1) ∧ v = .int .u64 ((rdN n s).1 : Int) ∧ On W0 (blk br [.slice a' (rdN n s).2.1.length c', .bool (rdN n s).2.2] 72 :: L) w') := by
  skip
  exact (number_ok hn1 hn8 h C).mono fun e w' he => by
    obtain ⟨v, he, hv⟩ := he
    refine ⟨v, he, ?_⟩
    rcases hv with ⟨hle, a', c', CC, hv, h⟩ | ⟨hlt, hv, h⟩
    · have e : rdN n s = (beV (s.1.take n), (s.1.drop n, s.2)) := by unfold rdN; rw [if_pos hle]
      rw [e]
      exact ⟨a', c', CC, hv, h⟩
    · have e : rdN n s = (0, ([], true)) := by unfold rdN; rw [if_neg (by omega)]
      rw [e]
      exact ⟨none, 0, Gives.nilB, hv, h⟩

theorem rprt_ok [tF : To L F] {br cb : Nat} {ab : Option Addr} {s : RS} (h : On W0 (blk br [.slice ab s.1.length cb, .bool s.2] 72 :: L) w) (C : Gives F (Bytes (.slice ab s.1.length cb) s.1)) : Calls Tryz.prog 30 #[.pointer (some ⟨br, 0, none⟩)] w (Ret fun v w' => ∃ a1 c1 a' c', Gives F (Bytes (.slice a1 (rdP s).1.length c1) (rdP s).1) ∧ Gives F (Bytes (.slice a' (rdP s).2.1.length c') (rdP s).2.1) ∧ v = .slice a1 (rdP s).1.length c1 ∧ On W0 (blk br [.slice a' (rdP s).2.1.length c', .bool (rdP s).2.2] 72 :: L) w') := by
  skip
  exact (rpart_ok h C).mono fun e w' he => by
    obtain ⟨v, he, hv⟩ := he
    refine ⟨v, he, ?_⟩
    rcases hv with ⟨h4, hle, a1, c1, a', c', C1, C2, hv, h⟩ | ⟨hno, hv, h⟩
    · have e : rdP s = ((s.1.drop 4).take (beV (s.1.take 4)), ((s.1.drop 4).drop (beV (s.1.take 4)), s.2)) := by unfold rdP; rw [if_pos ⟨h4, hle⟩]
      rw [e]
      exact ⟨a1, c1, a', c', C1, C2, hv, h⟩
    · have e : rdP s = ([], ([], true)) := by unfold rdP; rw [if_neg hno]
      rw [e]
      exact ⟨none, 0, none, 0, Gives.nilB, Gives.nilB, hv, h⟩

end Go.Proofs.YtdpakoefdpmebaaGreat
