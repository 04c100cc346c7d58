/-
  Values on two sectors, on a disk: the contracts. Lines of walks printed by a program of the prover's.
-/
import Derived.Test.YtlahgihjjabgmaaTwin
namespace Go.Proofs.Ytlahgihjjabgmaa
open Go Go.Sl Go.Sl.ByM Go.Sl.DkM Go.Sl.TwM
set_option linter.unusedVariables false
set_option linter.unusedSimpArgs false
set_option maxHeartbeats 1000000
set_option maxRecDepth 8000
variable {W0 w : World} {L F : List HProp}

theorem in_ok {b : Nat} {d : Dk} {at_ : Int} (hn : 0 ≤ d.n) (h : On W0 (DiskP 106 110 b d :: L) w) : Calls Try.prog 84 #[.pointer (some ⟨b, 0, none⟩), .int .i64 at_] w (Ret fun v w' => v = .bool (decide (inT d at_)) ∧ On W0 (DiskP 106 110 b d :: L) w') := by
  refine enter Try.func84 rfl Try.ntmps84 rfl ?_
  have hok := diskOk h
  have hn4 := hok.1
  refine W.seq ?_
  refine W.region ?_
  refine WL.val run_assign rfl rfl ?_
  refine WL.nil ?_
  refine W.seq ?_
  refine W.region ?_
  refine WL.val run_move rfl rfl ?_
  refine WL.dec (run_geq rfl rfl) rfl rfl (fun c6 => ?_) (fun c6 => ?_)
  · skip
    refine WL.val run_move rfl rfl ?_
    refine WL.val run_move rfl rfl ?_
    refine WL.val run_move rfl rfl ?_
    refine WL.eff (eff_call Try.call63 (sectors_ok h)) rfl rfl ?_
    rintro _ w ⟨rfl, h⟩
    refine WL.val (run_sub rfl rfl (by omega) (by omega)) rfl rfl ?_
    refine WL.dec (run_lss rfl rfl) rfl rfl (fun c12 => ?_) (fun c12 => ?_)
    · skip
      refine WL.val (run_pickT rfl) rfl rfl ?_
      refine WL.val run_assign rfl rfl ?_
      refine WL.nil ?_
      refine W.ret ?_
      refine bodyQ.r1 (v := .bool _) Try.results84 rfl ?_
      -- path TT
      exact ⟨by rw [decide_eq_true (show inT d at_ from ⟨by omega, by omega⟩)], h⟩
    · skip
      refine WL.val (run_pickT rfl) rfl rfl ?_
      refine WL.val run_assign rfl rfl ?_
      refine WL.nil ?_
      refine W.ret ?_
      refine bodyQ.r1 (v := .bool _) Try.results84 rfl ?_
      -- path TF
      exact ⟨by rw [decide_eq_false (fun hh : inT d at_ => by obtain ⟨h1, h2⟩ := hh; omega)], h⟩
  · skip
    refine WL.val run_move rfl rfl ?_
    refine WL.skip rfl rfl ?_
    refine WL.skip rfl rfl ?_
    refine WL.skip rfl rfl ?_
    refine WL.skip rfl rfl ?_
    refine WL.skip rfl rfl ?_
    refine WL.val (run_pickF rfl) rfl rfl ?_
    refine WL.val run_assign rfl rfl ?_
    refine WL.nil ?_
    refine W.ret ?_
    refine bodyQ.r1 (v := .bool _) Try.results84 rfl ?_
    -- path F
    exact ⟨by rw [decide_eq_false (fun hh : inT d at_ => by obtain ⟨h1, h2⟩ := hh; omega)], h⟩

theorem value_ok {bt b : Nat} {at_ : Int} {number : Nat} {value : List UInt8} (hl : value.length ≤ 1000000) (h : On W0 (TwinP 126 bt b at_ number value :: L) w) : Calls Try.prog 32 #[.pointer (some ⟨bt, 0, none⟩)] w (Ret fun v w' => ∃ a, v = .slice a value.length value.length ∧ On W0 (OwnB (.slice a value.length value.length) value :: TwinP 126 bt b at_ number value :: L) w') := by
  refine enter Try.func32 rfl Try.ntmps32 rfl ?_
  have ob_ := openTw h
  obtain ⟨a, c, hnum, h⟩ := ob_
  refine W.seq ?_
  refine W.region ?_
  refine WL.val run_assign rfl rfl ?_
  refine WL.nil ?_
  refine W.seq ?_
  refine W.region ?_
  refine WL.val run_move rfl rfl ?_
  refine WL.val (run_nilCheck rfl) rfl rfl ?_
  refine WL.val (run_fieldAddr 3 Try.underlying126 rfl Try.sizeOf22 rfl rfl) rfl rfl ?_
  refine WL.val (run_load1 Try.isAgg22 rfl (h.cellB rfl)) rfl rfl ?_
  refine WL.eff (eff_call Try.call68 (clone_bytes h (Gives.ownO (v := .slice a value.length c)) (by omega))) rfl rfl ?_
  rintro _ w ⟨a7, c7, rfl, h⟩
  refine WL.eff (eff_call Try.call81 (clip_bytes h)) rfl rfl ?_
  rintro _ w ⟨rfl, h⟩
  refine WL.val run_assign rfl rfl ?_
  refine WL.nil ?_
  refine W.ret ?_
  refine bodyQ.r1 (v := .slice _ _ _) Try.results32 rfl ?_
  -- path 
  have h2 := closeTw (value := value) (TT := 126) (bt := bt) (b := b) (at_ := at_) (a := a) (c := c) (L := OwnB (.slice a7 value.length value.length) value :: L) hnum h.to
  exact ⟨a7, rfl, h2.p1⟩

theorem number_ok {bt b : Nat} {at_ : Int} {number : Nat} {value : List UInt8} (h : On W0 (TwinP 126 bt b at_ number value :: L) w) : Calls Try.prog 31 #[.pointer (some ⟨bt, 0, none⟩)] w (Ret fun v w' => v = .int .u64 (number : Int) ∧ On W0 (TwinP 126 bt b at_ number value :: L) w') := by
  refine enter Try.func31 rfl Try.ntmps31 rfl ?_
  have ob_ := openTw h
  obtain ⟨a, c, hnum, h⟩ := ob_
  refine W.seq ?_
  refine W.region ?_
  refine WL.val run_assign rfl rfl ?_
  refine WL.nil ?_
  refine W.seq ?_
  refine W.region ?_
  refine WL.val run_move rfl rfl ?_
  refine WL.val (run_nilCheck rfl) rfl rfl ?_
  refine WL.val (run_fieldAddr 2 Try.underlying126 rfl Try.sizeOf40 rfl rfl) rfl rfl ?_
  refine WL.val (run_load1 Try.isAgg40 rfl (h.cellB rfl)) rfl rfl ?_
  refine WL.val run_assign rfl rfl ?_
  refine WL.nil ?_
  refine W.ret ?_
  refine bodyQ.r1 (v := .int .u64 _) Try.results31 rfl ?_
  -- path 
  exact ⟨rfl, closeTw (a := a) (c := c) hnum h⟩

theorem fmt1_ok {b b3 b4 : Nat} {d : Dk} {at_ : Int} (hlow : d.low) (h : On W0 (DiskP 106 110 b d :: blk b3 [.pointer (some ⟨b, 0, none⟩)] 26 :: blk b4 [.int .i64 at_] 3 :: L) w) : Calls Try.prog 85 #[.pointer (some ⟨b3, 0, none⟩), .pointer (some ⟨b4, 0, none⟩)] w (Ret fun v w' => v = .int .i64 (writeD d at_ []).1 ∧ On W0 (DiskP 106 110 b (writeD d at_ []).2 :: blk b3 [.pointer (some ⟨b, 0, none⟩)] 26 :: blk b4 [.int .i64 at_] 3 :: L) w') := by
  refine enter Try.func85 rfl Try.ntmps85 rfl ?_
  refine W.seq ?_
  refine W.region ?_
  refine WL.val run_assign rfl rfl ?_
  refine WL.nil ?_
  refine W.seq ?_
  refine W.region ?_
  refine WL.val (run_load1 Try.isAgg26 rfl (h.cellB rfl)) rfl rfl ?_
  refine WL.val (run_load1 Try.isAgg3 rfl (h.cellB rfl)) rfl rfl ?_
  refine WL.eff (eff_call Try.call17 (write_ok (k := at_) (bs := []) hlow h Gives.nilB)) rfl rfl ?_
  rintro _ w ⟨rfl, h⟩
  refine WL.val run_assign rfl rfl ?_
  refine WL.nil ?_
  refine W.ret ?_
  refine bodyQ.r1 (v := .int .i64 _) Try.results85 rfl ?_
  -- path 
  exact ⟨rfl, h⟩

theorem fmt2_ok {b b3 b4 b7 cq : Nat} {aq : Option Addr} {s : List UInt8} {d : Dk} {at_ : Int} (hlow : d.low) (hat : 0 ≤ at_ ∧ at_ ≤ 10000) (h : On W0 (DiskP 106 110 b d :: blk b3 [.pointer (some ⟨b, 0, none⟩)] 26 :: blk b4 [.int .i64 at_] 3 :: blk b7 [.slice aq s.length cq] 22 :: OwnB (.slice aq s.length cq) s :: L) w) : Calls Try.prog 86 #[.pointer (some ⟨b3, 0, none⟩), .pointer (some ⟨b4, 0, none⟩), .pointer (some ⟨b7, 0, none⟩)] w (Ret fun v w' => v = .int .i64 (writeD d (at_ + 1) s).1 ∧ On W0 (DiskP 106 110 b (writeD d (at_ + 1) s).2 :: blk b3 [.pointer (some ⟨b, 0, none⟩)] 26 :: blk b4 [.int .i64 at_] 3 :: blk b7 [.slice aq s.length cq] 22 :: OwnB (.slice aq s.length cq) s :: L) w') := by
  refine enter Try.func86 rfl Try.ntmps86 rfl ?_
  refine W.seq ?_
  refine W.region ?_
  refine WL.val run_assign rfl rfl ?_
  refine WL.nil ?_
  refine W.seq ?_
  refine W.region ?_
  refine WL.val (run_load1 Try.isAgg26 rfl (h.cellB rfl)) rfl rfl ?_
  refine WL.val (run_load1 Try.isAgg3 rfl (h.cellB rfl)) rfl rfl ?_
  refine WL.val (run_add rfl rfl (by omega) (by omega)) rfl rfl ?_
  refine WL.val (run_load1 Try.isAgg22 rfl (h.cellB rfl)) rfl rfl ?_
  refine WL.eff (eff_call Try.call17 (write_ok (k := at_ + 1) (bs := s) hlow h (Gives.ownO (v := .slice aq s.length cq)))) rfl rfl ?_
  rintro _ w ⟨rfl, h⟩
  refine WL.val run_assign rfl rfl ?_
  refine WL.nil ?_
  refine W.ret ?_
  refine bodyQ.r1 (v := .int .i64 _) Try.results86 rfl ?_
  -- path 
  exact ⟨rfl, h⟩

theorem format_ok {ax : Option Addr} {b cx : Nat} {d : Dk} {at_ : Int} {value : List UInt8} (hlow : d.lowK 3) (hn : 0 ≤ d.n) (h : On W0 (DiskP 106 110 b d :: L) w) (C : Gives L (Bytes (.slice ax value.length cx) value)) : Calls Try.prog 30 #[.pointer (some ⟨b, 0, none⟩), .int .i64 at_, .slice ax value.length cx] w (Ret fun v w' => v = .int .i64 (formatT d at_ value).1 ∧ On W0 (DiskP 106 110 b (formatT d at_ value).2 :: L) w') := by
  refine enter Try.func30 rfl Try.ntmps30 rfl ?_
  have hok := diskOk h
  have hn4 := hok.1
  refine W.seq ?_
  refine W.region ?_
  refine WL.eff (eff_box (v := .pointer _) (l := [.pointer _]) h rfl rfl) rfl rfl ?_
  rintro _ w ⟨b3, rfl, h⟩
  refine WL.eff (eff_box (v := .int .i64 _) (l := [.int .i64 _]) h rfl rfl) rfl rfl ?_
  rintro _ w ⟨b4, rfl, h⟩
  refine WL.val run_assign rfl rfl ?_
  refine WL.nil ?_
  refine W.seq ?_
  refine W.seq ?_
  refine W.region ?_
  refine WL.val (run_load1 Try.isAgg26 rfl (h.cellB rfl)) rfl rfl ?_
  refine WL.val (run_load1 Try.isAgg3 rfl (h.cellB rfl)) rfl rfl ?_
  refine WL.eff (eff_call Try.call84 (in_ok hn (h.fetch (DiskP 106 110 b d)))) rfl rfl ?_
  rintro _ w ⟨rfl, h⟩
  refine WL.val (run_notDec rfl) rfl rfl ?_
  refine WL.nil ?_
  refine W.condIf rfl (fun c2 => ?_) (fun c2 => ?_)
  · skip
    refine W.seq ?_
    refine W.region ?_
    refine WL.val run_assign rfl rfl ?_
    refine WL.nil ?_
    refine W.ret ?_
    refine bodyQ.r1 (v := .int .i64 _) Try.results30 rfl ?_
    -- path T
    have e : formatT d at_ value = (1, d) := by unfold formatT; rw [if_pos c2]
    exact ⟨by rw [e], by rw [e]; exact h.to⟩
  · skip
    refine W.skip ?_
    refine W.seq ?_
    refine W.region ?_
    refine WL.val run_move rfl rfl ?_
    refine WL.eff (eff_call Try.call25 (pack_ok (number := 1) (by decide) h (Gives.to C))) rfl rfl ?_
    rintro _ w hg
    rcases hg with ⟨hl, aq, rfl, h⟩ | ⟨hl, rfl, h⟩
    · skip
      refine WL.val run_move rfl rfl ?_
      refine WL.val (run_extract rfl rfl) rfl rfl ?_
      refine WL.val (run_extract rfl rfl) rfl rfl ?_
      refine WL.eff (eff_alloc h Try.zeroValue22 rfl) rfl rfl ?_
      rintro _ w ⟨b7, rfl, h⟩
      refine WL.eff (eff_store (v := .slice _ _ _) h Try.sizeOf22 rfl rfl rfl rfl rfl) rfl rfl ?_
      rintro _ w h
      try simp only [Nat.zero_add, Nat.add_zero, List.set_cons_zero, List.set_cons_succ] at h
      refine WL.val run_assign rfl rfl ?_
      refine WL.nil ?_
      refine W.seq ?_
      refine W.seq ?_
      refine W.region ?_
      refine WL.val run_move rfl rfl ?_
      refine WL.val (run_neqF rfl rfl (rfl)) rfl rfl ?_
      refine WL.nil ?_
      refine W.condF rfl ?_
      refine W.skip ?_
      refine W.seq ?_
      refine W.seq ?_
      have hin := Decidable.not_not.1 c2
      obtain ⟨hin1, hin2⟩ := hin
      have hl0 : (fmtD d at_ (secT 1 value) 0).lowK 3 := hlow
      have hl1 : (fmtD d at_ (secT 1 value) 1).lowK 2 := lowK_write hlow
      have hl2 : (fmtD d at_ (secT 1 value) 2).lowK 1 := lowK_write (k := 1) (lowK_write (k := 2) hlow)
      have hf : formatT d at_ value = if (fmtS d at_ (secT 1 value) 0).1 ≠ 0 then fmtS d at_ (secT 1 value) 0 else if (fmtS d at_ (secT 1 value) 1).1 ≠ 0 then fmtS d at_ (secT 1 value) 1 else fmtS d at_ (secT 1 value) 2 := by
        unfold formatT
        rw [if_neg c2, if_neg (by omega)]
      refine W.region ?_
      refine WL.val run_makeFunc rfl rfl ?_
      refine WL.val run_makeFunc rfl rfl ?_
      refine WL.val (run_load1 Try.isAgg26 rfl (h.cellB rfl)) rfl rfl ?_
      refine WL.val run_makeFunc rfl rfl ?_
      refine WL.eff (eff_mkRow (out := [.func (.func 85) #[] #[.pointer (some ⟨b3, 0, none⟩), .pointer (some ⟨b4, 0, none⟩)], .func (.func 86) #[] #[.pointer (some ⟨b3, 0, none⟩), .pointer (some ⟨b4, 0, none⟩), .pointer (some ⟨b7, 0, none⟩)], .func (.func 18) #[.pointer (some ⟨b, 0, none⟩)] #[]]) h Try.underlying127 Try.sizeOf31 Try.zeroValue31 rfl (by decide) rfl rfl rfl) rfl rfl ?_
      rintro _ w ⟨b28, rfl, h⟩
      refine WL.val (run_lenSlice Try.underlying127 rfl) rfl rfl ?_
      refine WL.val run_move rfl rfl ?_
      refine WL.nil ?_
      refine W.block ?_
      refine W.loop (fun (i : Nat) env w => i ≤ 3 ∧ (∀ j, j < i → (fmtS d at_ (secT 1 value) j).1 = 0) ∧ ∃ jk, env = mkE jk [(28, .slice (some ⟨b28, 0, none⟩) 3 3), (29, .int .i64 3), (30, .int .i64 (i : Nat))] ∧ On W0 (DiskP 106 110 b (fmtD d at_ (secT 1 value) i) :: blk b3 [.pointer (some ⟨b, 0, none⟩)] 26 :: blk b4 [.int .i64 at_] 3 :: blk b7 [.slice aq (secT 1 value).length (secT 1 value).length] 22 :: OwnB (.slice aq (secT 1 value).length (secT 1 value).length) (secT 1 value) :: Own 1 (.slice (some ⟨b28, 0, none⟩) 3 3) 3 [.func (.func 85) #[] #[.pointer (some ⟨b3, 0, none⟩), .pointer (some ⟨b4, 0, none⟩)], .func (.func 86) #[] #[.pointer (some ⟨b3, 0, none⟩), .pointer (some ⟨b4, 0, none⟩), .pointer (some ⟨b7, 0, none⟩)], .func (.func 18) #[.pointer (some ⟨b, 0, none⟩)] #[]] :: L) w) (fun i => 3 - i) (0) ?_ ?_
      · exact ⟨by omega, fun j hj => absurd hj (by omega), _, mkE_of ⟨rfl, rfl, rfl, trivial⟩, (show On W0 (DiskP 106 110 b d :: blk b3 [.pointer (some ⟨b, 0, none⟩)] 26 :: blk b4 [.int .i64 at_] 3 :: blk b7 [.slice aq (secT 1 value).length (secT 1 value).length] 22 :: OwnB (.slice aq (secT 1 value).length (secT 1 value).length) (secT 1 value) :: Own 1 (.slice (some ⟨b28, 0, none⟩) 3 3) 3 [.func (.func 85) #[] #[.pointer (some ⟨b3, 0, none⟩), .pointer (some ⟨b4, 0, none⟩)], .func (.func 86) #[] #[.pointer (some ⟨b3, 0, none⟩), .pointer (some ⟨b4, 0, none⟩), .pointer (some ⟨b7, 0, none⟩)], .func (.func 18) #[.pointer (some ⟨b, 0, none⟩)] #[]] :: L) w from h.to)⟩
      · rintro i env w ⟨hi, hz, jk, rfl, h⟩
        refine W.seq ?_
        refine W.region ?_
        refine WL.val (run_lss rfl rfl) rfl rfl ?_
        refine WL.nil ?_
        refine W.seq ?_
        refine W.condIf rfl (fun c16 => ?_) (fun c16 => ?_)
        · skip
          refine W.skip ?_
          refine W.seq ?_
          refine W.block ?_
          refine W.seq ?_
          have hi3 : i < 3 := by omega
          have ob_ : ∃ fv, ([.func (.func 85) #[] #[.pointer (some ⟨b3, 0, none⟩), .pointer (some ⟨b4, 0, none⟩)], .func (.func 86) #[] #[.pointer (some ⟨b3, 0, none⟩), .pointer (some ⟨b4, 0, none⟩), .pointer (some ⟨b7, 0, none⟩)], .func (.func 18) #[.pointer (some ⟨b, 0, none⟩)] #[]] : List Value)[i]? = some fv := ⟨([.func (.func 85) #[] #[.pointer (some ⟨b3, 0, none⟩), .pointer (some ⟨b4, 0, none⟩)], .func (.func 86) #[] #[.pointer (some ⟨b3, 0, none⟩), .pointer (some ⟨b4, 0, none⟩), .pointer (some ⟨b7, 0, none⟩)], .func (.func 18) #[.pointer (some ⟨b, 0, none⟩)] #[]] : List Value)[i]'(by show i < 3; omega), List.getElem?_eq_getElem _⟩
          obtain ⟨fv, hfv⟩ := ob_
          refine W.region ?_
          refine WL.val (run_indexAddr Try.underlying127 Try.sizeOf31 rfl rfl (by omega) (by omega)) rfl rfl ?_
          refine WL.val (run_load1 Try.isAgg31 rfl ((h.cellsO (v := .slice (some ⟨b28, 0, none⟩) 3 3)).elem (i := i) (vs := [fv]) (by omega) (by rw [Nat.mul_one]; exact row_one hfv) 0 _ rfl)) rfl rfl ?_
          refine WL.val run_assign rfl rfl ?_
          refine WL.nil ?_
          refine W.seq ?_
          refine W.region ?_
          refine WL.val run_move rfl rfl ?_
          refine WL.eff (R := fun v w' => v = .int .i64 (fmtS d at_ (secT 1 value) i).1 ∧ On W0 (DiskP 106 110 b (fmtD d at_ (secT 1 value) (i + 1)) :: blk b3 [.pointer (some ⟨b, 0, none⟩)] 26 :: blk b4 [.int .i64 at_] 3 :: blk b7 [.slice aq (secT 1 value).length (secT 1 value).length] 22 :: OwnB (.slice aq (secT 1 value).length (secT 1 value).length) (secT 1 value) :: Own 1 (.slice (some ⟨b28, 0, none⟩) 3 3) 3 [.func (.func 85) #[] #[.pointer (some ⟨b3, 0, none⟩), .pointer (some ⟨b4, 0, none⟩)], .func (.func 86) #[] #[.pointer (some ⟨b3, 0, none⟩), .pointer (some ⟨b4, 0, none⟩), .pointer (some ⟨b7, 0, none⟩)], .func (.func 18) #[.pointer (some ⟨b, 0, none⟩)] #[]] :: L) w') ?_ rfl rfl ?_
          · have ob_ : i = 0 ∨ i = 1 ∨ i = 2 := by omega
            obtain rfl | rfl | rfl := ob_
            · have hfv : some (.func (.func 85) #[] #[.pointer (some ⟨b3, 0, none⟩), .pointer (some ⟨b4, 0, none⟩)]) = some fv := hfv
              cases hfv
              exact eff_callV (xs := []) rfl Try.call85 ((fmt1_ok (hl0.low (by decide)) h).mono fun e w' he => by obtain ⟨v, he, hv, h⟩ := he; exact ⟨v, he, hv, (show On W0 (DiskP 106 110 b (writeD (fmtD d at_ (secT 1 value) 0) at_ []).2 :: blk b3 [.pointer (some ⟨b, 0, none⟩)] 26 :: blk b4 [.int .i64 at_] 3 :: blk b7 [.slice aq (secT 1 value).length (secT 1 value).length] 22 :: OwnB (.slice aq (secT 1 value).length (secT 1 value).length) (secT 1 value) :: Own 1 (.slice (some ⟨b28, 0, none⟩) 3 3) 3 [.func (.func 85) #[] #[.pointer (some ⟨b3, 0, none⟩), .pointer (some ⟨b4, 0, none⟩)], .func (.func 86) #[] #[.pointer (some ⟨b3, 0, none⟩), .pointer (some ⟨b4, 0, none⟩), .pointer (some ⟨b7, 0, none⟩)], .func (.func 18) #[.pointer (some ⟨b, 0, none⟩)] #[]] :: L) w' from h.to)⟩)
            · have hfv : some (.func (.func 86) #[] #[.pointer (some ⟨b3, 0, none⟩), .pointer (some ⟨b4, 0, none⟩), .pointer (some ⟨b7, 0, none⟩)]) = some fv := hfv
              cases hfv
              exact eff_callV (xs := []) rfl Try.call86 ((fmt2_ok (hl1.low (by decide)) ⟨hin1, by omega⟩ h).mono fun e w' he => by obtain ⟨v, he, hv, h⟩ := he; exact ⟨v, he, hv, (show On W0 (DiskP 106 110 b (writeD (fmtD d at_ (secT 1 value) 1) (at_ + 1) (secT 1 value)).2 :: blk b3 [.pointer (some ⟨b, 0, none⟩)] 26 :: blk b4 [.int .i64 at_] 3 :: blk b7 [.slice aq (secT 1 value).length (secT 1 value).length] 22 :: OwnB (.slice aq (secT 1 value).length (secT 1 value).length) (secT 1 value) :: Own 1 (.slice (some ⟨b28, 0, none⟩) 3 3) 3 [.func (.func 85) #[] #[.pointer (some ⟨b3, 0, none⟩), .pointer (some ⟨b4, 0, none⟩)], .func (.func 86) #[] #[.pointer (some ⟨b3, 0, none⟩), .pointer (some ⟨b4, 0, none⟩), .pointer (some ⟨b7, 0, none⟩)], .func (.func 18) #[.pointer (some ⟨b, 0, none⟩)] #[]] :: L) w' from h.to)⟩)
            · have hfv : some (.func (.func 18) #[.pointer (some ⟨b, 0, none⟩)] #[]) = some fv := hfv
              cases hfv
              exact eff_callV (xs := []) rfl Try.call18 ((flush_ok (hl2.low (by decide)) h).mono fun e w' he => by obtain ⟨v, he, hv, h⟩ := he; exact ⟨v, he, hv, (show On W0 (DiskP 106 110 b (flushD (fmtD d at_ (secT 1 value) 2)).2 :: blk b3 [.pointer (some ⟨b, 0, none⟩)] 26 :: blk b4 [.int .i64 at_] 3 :: blk b7 [.slice aq (secT 1 value).length (secT 1 value).length] 22 :: OwnB (.slice aq (secT 1 value).length (secT 1 value).length) (secT 1 value) :: Own 1 (.slice (some ⟨b28, 0, none⟩) 3 3) 3 [.func (.func 85) #[] #[.pointer (some ⟨b3, 0, none⟩), .pointer (some ⟨b4, 0, none⟩)], .func (.func 86) #[] #[.pointer (some ⟨b3, 0, none⟩), .pointer (some ⟨b4, 0, none⟩), .pointer (some ⟨b7, 0, none⟩)], .func (.func 18) #[.pointer (some ⟨b, 0, none⟩)] #[]] :: L) w' from h.to)⟩)
          rintro _ w ⟨rfl, h⟩
          refine WL.val run_assign rfl rfl ?_
          refine WL.nil ?_
          refine W.seq ?_
          refine W.region ?_
          refine WL.val run_move rfl rfl ?_
          refine WL.val (run_neq rfl rfl) rfl rfl ?_
          refine WL.nil ?_
          refine W.condIf rfl (fun c23 => ?_) (fun c23 => ?_)
          · skip
            refine W.seq ?_
            refine W.region ?_
            refine WL.val run_move rfl rfl ?_
            refine WL.val run_assign rfl rfl ?_
            refine WL.nil ?_
            refine W.ret ?_
            refine bodyQ.r1 (v := .int .i64 _) Try.results30 rfl ?_
            -- path FTLTT
            first
              | (have hall : i = 3 := by omega
                 subst hall
                 have e0 := hz 0 (by omega)
                 have e1 := hz 1 (by omega)
                 have e2 := hz 2 (by omega)
                 rw [if_neg (by rw [e0]; decide), if_neg (by rw [e1]; decide)] at hf
                 refine ⟨by rw [hf, e2], ?_⟩
                 rw [hf]
                 exact (show On W0 (DiskP 106 110 b (fmtD d at_ (secT 1 value) 3) :: L) w from h.to))
              | (have hfi : formatT d at_ value = fmtS d at_ (secT 1 value) i := by
                   have ob_ : i = 0 ∨ i = 1 ∨ i = 2 := by omega
                   obtain rfl | rfl | rfl := ob_
                   · rw [hf, if_pos c23]
                   · rw [hf, if_neg (by rw [hz 0 (by omega)]; decide), if_pos c23]
                   · rw [hf, if_neg (by rw [hz 0 (by omega)]; decide), if_neg (by rw [hz 1 (by omega)]; decide)]
                 refine ⟨by rw [hfi], ?_⟩
                 rw [hfi]
                 exact (show On W0 (DiskP 106 110 b (fmtD d at_ (secT 1 value) (i + 1)) :: L) w from h.to))
          · skip
            refine W.skip ?_
            refine W.region ?_
            refine WL.val (run_add rfl rfl (by omega) (by omega)) rfl rfl ?_
            refine WL.val run_move rfl rfl ?_
            refine WL.nil ?_
            -- round, path FTLTF
            have he0 := Decidable.not_not.1 c23
            exact ⟨i + 1, ⟨by omega, fun j hj => by rcases Nat.lt_or_ge j i with h' | h'; exact hz j h'; obtain rfl : j = i := by omega
                                                    exact he0, _, mkE_of ⟨rfl, rfl, rfl, trivial⟩, h⟩, by show 3 - (i + 1) < 3 - i; omega⟩
        · skip
          refine W.exit ?_
          refine W.seq ?_
          refine W.region ?_
          refine WL.val run_assign rfl rfl ?_
          refine WL.nil ?_
          refine W.ret ?_
          refine bodyQ.r1 (v := .int .i64 _) Try.results30 rfl ?_
          -- path FTLF
          first
            | (have hall : i = 3 := by omega
               subst hall
               have e0 := hz 0 (by omega)
               have e1 := hz 1 (by omega)
               have e2 := hz 2 (by omega)
               rw [if_neg (by rw [e0]; decide), if_neg (by rw [e1]; decide)] at hf
               refine ⟨by rw [hf, e2], ?_⟩
               rw [hf]
               exact (show On W0 (DiskP 106 110 b (fmtD d at_ (secT 1 value) 3) :: L) w from h.to))
            | (have hfi : formatT d at_ value = fmtS d at_ (secT 1 value) i := by
                 have ob_ : i = 0 ∨ i = 1 ∨ i = 2 := by omega
                 obtain rfl | rfl | rfl := ob_
                 · rw [hf, if_pos c23]
                 · rw [hf, if_neg (by rw [hz 0 (by omega)]; decide), if_pos c23]
                 · rw [hf, if_neg (by rw [hz 0 (by omega)]; decide), if_neg (by rw [hz 1 (by omega)]; decide)]
               refine ⟨by rw [hfi], ?_⟩
               rw [hfi]
               exact (show On W0 (DiskP 106 110 b (fmtD d at_ (secT 1 value) (i + 1)) :: L) w from h.to))
    · skip
      refine WL.val run_move rfl rfl ?_
      refine WL.val (run_extract rfl rfl) rfl rfl ?_
      refine WL.val (run_extract rfl rfl) rfl rfl ?_
      refine WL.eff (eff_alloc h Try.zeroValue22 rfl) rfl rfl ?_
      rintro _ w ⟨b7, rfl, h⟩
      refine WL.eff (eff_store (v := .slice _ _ _) h Try.sizeOf22 rfl rfl rfl rfl rfl) rfl rfl ?_
      rintro _ w h
      try simp only [Nat.zero_add, Nat.add_zero, List.set_cons_zero, List.set_cons_succ] at h
      refine WL.val run_assign rfl rfl ?_
      refine WL.nil ?_
      refine W.seq ?_
      refine W.seq ?_
      refine W.region ?_
      refine WL.val run_move rfl rfl ?_
      refine WL.val (run_neqT rfl rfl (by decide)) rfl rfl ?_
      refine WL.nil ?_
      refine W.condT rfl ?_
      refine W.seq ?_
      refine W.region ?_
      refine WL.val run_move rfl rfl ?_
      refine WL.val run_assign rfl rfl ?_
      refine WL.nil ?_
      refine W.ret ?_
      refine bodyQ.r1 (v := .int .i64 _) Try.results30 rfl ?_
      -- path FF
      have e : formatT d at_ value = (5, d) := by unfold formatT; rw [if_neg c2, if_pos hl]
      exact ⟨by rw [e], by rw [e]; exact h.to⟩

end Go.Proofs.Ytlahgihjjabgmaa
