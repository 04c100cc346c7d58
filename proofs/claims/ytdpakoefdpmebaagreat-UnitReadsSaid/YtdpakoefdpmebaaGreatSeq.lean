/-
  A unit: keys of maps, sorted: the contracts. Lines of walks printed by a program of the prover's.
-/
import Derived.Test.YtdpakoefdpmebaaGreatUnit8
import Derived.Test.YtdpakoefdpmebaaGreatSlRound
namespace Go.Proofs.YtdpakoefdpmebaaGreat
open Go Go.Sl Go.Sl.BitM Go.Sl.SpM Go.Sl.RsM Go.Sl.ByM Go.Sl.UnM
set_option linter.unusedVariables false
set_option linter.unusedSimpArgs false
set_option maxHeartbeats 1000000
set_option maxRecDepth 8000
variable {W0 w : World} {L F : List HProp}

theorem keysU_ok {mb ck : Nat} {kvs : List KV} (h : On W0 (MapC mb .u64 kvs ck :: L) w) : Calls Tryz.prog 129 #[.map (some mb)] w (Ret fun v w' => ∃ bb, v = .func (.func 152) #[] #[.pointer (some ⟨bb, 0, none⟩)] ∧ On W0 (blk bb [.map (some mb)] 79 :: MapC mb .u64 kvs ck :: L) w') := by
  refine enter Tryz.func129 rfl Tryz.ntmps129 rfl ?_
  refine W.seq ?_
  refine W.region ?_
  refine WL.eff (eff_box (v := .map (some mb)) (l := [.map (some mb)]) h rfl rfl) rfl rfl ?_
  rintro _ w ⟨b1, rfl, h⟩
  refine WL.val run_assign rfl rfl ?_
  refine WL.nil ?_
  refine W.seq ?_
  refine W.region ?_
  refine WL.val run_makeFunc rfl rfl ?_
  refine WL.val run_assign rfl rfl ?_
  refine WL.nil ?_
  refine W.ret ?_
  refine bodyQ.r1  Tryz.results129 rfl ?_
  -- path 
  exact ⟨b1, rfl, h⟩

theorem keys1_ok {n l bb mb ck : Nat} {kvs : List KV} {Y : List Int → HProp} (hY : ∀ pre x A w, pre.length < kvs.length → On W0 (Y pre :: A) w → YieldAt (FR none) (n - 1) Tryz.prog l [.int .u64 x].toArray w (Ret fun v w' => v = .bool true ∧ On W0 (Y (pre ++ [x]) :: A) w')) (h : On W0 (Y [] :: blk bb [.map (some mb)] 79 :: MapC mb .u64 kvs ck :: L) w) : CallsIn (FR none) n Tryz.prog 152 [.func (.yield l) #[] #[], .pointer (some ⟨bb, 0, none⟩)].toArray w (Ret fun v w' => ∃ ss, ss.Perm (kvs.map (·.1)) ∧ On W0 (Y ss :: blk bb [.map (some mb)] 79 :: MapC mb .u64 kvs ck :: L) w') := by
  refine enterF Tryz.func152 rfl Tryz.ntmps152 rfl ?_
  refine WF.seq ?_
  refine WF.region ?_
  refine WLF.val (run_load1 Tryz.isAgg79 rfl (h.cellB rfl)) rfl rfl rfl ?_
  refine WLF.eff (eff_range (h.fetch (MapC mb .u64 kvs ck)) Tryz.underlying79 rfl) rfl rfl rfl ?_
  rintro _ w ⟨rr, rfl, h⟩
  have hfit := (On.mapC (h.fetch (MapC mb .u64 kvs ck))).1
  refine WLF.nil ?_
  refine WF.block ?_
  refine WF.loop (fun (seen : Array Nat) env w => ∃ (j : Env) (ss : List Int), env = mkE j [(0, .func (.yield l) #[] #[]), (5, .pointer (some ⟨rr, 0, none⟩))] ∧ (ss ++ (remM kvs seen).map (·.1)).Perm (kvs.map (·.1)) ∧ On W0 (IterC rr mb seen ck :: MapC mb .u64 kvs ck :: Y ss :: blk bb [.map (some mb)] 79 :: L) w) (fun seen => (remM kvs seen).length) (#[]) ?_ ?_
  · have e0 : remM kvs #[] = kvs := List.filter_eq_self.2 (by simp)
    exact ⟨_, [], mkE_of ⟨rfl, rfl, trivial⟩, by rw [e0]; exact List.Perm.refl _, h.to⟩
  · rintro seen env w ⟨j, ss, rfl, hp, h⟩
    refine WF.seq ?_
    refine WF.region ?_
    refine WLF.eff (eff_next (h.fetch (IterC rr mb seen ck)) rfl) rfl rfl rfl ?_
    rintro _ w h0
    rcases h0 with ⟨hnil, rfl, h⟩ | ⟨e1, hin, rfl, h⟩
    rotate_left
    · skip
      refine WLF.val (run_extract rfl rfl) rfl rfl rfl ?_
      refine WLF.nil ?_
      refine WF.seq ?_
      refine WF.condT rfl ?_
      refine WF.skip ?_
      refine WF.block ?_
      refine WF.seq ?_
      have hrp := remM_perm hfit.2.1 hin
      have hlt : ss.length < kvs.length := by
        have h1 := hp.length_eq
        have h2 := hrp.length_eq
        simp only [List.length_append, List.length_map, List.length_cons] at h1 h2
        omega
      have hp2 : ((ss ++ [e1.1]) ++ (remM kvs (seen.push e1.2.2)).map (·.1)).Perm (kvs.map (·.1)) := by
        rw [List.append_assoc]
        exact ((hrp.map (·.1)).symm.append_left ss).trans hp
      refine WF.region ?_
      refine WLF.val (run_entryM h (rem_inM hin) rfl) rfl rfl rfl ?_
      refine WLF.val (run_extract rfl rfl) rfl rfl rfl ?_
      refine WLF.val run_assign rfl rfl rfl ?_
      refine WLF.nil ?_
      refine WF.seq ?_
      refine WF.region ?_
      refine WLF.val run_move rfl rfl rfl ?_
      refine WLF.val run_move rfl rfl rfl ?_
      refine WLF.yield (args := [_]) (y := .const undef) rfl rfl rfl rfl (hY ss e1.1 _ _ hlt (h.fetch (Y ss))) ?_
      rintro _ w ⟨rfl, h⟩
      refine WLF.val (run_not rfl) rfl rfl rfl ?_
      refine WLF.nil ?_
      refine WF.condF rfl ?_
      refine WF.skip ?_
      refine ⟨rfl, ?_⟩
      exact ⟨seen.push e1.2.2, ⟨_, ss ++ [e1.1], mkE_of ⟨rfl, rfl, trivial⟩, hp2, h.to⟩, remM_less hin⟩
    · skip
      refine WLF.val (run_extract rfl rfl) rfl rfl rfl ?_
      refine WLF.nil ?_
      refine WF.seq ?_
      refine WF.condF rfl ?_
      refine WF.exit ?_
      refine ⟨rfl, ?_⟩
      refine bodyQ.fall ?_
      refine bodyQ.r0 Tryz.results152 ?_
      -- path LF
      rw [hnil, List.map_nil, List.append_nil] at hp
      exact ⟨ss, hp, h.to⟩


theorem appendSeqU_ok {g : FuncId} {caps : Array Value} {S : List Int → Prop} (hen : ∀ args w, (callFunc g args).run Tryz.prog w = .ok (.enter g args) w)
    (hseq : ∀ l (Y : List Int → HProp) w, (∀ pre x A w, pre.length < 1000000 → On W0 (Y pre :: A) w → YieldAt (FR none) (3 - 1 - 1) Tryz.prog l [.int .u64 x].toArray w (Ret fun v w' => v = .bool true ∧ On W0 (Y (pre ++ [x]) :: A) w')) → On W0 (Y [] :: L) w → CallsIn (FR none) (3 - 1) Tryz.prog g (#[.func (.yield l) #[] #[]] ++ caps) w (Ret fun v w' => ∃ ss, S ss ∧ On W0 (Y ss :: L) w'))
    (h : On W0 L w) : Calls Tryz.prog 160 #[.slice none 0 0, .func (.func g) #[] caps] w (Ret fun v w' => ∃ a c ss, S ss ∧ v = .slice a ss.length c ∧ On W0 (Own 1 (.slice a ss.length c) ss.length (ss.map (Value.int .u64)) :: L) w') := by
  have hmx := maxLen_eq
  refine callsOf (n := 3) ?_
  refine enterM Tryz.func160 rfl Tryz.ntmps160 rfl ?_
  refine WF.seq ?_
  refine WF.region ?_
  refine WLF.eff (eff_box (v := .slice none 0 0) (l := [.slice none 0 0]) h rfl rfl) rfl rfl rfl ?_
  rintro _ w ⟨b2, rfl, h⟩
  refine WLF.val run_assign rfl rfl rfl ?_
  refine WLF.nil ?_
  refine WF.seq ?_
  refine WF.seq ?_
  refine WF.region ?_
  refine WLF.val run_move rfl rfl rfl ?_
  refine WLF.nil ?_
  refine WF.block ?_
  refine WF.rangeFunc (α := Int) (ps := [7]) (fun x => [.int .u64 x]) rfl hen (fun pre : List Int => Ex fun (p : Option Addr × Nat) => Pack (pre.length ≤ 1000000) [blk b2 [.slice p.1 pre.length p.2] 129, Own 1 (.slice p.1 pre.length p.2) pre.length (pre.map (Value.int .u64))]) S (fun pre _ => pre.length < 1000000) (fun env x => upd (upd env 7 (.int .u64 x)) 5 (.int .u64 x)) (fun _ => rfl) (by decide) ?_ ?_ hseq ?_ ?_
  · intro l x w
    refine WF.region ?_
    refine WLF.val run_assign rfl rfl rfl ?_
    refine WLF.nil ?_
    exact ⟨rfl, rfl, rfl, rfl⟩
  · intro l pre x A w hbd h
    obtain ⟨⟨a, c⟩, h⟩ := h.ex
    obtain ⟨hpl, h⟩ := h.unpack
    have h : On W0 (blk b2 [.slice a pre.length c] 129 :: Own 1 (.slice a pre.length c) pre.length (pre.map (Value.int .u64)) :: A) w := h
    refine WF.block ?_
    refine WF.region ?_
    refine WLF.val (run_load1 Tryz.isAgg129 rfl (h.cellB rfl)) rfl rfl rfl ?_
    refine WLF.val run_move rfl rfl rfl ?_
    refine WLF.eff (eff_mkSlice (zl := [.int .u64 0]) (out := [.int .u64 _]) h Tryz.underlying129 Tryz.sizeOf23 Tryz.zeroValue23 (by decide) (by kernel_rfl) rfl rfl (by simp) (⟨⟨_, _, rfl, rfl, by decide⟩, trivial⟩) rfl rfl (by simp [maxLen])) rfl rfl rfl ?_
    rintro _ w ⟨b10, rfl, h⟩
    refine WLF.eff (eff_app (c2 := 1) (bytes := 8) h rfl rfl (h.cellsO (v := .slice (some ⟨b10, 0, none⟩) 1 1)) Tryz.underlying129 rfl rfl rfl rfl rfl (by omega) (by omega) (by simp [Value.oneCell'])) rfl rfl rfl ?_
    rintro _ w ⟨a11, c11, rfl, h⟩
    refine WLF.eff (eff_store (v := .slice a11 (pre.length + 1) c11) h Tryz.sizeOf129 rfl rfl rfl rfl rfl) rfl rfl rfl ?_
    rintro _ w h
    try simp only [Nat.zero_add, Nat.add_zero, List.set_cons_zero, List.set_cons_succ] at h
    refine WLF.nil ?_
    refine ⟨rfl, On.exI (a11, c11) ?_⟩
    have el : (pre ++ [x]).length = pre.length + 1 := by rw [List.length_append]; rfl
    have em : (pre ++ [x]).map (Value.int .u64) = pre.map (Value.int .u64) ++ [.int .u64 x] := by rw [List.map_append]; rfl
    refine On.pack (by rw [el]; omega) ?_
    show On W0 (blk b2 [.slice a11 (pre ++ [x]).length c11] 129 :: Own 1 (.slice a11 (pre ++ [x]).length c11) (pre ++ [x]).length ((pre ++ [x]).map (Value.int .u64)) :: A) w
    rw [el, em]
    have h : On W0 (Own 1 (.slice a11 (pre.length + 1) c11) (pre.length + 1) (pre.map (Value.int .u64) ++ [.int .u64 x]) :: _) w := h.own (.slice a11 (pre.length + 1) c11)
    exact h.to
  · refine On.exI (none, 0) (On.pack (by decide) ?_)
    have h := h.ownEmpty 1 none
    have h : On W0 (blk b2 [.slice none 0 0] 129 :: Own 1 (.slice none 0 0) 0 [] :: L) w := h.to
    exact h
  · intro D ss w hS h
    obtain ⟨⟨a, c⟩, h⟩ := h.ex
    obtain ⟨hpl, h⟩ := h.unpack
    have h : On W0 (blk b2 [.slice a ss.length c] 129 :: Own 1 (.slice a ss.length c) ss.length (ss.map (Value.int .u64)) :: openD D :: L) w := h
    refine WF.seq ?_
    refine WF.region ?_
    refine WLF.val (run_load1 Tryz.isAgg129 rfl (h.cellB rfl)) rfl rfl rfl ?_
    refine WLF.val run_assign rfl rfl rfl ?_
    refine WLF.nil ?_
    refine WF.ret ?_
    have h2 := On.putPts (.deferred none) h.p2
    exact ⟨D, rfl, h.block 2 rfl, bodyQ.r1 (v := .slice a ss.length c) Tryz.results160 rfl ⟨a, c, ss, hS, rfl, h2.tail.tail⟩⟩

theorem collectU_ok {bb mb ck : Nat} {kvs : List KV} (hkl : kvs.length ≤ 1000000) (h : On W0 (blk bb [.map (some mb)] 79 :: MapC mb .u64 kvs ck :: L) w) : Calls Tryz.prog 150 #[.func (.func 152) #[] #[.pointer (some ⟨bb, 0, none⟩)]] w (Ret fun v w' => ∃ a c, ∃ ss : List Int, ss.Perm (kvs.map (·.1)) ∧ v = .slice a ss.length c ∧ On W0 (Own 1 (.slice a ss.length c) ss.length (ss.map (Value.int .u64)) :: blk bb [.map (some mb)] 79 :: MapC mb .u64 kvs ck :: L) w') := by
  refine enter Tryz.func150 rfl Tryz.ntmps150 rfl ?_
  refine W.seq ?_
  refine W.region ?_
  refine WL.val run_assign rfl rfl ?_
  refine WL.nil ?_
  refine W.seq ?_
  refine W.region ?_
  refine WL.val run_move rfl rfl ?_
  refine WL.eff (eff_call Tryz.call160 (appendSeqU_ok (S := (fun ss => ss.Perm (kvs.map (·.1)))) Tryz.call152 (fun l Y w hY h => keys1_ok (n := 3 - 1) (Y := Y) (fun pre x A w hlt => hY pre x A w (by omega)) h) h)) rfl rfl ?_
  rintro _ w ⟨a, c, ss, hS, rfl, h⟩
  refine WL.val run_assign rfl rfl ?_
  refine WL.nil ?_
  refine W.ret ?_
  refine bodyQ.r1 (v := .slice _ _ _) Tryz.results150 rfl ?_
  -- path 
  exact ⟨a, c, ss, hS, rfl, h⟩

theorem len64_ok {x : Nat} (hx : x ≤ 1) (h : On W0 L w) : Calls Tryz.prog 174 #[.int .u64 (x : Int)] w (Ret fun v w' => (∃ z : Int, v = .int .i64 z) ∧ On W0 L w') := by
  refine enter Tryz.func174 rfl Tryz.ntmps174 rfl ?_
  have key : ∀ s : ByteArray, 2 ≤ s.size → ∃ c, s[(UInt8.ofNat x).toNat]? = some c := fun s hs => by
    have h1 : (UInt8.ofNat x).toNat < s.size := by
      have : (UInt8.ofNat x).toNat = x := by rw [UInt8.toNat_ofNat']; omega
      omega
    exact ⟨s[(UInt8.ofNat x).toNat], getElem?_pos s _ h1⟩
  refine W.seq ?_
  refine W.region ?_
  refine WL.val run_assign rfl rfl ?_
  refine WL.nil ?_
  refine W.seq ?_
  refine W.seq ?_
  refine W.region ?_
  refine WL.val run_move rfl rfl ?_
  refine WL.val (run_geqF rfl rfl (by omega)) rfl rfl ?_
  refine WL.nil ?_
  refine W.condF rfl ?_
  refine W.skip ?_
  refine W.seq ?_
  refine W.seq ?_
  refine W.region ?_
  refine WL.val run_move rfl rfl ?_
  refine WL.val (run_geqF rfl rfl (by omega)) rfl rfl ?_
  refine WL.nil ?_
  refine W.condF rfl ?_
  refine W.skip ?_
  refine W.seq ?_
  refine W.seq ?_
  refine W.region ?_
  refine WL.val run_move rfl rfl ?_
  refine WL.val (run_geqF rfl rfl (by omega)) rfl rfl ?_
  refine WL.nil ?_
  refine W.condF rfl ?_
  refine W.skip ?_
  refine W.seq ?_
  refine W.region ?_
  refine WL.val run_move rfl rfl ?_
  refine WL.val run_move rfl rfl ?_
  refine WL.val (run_convByte Tryz.underlying23 Tryz.underlying5 rfl) rfl rfl ?_
  refine WL.val (run_indexStr Tryz.underlying9 rfl rfl (key _ (by decide)).choose_spec) rfl rfl ?_
  refine WL.val (run_convInt Tryz.underlying5 Tryz.underlying3 rfl) rfl rfl ?_
  refine WL.val (run_addW rfl rfl) rfl rfl ?_
  refine WL.val run_assign rfl rfl ?_
  refine WL.nil ?_
  refine W.ret ?_
  refine bodyQ.r1 (v := .int .i64 _) Tryz.results174 rfl ?_
  -- path 
  exact ⟨⟨_, rfl⟩, h⟩

theorem blen_ok {x : Nat} (hx : x ≤ 1) (h : On W0 L w) : Calls Tryz.prog 162 #[.int .u64 (x : Int)] w (Ret fun v w' => (∃ z : Int, v = .int .i64 z) ∧ On W0 L w') := by
  refine enter Tryz.func162 rfl Tryz.ntmps162 rfl ?_
  refine W.seq ?_
  refine W.region ?_
  refine WL.val run_assign rfl rfl ?_
  refine WL.nil ?_
  refine W.seq ?_
  refine W.condF rfl ?_
  refine W.skip ?_
  refine W.seq ?_
  refine W.region ?_
  refine WL.val run_move rfl rfl ?_
  refine WL.eff (eff_call Tryz.call174 (len64_ok hx h)) rfl rfl ?_
  rintro _ w ⟨⟨z, rfl⟩, h⟩
  refine WL.val run_assign rfl rfl ?_
  refine WL.nil ?_
  refine W.ret ?_
  refine bodyQ.r1 (v := .int .i64 _) Tryz.results162 rfl ?_
  -- path 
  exact ⟨⟨z, rfl⟩, h⟩

theorem insU_ok {a : Option Addr} {n c : Nat} (hn : n ≤ 1) (h : On W0 L w) : Calls Tryz.prog 164 #[.slice a n c, .int .i64 0, .int .i64 (n : Int)] w (Ret fun v w' => On W0 L w') := by
  refine enter Tryz.func164 rfl Tryz.ntmps164 rfl ?_
  refine W.seq ?_
  refine W.region ?_
  refine WL.val run_move rfl rfl ?_
  refine WL.val (run_add rfl rfl (by omega) (by omega)) rfl rfl ?_
  refine WL.val run_assign rfl rfl ?_
  refine WL.nil ?_
  refine W.block ?_
  refine W.loop (fun (k : Nat) env w => ∃ j, env = mkE j [(2, .int .i64 (n : Int)), (6, .int .i64 1)] ∧ On W0 L w) (fun k => 1 - k) (0) ?_ ?_
  · exact ⟨_, mkE_of ⟨rfl, rfl, trivial⟩, h⟩
  · rintro k env w ⟨j, rfl, h⟩
    refine W.seq ?_
    refine W.seq ?_
    refine W.region ?_
    refine WL.val run_move rfl rfl ?_
    refine WL.val run_move rfl rfl ?_
    refine WL.val (run_lssF rfl rfl (by omega)) rfl rfl ?_
    refine WL.nil ?_
    refine W.condF rfl ?_
    refine W.exit ?_
    refine bodyQ.fall ?_
    refine bodyQ.r0 Tryz.results164 ?_
    -- path L
    exact h

theorem pdqU_ok {a : Option Addr} {n c : Nat} {lim : Int} (hn : n ≤ 1) (h : On W0 L w) : Calls Tryz.prog 161 #[.slice a n c, .int .i64 0, .int .i64 (n : Int), .int .i64 lim] w (Ret fun v w' => On W0 L w') := by
  refine enter Tryz.func161 rfl Tryz.ntmps161 rfl ?_
  refine W.seq ?_
  refine W.region ?_
  refine WL.val run_assign rfl rfl ?_
  refine WL.nil ?_
  refine W.seq ?_
  refine W.region ?_
  refine WL.val run_assign rfl rfl ?_
  refine WL.nil ?_
  refine W.block ?_
  refine W.loop (fun (k : Nat) env w => ∃ j, env = mkE j [(0, .slice a n c), (1, .int .i64 0), (2, .int .i64 (n : Int))] ∧ On W0 L w) (fun k => 1 - k) (0) ?_ ?_
  · exact ⟨_, mkE_of ⟨rfl, rfl, rfl, trivial⟩, h⟩
  · rintro k env w ⟨j, rfl, h⟩
    refine W.block ?_
    refine W.seq ?_
    refine W.region ?_
    refine WL.val run_move rfl rfl ?_
    refine WL.val run_move rfl rfl ?_
    refine WL.val (run_sub rfl rfl (by omega) (by omega)) rfl rfl ?_
    refine WL.val run_assign rfl rfl ?_
    refine WL.nil ?_
    refine W.seq ?_
    refine W.seq ?_
    refine W.region ?_
    refine WL.val run_move rfl rfl ?_
    refine WL.val (run_leqT rfl rfl (by omega)) rfl rfl ?_
    refine WL.nil ?_
    refine W.condT rfl ?_
    refine W.seq ?_
    refine W.region ?_
    refine WL.val run_move rfl rfl ?_
    refine WL.val run_move rfl rfl ?_
    refine WL.val run_move rfl rfl ?_
    refine WL.eff (eff_call Tryz.call164 (insU_ok hn h)) rfl rfl ?_
    rintro _ w h
    refine WL.nil ?_
    refine W.ret ?_
    refine bodyQ.r0 Tryz.results161 ?_
    -- path L
    exact h

theorem sortU_ok {a : Option Addr} {n c : Nat} (hn : n ≤ 1) (h : On W0 L w) : Calls Tryz.prog 151 #[.slice a n c] w (Ret fun v w' => On W0 L w') := by
  refine enter Tryz.func151 rfl Tryz.ntmps151 rfl ?_
  refine W.seq ?_
  refine W.region ?_
  refine WL.val run_move rfl rfl ?_
  refine WL.val (run_lenSlice Tryz.underlying129 rfl) rfl rfl ?_
  refine WL.val run_assign rfl rfl ?_
  refine WL.nil ?_
  refine W.region ?_
  refine WL.val run_move rfl rfl ?_
  refine WL.val run_move rfl rfl ?_
  refine WL.val run_move rfl rfl ?_
  refine WL.val (run_convIn Tryz.underlying3 Tryz.underlying178 rfl (by show (0 : Int) ≤ _; omega) (by show _ ≤ (18446744073709551615 : Int); omega)) rfl rfl ?_
  refine WL.eff (eff_call Tryz.call162 (blen_ok (x := n) hn h)) rfl rfl ?_
  rintro _ w ⟨⟨z, rfl⟩, h⟩
  refine WL.eff (eff_call Tryz.call161 (pdqU_ok hn h)) rfl rfl ?_
  rintro _ w h
  refine WL.nil ?_
  refine bodyQ.fall ?_
  refine bodyQ.r0 Tryz.results151 ?_
  -- path 
  exact h

theorem sortedU_ok {bb mb ck : Nat} {kvs : List KV} (hkl : kvs.length ≤ 1) (h : On W0 (blk bb [.map (some mb)] 79 :: MapC mb .u64 kvs ck :: L) w) : Calls Tryz.prog 128 #[.func (.func 152) #[] #[.pointer (some ⟨bb, 0, none⟩)]] w (Ret fun v w' => ∃ a c, ∃ ss : List Int, ss.Perm (kvs.map (·.1)) ∧ v = .slice a ss.length c ∧ On W0 (Own 1 (.slice a ss.length c) ss.length (ss.map (Value.int .u64)) :: blk bb [.map (some mb)] 79 :: MapC mb .u64 kvs ck :: L) w') := by
  refine enter Tryz.func128 rfl Tryz.ntmps128 rfl ?_
  refine W.seq ?_
  refine W.region ?_
  refine WL.val run_assign rfl rfl ?_
  refine WL.nil ?_
  refine W.seq ?_
  refine W.region ?_
  refine WL.val run_move rfl rfl ?_
  refine WL.eff (eff_call Tryz.call150 (collectU_ok (by omega) h)) rfl rfl ?_
  rintro _ w ⟨a, c, ss, hS, rfl, h⟩
  have hsl : ss.length ≤ 1 := by rw [hS.length_eq, List.length_map]; exact hkl
  refine WL.val run_assign rfl rfl ?_
  refine WL.nil ?_
  refine W.seq ?_
  refine W.region ?_
  refine WL.val run_move rfl rfl ?_
  refine WL.eff (eff_call Tryz.call151 (sortU_ok hsl h)) rfl rfl ?_
  rintro _ w h
  refine WL.nil ?_
  refine W.seq ?_
  refine W.region ?_
  refine WL.val run_move rfl rfl ?_
  refine WL.val run_assign rfl rfl ?_
  refine WL.nil ?_
  refine W.ret ?_
  refine bodyQ.r1 (v := .slice _ _ _) Tryz.results128 rfl ?_
  -- path 
  exact ⟨a, c, ss, hS, rfl, h⟩

end Go.Proofs.YtdpakoefdpmebaaGreat
