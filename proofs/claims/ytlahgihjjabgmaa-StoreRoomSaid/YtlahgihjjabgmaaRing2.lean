/-
  A journal: the contracts. Lines of walks printed by a program of the prover's.
-/
import Derived.Test.YtlahgihjjabgmaaRing
import Derived.Test.YtlahgihjjabgmaaRingO
namespace Go.Proofs.Ytlahgihjjabgmaa
open Go Go.Sl Go.Sl.ByM Go.Sl.DkM Go.Sl.TwM Go.Sl.RgM
set_option linter.unusedVariables false
set_option linter.unusedSimpArgs false
set_option maxHeartbeats 1000000
set_option maxRecDepth 8000
variable {W0 w : World} {L F : List HProp}

theorem rnext_ok {br b : Nat} {g : Rg} (h : On W0 (RingP 130 br b g :: L) w) : Calls Try.prog 87 #[.pointer (some ⟨br, 0, none⟩)] w (Ret fun v w' => v = .int .u64 (g.next : Int) ∧ On W0 (RingP 130 br b g :: L) w') := by
  refine enter Try.func87 rfl Try.ntmps87 rfl ?_
  have ob_ := openR h
  obtain ⟨a, c, ws, pool, hok, hws, hpl, h⟩ := ob_
  have hlen : g.l.length ≤ 4096 := by have h1 := len_used g.l; have h2 := hok.sum; have h3 := hok.used; have h4 := hok.n4; omega
  have hfirst := hok.first; have hlife := hok.life; have hused := hok.used; have hn2 := hok.n2; have hn4 := hok.n4; have hat4 := hok.at4; have hpla := hok.place
  have hmx := maxLen_eq
  refine W.seq ?_
  refine W.region ?_
  refine WL.val run_assign rfl rfl ?_
  refine WL.nil ?_
  refine W.seq ?_
  refine W.draw Try.follows h (fun w h => ?_)
  refine WT.pure 0 rfl (by kernel_rfl) (fun w' => run_move) rfl rfl ?_
  refine WT.pure 1 rfl (by kernel_rfl) (fun w' => (run_nilCheck rfl)) rfl rfl ?_
  refine WT.pure 2 rfl (by kernel_rfl) (fun w' => (run_fieldAddr 3 Try.underlying130 rfl Try.sizeOf40 rfl rfl)) rfl rfl ?_
  refine WT.load1 3 rfl (by kernel_rfl) Try.isAgg40 rfl (h.cellB rfl) rfl rfl ?_
  refine WT.pure 4 rfl (by kernel_rfl) (fun w' => run_move) rfl rfl ?_
  refine WT.pure 5 rfl (by kernel_rfl) (fun w' => (run_nilCheck rfl)) rfl rfl ?_
  refine WT.pure 6 rfl (by kernel_rfl) (fun w' => (run_fieldAddr 7 Try.underlying130 rfl Try.sizeOf128 rfl rfl)) rfl rfl ?_
  refine WT.load1 7 rfl (by kernel_rfl) Try.isAgg128 rfl (h.cellB rfl) rfl rfl ?_
  refine WT.pure 8 rfl (by kernel_rfl) (fun w' => (run_lenSlice Try.underlying128 rfl)) rfl rfl ?_
  refine WT.pure 9 rfl (by kernel_rfl) (fun w' => (run_convIn Try.underlying3 Try.underlying40 rfl (by show (0 : Int) ≤ _; omega) (by show _ ≤ (18446744073709551615 : Int); omega))) rfl rfl ?_
  refine WT.pure 10 rfl (by kernel_rfl) (fun w' => (run_addK (k := .u64) (m := g.first) (n := g.l.length) rfl rfl (Int.ofNat_le.2 (show _ ≤ 18446744073709551615 by omega)))) rfl rfl ?_
  refine WT.pure 11 rfl (by kernel_rfl) (fun w' => run_assign) rfl rfl ?_
  refine WT.done (by kernel_rfl) ?_
  refine W.ret ?_
  refine bodyQ.r1 (v := .int .u64 _) Try.results87 rfl ?_
  -- path 
  exact ⟨rfl, closeR (g := g) (a := a) (c := c) hok hws hpl h⟩

theorem rroom_ok {br b : Nat} {g : Rg} (h : On W0 (RingP 130 br b g :: L) w) : Calls Try.prog 37 #[.pointer (some ⟨br, 0, none⟩)] w (Ret fun v w' => v = .int .i64 ((g.n - g.used : Nat) : Int) ∧ On W0 (RingP 130 br b g :: L) w') := by
  refine enter Try.func37 rfl Try.ntmps37 rfl ?_
  have ob_ := openR h
  obtain ⟨a, c, ws, pool, hok, hws, hpl, h⟩ := ob_
  have hlen : g.l.length ≤ 4096 := by have h1 := len_used g.l; have h2 := hok.sum; have h3 := hok.used; have h4 := hok.n4; omega
  have hfirst := hok.first; have hlife := hok.life; have hused := hok.used; have hn2 := hok.n2; have hn4 := hok.n4; have hat4 := hok.at4; have hpla := hok.place
  have hmx := maxLen_eq
  refine W.seq ?_
  refine W.region ?_
  refine WL.val run_assign rfl rfl ?_
  refine WL.nil ?_
  refine W.seq ?_
  refine W.draw Try.follows h (fun w h => ?_)
  refine WT.pure 0 rfl (by kernel_rfl) (fun w' => run_move) rfl rfl ?_
  refine WT.pure 1 rfl (by kernel_rfl) (fun w' => (run_nilCheck rfl)) rfl rfl ?_
  refine WT.pure 2 rfl (by kernel_rfl) (fun w' => (run_fieldAddr 2 Try.underlying130 rfl Try.sizeOf3 rfl rfl)) rfl rfl ?_
  refine WT.load1 3 rfl (by kernel_rfl) Try.isAgg3 rfl (h.cellB rfl) rfl rfl ?_
  refine WT.pure 4 rfl (by kernel_rfl) (fun w' => run_move) rfl rfl ?_
  refine WT.pure 5 rfl (by kernel_rfl) (fun w' => (run_nilCheck rfl)) rfl rfl ?_
  refine WT.pure 6 rfl (by kernel_rfl) (fun w' => (run_fieldAddr 5 Try.underlying130 rfl Try.sizeOf3 rfl rfl)) rfl rfl ?_
  refine WT.load1 7 rfl (by kernel_rfl) Try.isAgg3 rfl (h.cellB rfl) rfl rfl ?_
  refine WT.pure 8 rfl (by kernel_rfl) (fun w' => (run_subN (m := g.n) (n := g.used) rfl rfl (by omega) (by omega))) rfl rfl ?_
  refine WT.pure 9 rfl (by kernel_rfl) (fun w' => run_assign) rfl rfl ?_
  refine WT.done (by kernel_rfl) ?_
  refine W.ret ?_
  refine bodyQ.r1 (v := .int .i64 _) Try.results37 rfl ?_
  -- path 
  exact ⟨rfl, closeR (g := g) (a := a) (c := c) hok hws hpl h⟩

def rgWhere (g : Rg) : Nat := (g.l.head?.map (·.1)).getD g.place
theorem rx_of {g : Rg} {ws : List RX} (h : ws.map RX.key = g.l) : ws.length = g.l.length := by rw [← h, List.length_map]
theorem rx_get {g : Rg} {ws : List RX} (h : ws.map RX.key = g.l) {k : Nat} {x : LB} (hx : g.l[k]? = some x) : ∃ q : RX, ws[k]? = some q ∧ q.1 = x.1 ∧ q.2.2 = x.2 := by
  rw [← h, List.getElem?_map] at hx
  cases hq : ws[k]? with
  | none => rw [hq] at hx; cases hx
  | some q => rw [hq] at hx; cases hx; exact ⟨q, rfl, rfl, rfl⟩

theorem rfirst_ok {br b : Nat} {g : Rg} (h : On W0 (RingP 130 br b g :: L) w) : Calls Try.prog 41 #[.pointer (some ⟨br, 0, none⟩)] w (Ret fun v w' => v = .tuple #[.int .u64 (g.first : Int), .int .i64 (rgWhere g : Int)] ∧ On W0 (RingP 130 br b g :: L) w') := by
  refine enter Try.func41 rfl Try.ntmps41 rfl ?_
  have ob_ := openR h
  obtain ⟨a, c, ws, pool, hok, hws, hpl, h⟩ := ob_
  have hlen : g.l.length ≤ 4096 := by have h1 := len_used g.l; have h2 := hok.sum; have h3 := hok.used; have h4 := hok.n4; omega
  have hfirst := hok.first; have hlife := hok.life; have hused := hok.used; have hn2 := hok.n2; have hn4 := hok.n4; have hat4 := hok.at4; have hpla := hok.place
  have hmx := maxLen_eq
  refine W.seq ?_
  refine W.region ?_
  refine WL.val run_assign rfl rfl ?_
  refine WL.val run_assign rfl rfl ?_
  refine WL.nil ?_
  refine W.seq ?_
  refine W.seq ?_
  refine W.region ?_
  refine WL.val run_move rfl rfl ?_
  refine WL.val (run_nilCheck rfl) rfl rfl ?_
  refine WL.val (run_fieldAddr 7 Try.underlying130 rfl Try.sizeOf128 rfl rfl) rfl rfl ?_
  refine WL.val (run_load1 Try.isAgg128 rfl (h.cellB rfl)) rfl rfl ?_
  refine WL.val (run_lenSlice Try.underlying128 rfl) rfl rfl ?_
  refine WL.val (run_eql rfl rfl) rfl rfl ?_
  refine WL.nil ?_
  refine W.condIf rfl (fun c2 => ?_) (fun c2 => ?_)
  · skip
    refine W.seq ?_
    refine W.draw Try.follows h (fun w h => ?_)
    refine WT.pure 0 rfl (by kernel_rfl) (fun w' => run_move) rfl rfl ?_
    refine WT.pure 1 rfl (by kernel_rfl) (fun w' => (run_nilCheck rfl)) rfl rfl ?_
    refine WT.pure 2 rfl (by kernel_rfl) (fun w' => (run_fieldAddr 3 Try.underlying130 rfl Try.sizeOf40 rfl rfl)) rfl rfl ?_
    refine WT.load1 3 rfl (by kernel_rfl) Try.isAgg40 rfl (h.cellB rfl) rfl rfl ?_
    refine WT.pure 4 rfl (by kernel_rfl) (fun w' => run_move) rfl rfl ?_
    refine WT.pure 5 rfl (by kernel_rfl) (fun w' => (run_nilCheck rfl)) rfl rfl ?_
    refine WT.pure 6 rfl (by kernel_rfl) (fun w' => (run_fieldAddr 4 Try.underlying130 rfl Try.sizeOf3 rfl rfl)) rfl rfl ?_
    refine WT.load1 7 rfl (by kernel_rfl) Try.isAgg3 rfl (h.cellB rfl) rfl rfl ?_
    refine WT.pure 8 rfl (by kernel_rfl) (fun w' => run_assign) rfl rfl ?_
    refine WT.pure 9 rfl (by kernel_rfl) (fun w' => run_assign) rfl rfl ?_
    refine WT.done (by kernel_rfl) ?_
    refine W.ret ?_
    refine bodyQ.r2 (v1 := .int .u64 _) (v2 := .int .i64 _) Try.results41 rfl rfl ?_
    -- path T
    have e : rgWhere g = g.place := by
      have h0 : g.l = [] := List.eq_nil_of_length_eq_zero (by omega)
      unfold rgWhere; rw [h0]; rfl
    rw [e]
    exact ⟨rfl, closeR (g := g) (a := a) (c := c) hok hws hpl h⟩
  · skip
    refine W.skip ?_
    refine W.seq ?_
    have ob_ : ∃ x, g.l[0]? = some x := ⟨g.l[0]'(by omega), by simp⟩
    obtain ⟨x, hx⟩ := ob_
    have ob_ := rx_get hws hx
    obtain ⟨q, hq, hq1, hq2⟩ := ob_
    have ob_ := (h.cellsO (v := .slice a g.l.length c)).addr (by omega)
    obtain ⟨ba, oa, haa⟩ := ob_
    subst haa
    refine W.draw Try.follows h (fun w h => ?_)
    refine WT.pure 0 rfl (by kernel_rfl) (fun w' => run_move) rfl rfl ?_
    refine WT.pure 1 rfl (by kernel_rfl) (fun w' => (run_nilCheck rfl)) rfl rfl ?_
    refine WT.pure 2 rfl (by kernel_rfl) (fun w' => (run_fieldAddr 3 Try.underlying130 rfl Try.sizeOf40 rfl rfl)) rfl rfl ?_
    refine WT.load1 3 rfl (by kernel_rfl) Try.isAgg40 rfl (h.cellB rfl) rfl rfl ?_
    refine WT.pure 4 rfl (by kernel_rfl) (fun w' => run_move) rfl rfl ?_
    refine WT.pure 5 rfl (by kernel_rfl) (fun w' => (run_nilCheck rfl)) rfl rfl ?_
    refine WT.pure 6 rfl (by kernel_rfl) (fun w' => (run_fieldAddr 7 Try.underlying130 rfl Try.sizeOf128 rfl rfl)) rfl rfl ?_
    refine WT.load1 7 rfl (by kernel_rfl) Try.isAgg128 rfl (h.cellB rfl) rfl rfl ?_
    refine WT.pure 8 rfl (by kernel_rfl) (fun w' => (run_indexAddr Try.underlying128 Try.sizeOf137 rfl rfl (by omega) (by omega))) rfl rfl ?_
    refine WT.pure 9 rfl (by kernel_rfl) (fun w' => (run_fieldAddr 0 Try.underlying137 rfl Try.sizeOf3 rfl rfl)) rfl rfl ?_
    refine WT.load1 10 rfl (by kernel_rfl) Try.isAgg3 rfl ((h.cellsO (v := .slice (some ⟨ba, oa, none⟩) g.l.length c)).elem (i := 0) (vs := q.row) (by omega) (drop_flatMap RX.row 2 RX.row_length ws _ _ hq) 0 _ rfl) rfl rfl ?_
    refine WT.pure 11 rfl (by kernel_rfl) (fun w' => run_assign) rfl rfl ?_
    refine WT.pure 12 rfl (by kernel_rfl) (fun w' => run_assign) rfl rfl ?_
    refine WT.done (by kernel_rfl) ?_
    refine W.ret ?_
    refine bodyQ.r2 (v1 := .int .u64 _) (v2 := .int .i64 _) Try.results41 rfl rfl ?_
    -- path F
    have e : rgWhere g = q.1 := by
      unfold rgWhere; rw [List.head?_eq_getElem?, hx, hq1]; rfl
    rw [e]
    exact ⟨rfl, closeR (g := g) (a := some ⟨ba, oa, none⟩) (c := c) hok hws hpl h⟩

theorem rflush_ok {br b : Nat} {g : Rg} {d : Dk} (hlow : d.low) (h : On W0 (RingP 130 br b g :: DiskP 106 110 b d :: L) w) : Calls Try.prog 36 #[.pointer (some ⟨br, 0, none⟩)] w (Ret fun v w' => v = .int .i64 (flushD d).1 ∧ On W0 (RingP 130 br b g :: DiskP 106 110 b (flushD d).2 :: L) w') := by
  refine enter Try.func36 rfl Try.ntmps36 rfl ?_
  have ob_ := openR h
  obtain ⟨a, c, ws, pool, hok, hws, hpl, h⟩ := ob_
  have hlen : g.l.length ≤ 4096 := by have h1 := len_used g.l; have h2 := hok.sum; have h3 := hok.used; have h4 := hok.n4; omega
  have hfirst := hok.first; have hlife := hok.life; have hused := hok.used; have hn2 := hok.n2; have hn4 := hok.n4; have hat4 := hok.at4; have hpla := hok.place
  have hmx := maxLen_eq
  refine W.seq ?_
  refine W.region ?_
  refine WL.val run_assign rfl rfl ?_
  refine WL.nil ?_
  refine W.seq ?_
  refine W.region ?_
  refine WL.val run_move rfl rfl ?_
  refine WL.val (run_nilCheck rfl) rfl rfl ?_
  refine WL.val (run_fieldAddr 0 Try.underlying130 rfl Try.sizeOf26 rfl rfl) rfl rfl ?_
  refine WL.val (run_load1 Try.isAgg26 rfl (h.cellB rfl)) rfl rfl ?_
  refine WL.eff (eff_call Try.call18 (flush_ok hlow (h.fetch (DiskP 106 110 b d)))) rfl rfl ?_
  rintro _ w ⟨rfl, h⟩
  refine WL.val run_assign rfl rfl ?_
  refine WL.nil ?_
  refine W.ret ?_
  refine bodyQ.r1 (v := .int .i64 _) Try.results36 rfl ?_
  -- path 
  exact ⟨rfl, closeR (g := g) (a := a) (c := c) hok hws hpl h.to⟩

theorem keep_ok {br b : Nat} {g : Rg} {ax : Option Addr} {cx : Nat} {bb : List UInt8} (hb : bb.length ≤ 32768) (hr : g.used + needR bb.length ≤ g.n) (hf : g.first + g.l.length + 1 ≤ 9000000000000000000) (h : On W0 (RingP 130 br b g :: L) w) (C : Gives L (Bytes (.slice ax bb.length cx) bb)) : Calls Try.prog 90 #[.pointer (some ⟨br, 0, none⟩), .slice ax bb.length cx] w (Ret fun v w' => v = .tuple #[] ∧ On W0 (RingP 130 br b (keepR g bb) :: L) w') := by
  refine enter Try.func90 rfl Try.ntmps90 rfl ?_
  have ob_ := openR h
  obtain ⟨a, c, ws, pool, hok, hws, hpl, h⟩ := ob_
  have hlen : g.l.length ≤ 4096 := by have h1 := len_used g.l; have h2 := hok.sum; have h3 := hok.used; have h4 := hok.n4; omega
  have hfirst := hok.first; have hlife := hok.life; have hused := hok.used; have hn2 := hok.n2; have hn4 := hok.n4; have hat4 := hok.at4; have hpla := hok.place
  have hmx := maxLen_eq
  refine W.seq ?_
  refine W.draw Try.follows h (fun w h => ?_)
  refine WT.pure 0 rfl (by kernel_rfl) (fun w' => run_move) rfl rfl ?_
  refine WT.pure 1 rfl (by kernel_rfl) (fun w' => run_move) rfl rfl ?_
  refine WT.pure 2 rfl (by kernel_rfl) (fun w' => (run_nilCheck rfl)) rfl rfl ?_
  refine WT.pure 3 rfl (by kernel_rfl) (fun w' => (run_fieldAddr 7 Try.underlying130 rfl Try.sizeOf128 rfl rfl)) rfl rfl ?_
  refine WT.load1 4 rfl (by kernel_rfl) Try.isAgg128 rfl (h.cellB rfl) rfl rfl ?_
  refine WT.pure 5 rfl (by kernel_rfl) (fun w' => run_move) rfl rfl ?_
  refine WT.pure 6 rfl (by kernel_rfl) (fun w' => (run_nilCheck rfl)) rfl rfl ?_
  refine WT.pure 7 rfl (by kernel_rfl) (fun w' => (run_fieldAddr 4 Try.underlying130 rfl Try.sizeOf3 rfl rfl)) rfl rfl ?_
  refine WT.load1 8 rfl (by kernel_rfl) Try.isAgg3 rfl (h.cellB rfl) rfl rfl ?_
  refine WT.pure 9 rfl (by kernel_rfl) (fun w' => run_move) rfl rfl ?_
  refine WT.eff 10 [true, true] rfl (by kernel_rfl) (by kernel_rfl) (eff_call Try.call68 (clone_bytes h (Gives.to C) (by omega))) rfl rfl ?_
  rintro _ w ⟨a14, c14, rfl, h⟩
  refine ⟨⟨h.cellB rfl, h.cellB rfl, trivial⟩, ?_⟩
  refine WT.pure 11 rfl (by kernel_rfl) (fun w' => (run_buildS (pl := [(0, 1), (1, 1)]) (out := [.int .i64 _, .slice _ _ _]) Try.underlying137 Try.zeroValue137 (fun w => by kernel_rfl) rfl (⟨⟨_, _, rfl, rfl, by decide⟩, ⟨⟨_, _, rfl, rfl, by decide⟩, trivial⟩⟩) rfl)) rfl rfl ?_
  refine WT.eff 12 [false, true] rfl (by kernel_rfl) (by kernel_rfl) (eff_mkSlice (zl := [.int .i64 0, .slice none 0 0]) (out := [.int .i64 _, .slice _ _ _]) h Try.underlying128 Try.sizeOf137 Try.zeroValue137 (by decide) (by kernel_rfl) rfl rfl (by simp) (⟨⟨_, _, rfl, rfl, by decide⟩, trivial⟩) rfl rfl (by simp [maxLen])) rfl rfl ?_
  rintro _ w ⟨b16, rfl, h⟩
  refine ⟨⟨h.cellB rfl, trivial⟩, ?_⟩
  refine WT.eff 13 [false] rfl (by kernel_rfl) (by kernel_rfl) (eff_app (bytes := 32) (c2 := 1) h rfl rfl (h.cellsO (v := .slice (some ⟨b16, 0, none⟩) 1 1)) Try.underlying128 rfl rfl rfl rfl rfl (by omega) (by omega) (by simp [Value.oneCell'])) rfl rfl ?_
  rintro _ w ⟨a17, c17, rfl, h⟩
  refine ⟨trivial, ?_⟩
  refine WT.pure 14 rfl (by kernel_rfl) (fun w' => (run_nilCheck rfl)) rfl rfl ?_
  refine WT.pure 15 rfl (by kernel_rfl) (fun w' => (run_fieldAddr 7 Try.underlying130 rfl Try.sizeOf128 rfl rfl)) rfl rfl ?_
  refine WT.eff 16 [] rfl (by kernel_rfl) (by kernel_rfl) (eff_store (v := .slice _ _ _) h Try.sizeOf128 rfl rfl rfl rfl rfl) rfl rfl ?_
  rintro _ w h
  try simp only [Nat.zero_add, Nat.add_zero, List.set_cons_zero, List.set_cons_succ] at h
  refine ⟨trivial, ?_⟩
  refine WT.done (by kernel_rfl) ?_
  refine W.seq ?_
  refine W.draw Try.follows h (fun w h => ?_)
  refine WT.pure 0 rfl (by kernel_rfl) (fun w' => run_move) rfl rfl ?_
  refine WT.pure 1 rfl (by kernel_rfl) (fun w' => (run_nilCheck rfl)) rfl rfl ?_
  refine WT.pure 2 rfl (by kernel_rfl) (fun w' => (run_fieldAddr 5 Try.underlying130 rfl Try.sizeOf3 rfl rfl)) rfl rfl ?_
  refine WT.load1 3 rfl (by kernel_rfl) Try.isAgg3 rfl (h.cellB rfl) rfl rfl ?_
  refine WT.pure 4 rfl (by kernel_rfl) (fun w' => run_move) rfl rfl ?_
  refine WT.pure 5 rfl (by kernel_rfl) (fun w' => (run_lenSlice Try.underlying22 rfl)) rfl rfl ?_
  refine WT.eff 6 [true] rfl (by kernel_rfl) (by kernel_rfl) (eff_call Try.call40 (need_ok (n := bb.length) (by omega) h)) rfl rfl ?_
  rintro _ w ⟨rfl, h⟩
  refine ⟨⟨h.cellB rfl, trivial⟩, ?_⟩
  refine WT.pure 7 rfl (by kernel_rfl) (fun w' => (run_addN (m := g.used) (n := needR bb.length) rfl rfl (by omega))) rfl rfl ?_
  refine WT.pure 8 rfl (by kernel_rfl) (fun w' => (run_nilCheck rfl)) rfl rfl ?_
  refine WT.pure 9 rfl (by kernel_rfl) (fun w' => (run_fieldAddr 5 Try.underlying130 rfl Try.sizeOf3 rfl rfl)) rfl rfl ?_
  refine WT.eff 10 [false] rfl (by kernel_rfl) (by kernel_rfl) (eff_store (v := .int .i64 _) h Try.sizeOf3 rfl rfl rfl rfl rfl) rfl rfl ?_
  rintro _ w h
  try simp only [Nat.zero_add, Nat.add_zero, List.set_cons_zero, List.set_cons_succ] at h
  refine ⟨trivial, ?_⟩
  refine WT.done (by kernel_rfl) ?_
  refine W.draw Try.follows h (fun w h => ?_)
  refine WT.pure 0 rfl (by kernel_rfl) (fun w' => run_move) rfl rfl ?_
  refine WT.pure 1 rfl (by kernel_rfl) (fun w' => run_move) rfl rfl ?_
  refine WT.pure 2 rfl (by kernel_rfl) (fun w' => (run_nilCheck rfl)) rfl rfl ?_
  refine WT.pure 3 rfl (by kernel_rfl) (fun w' => (run_fieldAddr 4 Try.underlying130 rfl Try.sizeOf3 rfl rfl)) rfl rfl ?_
  refine WT.load1 4 rfl (by kernel_rfl) Try.isAgg3 rfl (h.cellB rfl) rfl rfl ?_
  refine WT.pure 5 rfl (by kernel_rfl) (fun w' => run_move) rfl rfl ?_
  refine WT.pure 6 rfl (by kernel_rfl) (fun w' => (run_lenSlice Try.underlying22 rfl)) rfl rfl ?_
  refine WT.pure 9 rfl (by kernel_rfl) (fun w' => run_move) rfl rfl ?_
  refine WT.pure 10 rfl (by kernel_rfl) (fun w' => (run_nilCheck rfl)) rfl rfl ?_
  refine WT.pure 11 rfl (by kernel_rfl) (fun w' => (run_fieldAddr 2 Try.underlying130 rfl Try.sizeOf3 rfl rfl)) rfl rfl ?_
  refine WT.load1 12 rfl (by kernel_rfl) Try.isAgg3 rfl (h.cellB rfl) rfl rfl ?_
  refine WT.eff 7 [true, true] rfl (by kernel_rfl) (by kernel_rfl) (eff_call Try.call40 (need_ok (n := bb.length) (by omega) h)) rfl rfl ?_
  rintro _ w ⟨rfl, h⟩
  refine ⟨⟨h.cellB rfl, h.cellB rfl, trivial⟩, ?_⟩
  refine WT.pure 8 rfl (by kernel_rfl) (fun w' => (run_addN (m := g.place) (n := needR bb.length) rfl rfl (by omega))) rfl rfl ?_
  refine WT.pure 13 rfl (by kernel_rfl) (fun w' => (run_remN (m := g.place + needR bb.length) (n := g.n) rfl rfl (by omega))) rfl rfl ?_
  refine WT.pure 14 rfl (by kernel_rfl) (fun w' => (run_nilCheck rfl)) rfl rfl ?_
  refine WT.pure 15 rfl (by kernel_rfl) (fun w' => (run_fieldAddr 4 Try.underlying130 rfl Try.sizeOf3 rfl rfl)) rfl rfl ?_
  refine WT.eff 16 [false, false] rfl (by kernel_rfl) (by kernel_rfl) (eff_store (v := .int .i64 _) h Try.sizeOf3 rfl rfl rfl rfl rfl) rfl rfl ?_
  rintro _ w h
  try simp only [Nat.zero_add, Nat.add_zero, List.set_cons_zero, List.set_cons_succ] at h
  refine ⟨trivial, ?_⟩
  refine WT.done (by kernel_rfl) ?_
  refine bodyQ.fall ?_
  refine bodyQ.r0 Try.results90 ?_
  -- path 
  exact ⟨rfl, ring_push (a2 := a17) (c2 := c17) (ws := ws) (pool := pool) (v := .slice a14 bb.length c14) hb hr hf hok hws hpl rfl h.to⟩

theorem write_live {b : Nat} {d : Dk} {k : Int} {ax : Option Addr} {cx : Nat} {bs : List UInt8} (hl : Live d) (hk : 0 ≤ k ∧ k < d.n) (hbs : bs.length ≤ 512) (hlow : d.low) (h : On W0 (DiskP 106 110 b d :: L) w) (C : Gives L (Bytes (.slice ax bs.length cx) bs)) : Calls Try.prog 17 #[.pointer (some ⟨b, 0, none⟩), .int .i64 k, .slice ax bs.length cx] w (Ret fun v w' => v = .int .i64 0 ∧ On W0 (DiskP 106 110 b (writeD d k bs).2 :: L) w') := (write_ok hlow h C).mono fun e w' he => by
  obtain ⟨v, he, hv⟩ := he
  refine ⟨v, he, ?_⟩
  obtain ⟨hv, h⟩ := hv
  rw [(live_write hl hk hbs).1] at hv
  exact ⟨hv, h⟩

theorem read_live {b : Nat} {d : Dk} {k : Int} (hs : stE d = 0) (hk : 0 ≤ k ∧ k < d.n) (h : On W0 (DiskP 106 110 b d :: L) w) : Calls Try.prog 21 #[.pointer (some ⟨b, 0, none⟩), .int .i64 k] w (Ret fun v w' => ∃ bq, v = .tuple #[.slice (some ⟨bq, 0, none⟩) 512 512, .int .i64 0] ∧ On W0 (Own 1 (.slice (some ⟨bq, 0, none⟩) 512 512) 512 (bytesV (readD d k)) :: DiskP 106 110 b d :: L) w') := (read_ok h).mono fun e w' he => by
  obtain ⟨v, he, hv⟩ := he
  refine ⟨v, he, ?_⟩
  rcases hv with ⟨_, hv⟩ | ⟨hno, _⟩
  · exact hv
  · exact absurd (by unfold rdE; rw [if_neg (by rw [hs]; decide), if_pos hk]) hno

theorem append_ok {br b : Nat} {g : Rg} {ax : Option Addr} {cx : Nat} {bb : List UInt8} {d : Dk} (hl : Live d) (hlow : d.calls + g.n ≤ 1000000000000) (hin : ((g.at_ + g.n : Nat) : Int) ≤ d.n) (hb : bb.length ≤ 1000000000) (hf : g.first + g.l.length + 1 ≤ 9000000000000000000) (h : On W0 (RingP 130 br b g :: DiskP 106 110 b d :: L) w) (C : Gives L (Bytes (.slice ax bb.length cx) bb)) : Calls Try.prog 35 #[.pointer (some ⟨br, 0, none⟩), .slice ax bb.length cx] w (Ret fun v w' => (32768 < bb.length ∧ v = .tuple #[.int .u64 0, .int .i64 5] ∧ On W0 (RingP 130 br b g :: DiskP 106 110 b d :: L) w') ∨ (bb.length ≤ 32768 ∧ g.n < g.used + needR bb.length ∧ v = .tuple #[.int .u64 0, .int .i64 7] ∧ On W0 (RingP 130 br b g :: DiskP 106 110 b d :: L) w') ∨ (bb.length ≤ 32768 ∧ g.used + needR bb.length ≤ g.n ∧ v = .tuple #[.int .u64 (g.next : Int), .int .i64 0] ∧ On W0 (RingP 130 br b (keepR g bb) :: DiskP 106 110 b (appD d g.at_ g.n g.place g.next g.life bb (needR bb.length)) :: L) w')) := by
  refine enter Try.func35 rfl Try.ntmps35 rfl ?_
  have hgok := ringOk h
  have hn2 := hgok.n2; have hn4 := hgok.n4; have hused := hgok.used; have hlife := hgok.life; have hat4 := hgok.at4; have hpla := hgok.place
  have hmx := maxLen_eq
  refine W.seq ?_
  refine W.region ?_
  refine WL.val run_assign rfl rfl ?_
  refine WL.val run_assign rfl rfl ?_
  refine WL.nil ?_
  refine W.seq ?_
  refine W.region ?_
  refine WL.val run_move rfl rfl ?_
  refine WL.val (run_lenSlice Try.underlying22 rfl) rfl rfl ?_
  refine WL.eff (eff_call Try.call40 (need_ok (n := bb.length) (by omega) h)) rfl rfl ?_
  rintro _ w ⟨rfl, h⟩
  refine WL.val run_assign rfl rfl ?_
  refine WL.nil ?_
  refine W.seq ?_
  refine W.block ?_
  refine W.seq ?_
  refine W.region ?_
  refine WL.val run_move rfl rfl ?_
  refine WL.val (run_lenSlice Try.underlying22 rfl) rfl rfl ?_
  refine WL.val (run_gtr rfl rfl) rfl rfl ?_
  refine WL.val run_assign rfl rfl ?_
  refine WL.nil ?_
  refine W.condIf rfl (fun c4 => ?_) (fun c4 => ?_)
  · skip
    refine W.seq ?_
    refine W.region ?_
    refine WL.val run_assign rfl rfl ?_
    refine WL.val run_assign rfl rfl ?_
    refine WL.nil ?_
    refine W.ret ?_
    refine bodyQ.r2 (v1 := .int .u64 _) (v2 := .int .i64 _) Try.results35 rfl rfl ?_
    -- path T
    exact .inl ⟨by omega, rfl, h⟩
  · skip
    refine W.seq ?_
    refine W.region ?_
    refine WL.val run_move rfl rfl ?_
    refine WL.val run_move rfl rfl ?_
    refine WL.eff (eff_call Try.call37 (rroom_ok h)) rfl rfl ?_
    rintro _ w ⟨rfl, h⟩
    refine WL.val (run_gtr rfl rfl) rfl rfl ?_
    refine WL.val run_assign rfl rfl ?_
    refine WL.nil ?_
    refine W.condIf rfl (fun c8 => ?_) (fun c8 => ?_)
    · skip
      refine W.seq ?_
      refine W.region ?_
      refine WL.val run_assign rfl rfl ?_
      refine WL.val run_assign rfl rfl ?_
      refine WL.nil ?_
      refine W.ret ?_
      refine bodyQ.r2 (v1 := .int .u64 _) (v2 := .int .i64 _) Try.results35 rfl rfl ?_
      -- path FT
      exact .inr (.inl ⟨by omega, by omega, rfl, h⟩)
    · skip
      refine W.skip ?_
      refine W.seq ?_
      refine W.region ?_
      refine WL.val run_move rfl rfl ?_
      refine WL.eff (eff_call Try.call87 (rnext_ok h)) rfl rfl ?_
      rintro _ w ⟨rfl, h⟩
      refine WL.val run_assign rfl rfl ?_
      refine WL.nil ?_
      refine W.seq ?_
      refine W.seq ?_
      have hbl : bb.length ≤ 32768 := by omega
      have hro : g.used + needR bb.length ≤ g.n := by omega
      have ob_ := openR h
      obtain ⟨a, c, ws, pool, hok, hws, hpl, h⟩ := ob_
      have hnb : needR bb.length ≤ 4096 := by omega
      have hnx : g.next < 18446744073709551616 := by show g.first + g.l.length < _; omega
      have hn0 : 0 < g.n := by omega
      refine W.region ?_
      refine WL.val run_move rfl rfl ?_
      refine WL.val run_move rfl rfl ?_
      refine WL.nil ?_
      refine W.block ?_
      refine W.loop (fun (i : Nat) env w => i ≤ needR bb.length ∧ ∃ j, env = mkE j [(0, .pointer (some ⟨br, 0, none⟩)), (1, .slice ax bb.length cx), (6, .int .i64 (needR bb.length : Int)), (7, .int .u64 (g.next : Int)), (26, .int .i64 (needR bb.length : Int)), (27, .int .i64 (i : Nat))] ∧ On W0 (DiskP 106 110 b (appD d g.at_ g.n g.place g.next g.life bb i) :: blk br [.pointer (some ⟨b, 0, none⟩), .int .i64 (g.at_ : Int), .int .i64 (g.n : Int), .int .u64 (g.first : Int), .int .i64 (g.place : Int), .int .i64 (g.used : Int), .int .u32 (g.life : Int), .slice a g.l.length c] 130 :: Own 2 (.slice a g.l.length c) g.l.length (ws.flatMap RX.row) :: Pool pool :: L) w) (fun i => needR bb.length - i) (0) ?_ ?_
      · have h0 : On W0 (DiskP 106 110 b d :: blk br [.pointer (some ⟨b, 0, none⟩), .int .i64 (g.at_ : Int), .int .i64 (g.n : Int), .int .u64 (g.first : Int), .int .i64 (g.place : Int), .int .i64 (g.used : Int), .int .u32 (g.life : Int), .slice a g.l.length c] 130 :: Own 2 (.slice a g.l.length c) g.l.length (ws.flatMap RX.row) :: Pool pool :: L) w := h.to
        exact ⟨Nat.zero_le _, _, mkE_of ⟨rfl, rfl, rfl, rfl, rfl, rfl, trivial⟩, h0⟩
      · rintro i env w ⟨hi, j, rfl, h⟩
        have ob_ := app_live (place := g.place) (number := g.next) (life := g.life) (b := bb) hl hn0 hin i
        obtain ⟨hli, hni, hci⟩ := ob_
        have hpos := posR_in (at_ := g.at_) (place := g.place) (i := i) hn0
        refine W.seq ?_
        refine W.region ?_
        refine WL.val (run_lss rfl rfl) rfl rfl ?_
        refine WL.nil ?_
        refine W.seq ?_
        refine W.condIf rfl (fun c17 => ?_) (fun c17 => ?_)
        · skip
          refine W.skip ?_
          refine W.seq ?_
          have hi2 : i < needR bb.length := by omega
          have hpl0 : i * 480 ≤ bb.length := by
            have ob_ := Nat.eq_zero_or_pos i
            rcases ob_ with h0 | h0
            · subst h0; omega
            · have := needR_last (n := bb.length) (i := i - 1) (by omega)
              omega
          have hCb := (h.reads (Gives.to C)).bounds
          have hcut := cut_bytes (L := L) (l := i * 480) (h := min ((i + 1) * 480) bb.length) (bs := bb) C hCb.1 (by omega) (Nat.min_le_right _ _)
          rw [part_cut] at hcut
          obtain ⟨ap, cp, hcut, gP⟩ := hcut
          have hple := partR_le bb i
          refine W.block ?_
          refine W.seq ?_
          refine W.region ?_
          refine WL.val run_move rfl rfl ?_
          refine WL.val run_assign rfl rfl ?_
          refine WL.nil ?_
          refine W.seq ?_
          refine W.draw Try.follows h (fun w h => ?_)
          refine WT.pure 0 rfl (by kernel_rfl) (fun w' => run_move) rfl rfl ?_
          refine WT.pure 1 rfl (by kernel_rfl) (fun w' => run_move) rfl rfl ?_
          refine WT.pure 2 rfl (by kernel_rfl) (fun w' => (run_nilCheck rfl)) rfl rfl ?_
          refine WT.pure 3 rfl (by kernel_rfl) (fun w' => (run_fieldAddr 6 Try.underlying130 rfl Try.sizeOf59 rfl rfl)) rfl rfl ?_
          refine WT.load1 4 rfl (by kernel_rfl) Try.isAgg59 rfl (h.cellB rfl) rfl rfl ?_
          refine WT.pure 5 rfl (by kernel_rfl) (fun w' => run_move) rfl rfl ?_
          refine WT.pure 6 rfl (by kernel_rfl) (fun w' => run_move) rfl rfl ?_
          refine WT.pure 7 rfl (by kernel_rfl) (fun w' => run_move) rfl rfl ?_
          refine WT.pure 8 rfl (by kernel_rfl) (fun w' => run_move) rfl rfl ?_
          refine WT.pure 9 rfl (by kernel_rfl) (fun w' => (run_mulN (m := i) (n := 480) rfl rfl (by omega))) rfl rfl ?_
          refine WT.pure 10 rfl (by kernel_rfl) (fun w' => run_move) rfl rfl ?_
          refine WT.pure 11 rfl (by kernel_rfl) (fun w' => (run_addN (m := i) (n := 1) rfl rfl (by omega))) rfl rfl ?_
          refine WT.pure 12 rfl (by kernel_rfl) (fun w' => (run_mulN (m := i + 1) (n := 480) rfl rfl (by omega))) rfl rfl ?_
          refine WT.pure 13 rfl (by kernel_rfl) (fun w' => run_move) rfl rfl ?_
          refine WT.pure 14 rfl (by kernel_rfl) (fun w' => (run_lenSlice Try.underlying22 rfl)) rfl rfl ?_
          refine WT.pure 15 rfl (by kernel_rfl) (fun w' => (run_minN (m := (i + 1) * 480) (n := bb.length) (r := min ((i + 1) * 480) bb.length) rfl rfl rfl)) rfl rfl ?_
          refine WT.pure 16 rfl (by kernel_rfl) (fun w' => (run_cutLHV (l := i * 480) (h := min ((i + 1) * 480) bb.length) Try.underlying22 Try.sizeOf5 rfl rfl rfl (by omega) (by omega) hcut)) rfl rfl ?_
          refine WT.eff 17 [false] rfl (by kernel_rfl) (by kernel_rfl) (eff_call Try.call91 (rpk_ok (number := g.next) (life := g.life) (part := i) (parts := needR bb.length) (bb := partR bb i) hnx hlife (by omega) (by omega) h (Gives.to gP))) rfl rfl ?_
          rintro _ w hg
          rcases hg with ⟨_, _, _, a48, rfl, h⟩ | ⟨_, hp, _⟩
          rotate_left
          · exact absurd (by rw [packR_ok (by omega) (by omega) hple]) hp
          have hsl := secR_length (number := g.next) (life := g.life) (part := i) (parts := needR bb.length) hple
          refine ⟨trivial, ?_⟩
          refine WT.pure 18 rfl (by kernel_rfl) (fun w' => run_move) rfl rfl ?_
          refine WT.pure 19 rfl (by kernel_rfl) (fun w' => (run_extract rfl rfl)) rfl rfl ?_
          refine WT.pure 20 rfl (by kernel_rfl) (fun w' => (run_extract rfl rfl)) rfl rfl ?_
          refine WT.pure 21 rfl (by kernel_rfl) (fun w' => run_assign) rfl rfl ?_
          refine WT.pure 22 rfl (by kernel_rfl) (fun w' => run_assign) rfl rfl ?_
          refine WT.done (by kernel_rfl) ?_
          refine W.seq ?_
          refine W.draw Try.follows h (fun w h => ?_)
          refine WT.pure 0 rfl (by kernel_rfl) (fun w' => run_move) rfl rfl ?_
          refine WT.pure 1 rfl (by kernel_rfl) (fun w' => (run_nilCheck rfl)) rfl rfl ?_
          refine WT.pure 2 rfl (by kernel_rfl) (fun w' => (run_fieldAddr 0 Try.underlying130 rfl Try.sizeOf26 rfl rfl)) rfl rfl ?_
          refine WT.load1 3 rfl (by kernel_rfl) Try.isAgg26 rfl (h.cellB rfl) rfl rfl ?_
          refine WT.pure 4 rfl (by kernel_rfl) (fun w' => run_move) rfl rfl ?_
          refine WT.pure 5 rfl (by kernel_rfl) (fun w' => (run_nilCheck rfl)) rfl rfl ?_
          refine WT.pure 6 rfl (by kernel_rfl) (fun w' => (run_fieldAddr 1 Try.underlying130 rfl Try.sizeOf3 rfl rfl)) rfl rfl ?_
          refine WT.load1 7 rfl (by kernel_rfl) Try.isAgg3 rfl (h.cellB rfl) rfl rfl ?_
          refine WT.pure 8 rfl (by kernel_rfl) (fun w' => run_move) rfl rfl ?_
          refine WT.pure 9 rfl (by kernel_rfl) (fun w' => (run_nilCheck rfl)) rfl rfl ?_
          refine WT.pure 10 rfl (by kernel_rfl) (fun w' => (run_fieldAddr 4 Try.underlying130 rfl Try.sizeOf3 rfl rfl)) rfl rfl ?_
          refine WT.load1 11 rfl (by kernel_rfl) Try.isAgg3 rfl (h.cellB rfl) rfl rfl ?_
          refine WT.pure 12 rfl (by kernel_rfl) (fun w' => run_move) rfl rfl ?_
          refine WT.pure 13 rfl (by kernel_rfl) (fun w' => (run_addN (m := g.place) (n := i) rfl rfl (by omega))) rfl rfl ?_
          refine WT.pure 14 rfl (by kernel_rfl) (fun w' => run_move) rfl rfl ?_
          refine WT.pure 15 rfl (by kernel_rfl) (fun w' => (run_nilCheck rfl)) rfl rfl ?_
          refine WT.pure 16 rfl (by kernel_rfl) (fun w' => (run_fieldAddr 2 Try.underlying130 rfl Try.sizeOf3 rfl rfl)) rfl rfl ?_
          refine WT.load1 17 rfl (by kernel_rfl) Try.isAgg3 rfl (h.cellB rfl) rfl rfl ?_
          refine WT.pure 18 rfl (by kernel_rfl) (fun w' => (run_remN (m := g.place + i) (n := g.n) rfl rfl (by omega))) rfl rfl ?_
          refine WT.pure 19 rfl (by kernel_rfl) (fun w' => (run_addN (m := g.at_) (n := (g.place + i) % g.n) rfl rfl (by have := Nat.mod_lt (g.place + i) hn0; omega))) rfl rfl ?_
          refine WT.pure 20 rfl (by kernel_rfl) (fun w' => run_move) rfl rfl ?_
          refine WT.eff 21 [false, false, false, false] rfl (by kernel_rfl) (by kernel_rfl) (eff_call Try.call17 (write_live (k := posR g.at_ g.n g.place i) (bs := (secR g.next g.life i (needR bb.length) (partR bb i))) hli ⟨hpos.1, by omega⟩ (by omega) ⟨by omega, by rw [hli.armed]; decide⟩ (h.fetch (DiskP 106 110 b (appD d g.at_ g.n g.place g.next g.life bb i))) (Gives.ownO (v := .slice a48 (secR g.next g.life i (needR bb.length) (partR bb i)).length (secR g.next g.life i (needR bb.length) (partR bb i)).length)))) rfl rfl ?_
          rintro _ w ⟨rfl, h⟩
          have h : On W0 (DiskP 106 110 b (appD d g.at_ g.n g.place g.next g.life bb (i + 1)) :: _) w := h
          refine ⟨trivial, ?_⟩
          refine WT.pure 22 rfl (by kernel_rfl) (fun w' => run_assign) rfl rfl ?_
          refine WT.done (by kernel_rfl) ?_
          refine W.seq ?_
          refine W.region ?_
          refine WL.val run_move rfl rfl ?_
          refine WL.val (run_neqF rfl rfl (rfl)) rfl rfl ?_
          refine WL.nil ?_
          refine W.condF rfl ?_
          refine W.skip ?_
          refine W.region ?_
          refine WL.val (run_add rfl rfl (by omega) (by omega)) rfl rfl ?_
          refine WL.val run_move rfl rfl ?_
          refine WL.nil ?_
          -- round, path FFLT
          exact ⟨i + 1, ⟨by omega, _, mkE_of ⟨rfl, rfl, rfl, rfl, rfl, rfl, trivial⟩, h.to⟩, by show needR bb.length - (i + 1) < needR bb.length - i; omega⟩
        · skip
          refine W.exit ?_
          refine W.seq ?_
          have ob_ : i = needR bb.length := by omega
          obtain rfl := ob_
          have h := closeR (TR := 130) (br := br) (b := b) (g := g) (a := a) (c := c) (ws := ws) (pool := pool) (L := DiskP 106 110 b (appD d g.at_ g.n g.place g.next g.life bb (needR bb.length)) :: L) hok hws hpl h.to
          refine W.region ?_
          refine WL.val run_move rfl rfl ?_
          refine WL.val run_move rfl rfl ?_
          refine WL.eff (eff_call Try.call90 (keep_ok hbl hro hf h (Gives.to C))) rfl rfl ?_
          rintro _ w ⟨rfl, h⟩
          refine WL.nil ?_
          refine W.seq ?_
          refine W.region ?_
          refine WL.val run_move rfl rfl ?_
          refine WL.val run_assign rfl rfl ?_
          refine WL.val run_assign rfl rfl ?_
          refine WL.nil ?_
          refine W.ret ?_
          refine bodyQ.r2 (v1 := .int .u64 _) (v2 := .int .i64 _) Try.results35 rfl rfl ?_
          -- path FFLF
          exact .inr (.inr ⟨hbl, hro, rfl, h⟩)

end Go.Proofs.Ytlahgihjjabgmaa
