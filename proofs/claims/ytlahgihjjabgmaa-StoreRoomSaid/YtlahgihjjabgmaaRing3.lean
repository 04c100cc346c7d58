/-
  A journal is read, and trimmed: the contracts. Lines of walks printed by a program of the prover's.
-/
import Derived.Test.YtlahgihjjabgmaaRing2
namespace Go.Proofs.Ytlahgihjjabgmaa
open Go Go.Sl Go.Sl.ByM Go.Sl.DkM Go.Sl.TwM Go.Sl.RgM
set_option linter.unusedVariables false
set_option linter.unusedSimpArgs false
set_option maxHeartbeats 1000000
set_option maxRecDepth 8000
variable {W0 w : World} {L F : List HProp}

theorem runpkN_ok {ax : Option Addr} {cx n : Nat} {s : List UInt8} (hn : s.length = n) (hsl : n ≤ 1000000) (h : On W0 L w) (C : Gives L (Cells 1 (.slice ax n cx) n (bytesV s))) : Calls Try.prog 112 #[.slice ax n cx] w (Ret fun v w' => ((unpackR s).err = 0 ∧ ∃ a c, v = .tuple #[.int .u64 ((unpackR s).number : Int), .int .u32 ((unpackR s).life : Int), .int .i64 ((unpackR s).part : Int), .int .i64 ((unpackR s).parts : Int), .slice a (unpackR s).b.length c, .int .i64 0] ∧ On W0 (OwnB (.slice a (unpackR s).b.length c) (unpackR s).b :: L) w') ∨ ((unpackR s).err ≠ 0 ∧ v = .tuple #[.int .u64 0, .int .u32 0, .int .i64 0, .int .i64 0, .slice none 0 0, .int .i64 (unpackR s).err] ∧ On W0 L w')) := by
  subst hn
  exact runp_ok h C hsl

theorem scan_gone {br b : Nat} {g : Rg} {d : Dk} {least : Nat} (hgo : g.used = g.n ∨ (g.used < g.n ∧ Gone d g.at_ g.n g.place g.next least g.life)) (hs : stE d = 0) (hin : ((g.at_ + g.n : Nat) : Int) ≤ d.n) (h : On W0 (RingP 130 br b g :: DiskP 106 110 b d :: L) w) : Calls Try.prog 88 #[.pointer (some ⟨br, 0, none⟩), .int .u32 (least : Int)] w (Ret fun v w' => v = .tuple #[.slice none 0 0, .int .u32 0, .bool false, .int .i64 0] ∧ On W0 (RingP 130 br b g :: DiskP 106 110 b d :: L) w') := by
  refine enter Try.func88 rfl Try.ntmps88 rfl ?_
  have ob_ := openR h
  obtain ⟨a, c, ws, pool, hok, hws, hpl, h⟩ := ob_
  have hlen : g.l.length ≤ 4096 := by have h1 := len_used g.l; have h2 := hok.sum; have h3 := hok.used; have h4 := hok.n4; omega
  have hfirst := hok.first; have hlife := hok.life; have hused := hok.used; have hn2 := hok.n2; have hn4 := hok.n4; have hat4 := hok.at4; have hpla := hok.place
  have hmx := maxLen_eq
  have hn0 : 0 < g.n := by omega
  have hi0 : (0 : Nat) < 1 := by decide
  refine W.seq ?_
  refine W.region ?_
  refine WL.val run_assign rfl rfl ?_
  refine WL.val run_assign rfl rfl ?_
  refine WL.val run_assign rfl rfl ?_
  refine WL.val run_assign rfl rfl ?_
  refine WL.nil ?_
  refine W.scope ?_
  refine W.seq ?_
  refine W.region ?_
  refine WL.val run_assign rfl rfl ?_
  refine WL.nil ?_
  refine W.seq ?_
  refine W.label ?_
  refine W.seq ?_
  refine W.seq ?_
  refine W.region ?_
  refine WL.val run_assign rfl rfl ?_
  refine WL.nil ?_
  refine W.block ?_
  refine W.loop (fun (i : Nat) env w => i = 0 ∧ ∃ j, env = mkE j [(0, .pointer (some ⟨br, 0, none⟩)), (1, .int .u32 (least : Int)), (4, .slice none 0 0), (5, .int .u32 0), (6, .bool false), (7, .int .i64 0), (8, .int .i64 1), (9, .int .i64 (i : Nat))] ∧ On W0 (blk br [.pointer (some ⟨b, 0, none⟩), .int .i64 (g.at_ : Int), .int .i64 (g.n : Int), .int .u64 (g.first : Int), .int .i64 (g.place : Int), .int .i64 (g.used : Int), .int .u32 (g.life : Int), .slice a g.l.length c] 130 :: Own 2 (.slice a g.l.length c) g.l.length (ws.flatMap RX.row) :: Pool pool :: DiskP 106 110 b d :: L) w) (fun i => 1 - i) (0) ?_ ?_
  · exact ⟨rfl, _, mkE_of ⟨rfl, rfl, rfl, rfl, rfl, rfl, rfl, rfl, trivial⟩, h.to⟩
  · rintro i env w ⟨hi, j, rfl, h⟩
    have hpos := posR_in (at_ := g.at_) (place := g.place) (i := i) hn0
    refine W.seq ?_
    refine W.seq ?_
    refine W.region ?_
    refine WL.val run_move rfl rfl ?_
    refine WL.val run_move rfl rfl ?_
    refine WL.val (run_lssT rfl rfl (by omega)) rfl rfl ?_
    refine WL.nil ?_
    refine W.condT rfl ?_
    refine W.skip ?_
    refine W.seq ?_
    refine W.block ?_
    refine W.seq ?_
    refine W.seq ?_
    refine W.draw Try.follows h (fun w h => ?_)
    refine WT.pure 0 rfl (by kernel_rfl) (fun w' => run_move) rfl rfl ?_
    refine WT.pure 1 rfl (by kernel_rfl) (fun w' => (run_nilCheck rfl)) rfl rfl ?_
    refine WT.pure 2 rfl (by kernel_rfl) (fun w' => (run_fieldAddr 5 Try.underlying130 rfl Try.sizeOf3 rfl rfl)) rfl rfl ?_
    refine WT.load1 3 rfl (by kernel_rfl) Try.isAgg3 rfl (h.cellB rfl) rfl rfl ?_
    refine WT.pure 4 rfl (by kernel_rfl) (fun w' => run_move) rfl rfl ?_
    refine WT.pure 5 rfl (by kernel_rfl) (fun w' => (run_addN (m := g.used) (n := i) rfl rfl (by omega))) rfl rfl ?_
    refine WT.pure 6 rfl (by kernel_rfl) (fun w' => run_move) rfl rfl ?_
    refine WT.pure 7 rfl (by kernel_rfl) (fun w' => (run_nilCheck rfl)) rfl rfl ?_
    refine WT.pure 8 rfl (by kernel_rfl) (fun w' => (run_fieldAddr 2 Try.underlying130 rfl Try.sizeOf3 rfl rfl)) rfl rfl ?_
    refine WT.load1 9 rfl (by kernel_rfl) Try.isAgg3 rfl (h.cellB rfl) rfl rfl ?_
    refine WT.pure 10 rfl (by kernel_rfl) (fun w' => (run_geq rfl rfl)) rfl rfl ?_
    refine WT.done (by kernel_rfl) ?_
    refine W.condIf rfl (fun c13 => ?_) (fun c13 => ?_)
    · skip
      refine W.seq ?_
      refine W.region ?_
      refine WL.val run_assign rfl rfl ?_
      refine WL.val run_assign rfl rfl ?_
      refine WL.val run_assign rfl rfl ?_
      refine WL.val run_assign rfl rfl ?_
      refine WL.nil ?_
      refine W.ret ?_
      refine bodyQ.r4 (v1 := .slice _ _ _) (v2 := .int .u32 _) (v3 := .bool _) (v4 := .int .i64 _) Try.results88 rfl rfl rfl rfl ?_
      -- path LT
      exact ⟨rfl, closeR (TR := 130) (br := br) (b := b) (g := g) (a := a) (c := c) (ws := ws) (pool := pool) (L := DiskP 106 110 b d :: L) hok hws hpl h.to⟩
    · skip
      refine W.skip ?_
      refine W.seq ?_
      have hgone : Gone d g.at_ g.n g.place g.next least g.life := by
        rcases hgo with hh | ⟨_, hh⟩
        · omega
        · exact hh
      refine W.draw Try.follows h (fun w h => ?_)
      refine WT.pure 0 rfl (by kernel_rfl) (fun w' => run_move) rfl rfl ?_
      refine WT.pure 1 rfl (by kernel_rfl) (fun w' => (run_nilCheck rfl)) rfl rfl ?_
      refine WT.pure 2 rfl (by kernel_rfl) (fun w' => (run_fieldAddr 0 Try.underlying130 rfl Try.sizeOf26 rfl rfl)) rfl rfl ?_
      refine WT.load1 3 rfl (by kernel_rfl) Try.isAgg26 rfl (h.cellB rfl) rfl rfl ?_
      refine WT.pure 4 rfl (by kernel_rfl) (fun w' => run_move) rfl rfl ?_
      refine WT.pure 5 rfl (by kernel_rfl) (fun w' => (run_nilCheck rfl)) rfl rfl ?_
      refine WT.pure 6 rfl (by kernel_rfl) (fun w' => (run_fieldAddr 1 Try.underlying130 rfl Try.sizeOf3 rfl rfl)) rfl rfl ?_
      refine WT.load1 7 rfl (by kernel_rfl) Try.isAgg3 rfl (h.cellB rfl) rfl rfl ?_
      refine WT.pure 8 rfl (by kernel_rfl) (fun w' => run_move) rfl rfl ?_
      refine WT.pure 9 rfl (by kernel_rfl) (fun w' => (run_nilCheck rfl)) rfl rfl ?_
      refine WT.pure 10 rfl (by kernel_rfl) (fun w' => (run_fieldAddr 4 Try.underlying130 rfl Try.sizeOf3 rfl rfl)) rfl rfl ?_
      refine WT.load1 11 rfl (by kernel_rfl) Try.isAgg3 rfl (h.cellB rfl) rfl rfl ?_
      refine WT.pure 12 rfl (by kernel_rfl) (fun w' => run_move) rfl rfl ?_
      refine WT.pure 13 rfl (by kernel_rfl) (fun w' => (run_addN (m := g.place) (n := i) rfl rfl (by omega))) rfl rfl ?_
      refine WT.pure 14 rfl (by kernel_rfl) (fun w' => run_move) rfl rfl ?_
      refine WT.pure 15 rfl (by kernel_rfl) (fun w' => (run_nilCheck rfl)) rfl rfl ?_
      refine WT.pure 16 rfl (by kernel_rfl) (fun w' => (run_fieldAddr 2 Try.underlying130 rfl Try.sizeOf3 rfl rfl)) rfl rfl ?_
      refine WT.load1 17 rfl (by kernel_rfl) Try.isAgg3 rfl (h.cellB rfl) rfl rfl ?_
      refine WT.pure 18 rfl (by kernel_rfl) (fun w' => (run_remN (m := g.place + i) (n := g.n) rfl rfl (by omega))) rfl rfl ?_
      refine WT.pure 19 rfl (by kernel_rfl) (fun w' => (run_addN (m := g.at_) (n := (g.place + i) % g.n) rfl rfl (by have := Nat.mod_lt (g.place + i) hn0; omega))) rfl rfl ?_
      refine WT.eff 20 [false, false, false, false] rfl (by kernel_rfl) (by kernel_rfl) (eff_call Try.call21 (read_live (k := (posR g.at_ g.n g.place i)) hs ⟨hpos.1, by omega⟩ (h.fetch (DiskP 106 110 b d)))) rfl rfl ?_
      rintro _ w ⟨bq, rfl, h⟩
      refine ⟨trivial, ?_⟩
      refine WT.pure 21 rfl (by kernel_rfl) (fun w' => run_move) rfl rfl ?_
      refine WT.pure 22 rfl (by kernel_rfl) (fun w' => (run_extract rfl rfl)) rfl rfl ?_
      refine WT.pure 23 rfl (by kernel_rfl) (fun w' => (run_extract rfl rfl)) rfl rfl ?_
      refine WT.pure 24 rfl (by kernel_rfl) (fun w' => run_assign) rfl rfl ?_
      refine WT.pure 25 rfl (by kernel_rfl) (fun w' => run_assign) rfl rfl ?_
      refine WT.done (by kernel_rfl) ?_
      refine W.seq ?_
      refine W.seq ?_
      refine W.region ?_
      refine WL.val run_move rfl rfl ?_
      refine WL.val (run_neqF rfl rfl (rfl)) rfl rfl ?_
      refine WL.nil ?_
      refine W.condF rfl ?_
      refine W.skip ?_
      refine W.seq ?_
      refine W.region ?_
      refine WL.val run_move rfl rfl ?_
      refine WL.eff (eff_call Try.call112 (runpkN_ok (s := (readD d (posR g.at_ g.n g.place i))) (readD_length _ _) (by decide) h (Gives.ownO (v := .slice (some ⟨bq, 0, none⟩) 512 512)))) rfl rfl ?_
      rintro _ w hg
      rcases hg with ⟨hu0, au, cu, rfl, h⟩ | ⟨hu0, rfl, h⟩
      · skip
        refine WL.val run_move rfl rfl ?_
        refine WL.val (run_extract rfl rfl) rfl rfl ?_
        refine WL.val (run_extract rfl rfl) rfl rfl ?_
        refine WL.val (run_extract rfl rfl) rfl rfl ?_
        refine WL.val (run_extract rfl rfl) rfl rfl ?_
        refine WL.val (run_extract rfl rfl) rfl rfl ?_
        refine WL.val (run_extract rfl rfl) rfl rfl ?_
        refine WL.val run_assign rfl rfl ?_
        refine WL.val run_assign rfl rfl ?_
        refine WL.val run_assign rfl rfl ?_
        refine WL.val run_assign rfl rfl ?_
        refine WL.val run_assign rfl rfl ?_
        refine WL.val run_assign rfl rfl ?_
        refine WL.nil ?_
        refine W.seq ?_
        refine W.seq ?_
        refine W.region ?_
        refine WL.val run_move rfl rfl ?_
        refine WL.val (run_neqF rfl rfl (rfl)) rfl rfl ?_
        refine WL.val run_move rfl rfl ?_
        refine WL.val run_move rfl rfl ?_
        refine WL.val run_move rfl rfl ?_
        refine WL.eff (eff_call Try.call87 (rnext_ok (br := br) (b := b) (g := g) (closeR (a := a) (c := c) (ws := ws) (pool := pool) (L := OwnB (.slice au (unpackR (readD d (posR g.at_ g.n g.place i))).b.length cu) (unpackR (readD d (posR g.at_ g.n g.place i))).b :: Own 1 (.slice (some ⟨bq, 0, none⟩) 512 512) 512 (bytesV (readD d (posR g.at_ g.n g.place i))) :: DiskP 106 110 b d :: L) hok hws hpl h.to))) rfl rfl ?_
        rintro _ w ⟨rfl, h⟩
        have ob_ := openR h
        obtain ⟨a_, c_, ws_, pool_, _, hws_, hpl_, h⟩ := ob_
        refine WL.dec (run_neq rfl rfl) rfl rfl (fun c77 => ?_) (fun c77 => ?_)
        · skip
          refine WL.val (run_pickF rfl) rfl rfl ?_
          refine WL.val run_move rfl rfl ?_
          refine WL.skip rfl rfl ?_
          refine WL.skip rfl rfl ?_
          refine WL.skip rfl rfl ?_
          refine WL.val (run_pickT rfl) rfl rfl ?_
          refine WL.val run_move rfl rfl ?_
          refine WL.skip rfl rfl ?_
          refine WL.skip rfl rfl ?_
          refine WL.skip rfl rfl ?_
          refine WL.val (run_pickT rfl) rfl rfl ?_
          refine WL.val run_move rfl rfl ?_
          refine WL.skip rfl rfl ?_
          refine WL.skip rfl rfl ?_
          refine WL.skip rfl rfl ?_
          refine WL.skip rfl rfl ?_
          refine WL.skip rfl rfl ?_
          refine WL.skip rfl rfl ?_
          refine WL.val (run_pickT rfl) rfl rfl ?_
          refine WL.nil ?_
          refine W.condT rfl ?_
          refine W.exit ?_
          refine W.seq ?_
          refine W.region ?_
          refine WL.val run_move rfl rfl ?_
          refine WL.val run_move rfl rfl ?_
          refine WL.val run_move rfl rfl ?_
          refine WL.val run_assign rfl rfl ?_
          refine WL.val run_assign rfl rfl ?_
          refine WL.val run_assign rfl rfl ?_
          refine WL.val run_assign rfl rfl ?_
          refine WL.nil ?_
          refine W.ret ?_
          refine bodyQ.r4 (v1 := .slice _ _ _) (v2 := .int .u32 _) (v3 := .bool _) (v4 := .int .i64 _) Try.results88 rfl rfl rfl rfl ?_
          -- path LFTT
          exact ⟨rfl, closeR (TR := 130) (br := br) (b := b) (g := g) (a := a_) (c := c_) (ws := ws_) (pool := pool_) (L := DiskP 106 110 b d :: L) hok hws_ hpl_ h.to⟩
        · skip
          refine WL.val (run_pickF rfl) rfl rfl ?_
          refine WL.val run_move rfl rfl ?_
          refine WL.val run_move rfl rfl ?_
          refine WL.val run_move rfl rfl ?_
          refine WL.dec (run_neq rfl rfl) rfl rfl (fun c82 => ?_) (fun c82 => ?_)
          · skip
            refine WL.val (run_pickF rfl) rfl rfl ?_
            refine WL.val run_move rfl rfl ?_
            refine WL.skip rfl rfl ?_
            refine WL.skip rfl rfl ?_
            refine WL.skip rfl rfl ?_
            refine WL.val (run_pickT rfl) rfl rfl ?_
            refine WL.val run_move rfl rfl ?_
            refine WL.skip rfl rfl ?_
            refine WL.skip rfl rfl ?_
            refine WL.skip rfl rfl ?_
            refine WL.skip rfl rfl ?_
            refine WL.skip rfl rfl ?_
            refine WL.skip rfl rfl ?_
            refine WL.val (run_pickT rfl) rfl rfl ?_
            refine WL.nil ?_
            refine W.condT rfl ?_
            refine W.exit ?_
            refine W.seq ?_
            refine W.region ?_
            refine WL.val run_move rfl rfl ?_
            refine WL.val run_move rfl rfl ?_
            refine WL.val run_move rfl rfl ?_
            refine WL.val run_assign rfl rfl ?_
            refine WL.val run_assign rfl rfl ?_
            refine WL.val run_assign rfl rfl ?_
            refine WL.val run_assign rfl rfl ?_
            refine WL.nil ?_
            refine W.ret ?_
            refine bodyQ.r4 (v1 := .slice _ _ _) (v2 := .int .u32 _) (v3 := .bool _) (v4 := .int .i64 _) Try.results88 rfl rfl rfl rfl ?_
            -- path LFTFT
            exact ⟨rfl, closeR (TR := 130) (br := br) (b := b) (g := g) (a := a_) (c := c_) (ws := ws_) (pool := pool_) (L := DiskP 106 110 b d :: L) hok hws_ hpl_ h.to⟩
          · skip
            refine WL.val (run_pickF rfl) rfl rfl ?_
            refine WL.val run_move rfl rfl ?_
            refine WL.val run_move rfl rfl ?_
            refine WL.val run_move rfl rfl ?_
            refine WL.dec (run_lss rfl rfl) rfl rfl (fun c87 => ?_) (fun c87 => ?_)
            · skip
              refine WL.val (run_pickF rfl) rfl rfl ?_
              refine WL.val run_move rfl rfl ?_
              refine WL.skip rfl rfl ?_
              refine WL.skip rfl rfl ?_
              refine WL.skip rfl rfl ?_
              refine WL.skip rfl rfl ?_
              refine WL.skip rfl rfl ?_
              refine WL.skip rfl rfl ?_
              refine WL.val (run_pickT rfl) rfl rfl ?_
              refine WL.nil ?_
              refine W.condT rfl ?_
              refine W.exit ?_
              refine W.seq ?_
              refine W.region ?_
              refine WL.val run_move rfl rfl ?_
              refine WL.val run_move rfl rfl ?_
              refine WL.val run_move rfl rfl ?_
              refine WL.val run_assign rfl rfl ?_
              refine WL.val run_assign rfl rfl ?_
              refine WL.val run_assign rfl rfl ?_
              refine WL.val run_assign rfl rfl ?_
              refine WL.nil ?_
              refine W.ret ?_
              refine bodyQ.r4 (v1 := .slice _ _ _) (v2 := .int .u32 _) (v3 := .bool _) (v4 := .int .i64 _) Try.results88 rfl rfl rfl rfl ?_
              -- path LFTFFT
              exact ⟨rfl, closeR (TR := 130) (br := br) (b := b) (g := g) (a := a_) (c := c_) (ws := ws_) (pool := pool_) (L := DiskP 106 110 b d :: L) hok hws_ hpl_ h.to⟩
            · skip
              refine WL.val (run_pickF rfl) rfl rfl ?_
              refine WL.val run_move rfl rfl ?_
              refine WL.val run_move rfl rfl ?_
              refine WL.val run_move rfl rfl ?_
              refine WL.val (run_nilCheck rfl) rfl rfl ?_
              refine WL.val (run_fieldAddr 6 Try.underlying130 rfl Try.sizeOf59 rfl rfl) rfl rfl ?_
              refine WL.val (run_load1 Try.isAgg59 rfl (h.cellB rfl)) rfl rfl ?_
              refine WL.dec (run_gtr rfl rfl) rfl rfl (fun c95 => ?_) (fun c95 => ?_)
              · skip
                refine WL.val (run_pickF rfl) rfl rfl ?_
                refine WL.nil ?_
                refine W.condT rfl ?_
                refine W.exit ?_
                refine W.seq ?_
                refine W.region ?_
                refine WL.val run_move rfl rfl ?_
                refine WL.val run_move rfl rfl ?_
                refine WL.val run_move rfl rfl ?_
                refine WL.val run_assign rfl rfl ?_
                refine WL.val run_assign rfl rfl ?_
                refine WL.val run_assign rfl rfl ?_
                refine WL.val run_assign rfl rfl ?_
                refine WL.nil ?_
                refine W.ret ?_
                refine bodyQ.r4 (v1 := .slice _ _ _) (v2 := .int .u32 _) (v3 := .bool _) (v4 := .int .i64 _) Try.results88 rfl rfl rfl rfl ?_
                -- path LFTFFFT
                exact ⟨rfl, closeR (TR := 130) (br := br) (b := b) (g := g) (a := a_) (c := c_) (ws := ws_) (pool := pool_) (L := DiskP 106 110 b d :: L) hok hws_ hpl_ h.to⟩
              · skip
                exfalso
                subst hi
                have hp0 : (unpackR (readD d (posR g.at_ g.n g.place 0))).part = 0 := by omega
                have hn1 : (unpackR (readD d (posR g.at_ g.n g.place 0))).number = g.next := by omega
                rcases hgone with hh | hh | hh | hh | hh
                · exact hh hu0
                · exact hh hn1
                · exact hh hp0
                · omega
                · omega
      · skip
        refine WL.val run_move rfl rfl ?_
        refine WL.val (run_extract rfl rfl) rfl rfl ?_
        refine WL.val (run_extract rfl rfl) rfl rfl ?_
        refine WL.val (run_extract rfl rfl) rfl rfl ?_
        refine WL.val (run_extract rfl rfl) rfl rfl ?_
        refine WL.val (run_extract rfl rfl) rfl rfl ?_
        refine WL.val (run_extract rfl rfl) rfl rfl ?_
        refine WL.val run_assign rfl rfl ?_
        refine WL.val run_assign rfl rfl ?_
        refine WL.val run_assign rfl rfl ?_
        refine WL.val run_assign rfl rfl ?_
        refine WL.val run_assign rfl rfl ?_
        refine WL.val run_assign rfl rfl ?_
        refine WL.nil ?_
        refine W.seq ?_
        refine W.seq ?_
        refine W.region ?_
        refine WL.val run_move rfl rfl ?_
        refine WL.val (run_neqT rfl rfl (hu0)) rfl rfl ?_
        refine WL.val run_move rfl rfl ?_
        refine WL.skip rfl rfl ?_
        refine WL.skip rfl rfl ?_
        refine WL.skip rfl rfl ?_
        refine WL.skip rfl rfl ?_
        refine WL.val (run_pickT rfl) rfl rfl ?_
        refine WL.val run_move rfl rfl ?_
        refine WL.skip rfl rfl ?_
        refine WL.skip rfl rfl ?_
        refine WL.skip rfl rfl ?_
        refine WL.val (run_pickT rfl) rfl rfl ?_
        refine WL.val run_move rfl rfl ?_
        refine WL.skip rfl rfl ?_
        refine WL.skip rfl rfl ?_
        refine WL.skip rfl rfl ?_
        refine WL.val (run_pickT rfl) rfl rfl ?_
        refine WL.val run_move rfl rfl ?_
        refine WL.skip rfl rfl ?_
        refine WL.skip rfl rfl ?_
        refine WL.skip rfl rfl ?_
        refine WL.skip rfl rfl ?_
        refine WL.skip rfl rfl ?_
        refine WL.skip rfl rfl ?_
        refine WL.val (run_pickT rfl) rfl rfl ?_
        refine WL.nil ?_
        refine W.condT rfl ?_
        refine W.exit ?_
        refine W.seq ?_
        refine W.region ?_
        refine WL.val run_move rfl rfl ?_
        refine WL.val run_move rfl rfl ?_
        refine WL.val run_move rfl rfl ?_
        refine WL.val run_assign rfl rfl ?_
        refine WL.val run_assign rfl rfl ?_
        refine WL.val run_assign rfl rfl ?_
        refine WL.val run_assign rfl rfl ?_
        refine WL.nil ?_
        refine W.ret ?_
        refine bodyQ.r4 (v1 := .slice _ _ _) (v2 := .int .u32 _) (v3 := .bool _) (v4 := .int .i64 _) Try.results88 rfl rfl rfl rfl ?_
        -- path LFF
        exact ⟨rfl, closeR (TR := 130) (br := br) (b := b) (g := g) (a := a) (c := c) (ws := ws) (pool := pool) (L := DiskP 106 110 b d :: L) hok hws hpl h.to⟩

theorem scan_here {br b : Nat} {g : Rg} {d : Dk} {least l2 : Nat} {bb : List UInt8} (H : Here d g.at_ g.n g.place g.next l2 bb) (hle : least ≤ l2) (hlf : l2 ≤ g.life) (hb : bb.length ≤ 32768) (hro : g.used + needR bb.length ≤ g.n) (hs : stE d = 0) (hin : ((g.at_ + g.n : Nat) : Int) ≤ d.n) (h : On W0 (RingP 130 br b g :: DiskP 106 110 b d :: L) w) : Calls Try.prog 88 #[.pointer (some ⟨br, 0, none⟩), .int .u32 (least : Int)] w (Ret fun v w' => ∃ a c, v = .tuple #[.slice a bb.length c, .int .u32 (l2 : Int), .bool true, .int .i64 0] ∧ On W0 (OwnB (.slice a bb.length c) bb :: RingP 130 br b g :: DiskP 106 110 b d :: L) w') := by
  refine enter Try.func88 rfl Try.ntmps88 rfl ?_
  have ob_ := openR h
  obtain ⟨a, c, ws, pool, hok, hws, hpl, h⟩ := ob_
  have hlen : g.l.length ≤ 4096 := by have h1 := len_used g.l; have h2 := hok.sum; have h3 := hok.used; have h4 := hok.n4; omega
  have hfirst := hok.first; have hlife := hok.life; have hused := hok.used; have hn2 := hok.n2; have hn4 := hok.n4; have hat4 := hok.at4; have hpla := hok.place
  have hmx := maxLen_eq
  have hn0 : 0 < g.n := by omega
  have hnp := needR_pos bb.length
  have ob_ : ∃ N, N = needR bb.length := ⟨_, rfl⟩
  obtain ⟨N, hN⟩ := ob_
  have hnx : g.next < 256 ^ 8 := by show g.first + g.l.length < 18446744073709551616; omega
  have hl32 : l2 < 256 ^ 4 := by show l2 < 4294967296; omega
  have h := closeR (TR := 130) (br := br) (b := b) (g := g) (a := a) (c := c) (ws := ws) (pool := pool) (L := DiskP 106 110 b d :: L) hok hws hpl h
  clear hws hpl
  refine W.seq ?_
  refine W.region ?_
  refine WL.val run_assign rfl rfl ?_
  refine WL.val run_assign rfl rfl ?_
  refine WL.val run_assign rfl rfl ?_
  refine WL.val run_assign rfl rfl ?_
  refine WL.nil ?_
  refine W.scope ?_
  refine W.seq ?_
  refine W.region ?_
  refine WL.val run_assign rfl rfl ?_
  refine WL.nil ?_
  refine W.seq ?_
  refine W.label ?_
  refine W.seq ?_
  refine W.seq ?_
  refine W.region ?_
  refine WL.val run_assign rfl rfl ?_
  refine WL.nil ?_
  refine W.block ?_
  refine W.loop (fun (i : Nat) env w => i ≤ N ∧ ∃ (j : Env) (ao : Option Addr) (co : Nat), env = mkE j [(0, .pointer (some ⟨br, 0, none⟩)), (1, .int .u32 (least : Int)), (4, .slice ao (bb.take (i * 480)).length co), (5, .int .u32 ((if i = 0 then 0 else l2 : Nat) : Int)), (6, .bool (decide (i = N))), (7, .int .i64 0), (8, .int .i64 ((if i = 0 then 1 else N : Nat) : Int)), (9, .int .i64 (i : Nat))] ∧ On W0 (OwnB (.slice ao (bb.take (i * 480)).length co) (bb.take (i * 480)) :: RingP 130 br b g :: DiskP 106 110 b d :: L) w) (fun i => N - i) (0) ?_ ?_
  · exact ⟨Nat.zero_le _, _, none, 0, mkE_of ⟨rfl, rfl, (by rw [Nat.zero_mul]; rfl), rfl, (by rw [decide_eq_false (by omega)]; rfl), rfl, rfl, rfl, trivial⟩, (by rw [Nat.zero_mul]; exact h.ownEmpty 1 none)⟩
  · rintro i env w ⟨hi, j, ao, co, rfl, h⟩
    have hpos := posR_in (at_ := g.at_) (place := g.place) (i := i) hn0
    have ob_ : ∃ Wt : Nat, Wt = (if i = 0 then 1 else N) := ⟨_, rfl⟩
    obtain ⟨Wt, hWt⟩ := ob_
    have ob_ : ∃ Lf : Nat, Lf = (if i = 0 then 0 else l2) := ⟨_, rfl⟩
    obtain ⟨Lf, hLf⟩ := ob_
    rw [← hWt, ← hLf]
    have hW1 : i < N → i < Wt := fun hh => by rw [hWt]; split <;> omega
    have hW2 : i = N → Wt = N := fun hh => by rw [hWt, if_neg (by omega)]
    refine W.seq ?_
    refine W.seq ?_
    refine W.region ?_
    refine WL.val run_move rfl rfl ?_
    refine WL.val run_move rfl rfl ?_
    refine WL.val (run_lss rfl rfl) rfl rfl ?_
    refine WL.nil ?_
    refine W.condIf rfl (fun c8 => ?_) (fun c8 => ?_)
    · skip
      have hi2 : i < N := by
        have ob_ := Nat.lt_or_ge i N
        rcases ob_ with hh | hh
        · exact hh
        · have := hW2 (by omega); omega
      refine W.skip ?_
      refine W.seq ?_
      refine W.block ?_
      refine W.seq ?_
      refine W.seq ?_
      have ob2_ := openR (h.fetch (RingP 130 br b g))
      obtain ⟨a, c, ws, pool, _, hws, hpl, h⟩ := ob2_
      refine W.draw Try.follows h (fun w h => ?_)
      refine WT.pure 0 rfl (by kernel_rfl) (fun w' => run_move) rfl rfl ?_
      refine WT.pure 1 rfl (by kernel_rfl) (fun w' => (run_nilCheck rfl)) rfl rfl ?_
      refine WT.pure 2 rfl (by kernel_rfl) (fun w' => (run_fieldAddr 5 Try.underlying130 rfl Try.sizeOf3 rfl rfl)) rfl rfl ?_
      refine WT.load1 3 rfl (by kernel_rfl) Try.isAgg3 rfl (h.cellB rfl) rfl rfl ?_
      refine WT.pure 4 rfl (by kernel_rfl) (fun w' => run_move) rfl rfl ?_
      refine WT.pure 5 rfl (by kernel_rfl) (fun w' => (run_addN (m := g.used) (n := i) rfl rfl (by omega))) rfl rfl ?_
      refine WT.pure 6 rfl (by kernel_rfl) (fun w' => run_move) rfl rfl ?_
      refine WT.pure 7 rfl (by kernel_rfl) (fun w' => (run_nilCheck rfl)) rfl rfl ?_
      refine WT.pure 8 rfl (by kernel_rfl) (fun w' => (run_fieldAddr 2 Try.underlying130 rfl Try.sizeOf3 rfl rfl)) rfl rfl ?_
      refine WT.load1 9 rfl (by kernel_rfl) Try.isAgg3 rfl (h.cellB rfl) rfl rfl ?_
      refine WT.pure 10 rfl (by kernel_rfl) (fun w' => run_geqF rfl rfl (by omega)) rfl rfl ?_
      refine WT.done (by kernel_rfl) ?_
      refine W.condF rfl ?_
      refine W.skip ?_
      refine W.seq ?_
      refine W.draw Try.follows h (fun w h => ?_)
      refine WT.pure 0 rfl (by kernel_rfl) (fun w' => run_move) rfl rfl ?_
      refine WT.pure 1 rfl (by kernel_rfl) (fun w' => (run_nilCheck rfl)) rfl rfl ?_
      refine WT.pure 2 rfl (by kernel_rfl) (fun w' => (run_fieldAddr 0 Try.underlying130 rfl Try.sizeOf26 rfl rfl)) rfl rfl ?_
      refine WT.load1 3 rfl (by kernel_rfl) Try.isAgg26 rfl (h.cellB rfl) rfl rfl ?_
      refine WT.pure 4 rfl (by kernel_rfl) (fun w' => run_move) rfl rfl ?_
      refine WT.pure 5 rfl (by kernel_rfl) (fun w' => (run_nilCheck rfl)) rfl rfl ?_
      refine WT.pure 6 rfl (by kernel_rfl) (fun w' => (run_fieldAddr 1 Try.underlying130 rfl Try.sizeOf3 rfl rfl)) rfl rfl ?_
      refine WT.load1 7 rfl (by kernel_rfl) Try.isAgg3 rfl (h.cellB rfl) rfl rfl ?_
      refine WT.pure 8 rfl (by kernel_rfl) (fun w' => run_move) rfl rfl ?_
      refine WT.pure 9 rfl (by kernel_rfl) (fun w' => (run_nilCheck rfl)) rfl rfl ?_
      refine WT.pure 10 rfl (by kernel_rfl) (fun w' => (run_fieldAddr 4 Try.underlying130 rfl Try.sizeOf3 rfl rfl)) rfl rfl ?_
      refine WT.load1 11 rfl (by kernel_rfl) Try.isAgg3 rfl (h.cellB rfl) rfl rfl ?_
      refine WT.pure 12 rfl (by kernel_rfl) (fun w' => run_move) rfl rfl ?_
      refine WT.pure 13 rfl (by kernel_rfl) (fun w' => (run_addN (m := g.place) (n := i) rfl rfl (by omega))) rfl rfl ?_
      refine WT.pure 14 rfl (by kernel_rfl) (fun w' => run_move) rfl rfl ?_
      refine WT.pure 15 rfl (by kernel_rfl) (fun w' => (run_nilCheck rfl)) rfl rfl ?_
      refine WT.pure 16 rfl (by kernel_rfl) (fun w' => (run_fieldAddr 2 Try.underlying130 rfl Try.sizeOf3 rfl rfl)) rfl rfl ?_
      refine WT.load1 17 rfl (by kernel_rfl) Try.isAgg3 rfl (h.cellB rfl) rfl rfl ?_
      refine WT.pure 18 rfl (by kernel_rfl) (fun w' => (run_remN (m := g.place + i) (n := g.n) rfl rfl (by omega))) rfl rfl ?_
      refine WT.pure 19 rfl (by kernel_rfl) (fun w' => (run_addN (m := g.at_) (n := (g.place + i) % g.n) rfl rfl (by have := Nat.mod_lt (g.place + i) hn0; omega))) rfl rfl ?_
      refine WT.eff 20 [false, false, false, false] rfl (by kernel_rfl) (by kernel_rfl) (eff_call Try.call21 (read_live (k := (posR g.at_ g.n g.place i)) hs ⟨hpos.1, by omega⟩ (h.fetch (DiskP 106 110 b d)))) rfl rfl ?_
      rintro _ w ⟨bq, rfl, h⟩
      have hrd : (readD d (posR g.at_ g.n g.place i)) = (secR g.next l2 i (needR bb.length) (partR bb i)) := H i (by omega)
      rw [hrd] at h
      have hple := partR_le bb i
      have hul := unpack_secR (number := g.next) (life := l2) (part := i) (parts := needR bb.length) (b := partR bb i) hnx hl32 (by omega) (by omega) hple
      refine ⟨trivial, ?_⟩
      refine WT.pure 21 rfl (by kernel_rfl) (fun w' => run_move) rfl rfl ?_
      refine WT.pure 22 rfl (by kernel_rfl) (fun w' => (run_extract rfl rfl)) rfl rfl ?_
      refine WT.pure 23 rfl (by kernel_rfl) (fun w' => (run_extract rfl rfl)) rfl rfl ?_
      refine WT.pure 24 rfl (by kernel_rfl) (fun w' => run_assign) rfl rfl ?_
      refine WT.pure 25 rfl (by kernel_rfl) (fun w' => run_assign) rfl rfl ?_
      refine WT.done (by kernel_rfl) ?_
      refine W.seq ?_
      refine W.seq ?_
      refine W.region ?_
      refine WL.val run_move rfl rfl ?_
      refine WL.val (run_neqF rfl rfl (rfl)) rfl rfl ?_
      refine WL.nil ?_
      refine W.condF rfl ?_
      refine W.skip ?_
      refine W.seq ?_
      refine W.region ?_
      refine WL.val run_move rfl rfl ?_
      refine WL.eff (eff_call Try.call112 (runpkN_ok (s := (secR g.next l2 i (needR bb.length) (partR bb i))) (secR_length hple) (by decide) h (Gives.ownO (v := .slice (some ⟨bq, 0, none⟩) 512 512)))) rfl rfl ?_
      rintro _ w hg
      rw [hul] at hg
      rcases hg with ⟨_, au, cu, rfl, h⟩ | ⟨hu0, _, _⟩
      rotate_left
      · exact absurd rfl hu0
      refine WL.val run_move rfl rfl ?_
      refine WL.val (run_extract rfl rfl) rfl rfl ?_
      refine WL.val (run_extract rfl rfl) rfl rfl ?_
      refine WL.val (run_extract rfl rfl) rfl rfl ?_
      refine WL.val (run_extract rfl rfl) rfl rfl ?_
      refine WL.val (run_extract rfl rfl) rfl rfl ?_
      refine WL.val (run_extract rfl rfl) rfl rfl ?_
      refine WL.val run_assign rfl rfl ?_
      refine WL.val run_assign rfl rfl ?_
      refine WL.val run_assign rfl rfl ?_
      refine WL.val run_assign rfl rfl ?_
      refine WL.val run_assign rfl rfl ?_
      refine WL.val run_assign rfl rfl ?_
      refine WL.nil ?_
      refine W.seq ?_
      refine W.seq ?_
      refine W.region ?_
      refine WL.val run_move rfl rfl ?_
      refine WL.val (run_neqF rfl rfl (rfl)) rfl rfl ?_
      refine WL.val run_move rfl rfl ?_
      refine WL.val run_move rfl rfl ?_
      refine WL.val run_move rfl rfl ?_
      refine WL.eff (eff_call Try.call87 (rnext_ok (br := br) (b := b) (g := g) (closeR (a := a) (c := c) (ws := ws) (pool := pool) (L := OwnB (.slice au (partR bb i).length cu) (partR bb i) :: OwnB (.slice ao (bb.take (i * 480)).length co) (bb.take (i * 480)) :: DiskP 106 110 b d :: L) hok hws hpl h.to))) rfl rfl ?_
      rintro _ w ⟨rfl, h⟩
      have ob_ := openR h
      obtain ⟨a, c, ws, pool, _, hws, hpl, h⟩ := ob_
      refine WL.val (run_neqF rfl rfl (rfl)) rfl rfl ?_
      refine WL.val (run_pickF rfl) rfl rfl ?_
      refine WL.val run_move rfl rfl ?_
      refine WL.val run_move rfl rfl ?_
      refine WL.val run_move rfl rfl ?_
      refine WL.val (run_neqF rfl rfl (rfl)) rfl rfl ?_
      refine WL.val (run_pickF rfl) rfl rfl ?_
      refine WL.val run_move rfl rfl ?_
      refine WL.val run_move rfl rfl ?_
      refine WL.val run_move rfl rfl ?_
      refine WL.val (run_lssF rfl rfl (by show ¬ ((l2 : Int) < (least : Int)); omega)) rfl rfl ?_
      refine WL.val (run_pickF rfl) rfl rfl ?_
      refine WL.val run_move rfl rfl ?_
      refine WL.val run_move rfl rfl ?_
      refine WL.val run_move rfl rfl ?_
      refine WL.val (run_nilCheck rfl) rfl rfl ?_
      refine WL.val (run_fieldAddr 6 Try.underlying130 rfl Try.sizeOf59 rfl rfl) rfl rfl ?_
      refine WL.val (run_load1 Try.isAgg59 rfl (h.cellB rfl)) rfl rfl ?_
      refine WL.val (run_gtrF rfl rfl (by show ¬ ((g.life : Int) < (l2 : Int)); omega)) rfl rfl ?_
      refine WL.val (run_pickF rfl) rfl rfl ?_
      refine WL.nil ?_
      refine W.condF rfl ?_
      refine W.skip ?_
      refine W.cut (fun env w => ∃ (j : Env), env = mkE j [(0, .pointer (some ⟨br, 0, none⟩)), (1, .int .u32 (least : Int)), (4, .slice ao (bb.take (i * 480)).length co), (5, .int .u32 (l2 : Int)), (7, .int .i64 0), (8, .int .i64 (N : Int)), (9, .int .i64 (i : Nat)), (13, .int .u32 (l2 : Int)), (14, .int .i64 (i : Nat)), (15, .int .i64 (N : Int)), (16, .slice au (partR bb i).length cu)] ∧ On W0 (OwnB (.slice au (partR bb i).length cu) (partR bb i) :: OwnB (.slice ao (bb.take (i * 480)).length co) (bb.take (i * 480)) :: blk br [.pointer (some ⟨b, 0, none⟩), .int .i64 (g.at_ : Int), .int .i64 (g.n : Int), .int .u64 (g.first : Int), .int .i64 (g.place : Int), .int .i64 (g.used : Int), .int .u32 (g.life : Int), .slice a g.l.length c] 130 :: Own 2 (.slice a g.l.length c) g.l.length (ws.flatMap RX.row) :: Pool pool :: DiskP 106 110 b d :: L) w) ?_ ?_
      · skip
        refine W.seq ?_
        refine W.region ?_
        refine WL.val run_move rfl rfl ?_
        refine WL.val (run_eql rfl rfl) rfl rfl ?_
        refine WL.nil ?_
        refine W.condIf rfl (fun c29 => ?_) (fun c29 => ?_)
        · skip
          refine W.region ?_
          refine WL.val run_move rfl rfl ?_
          refine WL.val run_move rfl rfl ?_
          refine WL.val run_assign rfl rfl ?_
          refine WL.val run_assign rfl rfl ?_
          refine WL.nil ?_
          -- to the cut, path LTT
          exact ⟨_, mkE_of ⟨rfl, rfl, rfl, rfl, rfl, (by rw [hN]; rfl), rfl, rfl, rfl, (by rw [hN]; rfl), rfl, trivial⟩, h.to⟩
        · skip
          refine W.skip ?_
          -- to the cut, path LTF
          have hi0 : i ≠ 0 := by omega
          have hW : Wt = N := by rw [hWt, if_neg hi0]
          have hL : Lf = l2 := by rw [hLf, if_neg hi0]
          exact ⟨_, mkE_of ⟨rfl, rfl, rfl, (by rw [← hL]; rfl), rfl, (by rw [← hW]; rfl), rfl, rfl, rfl, (by rw [hN]; rfl), rfl, trivial⟩, h.to⟩
      · rintro env w ⟨j, rfl, h⟩
        refine W.seq ?_
        have hpf := partR_full (b := bb) (i := i)
        have hpe := partR_end (b := bb) (i := i)
        have hle3 := partR_le bb i
        refine W.region ?_
        refine WL.val run_move rfl rfl ?_
        refine WL.val run_move rfl rfl ?_
        refine WL.val (run_sub rfl rfl (by omega) (by omega)) rfl rfl ?_
        refine WL.dec (run_lss rfl rfl) rfl rfl (fun c104 => ?_) (fun c104 => ?_)
        · skip
          refine WL.val run_move rfl rfl ?_
          refine WL.val run_move rfl rfl ?_
          refine WL.val (run_lenSlice Try.underlying22 rfl) rfl rfl ?_
          refine WL.val (run_eqlT rfl rfl (by have := hpf (by omega); omega)) rfl rfl ?_
          refine WL.val (run_pickT rfl) rfl rfl ?_
          refine WL.val run_move rfl rfl ?_
          refine WL.skip rfl rfl ?_
          refine WL.skip rfl rfl ?_
          refine WL.skip rfl rfl ?_
          refine WL.skip rfl rfl ?_
          refine WL.skip rfl rfl ?_
          refine WL.skip rfl rfl ?_
          refine WL.skip rfl rfl ?_
          refine WL.skip rfl rfl ?_
          refine WL.skip rfl rfl ?_
          refine WL.skip rfl rfl ?_
          refine WL.skip rfl rfl ?_
          refine WL.skip rfl rfl ?_
          refine WL.skip rfl rfl ?_
          refine WL.val (run_pickT rfl) rfl rfl ?_
          refine WL.val run_assign rfl rfl ?_
          refine WL.nil ?_
          refine W.seq ?_
          refine W.seq ?_
          refine W.region ?_
          refine WL.val run_move rfl rfl ?_
          refine WL.val run_move rfl rfl ?_
          refine WL.val (run_neqF rfl rfl (rfl)) rfl rfl ?_
          refine WL.val run_move rfl rfl ?_
          refine WL.val run_move rfl rfl ?_
          refine WL.val run_move rfl rfl ?_
          refine WL.val (run_neqF rfl rfl (rfl)) rfl rfl ?_
          refine WL.val (run_pickF rfl) rfl rfl ?_
          refine WL.val run_move rfl rfl ?_
          refine WL.val run_move rfl rfl ?_
          refine WL.val (run_not rfl) rfl rfl ?_
          refine WL.val (run_pickF rfl) rfl rfl ?_
          refine WL.nil ?_
          refine W.condF rfl ?_
          refine W.skip ?_
          refine W.seq ?_
          refine W.region ?_
          refine WL.val run_move rfl rfl ?_
          refine WL.val run_move rfl rfl ?_
          refine WL.eff (eff_app (bytes := 1) h rfl rfl (h.cellsO (v := .slice au (partR bb i).length cu)) Try.underlying22 rfl rfl rfl rfl rfl (by have := List.length_take_le (i * 480) bb; have := List.length_take (i := i * 480) (l := bb); omega) (by have := List.length_take (i := i * 480) (l := bb); omega) bytes_one) rfl rfl ?_
          rintro _ w ⟨a139, c139, rfl, h⟩
          refine WL.val run_assign rfl rfl ?_
          refine WL.nil ?_
          refine W.region ?_
          refine WL.val run_move rfl rfl ?_
          refine WL.val run_move rfl rfl ?_
          refine WL.val (run_sub rfl rfl (by omega) (by omega)) rfl rfl ?_
          refine WL.val (run_eql rfl rfl) rfl rfl ?_
          refine WL.val run_assign rfl rfl ?_
          refine WL.nil ?_
          refine W.region ?_
          refine WL.val run_move rfl rfl ?_
          refine WL.val (run_add rfl rfl (by omega) (by omega)) rfl rfl ?_
          refine WL.val run_assign rfl rfl ?_
          refine WL.nil ?_
          -- round, path LTT
          have e1 := parts_succ bb i
          have hlen1 : ((bb.take (i * 480))).length + (partR bb i).length = ((bb.take ((i + 1) * 480))).length := by rw [← List.length_append, e1]
          have e2 : bytesV ((bb.take (i * 480))) ++ bytesV (partR bb i) = bytesV ((bb.take ((i + 1) * 480))) := by rw [← e1]; exact (List.map_append ..).symm
          rw [e2, hlen1] at h
          have e5 : (l2 : Int) = ((if i + 1 = 0 then 0 else l2 : Nat) : Int) := by rw [if_neg (by omega)]
          have e8 : (N : Int) = ((if i + 1 = 0 then 1 else N : Nat) : Int) := by rw [if_neg (by omega)]
          have e6 : decide ((i : Int) = (N : Int) - 1) = decide (i + 1 = N) := by congr 1; exact propext ⟨fun hh => by omega, fun hh => by omega⟩
          refine ⟨i + 1, ⟨by omega, _, a139, c139, mkE_of ⟨rfl, rfl, congrArg (fun q => Value.slice a139 q c139) hlen1, congrArg (Value.int .u32) e5, congrArg Value.bool e6, rfl, congrArg (Value.int .i64) e8, rfl, trivial⟩, ?_⟩, by show N - (i + 1) < N - i; omega⟩
          exact (closeR (TR := 130) (br := br) (b := b) (g := g) (a := a) (c := c) (ws := ws) (pool := pool) (L := OwnB (.slice a139 ((bb.take ((i + 1) * 480))).length c139) ((bb.take ((i + 1) * 480))) :: DiskP 106 110 b d :: L) hok hws hpl h.to).to
        · skip
          refine WL.val run_move rfl rfl ?_
          refine WL.skip rfl rfl ?_
          refine WL.skip rfl rfl ?_
          refine WL.skip rfl rfl ?_
          refine WL.val (run_pickF rfl) rfl rfl ?_
          refine WL.val run_move rfl rfl ?_
          refine WL.val run_move rfl rfl ?_
          refine WL.val run_move rfl rfl ?_
          refine WL.val (run_sub rfl rfl (by omega) (by omega)) rfl rfl ?_
          refine WL.val (run_eqlT rfl rfl (by omega)) rfl rfl ?_
          refine WL.val run_move rfl rfl ?_
          refine WL.val run_move rfl rfl ?_
          refine WL.val (run_lenSlice Try.underlying22 rfl) rfl rfl ?_
          refine WL.dec (run_gtr rfl rfl) rfl rfl (fun c118 => ?_) (fun c118 => ?_)
          · skip
            refine WL.val run_move rfl rfl ?_
            refine WL.skip rfl rfl ?_
            refine WL.skip rfl rfl ?_
            refine WL.val (run_pickT rfl) rfl rfl ?_
            refine WL.val (run_pickT rfl) rfl rfl ?_
            refine WL.val (run_pickF rfl) rfl rfl ?_
            refine WL.val run_assign rfl rfl ?_
            refine WL.nil ?_
            refine W.seq ?_
            refine W.seq ?_
            refine W.region ?_
            refine WL.val run_move rfl rfl ?_
            refine WL.val run_move rfl rfl ?_
            refine WL.val (run_neqF rfl rfl (rfl)) rfl rfl ?_
            refine WL.val run_move rfl rfl ?_
            refine WL.val run_move rfl rfl ?_
            refine WL.val run_move rfl rfl ?_
            refine WL.val (run_neqF rfl rfl (rfl)) rfl rfl ?_
            refine WL.val (run_pickF rfl) rfl rfl ?_
            refine WL.val run_move rfl rfl ?_
            refine WL.val run_move rfl rfl ?_
            refine WL.val (run_not rfl) rfl rfl ?_
            refine WL.val (run_pickF rfl) rfl rfl ?_
            refine WL.nil ?_
            refine W.condF rfl ?_
            refine W.skip ?_
            refine W.seq ?_
            refine W.region ?_
            refine WL.val run_move rfl rfl ?_
            refine WL.val run_move rfl rfl ?_
            refine WL.eff (eff_app (bytes := 1) h rfl rfl (h.cellsO (v := .slice au (partR bb i).length cu)) Try.underlying22 rfl rfl rfl rfl rfl (by have := List.length_take_le (i * 480) bb; have := List.length_take (i := i * 480) (l := bb); omega) (by have := List.length_take (i := i * 480) (l := bb); omega) bytes_one) rfl rfl ?_
            rintro _ w ⟨a139, c139, rfl, h⟩
            refine WL.val run_assign rfl rfl ?_
            refine WL.nil ?_
            refine W.region ?_
            refine WL.val run_move rfl rfl ?_
            refine WL.val run_move rfl rfl ?_
            refine WL.val (run_sub rfl rfl (by omega) (by omega)) rfl rfl ?_
            refine WL.val (run_eql rfl rfl) rfl rfl ?_
            refine WL.val run_assign rfl rfl ?_
            refine WL.nil ?_
            refine W.region ?_
            refine WL.val run_move rfl rfl ?_
            refine WL.val (run_add rfl rfl (by omega) (by omega)) rfl rfl ?_
            refine WL.val run_assign rfl rfl ?_
            refine WL.nil ?_
            -- round, path LTFT
            have e1 := parts_succ bb i
            have hlen1 : ((bb.take (i * 480))).length + (partR bb i).length = ((bb.take ((i + 1) * 480))).length := by rw [← List.length_append, e1]
            have e2 : bytesV ((bb.take (i * 480))) ++ bytesV (partR bb i) = bytesV ((bb.take ((i + 1) * 480))) := by rw [← e1]; exact (List.map_append ..).symm
            rw [e2, hlen1] at h
            have e5 : (l2 : Int) = ((if i + 1 = 0 then 0 else l2 : Nat) : Int) := by rw [if_neg (by omega)]
            have e8 : (N : Int) = ((if i + 1 = 0 then 1 else N : Nat) : Int) := by rw [if_neg (by omega)]
            have e6 : decide ((i : Int) = (N : Int) - 1) = decide (i + 1 = N) := by congr 1; exact propext ⟨fun hh => by omega, fun hh => by omega⟩
            refine ⟨i + 1, ⟨by omega, _, a139, c139, mkE_of ⟨rfl, rfl, congrArg (fun q => Value.slice a139 q c139) hlen1, congrArg (Value.int .u32) e5, congrArg Value.bool e6, rfl, congrArg (Value.int .i64) e8, rfl, trivial⟩, ?_⟩, by show N - (i + 1) < N - i; omega⟩
            exact (closeR (TR := 130) (br := br) (b := b) (g := g) (a := a) (c := c) (ws := ws) (pool := pool) (L := OwnB (.slice a139 ((bb.take ((i + 1) * 480))).length c139) ((bb.take ((i + 1) * 480))) :: DiskP 106 110 b d :: L) hok hws hpl h.to).to
          · skip
            refine WL.val run_move rfl rfl ?_
            refine WL.val run_move rfl rfl ?_
            refine WL.val (run_eqlT rfl rfl (by rcases hpe (by omega) with hh | hh <;> omega)) rfl rfl ?_
            refine WL.val (run_pickF rfl) rfl rfl ?_
            refine WL.val (run_pickT rfl) rfl rfl ?_
            refine WL.val (run_pickF rfl) rfl rfl ?_
            refine WL.val run_assign rfl rfl ?_
            refine WL.nil ?_
            refine W.seq ?_
            refine W.seq ?_
            refine W.region ?_
            refine WL.val run_move rfl rfl ?_
            refine WL.val run_move rfl rfl ?_
            refine WL.val (run_neqF rfl rfl (rfl)) rfl rfl ?_
            refine WL.val run_move rfl rfl ?_
            refine WL.val run_move rfl rfl ?_
            refine WL.val run_move rfl rfl ?_
            refine WL.val (run_neqF rfl rfl (rfl)) rfl rfl ?_
            refine WL.val (run_pickF rfl) rfl rfl ?_
            refine WL.val run_move rfl rfl ?_
            refine WL.val run_move rfl rfl ?_
            refine WL.val (run_not rfl) rfl rfl ?_
            refine WL.val (run_pickF rfl) rfl rfl ?_
            refine WL.nil ?_
            refine W.condF rfl ?_
            refine W.skip ?_
            refine W.seq ?_
            refine W.region ?_
            refine WL.val run_move rfl rfl ?_
            refine WL.val run_move rfl rfl ?_
            refine WL.eff (eff_app (bytes := 1) h rfl rfl (h.cellsO (v := .slice au (partR bb i).length cu)) Try.underlying22 rfl rfl rfl rfl rfl (by have := List.length_take_le (i * 480) bb; have := List.length_take (i := i * 480) (l := bb); omega) (by have := List.length_take (i := i * 480) (l := bb); omega) bytes_one) rfl rfl ?_
            rintro _ w ⟨a139, c139, rfl, h⟩
            refine WL.val run_assign rfl rfl ?_
            refine WL.nil ?_
            refine W.region ?_
            refine WL.val run_move rfl rfl ?_
            refine WL.val run_move rfl rfl ?_
            refine WL.val (run_sub rfl rfl (by omega) (by omega)) rfl rfl ?_
            refine WL.val (run_eql rfl rfl) rfl rfl ?_
            refine WL.val run_assign rfl rfl ?_
            refine WL.nil ?_
            refine W.region ?_
            refine WL.val run_move rfl rfl ?_
            refine WL.val (run_add rfl rfl (by omega) (by omega)) rfl rfl ?_
            refine WL.val run_assign rfl rfl ?_
            refine WL.nil ?_
            -- round, path LTFF
            have e1 := parts_succ bb i
            have hlen1 : ((bb.take (i * 480))).length + (partR bb i).length = ((bb.take ((i + 1) * 480))).length := by rw [← List.length_append, e1]
            have e2 : bytesV ((bb.take (i * 480))) ++ bytesV (partR bb i) = bytesV ((bb.take ((i + 1) * 480))) := by rw [← e1]; exact (List.map_append ..).symm
            rw [e2, hlen1] at h
            have e5 : (l2 : Int) = ((if i + 1 = 0 then 0 else l2 : Nat) : Int) := by rw [if_neg (by omega)]
            have e8 : (N : Int) = ((if i + 1 = 0 then 1 else N : Nat) : Int) := by rw [if_neg (by omega)]
            have e6 : decide ((i : Int) = (N : Int) - 1) = decide (i + 1 = N) := by congr 1; exact propext ⟨fun hh => by omega, fun hh => by omega⟩
            refine ⟨i + 1, ⟨by omega, _, a139, c139, mkE_of ⟨rfl, rfl, congrArg (fun q => Value.slice a139 q c139) hlen1, congrArg (Value.int .u32) e5, congrArg Value.bool e6, rfl, congrArg (Value.int .i64) e8, rfl, trivial⟩, ?_⟩, by show N - (i + 1) < N - i; omega⟩
            exact (closeR (TR := 130) (br := br) (b := b) (g := g) (a := a) (c := c) (ws := ws) (pool := pool) (L := OwnB (.slice a139 ((bb.take ((i + 1) * 480))).length c139) ((bb.take ((i + 1) * 480))) :: DiskP 106 110 b d :: L) hok hws hpl h.to).to
    · skip
      have hi3 : i = N := by
        have ob_ := Nat.lt_or_ge i N
        rcases ob_ with hh | hh
        · have := hW1 hh; omega
        · omega
      refine W.exit ?_
      refine W.seq ?_
      refine W.region ?_
      refine WL.val run_move rfl rfl ?_
      refine WL.val run_move rfl rfl ?_
      refine WL.val run_move rfl rfl ?_
      refine WL.val run_assign rfl rfl ?_
      refine WL.val run_assign rfl rfl ?_
      refine WL.val run_assign rfl rfl ?_
      refine WL.val run_assign rfl rfl ?_
      refine WL.nil ?_
      refine W.ret ?_
      refine bodyQ.r4 (v1 := .slice _ _ _) (v2 := .int .u32 _) (v3 := .bool _) (v4 := .int .i64 _) Try.results88 rfl rfl rfl rfl ?_
      -- path LF
      subst hi3
      have e : bb.take (i * 480) = bb := by rw [hN]; exact parts_all bb
      have hLe : Lf = l2 := by rw [hLf, if_neg (by omega)]
      subst hLe
      rw [e] at h
      rw [e, decide_eq_true rfl]
      exact ⟨ao, co, rfl, h⟩

end Go.Proofs.Ytlahgihjjabgmaa
