/-
  Texts of a proof as one.
-/
import Derived.Test.YtjfmjbmkkpkppaaGreatDoorTopStreamsFQ4
import Derived.Test.YtjfmjbmkkpkppaaGreatDoorTopStreamsFQ2
import Derived.Test.YtjfmjbmkkpkppaaGreatDoorTopStreamsFQ3
set_option linter.unusedVariables false
set_option linter.unusedSimpArgs false
namespace Go.Proofs.YtjfmjbmkkpkppaaGreatDoor
open Go.Proofs.Tryz
open Go Go.Sl Go.Sl.BitM Go.Sl.SpM Go.Sl.RsM Go.Sl.ByM Go.Sl.UnM Go.Sl.TpM
set_option maxHeartbeats 1000000
set_option maxRecDepth 8000
variable {W0 w : World} {L F : List HProp}
def okCl2 (c : Cl) : Prop := okPm c.p ∧ c.sn < 4294967296 ∧ c.max < 4294967296 ∧ c.tag ≤ 1000 ∧ c.say.length ≤ 5000
theorem send_cases {c c' : Cl} (h : c.send = some c') : ∃ a, c.l = some a ∧ ((a.sent = true ∧ c' = c) ∨ (a.sent = false ∧ gapM c.sn c.max < 0 ∧ c' = c) ∨ (a.sent = false ∧ ¬ gapM c.sn c.max < 0 ∧ c' = { (c.tell (cmdPd c a)) with sn := (c.sn + 1) % 4294967296, l := some { a with sent := true } })) := by
 unfold Cl.send at h
 split at h
 · cases h
 rename_i a ha
 split at h
 · rename_i h1; cases h; exact ⟨a, ha, .inl ⟨h1, rfl⟩⟩
 rename_i h1
 split at h
 · rename_i h2; cases h; exact ⟨a, ha, .inr (.inl ⟨by simpa using h1, h2, rfl⟩)⟩
 rename_i h2; cases h; exact ⟨a, ha, .inr (.inr ⟨by simpa using h1, h2, rfl⟩)⟩
theorem _root_.Go.Sl.On.headEq {W0 w : World} {L : List HProp} {A B : HProp} (H : On W0 (A :: L) w) (e : A = B) : On W0 (B :: L) w := e ▸ H
theorem cellAll {b o n c : Nat} {xs : List Value} {w : World} (C : Cells 1 (.slice (some ⟨b, o, none⟩) n c) n xs (hp w)) (hn : 0 < n) : ∀ j u, xs[j]? = some u → w.cell? ⟨b, o + j, none⟩ = some u := fun j u hj => C.cell rfl hn hj
theorem cell16' {ba oa c : Nat} {bs X : List UInt8} {w : World} (C : Cells 1 (.slice (some ⟨ba, oa, none⟩) bs.length c) bs.length (bytesV bs) (hp w)) (h16 : bs.length = 16) (hX : bs = X) : ∀ j u, (bytesV X)[j]? = some u → w.cell? ⟨ba, oa + j, none⟩ = some u := by
 subst hX; exact cellAll C (by omega)
theorem okCmd {c : Cl} {a : Ak} (h1 : c.sn < 4294967296) (h2 : okAk a) : okPd (cmdPd c a) := by
 obtain ⟨g1, g2, g3, g4⟩ := h2
 refine ⟨⟨g1, rfl, (show (0 : Nat) < 128 by decide), (show (0 : Nat) < 256 by decide)⟩, ?_, ?_⟩
 · show (if c.p.imm then a.data else []).length ≤ 4096
   split
   · exact g2
   decide
 intro v hv
 simp only [nums, cmdPd, zPd, List.mem_cons, List.not_mem_nil, or_false] at hv
 rcases hv with rfl | rfl | rfl | rfl | rfl | rfl <;> first | exact g3 | exact h1 | decide
theorem clsend_ok {bc : Nat} {c c' : Cl} {x : ClA} (hok : okCl c) (hm : c.send = some c') (h : On W0 (blk bc (clCells c x) 179 :: RdrP 117 x.br c.r :: LsP x.al x.cl c.l :: OwnB (.slice x.aw c.say.length x.cs) c.say :: DnP x.ad x.cd c.done :: L) w) : Calls Tryz.prog 131 #[.pointer (some ⟨bc, 0, none⟩)] w (Ret fun v w' => ∃ x', okCl2 c' ∧ On W0 (blk bc (clCells c' x') 179 :: RdrP 117 x'.br c'.r :: LsP x'.al x'.cl c'.l :: OwnB (.slice x'.aw c'.say.length x'.cs) c'.say :: DnP x'.ad x'.cd c'.done :: L) w') := by
 refine enter func131 rfl ntmps131 rfl ?_
 have hmx := maxLen_eq
 obtain ⟨ok1, ok2, ok3, ok4, ok5⟩ := hok
 have hsc := send_cases hm
 obtain ⟨a, hl, hcs⟩ := hsc
 have e1 : nL c.l = 1 := by rw [hl]; rfl
 have h : On W0 (blk bc [.string ⟨c.p.name.toArray⟩, .int .i64 (c.p.maxd : Int), .int .i64 (c.p.burst : Int), .bool c.p.imm, .bool c.p.dig, .pointer (some ⟨x.br, 0, none⟩), .bool c.open_, .bool false, .bool c.asked, .bool false, .bool false, .int .u32 (c.sn : Int), .int .u32 (c.max : Int), .int .u32 (c.tag : Int), .slice x.al (nL c.l) x.cl, .slice x.aw c.say.length x.cs, .slice x.ad (nD c.done) x.cd] 179 :: _) w := h
 rw [e1] at h
 refine W.scope (W.seq (W.label (W.sr (WL.m (WL.n rfl (WL.f 14 underlying179 rfl sizeOf177 rfl rfl ?_))))))
 refine WL.l isAgg177 rfl (h.cellB rfl) (WL.v (run_lenSlice underlying177 rfl) (WL.m (WL.nil (W.block ?_))))
 refine W.loop (fun (k : Nat) env w => k ≤ 1 ∧ ∃ (j : Env) (cc : Cl) (xx : ClA), (k = 0 → cc = c) ∧ (k = 1 → cc = c') ∧ (k = 1 → nL cc.l = 1) ∧ cc.say.length ≤ 5000 - 4900 * (1 - k) ∧ okCl2 cc ∧ env = mkE j [(0, .pointer (some ⟨bc, 0, none⟩)), (9, .int .i64 1), (10, .int .i64 (k : Int))] ∧ On W0 (blk bc [.string ⟨cc.p.name.toArray⟩, .int .i64 (cc.p.maxd : Int), .int .i64 (cc.p.burst : Int), .bool cc.p.imm, .bool cc.p.dig, .pointer (some ⟨xx.br, 0, none⟩), .bool cc.open_, .bool false, .bool cc.asked, .bool false, .bool false, .int .u32 (cc.sn : Int), .int .u32 (cc.max : Int), .int .u32 (cc.tag : Int), .slice xx.al (1) xx.cl, .slice xx.aw cc.say.length xx.cs, .slice xx.ad (nD cc.done) xx.cd] 179 :: RdrP 117 xx.br cc.r :: LsP xx.al xx.cl cc.l :: OwnB (.slice xx.aw cc.say.length xx.cs) cc.say :: DnP xx.ad xx.cd cc.done :: L) w) (fun k => 1 - k) (0) ?_ ?_
 · exact ⟨by decide, _, c, x, fun _ => rfl, fun e => (by cases e), fun e => (by cases e), ok5, ⟨ok1, ok2, ok3, ok4, by omega⟩, mkE_of ⟨rfl, rfl, rfl, trivial⟩, h.to⟩
 clear h
 rintro k env w ⟨hk, j, cc, xx, hk0, hk1, hk2, hsay, hok2, rfl, h⟩
 refine W.sr (WL.v (run_lss rfl rfl) (WL.nil (W.seq ?_)))
 refine W.condIf rfl (fun c6 => ?_) (fun c6 => ?_)
 ·
  have e0 : k = 0 := by omega
  subst e0
  have hcc := (hk0 rfl).symm
  subst hcc
  have h := h.fetch (LsP xx.al xx.cl c.l)
  rw [hl] at h
  have hop_ := openLs h
  obtain ⟨y, hoka, h⟩ := hop_
  have had_ := (h.cellsO (v := .slice xx.al 1 xx.cl)).addr (by decide)
  obtain ⟨ba, oa, hal⟩ := had_
  rw [hal] at h
  have h16 : a.cdb.length = 16 := hoka.1
  have had_ := (h.cellsO (v := .slice y.ac a.cdb.length y.cc)).addr (by omega)
  obtain ⟨bk, okk, hak⟩ := had_
  obtain ⟨yac, ycc, yad, ycd, yah, ych⟩ := y
  dsimp only at hak
  subst hak
  have h : On W0 (Own 6 (.slice (some ⟨ba, oa, none⟩) 1 xx.cl) 1 (akCells a (⟨some ⟨bk, okk, none⟩, ycc, yad, ycd, yah, ych⟩ : AkA)) :: OwnB (.slice (some ⟨bk, okk, none⟩) a.cdb.length ycc) a.cdb :: OwnB (.slice yad a.data.length ycd) a.data :: OwnB (.slice yah a.hav.length ych) a.hav :: _) w := h
  obtain ⟨ok1, ok2, ok3, ok4, ok5⟩ := hok2
  have hokc : okPd (cmdPd c a) := okCmd ok2 hoka
  have hx_ := exists16 h16
  obtain ⟨x0, x1, x2, x3, x4, x5, x6, x7, x8, x9, xa, xb, xc, xd, xe, xf, hX⟩ := hx_
  have hel := encP_len hokc
  have hc16 : (cmdPd c a).cdb.length = 16 := h16
  refine W.skip (W.seq (W.block (W.sr (WL.m (WL.z ?_)))))
  refine W.sr (WL.m (WL.n rfl (WL.c 14 underlying179 rfl sizeOf177 rfl isAgg177 h rfl (WL.m (WL.v (run_indexAddr underlying177 sizeOf187 rfl rfl (by omega) (by omega)) ?_)))))
  refine WL.z (W.seq (W.block (W.sr (WL.m (WL.n rfl ?_)))))
  refine WL.f 4 underlying187 rfl sizeOf4 rfl rfl (WL.l isAgg4 rfl ((h.cellsO (v := .slice (some ⟨ba, oa, none⟩) 1 xx.cl)).elem (i := 0) (vs := akCells a (⟨some ⟨bk, okk, none⟩, ycc, yad, ycd, yah, ych⟩ : AkA)) (by decide) rfl 4 _ rfl) (WL.z ?_))
  refine W.condB rfl (fun c14 => ?_) (fun c14 => ?_)
  ·
   refine W.exit (W.region (WL.v (run_add rfl rfl (by omega) (by omega)) (WL.m (WL.nil ?_))))
   rcases hcs with ⟨q1, q2⟩ | ⟨q1, _⟩ | ⟨q1, _⟩
   · have q2 := q2.symm
     subst q2
     have h : On W0 (LsP (some ⟨ba, oa, none⟩) xx.cl (some a) :: _) w := closeLs (⟨some ⟨bk, okk, none⟩, ycc, yad, ycd, yah, ych⟩ : AkA) hoka (h.to (T := Own 6 (.slice (some ⟨ba, oa, none⟩) 1 xx.cl) 1 (akCells a (⟨some ⟨bk, okk, none⟩, ycc, yad, ycd, yah, ych⟩ : AkA)) :: OwnB (.slice (some ⟨bk, okk, none⟩) a.cdb.length ycc) a.cdb :: OwnB (.slice yad a.data.length ycd) a.data :: OwnB (.slice yah a.hav.length ych) a.hav :: blk bc [.string ⟨c.p.name.toArray⟩, .int .i64 (c.p.maxd : Int), .int .i64 (c.p.burst : Int), .bool c.p.imm, .bool c.p.dig, .pointer (some ⟨({ xx with al := some ⟨ba, oa, none⟩ } : ClA).br, 0, none⟩), .bool c.open_, .bool false, .bool c.asked, .bool false, .bool false, .int .u32 (c.sn : Int), .int .u32 (c.max : Int), .int .u32 (c.tag : Int), .slice ({ xx with al := some ⟨ba, oa, none⟩ } : ClA).al (1) ({ xx with al := some ⟨ba, oa, none⟩ } : ClA).cl, .slice ({ xx with al := some ⟨ba, oa, none⟩ } : ClA).aw c.say.length ({ xx with al := some ⟨ba, oa, none⟩ } : ClA).cs, .slice ({ xx with al := some ⟨ba, oa, none⟩ } : ClA).ad (nD c.done) ({ xx with al := some ⟨ba, oa, none⟩ } : ClA).cd] 179 :: RdrP 117 xx.br c.r :: OwnB (.slice xx.aw c.say.length xx.cs) c.say :: DnP xx.ad xx.cd c.done :: L))
     rw [← hl] at h
     exact ⟨1, ⟨Nat.le_refl _, _, c, ({ xx with al := some ⟨ba, oa, none⟩ } : ClA), fun e => (by cases e), fun _ => rfl, fun _ => e1, by omega, ⟨ok1, ok2, ok3, ok4, ok5⟩, mkE_of ⟨rfl, rfl, rfl, trivial⟩, h.to⟩, by decide⟩
   · rw [c14] at q1; cases q1
   rw [c14] at q1; cases q1
  refine W.seq ?_
  refine W.draw Tryz.follows h (fun w h => ?_)
  refine WT.m 0 rfl (WT.n 1 rfl rfl (WT.f 2 11 rfl underlying179 rfl sizeOf24 rfl rfl (WT.l 3 rfl isAgg24 rfl (h.cellB rfl) (WT.m 4 rfl (WT.n 5 rfl rfl (WT.f 6 12 rfl underlying179 rfl sizeOf24 rfl rfl (WT.l 7 rfl isAgg24 rfl (h.cellB rfl) ?_)))))))
  refine WT.e 8 [false, false] rfl (eff_call call99 (gap_ok ok2 ok3 h)) ?_
  rintro _ w ⟨g, hg, hgb, rfl, h⟩
  refine ⟨trivial, ?_⟩
  refine WT.p 9 rfl (fun w' => (run_lss rfl rfl)) (WT.a 10 rfl (WT.dn ?_))
  refine W.condIf rfl (fun c17 => ?_) (fun c17 => ?_)
  ·
   refine W.exit (bodyQ.fall (bodyQ.r0 results131 ?_))
   rcases hcs with ⟨q1, _⟩ | ⟨_, _, q2⟩ | ⟨_, q2, _⟩
   · rw [c14] at q1; cases q1
   · have q2 := q2.symm
     subst q2
     have h : On W0 (LsP (some ⟨ba, oa, none⟩) xx.cl (some a) :: _) w := closeLs (⟨some ⟨bk, okk, none⟩, ycc, yad, ycd, yah, ych⟩ : AkA) hoka (h.to (T := Own 6 (.slice (some ⟨ba, oa, none⟩) 1 xx.cl) 1 (akCells a (⟨some ⟨bk, okk, none⟩, ycc, yad, ycd, yah, ych⟩ : AkA)) :: OwnB (.slice (some ⟨bk, okk, none⟩) a.cdb.length ycc) a.cdb :: OwnB (.slice yad a.data.length ycd) a.data :: OwnB (.slice yah a.hav.length ych) a.hav :: blk bc [.string ⟨c.p.name.toArray⟩, .int .i64 (c.p.maxd : Int), .int .i64 (c.p.burst : Int), .bool c.p.imm, .bool c.p.dig, .pointer (some ⟨({ xx with al := some ⟨ba, oa, none⟩ } : ClA).br, 0, none⟩), .bool c.open_, .bool false, .bool c.asked, .bool false, .bool false, .int .u32 (c.sn : Int), .int .u32 (c.max : Int), .int .u32 (c.tag : Int), .slice ({ xx with al := some ⟨ba, oa, none⟩ } : ClA).al (1) ({ xx with al := some ⟨ba, oa, none⟩ } : ClA).cl, .slice ({ xx with al := some ⟨ba, oa, none⟩ } : ClA).aw c.say.length ({ xx with al := some ⟨ba, oa, none⟩ } : ClA).cs, .slice ({ xx with al := some ⟨ba, oa, none⟩ } : ClA).ad (nD c.done) ({ xx with al := some ⟨ba, oa, none⟩ } : ClA).cd] 179 :: RdrP 117 xx.br c.r :: OwnB (.slice xx.aw c.say.length xx.cs) c.say :: DnP xx.ad xx.cd c.done :: L))
     rw [← hl] at h
     exact ⟨({ xx with al := some ⟨ba, oa, none⟩ } : ClA), ⟨ok1, ok2, ok3, ok4, ok5⟩, by unfold clCells; rw [e1]; exact h.to⟩
   exact (q2 (by rw [← show g = gapM c.sn c.max from hg]; exact c17)).elim
  refine W.skip (W.seq ?_)
  refine W.draw Tryz.follows h (fun w h => ?_)
  refine WT.m 0 rfl (WT.n 1 rfl rfl (WT.f 2 0 rfl underlying187 rfl sizeOf24 rfl rfl (WT.l 3 rfl isAgg24 rfl ((h.cellsO (v := .slice (some ⟨ba, oa, none⟩) 1 xx.cl)).elem (i := 0) (vs := akCells a (⟨some ⟨bk, okk, none⟩, ycc, yad, ycd, yah, ych⟩ : AkA)) (by decide) rfl 0 _ rfl) (WT.m 4 rfl (WT.n 5 rfl rfl (WT.f 6 11 rfl underlying179 rfl sizeOf24 rfl rfl (WT.l 7 rfl isAgg24 rfl (h.cellB rfl) ?_)))))))
  refine WT.m 8 rfl (WT.n 9 rfl rfl (WT.f 10 1 rfl underlying187 rfl sizeOf26 rfl rfl (WT.l 11 rfl isAgg26 rfl ((h.cellsO (v := .slice (some ⟨ba, oa, none⟩) 1 xx.cl)).elem (i := 0) (vs := akCells a (⟨some ⟨bk, okk, none⟩, ycc, yad, ycd, yah, ych⟩ : AkA)) (by decide) rfl 1 _ rfl) (WT.p 12 rfl (fun w' => (run_toArr underlying34 rfl (by omega))) (WT.loadN 13 rfl (by kernel_rfl) isAgg34 sizeOf34 rfl rfl (cell16' (X := [x0, x1, x2, x3, x4, x5, x6, x7, x8, x9, xa, xb, xc, xd, xe, xf]) (h.cellsO (v := .slice (some ⟨bk, okk, none⟩) a.cdb.length ycc)) h16 hX) rfl rfl ?_)))))
  refine WT.p 14 rfl (fun w' => (run_buildS (pl := qp2) (out := qv1) underlying36 zeroValue36 (fun w => by kernel_rfl) rfl (⟨⟨_, _, rfl, rfl, by decide⟩, ⟨⟨_, _, rfl, rfl, by decide⟩, ⟨⟨_, _, rfl, rfl, by decide⟩, ⟨⟨_, _, rfl, rfl, by decide⟩, ⟨⟨_, _, rfl, rfl, by decide⟩, trivial⟩⟩⟩⟩⟩) rfl)) ?_
  refine WT.e 15 [true, true, true, true] rfl (eff_alloc h zeroValue36 rfl) ?_
  rintro _ w ⟨b4, rfl, h⟩
  refine ⟨⟨(cell16' (X := [x0, x1, x2, x3, x4, x5, x6, x7, x8, x9, xa, xb, xc, xd, xe, xf]) (h.cellsO (v := .slice (some ⟨bk, okk, none⟩) a.cdb.length ycc)) h16 hX), (h.cellsO (v := .slice (some ⟨ba, oa, none⟩) 1 xx.cl)).elem (i := 0) (vs := akCells a (⟨some ⟨bk, okk, none⟩, ycc, yad, ycd, yah, ych⟩ : AkA)) (by decide) rfl 1 _ rfl, h.cellB rfl, (h.cellsO (v := .slice (some ⟨ba, oa, none⟩) 1 xx.cl)).elem (i := 0) (vs := akCells a (⟨some ⟨bk, okk, none⟩, ycc, yad, ycd, yah, ych⟩ : AkA)) (by decide) rfl 0 _ rfl, trivial⟩, ?_⟩
  refine WT.e 16 [false, false, false, false] rfl (eff_storeW (vs := (Pd.cells (cmdPd c a) (.slice none 0 0))) h sizeOf36 rfl (by show Value.agg _ = _; unfold Pd.cells; rw [show (cmdPd c a).cdb = [x0, x1, x2, x3, x4, x5, x6, x7, x8, x9, xa, xb, xc, xd, xe, xf] from hX]; rfl) (cells_len h16) (cells_one rfl) rfl) ?_
  rintro _ w h
  have h : On W0 (blk b4 (Pd.cells (cmdPd c a) (.slice none 0 0)) 36 :: _) w := h
  refine ⟨trivial, ?_⟩
  refine WT.dn (W.seq (W.sr (WL.m (WL.n rfl (WL.f 0 underlying179 rfl sizeOf127 rfl rfl (WL.f 3 underlying127 rfl sizeOf4 rfl rfl ?_))))))
  refine WL.l isAgg4 rfl (h.cellB rfl) (WL.nil ?_)
  refine W.condB rfl (fun c22 => ?_) (fun c22 => ?_)
  ·
   refine W.region (WL.m (WL.n rfl (WL.f 2 underlying187 rfl sizeOf26 rfl rfl (WL.l isAgg26 rfl ((h.cellsO (v := .slice (some ⟨ba, oa, none⟩) 1 xx.cl)).elem (i := 0) (vs := akCells a (⟨some ⟨bk, okk, none⟩, ycc, yad, ycd, yah, ych⟩ : AkA)) (by decide) rfl 2 _ rfl) (WL.f 26 underlying36 rfl sizeOf26 rfl rfl (WL.e (eff_store (v := .slice yad a.data.length ycd) h sizeOf26 rfl rfl rfl (by rw [cells_len hc16]; rfl) rfl) ?_))))))
   rintro _ w h
   rw [cells_set hc16] at h
   have ed : (cmdPd c a).data = a.data := by show (if c.p.imm then a.data else []) = _; rw [if_pos c22]
   rw [← ed] at h
   have h := (h.fetch (blk bc [.string ⟨c.p.name.toArray⟩, .int .i64 (c.p.maxd : Int), .int .i64 (c.p.burst : Int), .bool c.p.imm, .bool c.p.dig, .pointer (some ⟨xx.br, 0, none⟩), .bool c.open_, .bool false, .bool c.asked, .bool false, .bool false, .int .u32 (c.sn : Int), .int .u32 (c.max : Int), .int .u32 (c.tag : Int), .slice (some ⟨ba, oa, none⟩) (1) xx.cl, .slice xx.aw c.say.length xx.cs, .slice xx.ad (nD c.done) xx.cd] 179)).headEq (show _ = blk bc (clCells c ({ xx with al := some ⟨ba, oa, none⟩ } : ClA)) 179 by unfold clCells; rw [e1])
   refine WL.nil (W.sr (WL.m (WL.v (run_loadB (vs := (Pd.cells (cmdPd c a) (.slice yad (cmdPd c a).data.length ycd))) h isAgg36 sizeOf36 rfl (List.take_of_length_le (Nat.le_of_eq (cells_len hc16))) (cells_len hc16)) (WL.e (eff_call call130 (ctell_ok (c := c) (x := ({ xx with al := some ⟨ba, oa, none⟩ } : ClA)) (p := cmdPd c a) (ap := yad) (cp := ycd) hokc (by omega) ((h.fetch (OwnB (.slice xx.aw c.say.length xx.cs) c.say)).fetch (blk bc (clCells c ({ xx with al := some ⟨ba, oa, none⟩ } : ClA)) 179)) (Gives.ownO (v := .slice yad (cmdPd c a).data.length ycd)))) ?_))))
   rintro _ w ⟨as_, cs_, h⟩
   rw [ed] at h
   have h : On W0 (blk bc [.string ⟨(c.tell (cmdPd c a)).p.name.toArray⟩, .int .i64 ((c.tell (cmdPd c a)).p.maxd : Int), .int .i64 ((c.tell (cmdPd c a)).p.burst : Int), .bool (c.tell (cmdPd c a)).p.imm, .bool (c.tell (cmdPd c a)).p.dig, .pointer (some ⟨({ ({ xx with al := some ⟨ba, oa, none⟩ } : ClA) with aw := as_, cs := cs_ } : ClA).br, 0, none⟩), .bool (c.tell (cmdPd c a)).open_, .bool false, .bool (c.tell (cmdPd c a)).asked, .bool false, .bool false, .int .u32 ((c.tell (cmdPd c a)).sn : Int), .int .u32 ((c.tell (cmdPd c a)).max : Int), .int .u32 ((c.tell (cmdPd c a)).tag : Int), .slice ({ ({ xx with al := some ⟨ba, oa, none⟩ } : ClA) with aw := as_, cs := cs_ } : ClA).al (nL c.l) ({ ({ xx with al := some ⟨ba, oa, none⟩ } : ClA) with aw := as_, cs := cs_ } : ClA).cl, .slice ({ ({ xx with al := some ⟨ba, oa, none⟩ } : ClA) with aw := as_, cs := cs_ } : ClA).aw (c.tell (cmdPd c a)).say.length ({ ({ xx with al := some ⟨ba, oa, none⟩ } : ClA) with aw := as_, cs := cs_ } : ClA).cs, .slice ({ ({ xx with al := some ⟨ba, oa, none⟩ } : ClA) with aw := as_, cs := cs_ } : ClA).ad (nD c.done) ({ ({ xx with al := some ⟨ba, oa, none⟩ } : ClA) with aw := as_, cs := cs_ } : ClA).cd] 179 :: _) w := h
   rw [e1] at h
   refine WL.nil (W.sr (WL.m (WL.n rfl (WL.c 11 underlying179 rfl sizeOf24 rfl isAgg24 h rfl (WL.v (run_addU32 (m := c.sn) (n := 1) rfl rfl) ?_)))))
   refine WL.n rfl (WL.f 11 underlying179 rfl sizeOf24 rfl rfl (WL.e (eff_store (v := .int .u32 _) h sizeOf24 rfl rfl rfl rfl rfl) ?_))
   rintro _ w h
   try simp only [Nat.zero_add, Nat.add_zero, List.set_cons_zero, List.set_cons_succ] at h
   refine WL.nil (W.region (WL.m (WL.n rfl (WL.f 4 underlying187 rfl sizeOf4 rfl rfl (WL.e (eff_storeOwn (k := 4) (v := .bool true) (h.own (.slice (some ⟨ba, oa, none⟩) 1 xx.cl)) sizeOf4 rfl rfl rfl (by decide)) ?_)))))
   rintro _ w h
   have h : On W0 (Own 6 (.slice (some ⟨ba, oa, none⟩) 1 xx.cl) 1 (akCells ({ a with sent := true } : Ak) (⟨some ⟨bk, okk, none⟩, ycc, yad, ycd, yah, ych⟩ : AkA)) :: _) w := h
   refine WL.nil (W.region (WL.v (run_add rfl rfl (by omega) (by omega)) (WL.m (WL.nil ?_))))
   rcases hcs with ⟨q1, _⟩ | ⟨_, q2, _⟩ | ⟨_, _, q3⟩
   · rw [c14] at q1; cases q1
   · exact (c17 (by rw [show g = gapM c.sn c.max from hg]; exact q2)).elim
   subst q3
   have h : On W0 (LsP (some ⟨ba, oa, none⟩) xx.cl (some ({ a with sent := true } : Ak)) :: _) w := closeLs (⟨some ⟨bk, okk, none⟩, ycc, yad, ycd, yah, ych⟩ : AkA) hoka (by show On W0 (Own 6 (.slice (some ⟨ba, oa, none⟩) 1 xx.cl) 1 (akCells ({ a with sent := true } : Ak) (⟨some ⟨bk, okk, none⟩, ycc, yad, ycd, yah, ych⟩ : AkA)) :: _) w; exact h.to (T := Own 6 (.slice (some ⟨ba, oa, none⟩) 1 xx.cl) 1 (akCells ({ a with sent := true } : Ak) (⟨some ⟨bk, okk, none⟩, ycc, yad, ycd, yah, ych⟩ : AkA)) :: OwnB (.slice (some ⟨bk, okk, none⟩) a.cdb.length ycc) a.cdb :: OwnB (.slice yad a.data.length ycd) a.data :: OwnB (.slice yah a.hav.length ych) a.hav :: blk bc [.string ⟨(c.tell (cmdPd c a)).p.name.toArray⟩, .int .i64 ((c.tell (cmdPd c a)).p.maxd : Int), .int .i64 ((c.tell (cmdPd c a)).p.burst : Int), .bool (c.tell (cmdPd c a)).p.imm, .bool (c.tell (cmdPd c a)).p.dig, .pointer (some ⟨({ ({ xx with al := some ⟨ba, oa, none⟩ } : ClA) with aw := as_, cs := cs_ } : ClA).br, 0, none⟩), .bool (c.tell (cmdPd c a)).open_, .bool false, .bool (c.tell (cmdPd c a)).asked, .bool false, .bool false, .int .u32 (((c.sn + 1) % 4294967296 : Nat) : Int), .int .u32 ((c.tell (cmdPd c a)).max : Int), .int .u32 ((c.tell (cmdPd c a)).tag : Int), .slice ({ ({ xx with al := some ⟨ba, oa, none⟩ } : ClA) with aw := as_, cs := cs_ } : ClA).al (1) ({ ({ xx with al := some ⟨ba, oa, none⟩ } : ClA) with aw := as_, cs := cs_ } : ClA).cl, .slice ({ ({ xx with al := some ⟨ba, oa, none⟩ } : ClA) with aw := as_, cs := cs_ } : ClA).aw (c.tell (cmdPd c a)).say.length ({ ({ xx with al := some ⟨ba, oa, none⟩ } : ClA) with aw := as_, cs := cs_ } : ClA).cs, .slice ({ ({ xx with al := some ⟨ba, oa, none⟩ } : ClA) with aw := as_, cs := cs_ } : ClA).ad (nD c.done) ({ ({ xx with al := some ⟨ba, oa, none⟩ } : ClA) with aw := as_, cs := cs_ } : ClA).cd] 179 :: RdrP 117 xx.br c.r :: OwnB (.slice ({ ({ xx with al := some ⟨ba, oa, none⟩ } : ClA) with aw := as_, cs := cs_ } : ClA).aw (c.tell (cmdPd c a)).say.length ({ ({ xx with al := some ⟨ba, oa, none⟩ } : ClA) with aw := as_, cs := cs_ } : ClA).cs) (c.tell (cmdPd c a)).say :: DnP xx.ad xx.cd c.done :: L))
   refine ⟨1, ⟨Nat.le_refl _, _, ({ (c.tell (cmdPd c a)) with sn := (c.sn + 1) % 4294967296, l := some ({ a with sent := true } : Ak) } : Cl), ({ ({ xx with al := some ⟨ba, oa, none⟩ } : ClA) with aw := as_, cs := cs_ } : ClA), fun e => (by cases e), fun _ => rfl, fun _ => rfl, (by show (c.say ++ encP (cmdPd c a)).length ≤ _; rw [List.length_append]; omega), ⟨ok1, by show (c.sn + 1) % 4294967296 < _; omega, ok3, ok4, ?_⟩, mkE_of ⟨rfl, rfl, rfl, trivial⟩, ?_⟩, by decide⟩
   · show (c.say ++ encP (cmdPd c a)).length ≤ 5000
     rw [List.length_append]; omega
   show On W0 (blk bc [.string ⟨(c.tell (cmdPd c a)).p.name.toArray⟩, .int .i64 ((c.tell (cmdPd c a)).p.maxd : Int), .int .i64 ((c.tell (cmdPd c a)).p.burst : Int), .bool (c.tell (cmdPd c a)).p.imm, .bool (c.tell (cmdPd c a)).p.dig, .pointer (some ⟨({ ({ xx with al := some ⟨ba, oa, none⟩ } : ClA) with aw := as_, cs := cs_ } : ClA).br, 0, none⟩), .bool (c.tell (cmdPd c a)).open_, .bool false, .bool (c.tell (cmdPd c a)).asked, .bool false, .bool false, .int .u32 (((c.sn + 1) % 4294967296 : Nat) : Int), .int .u32 ((c.tell (cmdPd c a)).max : Int), .int .u32 ((c.tell (cmdPd c a)).tag : Int), .slice ({ ({ xx with al := some ⟨ba, oa, none⟩ } : ClA) with aw := as_, cs := cs_ } : ClA).al (1) ({ ({ xx with al := some ⟨ba, oa, none⟩ } : ClA) with aw := as_, cs := cs_ } : ClA).cl, .slice ({ ({ xx with al := some ⟨ba, oa, none⟩ } : ClA) with aw := as_, cs := cs_ } : ClA).aw (c.tell (cmdPd c a)).say.length ({ ({ xx with al := some ⟨ba, oa, none⟩ } : ClA) with aw := as_, cs := cs_ } : ClA).cs, .slice ({ ({ xx with al := some ⟨ba, oa, none⟩ } : ClA) with aw := as_, cs := cs_ } : ClA).ad (nD c.done) ({ ({ xx with al := some ⟨ba, oa, none⟩ } : ClA) with aw := as_, cs := cs_ } : ClA).cd] 179 :: RdrP 117 xx.br c.r :: LsP (some ⟨ba, oa, none⟩) xx.cl (some ({ a with sent := true } : Ak)) :: OwnB (.slice ({ ({ xx with al := some ⟨ba, oa, none⟩ } : ClA) with aw := as_, cs := cs_ } : ClA).aw (c.tell (cmdPd c a)).say.length ({ ({ xx with al := some ⟨ba, oa, none⟩ } : ClA) with aw := as_, cs := cs_ } : ClA).cs) (c.tell (cmdPd c a)).say :: DnP xx.ad xx.cd c.done :: L) w
   exact h.to
  have ed : (cmdPd c a).data = [] := by show (if c.p.imm then a.data else []) = _; rw [c22]; rfl
  have h := h.headEq (show _ = blk b4 (Pd.cells (cmdPd c a) (.slice none (cmdPd c a).data.length 0)) 36 by rw [ed]; rfl)
  have h := (h.fetch (blk bc [.string ⟨c.p.name.toArray⟩, .int .i64 (c.p.maxd : Int), .int .i64 (c.p.burst : Int), .bool c.p.imm, .bool c.p.dig, .pointer (some ⟨xx.br, 0, none⟩), .bool c.open_, .bool false, .bool c.asked, .bool false, .bool false, .int .u32 (c.sn : Int), .int .u32 (c.max : Int), .int .u32 (c.tag : Int), .slice (some ⟨ba, oa, none⟩) (1) xx.cl, .slice xx.aw c.say.length xx.cs, .slice xx.ad (nD c.done) xx.cd] 179)).headEq (show _ = blk bc (clCells c ({ xx with al := some ⟨ba, oa, none⟩ } : ClA)) 179 by unfold clCells; rw [e1])
  refine W.skip (W.sr (WL.m (WL.v (run_loadB (vs := (Pd.cells (cmdPd c a) (.slice none (cmdPd c a).data.length 0))) h isAgg36 sizeOf36 rfl (List.take_of_length_le (Nat.le_of_eq (cells_len hc16))) (cells_len hc16)) (WL.e (eff_call call130 (ctell_ok (c := c) (x := ({ xx with al := some ⟨ba, oa, none⟩ } : ClA)) (p := cmdPd c a) (ap := none) (cp := 0) hokc (by omega) ((h.fetch (OwnB (.slice xx.aw c.say.length xx.cs) c.say)).fetch (blk bc (clCells c ({ xx with al := some ⟨ba, oa, none⟩ } : ClA)) 179)) (by rw [ed]; exact Gives.nilB))) ?_))))
  rintro _ w ⟨as_, cs_, h⟩
  rw [ed] at h
  have h : On W0 (blk bc [.string ⟨(c.tell (cmdPd c a)).p.name.toArray⟩, .int .i64 ((c.tell (cmdPd c a)).p.maxd : Int), .int .i64 ((c.tell (cmdPd c a)).p.burst : Int), .bool (c.tell (cmdPd c a)).p.imm, .bool (c.tell (cmdPd c a)).p.dig, .pointer (some ⟨({ ({ xx with al := some ⟨ba, oa, none⟩ } : ClA) with aw := as_, cs := cs_ } : ClA).br, 0, none⟩), .bool (c.tell (cmdPd c a)).open_, .bool false, .bool (c.tell (cmdPd c a)).asked, .bool false, .bool false, .int .u32 ((c.tell (cmdPd c a)).sn : Int), .int .u32 ((c.tell (cmdPd c a)).max : Int), .int .u32 ((c.tell (cmdPd c a)).tag : Int), .slice ({ ({ xx with al := some ⟨ba, oa, none⟩ } : ClA) with aw := as_, cs := cs_ } : ClA).al (nL c.l) ({ ({ xx with al := some ⟨ba, oa, none⟩ } : ClA) with aw := as_, cs := cs_ } : ClA).cl, .slice ({ ({ xx with al := some ⟨ba, oa, none⟩ } : ClA) with aw := as_, cs := cs_ } : ClA).aw (c.tell (cmdPd c a)).say.length ({ ({ xx with al := some ⟨ba, oa, none⟩ } : ClA) with aw := as_, cs := cs_ } : ClA).cs, .slice ({ ({ xx with al := some ⟨ba, oa, none⟩ } : ClA) with aw := as_, cs := cs_ } : ClA).ad (nD c.done) ({ ({ xx with al := some ⟨ba, oa, none⟩ } : ClA) with aw := as_, cs := cs_ } : ClA).cd] 179 :: _) w := h
  rw [e1] at h
  refine WL.nil (W.sr (WL.m (WL.n rfl (WL.c 11 underlying179 rfl sizeOf24 rfl isAgg24 h rfl (WL.v (run_addU32 (m := c.sn) (n := 1) rfl rfl) ?_)))))
  refine WL.n rfl (WL.f 11 underlying179 rfl sizeOf24 rfl rfl (WL.e (eff_store (v := .int .u32 _) h sizeOf24 rfl rfl rfl rfl rfl) ?_))
  rintro _ w h
  try simp only [Nat.zero_add, Nat.add_zero, List.set_cons_zero, List.set_cons_succ] at h
  refine WL.nil (W.region (WL.m (WL.n rfl (WL.f 4 underlying187 rfl sizeOf4 rfl rfl (WL.e (eff_storeOwn (k := 4) (v := .bool true) (h.own (.slice (some ⟨ba, oa, none⟩) 1 xx.cl)) sizeOf4 rfl rfl rfl (by decide)) ?_)))))
  rintro _ w h
  have h : On W0 (Own 6 (.slice (some ⟨ba, oa, none⟩) 1 xx.cl) 1 (akCells ({ a with sent := true } : Ak) (⟨some ⟨bk, okk, none⟩, ycc, yad, ycd, yah, ych⟩ : AkA)) :: _) w := h
  refine WL.nil (W.region (WL.v (run_add rfl rfl (by omega) (by omega)) (WL.m (WL.nil ?_))))
  rcases hcs with ⟨q1, _⟩ | ⟨_, q2, _⟩ | ⟨_, _, q3⟩
  · rw [c14] at q1; cases q1
  · exact (c17 (by rw [show g = gapM c.sn c.max from hg]; exact q2)).elim
  subst q3
  have h : On W0 (LsP (some ⟨ba, oa, none⟩) xx.cl (some ({ a with sent := true } : Ak)) :: _) w := closeLs (⟨some ⟨bk, okk, none⟩, ycc, yad, ycd, yah, ych⟩ : AkA) hoka (by show On W0 (Own 6 (.slice (some ⟨ba, oa, none⟩) 1 xx.cl) 1 (akCells ({ a with sent := true } : Ak) (⟨some ⟨bk, okk, none⟩, ycc, yad, ycd, yah, ych⟩ : AkA)) :: _) w; exact h.to (T := Own 6 (.slice (some ⟨ba, oa, none⟩) 1 xx.cl) 1 (akCells ({ a with sent := true } : Ak) (⟨some ⟨bk, okk, none⟩, ycc, yad, ycd, yah, ych⟩ : AkA)) :: OwnB (.slice (some ⟨bk, okk, none⟩) a.cdb.length ycc) a.cdb :: OwnB (.slice yad a.data.length ycd) a.data :: OwnB (.slice yah a.hav.length ych) a.hav :: blk bc [.string ⟨(c.tell (cmdPd c a)).p.name.toArray⟩, .int .i64 ((c.tell (cmdPd c a)).p.maxd : Int), .int .i64 ((c.tell (cmdPd c a)).p.burst : Int), .bool (c.tell (cmdPd c a)).p.imm, .bool (c.tell (cmdPd c a)).p.dig, .pointer (some ⟨({ ({ xx with al := some ⟨ba, oa, none⟩ } : ClA) with aw := as_, cs := cs_ } : ClA).br, 0, none⟩), .bool (c.tell (cmdPd c a)).open_, .bool false, .bool (c.tell (cmdPd c a)).asked, .bool false, .bool false, .int .u32 (((c.sn + 1) % 4294967296 : Nat) : Int), .int .u32 ((c.tell (cmdPd c a)).max : Int), .int .u32 ((c.tell (cmdPd c a)).tag : Int), .slice ({ ({ xx with al := some ⟨ba, oa, none⟩ } : ClA) with aw := as_, cs := cs_ } : ClA).al (1) ({ ({ xx with al := some ⟨ba, oa, none⟩ } : ClA) with aw := as_, cs := cs_ } : ClA).cl, .slice ({ ({ xx with al := some ⟨ba, oa, none⟩ } : ClA) with aw := as_, cs := cs_ } : ClA).aw (c.tell (cmdPd c a)).say.length ({ ({ xx with al := some ⟨ba, oa, none⟩ } : ClA) with aw := as_, cs := cs_ } : ClA).cs, .slice ({ ({ xx with al := some ⟨ba, oa, none⟩ } : ClA) with aw := as_, cs := cs_ } : ClA).ad (nD c.done) ({ ({ xx with al := some ⟨ba, oa, none⟩ } : ClA) with aw := as_, cs := cs_ } : ClA).cd] 179 :: RdrP 117 xx.br c.r :: OwnB (.slice ({ ({ xx with al := some ⟨ba, oa, none⟩ } : ClA) with aw := as_, cs := cs_ } : ClA).aw (c.tell (cmdPd c a)).say.length ({ ({ xx with al := some ⟨ba, oa, none⟩ } : ClA) with aw := as_, cs := cs_ } : ClA).cs) (c.tell (cmdPd c a)).say :: DnP xx.ad xx.cd c.done :: L))
  refine ⟨1, ⟨Nat.le_refl _, _, ({ (c.tell (cmdPd c a)) with sn := (c.sn + 1) % 4294967296, l := some ({ a with sent := true } : Ak) } : Cl), ({ ({ xx with al := some ⟨ba, oa, none⟩ } : ClA) with aw := as_, cs := cs_ } : ClA), fun e => (by cases e), fun _ => rfl, fun _ => rfl, (by show (c.say ++ encP (cmdPd c a)).length ≤ _; rw [List.length_append]; omega), ⟨ok1, by show (c.sn + 1) % 4294967296 < _; omega, ok3, ok4, ?_⟩, mkE_of ⟨rfl, rfl, rfl, trivial⟩, ?_⟩, by decide⟩
  · show (c.say ++ encP (cmdPd c a)).length ≤ 5000
    rw [List.length_append]; omega
  show On W0 (blk bc [.string ⟨(c.tell (cmdPd c a)).p.name.toArray⟩, .int .i64 ((c.tell (cmdPd c a)).p.maxd : Int), .int .i64 ((c.tell (cmdPd c a)).p.burst : Int), .bool (c.tell (cmdPd c a)).p.imm, .bool (c.tell (cmdPd c a)).p.dig, .pointer (some ⟨({ ({ xx with al := some ⟨ba, oa, none⟩ } : ClA) with aw := as_, cs := cs_ } : ClA).br, 0, none⟩), .bool (c.tell (cmdPd c a)).open_, .bool false, .bool (c.tell (cmdPd c a)).asked, .bool false, .bool false, .int .u32 (((c.sn + 1) % 4294967296 : Nat) : Int), .int .u32 ((c.tell (cmdPd c a)).max : Int), .int .u32 ((c.tell (cmdPd c a)).tag : Int), .slice ({ ({ xx with al := some ⟨ba, oa, none⟩ } : ClA) with aw := as_, cs := cs_ } : ClA).al (1) ({ ({ xx with al := some ⟨ba, oa, none⟩ } : ClA) with aw := as_, cs := cs_ } : ClA).cl, .slice ({ ({ xx with al := some ⟨ba, oa, none⟩ } : ClA) with aw := as_, cs := cs_ } : ClA).aw (c.tell (cmdPd c a)).say.length ({ ({ xx with al := some ⟨ba, oa, none⟩ } : ClA) with aw := as_, cs := cs_ } : ClA).cs, .slice ({ ({ xx with al := some ⟨ba, oa, none⟩ } : ClA) with aw := as_, cs := cs_ } : ClA).ad (nD c.done) ({ ({ xx with al := some ⟨ba, oa, none⟩ } : ClA) with aw := as_, cs := cs_ } : ClA).cd] 179 :: RdrP 117 xx.br c.r :: LsP (some ⟨ba, oa, none⟩) xx.cl (some ({ a with sent := true } : Ak)) :: OwnB (.slice ({ ({ xx with al := some ⟨ba, oa, none⟩ } : ClA) with aw := as_, cs := cs_ } : ClA).aw (c.tell (cmdPd c a)).say.length ({ ({ xx with al := some ⟨ba, oa, none⟩ } : ClA) with aw := as_, cs := cs_ } : ClA).cs) (c.tell (cmdPd c a)).say :: DnP xx.ad xx.cd c.done :: L) w
  exact h.to
 have e1k : k = 1 := by omega
 have ob_ := hk1 e1k
 obtain rfl := ob_
 refine W.exit (bodyQ.fall (bodyQ.r0 results131 ?_))
 exact ⟨xx, hok2, by unfold clCells; rw [hk2 e1k]; exact h⟩
theorem out_cases {c c' : Cl} {b : List UInt8} (h : c.out = some (b, c')) : ∃ c1, b = c1.say ∧ c' = { c1 with say := [] } ∧ ((c.asked = false ∧ ∃ t, encT' (askB c.p) = some t ∧ c1 = Cl.tell { c with asked := true } { zPd with op := 3, fin := true, sn := 1, data := t }) ∨ (c.asked = true ∧ c.open_ = true ∧ c.send = some c1) ∨ (c.asked = true ∧ c.open_ = false ∧ c1 = c)) := by
 unfold Cl.out at h
 cases ho : c.out1 with
 | none => rw [ho] at h; cases h
 | some c1 =>
   rw [ho] at h
   cases h
   refine ⟨c1, rfl, rfl, ?_⟩
   unfold Cl.out1 at ho
   split at ho
   · rename_i h1
     cases ht : encT' (askB c.p) with
     | none => rw [ht] at ho; cases ho
     | some t => rw [ht] at ho; cases ho; exact .inl ⟨h1, t, rfl, rfl⟩
   rename_i h1
   have h1 : c.asked = true := by simpa using h1
   split at ho
   · rename_i h2; exact .inr (.inl ⟨h1, h2, ho⟩)
   rename_i h2; cases ho; exact .inr (.inr ⟨h1, by simpa using h2, rfl⟩)
theorem login_some {c c' : Cl} {p : Pd} (h : c.login p = some c') : p.op = 35 ∧ p.st = 0 ∧ ∃ l q, decTx p.data = some l ∧ l.length ≤ 1000 ∧ takeB c.p l = some q ∧ okPm q ∧ c' = { c with p := q, open_ := true, sn := p.exp, max := p.max } := by
 unfold Cl.login at h
 split at h
 · rename_i h1
   cases hd : decTx p.data with
   | none => rw [hd] at h; cases h
   | some l =>
     rw [hd] at h
     simp only [Option.bind_some] at h
     split at h
     · rename_i h2
       cases ht : takeB c.p l with
       | none => rw [ht] at h; cases h
       | some q =>
         rw [ht] at h
         simp only [Option.bind_some] at h
         split at h
         · rename_i h3
           cases h
           exact ⟨h1.1, h1.2, l, q, rfl, h2, ht, ⟨h3.1, h3.2.1, h3.2.2⟩, rfl⟩
         cases h
     cases h
 cases h
theorem encT_small {l : List Pr} {t : Str} (h : encT' l = some t) : t.length ≤ 4096 := (encT_some h).2.2.2
theorem okLogin {t : Str} (h : t.length ≤ 4096) : okPd ({ zPd with op := 3, fin := true, sn := 1, data := t } : Pd) := by
 refine ⟨⟨rfl, rfl, (show (0 : Nat) < 128 by decide), (show (0 : Nat) < 256 by decide)⟩, h, ?_⟩
 intro v hv
 simp only [nums, zPd, List.mem_cons, List.not_mem_nil, or_false] at hv
 rcases hv with rfl | rfl | rfl | rfl | rfl | rfl <;> decide
theorem clout_ok {m : Int} (G : Gives L (GlP m)) {bc : Nat} {c c' : Cl} {b : List UInt8} (hm : c.out = some (b, c')) (h : On W0 (ClP 179 117 bc c :: L) w) : Calls Tryz.prog 103 #[.pointer (some ⟨bc, 0, none⟩)] w (Ret fun v w' => ∃ a, v = .slice a b.length b.length ∧ On W0 (ClP 179 117 bc c' :: OwnB (.slice a b.length b.length) b :: L) w') := by
 refine enter func103 rfl ntmps103 rfl ?_
 have hmx := maxLen_eq
 have hoc := out_cases hm
 obtain ⟨c1, hb, hc', hcs⟩ := hoc
 have ho_ := openCl h
 obtain ⟨x, hok, h⟩ := ho_
 have h : On W0 (blk bc [.string ⟨c.p.name.toArray⟩, .int .i64 (c.p.maxd : Int), .int .i64 (c.p.burst : Int), .bool c.p.imm, .bool c.p.dig, .pointer (some ⟨x.br, 0, none⟩), .bool c.open_, .bool false, .bool c.asked, .bool false, .bool false, .int .u32 (c.sn : Int), .int .u32 (c.max : Int), .int .u32 (c.tag : Int), .slice x.al (nL c.l) x.cl, .slice x.aw c.say.length x.cs, .slice x.ad (nD c.done) x.cd] 179 :: _) w := h
 have hok0 := hok
 obtain ⟨ok1, ok2, ok3, ok4, ok5⟩ := hok
 clear hm
 refine W.sr (WL.z (W.seq (W.sr (WL.m ?_))))
 refine WL.n rfl (WL.c 7 underlying179 rfl sizeOf4 rfl isAgg4 h rfl (WL.nil (W.cs ?_)))
 refine W.cut (fun env w => ∃ (j : Env) (x1 : ClA), env = mkE j [(0, .pointer (some ⟨bc, 0, none⟩))] ∧ okCl2 c1 ∧ On W0 (blk bc (clCells c1 x1) 179 :: RdrP 117 x1.br c1.r :: LsP x1.al x1.cl c1.l :: OwnB (.slice x1.aw c1.say.length x1.cs) c1.say :: DnP x1.ad x1.cd c1.done :: L) w) ?_ ?_
 ·
  refine W.block (W.sr (WL.m (WL.n rfl (WL.c 8 underlying179 rfl sizeOf4 rfl isAgg4 h rfl (WL.v (run_not rfl) ?_)))))
  refine WL.z ?_
  refine W.condB rfl (fun c8 => ?_) (fun c8 => ?_)
  ·
   have ha : c.asked = false := by simpa using c8
   have hcs2 : ∃ t, encT' (askB c.p) = some t ∧ c1 = (Cl.tell ({ c with asked := true } : Cl) ({ zPd with op := 3, fin := true, sn := 1, data := t } : Pd)) := by
     rcases hcs with ⟨_, q⟩ | ⟨q, _⟩ | ⟨q, _⟩
     · exact q
     · rw [ha] at q; cases q
     rw [ha] at q; cases q
   obtain ⟨t, het, hc1⟩ := hcs2
   have htl := encT_small het
   have hokl := okLogin htl
   have hel := encP_len hokl
   refine W.sr (WL.m (WL.n rfl (WL.f 8 underlying179 rfl sizeOf4 rfl rfl (WL.e (eff_store (v := .bool _) h sizeOf4 rfl rfl rfl rfl rfl) ?_))))
   rintro _ w h
   try simp only [Nat.zero_add, Nat.add_zero, List.set_cons_zero, List.set_cons_succ] at h
   refine WL.nil (W.sr (WL.m (WL.n rfl (WL.f 0 underlying179 rfl sizeOf127 rfl rfl (WL.v (run_loadB (vs := c.p.cells) h isAgg127 sizeOf127 rfl rfl rfl) (WL.e (eff_call call128 (lask_ok (Gives.to G) ok1 h)) ?_))))))
   rintro _ w ⟨b24, rfl, h⟩
   refine WL.e (eff_call call127 (tencode_ok (l := askB c.p) (b := t) (by show (5 : Nat) ≤ 1000; decide) het h (Gives.ownO (v := .slice (some ⟨b24, 0, none⟩) (askB c.p).length (askB c.p).length)))) ?_
   rintro _ w ⟨a25, rfl, h⟩
   refine WL.m (WL.v (run_extract rfl rfl) (WL.v (run_extract rfl rfl) (WL.a (WL.z (W.seq (W.seq ?_))))))
   refine W.region (WL.m (WL.v (run_neqF rfl rfl (by decide)) (WL.nil (W.cs (W.region (WL.m ?_))))))
   refine WL.m ?_
   refine WL.v (run_buildS (pl := qp2) (out := qv1) underlying36 zeroValue36 (fun w => by kernel_rfl) rfl (⟨⟨_, _, rfl, rfl, by decide⟩, ⟨⟨_, _, rfl, rfl, by decide⟩, ⟨⟨_, _, rfl, rfl, by decide⟩, ⟨⟨_, _, rfl, rfl, by decide⟩, trivial⟩⟩⟩⟩) rfl) ?_
   refine WL.e (eff_call call130 (ctell_ok (c := ({ c with asked := true } : Cl)) (x := x) (p := ({ zPd with op := 3, fin := true, sn := 1, data := t } : Pd)) (ap := a25) (cp := t.length) hokl (by show c.say.length ≤ _; omega) ((h.fetch (OwnB (.slice x.aw c.say.length x.cs) c.say)).fetch (blk bc [.string ⟨c.p.name.toArray⟩, .int .i64 (c.p.maxd : Int), .int .i64 (c.p.burst : Int), .bool c.p.imm, .bool c.p.dig, .pointer (some ⟨x.br, 0, none⟩), .bool c.open_, .bool false, .bool true, .bool false, .bool false, .int .u32 (c.sn : Int), .int .u32 (c.max : Int), .int .u32 (c.tag : Int), .slice x.al (nL c.l) x.cl, .slice x.aw c.say.length x.cs, .slice x.ad (nD c.done) x.cd] 179)) (Gives.ownO (v := .slice a25 t.length t.length)))) ?_
   rintro _ w ⟨as_, cs_, h⟩
   refine WL.nil ?_
   subst hc1
   refine ⟨_, { x with aw := as_, cs := cs_ }, mkE_of ⟨rfl, trivial⟩, ⟨ok1, ok2, ok3, ok4, ?_⟩, ?_⟩
   · show (c.say ++ encP ({ zPd with op := 3, fin := true, sn := 1, data := t } : Pd)).length ≤ 5000
     rw [List.length_append]; omega
   have h : On W0 (blk bc (clCells (Cl.tell ({ c with asked := true } : Cl) ({ zPd with op := 3, fin := true, sn := 1, data := t } : Pd)) ({ x with aw := as_, cs := cs_ } : ClA)) 179 :: OwnB (.slice as_ (Cl.tell ({ c with asked := true } : Cl) ({ zPd with op := 3, fin := true, sn := 1, data := t } : Pd)).say.length cs_) (Cl.tell ({ c with asked := true } : Cl) ({ zPd with op := 3, fin := true, sn := 1, data := t } : Pd)).say :: _) w := h
   show On W0 (blk bc (clCells (Cl.tell ({ c with asked := true } : Cl) ({ zPd with op := 3, fin := true, sn := 1, data := t } : Pd)) ({ x with aw := as_, cs := cs_ } : ClA)) 179 :: RdrP 117 x.br c.r :: LsP x.al x.cl c.l :: OwnB (.slice as_ (Cl.tell ({ c with asked := true } : Cl) ({ zPd with op := 3, fin := true, sn := 1, data := t } : Pd)).say.length cs_) (Cl.tell ({ c with asked := true } : Cl) ({ zPd with op := 3, fin := true, sn := 1, data := t } : Pd)).say :: DnP x.ad x.cd c.done :: L) w
   exact h.to
  have ha : c.asked = true := by simpa using c8
  refine W.sr (WL.m (WL.n rfl (WL.c 6 underlying179 rfl sizeOf4 rfl isAgg4 h rfl (WL.z ?_))))
  refine W.condB rfl (fun c19 => ?_) (fun c19 => ?_)
  ·
   have hsend : c.send = some c1 := by
     rcases hcs with ⟨q, _⟩ | ⟨_, _, q⟩ | ⟨_, q, _⟩
     · rw [ha] at q; cases q
     · exact q
     rw [c19] at q; cases q
   refine W.sr (WL.m (WL.e (eff_call call131 (clsend_ok hok0 hsend h)) ?_))
   rintro _ w ⟨x2, hok2, h⟩
   refine WL.nil (W.sr (WL.m (WL.n rfl (WL.c 9 underlying179 rfl sizeOf4 rfl isAgg4 h rfl (WL.m ?_)))))
   refine WL.s (WL.s (WL.s (WL.s (WL.s (WL.pf (WL.m (WL.s ?_)))))))
   refine WL.s (WL.s (WL.s (WL.s (WL.s (WL.pf (WL.nil (W.cf ?_)))))))
   refine W.skip ?_
   exact ⟨_, x2, mkE_of ⟨rfl, trivial⟩, hok2, h⟩
  refine W.skip ?_
  have hcc : c1 = c := by
    rcases hcs with ⟨q, _⟩ | ⟨_, q, _⟩ | ⟨_, _, q⟩
    · rw [ha] at q; cases q
    · rw [c19] at q; cases q
    exact q
  rw [hcc]
  exact ⟨_, x, mkE_of ⟨rfl, trivial⟩, ⟨ok1, ok2, ok3, ok4, by omega⟩, h⟩
 clear h hok0 ok1 ok2 ok3 ok4 ok5 hcs
 rintro env w ⟨j, x1, rfl, hok2, h⟩
 obtain ⟨ok1, ok2, ok3, ok4, ok5⟩ := hok2
 have h : On W0 (blk bc [.string ⟨c1.p.name.toArray⟩, .int .i64 (c1.p.maxd : Int), .int .i64 (c1.p.burst : Int), .bool c1.p.imm, .bool c1.p.dig, .pointer (some ⟨x1.br, 0, none⟩), .bool c1.open_, .bool false, .bool c1.asked, .bool false, .bool false, .int .u32 (c1.sn : Int), .int .u32 (c1.max : Int), .int .u32 (c1.tag : Int), .slice x1.al (nL c1.l) x1.cl, .slice x1.aw c1.say.length x1.cs, .slice x1.ad (nD c1.done) x1.cd] 179 :: _) w := h
 subst hc'
 subst hb
 refine W.sr (WL.m (WL.n rfl (WL.c 15 underlying179 rfl sizeOf26 rfl isAgg26 h rfl (WL.e (eff_call call43 (clip_bytes (h.own (.slice x1.aw c1.say.length x1.cs)))) ?_))))
 rintro _ w ⟨rfl, h⟩
 refine WL.z (W.sr (WL.m (WL.n rfl (WL.f 15 underlying179 rfl sizeOf26 rfl rfl (WL.e (eff_store (v := .slice _ _ _) h sizeOf26 rfl rfl rfl rfl rfl) ?_)))))
 rintro _ w h
 try simp only [Nat.zero_add, Nat.add_zero, List.set_cons_zero, List.set_cons_succ] at h
 refine WL.nil (W.sr (WL.m (WL.z (W.ret (bodyQ.r1 (v := .slice _ _ _) results103 rfl ?_)))))
 refine ⟨x1.aw, rfl, closeCl (c := { c1 with say := [] }) { x1 with aw := none, cs := 0 } ⟨ok1, ok2, ok3, ok4, Nat.zero_le _⟩ ?_⟩
 have h := h.ownEmpty 1 none
 have h : On W0 (OwnB (.slice none ([] : List UInt8).length 0) [] :: _) w := h
 show On W0 (blk bc [.string ⟨c1.p.name.toArray⟩, .int .i64 (c1.p.maxd : Int), .int .i64 (c1.p.burst : Int), .bool c1.p.imm, .bool c1.p.dig, .pointer (some ⟨x1.br, 0, none⟩), .bool c1.open_, .bool false, .bool c1.asked, .bool false, .bool false, .int .u32 (c1.sn : Int), .int .u32 (c1.max : Int), .int .u32 (c1.tag : Int), .slice x1.al (nL c1.l) x1.cl, .slice none 0 0, .slice x1.ad (nD c1.done) x1.cd] 179 :: RdrP 117 x1.br c1.r :: LsP x1.al x1.cl c1.l :: OwnB (.slice none ([] : List UInt8).length 0) [] :: DnP x1.ad x1.cd c1.done :: OwnB (.slice x1.aw c1.say.length c1.say.length) c1.say :: L) w
 exact h.to
theorem cllogin_ok {m : Int} (G : Gives L (GlP m)) {bc : Nat} {c c' : Cl} {p : Pd} {ap : Option Addr} {cp : Nat} (hm : c.login p = some c') (hcd : p.cdb.length = 16) (hnu : ∀ v ∈ nums p, v < 4294967296) (h : On W0 (ClP 179 117 bc c :: L) w) (C : Gives L (Bytes (.slice ap p.data.length cp) p.data)) : Calls Tryz.prog 152 #[.pointer (some ⟨bc, 0, none⟩), .agg (Pd.cells p (.slice ap p.data.length cp)).toArray] w (Ret fun v w' => On W0 (ClP 179 117 bc c' :: L) w') := by
 refine enter func152 rfl ntmps152 rfl ?_
 have hmx := maxLen_eq
 have hls := login_some hm
 obtain ⟨hop, hst, l, q, hdt, hll, htk, hokq, hc'⟩ := hls
 subst hc'
 have ho_ := openCl h
 obtain ⟨x, hok, h⟩ := ho_
 have h : On W0 (blk bc [.string ⟨c.p.name.toArray⟩, .int .i64 (c.p.maxd : Int), .int .i64 (c.p.burst : Int), .bool c.p.imm, .bool c.p.dig, .pointer (some ⟨x.br, 0, none⟩), .bool c.open_, .bool false, .bool c.asked, .bool false, .bool false, .int .u32 (c.sn : Int), .int .u32 (c.max : Int), .int .u32 (c.tag : Int), .slice x.al (nL c.l) x.cl, .slice x.aw c.say.length x.cs, .slice x.ad (nD c.done) x.cd] 179 :: _) w := h
 obtain ⟨ok1, ok2, ok3, ok4, ok5⟩ := hok
 clear hm
 refine W.sr (WL.e (eff_box (v := .agg (Pd.cells p (.slice ap p.data.length cp)).toArray) (l := Pd.cells p (.slice ap p.data.length cp)) h rfl rfl) ?_)
 rintro _ w ⟨b3, rfl, h⟩
 refine WL.nil (W.sr (WL.f 26 underlying36 rfl sizeOf26 rfl rfl (WL.l isAgg26 rfl (h.cellB (cells_data hcd)) (WL.e (eff_call call149 (tdecode_ok (bs := p.data) (Gives.to G) hdt h (Gives.to C))) ?_))))
 rintro _ w ⟨a9, rfl, h⟩
 refine WL.m (WL.v (run_extract rfl rfl) (WL.v (run_extract rfl rfl) (WL.a (WL.z (W.seq (W.seq ?_))))))
 refine W.region (WL.c 0 underlying36 rfl sizeOf3 rfl isAgg3 h rfl (WL.v (run_neqF rfl rfl (by omega)) (WL.m (WL.c 3 underlying36 rfl sizeOf3 rfl isAgg3 h rfl (WL.v (run_neqF rfl rfl (by omega)) ?_)))))
 refine WL.pf (WL.m (WL.m (WL.v (run_neqF rfl rfl (by decide)) (WL.pf (WL.nil (W.cs ?_))))))
 refine W.seq (W.sr (WL.m (WL.m (WL.n rfl (WL.f 0 underlying179 rfl sizeOf127 rfl rfl (WL.v (run_loadB (vs := c.p.cells) h isAgg127 sizeOf127 rfl rfl rfl) ?_))))))
 refine WL.m (WL.e (eff_call call175 (ltake_ok (us := c.p) (q := q) hll htk h (Gives.ownO (v := .slice a9 l.length l.length)))) ?_)
 rintro _ w ⟨rfl, h⟩
 refine WL.m (WL.v (run_extract rfl rfl) (WL.v (run_extract rfl rfl) (WL.n rfl (WL.f 0 underlying179 rfl sizeOf127 rfl rfl (WL.e (eff_storeN (vs := q.cells) h sizeOf127 rfl rfl rfl rfl rfl (fun k _ _ => free0 k)) ?_)))))
 rintro _ w h
 have h := h.p2
 have h : On W0 (blk bc [.string ⟨q.name.toArray⟩, .int .i64 (q.maxd : Int), .int .i64 (q.burst : Int), .bool q.imm, .bool q.dig, .pointer (some ⟨x.br, 0, none⟩), .bool c.open_, .bool false, .bool c.asked, .bool false, .bool false, .int .u32 (c.sn : Int), .int .u32 (c.max : Int), .int .u32 (c.tag : Int), .slice x.al (nL c.l) x.cl, .slice x.aw c.say.length x.cs, .slice x.ad (nD c.done) x.cd] 179 :: _) w := h
 refine WL.z (W.sr (WL.m (WL.v (run_neqF rfl rfl (by decide)) (WL.nil (W.cf ?_)))))
 refine W.skip ?_
 refine W.draw Tryz.follows h (fun w h => ?_)
 refine WT.m 0 rfl (WT.m 1 rfl (WT.m 2 rfl (WT.f 3 6 rfl underlying36 rfl sizeOf24 rfl rfl (WT.l 4 rfl isAgg24 rfl (h.cellB rfl) (WT.f 5 7 rfl underlying36 rfl sizeOf24 rfl rfl (WT.l 6 rfl isAgg24 rfl (h.cellB rfl) (WT.n 7 rfl rfl ?_)))))))
 refine WT.f 8 6 rfl underlying179 rfl sizeOf4 rfl rfl (WT.e 9 [true, true] rfl (eff_store (v := .bool _) h sizeOf4 rfl rfl rfl rfl rfl) ?_)
 rintro _ w h
 try simp only [Nat.zero_add, Nat.add_zero, List.set_cons_zero, List.set_cons_succ] at h
 refine ⟨⟨h.cellB rfl, h.cellB rfl, trivial⟩, ?_⟩
 refine WT.n 10 rfl rfl (WT.f 11 11 rfl underlying179 rfl sizeOf24 rfl rfl (WT.e 12 [true, false] rfl (eff_store (v := .int .u32 _) h sizeOf24 rfl rfl rfl rfl rfl) ?_))
 rintro _ w h
 try simp only [Nat.zero_add, Nat.add_zero, List.set_cons_zero, List.set_cons_succ] at h
 refine ⟨⟨h.cellB rfl, trivial⟩, ?_⟩
 refine WT.n 13 rfl rfl (WT.f 14 12 rfl underlying179 rfl sizeOf24 rfl rfl (WT.e 15 [false] rfl (eff_store (v := .int .u32 _) h sizeOf24 rfl rfl rfl rfl rfl) ?_))
 rintro _ w h
 try simp only [Nat.zero_add, Nat.add_zero, List.set_cons_zero, List.set_cons_succ] at h
 refine ⟨trivial, ?_⟩
 refine WT.dn (bodyQ.fall (bodyQ.r0 results152 ?_))
 refine closeCl (c := { c with p := q, open_ := true, sn := p.exp, max := p.max }) x ⟨hokq, hnu _ (by simp [nums]), hnu _ (by simp [nums]), ok4, ok5⟩ ?_
 show On W0 (blk bc [.string ⟨q.name.toArray⟩, .int .i64 (q.maxd : Int), .int .i64 (q.burst : Int), .bool q.imm, .bool q.dig, .pointer (some ⟨x.br, 0, none⟩), .bool true, .bool false, .bool c.asked, .bool false, .bool false, .int .u32 (p.exp : Int), .int .u32 (p.max : Int), .int .u32 (c.tag : Int), .slice x.al (nL c.l) x.cl, .slice x.aw c.say.length x.cs, .slice x.ad (nD c.done) x.cd] 179 :: RdrP 117 x.br c.r :: LsP x.al x.cl c.l :: OwnB (.slice x.aw c.say.length x.cs) c.say :: DnP x.ad x.cd c.done :: L) w
 exact h.to
theorem clrespond_ok {bc : Nat} {c : Cl} {a : Ak} {p : Pd} {dv : Value} (hl : c.l = some a) (hdn : c.done = none) (hst : p.st = 0) (hcd : p.cdb.length = 16) (h : On W0 (ClP 179 117 bc c :: L) w) : Calls Tryz.prog 156 #[.pointer (some ⟨bc, 0, none⟩), .int .i64 0, .agg (Pd.cells p dv).toArray] w (Ret fun v w' => On W0 (ClP 179 117 bc ({ c with l := none, done := some (a.tag, a.hav) } : Cl) :: L) w') := by
 refine enter func156 rfl ntmps156 rfl ?_
 have hmx := maxLen_eq
 have ho_ := openCl h
 obtain ⟨x, hok, h⟩ := ho_
 have h : On W0 (blk bc [.string ⟨c.p.name.toArray⟩, .int .i64 (c.p.maxd : Int), .int .i64 (c.p.burst : Int), .bool c.p.imm, .bool c.p.dig, .pointer (some ⟨x.br, 0, none⟩), .bool c.open_, .bool false, .bool c.asked, .bool false, .bool false, .int .u32 (c.sn : Int), .int .u32 (c.max : Int), .int .u32 (c.tag : Int), .slice x.al (nL c.l) x.cl, .slice x.aw c.say.length x.cs, .slice x.ad (nD c.done) x.cd] 179 :: _) w := h
 obtain ⟨ok1, ok2, ok3, ok4, ok5⟩ := hok
 have e1 : nL c.l = 1 := by rw [hl]; rfl
 rw [e1] at h
 have e2 : nD c.done = 0 := by rw [hdn]; rfl
 rw [e2, hdn] at h
 have h := h.fetch (DnP x.ad x.cd none)
 have h : On W0 (Own 6 (.slice x.ad 0 x.cd) 0 [] :: _) w := h
 have h := h.fetch (LsP x.al x.cl c.l)
 rw [hl] at h
 have hop_ := openLs h
 obtain ⟨y, hoka, h⟩ := hop_
 have had_ := (h.cellsO (v := .slice x.al 1 x.cl)).addr (by decide)
 obtain ⟨ba, oa, hal⟩ := had_
 rw [hal] at h
 obtain ⟨hk1, hk2, hk3, hk4⟩ := hoka
 refine W.sr (WL.e (eff_box (v := .agg (Pd.cells p dv).toArray) (l := Pd.cells p dv) h rfl rfl) ?_)
 rintro _ w ⟨b5, rfl, h⟩
 refine WL.nil (W.sr (WL.m (WL.n rfl (WL.c 14 underlying179 rfl sizeOf177 rfl isAgg177 h rfl (WL.m ?_)))))
 refine WL.v (run_indexAddr underlying177 sizeOf187 rfl rfl (by omega) (by omega)) (WL.v (run_loadN isAgg187 sizeOf187 rfl rfl ((h.cellsO (v := .slice (some ⟨ba, oa, none⟩) 1 x.cl)).elem (i := 0) (vs := akCells a y) (by decide) rfl)) (WL.e (eff_alloc h zeroValue187 rfl) ?_))
 rintro _ w ⟨b6, rfl, h⟩
 refine WL.e (eff_storeW (vs := akCells a y) h sizeOf187 rfl rfl rfl rfl rfl) ?_
 rintro _ w h
 refine WL.nil (W.sr (WL.m (WL.m (WL.n rfl (WL.c 14 underlying179 rfl sizeOf177 rfl isAgg177 h rfl ?_)))))
 refine WL.m (WL.m (WL.v (run_add rfl rfl (by omega) (by omega)) (WL.e (eff_call call157 (cdelete_ok (k := 0) (by decide) (by decide) (by intro u hu; simp only [akCells, List.mem_cons, List.not_mem_nil, or_false] at hu; rcases hu with rfl | rfl | rfl | rfl | rfl | rfl <;> rfl) (h.own (.slice (some ⟨ba, oa, none⟩) 1 x.cl)))) ?_)))
 rintro _ w ⟨n27, hn27, rfl, h⟩
 have ob_ : n27 = 0 := by omega
 obtain rfl := ob_
 have h : On W0 (Own 6 (.slice (some ⟨ba, oa, none⟩) 0 x.cl) 0 [] :: _) w := h
 refine WL.n rfl (WL.f 14 underlying179 rfl sizeOf177 rfl rfl (WL.e (eff_store (v := .slice _ _ _) h sizeOf177 rfl rfl rfl rfl rfl) ?_))
 rintro _ w h
 try simp only [Nat.zero_add, Nat.add_zero, List.set_cons_zero, List.set_cons_succ] at h
 refine WL.nil (W.seq (W.sr (WL.c 5 underlying187 rfl sizeOf4 rfl isAgg4 h rfl (WL.nil (W.cf ?_)))))
 refine W.skip (W.seq ?_)
 refine W.draw Tryz.follows h (fun w h => ?_)
 refine WT.f 0 3 rfl underlying36 rfl sizeOf3 rfl rfl (WT.l 1 rfl isAgg3 rfl (h.cellB (cells3 p dv)) (WT.f 2 3 rfl underlying187 rfl sizeOf26 rfl rfl (WT.l 3 rfl isAgg26 rfl (h.cellB rfl) ?_)))
 refine WT.two 4 6 (by kernel_rfl) ?_ ?_
 ·
  refine WT.opOf 4 [false, true] rfl (by kernel_rfl) (eff_call call43 (clip_bytes (h.own (.slice y.ah a.hav.length y.ch)))) rfl rfl ?_
  rintro _ w ⟨rfl, h⟩
  refine ⟨⟨h.cellB (cells3 p dv), trivial⟩, ?_⟩
  refine WT.p 5 rfl (fun w' => (run_buildS (pl := qp0) (out := qv0) underlying44 zeroValue44 (fun w => by kernel_rfl) rfl (⟨⟨_, _, rfl, rfl, by decide⟩, ⟨⟨_, _, rfl, rfl, by decide⟩, trivial⟩⟩) rfl)) (WT.e 6 [true] rfl (eff_alloc h zeroValue44 rfl) ?_)
  rintro _ w ⟨b7, rfl, h⟩
  refine ⟨⟨h.cellB (cells3 p dv), trivial⟩, ?_⟩
  refine WT.e 7 [false] rfl (eff_storeW (vs := qv0) h sizeOf44 rfl rfl rfl rfl rfl) ?_
  rintro _ w h
  refine ⟨trivial, ?_⟩
  refine WT.dn (W.seq (W.sr (WL.f 3 underlying36 rfl sizeOf3 rfl rfl (WL.l isAgg3 rfl (h.cellB (cells3 p dv)) (WL.v (run_eqlF rfl rfl (by omega)) (WL.nil ?_))))))
  refine W.cs ?_
  refine W.draw Tryz.follows h (fun w h => ?_)
  refine WT.m 0 rfl (WT.m 1 rfl (WT.n 2 rfl rfl (WT.f 3 16 rfl underlying179 rfl sizeOf138 rfl rfl (WT.l 4 rfl isAgg138 rfl (h.cellB rfl) (WT.f 5 0 rfl underlying187 rfl sizeOf24 rfl rfl (WT.l 6 rfl isAgg24 rfl (h.cellB rfl) (WT.loadN (vs := qv0) 7 rfl (by kernel_rfl) isAgg44 sizeOf44 rfl rfl (h.rowV (n := 5) rfl) rfl rfl ?_)))))))
  refine WT.p 8 rfl (fun w' => (run_buildS (pl := [(0, 1), (1, 5)]) (out := [.int .u32 _, .int .i64 _, .int .i64 _, .int .i64 _, .slice _ _ _, .int .i64 _]) underlying141 zeroValue141 (fun w => by kernel_rfl) rfl (⟨⟨_, _, rfl, rfl, by decide⟩, ⟨⟨_, _, rfl, rfl, by decide⟩, trivial⟩⟩) rfl)) ?_
  refine WT.e 9 [false, false, true] rfl (eff_mkSlice (zl := [.int .u32 0, .int .i64 0, .int .i64 0, .int .i64 0, .slice none 0 0, .int .i64 0]) (out := [.int .u32 _, .int .i64 _, .int .i64 _, .int .i64 _, .slice _ _ _, .int .i64 _]) h underlying138 sizeOf141 zeroValue141 (by decide) (by kernel_rfl) rfl rfl (by simp) (⟨⟨_, _, rfl, rfl, by decide⟩, trivial⟩) rfl rfl (by simp [maxLen])) ?_
  rintro _ w ⟨b66, rfl, h⟩
  refine ⟨⟨h.cellB rfl, trivial⟩, ?_⟩
  refine WT.e 10 [false] rfl (eff_app0 (c2 := 1) (bytes := 64) (h.fetch (Own 6 (.slice x.ad 0 x.cd) 0 [])) rfl rfl (h.cellsO (v := .slice (some ⟨b66, 0, none⟩) 1 1)) underlying138 rfl rfl rfl rfl rfl (by omega) (by omega) (by simp [Value.oneCell'])) ?_
  rintro v67 w ⟨a67, c67, hv67, h⟩
  subst hv67
  refine ⟨trivial, ?_⟩
  refine WT.n 11 rfl rfl (WT.f 12 16 rfl underlying179 rfl sizeOf138 rfl rfl (WT.e 13 [] rfl (eff_store (v := .slice _ _ _) h sizeOf138 rfl rfl rfl rfl rfl) ?_))
  rintro _ w h
  try simp only [Nat.zero_add, Nat.add_zero, List.set_cons_zero, List.set_cons_succ] at h
  refine ⟨trivial, ?_⟩
  refine WT.dn (bodyQ.fall (bodyQ.r0 results156 ?_))
  have hst0 : (p.st : Int) = 0 := by omega
  rw [hst0] at h
  have h : On W0 (Own 6 (.slice a67 1 c67) 1 (dnCells (a.tag, a.hav) (y.ah, a.hav.length)) :: _) w := h
  refine closeCl (c := ({ c with l := none, done := some (a.tag, a.hav) } : Cl)) ⟨x.br, some ⟨ba, oa, none⟩, x.cl, x.aw, x.cs, a67, c67⟩ ⟨ok1, ok2, ok3, ok4, ok5⟩ ?_
  show On W0 (blk bc [.string ⟨c.p.name.toArray⟩, .int .i64 (c.p.maxd : Int), .int .i64 (c.p.burst : Int), .bool c.p.imm, .bool c.p.dig, .pointer (some ⟨x.br, 0, none⟩), .bool c.open_, .bool false, .bool c.asked, .bool false, .bool false, .int .u32 (c.sn : Int), .int .u32 (c.max : Int), .int .u32 (c.tag : Int), .slice (some ⟨ba, oa, none⟩) (0) x.cl, .slice x.aw c.say.length x.cs, .slice a67 (1) c67] 179 :: RdrP 117 x.br c.r :: LsP (some ⟨ba, oa, none⟩) x.cl none :: OwnB (.slice x.aw c.say.length x.cs) c.say :: DnP a67 c67 (some (a.tag, a.hav)) :: L) w
  have h : On W0 (DnP a67 c67 (some (a.tag, a.hav)) :: _) w := closeDn (d := (a.tag, a.hav)) (y.ah, a.hav.length) (h.to (T := Own 6 (.slice a67 1 c67) 1 (dnCells (a.tag, a.hav) (y.ah, a.hav.length)) :: OwnB (.slice y.ah a.hav.length a.hav.length) a.hav :: blk bc [.string ⟨c.p.name.toArray⟩, .int .i64 (c.p.maxd : Int), .int .i64 (c.p.burst : Int), .bool c.p.imm, .bool c.p.dig, .pointer (some ⟨x.br, 0, none⟩), .bool c.open_, .bool false, .bool c.asked, .bool false, .bool false, .int .u32 (c.sn : Int), .int .u32 (c.max : Int), .int .u32 (c.tag : Int), .slice (some ⟨ba, oa, none⟩) (0) x.cl, .slice x.aw c.say.length x.cs, .slice a67 (1) c67] 179 :: RdrP 117 x.br c.r :: Own 6 (.slice (some ⟨ba, oa, none⟩) 0 x.cl) 0 [] :: OwnB (.slice x.aw c.say.length x.cs) c.say :: L))
  have h := h.fetch (Own 6 (.slice (some ⟨ba, oa, none⟩) 0 x.cl) 0 [])
  have h : On W0 (LsP (some ⟨ba, oa, none⟩) x.cl none :: _) w := h
  exact h.to
 refine WT.opOf 6 [true, true] rfl (by kernel_rfl) (eff_alloc h zeroValue44 rfl) rfl rfl ?_
 rintro _ w ⟨b7, rfl, h⟩
 refine ⟨⟨h.cellB rfl, h.cellB (cells3 p dv), trivial⟩, ?_⟩
 refine WT.e 4 [false, true] rfl (eff_call call43 (clip_bytes (h.own (.slice y.ah a.hav.length y.ch)))) ?_
 rintro _ w ⟨rfl, h⟩
 refine ⟨⟨h.cellB (cells3 p dv), trivial⟩, ?_⟩
 refine WT.p 5 rfl (fun w' => (run_buildS (pl := qp0) (out := qv0) underlying44 zeroValue44 (fun w => by kernel_rfl) rfl (⟨⟨_, _, rfl, rfl, by decide⟩, ⟨⟨_, _, rfl, rfl, by decide⟩, trivial⟩⟩) rfl)) (WT.e 7 [false] rfl (eff_storeW (vs := qv0) h sizeOf44 rfl rfl rfl rfl rfl) ?_)
 rintro _ w h
 refine ⟨trivial, ?_⟩
 refine WT.dn (W.seq (W.sr (WL.f 3 underlying36 rfl sizeOf3 rfl rfl (WL.l isAgg3 rfl (h.cellB (cells3 p dv)) (WL.v (run_eqlF rfl rfl (by omega)) (WL.nil ?_))))))
 refine W.cs ?_
 refine W.draw Tryz.follows h (fun w h => ?_)
 refine WT.m 0 rfl (WT.m 1 rfl (WT.n 2 rfl rfl (WT.f 3 16 rfl underlying179 rfl sizeOf138 rfl rfl (WT.l 4 rfl isAgg138 rfl (h.cellB rfl) (WT.f 5 0 rfl underlying187 rfl sizeOf24 rfl rfl (WT.l 6 rfl isAgg24 rfl (h.cellB rfl) (WT.loadN (vs := qv0) 7 rfl (by kernel_rfl) isAgg44 sizeOf44 rfl rfl (h.rowV (n := 5) rfl) rfl rfl ?_)))))))
 refine WT.p 8 rfl (fun w' => (run_buildS (pl := [(0, 1), (1, 5)]) (out := [.int .u32 _, .int .i64 _, .int .i64 _, .int .i64 _, .slice _ _ _, .int .i64 _]) underlying141 zeroValue141 (fun w => by kernel_rfl) rfl (⟨⟨_, _, rfl, rfl, by decide⟩, ⟨⟨_, _, rfl, rfl, by decide⟩, trivial⟩⟩) rfl)) ?_
 refine WT.e 9 [false, false, true] rfl (eff_mkSlice (zl := [.int .u32 0, .int .i64 0, .int .i64 0, .int .i64 0, .slice none 0 0, .int .i64 0]) (out := [.int .u32 _, .int .i64 _, .int .i64 _, .int .i64 _, .slice _ _ _, .int .i64 _]) h underlying138 sizeOf141 zeroValue141 (by decide) (by kernel_rfl) rfl rfl (by simp) (⟨⟨_, _, rfl, rfl, by decide⟩, trivial⟩) rfl rfl (by simp [maxLen])) ?_
 rintro _ w ⟨b66, rfl, h⟩
 refine ⟨⟨h.cellB rfl, trivial⟩, ?_⟩
 refine WT.e 10 [false] rfl (eff_app0 (c2 := 1) (bytes := 64) (h.fetch (Own 6 (.slice x.ad 0 x.cd) 0 [])) rfl rfl (h.cellsO (v := .slice (some ⟨b66, 0, none⟩) 1 1)) underlying138 rfl rfl rfl rfl rfl (by omega) (by omega) (by simp [Value.oneCell'])) ?_
 rintro v67 w ⟨a67, c67, hv67, h⟩
 subst hv67
 refine ⟨trivial, ?_⟩
 refine WT.n 11 rfl rfl (WT.f 12 16 rfl underlying179 rfl sizeOf138 rfl rfl (WT.e 13 [] rfl (eff_store (v := .slice _ _ _) h sizeOf138 rfl rfl rfl rfl rfl) ?_))
 rintro _ w h
 try simp only [Nat.zero_add, Nat.add_zero, List.set_cons_zero, List.set_cons_succ] at h
 refine ⟨trivial, ?_⟩
 refine WT.dn (bodyQ.fall (bodyQ.r0 results156 ?_))
 have hst0 : (p.st : Int) = 0 := by omega
 rw [hst0] at h
 have h : On W0 (Own 6 (.slice a67 1 c67) 1 (dnCells (a.tag, a.hav) (y.ah, a.hav.length)) :: _) w := h
 refine closeCl (c := ({ c with l := none, done := some (a.tag, a.hav) } : Cl)) ⟨x.br, some ⟨ba, oa, none⟩, x.cl, x.aw, x.cs, a67, c67⟩ ⟨ok1, ok2, ok3, ok4, ok5⟩ ?_
 show On W0 (blk bc [.string ⟨c.p.name.toArray⟩, .int .i64 (c.p.maxd : Int), .int .i64 (c.p.burst : Int), .bool c.p.imm, .bool c.p.dig, .pointer (some ⟨x.br, 0, none⟩), .bool c.open_, .bool false, .bool c.asked, .bool false, .bool false, .int .u32 (c.sn : Int), .int .u32 (c.max : Int), .int .u32 (c.tag : Int), .slice (some ⟨ba, oa, none⟩) (0) x.cl, .slice x.aw c.say.length x.cs, .slice a67 (1) c67] 179 :: RdrP 117 x.br c.r :: LsP (some ⟨ba, oa, none⟩) x.cl none :: OwnB (.slice x.aw c.say.length x.cs) c.say :: DnP a67 c67 (some (a.tag, a.hav)) :: L) w
 have h : On W0 (DnP a67 c67 (some (a.tag, a.hav)) :: _) w := closeDn (d := (a.tag, a.hav)) (y.ah, a.hav.length) (h.to (T := Own 6 (.slice a67 1 c67) 1 (dnCells (a.tag, a.hav) (y.ah, a.hav.length)) :: OwnB (.slice y.ah a.hav.length a.hav.length) a.hav :: blk bc [.string ⟨c.p.name.toArray⟩, .int .i64 (c.p.maxd : Int), .int .i64 (c.p.burst : Int), .bool c.p.imm, .bool c.p.dig, .pointer (some ⟨x.br, 0, none⟩), .bool c.open_, .bool false, .bool c.asked, .bool false, .bool false, .int .u32 (c.sn : Int), .int .u32 (c.max : Int), .int .u32 (c.tag : Int), .slice (some ⟨ba, oa, none⟩) (0) x.cl, .slice x.aw c.say.length x.cs, .slice a67 (1) c67] 179 :: RdrP 117 x.br c.r :: Own 6 (.slice (some ⟨ba, oa, none⟩) 0 x.cl) 0 [] :: OwnB (.slice x.aw c.say.length x.cs) c.say :: L))
 have h := h.fetch (Own 6 (.slice (some ⟨ba, oa, none⟩) 0 x.cl) 0 [])
 have h : On W0 (LsP (some ⟨ba, oa, none⟩) x.cl none :: _) w := h
 exact h.to
theorem took_some {c c' : Cl} {p : Pd} (h : c.took p = some c') : ∃ a, c.l = some a ∧ a.tag = p.tag ∧ ((p.op = 37 ∧ p.off = a.hav.length ∧ a.hav.length < 4096 ∧ p.data.length ≤ 4096 ∧ c' = { c with l := some { a with hav := a.hav ++ p.data } }) ∨ (p.op = 33 ∧ p.st = 0 ∧ c.done = none ∧ c' = { c with l := none, done := some (a.tag, a.hav) })) := by
 unfold Cl.took at h
 split at h
 · cases h
 rename_i a ha
 split at h
 · cases h
 rename_i ht
 refine ⟨a, ha, Decidable.not_not.1 ht, ?_⟩
 split at h
 · rename_i h1
   split at h
   · rename_i h2; cases h; exact .inl ⟨h1, h2.1, h2.2.1, h2.2.2, rfl⟩
   cases h
 split at h
 · rename_i h2; cases h; exact .inr ⟨h2.1, h2.2.1, by simpa using h2.2.2, rfl⟩
 cases h
theorem take_some {c c' : Cl} {p : Pd} (h : c.take p = some c') : (c.open_ = false ∧ c.login p = some c') ∨ (c.open_ = true ∧ (c.meet p).took p = some c') := by
 unfold Cl.take at h
 split at h
 · exact .inl ⟨by assumption, h⟩
 rename_i h1; exact .inr ⟨by simpa using h1, h⟩
theorem cltake_ok {m : Int} (G : Gives L (GlP m)) {bc : Nat} {c c' : Cl} {p : Pd} {ap : Option Addr} {cp : Nat} (hm : c.take p = some c') (hcd : p.cdb.length = 16) (hnu : ∀ v ∈ nums p, v < 4294967296) (h : On W0 (ClP 179 117 bc c :: L) w) (C : Gives L (Bytes (.slice ap p.data.length cp) p.data)) : Calls Tryz.prog 135 #[.pointer (some ⟨bc, 0, none⟩), .agg (Pd.cells p (.slice ap p.data.length cp)).toArray] w (Ret fun v w' => On W0 (ClP 179 117 bc c' :: L) w') := by
 refine enter func135 rfl ntmps135 rfl ?_
 have hmx := maxLen_eq
 have htk := take_some hm
 have ho_ := openCl h
 obtain ⟨x, hok, h⟩ := ho_
 have h : On W0 (blk bc [.string ⟨c.p.name.toArray⟩, .int .i64 (c.p.maxd : Int), .int .i64 (c.p.burst : Int), .bool c.p.imm, .bool c.p.dig, .pointer (some ⟨x.br, 0, none⟩), .bool c.open_, .bool false, .bool c.asked, .bool false, .bool false, .int .u32 (c.sn : Int), .int .u32 (c.max : Int), .int .u32 (c.tag : Int), .slice x.al (nL c.l) x.cl, .slice x.aw c.say.length x.cs, .slice x.ad (nD c.done) x.cd] 179 :: _) w := h
 have hok0 := hok
 obtain ⟨ok1, ok2, ok3, ok4, ok5⟩ := hok
 clear hm
 have hn3 : p.max < 4294967296 := hnu _ (by simp [nums])
 have hn4 : p.off < 4294967296 := hnu _ (by simp [nums])
 refine W.sr (WL.e (eff_box (v := .agg (Pd.cells p (.slice ap p.data.length cp)).toArray) (l := Pd.cells p (.slice ap p.data.length cp)) h rfl rfl) ?_)
 rintro _ w ⟨b3, rfl, h⟩
 refine WL.nil (W.seq (W.sr (WL.m (WL.n rfl (WL.c 6 underlying179 rfl sizeOf4 rfl isAgg4 h rfl ?_)))))
 refine WL.v (run_not rfl) (WL.nil ?_)
 refine W.condB rfl (fun c2 => ?_) (fun c2 => ?_)
 ·
  have hop : c.open_ = false := by simpa using c2
  have hlg : c.login p = some c' := by
    rcases htk with ⟨_, q⟩ | ⟨q, _⟩
    · exact q
    rw [hop] at q; cases q
  refine W.seq ?_
  skip
  refine W.region (WL.m (WL.v (run_loadB (vs := Pd.cells p (.slice ap p.data.length cp)) h isAgg36 sizeOf36 rfl (List.take_of_length_le (Nat.le_of_eq (cells_len hcd))) (cells_len hcd)) ?_))
  refine WL.e (eff_call call152 (cllogin_ok (c := c) (Gives.to G) hlg hcd hnu (closeCl (c := c) x hok0 (h.to (T := blk bc [.string ⟨c.p.name.toArray⟩, .int .i64 (c.p.maxd : Int), .int .i64 (c.p.burst : Int), .bool c.p.imm, .bool c.p.dig, .pointer (some ⟨x.br, 0, none⟩), .bool c.open_, .bool false, .bool c.asked, .bool false, .bool false, .int .u32 (c.sn : Int), .int .u32 (c.max : Int), .int .u32 (c.tag : Int), .slice x.al (nL c.l) x.cl, .slice x.aw c.say.length x.cs, .slice x.ad (nD c.done) x.cd] 179 :: RdrP 117 x.br c.r :: LsP x.al x.cl c.l :: OwnB (.slice x.aw c.say.length x.cs) c.say :: DnP x.ad x.cd c.done :: blk b3 (Pd.cells p (.slice ap p.data.length cp)) 36 :: L))) (Gives.to C))) ?_
  rintro _ w h
  refine WL.nil (W.ret (bodyQ.r0 results135 ?_))
  exact h.to
 have hop : c.open_ = true := by simpa using c2
 have hto : (c.meet p).took p = some c' := by
   rcases htk with ⟨q, _⟩ | ⟨_, q⟩
   · rw [hop] at q; cases q
   exact q
 refine W.skip ?_
 refine W.cut (fun env w => ∃ (j : Env) (c1 : Cl), c1 = (c.meet p) ∧ okCl c1 ∧ env = mkE j [(0, .pointer (some ⟨bc, 0, none⟩)), (3, .pointer (some ⟨b3, 0, none⟩))] ∧ On W0 (blk bc [.string ⟨c1.p.name.toArray⟩, .int .i64 (c1.p.maxd : Int), .int .i64 (c1.p.burst : Int), .bool c1.p.imm, .bool c1.p.dig, .pointer (some ⟨x.br, 0, none⟩), .bool c1.open_, .bool false, .bool c1.asked, .bool false, .bool false, .int .u32 (c1.sn : Int), .int .u32 (c1.max : Int), .int .u32 (c1.tag : Int), .slice x.al (nL c1.l) x.cl, .slice x.aw c1.say.length x.cs, .slice x.ad (nD c1.done) x.cd] 179 :: RdrP 117 x.br c1.r :: LsP x.al x.cl c1.l :: OwnB (.slice x.aw c1.say.length x.cs) c1.say :: DnP x.ad x.cd c1.done :: blk b3 (Pd.cells p (.slice ap p.data.length cp)) 36 :: L) w) ?_ ?_
 ·
  refine W.seq ?_
  refine W.draw Tryz.follows h (fun w h => ?_)
  refine WT.m 0 rfl (WT.n 1 rfl rfl (WT.f 2 12 rfl underlying179 rfl sizeOf24 rfl rfl (WT.l 3 rfl isAgg24 rfl (h.cellB rfl) (WT.f 4 7 rfl underlying36 rfl sizeOf24 rfl rfl (WT.l 5 rfl isAgg24 rfl (h.cellB (cells7 p _)) (WT.e 6 [false, false] rfl (eff_call call153 (gless_ok ok3 hn3 h)) ?_))))))
  rintro _ w ⟨g, hg, rfl, h⟩
  refine ⟨trivial, ?_⟩
  refine WT.dn ?_
  refine W.condIf rfl (fun c7 => ?_) (fun c7 => ?_)
  ·
   refine W.region (WL.m (WL.f 7 underlying36 rfl sizeOf24 rfl rfl (WL.l isAgg24 rfl (h.cellB (cells7 p _)) (WL.n rfl (WL.f 12 underlying179 rfl sizeOf24 rfl rfl (WL.e (eff_store (v := .int .u32 (p.max : Int)) h sizeOf24 rfl rfl rfl rfl rfl) ?_))))))
   rintro _ w h
   try simp only [Nat.zero_add, Nat.add_zero, List.set_cons_zero, List.set_cons_succ] at h
   refine WL.nil ?_
   have em : c.meet p = { c with max := p.max } := by unfold Cl.meet; rw [if_pos (by rw [← show g = gapM c.max p.max from hg]; exact c7)]
   exact ⟨_, _, em.symm, ⟨ok1, ok2, hn3, ok4, ok5⟩, mkE_of ⟨rfl, rfl, trivial⟩, h.to⟩
  refine W.skip ?_
  have em : c.meet p = c := by unfold Cl.meet; rw [if_neg (by rw [← show g = gapM c.max p.max from hg]; exact c7)]
  exact ⟨_, _, em.symm, hok0, mkE_of ⟨rfl, rfl, trivial⟩, h.to⟩
 clear h hok0 ok1 ok2 ok3 ok4 ok5
 rintro env w ⟨j, c1, hc1, hok, rfl, h⟩
 rw [← hc1] at hto
 have hts := took_some hto
 obtain ⟨a, hl, htg, hcs⟩ := hts
 have e1 : nL c1.l = 1 := by rw [hl]; rfl
 have hok0 := hok
 obtain ⟨ok1, ok2, ok3, ok4, ok5⟩ := hok
 rw [e1] at h
 have h := h.fetch (LsP x.al x.cl c1.l)
 rw [hl] at h
 have hop_ := openLs h
 obtain ⟨y, hoka, h⟩ := hop_
 have had_ := (h.cellsO (v := .slice x.al 1 x.cl)).addr (by decide)
 obtain ⟨ba, oa, hal⟩ := had_
 rw [hal] at h
 have h : On W0 (Own 6 (.slice (some ⟨ba, oa, none⟩) 1 x.cl) 1 (akCells a y) :: OwnB (.slice y.ac a.cdb.length y.cc) a.cdb :: OwnB (.slice y.ad a.data.length y.cd) a.data :: OwnB (.slice y.ah a.hav.length y.ch) a.hav :: blk bc [.string ⟨c1.p.name.toArray⟩, .int .i64 (c1.p.maxd : Int), .int .i64 (c1.p.burst : Int), .bool c1.p.imm, .bool c1.p.dig, .pointer (some ⟨x.br, 0, none⟩), .bool c1.open_, .bool false, .bool c1.asked, .bool false, .bool false, .int .u32 (c1.sn : Int), .int .u32 (c1.max : Int), .int .u32 (c1.tag : Int), .slice (some ⟨ba, oa, none⟩) (1) x.cl, .slice x.aw c1.say.length x.cs, .slice x.ad (nD c1.done) x.cd] 179 :: _) w := h
 have hoka0 := hoka
 obtain ⟨hk1, hk2, hk3, hk4⟩ := hoka
 refine W.sr (WL.m (WL.f 4 underlying36 rfl sizeOf24 rfl rfl (WL.l isAgg24 rfl (h.cellB (v := .int .u32 (a.tag : Int)) (by rw [htg]; rfl)) ?_)))
 refine WL.e (eff_call call154 (clfind_ok (c := c1) (x := ({ x with al := some ⟨ba, oa, none⟩ } : ClA)) (a := a) (y := y) hl (((h.fetch (Own 6 (.slice (some ⟨ba, oa, none⟩) 1 x.cl) 1 (akCells a y))).fetch (blk bc [.string ⟨c1.p.name.toArray⟩, .int .i64 (c1.p.maxd : Int), .int .i64 (c1.p.burst : Int), .bool c1.p.imm, .bool c1.p.dig, .pointer (some ⟨x.br, 0, none⟩), .bool c1.open_, .bool false, .bool c1.asked, .bool false, .bool false, .int .u32 (c1.sn : Int), .int .u32 (c1.max : Int), .int .u32 (c1.tag : Int), .slice (some ⟨ba, oa, none⟩) (1) x.cl, .slice x.aw c1.say.length x.cs, .slice x.ad (nD c1.done) x.cd] 179)).headEq (show _ = blk bc (clCells c1 ({ x with al := some ⟨ba, oa, none⟩ } : ClA)) 179 by unfold clCells; rw [e1])))) ?_
 rintro _ w ⟨rfl, h⟩
 have h : On W0 (blk bc [.string ⟨c1.p.name.toArray⟩, .int .i64 (c1.p.maxd : Int), .int .i64 (c1.p.burst : Int), .bool c1.p.imm, .bool c1.p.dig, .pointer (some ⟨x.br, 0, none⟩), .bool c1.open_, .bool false, .bool c1.asked, .bool false, .bool false, .int .u32 (c1.sn : Int), .int .u32 (c1.max : Int), .int .u32 (c1.tag : Int), .slice (some ⟨ba, oa, none⟩) (nL c1.l) x.cl, .slice x.aw c1.say.length x.cs, .slice x.ad (nD c1.done) x.cd] 179 :: _) w := h
 rw [e1] at h
 refine WL.z (W.sr (WL.c 0 underlying36 rfl sizeOf3 rfl isAgg3 h rfl (WL.nil ?_)))
 have hop2 : p.op = 37 ∨ p.op = 33 := by rcases hcs with ⟨q, _⟩ | ⟨q, _⟩ <;> omega
 refine W.block (W.sr (WL.v (run_eqlF rfl rfl (by omega)) (WL.z (W.cf (W.seq ?_)))))
 refine W.region (WL.v (run_eqlF rfl rfl (by omega)) (WL.z (W.cf (W.sr (WL.v (run_eql rfl rfl) ?_)))))
 refine WL.z ?_
 refine W.condIf rfl (fun c23 => ?_) (fun c23 => ?_)
 ·
  have hcs2 : p.off = a.hav.length ∧ a.hav.length < 4096 ∧ p.data.length ≤ 4096 ∧ c' = { c1 with l := some ({ a with hav := a.hav ++ p.data } : Ak) } := by
    rcases hcs with ⟨_, q⟩ | ⟨q, _⟩
    · exact q
    omega
  obtain ⟨hof, hhl, hpl, hc'⟩ := hcs2
  subst hc'
  refine W.seq ?_
  refine W.draw Tryz.follows h (fun w h => ?_)
  refine WT.m 0 rfl (WT.p 1 rfl (fun w' => run_geqT rfl rfl (by decide)) (WT.m 2 rfl (WT.f 3 8 rfl underlying36 rfl sizeOf24 rfl rfl (WT.l 4 rfl isAgg24 rfl (h.cellB (cells8 p _)) (WT.p 5 rfl (fun w' => (run_convIn underlying24 underlying27 rfl (by show (0 : Int) ≤ _; omega) (by show _ ≤ (18446744073709551615 : Int); omega))) (WT.m 6 rfl (WT.n 7 rfl rfl ?_)))))))
  refine WT.f 8 14 rfl underlying179 rfl sizeOf177 rfl rfl (WT.l 9 rfl isAgg177 rfl (h.cellB rfl) (WT.m 10 rfl (WT.p 11 rfl (fun w' => (run_indexAddr underlying177 sizeOf187 rfl rfl (by omega) (by omega))) (WT.f 12 3 rfl underlying187 rfl sizeOf26 rfl rfl (WT.l 13 rfl isAgg26 rfl ((h.cellsO (v := .slice (some ⟨ba, oa, none⟩) 1 x.cl)).elem (i := 0) (vs := akCells a y) (by decide) rfl 3 _ rfl) (WT.p 14 rfl (fun w' => (run_lenSlice underlying26 rfl)) (WT.p 15 rfl (fun w' => (run_convIn underlying3 underlying27 rfl (by show (0 : Int) ≤ _; omega) (by show _ ≤ (18446744073709551615 : Int); omega))) ?_)))))))
  refine WT.p 16 rfl (fun w' => run_eqlT rfl rfl (by omega)) (WT.p 17 rfl (fun w' => (run_pickT rfl)) (WT.m 18 rfl (WT.m 19 rfl (WT.n 20 rfl rfl (WT.f 21 14 rfl underlying179 rfl sizeOf177 rfl rfl (WT.l 22 rfl isAgg177 rfl (h.cellB rfl) (WT.m 23 rfl ?_)))))))
  refine WT.p 24 rfl (fun w' => (run_indexAddr underlying177 sizeOf187 rfl rfl (by omega) (by omega))) (WT.f 25 3 rfl underlying187 rfl sizeOf26 rfl rfl (WT.l 26 rfl isAgg26 rfl ((h.cellsO (v := .slice (some ⟨ba, oa, none⟩) 1 x.cl)).elem (i := 0) (vs := akCells a y) (by decide) rfl 3 _ rfl) (WT.p 27 rfl (fun w' => (run_lenSlice underlying26 rfl)) (WT.p 28 rfl (fun w' => run_lssT rfl rfl (by omega)) (WT.p 29 rfl (fun w' => (run_pickT rfl)) (WT.dn (W.ct ?_)))))))
  refine W.draw Tryz.follows h (fun w h => ?_)
  refine WT.m 0 rfl (WT.n 1 rfl rfl (WT.f 2 14 rfl underlying179 rfl sizeOf177 rfl rfl (WT.l 3 rfl isAgg177 rfl (h.cellB rfl) (WT.m 4 rfl (WT.m 5 rfl (WT.n 6 rfl rfl (WT.f 7 14 rfl underlying179 rfl sizeOf177 rfl rfl ?_)))))))
  refine WT.l 8 rfl isAgg177 rfl (h.cellB rfl) (WT.m 9 rfl (WT.p 10 rfl (fun w' => (run_indexAddr underlying177 sizeOf187 rfl rfl (by omega) (by omega))) (WT.f 11 3 rfl underlying187 rfl sizeOf26 rfl rfl (WT.l 12 rfl isAgg26 rfl ((h.cellsO (v := .slice (some ⟨ba, oa, none⟩) 1 x.cl)).elem (i := 0) (vs := akCells a y) (by decide) rfl 3 _ rfl) (WT.f 13 26 rfl underlying36 rfl sizeOf26 rfl rfl (WT.l 14 rfl isAgg26 rfl (h.cellB (cells_data hcd)) (WT.e 15 [false, false, false, true] rfl (eff_app (c2 := cp) (bytes := 1) (h.own (.slice y.ah a.hav.length y.ch)) rfl rfl (h.readsTo C) underlying26 rfl rfl rfl rfl rfl (by omega) (by omega) bytes_one) ?_)))))))
  rintro v96 w ⟨a96, c96, hv96, h⟩
  have el : a.hav.length + p.data.length = (a.hav ++ p.data).length := List.length_append.symm
  have ev : bytesV a.hav ++ bytesV p.data = bytesV (a.hav ++ p.data) := by simp [bytesV]
  rw [ev, el] at h
  rw [el] at hv96
  subst hv96
  refine ⟨⟨h.cellB rfl, trivial⟩, ?_⟩
  refine WT.p 16 rfl (fun w' => (run_indexAddr underlying177 sizeOf187 rfl rfl (by omega) (by omega))) (WT.f 17 3 rfl underlying187 rfl sizeOf26 rfl rfl (WT.e 18 [false] rfl (eff_storeOwn (k := 3) (v := .slice a96 (a.hav ++ p.data).length c96) (h.own (.slice (some ⟨ba, oa, none⟩) 1 x.cl)) sizeOf26 rfl rfl rfl (by decide)) ?_))
  rintro _ w h
  have h : On W0 (Own 6 (.slice (some ⟨ba, oa, none⟩) 1 x.cl) 1 (akCells ({ a with hav := a.hav ++ p.data } : Ak) (⟨y.ac, y.cc, y.ad, y.cd, a96, c96⟩ : AkA)) :: _) w := h
  refine ⟨trivial, ?_⟩
  refine WT.dn (bodyQ.fall (bodyQ.r0 results135 ?_))
  refine closeCl (c := { c1 with l := some ({ a with hav := a.hav ++ p.data } : Ak) }) ({ x with al := some ⟨ba, oa, none⟩ } : ClA) ⟨ok1, ok2, ok3, ok4, ok5⟩ ?_
  have h : On W0 (LsP (some ⟨ba, oa, none⟩) x.cl (some ({ a with hav := a.hav ++ p.data } : Ak)) :: _) w := closeLs (⟨y.ac, y.cc, y.ad, y.cd, a96, c96⟩ : AkA) ⟨hk1, hk2, hk3, by show (a.hav ++ p.data).length ≤ 8192; rw [List.length_append]; omega⟩ (h.to (T := Own 6 (.slice (some ⟨ba, oa, none⟩) 1 x.cl) 1 (akCells ({ a with hav := a.hav ++ p.data } : Ak) (⟨y.ac, y.cc, y.ad, y.cd, a96, c96⟩ : AkA)) :: OwnB (.slice y.ac a.cdb.length y.cc) a.cdb :: OwnB (.slice y.ad a.data.length y.cd) a.data :: OwnB (.slice a96 (a.hav ++ p.data).length c96) (a.hav ++ p.data) :: blk bc [.string ⟨c1.p.name.toArray⟩, .int .i64 (c1.p.maxd : Int), .int .i64 (c1.p.burst : Int), .bool c1.p.imm, .bool c1.p.dig, .pointer (some ⟨x.br, 0, none⟩), .bool c1.open_, .bool false, .bool c1.asked, .bool false, .bool false, .int .u32 (c1.sn : Int), .int .u32 (c1.max : Int), .int .u32 (c1.tag : Int), .slice (some ⟨ba, oa, none⟩) (1) x.cl, .slice x.aw c1.say.length x.cs, .slice x.ad (nD c1.done) x.cd] 179 :: RdrP 117 x.br c1.r :: OwnB (.slice x.aw c1.say.length x.cs) c1.say :: DnP x.ad x.cd c1.done :: L))
  show On W0 (blk bc [.string ⟨c1.p.name.toArray⟩, .int .i64 (c1.p.maxd : Int), .int .i64 (c1.p.burst : Int), .bool c1.p.imm, .bool c1.p.dig, .pointer (some ⟨x.br, 0, none⟩), .bool c1.open_, .bool false, .bool c1.asked, .bool false, .bool false, .int .u32 (c1.sn : Int), .int .u32 (c1.max : Int), .int .u32 (c1.tag : Int), .slice (some ⟨ba, oa, none⟩) (1) x.cl, .slice x.aw c1.say.length x.cs, .slice x.ad (nD c1.done) x.cd] 179 :: RdrP 117 x.br c1.r :: LsP (some ⟨ba, oa, none⟩) x.cl (some ({ a with hav := a.hav ++ p.data } : Ak)) :: OwnB (.slice x.aw c1.say.length x.cs) c1.say :: DnP x.ad x.cd c1.done :: L) w
  exact h.to
 have hcs2 : p.st = 0 ∧ c1.done = none ∧ c' = { c1 with l := none, done := some (a.tag, a.hav) } := by
   rcases hcs with ⟨q, _⟩ | ⟨_, q⟩
   · omega
   exact q
 obtain ⟨hst, hdn, hc'⟩ := hcs2
 subst hc'
 refine W.sr (WL.v (run_eqlT rfl rfl (by omega)) (WL.z (W.ct (W.sr ?_))))
 refine WL.m (WL.v (run_geqT rfl rfl (by decide)) (WL.nil (W.ct (W.region (WL.m (WL.m (WL.v (run_loadB (vs := Pd.cells p (.slice ap p.data.length cp)) h isAgg36 sizeOf36 rfl (List.take_of_length_le (Nat.le_of_eq (cells_len hcd))) (cells_len hcd)) ?_)))))))
 refine WL.e (eff_call call156 (clrespond_ok (c := c1) (a := a) (p := p) (dv := (.slice ap p.data.length cp)) hl hdn hst hcd (closeCl (c := c1) ({ x with al := some ⟨ba, oa, none⟩ } : ClA) hok0 (by
   have h : On W0 (LsP (some ⟨ba, oa, none⟩) x.cl (some a) :: _) w := closeLs y hoka0 (h.to (T := Own 6 (.slice (some ⟨ba, oa, none⟩) 1 x.cl) 1 (akCells a y) :: OwnB (.slice y.ac a.cdb.length y.cc) a.cdb :: OwnB (.slice y.ad a.data.length y.cd) a.data :: OwnB (.slice y.ah a.hav.length y.ch) a.hav :: blk bc [.string ⟨c1.p.name.toArray⟩, .int .i64 (c1.p.maxd : Int), .int .i64 (c1.p.burst : Int), .bool c1.p.imm, .bool c1.p.dig, .pointer (some ⟨x.br, 0, none⟩), .bool c1.open_, .bool false, .bool c1.asked, .bool false, .bool false, .int .u32 (c1.sn : Int), .int .u32 (c1.max : Int), .int .u32 (c1.tag : Int), .slice (some ⟨ba, oa, none⟩) (1) x.cl, .slice x.aw c1.say.length x.cs, .slice x.ad (nD c1.done) x.cd] 179 :: RdrP 117 x.br c1.r :: OwnB (.slice x.aw c1.say.length x.cs) c1.say :: DnP x.ad x.cd c1.done :: blk b3 (Pd.cells p (.slice ap p.data.length cp)) 36 :: L))
   rw [← hl] at h
   have h := (h.fetch (blk bc [.string ⟨c1.p.name.toArray⟩, .int .i64 (c1.p.maxd : Int), .int .i64 (c1.p.burst : Int), .bool c1.p.imm, .bool c1.p.dig, .pointer (some ⟨x.br, 0, none⟩), .bool c1.open_, .bool false, .bool c1.asked, .bool false, .bool false, .int .u32 (c1.sn : Int), .int .u32 (c1.max : Int), .int .u32 (c1.tag : Int), .slice (some ⟨ba, oa, none⟩) (1) x.cl, .slice x.aw c1.say.length x.cs, .slice x.ad (nD c1.done) x.cd] 179)).headEq (show _ = blk bc (clCells c1 ({ x with al := some ⟨ba, oa, none⟩ } : ClA)) 179 by unfold clCells; rw [e1])
   exact h.to (T := blk bc (clCells c1 ({ x with al := some ⟨ba, oa, none⟩ } : ClA)) 179 :: RdrP 117 ({ x with al := some ⟨ba, oa, none⟩ } : ClA).br c1.r :: LsP ({ x with al := some ⟨ba, oa, none⟩ } : ClA).al ({ x with al := some ⟨ba, oa, none⟩ } : ClA).cl c1.l :: OwnB (.slice ({ x with al := some ⟨ba, oa, none⟩ } : ClA).aw c1.say.length ({ x with al := some ⟨ba, oa, none⟩ } : ClA).cs) c1.say :: DnP ({ x with al := some ⟨ba, oa, none⟩ } : ClA).ad ({ x with al := some ⟨ba, oa, none⟩ } : ClA).cd c1.done :: blk b3 (Pd.cells p (.slice ap p.data.length cp)) 36 :: L))))) ?_
 rintro _ w h
 refine WL.nil (bodyQ.fall (bodyQ.r0 results135 ?_))
 exact h.to
theorem cin_some {c c' : Cl} {b : List UInt8} (h : c.in_ b = some c') : c.r.b.length + b.length ≤ 900000 ∧ Cl.inK (b.length + 1) { c with r := c.r.put b } = some c' := by
 unfold Cl.in_ at h
 split at h
 · exact ⟨by assumption, h⟩
 cases h
theorem cinK_some {f : Nat} {c c' : Cl} (h : Cl.inK f c = some c') : ∃ f', f = f' + 1 ∧ c.r.b.length ≤ 900000 ∧ ((c.r.next.1.2 = true ∧ ∃ c2, Cl.take { c with r := c.r.next.2 } c.r.next.1.1 = some c2 ∧ Cl.inK f' c2 = some c') ∨ (c.r.next.1.2 = false ∧ c.r.next.2.err = 0 ∧ c' = { c with r := c.r.next.2 })) := by
 match f, h with
 | f + 1, h =>
   unfold Cl.inK at h
   split at h
   · cases h
   rename_i h1
   refine ⟨f, rfl, by omega, ?_⟩
   split at h
   · rename_i h2
     cases ht : Cl.take { c with r := c.r.next.2 } c.r.next.1.1 with
     | none => rw [ht] at h; cases h
     | some c2 => rw [ht] at h; exact .inl ⟨h2, c2, rfl, h⟩
   rename_i h2
   split at h
   · rename_i h3; cases h; exact .inr ⟨by simpa using h2, h3, rfl⟩
   cases h
theorem clin_ok {ax : Option Addr} {cx : Nat} {bs : List UInt8} {m : Int} (G : Gives L (GlP m)) {bc : Nat} {c c' : Cl} (hm : c.in_ bs = some c') (h : On W0 (ClP 179 117 bc c :: L) w) (C : Gives L (Bytes (.slice ax bs.length cx) bs)) : Calls Tryz.prog 106 #[.pointer (some ⟨bc, 0, none⟩), .slice ax bs.length cx] w (Ret fun v w' => On W0 (ClP 179 117 bc c' :: L) w') := by
 refine enter func106 rfl ntmps106 rfl ?_
 have hmx := maxLen_eq
 have hci := cin_some hm
 obtain ⟨hlen, hik⟩ := hci
 have ho_ := openCl h
 obtain ⟨x, hok, h⟩ := ho_
 have h : On W0 (blk bc [.string ⟨c.p.name.toArray⟩, .int .i64 (c.p.maxd : Int), .int .i64 (c.p.burst : Int), .bool c.p.imm, .bool c.p.dig, .pointer (some ⟨x.br, 0, none⟩), .bool c.open_, .bool false, .bool c.asked, .bool false, .bool false, .int .u32 (c.sn : Int), .int .u32 (c.max : Int), .int .u32 (c.tag : Int), .slice x.al (nL c.l) x.cl, .slice x.aw c.say.length x.cs, .slice x.ad (nD c.done) x.cd] 179 :: _) w := h
 clear hm
 refine W.scope (W.seq (W.sr (WL.m (WL.n rfl (WL.c 7 underlying179 rfl sizeOf4 rfl isAgg4 h rfl ?_)))))
 refine WL.nil (W.cs (W.sr (WL.m (WL.n rfl (WL.f 5 underlying179 rfl sizeOf61 rfl rfl ?_)))))
 refine WL.l isAgg61 rfl (h.cellB rfl) (WL.m (WL.e (eff_call call27 (rput_ok (bs := bs) (r := c.r) (by omega) (h.fetch (RdrP 117 x.br c.r)) (Gives.to C))) ?_))
 rintro _ w h
 refine WL.nil (W.seq (W.label (W.block ?_)))
 refine W.loop (fun (f : Nat) env w => ∃ (j : Env) (cc : Cl), Cl.inK f cc = some c' ∧ env = mkE j [(0, .pointer (some ⟨bc, 0, none⟩))] ∧ On W0 (ClP 179 117 bc cc :: L) w) (fun f => f) (bs.length + 1) ?_ ?_
 · have h := closeCl (c := { c with r := c.r.put bs }) x hok (h.to (T := blk bc [.string ⟨c.p.name.toArray⟩, .int .i64 (c.p.maxd : Int), .int .i64 (c.p.burst : Int), .bool c.p.imm, .bool c.p.dig, .pointer (some ⟨x.br, 0, none⟩), .bool c.open_, .bool false, .bool c.asked, .bool false, .bool false, .int .u32 (c.sn : Int), .int .u32 (c.max : Int), .int .u32 (c.tag : Int), .slice x.al (nL c.l) x.cl, .slice x.aw c.say.length x.cs, .slice x.ad (nD c.done) x.cd] 179 :: RdrP 117 x.br (c.r.put bs) :: LsP x.al x.cl c.l :: OwnB (.slice x.aw c.say.length x.cs) c.say :: DnP x.ad x.cd c.done :: L))
   exact ⟨_, _, hik, mkE_of ⟨rfl, trivial⟩, h⟩
 clear h hok hik hlen
 rintro f env w ⟨j, cc, hik, rfl, h⟩
 have hks := cinK_some hik
 obtain ⟨f1, hf, hlen, hks⟩ := hks
 subst hf
 have ho_ := openCl h
 obtain ⟨x, hok, h⟩ := ho_
 have h : On W0 (blk bc [.string ⟨cc.p.name.toArray⟩, .int .i64 (cc.p.maxd : Int), .int .i64 (cc.p.burst : Int), .bool cc.p.imm, .bool cc.p.dig, .pointer (some ⟨x.br, 0, none⟩), .bool cc.open_, .bool false, .bool cc.asked, .bool false, .bool false, .int .u32 (cc.sn : Int), .int .u32 (cc.max : Int), .int .u32 (cc.tag : Int), .slice x.al (nL cc.l) x.cl, .slice x.aw cc.say.length x.cs, .slice x.ad (nD cc.done) x.cd] 179 :: _) w := h
 refine W.seq (W.sr (WL.m (WL.n rfl (WL.c 7 underlying179 rfl sizeOf4 rfl isAgg4 h rfl (WL.v (run_not rfl) ?_)))))
 refine WL.nil (W.ct (W.skip (W.block (W.sr (WL.m (WL.n rfl ?_))))))
 refine WL.c 5 underlying179 rfl sizeOf61 rfl isAgg61 h rfl (WL.e (eff_call call29 (rnext_ok (r := cc.r) (by omega) (h.fetch (RdrP 117 x.br cc.r)))) ?_)
 rintro _ w hv
 rcases hv with ⟨hnx, rfl, h⟩ | ⟨hnx, hcd, an, cn, rfl, h⟩
 ·
  have hks2 : cc.r.next.2.err = 0 ∧ c' = ({ cc with r := cc.r.next.2 } : Cl) := by
    rcases hks with ⟨q, _⟩ | ⟨_, q⟩
    · rw [hnx] at q; cases q
    exact q
  obtain ⟨her, hc'⟩ := hks2
  subst hc'
  refine WL.m (WL.v (run_extract rfl rfl) (WL.v (run_extract rfl rfl) (WL.e (eff_alloc h zeroValue36 rfl) ?_)))
  rintro _ w ⟨b4, rfl, h⟩
  refine WL.e (eff_storeW (vs := (Pd.cells zPd (.slice none 0 0))) h sizeOf36 rfl rfl rfl rfl rfl) ?_
  rintro _ w h
  refine WL.z (W.seq (W.block (W.sr (WL.m (WL.a ?_)))))
  refine WL.nil (W.cf (W.sr (WL.m (WL.n rfl (WL.c 5 underlying179 rfl sizeOf61 rfl isAgg61 h rfl ?_)))))
  refine WL.e (eff_call call31 (rerr_ok (r := cc.r.next.2) (h.fetch (RdrP 117 x.br cc.r.next.2)))) ?_
  rintro _ w ⟨rfl, h⟩
  refine WL.v (run_neqF rfl rfl (by omega)) (WL.z (W.cs (W.exit (bodyQ.fall (bodyQ.r0 results106 ?_)))))
  exact closeCl (c := ({ cc with r := cc.r.next.2 } : Cl)) x hok (h.to (T := blk bc [.string ⟨cc.p.name.toArray⟩, .int .i64 (cc.p.maxd : Int), .int .i64 (cc.p.burst : Int), .bool cc.p.imm, .bool cc.p.dig, .pointer (some ⟨x.br, 0, none⟩), .bool cc.open_, .bool false, .bool cc.asked, .bool false, .bool false, .int .u32 (cc.sn : Int), .int .u32 (cc.max : Int), .int .u32 (cc.tag : Int), .slice x.al (nL cc.l) x.cl, .slice x.aw cc.say.length x.cs, .slice x.ad (nD cc.done) x.cd] 179 :: RdrP 117 x.br cc.r.next.2 :: LsP x.al x.cl cc.l :: OwnB (.slice x.aw cc.say.length x.cs) cc.say :: DnP x.ad x.cd cc.done :: L))
 have hks2 : ∃ c2, Cl.take ({ cc with r := cc.r.next.2 } : Cl) cc.r.next.1.1 = some c2 ∧ Cl.inK f1 c2 = some c' := by
   rcases hks with ⟨_, q⟩ | ⟨q, _⟩
   · exact q
   rw [hnx] at q; cases q
 obtain ⟨c2, htk, hik2⟩ := hks2
 have hnu := next_nums hnx
 refine WL.m (WL.v (run_extract rfl rfl) (WL.v (run_extract rfl rfl) (WL.e (eff_alloc h zeroValue36 rfl) ?_)))
 rintro _ w ⟨b4, rfl, h⟩
 refine WL.e (eff_storeW (vs := Pd.cells cc.r.next.1.1 (.slice an cc.r.next.1.1.data.length cn)) h sizeOf36 rfl rfl (cells_len hcd) (cells_one rfl) rfl) ?_
 rintro _ w h
 refine WL.z (W.seq (W.block (W.sr (WL.m (WL.a ?_)))))
 refine WL.nil (W.ct (W.sr (WL.m (WL.v (run_loadB (vs := Pd.cells cc.r.next.1.1 (.slice an cc.r.next.1.1.data.length cn)) h isAgg36 sizeOf36 rfl (List.take_of_length_le (Nat.le_of_eq (cells_len hcd))) (cells_len hcd)) ?_))))
 refine WL.e (eff_call call135 (cltake_ok (c := ({ cc with r := cc.r.next.2 } : Cl)) (p := cc.r.next.1.1) (ap := an) (cp := cn) (Gives.to G) htk hcd hnu (closeCl (c := ({ cc with r := cc.r.next.2 } : Cl)) x hok (h.to (T := blk bc [.string ⟨cc.p.name.toArray⟩, .int .i64 (cc.p.maxd : Int), .int .i64 (cc.p.burst : Int), .bool cc.p.imm, .bool cc.p.dig, .pointer (some ⟨x.br, 0, none⟩), .bool cc.open_, .bool false, .bool cc.asked, .bool false, .bool false, .int .u32 (cc.sn : Int), .int .u32 (cc.max : Int), .int .u32 (cc.tag : Int), .slice x.al (nL cc.l) x.cl, .slice x.aw cc.say.length x.cs, .slice x.ad (nD cc.done) x.cd] 179 :: RdrP 117 x.br cc.r.next.2 :: LsP x.al x.cl cc.l :: OwnB (.slice x.aw cc.say.length x.cs) cc.say :: DnP x.ad x.cd cc.done :: OwnB (.slice an cc.r.next.1.1.data.length cn) cc.r.next.1.1.data :: L))) (Gives.ownO (v := (.slice an cc.r.next.1.1.data.length cn))))) ?_
 rintro _ w h
 refine WL.nil (W.exit ?_)
 exact ⟨f1, ⟨_, c2, hik2, mkE_of ⟨rfl, trivial⟩, h.to⟩, Nat.lt_succ_self f1⟩
theorem clip_dns {a : Option Addr} {n c : Nat} {xs : List Value} (h : On W0 (Own 6 (.slice a n c) n xs :: L) w) : Calls Tryz.prog 107 #[.slice a n c] w (Ret fun v w' => v = .slice a n n ∧ On W0 (Own 6 (.slice a n n) n xs :: L) w') := by
 refine enter func107 rfl ntmps107 rfl ?_
 have ob_ := Own.form h
 obtain ⟨a', c', hv, hnc, hcm, hnone⟩ := ob_
 simp only [Value.slice.injEq] at hv
 obtain ⟨rfl, _, rfl⟩ := hv
 refine W.sr (WL.z (W.sr (WL.m (WL.m ?_))))
 refine WL.v (run_lenSlice underlying138 rfl) (WL.m (WL.v (run_lenSlice underlying138 rfl) (WL.v (run_cutHM underlying138 sizeOf141 rfl rfl rfl  (by omega) (by omega)) (WL.z (W.ret (bodyQ.r1 (v := .slice _ _ _) results107 rfl ?_))))))
 exact ⟨rfl, Own.clip h⟩
theorem cldone0_ok {bc : Nat} {c : Cl} (hd : c.done = none) (h : On W0 (ClP 179 117 bc c :: L) w) : Calls Tryz.prog 72 #[.pointer (some ⟨bc, 0, none⟩)] w (Ret fun v w' => ∃ a, v = .slice a 0 0 ∧ On W0 (ClP 179 117 bc ({ c with done := none } : Cl) :: Own 6 (.slice a 0 0) 0 [] :: L) w') := by
 refine enter func72 rfl ntmps72 rfl ?_
 have hmx := maxLen_eq
 have ho_ := openCl h
 obtain ⟨x, hok, h⟩ := ho_
 have h : On W0 (blk bc [.string ⟨c.p.name.toArray⟩, .int .i64 (c.p.maxd : Int), .int .i64 (c.p.burst : Int), .bool c.p.imm, .bool c.p.dig, .pointer (some ⟨x.br, 0, none⟩), .bool c.open_, .bool false, .bool c.asked, .bool false, .bool false, .int .u32 (c.sn : Int), .int .u32 (c.max : Int), .int .u32 (c.tag : Int), .slice x.al (nL c.l) x.cl, .slice x.aw c.say.length x.cs, .slice x.ad (nD c.done) x.cd] 179 :: _) w := h
 have e2 : nD c.done = 0 := by rw [hd]; rfl
 rw [e2] at h
 have h := h.fetch (DnP x.ad x.cd c.done)
 rw [hd] at h
 have h : On W0 (Own 6 (.slice x.ad 0 x.cd) 0 [] :: _) w := h
 refine W.sr (WL.z (W.sr (WL.m (WL.n rfl ?_))))
 refine WL.c 16 underlying179 rfl sizeOf138 rfl isAgg138 h rfl (WL.e (eff_call call107 (clip_dns (h.fetch (Own 6 (.slice x.ad 0 x.cd) 0 ([]))))) ?_)
 rintro _ w ⟨rfl, h⟩
 refine WL.z (W.sr (WL.m (WL.n rfl (WL.f 16 underlying179 rfl sizeOf138 rfl rfl (WL.e (eff_store (v := .slice _ _ _) h sizeOf138 rfl rfl rfl rfl rfl) ?_)))))
 rintro _ w h
 try simp only [Nat.zero_add, Nat.add_zero, List.set_cons_zero, List.set_cons_succ] at h
 refine WL.nil (W.sr (WL.m (WL.z (W.ret (bodyQ.r1 (v := .slice _ _ _) results72 rfl ?_)))))
 have h := h.ownEmpty 6 none
 have h : On W0 (DnP none 0 none :: _) w := h
 refine ⟨x.ad, rfl, closeCl (c := { c with done := none }) { x with ad := none, cd := 0 } hok ?_⟩
 show On W0 (blk bc [.string ⟨c.p.name.toArray⟩, .int .i64 (c.p.maxd : Int), .int .i64 (c.p.burst : Int), .bool c.p.imm, .bool c.p.dig, .pointer (some ⟨x.br, 0, none⟩), .bool c.open_, .bool false, .bool c.asked, .bool false, .bool false, .int .u32 (c.sn : Int), .int .u32 (c.max : Int), .int .u32 (c.tag : Int), .slice x.al (nL c.l) x.cl, .slice x.aw c.say.length x.cs, .slice none (0) 0] 179 :: RdrP 117 x.br c.r :: LsP x.al x.cl c.l :: OwnB (.slice x.aw c.say.length x.cs) c.say :: DnP none 0 none :: Own 6 (.slice x.ad 0 0) 0 [] :: L) w
 exact h.to
theorem cldone1_ok {bc : Nat} {c : Cl} {d : Nat × List UInt8} (hd : c.done = some d) (h : On W0 (ClP 179 117 bc c :: L) w) : Calls Tryz.prog 72 #[.pointer (some ⟨bc, 0, none⟩)] w (Ret fun v w' => ∃ a, v = .slice a 1 1 ∧ On W0 (ClP 179 117 bc ({ c with done := none } : Cl) :: DnP a 1 (some d) :: L) w') := by
 refine enter func72 rfl ntmps72 rfl ?_
 have hmx := maxLen_eq
 have ho_ := openCl h
 obtain ⟨x, hok, h⟩ := ho_
 have h : On W0 (blk bc [.string ⟨c.p.name.toArray⟩, .int .i64 (c.p.maxd : Int), .int .i64 (c.p.burst : Int), .bool c.p.imm, .bool c.p.dig, .pointer (some ⟨x.br, 0, none⟩), .bool c.open_, .bool false, .bool c.asked, .bool false, .bool false, .int .u32 (c.sn : Int), .int .u32 (c.max : Int), .int .u32 (c.tag : Int), .slice x.al (nL c.l) x.cl, .slice x.aw c.say.length x.cs, .slice x.ad (nD c.done) x.cd] 179 :: _) w := h
 have e2 : nD c.done = 1 := by rw [hd]; rfl
 rw [e2] at h
 have h := h.fetch (DnP x.ad x.cd c.done)
 rw [hd] at h
 have hod_ := openDn h
 obtain ⟨y, h⟩ := hod_
 refine W.sr (WL.z (W.sr (WL.m (WL.n rfl ?_))))
 refine WL.c 16 underlying179 rfl sizeOf138 rfl isAgg138 h rfl (WL.e (eff_call call107 (clip_dns (h.fetch (Own 6 (.slice x.ad 1 x.cd) 1 (dnCells d y))))) ?_)
 rintro _ w ⟨rfl, h⟩
 refine WL.z (W.sr (WL.m (WL.n rfl (WL.f 16 underlying179 rfl sizeOf138 rfl rfl (WL.e (eff_store (v := .slice _ _ _) h sizeOf138 rfl rfl rfl rfl rfl) ?_)))))
 rintro _ w h
 try simp only [Nat.zero_add, Nat.add_zero, List.set_cons_zero, List.set_cons_succ] at h
 refine WL.nil (W.sr (WL.m (WL.z (W.ret (bodyQ.r1 (v := .slice _ _ _) results72 rfl ?_)))))
 have h : On W0 (DnP x.ad 1 (some d) :: _) w := closeDn y (h.to (T := Own 6 (.slice x.ad 1 1) 1 (dnCells d y) :: OwnB (.slice y.1 d.2.length y.2) d.2 :: blk bc [.string ⟨c.p.name.toArray⟩, .int .i64 (c.p.maxd : Int), .int .i64 (c.p.burst : Int), .bool c.p.imm, .bool c.p.dig, .pointer (some ⟨x.br, 0, none⟩), .bool c.open_, .bool false, .bool c.asked, .bool false, .bool false, .int .u32 (c.sn : Int), .int .u32 (c.max : Int), .int .u32 (c.tag : Int), .slice x.al (nL c.l) x.cl, .slice x.aw c.say.length x.cs, .slice none (0) 0] 179 :: RdrP 117 x.br c.r :: LsP x.al x.cl c.l :: OwnB (.slice x.aw c.say.length x.cs) c.say :: L))
 have h := h.ownEmpty 6 none
 have h : On W0 (DnP none 0 none :: _) w := h
 refine ⟨x.ad, rfl, closeCl (c := { c with done := none }) { x with ad := none, cd := 0 } hok ?_⟩
 show On W0 (blk bc [.string ⟨c.p.name.toArray⟩, .int .i64 (c.p.maxd : Int), .int .i64 (c.p.burst : Int), .bool c.p.imm, .bool c.p.dig, .pointer (some ⟨x.br, 0, none⟩), .bool c.open_, .bool false, .bool c.asked, .bool false, .bool false, .int .u32 (c.sn : Int), .int .u32 (c.max : Int), .int .u32 (c.tag : Int), .slice x.al (nL c.l) x.cl, .slice x.aw c.say.length x.cs, .slice none (0) 0] 179 :: RdrP 117 x.br c.r :: LsP x.al x.cl c.l :: OwnB (.slice x.aw c.say.length x.cs) c.say :: DnP none 0 none :: DnP x.ad 1 (some d) :: L) w
 exact h.to
end Go.Proofs.YtjfmjbmkkpkppaaGreatDoor
namespace Go.Sl.TpM
open Go Go.Sl Go.Sl.ByM Go.Sl.UnM
structure SeA where
 aa : Option Addr
 ca : Nat
 br : Nat
 at_ : Option Addr
 ct : Nat
def okSe (s : Se) : Prop := okPm s.p ∧ s.exp < 4294967296 ∧ s.sn < 4294967296
def seCells (acl : List Str) (dof : Value) (s : Se) (x : SeA) : List Value := [.slice x.aa acl.length x.ca, dof, .pointer (some ⟨x.br, 0, none⟩), .string ⟨s.p.name.toArray⟩, .int .i64 (s.p.maxd : Int), .int .i64 (s.p.burst : Int), .bool s.p.imm, .bool s.p.dig, .bool s.open_, .bool false, .int .u32 (s.exp : Int), .int .u32 (s.sn : Int), .slice none 0 0, .slice x.at_ s.told.length x.ct]
def SeP (T TR K b : Nat) (acl : List Str) (dof : Value) (s : Se) : HProp := Ex fun (x : SeA) => Pack (okSe s ∧ s.told.length ≤ K) [blk b (seCells acl dof s x) T, RdrP TR x.br s.r, Own 1 (.slice x.aa acl.length x.ca) acl.length (acl.map fun t => Value.string ⟨t.toArray⟩), OwnB (.slice x.at_ s.told.length x.ct) s.told]
theorem openSe {W0 w : World} {L : List HProp} {T TR K b : Nat} {acl : List Str} {dof : Value} {s : Se} (H : On W0 (SeP T TR K b acl dof s :: L) w) : ∃ x : SeA, okSe s ∧ s.told.length ≤ K ∧ On W0 (blk b (seCells acl dof s x) T :: RdrP TR x.br s.r :: Own 1 (.slice x.aa acl.length x.ca) acl.length (acl.map fun t => Value.string ⟨t.toArray⟩) :: OwnB (.slice x.at_ s.told.length x.ct) s.told :: L) w := by
 obtain ⟨x, H⟩ := H.ex
 obtain ⟨hw, H⟩ := H.unpack
 exact ⟨x, hw.1, hw.2, H⟩
theorem closeSe {W0 w : World} {L : List HProp} {T TR K b : Nat} {acl : List Str} {dof : Value} {s : Se} (x : SeA) (hw : okSe s) (hk : s.told.length ≤ K) (H : On W0 (blk b (seCells acl dof s x) T :: RdrP TR x.br s.r :: Own 1 (.slice x.aa acl.length x.ca) acl.length (acl.map fun t => Value.string ⟨t.toArray⟩) :: OwnB (.slice x.at_ s.told.length x.ct) s.told :: L) w) : On W0 (SeP T TR K b acl dof s :: L) w :=
 On.exI x (On.pack ⟨hw, hk⟩ H)
def DeskP (TD TU TS TT bd : Nat) (u : Un) : HProp := Ex fun (x : Nat × List Nat) => Pack (goodU u) [blk bd [.pointer (some ⟨x.1, 0, none⟩)] TD, UnP TU TS TT x.1 [] x.2 u]
theorem openDk {W0 w : World} {L : List HProp} {TD TU TS TT bd : Nat} {u : Un} (H : On W0 (DeskP TD TU TS TT bd u :: L) w) : ∃ bu ms, goodU u ∧ On W0 (blk bd [.pointer (some ⟨bu, 0, none⟩)] TD :: UnP TU TS TT bu [] ms u :: L) w := by
 obtain ⟨x, H⟩ := H.ex
 obtain ⟨hw, H⟩ := H.unpack
 exact ⟨x.1, x.2, hw, H⟩
theorem closeDk {W0 w : World} {L : List HProp} {TD TU TS TT bd bu : Nat} {ms : List Nat} {u : Un} (hw : goodU u) (H : On W0 (blk bd [.pointer (some ⟨bu, 0, none⟩)] TD :: UnP TU TS TT bu [] ms u :: L) w) : On W0 (DeskP TD TU TS TT bd u :: L) w :=
 On.exI (bu, ms) (On.pack hw H)
theorem small_of {u : Un} (h8 : u.g.length = 8) (h : u.g.all (fun g => g.codes.isEmpty) = true) : small 0 u := by
 intro i hi
 have hm : u.guest i ∈ u.g := by
   unfold Un.guest
   rw [List.getD_eq_getElem?_getD, List.getElem?_eq_getElem (by omega)]
   exact List.getElem_mem _
 have := List.all_eq_true.1 h _ hm
 rw [List.isEmpty_iff] at this
 rw [this]; exact Nat.le_refl _
theorem okSay {p : Pd} {e m : Nat} (h : okPd p) (he : e < 4294967296) (hm : m < 4294967296) : okPd { p with exp := e, max := m } := by
 obtain ⟨h1, h2, h3⟩ := h
 refine ⟨h1, h2, ?_⟩
 intro v hv
 simp only [nums, List.mem_cons, List.not_mem_nil, or_false] at hv
 have hh : ∀ q ∈ [p.tag, p.sn, p.off, p.len], q < 4294967296 := fun q hq => h3 q (by simp only [nums, List.mem_cons, List.not_mem_nil, or_false] at hq ⊢; rcases hq with rfl | rfl | rfl | rfl <;> simp)
 rcases hv with rfl | rfl | rfl | rfl | rfl | rfl
 · exact hh _ (by simp)
 · exact hh _ (by simp)
 · exact he
 · exact hm
 · exact hh _ (by simp)
 exact hh _ (by simp)
end Go.Sl.TpM
namespace Go.Proofs.YtjfmjbmkkpkppaaGreatDoor
open Go.Proofs.Tryz
open Go Go.Sl Go.Sl.BitM Go.Sl.SpM Go.Sl.RsM Go.Sl.ByM Go.Sl.UnM Go.Sl.TpM
set_option maxHeartbeats 1000000
set_option maxRecDepth 8000
variable {W0 w : World} {L F : List HProp}
theorem cells_op (p : Pd) (dv : Value) (e : Nat) : (p.cells dv).set (0 + 0) (.int .i64 (e : Int)) = ({ p with op := e } : Pd).cells dv := rfl
theorem cells_sn (p : Pd) (dv : Value) (e : Nat) : (p.cells dv).set (0 + 5) (.int .u32 (e : Int)) = ({ p with sn := e } : Pd).cells dv := rfl
theorem cells_exp (p : Pd) (dv : Value) (e : Nat) : (p.cells dv).set (0 + 6) (.int .u32 (e : Int)) = ({ p with exp := e } : Pd).cells dv := rfl
theorem cells_max (p : Pd) (dv : Value) (e : Nat) : (p.cells dv).set (0 + 7) (.int .u32 (e : Int)) = ({ p with max := e } : Pd).cells dv := rfl
theorem sclone_ok {ao : Option Addr} {cap n : Nat} {xs : List Value} (h : On W0 L w) (C : Gives L (Cells 1 (.slice ao n cap) n xs)) (hn : n ≤ 1000000) (h1 : ∀ x ∈ xs, x.oneCell' = true) :
   Calls Tryz.prog 100 #[.slice ao n cap] w (Ret fun v w' => ∃ a c, v = .slice a n c ∧ On W0 (Own 1 (.slice a n c) n xs :: L) w') := by
 refine enter func100 rfl ntmps100 rfl ?_
 have hmx := maxLen_eq
 have hfm := (h.reads C).form
 obtain ⟨ao', cap', hv, hnc, hcm, hnone⟩ := hfm
 simp only [Value.slice.injEq] at hv
 obtain ⟨rfl, _, rfl⟩ := hv
 have hxl : xs.length = n * 1 := (h.reads C).1
 refine W.sr (WL.z (W.seq (W.sr (WL.m ?_))))
 refine WL.v (run_eqlSliceNil underlying131 rfl rfl) (WL.nil ?_)
 refine W.condB rfl (fun c2 => ?_) (fun c2 => ?_)
 ·
  refine W.sr (WL.z (W.ret (bodyQ.r1 (v := .slice _ _ _) results100 rfl ?_)))
  have h0 : cap = 0 := hnone (by simpa using c2)
  have hb : n = 0 := by omega
  subst hb
  have hb : xs = [] := List.eq_nil_of_length_eq_zero (by omega)
  subst hb
  exact ⟨none, 0, rfl, h.ownEmpty 1 none⟩
 refine W.skip (W.sr (WL.e (eff_mkSlice (zl := []) (out := []) h underlying131 sizeOf9 zeroValue9 (by decide) (by simp) rfl rfl (by simp) (trivial) rfl rfl (by simp [maxLen])) ?_))
 rintro _ w ⟨b5, rfl, h⟩
 refine WL.m (WL.e (eff_app0 (bytes := 16) h rfl rfl (h.readsTo C) underlying131 rfl rfl rfl rfl rfl (by omega) (by omega) h1) ?_)
 rintro _ w ⟨a, c, rfl, h⟩
 refine WL.z (W.ret (bodyQ.r1 (v := .slice _ _ _) results100 rfl ?_))
 exact ⟨_, _, rfl, h⟩
theorem senew_ok {fd : Fn} {fa fc : Array Value} {acl : List Str} {ac : Option Addr} {cc : Nat} (hl : acl.length ≤ 1000000) (h : On W0 L w) (C : Gives L (Cells 1 (.slice ac acl.length cc) acl.length (acl.map fun t => Value.string ⟨t.toArray⟩))) : Calls Tryz.prog 67 #[.slice ac acl.length cc, .func fd fa fc] w (Ret fun v w' => ∃ bs, v = .pointer (some ⟨bs, 0, none⟩) ∧ On W0 (SeP 183 117 0 bs acl (.func fd fa fc) newSe :: L) w') := by
 refine enter func67 rfl ntmps67 rfl (W.sr (WL.z (W.sr (WL.m ?_))))
 refine WL.e (eff_call call100 (sclone_ok h (Gives.to C) hl (by intro u hu; obtain ⟨t, _, e⟩ := List.mem_map.1 hu; rw [← e]; rfl))) ?_
 rintro _ w ⟨aa, ca, rfl, h⟩
 refine WL.m (WL.e (eff_call call22 (newRd_ok h)) ?_)
 rintro _ w ⟨br, rfl, h⟩
 refine WL.v (run_buildS (pl := [(0, 1), (1, 1), (2, 1), (3, 5), (8, 1), (9, 1), (10, 1), (11, 1), (12, 1), (13, 1)]) (out := [.slice _ _ _, _, .pointer _, .string _, .int .i64 _, .int .i64 _, .bool _, .bool _, .bool _, .bool _, .int .u32 _, .int .u32 _, .slice _ _ _, .slice _ _ _]) underlying183 zeroValue183 (fun w => by kernel_rfl) rfl (⟨⟨_, _, rfl, rfl, by decide⟩, ⟨⟨_, _, rfl, rfl, by decide⟩, ⟨⟨_, _, rfl, rfl, by decide⟩, ⟨⟨_, _, rfl, rfl, by decide⟩, trivial⟩⟩⟩⟩) rfl) ?_
 refine WL.e (eff_box (v := .agg _) (l := [.slice _ _ _, _, .pointer _, .string _, .int .i64 _, .int .i64 _, .bool _, .bool _, .bool _, .bool _, .int .u32 _, .int .u32 _, .slice _ _ _, .slice _ _ _]) h rfl rfl) ?_
 rintro _ w ⟨b10, rfl, h⟩
 refine WL.z (W.ret (bodyQ.r1 (v := .pointer _) results67 rfl ?_))
 have h : On W0 (blk b10 [.slice aa acl.length ca, .func fd fa fc, .pointer (some ⟨br, 0, none⟩), .string ⟨#[]⟩, .int .i64 0, .int .i64 0, .bool false, .bool false, .bool false, .bool false, .int .u32 0, .int .u32 1, .slice none 0 0, .slice none 0 0] 183 :: _) w := h
 have h := h.ownEmpty 1 none
 have h : On W0 (OwnB (.slice none ([] : List UInt8).length 0) [] :: _) w := h
 refine ⟨_, rfl, closeSe (s := newSe) ⟨aa, ca, br, none, 0⟩ ⟨⟨by decide, by decide, by decide⟩, (show (0 : Nat) < 4294967296 by decide), (show (1 : Nat) < 4294967296 by decide)⟩ (Nat.le_refl _) ?_⟩
 show On W0 (blk _ [.slice aa acl.length ca, .func fd fa fc, .pointer (some ⟨br, 0, none⟩), .string ⟨#[]⟩, .int .i64 0, .int .i64 0, .bool false, .bool false, .bool false, .bool false, .int .u32 0, .int .u32 1, .slice none 0 0, .slice none 0 0] 183 :: RdrP 117 br ⟨[], 0⟩ :: Own 1 (.slice aa acl.length ca) acl.length (acl.map fun t => Value.string ⟨t.toArray⟩) :: OwnB (.slice none ([] : List UInt8).length 0) [] :: L) w
 exact h.to
theorem ssay_ok {fd : Fn} {fa fc : Array Value} {acl : List Str} {bs K : Nat} {s : Se} {p : Pd} {ap : Option Addr} {cp : Nat} (hp : okPd p) (hK0 : K ≤ 100000) (h : On W0 (SeP 183 117 K bs acl (.func fd fa fc) s :: L) w) (C : Gives L (Bytes (.slice ap p.data.length cp) p.data)) : Calls Tryz.prog 170 #[.pointer (some ⟨bs, 0, none⟩), .agg (Pd.cells p (.slice ap p.data.length cp)).toArray] w (Ret fun v w' => On W0 (SeP 183 117 (K + 4200) bs acl (.func fd fa fc) (s.say p) :: L) w') := by
 refine enter func170 rfl ntmps170 rfl ?_
 have hmx := maxLen_eq
 have ho_ := openSe h
 obtain ⟨x, hok, hK, h⟩ := ho_
 have h : On W0 (blk bs [.slice x.aa acl.length x.ca, .func fd fa fc, .pointer (some ⟨x.br, 0, none⟩), .string ⟨s.p.name.toArray⟩, .int .i64 (s.p.maxd : Int), .int .i64 (s.p.burst : Int), .bool s.p.imm, .bool s.p.dig, .bool s.open_, .bool false, .int .u32 (s.exp : Int), .int .u32 (s.sn : Int), .slice none 0 0, .slice x.at_ s.told.length x.ct] 183 :: _) w := h
 obtain ⟨ok1, ok2, ok3⟩ := hok
 have hp2 : okPd ({ p with exp := s.exp, max := (s.exp + 15) % 4294967296 } : Pd) := okSay hp ok2 (Nat.mod_lt _ (by decide))
 have hel := encP_len hp2
 have hc16 : p.cdb.length = 16 := hp.1.1
 refine W.sr (WL.e (eff_box (v := .agg (Pd.cells p (.slice ap p.data.length cp)).toArray) (l := Pd.cells p (.slice ap p.data.length cp)) h rfl rfl) ?_)
 rintro _ w ⟨b3, rfl, h⟩
 refine WL.nil (W.seq ?_)
 refine W.draw Tryz.follows h (fun w h => ?_)
 refine WT.m 0 rfl (WT.n 1 rfl rfl (WT.f 2 10 rfl underlying183 rfl sizeOf24 rfl rfl (WT.l 3 rfl isAgg24 rfl (h.cellB rfl) (WT.m 4 rfl (WT.n 5 rfl rfl (WT.f 6 10 rfl underlying183 rfl sizeOf24 rfl rfl (WT.l 7 rfl isAgg24 rfl (h.cellB rfl) ?_)))))))
 refine WT.p 8 rfl (fun w' => (run_addU32 (m := s.exp) (n := 15) rfl rfl)) (WT.f 9 6 rfl underlying36 rfl sizeOf24 rfl rfl (WT.e 10 [true, false] rfl (eff_store (v := .int .u32 (s.exp : Int)) h sizeOf24 rfl rfl rfl (by rw [cells_len hc16]; rfl) rfl) ?_))
 rintro _ w h
 rw [cells_exp] at h
 refine ⟨⟨h.cellB rfl, trivial⟩, ?_⟩
 refine WT.f 11 7 rfl underlying36 rfl sizeOf24 rfl rfl (WT.e 12 [false] rfl (eff_store (v := .int .u32 (((s.exp + 15) % 4294967296 : Nat) : Int)) h sizeOf24 rfl rfl rfl (by rw [cells_len (p := { p with exp := s.exp }) hc16]; rfl) rfl) ?_)
 rintro _ w h
 rw [cells_max] at h
 have h : On W0 (blk b3 (Pd.cells ({ p with exp := s.exp, max := (s.exp + 15) % 4294967296 } : Pd) (.slice ap p.data.length cp)) 36 :: _) w := h
 refine ⟨trivial, ?_⟩
 refine WT.dn (W.sr (WL.v (run_loadB (vs := Pd.cells ({ p with exp := s.exp, max := (s.exp + 15) % 4294967296 } : Pd) (.slice ap p.data.length cp)) h isAgg36 sizeOf36 rfl (List.take_of_length_le (Nat.le_of_eq (cells_len hc16))) (cells_len hc16)) (WL.e (eff_call call10 (pencode_ok (p := ({ p with exp := s.exp, max := (s.exp + 15) % 4294967296 } : Pd)) hp2 h (Gives.to C))) ?_)))
 rintro _ w ⟨a19, rfl, h⟩
 refine WL.m (WL.v (run_extract rfl rfl) (WL.v (run_extract rfl rfl) (WL.a (WL.z (W.region (WL.m ?_))))))
 refine WL.m (WL.n rfl (WL.c 13 underlying183 rfl sizeOf26 rfl isAgg26 h rfl (WL.m ?_)))
 refine WL.e (eff_app (c2 := (encP ({ p with exp := s.exp, max := (s.exp + 15) % 4294967296 } : Pd)).length) (bytes := 1) (h.own (.slice x.at_ s.told.length x.ct)) rfl rfl (h.cellsO (v := .slice a19 (encP ({ p with exp := s.exp, max := (s.exp + 15) % 4294967296 } : Pd)).length (encP ({ p with exp := s.exp, max := (s.exp + 15) % 4294967296 } : Pd)).length)) underlying26 rfl rfl rfl rfl rfl (by omega) (by omega) bytes_one) ?_
 rintro _ w ⟨a28, c28, hv28, h⟩
 have el : s.told.length + (encP ({ p with exp := s.exp, max := (s.exp + 15) % 4294967296 } : Pd)).length = (s.told ++ (encP ({ p with exp := s.exp, max := (s.exp + 15) % 4294967296 } : Pd))).length := List.length_append.symm
 have ev : bytesV s.told ++ bytesV (encP ({ p with exp := s.exp, max := (s.exp + 15) % 4294967296 } : Pd)) = bytesV (s.told ++ (encP ({ p with exp := s.exp, max := (s.exp + 15) % 4294967296 } : Pd))) := by simp [bytesV]
 rw [ev, el] at h
 rw [el] at hv28
 subst hv28
 refine WL.n rfl (WL.f 13 underlying183 rfl sizeOf26 rfl rfl (WL.e (eff_store (v := .slice a28 (s.told ++ (encP ({ p with exp := s.exp, max := (s.exp + 15) % 4294967296 } : Pd))).length c28) h sizeOf26 rfl rfl rfl rfl rfl) ?_))
 rintro _ w h
 try simp only [Nat.zero_add, Nat.add_zero, List.set_cons_zero, List.set_cons_succ] at h
 refine WL.nil (bodyQ.fall (bodyQ.r0 results170 ?_))
 refine closeSe (s := s.say p) { x with at_ := a28, ct := c28 } ⟨ok1, ok2, ok3⟩ (by show (s.told ++ (encP ({ p with exp := s.exp, max := (s.exp + 15) % 4294967296 } : Pd))).length ≤ _; rw [List.length_append]; omega) ?_
 show On W0 (blk bs [.slice x.aa acl.length x.ca, .func fd fa fc, .pointer (some ⟨x.br, 0, none⟩), .string ⟨s.p.name.toArray⟩, .int .i64 (s.p.maxd : Int), .int .i64 (s.p.burst : Int), .bool s.p.imm, .bool s.p.dig, .bool s.open_, .bool false, .int .u32 (s.exp : Int), .int .u32 (s.sn : Int), .slice none 0 0, .slice a28 (s.told ++ (encP ({ p with exp := s.exp, max := (s.exp + 15) % 4294967296 } : Pd))).length c28] 183 :: RdrP 117 x.br s.r :: Own 1 (.slice x.aa acl.length x.ca) acl.length (acl.map fun t => Value.string ⟨t.toArray⟩) :: OwnB (.slice a28 (s.told ++ (encP ({ p with exp := s.exp, max := (s.exp + 15) % 4294967296 } : Pd))).length c28) (s.told ++ (encP ({ p with exp := s.exp, max := (s.exp + 15) % 4294967296 } : Pd))) :: L) w
 exact h.to
theorem ssayer_ok {bs op : Nat} (h : On W0 L w) : Calls Tryz.prog 146 #[.pointer (some ⟨bs, 0, none⟩), .int .i64 (op : Int)] w (Ret fun v w' => ∃ b2 b3, v = .func (.func 169) #[] #[.pointer (some ⟨b3, 0, none⟩), .pointer (some ⟨b2, 0, none⟩)] ∧ On W0 (blk b2 [.pointer (some ⟨bs, 0, none⟩)] 129 :: blk b3 [.int .i64 (op : Int)] 3 :: L) w') := by
 refine enter func146 rfl ntmps146 rfl (W.sr (WL.e (eff_box (v := .pointer _) (l := [.pointer _]) h rfl rfl) ?_))
 rintro _ w ⟨b2, rfl, h⟩
 refine WL.e (eff_box (v := .int .i64 _) (l := [.int .i64 _]) h rfl rfl) ?_
 rintro _ w ⟨b3, rfl, h⟩
 refine WL.z (W.sr (WL.v run_makeFunc (WL.z (W.ret ?_))))
 refine bodyQ.r1  results146 rfl ?_
 exact ⟨b2, b3, rfl, h.to⟩
theorem ssayer1_ok {fd : Fn} {fa fc : Array Value} {acl : List Str} {bs K : Nat} {s : Se} {b2 b3 op : Nat} {p : Pd} {ap : Option Addr} {cp : Nat} (hp : okPd ({ p with op := op, sn := s.sn } : Pd)) (hK0 : K ≤ 100000) (h : On W0 (SeP 183 117 K bs acl (.func fd fa fc) s :: blk b2 [.pointer (some ⟨bs, 0, none⟩)] 129 :: blk b3 [.int .i64 (op : Int)] 3 :: L) w) (C : Gives L (Bytes (.slice ap p.data.length cp) p.data)) : Calls Tryz.prog 169 #[.agg (Pd.cells p (.slice ap p.data.length cp)).toArray, .pointer (some ⟨b3, 0, none⟩), .pointer (some ⟨b2, 0, none⟩)] w (Ret fun v w' => On W0 (SeP 183 117 (K + 4200) bs acl (.func fd fa fc) (s.sayer op p) :: L) w') := by
 refine enter func169 rfl ntmps169 rfl ?_
 have hmx := maxLen_eq
 have ho_ := openSe h
 obtain ⟨x, hok, hK, h⟩ := ho_
 have h : On W0 (blk bs [.slice x.aa acl.length x.ca, .func fd fa fc, .pointer (some ⟨x.br, 0, none⟩), .string ⟨s.p.name.toArray⟩, .int .i64 (s.p.maxd : Int), .int .i64 (s.p.burst : Int), .bool s.p.imm, .bool s.p.dig, .bool s.open_, .bool false, .int .u32 (s.exp : Int), .int .u32 (s.sn : Int), .slice none 0 0, .slice x.at_ s.told.length x.ct] 183 :: _) w := h
 obtain ⟨ok1, ok2, ok3⟩ := hok
 have hc16 : p.cdb.length = 16 := hp.1.1
 refine W.sr (WL.e (eff_box (v := .agg (Pd.cells p (.slice ap p.data.length cp)).toArray) (l := Pd.cells p (.slice ap p.data.length cp)) h rfl rfl) ?_)
 rintro _ w ⟨b4, rfl, h⟩
 refine WL.nil (W.seq ?_)
 refine W.draw Tryz.follows h (fun w h => ?_)
 refine WT.l 0 rfl isAgg3 rfl (h.cellB rfl) (WT.l 1 rfl isAgg129 rfl (h.cellB rfl) (WT.n 2 rfl rfl (WT.f 3 11 rfl underlying183 rfl sizeOf24 rfl rfl (WT.l 4 rfl isAgg24 rfl (h.cellB rfl) (WT.f 5 0 rfl underlying36 rfl sizeOf3 rfl rfl (WT.e 6 [true, true, false] rfl (eff_store (v := .int .i64 (op : Int)) h sizeOf3 rfl rfl rfl (by rw [cells_len hc16]; rfl) rfl) ?_))))))
 rintro _ w h
 rw [cells_op] at h
 refine ⟨⟨h.cellB rfl, h.cellB rfl, trivial⟩, ?_⟩
 refine WT.f 7 5 rfl underlying36 rfl sizeOf24 rfl rfl (WT.e 8 [false, false] rfl (eff_store (v := .int .u32 (s.sn : Int)) h sizeOf24 rfl rfl rfl (by rw [cells_len (p := { p with op := op }) hc16]; rfl) rfl) ?_)
 rintro _ w h
 rw [cells_sn] at h
 have h : On W0 (blk b4 (Pd.cells ({ p with op := op, sn := s.sn } : Pd) (.slice ap p.data.length cp)) 36 :: _) w := h
 refine ⟨trivial, ?_⟩
 refine WT.dn (W.sr (WL.l isAgg129 rfl (h.cellB rfl) (WL.n rfl (WL.c 11 underlying183 rfl sizeOf24 rfl isAgg24 h rfl (WL.v (run_addU32 (m := s.sn) (n := 1) rfl rfl) ?_)))))
 refine WL.n rfl (WL.f 11 underlying183 rfl sizeOf24 rfl rfl (WL.e (eff_store (v := .int .u32 (((s.sn + 1) % 4294967296 : Nat) : Int)) h sizeOf24 rfl rfl rfl rfl rfl) ?_))
 rintro _ w h
 try simp only [Nat.zero_add, Nat.add_zero, List.set_cons_zero, List.set_cons_succ] at h
 refine WL.nil (W.region (WL.l isAgg129 rfl (h.cellB rfl) (WL.v (run_loadB (vs := Pd.cells ({ p with op := op, sn := s.sn } : Pd) (.slice ap p.data.length cp)) h isAgg36 sizeOf36 rfl (List.take_of_length_le (Nat.le_of_eq (cells_len hc16))) (cells_len hc16)) ?_)))
 refine WL.e (eff_call call170 (ssay_ok (s := { s with sn := (s.sn + 1) % 4294967296 }) (p := ({ p with op := op, sn := s.sn } : Pd)) hp hK0 (closeSe (s := { s with sn := (s.sn + 1) % 4294967296 }) x ⟨ok1, ok2, (show (s.sn + 1) % 4294967296 < _ by omega)⟩ hK (h.to (T := blk bs [.slice x.aa acl.length x.ca, .func fd fa fc, .pointer (some ⟨x.br, 0, none⟩), .string ⟨s.p.name.toArray⟩, .int .i64 (s.p.maxd : Int), .int .i64 (s.p.burst : Int), .bool s.p.imm, .bool s.p.dig, .bool s.open_, .bool false, .int .u32 (s.exp : Int), .int .u32 (((s.sn + 1) % 4294967296 : Nat) : Int), .slice none 0 0, .slice x.at_ s.told.length x.ct] 183 :: RdrP 117 x.br s.r :: Own 1 (.slice x.aa acl.length x.ca) acl.length (acl.map fun t => Value.string ⟨t.toArray⟩) :: OwnB (.slice x.at_ s.told.length x.ct) s.told :: L))) C)) ?_
 rintro _ w h
 refine WL.nil (bodyQ.fall (bodyQ.r0 results169 ?_))
 exact h
theorem okResp {tag n sn : Nat} (ht : tag < 4294967296) (hn : n < 4294967296) (hsn : sn < 4294967296) : okPd ({ ({ zPd with tag := tag, st := 0, fin := true, len := n } : Pd) with op := 33, sn := sn } : Pd) := by
 refine ⟨⟨rfl, rfl, (show (0 : Nat) < 128 by decide), (show (0 : Nat) < 256 by decide)⟩, (show (0 : Nat) ≤ 4096 by decide), ?_⟩
 intro v hv
 simp only [nums, zPd, List.mem_cons, List.not_mem_nil, or_false] at hv
 rcases hv with rfl | rfl | rfl | rfl | rfl | rfl
 · exact ht
 · exact hsn
 · decide
 · decide
 · decide
 exact hn
theorem srespond_ok {fd : Fn} {fa fc : Array Value} {acl : List Str} {bs K : Nat} {s : Se} {tag n : Nat} {k c i : Int} {ad : Option Addr} {nd cd : Nat} (ht : tag < 4294967296) (hn : n < 4294967296) (hK0 : K ≤ 100000) (hsn : s.sn < 4294967296) (h : On W0 (SeP 183 117 K bs acl (.func fd fa fc) s :: L) w) : Calls Tryz.prog 164 #[.pointer (some ⟨bs, 0, none⟩), .int .u32 (tag : Int), .agg #[.int .i64 0, .int .i64 k, .int .i64 c, .slice ad nd cd, .int .i64 i], .int .i64 (n : Int)] w (Ret fun v w' => On W0 (SeP 183 117 (K + 4200) bs acl (.func fd fa fc) (s.sayer 33 ({ zPd with tag := tag, st := 0, fin := true, len := n } : Pd)) :: L) w') := by
 refine enter func164 rfl ntmps164 rfl ?_
 have hmx := maxLen_eq
 refine W.sr (WL.e (eff_box (v := .agg #[.int .i64 0, .int .i64 k, .int .i64 c, .slice ad nd cd, .int .i64 i]) (l := [.int .i64 0, .int .i64 k, .int .i64 c, .slice ad nd cd, .int .i64 i]) h rfl rfl) ?_)
 rintro _ w ⟨b6, rfl, h⟩
 refine WL.nil (W.sr (WL.m (WL.c 0 underlying44 rfl sizeOf3 rfl isAgg3 h rfl (WL.m (WL.v (run_convIn underlying3 underlying24 rfl (by show (0 : Int) ≤ _; omega) (by show _ ≤ (4294967295 : Int); omega)) ?_)))))
 refine WL.v (run_buildS (pl := qp2) (out := qv1) underlying36 zeroValue36 (fun w => by kernel_rfl) rfl (⟨⟨_, _, rfl, rfl, by decide⟩, ⟨⟨_, _, rfl, rfl, by decide⟩, ⟨⟨_, _, rfl, rfl, by decide⟩, ⟨⟨_, _, rfl, rfl, by decide⟩, trivial⟩⟩⟩⟩) rfl) ?_
 refine WL.e (eff_alloc h zeroValue36 rfl) ?_
 rintro _ w ⟨b8, rfl, h⟩
 refine WL.e (eff_storeW (vs := qv1) h sizeOf36 rfl rfl rfl rfl rfl) ?_
 rintro _ w h
 refine WL.nil (W.seq (W.sr (WL.c 0 underlying44 rfl sizeOf3 rfl isAgg3 h rfl (WL.v (run_eqlF rfl rfl (by decide)) (WL.nil ?_)))))
 refine W.cs ?_
 refine W.draw Tryz.follows h (fun w h => ?_)
 refine WT.m 0 rfl ?_
 refine WT.loadN (vs := qv1) 2 rfl (by kernel_rfl) isAgg36 sizeOf36 rfl rfl (h.rowV (n := 27) rfl) rfl rfl ?_
 refine WT.e 1 [true] rfl (eff_call call146 (ssayer_ok (bs := bs) (op := 33) h)) ?_
 rintro _ w ⟨b2, b3, rfl, h⟩
 refine ⟨⟨(h.rowV (n := 27) rfl), trivial⟩, ?_⟩
 refine WT.e 3 [false] rfl (eff_callV (xs := [_]) rfl call169 (ssayer1_ok (K := K) (s := s) (op := 33) (p := ({ zPd with tag := tag, st := 0, fin := true, len := n } : Pd)) (ap := none) (cp := 0) (okResp ht hn hsn) hK0 (h.to (T := SeP 183 117 K bs acl (.func fd fa fc) s :: blk b2 [.pointer (some ⟨bs, 0, none⟩)] 129 :: blk b3 [.int .i64 33] 3 :: L)) Gives.nilB)) ?_
 rintro _ w h
 refine ⟨trivial, ?_⟩
 refine WT.dn (bodyQ.fall (bodyQ.r0 results164 ?_))
 exact h
end Go.Proofs.YtjfmjbmkkpkppaaGreatDoor
namespace Go.Proofs.YtjfmjbmkkpkppaaGreatDoor
open Go.Proofs.Tryz
open Go Go.Sl Go.Sl.BitM Go.Sl.SpM Go.Sl.RsM Go.Sl.ByM Go.Sl.UnM
set_option maxHeartbeats 1000000
set_option maxRecDepth 8000
variable {W0 w : World} {L F : List HProp}
theorem laid_ok {ax : Option Addr} {n cx : Nat} (h : On W0 L w) : Calls Tryz.prog 61 #[.slice ax n cx] w (Ret fun v w' => ∃ bx, v = .func (.func 98) #[] #[.pointer (some ⟨bx, 0, none⟩)] ∧ On W0 (blk bx [.slice ax n cx] 26 :: L) w') := by
 refine enter func61 rfl ntmps61 rfl (W.sr (WL.e (eff_box (v := .slice _ _ _) (l := [.slice _ _ _]) h rfl rfl) ?_))
 rintro _ w ⟨b1, rfl, h⟩
 refine WL.z (W.sr (WL.v run_makeFunc (WL.z (W.ret ?_))))
 refine bodyQ.r1  results61 rfl ?_
 exact ⟨_, rfl, h⟩
theorem inquiry_ok (h : On W0 L w) : Calls Tryz.prog 81 #[] w (Ret fun v w' => ∃ a, v = .slice a inqB.length inqB.length ∧ On W0 (OwnB (.slice a inqB.length inqB.length) inqB :: L) w') := by
 refine enter func81 rfl ntmps81 rfl ?_
 have hmx := maxLen_eq
 refine W.sr (WL.z (W.sr (WL.e (eff_make (n := 36) (bytes := 1) h rfl rfl underlying26 rfl rfl rfl rfl rfl (by omega) (by omega)) ?_)))
 rintro _ w ⟨b3, rfl, h⟩
 have h : On W0 (Own 1 (.slice (some ⟨b3, 0, none⟩) 36 36) 36 (bytesV (List.replicate 36 (0 : UInt8))) :: _) w := h
 refine WL.z (W.sr (WL.m (WL.e (eff_call call61 (laid_ok (ax := some ⟨b3, 0, none⟩) (n := 36) (cx := 36) h)) ?_)))
 rintro _ w ⟨bx, rfl, h⟩
 refine WL.z (W.sr (WL.m (WL.e (eff_mkSlice (zl := [.int .u8 0, .int .u8 0, .int .u8 0]) (out := [.int .u8 _, .int .u8 _, .int .u8 _]) h underlying26 sizeOf5 zeroValue5 (by decide) (by kernel_rfl) rfl rfl (by simp) (⟨⟨_, _, rfl, rfl, by decide⟩, ⟨⟨_, _, rfl, rfl, by decide⟩, ⟨⟨_, _, rfl, rfl, by decide⟩, trivial⟩⟩⟩) rfl rfl (by simp [maxLen])) ?_)))
 rintro _ w ⟨b7, rfl, h⟩
 refine WL.e (eff_call2C (v1 := .int .i64 ((2 : Nat) : Int)) (v2 := .slice (some ⟨b7, 0, none⟩) 3 3) rfl call98 rfl rfl (laid1_ok (bx := bx) (bo := b3) (n := 36) (k := 3) (at_ := 2) (ay := (some ⟨b7, 0, none⟩)) (cy := 3) (xs := (List.replicate 36 (0 : UInt8))) (ys := [5, 2, 31]) (by decide) (by first | rfl | exact be_length ..) (by decide) (by decide) ((h.fetch (Own 1 (.slice (some ⟨b3, 0, none⟩) 36 36) 36 (bytesV (List.replicate 36 (0 : UInt8))))).fetch (blk bx [.slice (some ⟨b3, 0, none⟩) 36 36] 26)) (Gives.ownO (v := .slice (some ⟨b7, 0, none⟩) ([5, 2, 31]).length 3)))) ?_
 rintro _ w h
 refine WL.nil (W.sr (WL.m ?_))
 refine WL.e (eff_mkRow (out := [.int .u8 _, .int .u8 _, .int .u8 _, .int .u8 _, .int .u8 _, .int .u8 _, .int .u8 _, .int .u8 _, .int .u8 _, .int .u8 _, .int .u8 _, .int .u8 _, .int .u8 _, .int .u8 _, .int .u8 _, .int .u8 _, .int .u8 _, .int .u8 _, .int .u8 _, .int .u8 _, .int .u8 _, .int .u8 _, .int .u8 _, .int .u8 _, .int .u8 _, .int .u8 _, .int .u8 _, .int .u8 _]) h underlying26 sizeOf5 zeroValue5 rfl (by decide) rfl rfl rfl) ?_
 rintro _ w ⟨b10, rfl, h⟩
 refine WL.e (eff_ofString h rfl (by omega) underlying26 underlying5) ?_
 rintro _ w ⟨rfl, h⟩
 refine WL.e (eff_call2C (v1 := .int .i64 ((8 : Nat) : Int)) (v2 := .slice (some ⟨b10, 0, none⟩) 28 28) rfl call98 rfl rfl (laid1_ok (bx := bx) (bo := b3) (n := 36) (k := 28) (at_ := 8) (ay := (some ⟨b10, 0, none⟩)) (cy := 28) (xs := (over (List.replicate 36 (0 : UInt8)) 2 [5, 2, 31])) (ys := [71, 69, 77, 69, 76, 32, 32, 32, 84, 87, 73, 78, 32, 68, 73, 83, 75, 32, 32, 32, 32, 32, 32, 32, 48, 48, 48, 49]) (by decide) (by first | rfl | exact be_length ..) (by decide) (by decide) ((h.fetch (Own 1 (.slice (some ⟨b3, 0, none⟩) 36 36) 36 (bytesV (over (List.replicate 36 (0 : UInt8)) 2 [5, 2, 31])))).fetch (blk bx [.slice (some ⟨b3, 0, none⟩) 36 36] 26)) (Gives.ownO (v := .slice (some ⟨b10, 0, none⟩) ([71, 69, 77, 69, 76, 32, 32, 32, 84, 87, 73, 78, 32, 68, 73, 83, 75, 32, 32, 32, 32, 32, 32, 32, 48, 48, 48, 49]).length 28)))) ?_
 rintro _ w h
 refine WL.nil (W.sr (WL.m (WL.z (W.ret (bodyQ.r1 (v := .slice _ _ _) results81 rfl ?_)))))
 have h : On W0 (blk bx _ _ :: OwnB (.slice (some ⟨b3, 0, none⟩) inqB.length inqB.length) inqB :: _) w := h
 exact ⟨_, rfl, h.to⟩
theorem senc_ok {s : Int} {k c : Nat} (hk : k < 16) (hc : c < 65536) (h : On W0 L w) : Calls Tryz.prog 20 #[(plain s (k : Int) (c : Int)).val (.slice none 0 0)] w (Ret fun v w' => ∃ a, v = .slice a (senseB k c).length (senseB k c).length ∧ On W0 (OwnB (.slice a (senseB k c).length (senseB k c).length) (senseB k c) :: L) w') := by
 refine enter func20 rfl ntmps20 rfl ?_
 have hmx := maxLen_eq
 refine W.sr (WL.e (eff_box (v := .agg _) (l := (plain s (k : Int) (c : Int)).cells (.slice none 0 0)) h rfl rfl) ?_)
 rintro _ w ⟨b1, rfl, h⟩
 have h : On W0 (blk b1 [.int .i64 s, .int .i64 (k : Int), .int .i64 (c : Int), .slice none 0 0, .int .i64 0] 44 :: _) w := h
 refine WL.z (W.sr (WL.e (eff_make (n := 18) (bytes := 1) h rfl rfl underlying26 rfl rfl rfl rfl rfl (by omega) (by omega)) ?_))
 rintro _ w ⟨b6, rfl, h⟩
 have h : On W0 (Own 1 (.slice (some ⟨b6, 0, none⟩) 18 18) 18 (bytesV (List.replicate 18 (0 : UInt8))) :: _) w := h
 refine WL.z (W.sr (WL.m (WL.e (eff_call call61 (laid_ok (ax := some ⟨b6, 0, none⟩) (n := 18) (cx := 18) h)) ?_)))
 rintro _ w ⟨bx, rfl, h⟩
 refine WL.z (W.sr (WL.z (W.seq (W.seq ?_))))
 refine W.region (WL.c 4 underlying44 rfl sizeOf3 rfl isAgg3 h rfl (WL.v (run_convInt underlying3 underlying24 rfl) (WL.v (run_neqF rfl rfl (by decide)) (WL.nil (W.cs ?_)))))
 refine W.sr (WL.m (WL.m (WL.e (eff_mkSlice (zl := [.int .u8 0]) (out := [.int .u8 _]) h underlying26 sizeOf5 zeroValue5 (by decide) (by kernel_rfl) rfl rfl (by simp) (⟨⟨_, _, rfl, rfl, by decide⟩, trivial⟩) rfl rfl (by simp [maxLen])) ?_)))
 rintro _ w ⟨b17, rfl, h⟩
 refine WL.e (eff_call2C (v1 := .int .i64 ((0 : Nat) : Int)) (v2 := .slice (some ⟨b17, 0, none⟩) 1 1) rfl call98 rfl rfl (laid1_ok (bx := bx) (bo := b6) (n := 18) (k := 1) (at_ := 0) (ay := (some ⟨b17, 0, none⟩)) (cy := 1) (xs := (List.replicate 18 (0 : UInt8))) (ys := [112]) (by decide) (by first | rfl | exact be_length ..) (by decide) (by decide) ((h.fetch (Own 1 (.slice (some ⟨b6, 0, none⟩) 18 18) 18 (bytesV (List.replicate 18 (0 : UInt8))))).fetch (blk bx [.slice (some ⟨b6, 0, none⟩) 18 18] 26)) (Gives.ownO (v := .slice (some ⟨b17, 0, none⟩) ([112]).length 1)))) ?_
 rintro _ w h
 refine WL.nil (W.sr (WL.m (WL.c 1 underlying44 rfl sizeOf3 rfl isAgg3 h rfl (WL.v (run_andN (k := .i64) (m := k) (n := 15) rfl rfl (by show _ ≤ (9223372036854775807 : Int); omega) (by decide)) (WL.v (run_convByte underlying3 underlying5 rfl) ?_)))))
 refine WL.e (eff_mkSlice (zl := [.int .u8 0]) (out := [.int .u8 (((UInt8.ofNat (k &&& 15)).toNat : Nat) : Int)]) h underlying26 sizeOf5 zeroValue5 (by decide) (by kernel_rfl) rfl rfl (by simp) (⟨⟨_, _, rfl, rfl, by decide⟩, trivial⟩) rfl rfl (by simp [maxLen])) ?_
 rintro _ w ⟨b24, rfl, h⟩
 rw [show k &&& 15 = k by rw [show (15 : Nat) = 2 ^ 4 - 1 from rfl, Nat.and_two_pow_sub_one_eq_mod]; omega] at h
 have h : On W0 (Own 1 (.slice (some ⟨b24, 0, none⟩) ([UInt8.ofNat k] : List UInt8).length 1) 1 (bytesV [UInt8.ofNat k]) :: _) w := h
 refine WL.e (eff_call2C (v1 := .int .i64 ((2 : Nat) : Int)) (v2 := .slice (some ⟨b24, 0, none⟩) 1 1) rfl call98 rfl rfl (laid1_ok (bx := bx) (bo := b6) (n := 18) (k := 1) (at_ := 2) (ay := (some ⟨b24, 0, none⟩)) (cy := 1) (xs := (over (List.replicate 18 (0 : UInt8)) 0 [112])) (ys := [UInt8.ofNat k]) (by decide) (by first | rfl | exact be_length ..) (by decide) (by decide) ((h.fetch (Own 1 (.slice (some ⟨b6, 0, none⟩) 18 18) 18 (bytesV (over (List.replicate 18 (0 : UInt8)) 0 [112])))).fetch (blk bx [.slice (some ⟨b6, 0, none⟩) 18 18] 26)) (Gives.ownO (v := .slice (some ⟨b24, 0, none⟩) ([UInt8.ofNat k]).length 1)))) ?_
 rintro _ w h
 refine WL.nil (W.sr (WL.m (WL.c 4 underlying44 rfl sizeOf3 rfl isAgg3 h rfl (WL.v (run_convIn underlying3 underlying27 rfl (by decide) (by decide)) (WL.e (eff_call call38 (bput_ok (ax := none) (cx := 0) (bs := []) (v := 0) (n := 4) h Gives.nilB (by decide) (by decide) (by omega) (by decide))) ?_)))))
 rintro _ w ⟨a30, rfl, h⟩
 have h : On W0 (OwnB (.slice a30 (be 0 4).length 4) (be 0 4) :: _) w := h
 refine WL.e (eff_call2C (v1 := .int .i64 ((3 : Nat) : Int)) (v2 := .slice a30 4 4) rfl call98 rfl rfl (laid1_ok (bx := bx) (bo := b6) (n := 18) (k := 4) (at_ := 3) (ay := a30) (cy := 4) (xs := (over (over (List.replicate 18 (0 : UInt8)) 0 [112]) 2 [UInt8.ofNat k])) (ys := (be 0 4)) (by decide) (by first | rfl | exact be_length ..) (by decide) (by decide) ((h.fetch (Own 1 (.slice (some ⟨b6, 0, none⟩) 18 18) 18 (bytesV (over (over (List.replicate 18 (0 : UInt8)) 0 [112]) 2 [UInt8.ofNat k])))).fetch (blk bx [.slice (some ⟨b6, 0, none⟩) 18 18] 26)) (Gives.ownO (v := .slice a30 ((be 0 4)).length 4)))) ?_
 rintro _ w h
 refine WL.nil (W.sr (WL.m (WL.e (eff_mkSlice (zl := [.int .u8 0]) (out := [.int .u8 _]) h underlying26 sizeOf5 zeroValue5 (by decide) (by kernel_rfl) rfl rfl (by simp) (⟨⟨_, _, rfl, rfl, by decide⟩, trivial⟩) rfl rfl (by simp [maxLen])) ?_)))
 rintro _ w ⟨b33, rfl, h⟩
 refine WL.e (eff_call2C (v1 := .int .i64 ((7 : Nat) : Int)) (v2 := .slice (some ⟨b33, 0, none⟩) 1 1) rfl call98 rfl rfl (laid1_ok (bx := bx) (bo := b6) (n := 18) (k := 1) (at_ := 7) (ay := (some ⟨b33, 0, none⟩)) (cy := 1) (xs := (over (over (over (List.replicate 18 (0 : UInt8)) 0 [112]) 2 [UInt8.ofNat k]) 3 (be 0 4))) (ys := [10]) (by decide) (by first | rfl | exact be_length ..) (by decide) (by decide) ((h.fetch (Own 1 (.slice (some ⟨b6, 0, none⟩) 18 18) 18 (bytesV (over (over (over (List.replicate 18 (0 : UInt8)) 0 [112]) 2 [UInt8.ofNat k]) 3 (be 0 4))))).fetch (blk bx [.slice (some ⟨b6, 0, none⟩) 18 18] 26)) (Gives.ownO (v := .slice (some ⟨b33, 0, none⟩) ([10]).length 1)))) ?_
 rintro _ w h
 refine WL.nil (W.sr (WL.m (WL.c 2 underlying44 rfl sizeOf3 rfl isAgg3 h rfl (WL.v (run_convIn underlying3 underlying27 rfl (by show (0 : Int) ≤ _; omega) (by show _ ≤ (18446744073709551615 : Int); omega)) (WL.e (eff_call call38 (bput_ok (ax := none) (cx := 0) (bs := []) (v := c) (n := 2) h Gives.nilB (by decide) (by decide) (by omega) (by decide))) ?_)))))
 rintro _ w ⟨a39, rfl, h⟩
 have h : On W0 (OwnB (.slice a39 (be c 2).length 2) (be c 2) :: _) w := h
 refine WL.e (eff_call2C (v1 := .int .i64 ((12 : Nat) : Int)) (v2 := .slice a39 2 2) rfl call98 rfl rfl (laid1_ok (bx := bx) (bo := b6) (n := 18) (k := 2) (at_ := 12) (ay := a39) (cy := 2) (xs := (over (over (over (over (List.replicate 18 (0 : UInt8)) 0 [112]) 2 [UInt8.ofNat k]) 3 (be 0 4)) 7 [10])) (ys := (be c 2)) (by decide) (by first | rfl | exact be_length ..) (by decide) (by decide) ((h.fetch (Own 1 (.slice (some ⟨b6, 0, none⟩) 18 18) 18 (bytesV (over (over (over (over (List.replicate 18 (0 : UInt8)) 0 [112]) 2 [UInt8.ofNat k]) 3 (be 0 4)) 7 [10])))).fetch (blk bx [.slice (some ⟨b6, 0, none⟩) 18 18] 26)) (Gives.ownO (v := .slice a39 ((be c 2)).length 2)))) ?_
 rintro _ w h
 refine WL.nil (W.sr (WL.m (WL.z (W.ret (bodyQ.r1 (v := .slice _ _ _) results20 rfl ?_)))))
 have h : On W0 (blk bx _ _ :: OwnB (.slice (some ⟨b6, 0, none⟩) (senseB k c).length (senseB k c).length) (senseB k c) :: _) w := h
 exact ⟨_, rfl, h.to⟩
theorem capacity_ok {n : Nat} (h1 : 1 ≤ n) (h2 : n ≤ 1024) (h : On W0 L w) : Calls Tryz.prog 82 #[.int .i64 (n : Int)] w (Ret fun v w' => ∃ a, v = .slice a (capB n).length (capB n).length ∧ On W0 (OwnB (.slice a (capB n).length (capB n).length) (capB n) :: L) w') := by
 refine enter func82 rfl ntmps82 rfl (W.sr (WL.z (W.sr (WL.m ?_))))
 refine WL.v (run_maxN (m := n) (n := 1) (r := n) rfl rfl (by omega)) (WL.v (run_subN (m := n) (n := 1) rfl rfl (by omega) (by omega)) (WL.v (run_convIn underlying3 underlying27 rfl (by show (0 : Int) ≤ _; omega) (by show _ ≤ (18446744073709551615 : Int); omega)) (WL.e (eff_call call38 (bput_ok (ax := none) (cx := 0) (bs := []) (v := n - 1) (n := 4) h Gives.nilB (by decide) (by decide) (by omega) (by decide))) ?_)))
 rintro _ w ⟨a7, rfl, h⟩
 refine WL.e (eff_call call38 (bput_ok (v := 8) (n := 4) (bs := [] ++ be (n - 1) 4) h (Gives.ownO (v := .slice a7 ([] ++ be (n - 1) 4).length ([] ++ be (n - 1) 4).length)) (by decide) (by decide) (by omega) (by rw [List.nil_append, be_length]; decide))) ?_
 rintro _ w ⟨a8, rfl, h⟩
 refine WL.z (W.ret (bodyQ.r1 (v := .slice _ _ _) results82 rfl ?_))
 have h2 : On W0 (OwnB (.slice a8 (capB n).length (capB n).length) (capB n) :: _) w := h
 exact ⟨a8, rfl, h2.to⟩
theorem sin_ok {b : Nat} {s : Sp} {at_ n : Int} (h : On W0 (SpP 151 b s :: L) w) : Calls Tryz.prog 111 #[.pointer (some ⟨b, 0, none⟩), .int .i64 at_, .int .i64 n] w (Ret fun v w' => ((v = .bool true ∧ inS s at_ n) ∨ (v = .bool false ∧ ¬ inS s at_ n)) ∧ On W0 (SpP 151 b s :: L) w') := by
 have ho := openS h
 obtain ⟨gd, od, cd, am, cm, hw, h⟩ := ho
 exact (in_s hw.2.2.1 h).mono fun e w' he => by
   obtain ⟨v, he, hv⟩ := he
   refine ⟨v, he, ?_⟩
   exact ⟨hv.1, closeS (cd := cd) (cm := cm) (gd := gd) (od := od) (am := am) hw hv.2⟩
theorem tell_ok {bu i : Nat} {u : Un} {pool : PoolL} {ms : List Nat} {x : Int} (hi : i < 8) (hsm : (u.guest i).codes.length ≤ 1000000) (h : On W0 (UnP 108 151 154 bu pool ms u :: L) w) : Calls Tryz.prog 97 #[.pointer (some ⟨bu, 0, none⟩), .int .i64 (i : Int), .int .i64 x] w (Ret fun v w' => On W0 (UnP 108 151 154 bu pool ms (u.tell i x) :: L) w') := by
 refine enter func97 rfl ntmps97 rfl ?_
 have hmx := maxLen_eq
 have ob_ := openU h
 obtain ⟨bs, bt, gs, hm, hl, h⟩ := ob_
 have ob_ := row_of hm hl hi
 obtain ⟨g, hg, hgu⟩ := ob_
 have h := Big.open hg (h.fetch (Big (GOwn pool) gs))
 have ob_ := openG h
 obtain ⟨hok, h⟩ := ob_
 have ob1_ := Own.bounds h
 obtain ⟨hb1, hb2⟩ := ob1_
 have hig : i < gs.length := by have := (List.getElem?_eq_some_iff.1 hg).1; omega
 rw [← hgu] at hsm
 refine W.sr (WL.m (WL.m (WL.n rfl (WL.f 2 underlying108 rfl sizeOf106 rfl rfl (WL.v (run_indexAddrArr underlying106 sizeOf105 rfl rfl (by omega) (by omega)) (WL.a ?_))))))
 refine WL.nil (W.sr (WL.m (WL.n rfl (WL.f 0 underlying105 rfl sizeOf102 rfl rfl (WL.l isAgg102 rfl (h.cellB (ucell (bs := bs) (bt := bt) hg (k := 0) (by decide) rfl)) (WL.m ?_))))))
 refine WL.e (eff_call call126 (contains_ints (l := g.s.codes) (ao := g.a) (cap := g.c) (x := x) h (Gives.ownO (v := .slice g.a g.s.codes.length g.c)))) ?_
 rintro _ w ⟨hv, h⟩
 have hcs := Bool.eq_false_or_eq_true (decide (x ∈ g.s.codes))
 rcases hcs with hin | hin <;> (rw [hin] at hv; subst hv)
 ·
  refine WL.v (run_not rfl) (WL.nil (W.cs (bodyQ.fall (bodyQ.r0 results97 ?_))))
  first
    | (have e : u.tell i x = u.putG i ({ g with s := g.s.tell x, a := a26, c := c26 } : GX).s := by unfold Un.tell; rw [← hgu]
       rw [e]
       exact h.to)
    | (have hin' : x ∈ g.s.codes := of_decide_eq_true hin
       have h := Big.close (y := g) hig (closeG (g := g) hok (((h.fetch (Big (GOwn pool) (gs.eraseIdx i))).fetch (MapC g.mb .u64 g.kvs g.ck)).fetch (CodesO g)))
       rw [set_same hg] at h
       have h := closeU (bu := bu) (u := u) hm hl ((((h.fetch (Big (GOwn pool) gs)).fetch (blk bt u.t.cells 154)).fetch (SpP 151 bs u.s)).fetch (blk bu (ucells bs bt gs) 108))
       rw [tell_same hl hi (by rw [← hgu]; exact hin')]
       exact h.to)
 refine WL.v (run_not rfl) (WL.nil (W.ct (W.region (WL.m (WL.m (WL.n rfl (WL.f 0 underlying105 rfl sizeOf102 rfl rfl ?_)))))))
 refine WL.l isAgg102 rfl (h.cellB (ucell (bs := bs) (bt := bt) hg (k := 0) (by decide) rfl)) (WL.m (WL.e (eff_mkSlice (zl := [.int .i64 0]) (out := [.int .i64 _]) h underlying102 sizeOf3 zeroValue3 (by decide) (by kernel_rfl) rfl rfl (by simp) (⟨⟨_, _, rfl, rfl, by decide⟩, trivial⟩) rfl rfl (by simp [maxLen])) ?_))
 rintro _ w ⟨b25, rfl, h⟩
 refine WL.e (eff_app (c2 := 1) (bytes := 8) h rfl rfl (h.cellsO (v := .slice (some ⟨b25, 0, none⟩) 1 1)) underlying102 rfl rfl rfl rfl rfl (by omega) (by omega) (by simp [Value.oneCell'])) ?_
 rintro _ w ⟨a26, c26, rfl, h⟩
 refine WL.n rfl (WL.f 0 underlying105 rfl sizeOf102 rfl rfl (WL.e (eff_store (v := .slice a26 (g.s.codes.length + 1) c26) h sizeOf102 rfl rfl rfl (ult (bs := bs) (bt := bt) hg (k := 0) (by decide)) (free0 _)) ?_))
 rintro _ w h
 have hnin : x ∉ g.s.codes := of_decide_eq_false hin
 have ec : (g.s.tell x).codes = g.s.codes ++ [x] := if_neg hnin
 have ec2 : (g.s.tell x).codes.length = g.s.codes.length + 1 := by rw [ec, List.length_append]; rfl
 have ec3 : cV g.s.codes ++ [.int .i64 x] = cV (g.s.tell x).codes := by rw [ec]; simp [cV]
 have er : ({ g with s := g.s.tell x, a := a26, c := c26 } : GX).row = g.row.set 0 (.slice a26 (g.s.codes.length + 1) c26) := by
   show [Value.slice a26 (g.s.tell x).codes.length c26, _, _] = _
   rw [ec2]; rfl
 rw [uset (bs := bs) (bt := bt) hg (k := 0) (by decide) er] at h
 have h : On W0 (Own 1 (.slice a26 (g.s.codes.length + 1) c26) (g.s.codes.length + 1) (cV g.s.codes ++ [.int .i64 x]) :: _) w := h.own (.slice a26 (g.s.codes.length + 1) c26)
 rw [ec3, ← ec2] at h
 have h : On W0 (CodesO ({ g with s := g.s.tell x, a := a26, c := c26 } : GX) :: _) w := h
 have hok' : okD pool ({ g with s := g.s.tell x, a := a26, c := c26 } : GX).s.done ({ g with s := g.s.tell x, a := a26, c := c26 } : GX).kvs := hok
 have h := Big.close (y := ({ g with s := g.s.tell x, a := a26, c := c26 } : GX)) hig (closeG (g := ({ g with s := g.s.tell x, a := a26, c := c26 } : GX)) hok' (((h.fetch (Big (GOwn pool) (gs.eraseIdx i))).fetch (MapC ({ g with s := g.s.tell x, a := a26, c := c26 } : GX).mb .u64 ({ g with s := g.s.tell x, a := a26, c := c26 } : GX).kvs ({ g with s := g.s.tell x, a := a26, c := c26 } : GX).ck)).fetch (CodesO ({ g with s := g.s.tell x, a := a26, c := c26 } : GX))))
 have hm' : (gs.set i ({ g with s := g.s.tell x, a := a26, c := c26 } : GX)).map (·.s) = ((u.putG i ({ g with s := g.s.tell x, a := a26, c := c26 } : GX).s)).g ∧ (gs.set i ({ g with s := g.s.tell x, a := a26, c := c26 } : GX)).map (·.mb) = ms := put_map hm hg rfl
 have h := closeU (bu := bu) (u := (u.putG i ({ g with s := g.s.tell x, a := a26, c := c26 } : GX).s)) hm' (put_len hl) ((((h.fetch (Big (GOwn pool) (gs.set i ({ g with s := g.s.tell x, a := a26, c := c26 } : GX)))).fetch (blk bt u.t.cells 154)).fetch (SpP 151 bs u.s)).fetch (blk bu (ucells bs bt (gs.set i ({ g with s := g.s.tell x, a := a26, c := c26 } : GX))) 108))
 refine WL.nil (bodyQ.fall (bodyQ.r0 results97 ?_))
 first
   | (have e : u.tell i x = u.putG i ({ g with s := g.s.tell x, a := a26, c := c26 } : GX).s := by unfold Un.tell; rw [← hgu]
      rw [e]
      exact h.to)
   | (have hin' : x ∈ g.s.codes := of_decide_eq_true hin
      have h := Big.close (y := g) hig (closeG (g := g) hok (((h.fetch (Big (GOwn pool) (gs.eraseIdx i))).fetch (MapC g.mb .u64 g.kvs g.ck)).fetch (CodesO g)))
      rw [set_same hg] at h
      have h := closeU (bu := bu) (u := u) hm hl ((((h.fetch (Big (GOwn pool) gs)).fetch (blk bt u.t.cells 154)).fetch (SpP 151 bs u.s)).fetch (blk bu (ucells bs bt gs) 108))
      rw [tell_same hl hi (by rw [← hgu]; exact hin')]
      exact h.to)
theorem told_ok {bu i : Nat} {u : Un} {pool : PoolL} {ms : List Nat} (hi : i < 8) (hsm : (u.guest i).codes.length ≤ 1000000) (h : On W0 (UnP 108 151 154 bu pool ms u :: L) w) : Calls Tryz.prog 57 #[.pointer (some ⟨bu, 0, none⟩), .int .i64 (i : Int)] w (Ret fun v w' => (∃ x l, (u.guest i).codes = x :: l ∧ v = .tuple #[(plain 2 6 x).val (.slice none 0 0), .bool true] ∧ On W0 (UnP 108 151 154 bu pool ms (u.putG i (u.guest i).pop) :: L) w') ∨ ((u.guest i).codes = [] ∧ v = .tuple #[(plain 0 0 0).val (.slice none 0 0), .bool false] ∧ On W0 (UnP 108 151 154 bu pool ms u :: L) w')) := by
 refine enter func57 rfl ntmps57 rfl ?_
 have hmx := maxLen_eq
 have ob_ := openU h
 obtain ⟨bs, bt, gs, hm, hl, h⟩ := ob_
 have ob_ := row_of hm hl hi
 obtain ⟨g, hg, hgu⟩ := ob_
 have h := Big.open hg (h.fetch (Big (GOwn pool) gs))
 have ob_ := openG h
 obtain ⟨hok, h⟩ := ob_
 have ob1_ := Own.bounds h
 obtain ⟨hb1, hb2⟩ := ob1_
 have hig : i < gs.length := by have := (List.getElem?_eq_some_iff.1 hg).1; omega
 rw [← hgu] at hsm
 rw [← hgu]
 refine W.sr (WL.e (eff_alloc h zeroValue44 rfl) ?_)
 rintro _ w ⟨b4, rfl, h⟩
 refine WL.z (W.sr (WL.m (WL.m (WL.n rfl (WL.f 2 underlying108 rfl sizeOf106 rfl rfl ?_)))))
 refine WL.v (run_indexAddrArr underlying106 sizeOf105 rfl rfl (by omega) (by omega)) (WL.z (W.seq (W.sr (WL.m (WL.n rfl ?_)))))
 refine WL.f 0 underlying105 rfl sizeOf102 rfl rfl (WL.l isAgg102 rfl (h.cellB (ucell (bs := bs) (bt := bt) hg (k := 0) (by decide) rfl)) (WL.v (run_lenSlice underlying102 rfl) (WL.v (run_eql rfl rfl) (WL.nil ?_))))
 refine W.condIf rfl (fun c3 => ?_) (fun c3 => ?_)
 ·
  refine W.sr (WL.v (run_buildS (pl := qp0) (out := qv0) underlying44 zeroValue44 (fun w => by kernel_rfl) rfl (trivial) rfl) (WL.e (eff_storeW (vs := qv0) h sizeOf44 rfl rfl rfl rfl rfl) ?_))
  rintro _ w h
  refine WL.z (W.ret (bodyQ.rctB (vs := qv0) (v2 := .bool _) h results57 isAgg44 sizeOf44 rfl rfl rfl rfl ?_))
  have h := Big.close (y := g) hig (closeG (g := g) hok (((h.fetch (Big (GOwn pool) (gs.eraseIdx i))).fetch (MapC g.mb .u64 g.kvs g.ck)).fetch (CodesO g)))
  rw [set_same hg] at h
  have h := closeU (bu := bu) (u := u) hm hl ((((h.fetch (Big (GOwn pool) gs)).fetch (blk bt u.t.cells 154)).fetch (SpP 151 bs u.s)).fetch (blk bu (ucells bs bt gs) 108))
  exact .inr ⟨List.eq_nil_of_length_eq_zero (by omega), rfl, h.to⟩
 refine W.skip (W.seq ?_)
 have ob_ : ∃ x l, g.s.codes = x :: l := by
   cases hc : g.s.codes with
   | nil => rw [hc] at c3; exact absurd rfl c3
   | cons x l => exact ⟨x, l, rfl⟩
 obtain ⟨x, l, hxl⟩ := ob_
 have hx0 : g.s.codes[0]? = some x := by rw [hxl]; rfl
 have hpos : 0 < g.s.codes.length := by rw [hxl]; exact Nat.succ_pos _
 have ob3_ := Own.addr (h.own (.slice g.a g.s.codes.length g.c)) hpos
 obtain ⟨ba, oa, haa⟩ := ob3_
 have erow : g.row[0]? = some (.slice (some ⟨ba, oa, none⟩) g.s.codes.length g.c) := by rw [← haa]; rfl
 refine W.region (WL.m (WL.n rfl (WL.f 0 underlying105 rfl sizeOf102 rfl rfl (WL.l isAgg102 rfl (h.cellB (ucell (bs := bs) (bt := bt) hg (k := 0) (by decide) erow)) (WL.v (run_indexAddr underlying102 sizeOf3 rfl rfl (by omega) (by omega)) (WL.l isAgg3 rfl ((by have e0 := h.cellsO (v := .slice g.a g.s.codes.length g.c); rw [haa] at e0; exact Cells.elem e0 (i := 0) (vs := [.int .i64 x]) (by omega) (cV_get hx0) 0 _ rfl)) (WL.e (eff_call call49 (wrong_ok h)) ?_)))))))
 rintro _ w ⟨rfl, h⟩
 refine WL.e (eff_alloc h zeroValue44 rfl) ?_
 rintro _ w ⟨b7, rfl, h⟩
 refine WL.e (eff_storeW (vs := qv0) h sizeOf44 rfl rfl rfl rfl rfl) ?_
 rintro _ w h
 refine WL.nil (W.seq ?_)
 have ob_ := cut_codes (L := [CodesO g]) (k := 1) (l := g.s.codes) (a := g.a) (c := g.c) (Gives.ownO (v := .slice g.a g.s.codes.length g.c)) hpos hb1
 obtain ⟨a', c', hcut, CC⟩ := ob_
 have hd1 : (g.s.codes.drop 1).length ≤ 1000000000000 := by rw [List.length_drop]; omega
 refine W.region (WL.m (WL.m (WL.n rfl (WL.f 0 underlying105 rfl sizeOf102 rfl rfl (WL.l isAgg102 rfl (h.cellB (ucell (bs := bs) (bt := bt) hg (k := 0) (by decide) rfl)) (WL.v (run_cutLV (l := 1) underlying102 sizeOf3 rfl rfl hpos hcut) (WL.e (eff_call call78 (clone_ints (l := g.s.codes.drop 1) h (Gives.to CC) hd1)) ?_)))))))
 rintro _ w ⟨a33, c33, rfl, h⟩
 refine WL.n rfl (WL.f 0 underlying105 rfl sizeOf102 rfl rfl (WL.e (eff_store (v := .slice a33 (g.s.codes.drop 1).length c33) h sizeOf102 rfl rfl rfl (ult (bs := bs) (bt := bt) hg (k := 0) (by decide)) (free0 _)) ?_))
 rintro _ w h
 have er : ({ g with s := g.s.pop, a := a33, c := c33 } : GX).row = g.row.set 0 (.slice a33 (g.s.codes.drop 1).length c33) := rfl
 rw [uset (bs := bs) (bt := bt) hg (k := 0) (by decide) er] at h
 have h : On W0 (CodesO ({ g with s := g.s.pop, a := a33, c := c33 } : GX) :: _) w := h.own (.slice a33 (g.s.codes.drop 1).length c33)
 have hok' : okD pool ({ g with s := g.s.pop, a := a33, c := c33 } : GX).s.done ({ g with s := g.s.pop, a := a33, c := c33 } : GX).kvs := hok
 have h := Big.close (y := ({ g with s := g.s.pop, a := a33, c := c33 } : GX)) hig (closeG (g := ({ g with s := g.s.pop, a := a33, c := c33 } : GX)) hok' (((h.fetch (Big (GOwn pool) (gs.eraseIdx i))).fetch (MapC ({ g with s := g.s.pop, a := a33, c := c33 } : GX).mb .u64 ({ g with s := g.s.pop, a := a33, c := c33 } : GX).kvs ({ g with s := g.s.pop, a := a33, c := c33 } : GX).ck)).fetch (CodesO ({ g with s := g.s.pop, a := a33, c := c33 } : GX))))
 have hm' : (gs.set i ({ g with s := g.s.pop, a := a33, c := c33 } : GX)).map (·.s) = ((u.putG i g.s.pop)).g ∧ (gs.set i ({ g with s := g.s.pop, a := a33, c := c33 } : GX)).map (·.mb) = ms := put_map hm hg rfl
 have h := closeU (bu := bu) (u := (u.putG i g.s.pop)) hm' (put_len hl) ((((h.fetch (Big (GOwn pool) (gs.set i ({ g with s := g.s.pop, a := a33, c := c33 } : GX)))).fetch (blk bt u.t.cells 154)).fetch (SpP 151 bs u.s)).fetch (blk bu (ucells bs bt (gs.set i ({ g with s := g.s.pop, a := a33, c := c33 } : GX))) 108))
 refine WL.nil (W.sr (WL.v (run_loadB (vs := qv0) h isAgg44 sizeOf44 rfl rfl rfl) (WL.e (eff_storeW (vs := qv0) h sizeOf44 rfl rfl rfl rfl rfl) ?_)))
 rintro _ w h
 refine WL.z (W.ret (bodyQ.rctB (vs := qv0) (v2 := .bool _) h results57 isAgg44 sizeOf44 rfl rfl rfl rfl ?_))
 exact .inl ⟨x, l, hxl, rfl, h.to⟩
theorem runM_out {s : Sp} {c : Cm} (h : ¬ inS s c.at_ c.n) : runM s c = (s, plain 2 5 8448) := by unfold runM; rw [if_neg h]
theorem runM_read {s : Sp} {p q : Nat} {n : Int} {d : List UInt8} {key new typ : Int} {f : Bool} (hn : n = q) (h : inS s p n) : runM s ⟨2, p, n, d, key, new, typ, f⟩ = (s, gave (partS s p q)) := by
 subst hn; unfold runM; rw [if_pos h, if_pos rfl]; rfl
theorem runM_write {s : Sp} {p : Nat} {n : Int} {d : List UInt8} {key new typ : Int} {f : Bool} (h : inS s p n) (hl : (d.length : Int) = n * 8) : runM s ⟨3, p, n, d, key, new, typ, f⟩ = (writeS s p d, plain 0 0 0) := by
 unfold runM; rw [if_pos h, if_neg (show ¬ (3 : Int) = 2 by decide), if_pos rfl, if_pos hl]; rfl
theorem runM_write_no {s : Sp} {p n : Int} {d : List UInt8} {key new typ : Int} {f : Bool} (h : inS s p n) (hl : ¬ (d.length : Int) = n * 8) : runM s ⟨3, p, n, d, key, new, typ, f⟩ = (s, plain 2 5 9216) := by
 unfold runM; rw [if_pos h, if_neg (show ¬ (3 : Int) = 2 by decide), if_pos rfl, if_neg hl]
theorem runM_unmap {s : Sp} {p q : Nat} {n : Int} {d : List UInt8} {key new typ : Int} {f : Bool} (hn : n = q) (h : inS s p n) : runM s ⟨5, p, n, d, key, new, typ, f⟩ = (unmapS s p q, plain 0 0 0) := by
 subst hn; unfold runM; rw [if_pos h, if_neg (show ¬ (5 : Int) = 2 by decide), if_neg (show ¬ (5 : Int) = 3 by decide), if_pos rfl]; rfl
theorem runM_cmp {s : Sp} {p q : Nat} {n : Int} {d : List UInt8} {key new typ : Int} {f : Bool} (hn : n = q) (h : inS s p n) (hl : (d.length : Int) = 2 * (n * 8)) : runM s ⟨6, p, n, d, key, new, typ, f⟩ = cmpM s p q d := by
 subst hn; unfold runM; rw [if_pos h, if_neg (show ¬ (6 : Int) = 2 by decide), if_neg (show ¬ (6 : Int) = 3 by decide), if_neg (show ¬ (6 : Int) = 5 by decide), if_pos rfl, if_pos hl]; rfl
theorem runM_cmp_no {s : Sp} {p n : Int} {d : List UInt8} {key new typ : Int} {f : Bool} (h : inS s p n) (hl : ¬ (d.length : Int) = 2 * (n * 8)) : runM s ⟨6, p, n, d, key, new, typ, f⟩ = (s, plain 2 5 9216) := by
 unfold runM; rw [if_pos h, if_neg (show ¬ (6 : Int) = 2 by decide), if_neg (show ¬ (6 : Int) = 3 by decide), if_neg (show ¬ (6 : Int) = 5 by decide), if_pos rfl, if_neg hl]
theorem runM_else {s : Sp} {p n kind : Int} {d : List UInt8} {key new typ : Int} {f : Bool} (h : inS s p n) (h2 : kind ≠ 2) (h3 : kind ≠ 3) (h5 : kind ≠ 5) (h6 : kind ≠ 6) : runM s ⟨kind, p, n, d, key, new, typ, f⟩ = (s, plain 0 0 0) := by
 unfold runM; rw [if_pos h, if_neg h2, if_neg h3, if_neg h5, if_neg h6]
theorem cmpM_yes {s : Sp} {p q : Nat} {d : List UInt8} (h : partS s p q = d.take (8 * q)) : cmpM s p q d = (writeS s p (d.drop (8 * q)), plain 0 0 0) := by unfold cmpM; rw [if_pos h]
theorem cmpM_no {s : Sp} {p q i : Nat} {d : List UInt8} (hw : wfS s) (hpq : p + q ≤ s.N) (hd : d.length = 16 * q) (hi : i < 8 * q) (h1 : (partS s p q)[i]? ≠ d[i]?) (h2 : ∀ j, j < i → (partS s p q)[j]? = d[j]?) : cmpM s p q d = (s, ⟨2, 14, 7424, [], (i : Int)⟩) := by
 unfold cmpM
 rw [if_neg (fun e => h1 (by rw [e, List.getElem?_take, if_pos hi])), diffAt_eq _ _ i h1 (by rw [partS_length hw hpq]; exact hi) (by omega) h2]
theorem On.wfS {b : Nat} {s : Sp} (h : On W0 (SpP 151 b s :: L) w) : wfS s := by
 have ho := openS h
 obtain ⟨gd, od, cd, am, cm, hw, _⟩ := ho
 exact hw
theorem urun_ok {bu : Nat} {u : Un} {pool : PoolL} {ms : List Nat} {kind at_ n key new typ : Int} {force : Bool} {data : List UInt8} {ax : Option Addr} {cx : Nat} (h : On W0 (UnP 108 151 154 bu pool ms u :: L) w) (C : Gives L (Bytes (.slice ax data.length cx) data)) (hd : data.length ≤ 1000000) : Calls Tryz.prog 84 #[.pointer (some ⟨bu, 0, none⟩), (⟨kind, at_, n, data, key, new, typ, force⟩ : Cm).val (.slice ax data.length cx)] w (Ret fun v w' => ∃ s' r dv, runM u.s (⟨kind, at_, n, data, key, new, typ, force⟩ : Cm) = (s', r) ∧ v = r.val dv ∧ On W0 (OwnB dv r.data :: UnP 108 151 154 bu pool ms (u.setS s') :: L) w') := by
 refine enter func84 rfl ntmps84 rfl ?_
 have hmx := maxLen_eq
 have ob_ := openU h
 obtain ⟨bs, bt, gs, hm, hl, h⟩ := ob_
 have hwf := On.wfS (h.fetch (SpP 151 bs u.s))
 have hN := hwf.2.2.1
 refine W.sr (WL.e (eff_box (v := .agg _) (l := (⟨kind, at_, n, data, key, new, typ, force⟩ : Cm).cells (.slice ax data.length cx)) h rfl rfl) ?_)
 rintro _ w ⟨b3, rfl, h⟩
 have h : On W0 (blk b3 [.int .i64 kind, .int .i64 at_, .int .i64 n, .slice ax data.length cx, .int .u64 key, .int .u64 new, .int .i64 typ, .bool force] 29 :: _) w := h
 refine WL.e (eff_alloc h zeroValue44 rfl) ?_
 rintro _ w ⟨b4, rfl, h⟩
 refine WL.nil (W.seq (W.seq ?_))
 refine W.draw Tryz.follows h (fun w h => ?_)
 refine WT.m 0 rfl (WT.n 1 rfl rfl (WT.f 2 0 rfl underlying108 rfl sizeOf97 rfl rfl (WT.l 3 rfl isAgg97 rfl (h.cellB rfl) (WT.f 4 1 rfl underlying29 rfl sizeOf3 rfl rfl (WT.l 5 rfl isAgg3 rfl (h.cellB rfl) (WT.f 6 2 rfl underlying29 rfl sizeOf3 rfl rfl (WT.l 7 rfl isAgg3 rfl (h.cellB rfl) ?_)))))))
 refine WT.e 8 [false, false, false] rfl (eff_call call111 (sin_ok (h.fetch (SpP 151 bs u.s)))) ?_
 rintro _ w ⟨hv, h⟩
 rcases hv with ⟨rfl, hin⟩ | ⟨rfl, hin⟩
 all_goals (refine ⟨trivial, ?_⟩)
 ·
  refine WT.p 9 rfl (fun w' => (run_not rfl)) (WT.dn (W.cs (W.seq ?_)))
  have hin0 := hin
  unfold inS at hin0
  have ob_ := Int.eq_ofNat_of_zero_le (show 0 ≤ at_ by omega)
  obtain ⟨p, hp⟩ := ob_
  subst hp
  have ob_ := Int.eq_ofNat_of_zero_le (show 0 ≤ n by omega)
  obtain ⟨q, hq⟩ := ob_
  subst hq
  refine W.region (WL.c 2 underlying29 rfl sizeOf3 rfl isAgg3 h rfl (WL.v (run_mulN (m := q) (n := 8) rfl rfl (by omega)) (WL.z (W.seq (W.seq ?_)))))
  refine W.region (WL.c 0 underlying29 rfl sizeOf3 rfl isAgg3 h rfl (WL.nil (W.block (W.sr (WL.v (run_eql rfl rfl) ?_)))))
  refine WL.z ?_
  refine W.condIf rfl (fun c10 => ?_) (fun c10 => ?_)
  ·
   refine W.seq ?_
   refine W.draw Tryz.follows h (fun w h => ?_)
   refine WT.m 0 rfl (WT.n 1 rfl rfl (WT.f 2 0 rfl underlying108 rfl sizeOf97 rfl rfl (WT.l 3 rfl isAgg97 rfl (h.cellB rfl) (WT.f 4 1 rfl underlying29 rfl sizeOf3 rfl rfl (WT.l 5 rfl isAgg3 rfl (h.cellB rfl) (WT.f 6 2 rfl underlying29 rfl sizeOf3 rfl rfl (WT.l 7 rfl isAgg3 rfl (h.cellB rfl) ?_)))))))
   refine WT.e 8 [false, false, false] rfl (eff_call call112 (read_ok (s := u.s) (at_ := (p : Int)) (n := (q : Int)) (h.fetch (SpP 151 bs u.s)))) ?_
   rintro _ w hv
   rcases hv with ⟨p', q', hp', hq', hpq, hq32, a38, rfl, h⟩ | ⟨hno, _, _⟩
   rotate_left
   · exact absurd hin hno
   have ob_ : p = p' := by omega
   obtain rfl := ob_
   have ob_ : q = q' := by omega
   obtain rfl := ob_
   refine ⟨trivial, ?_⟩
   refine WT.m 9 rfl (WT.p 10 rfl (fun w' => (run_extract rfl rfl)) (WT.p 11 rfl (fun w' => (run_extract rfl rfl)) (WT.a 12 rfl (WT.a 13 rfl (WT.dn (W.sr ?_))))))
   refine WL.m (WL.e (eff_call call58 (sgood_ok (bs := partS u.s p q) h (Gives.ownO (v := .slice a38 (partS u.s p q).length (partS u.s p q).length)) (by rw [partS_length hwf hpq]; omega))) ?_)
   rintro _ w ⟨a42, rfl, h⟩
   refine WL.e (eff_storeW (vs := qv0) h sizeOf44 rfl rfl rfl rfl rfl) ?_
   rintro _ w h
   refine WL.nil (W.ret (bodyQ.rcB (vs := qv0) h results84 isAgg44 sizeOf44 rfl rfl rfl ?_))
   have h := (closeU (bu := bu) (u := u.setS u.s) hm hl ((((h.fetch (Big (GOwn pool) gs)).fetch (blk bt u.t.cells 154)).fetch (SpP 151 bs u.s)).fetch (blk bu (ucells bs bt gs) 108)))
   have h : On W0 (OwnB (.slice a42 (partS u.s p q).length (partS u.s p q).length) (gave (partS u.s p q)).data :: _) w := h.fetch (OwnB (.slice a42 (partS u.s p q).length (partS u.s p q).length) (partS u.s p q))
   exact ⟨u.s, _, .slice a42 (partS u.s p q).length (partS u.s p q).length, (by rw [c10]; exact runM_read rfl hin), rfl, h.to⟩
  refine W.sr (WL.v (run_eql rfl rfl) (WL.z ?_))
  refine W.condIf rfl (fun c15 => ?_) (fun c15 => ?_)
  ·
   refine W.seq (W.sr (WL.c 3 underlying29 rfl sizeOf26 rfl isAgg26 h rfl (WL.v (run_lenSlice underlying26 rfl) (WL.m (WL.v (run_neq rfl rfl) ?_)))))
   refine WL.nil ?_
   refine W.condIf rfl (fun c17 => ?_) (fun c17 => ?_)
   ·
    refine W.sr (WL.e (eff_call call49 (wrong_ok h)) ?_)
    rintro _ w ⟨rfl, h⟩
    refine WL.e (eff_storeW (vs := qv0) h sizeOf44 rfl rfl rfl rfl rfl) ?_
    rintro _ w h
    refine WL.nil (W.ret (bodyQ.rcB (vs := qv0) h results84 isAgg44 sizeOf44 rfl rfl rfl ?_))
    have h : On W0 (OwnB (.slice none 0 0) (plain 2 5 9216 : Rp).data :: _) w := (closeU (bu := bu) (u := u.setS u.s) hm hl ((((h.fetch (Big (GOwn pool) gs)).fetch (blk bt u.t.cells 154)).fetch (SpP 151 bs u.s)).fetch (blk bu (ucells bs bt gs) 108))).ownEmpty 1 none
    exact ⟨u.s, plain 2 5 9216, .slice none 0 0, (by rw [c15]; exact runM_write_no hin (by omega)), rfl, h.to⟩
   refine W.skip ?_
   refine W.draw Tryz.follows h (fun w h => ?_)
   refine WT.m 0 rfl (WT.n 1 rfl rfl (WT.f 2 0 rfl underlying108 rfl sizeOf97 rfl rfl (WT.l 3 rfl isAgg97 rfl (h.cellB rfl) (WT.f 4 1 rfl underlying29 rfl sizeOf3 rfl rfl (WT.l 5 rfl isAgg3 rfl (h.cellB rfl) (WT.f 6 3 rfl underlying29 rfl sizeOf26 rfl rfl (WT.l 7 rfl isAgg26 rfl (h.cellB rfl) ?_)))))))
   refine WT.e 8 [false, false, false] rfl (eff_call call113 (write_ok (s := u.s) (at_ := (p : Int)) (bs := data) (h.fetch (SpP 151 bs u.s)) (Gives.to C))) ?_
   rintro _ w hv
   rcases hv with ⟨p', hp', hm8, hpw, hq32, rfl, h⟩ | ⟨hno, _, _⟩
   rotate_left
   · exact absurd (show _ ∧ _ from ⟨by omega, by unfold inS; omega⟩) hno
   have ob_ : p = p' := by omega
   obtain rfl := ob_
   refine ⟨trivial, ?_⟩
   refine WT.dn (W.sr (WL.v (run_buildS (pl := qp0) (out := qv0) underlying44 zeroValue44 (fun w => by kernel_rfl) rfl (trivial) rfl) (WL.e (eff_storeW (vs := qv0) h sizeOf44 rfl rfl rfl rfl rfl) ?_)))
   rintro _ w h
   refine WL.nil (W.ret (bodyQ.rcB (vs := qv0) h results84 isAgg44 sizeOf44 rfl rfl rfl ?_))
   have h : On W0 (OwnB (.slice none 0 0) (plain 0 0 0 : Rp).data :: _) w := (closeU (bu := bu) (u := u.setS (writeS u.s p data)) hm hl ((((h.fetch (Big (GOwn pool) gs)).fetch (blk bt u.t.cells 154)).fetch (SpP 151 bs (writeS u.s p data))).fetch (blk bu (ucells bs bt gs) 108))).ownEmpty 1 none
   exact ⟨(writeS u.s p data), plain 0 0 0, .slice none 0 0, (by rw [c15]; exact runM_write hin (by omega)), rfl, h.to⟩
  refine W.sr (WL.v (run_eql rfl rfl) (WL.z ?_))
  refine W.condIf rfl (fun c23 => ?_) (fun c23 => ?_)
  ·
   refine W.draw Tryz.follows h (fun w h => ?_)
   refine WT.m 0 rfl (WT.n 1 rfl rfl (WT.f 2 0 rfl underlying108 rfl sizeOf97 rfl rfl (WT.l 3 rfl isAgg97 rfl (h.cellB rfl) (WT.f 4 1 rfl underlying29 rfl sizeOf3 rfl rfl (WT.l 5 rfl isAgg3 rfl (h.cellB rfl) (WT.f 6 2 rfl underlying29 rfl sizeOf3 rfl rfl (WT.l 7 rfl isAgg3 rfl (h.cellB rfl) ?_)))))))
   refine WT.e 8 [false, false, false] rfl (eff_call call114 (unmap_ok (s := u.s) (at_ := (p : Int)) (n := (q : Int)) (h.fetch (SpP 151 bs u.s)))) ?_
   rintro _ w hv
   rcases hv with ⟨p', q', hp', hq', hpq, hq32, rfl, h⟩ | ⟨hno, _, _⟩
   rotate_left
   · exact absurd hin hno
   have ob_ : p = p' := by omega
   obtain rfl := ob_
   have ob_ : q = q' := by omega
   obtain rfl := ob_
   refine ⟨trivial, ?_⟩
   refine WT.dn (W.sr (WL.v (run_buildS (pl := qp0) (out := qv0) underlying44 zeroValue44 (fun w => by kernel_rfl) rfl (trivial) rfl) (WL.e (eff_storeW (vs := qv0) h sizeOf44 rfl rfl rfl rfl rfl) ?_)))
   rintro _ w h
   refine WL.nil (W.ret (bodyQ.rcB (vs := qv0) h results84 isAgg44 sizeOf44 rfl rfl rfl ?_))
   have h : On W0 (OwnB (.slice none 0 0) (plain 0 0 0 : Rp).data :: _) w := (closeU (bu := bu) (u := u.setS (unmapS u.s p q)) hm hl ((((h.fetch (Big (GOwn pool) gs)).fetch (blk bt u.t.cells 154)).fetch (SpP 151 bs (unmapS u.s p q))).fetch (blk bu (ucells bs bt gs) 108))).ownEmpty 1 none
   exact ⟨(unmapS u.s p q), plain 0 0 0, .slice none 0 0, (by rw [c23]; exact runM_unmap rfl hin), rfl, h.to⟩
  refine W.sr (WL.v (run_eql rfl rfl) (WL.z ?_))
  refine W.condIf rfl (fun c26 => ?_) (fun c26 => ?_)
  ·
   refine W.seq (W.sr (WL.c 3 underlying29 rfl sizeOf26 rfl isAgg26 h rfl (WL.v (run_lenSlice underlying26 rfl) (WL.m (WL.v (run_mulN (m := 2) (n := q * 8) rfl rfl (by omega)) ?_)))))
   refine WL.v (run_neq rfl rfl) (WL.nil ?_)
   refine W.condIf rfl (fun c28 => ?_) (fun c28 => ?_)
   ·
    refine W.sr (WL.e (eff_call call49 (wrong_ok h)) ?_)
    rintro _ w ⟨rfl, h⟩
    refine WL.e (eff_storeW (vs := qv0) h sizeOf44 rfl rfl rfl rfl rfl) ?_
    rintro _ w h
    refine WL.nil (W.ret (bodyQ.rcB (vs := qv0) h results84 isAgg44 sizeOf44 rfl rfl rfl ?_))
    have h : On W0 (OwnB (.slice none 0 0) (plain 2 5 9216 : Rp).data :: _) w := (closeU (bu := bu) (u := u.setS u.s) hm hl ((((h.fetch (Big (GOwn pool) gs)).fetch (blk bt u.t.cells 154)).fetch (SpP 151 bs u.s)).fetch (blk bu (ucells bs bt gs) 108))).ownEmpty 1 none
    exact ⟨u.s, plain 2 5 9216, .slice none 0 0, (by rw [c26]; exact runM_cmp_no hin (by omega)), rfl, h.to⟩
   refine W.skip (W.seq ?_)
   refine W.draw Tryz.follows h (fun w h => ?_)
   refine WT.m 0 rfl (WT.n 1 rfl rfl (WT.f 2 0 rfl underlying108 rfl sizeOf97 rfl rfl (WT.l 3 rfl isAgg97 rfl (h.cellB rfl) (WT.f 4 1 rfl underlying29 rfl sizeOf3 rfl rfl (WT.l 5 rfl isAgg3 rfl (h.cellB rfl) (WT.f 6 3 rfl underlying29 rfl sizeOf26 rfl rfl (WT.l 7 rfl isAgg26 rfl (h.cellB rfl) ?_)))))))
   refine WT.e 8 [false, false, false] rfl (eff_call call115 (compare_ok (s := u.s) (at_ := (p : Int)) (bs := data) (h.fetch (SpP 151 bs u.s)) (Gives.to C))) ?_
   rintro _ w hv
   rcases hv with ⟨p', q', hp', hq32b, hpq, hq32, hcs⟩ | ⟨hno, _, _⟩
   rotate_left
   · exact absurd (show _ ∧ _ from ⟨by omega, by unfold inS; omega⟩) hno
   have ob_ : p = p' := by omega
   obtain rfl := ob_
   have ob_ : q = q' := by omega
   obtain rfl := ob_
   rcases hcs with ⟨hsame, rfl, h⟩ | ⟨k, hk, hk1, hk2, rfl, h⟩
   all_goals (refine ⟨trivial, ?_⟩)
   ·
    refine WT.m 9 rfl (WT.p 10 rfl (fun w' => (run_extract rfl rfl)) (WT.p 11 rfl (fun w' => (run_extract rfl rfl)) (WT.a 12 rfl (WT.a 13 rfl (WT.dn (W.sr ?_))))))
    refine WL.m (WL.v (run_geq rfl rfl) (WL.nil ?_))
    refine W.condIf rfl (fun c34 => ?_) (fun c34 => ?_)
    ·
     exact absurd c34 (by decide)
    refine W.skip (W.sr (WL.v (run_buildS (pl := qp0) (out := qv0) underlying44 zeroValue44 (fun w => by kernel_rfl) rfl (trivial) rfl) (WL.e (eff_storeW (vs := qv0) h sizeOf44 rfl rfl rfl rfl rfl) ?_)))
    rintro _ w h
    refine WL.nil (W.ret (bodyQ.rcB (vs := qv0) h results84 isAgg44 sizeOf44 rfl rfl rfl ?_))
    have h : On W0 (OwnB (.slice none 0 0) (plain 0 0 0 : Rp).data :: _) w := (closeU (bu := bu) (u := u.setS (writeS u.s p (data.drop (8 * q)))) hm hl ((((h.fetch (Big (GOwn pool) gs)).fetch (blk bt u.t.cells 154)).fetch (SpP 151 bs (writeS u.s p (data.drop (8 * q))))).fetch (blk bu (ucells bs bt gs) 108))).ownEmpty 1 none
    exact ⟨(writeS u.s p (data.drop (8 * q))), plain 0 0 0, .slice none 0 0, (by rw [c26, runM_cmp rfl hin (by omega)]; exact cmpM_yes hsame), rfl, h.to⟩
   refine WT.m 9 rfl (WT.p 10 rfl (fun w' => (run_extract rfl rfl)) (WT.p 11 rfl (fun w' => (run_extract rfl rfl)) (WT.a 12 rfl (WT.a 13 rfl (WT.dn (W.sr ?_))))))
   refine WL.m (WL.v (run_geq rfl rfl) (WL.nil ?_))
   refine W.condIf rfl (fun c34 => ?_) (fun c34 => ?_)
   ·
    refine W.sr (WL.e (eff_call call49 (wrong_ok h)) ?_)
    rintro _ w ⟨rfl, h⟩
    refine WL.e (eff_alloc h zeroValue44 rfl) ?_
    rintro _ w ⟨b10, rfl, h⟩
    refine WL.e (eff_storeW (vs := qv0) h sizeOf44 rfl rfl rfl rfl rfl) ?_
    rintro _ w h
    refine WL.nil (W.sr (WL.m (WL.f 4 underlying44 rfl sizeOf3 rfl rfl (WL.e (eff_store (v := .int .i64 _) h sizeOf3 rfl rfl rfl rfl rfl) ?_))))
    rintro _ w h
    try simp only [Nat.zero_add, Nat.add_zero, List.set_cons_zero, List.set_cons_succ] at h
    refine WL.nil (W.sr (WL.v (run_loadB (vs := qv0) h isAgg44 sizeOf44 rfl rfl rfl) (WL.e (eff_storeW (vs := qv0) h sizeOf44 rfl rfl rfl rfl rfl) ?_)))
    rintro _ w h
    refine WL.nil (W.ret (bodyQ.rcB (vs := qv0) h results84 isAgg44 sizeOf44 rfl rfl rfl ?_))
    have h : On W0 (OwnB (.slice none 0 0) (⟨2, 14, 7424, [], (k : Int)⟩ : Rp).data :: _) w := (closeU (bu := bu) (u := u.setS u.s) hm hl ((((h.fetch (Big (GOwn pool) gs)).fetch (blk bt u.t.cells 154)).fetch (SpP 151 bs u.s)).fetch (blk bu (ucells bs bt gs) 108))).ownEmpty 1 none
    exact ⟨u.s, ⟨2, 14, 7424, [], (k : Int)⟩, .slice none 0 0, (by rw [c26, runM_cmp rfl hin (by omega)]; exact cmpM_no hwf hpq hq32b hk hk1 hk2), rfl, h.to⟩
   exact absurd (Int.natCast_nonneg k) c34
  refine W.skip (W.sr (WL.v (run_buildS (pl := qp0) (out := qv0) underlying44 zeroValue44 (fun w => by kernel_rfl) rfl (trivial) rfl) (WL.e (eff_storeW (vs := qv0) h sizeOf44 rfl rfl rfl rfl rfl) ?_)))
  rintro _ w h
  refine WL.nil (W.ret (bodyQ.rcB (vs := qv0) h results84 isAgg44 sizeOf44 rfl rfl rfl ?_))
  have h : On W0 (OwnB (.slice none 0 0) (plain 0 0 0 : Rp).data :: _) w := (closeU (bu := bu) (u := u.setS u.s) hm hl ((((h.fetch (Big (GOwn pool) gs)).fetch (blk bt u.t.cells 154)).fetch (SpP 151 bs u.s)).fetch (blk bu (ucells bs bt gs) 108))).ownEmpty 1 none
  exact ⟨u.s, plain 0 0 0, .slice none 0 0, runM_else hin c10 c15 c23 c26, rfl, h.to⟩
 refine WT.p 9 rfl (fun w' => (run_not rfl)) (WT.dn (W.ct (W.sr (WL.e (eff_call call49 (wrong_ok h)) ?_))))
 rintro _ w ⟨rfl, h⟩
 refine WL.e (eff_storeW (vs := qv0) h sizeOf44 rfl rfl rfl rfl rfl) ?_
 rintro _ w h
 refine WL.nil (W.ret (bodyQ.rcB (vs := qv0) h results84 isAgg44 sizeOf44 rfl rfl rfl ?_))
 have h : On W0 (OwnB (.slice none 0 0) (plain 2 5 8448 : Rp).data :: _) w := (closeU (bu := bu) (u := u.setS u.s) hm hl ((((h.fetch (Big (GOwn pool) gs)).fetch (blk bt u.t.cells 154)).fetch (SpP 151 bs u.s)).fetch (blk bu (ucells bs bt gs) 108))).ownEmpty 1 none
 exact ⟨u.s, plain 2 5 8448, .slice none 0 0, runM_out hin, rfl, h.to⟩
theorem uhost_ok {x : Int} (h : On W0 L w) : Calls Tryz.prog 56 #[.int .i64 x] w (Ret fun v w' => v = .bool (hostB x) ∧ On W0 L w') := by
 refine enter func56 rfl ntmps56 rfl (W.sr (WL.z (W.sr (WL.m ?_))))
 refine WL.q (run_geq rfl rfl) (fun c4 => ?_) (fun c4 => ?_)
 ·
  refine WL.m (WL.m ?_)
  refine WL.q (run_lss rfl rfl) (fun c7 => ?_) (fun c7 => ?_)
  ·
   refine WL.pt (WL.z (W.ret (bodyQ.r1 (v := .bool _) results56 rfl ?_)))
   exact ⟨by rw [hostB_iff.2 ⟨by omega, by omega⟩], h⟩
  refine WL.pt (WL.z (W.ret (bodyQ.r1 (v := .bool _) results56 rfl ?_)))
  exact ⟨by rw [hostB_no.2 (by omega)], h⟩
 refine WL.m (WL.s (WL.s (WL.pf (WL.z (W.ret (bodyQ.r1 (v := .bool _) results56 rfl ?_))))))
 exact ⟨by rw [hostB_no.2 (by omega)], h⟩
theorem ublocks_ok {bu : Nat} {u : Un} {pool : PoolL} {ms : List Nat} (h : On W0 (UnP 108 151 154 bu pool ms u :: L) w) : Calls Tryz.prog 83 #[.pointer (some ⟨bu, 0, none⟩)] w (Ret fun v w' => v = .int .i64 (u.s.N : Int) ∧ On W0 (UnP 108 151 154 bu pool ms u :: L) w') := by
 refine enter func83 rfl ntmps83 rfl ?_
 have ob_ := openU h
 obtain ⟨bs, bt, gs, hm, hl, h⟩ := ob_
 refine W.sr (WL.z (W.sr (WL.m (WL.n rfl ?_))))
 refine WL.c 0 underlying108 rfl sizeOf97 rfl isAgg97 h rfl (WL.e (eff_call call110 (blocks_ok (h.fetch (SpP 151 bs u.s)))) ?_)
 rintro _ w ⟨rfl, h⟩
 refine WL.z (W.ret (bodyQ.r1 (v := .int .i64 _) results83 rfl ?_))
 exact ⟨rfl, closeU (bu := bu) (u := u) hm hl ((((h.fetch (Big (GOwn pool) gs)).fetch (blk bt u.t.cells 154)).fetch (SpP 151 bs u.s)).fetch (blk bu (ucells bs bt gs) 108))⟩
theorem actM_run {u : Un} {i : Nat} {c : Cm} (h2 : 2 ≤ c.kind) (h6 : c.kind ≤ 6) : actM u i c = (u.setS (runM u.s c).1, (runM u.s c).2) := by
 unfold actM; rw [if_neg (by omega), if_neg (by omega), if_neg (by omega), if_pos h6]
theorem actM_reset {u : Un} {i : Nat} {c : Cm} (h : c.kind = 18) : actM u i c = (resetN u 8, plain 0 0 0) := by
 unfold actM; rw [if_neg (by omega), if_neg (by omega), if_neg (by omega), if_neg (by omega), if_pos h]
theorem On.unLen {bu : Nat} {u : Un} {pool : PoolL} {ms : List Nat} (h : On W0 (UnP 108 151 154 bu pool ms u :: L) w) : u.g.length = 8 ∧ Go.Sl.SpM.wfS u.s := by
 have ho := openU h
 obtain ⟨bs, bt, gs, hm, hl, h⟩ := ho
 exact ⟨hl, On.wfS (h.fetch (SpP 151 bs u.s))⟩
end Go.Proofs.YtjfmjbmkkpkppaaGreatDoor
namespace Go.Proofs.YtjfmjbmkkpkppaaGreatDoor
open Go Go.Sl Go.Sl.BitM Go.Sl.SpM Go.Sl.RsM Go.Sl.ByM Go.Sl.UnM
set_option maxHeartbeats 1000000
set_option maxRecDepth 8000
variable {W0 w : World} {L F : List HProp}
end Go.Proofs.YtjfmjbmkkpkppaaGreatDoor
namespace Go.Proofs.YtjfmjbmkkpkppaaGreatDoor
open Go.Proofs.Tryz
open Go Go.Sl Go.Sl.RsM Go.Sl.ByM Go.Sl.UnM
set_option maxHeartbeats 1000000
set_option maxRecDepth 8000
variable {W0 w : World} {L F : List HProp}
theorem umay_ok {b i : Nat} {t : Tb} {key : Int} (hi : i < 8) (h : On W0 (blk b t.cells 154 :: L) w) : Calls Tryz.prog 120 #[.pointer (some ⟨b, 0, none⟩), .int .i64 (i : Int), .int .u64 key] w (Ret fun v w' => ((okKB t i key = true ∧ v = .tuple #[rep 0 0 0, .bool true]) ∨ (okKB t i key = false ∧ v = .tuple #[rep 24 0 0, .bool false])) ∧ On W0 (blk b t.cells 154 :: L) w') := by
 refine enter func120 rfl ntmps120 rfl (W.sr (WL.e (eff_alloc h zeroValue44 rfl) ?_))
 rintro _ w ⟨b6, rfl, h⟩
 refine WL.z (W.seq (W.block (W.sr (WL.m (WL.e (eff_call call80 (host_ok h)) ?_)))))
 rintro _ w ⟨hv, h⟩
 rw [hostB_iff.2 ⟨by omega, by omega⟩] at hv
 subst hv
 refine WL.v (run_not rfl) (WL.z (W.cf (W.sr (WL.m (WL.m ?_)))))
 refine WL.n rfl (WL.f 0 underlying154 rfl sizeOf152 rfl rfl (WL.v (run_indexAddrArr underlying152 sizeOf27 rfl rfl (by omega) (by omega)) (WL.l isAgg27 rfl (h.cellB (cells_at hi)) ?_)))
 refine WL.q (run_eql rfl rfl) (fun c20 => ?_) (fun c20 => ?_)
 ·
  refine WL.m (WL.s (WL.s (WL.s (WL.s (WL.s (WL.s (WL.s ?_)))))))
  refine WL.s (WL.pt (WL.z (W.ct (W.sr (WL.e (eff_call call117 (conflict_ok h)) ?_)))))
  rintro _ w ⟨rfl, h⟩
  refine WL.e (eff_storeW (vs := qv0) h sizeOf44 rfl rfl rfl rfl rfl) ?_
  rintro _ w h
  refine WL.z (W.ret (bodyQ.rctB (vs := qv0) (v2 := .bool _) h results120 isAgg44 sizeOf44 rfl rfl rfl rfl ?_))
  exact ⟨.inr ⟨by unfold okKB; simp only [decide_eq_true (show t.K i = 0 by omega)]; rfl, rfl⟩, h.to⟩
 refine WL.m (WL.m (WL.m (WL.n rfl (WL.f 0 underlying154 rfl sizeOf152 rfl rfl (WL.v (run_indexAddrArr underlying152 sizeOf27 rfl rfl (by omega) (by omega)) (WL.l isAgg27 rfl (h.cellB (cells_at hi)) (WL.m ?_)))))))
 refine WL.v (run_neq rfl rfl) (WL.pf (WL.z ?_))
 refine W.condIf rfl (fun c7 => ?_) (fun c7 => ?_)
 ·
  refine W.sr (WL.e (eff_call call117 (conflict_ok h)) ?_)
  rintro _ w ⟨rfl, h⟩
  refine WL.e (eff_storeW (vs := qv0) h sizeOf44 rfl rfl rfl rfl rfl) ?_
  rintro _ w h
  refine WL.z (W.ret (bodyQ.rctB (vs := qv0) (v2 := .bool _) h results120 isAgg44 sizeOf44 rfl rfl rfl rfl ?_))
  exact ⟨.inr ⟨by unfold okKB; rw [decide_eq_false (show ¬ t.K i = key by omega), Bool.and_false], rfl⟩, h.to⟩
 refine W.skip (W.sr (WL.e (eff_call call119 (good_ok h)) ?_))
 rintro _ w ⟨rfl, h⟩
 refine WL.e (eff_storeW (vs := qv0) h sizeOf44 rfl rfl rfl rfl rfl) ?_
 rintro _ w h
 refine WL.z (W.ret (bodyQ.rctB (vs := qv0) (v2 := .bool _) h results120 isAgg44 sizeOf44 rfl rfl rfl rfl ?_))
 exact ⟨.inl ⟨by unfold okKB; rw [decide_eq_false (show ¬ t.K i = 0 by omega), decide_eq_true (show t.K i = key by omega)]; rfl, rfl⟩, h.to⟩
theorem uregister_ok {b i : Nat} {t : Tb} {key fresh : Int} {ign : Bool} (hi : i < 8) (h : On W0 (blk b t.cells 154 :: L) w) : Calls Tryz.prog 86 #[.pointer (some ⟨b, 0, none⟩), .int .i64 (i : Int), .int .u64 key, .int .u64 fresh, .bool ign] w (Ret fun v w' => ∃ a c, v = .tuple #[(regF t i key fresh ign).r.val (.slice none 0 0), .slice a (regF t i key fresh ign).l.length c] ∧ On W0 (Own 2 (.slice a (regF t i key fresh ign).l.length c) (regF t i key fresh ign).l.length (notesV (regF t i key fresh ign).code ((regF t i key fresh ign).l)) :: blk b (regF t i key fresh ign).t.cells 154 :: L) w') := by
 refine enter func86 rfl ntmps86 rfl (W.sr (WL.e (eff_alloc h zeroValue44 rfl) ?_))
 rintro _ w ⟨b10, rfl, h⟩
 refine WL.z (W.seq (W.block (W.sr (WL.m (WL.e (eff_call call80 (host_ok h)) ?_)))))
 rintro _ w ⟨hv, h⟩
 rw [hostB_iff.2 ⟨by omega, by omega⟩] at hv
 subst hv
 refine WL.v (run_not rfl) (WL.z (W.cf (W.sr (WL.m ?_))))
 refine WL.boolB (run_not rfl) rfl rfl (fun c20 => ?_) (fun c20 => ?_)
 ·
  refine WL.m (WL.m (WL.m (WL.m (WL.n rfl (WL.f 0 underlying154 rfl sizeOf152 rfl rfl (WL.v (run_indexAddrArr underlying152 sizeOf27 rfl rfl (by omega) (by omega)) (WL.l isAgg27 rfl (h.cellB (cells_at hi)) ?_)))))))
  refine WL.v (run_neq rfl rfl) (WL.pt (WL.z ?_))
  refine W.condIf rfl (fun c7 => ?_) (fun c7 => ?_)
  ·
   refine W.sr (WL.e (eff_call call117 (conflict_ok h)) ?_)
   rintro _ w ⟨rfl, h⟩
   refine WL.e (eff_storeW (vs := qv0) h sizeOf44 rfl rfl rfl rfl rfl) ?_
   rintro _ w h
   refine WL.z (W.ret (bodyQ.rctB (vs := qv0) (v2 := .slice _ _ _) h results86 isAgg44 sizeOf44 rfl rfl rfl rfl ?_))
   have h : On W0 (Own 2 (.slice none 0 0) 0 (notesV 0 []) :: _) w := h.ownEmpty 2 none
   have e : regF t i key fresh ign = ⟨t, plain 24 0 0, [], 0⟩ := by unfold regF; rw [if_neg (by rintro (hx | hx); rw [hx] at c20; cases c20; exact c7 hx)]
   rw [e]
   dsimp only
   exact ⟨none, 0, rfl, h.to⟩
  refine W.skip (W.sr (WL.m (WL.n rfl (WL.c 10 underlying154 rfl sizeOf24 rfl isAgg24 h rfl (WL.v (run_addW rfl rfl) ?_)))))
  refine WL.n rfl (WL.f 10 underlying154 rfl sizeOf24 rfl rfl (WL.e (eff_store (v := .int .u32 _) h sizeOf24 rfl rfl rfl rfl rfl) ?_))
  rintro _ w h
  try simp only [Nat.zero_add, Nat.add_zero, List.set_cons_zero, List.set_cons_succ] at h
  refine WL.nil (W.seq ?_)
  have h : On W0 (blk b10 _ 44 :: blk b t.inc.cells 154 :: L) w := h
  refine W.region (WL.z (W.seq (W.sr (WL.m ?_))))
  refine WL.q (run_eql rfl rfl) (fun c40 => ?_) (fun c40 => ?_)
  ·
   refine WL.m (WL.m (WL.n rfl (WL.c 8 underlying154 rfl sizeOf3 rfl isAgg3 h rfl (WL.m (WL.v (run_eql rfl rfl) (WL.pt ?_))))))
   refine WL.nil ?_
   refine W.condIf rfl (fun c14 => ?_) (fun c14 => ?_)
   ·
    refine W.region (WL.m (WL.m (WL.e (eff_call call118 (drop_ok (t := t.inc) (hh := (i : Int)) (h.fetch (blk b t.inc.cells 154)))) ?_)))
    rintro _ w ⟨ad, rfl, h⟩
    have h : On W0 (Own 2 (.slice ad (t.told i).length (t.told i).length) (t.told i).length (notesV 10756 (t.told i)) :: blk b t.inc.freed.cells 154 :: _) w := h
    refine WL.z (W.sr (WL.m (WL.m (WL.m (WL.n rfl ?_)))))
    refine WL.f 0 underlying154 rfl sizeOf152 rfl rfl (WL.v (run_indexAddrArr underlying152 sizeOf27 rfl rfl (by omega) (by omega)) (WL.e (eff_store (v := .int .u64 _) h sizeOf27 rfl rfl rfl (cells_lt hi) (free0 _)) ?_))
    rintro _ w h
    rw [cells_set hi] at h
    refine WL.nil (W.sr (WL.e (eff_call call119 (good_ok h)) ?_))
    rintro _ w ⟨rfl, h⟩
    refine WL.m (WL.e (eff_storeW (vs := qv0) h sizeOf44 rfl rfl rfl rfl rfl) ?_)
    rintro _ w h
    refine WL.z (W.ret (bodyQ.rctB (vs := qv0) (v2 := .slice _ _ _) h results86 isAgg44 sizeOf44 rfl rfl rfl rfl ?_))
    have e1 : regO t i fresh = (t.told i, t.inc.freed.put i fresh) := by unfold regO; rw [if_pos ⟨by omega, c14⟩]
    have e : regF t i key fresh ign = ⟨t.inc.freed.put i fresh, plain 0 0 0, t.told i, 10756⟩ := by unfold regF; rw [if_pos (.inr (by omega)), e1]
    rw [e]
    dsimp only
    exact ⟨ad, (t.told i).length, rfl, h.to⟩
   refine W.skip (W.sr (WL.m (WL.m (WL.m (WL.n rfl (WL.f 0 underlying154 rfl sizeOf152 rfl rfl ?_))))))
   refine WL.v (run_indexAddrArr underlying152 sizeOf27 rfl rfl (by omega) (by omega)) (WL.e (eff_store (v := .int .u64 _) h sizeOf27 rfl rfl rfl (cells_lt hi) (free0 _)) ?_)
   rintro _ w h
   rw [cells_set hi] at h
   refine WL.nil (W.sr (WL.e (eff_call call119 (good_ok h)) ?_))
   rintro _ w ⟨rfl, h⟩
   refine WL.m (WL.e (eff_storeW (vs := qv0) h sizeOf44 rfl rfl rfl rfl rfl) ?_)
   rintro _ w h
   refine WL.z (W.ret (bodyQ.rctB (vs := qv0) (v2 := .slice _ _ _) h results86 isAgg44 sizeOf44 rfl rfl rfl rfl ?_))
   have e1 : regO t i fresh = ([], t.inc.put i fresh) := by unfold regO; rw [if_neg (fun hh => c14 hh.2)]
   have h : On W0 (Own 2 (.slice none 0 0) 0 (notesV 10756 []) :: _) w := h.ownEmpty 2 none
   have e : regF t i key fresh ign = ⟨t.inc.put i fresh, plain 0 0 0, [], 10756⟩ := by unfold regF; rw [if_pos (.inr (by omega)), e1]
   rw [e]
   dsimp only
   exact ⟨none, 0, rfl, h.to⟩
  refine WL.m (WL.s (WL.s (WL.s (WL.s (WL.s (WL.s (WL.pf ?_)))))))
  refine WL.nil (W.cs (W.sr (WL.m (WL.m (WL.m ?_)))))
  refine WL.n rfl (WL.f 0 underlying154 rfl sizeOf152 rfl rfl (WL.v (run_indexAddrArr underlying152 sizeOf27 rfl rfl (by omega) (by omega)) (WL.e (eff_store (v := .int .u64 _) h sizeOf27 rfl rfl rfl (cells_lt hi) (free0 _)) ?_)))
  rintro _ w h
  rw [cells_set hi] at h
  refine WL.nil (W.sr (WL.e (eff_call call119 (good_ok h)) ?_))
  rintro _ w ⟨rfl, h⟩
  refine WL.m (WL.e (eff_storeW (vs := qv0) h sizeOf44 rfl rfl rfl rfl rfl) ?_)
  rintro _ w h
  refine WL.z (W.ret (bodyQ.rctB (vs := qv0) (v2 := .slice _ _ _) h results86 isAgg44 sizeOf44 rfl rfl rfl rfl ?_))
  have e1 : regO t i fresh = ([], t.inc.put i fresh) := by unfold regO; rw [if_neg (fun hh => c40 hh.1)]
  have h : On W0 (Own 2 (.slice none 0 0) 0 (notesV 10756 []) :: _) w := h.ownEmpty 2 none
  have e : regF t i key fresh ign = ⟨t.inc.put i fresh, plain 0 0 0, [], 10756⟩ := by unfold regF; rw [if_pos (.inr (by omega)), e1]
  rw [e]
  dsimp only
  exact ⟨none, 0, rfl, h.to⟩
 refine WL.m (WL.s (WL.s (WL.s (WL.s (WL.s (WL.s (WL.s ?_)))))))
 refine WL.s (WL.pf (WL.z (W.cs (W.sr ?_))))
 refine WL.m (WL.n rfl (WL.c 10 underlying154 rfl sizeOf24 rfl isAgg24 h rfl (WL.v (run_addW rfl rfl) (WL.n rfl (WL.f 10 underlying154 rfl sizeOf24 rfl rfl (WL.e (eff_store (v := .int .u32 _) h sizeOf24 rfl rfl rfl rfl rfl) ?_))))))
 rintro _ w h
 try simp only [Nat.zero_add, Nat.add_zero, List.set_cons_zero, List.set_cons_succ] at h
 refine WL.nil (W.seq ?_)
 have h : On W0 (blk b10 _ 44 :: blk b t.inc.cells 154 :: L) w := h
 refine W.region (WL.z (W.seq (W.sr (WL.m ?_))))
 refine WL.q (run_eql rfl rfl) (fun c40 => ?_) (fun c40 => ?_)
 ·
  refine WL.m (WL.m (WL.n rfl (WL.c 8 underlying154 rfl sizeOf3 rfl isAgg3 h rfl (WL.m (WL.v (run_eql rfl rfl) (WL.pt ?_))))))
  refine WL.nil ?_
  refine W.condIf rfl (fun c14 => ?_) (fun c14 => ?_)
  ·
   refine W.region (WL.m (WL.m (WL.e (eff_call call118 (drop_ok (t := t.inc) (hh := (i : Int)) (h.fetch (blk b t.inc.cells 154)))) ?_)))
   rintro _ w ⟨ad, rfl, h⟩
   have h : On W0 (Own 2 (.slice ad (t.told i).length (t.told i).length) (t.told i).length (notesV 10756 (t.told i)) :: blk b t.inc.freed.cells 154 :: _) w := h
   refine WL.z (W.sr (WL.m (WL.m (WL.m (WL.n rfl ?_)))))
   refine WL.f 0 underlying154 rfl sizeOf152 rfl rfl (WL.v (run_indexAddrArr underlying152 sizeOf27 rfl rfl (by omega) (by omega)) (WL.e (eff_store (v := .int .u64 _) h sizeOf27 rfl rfl rfl (cells_lt hi) (free0 _)) ?_))
   rintro _ w h
   rw [cells_set hi] at h
   refine WL.nil (W.sr (WL.e (eff_call call119 (good_ok h)) ?_))
   rintro _ w ⟨rfl, h⟩
   refine WL.m (WL.e (eff_storeW (vs := qv0) h sizeOf44 rfl rfl rfl rfl rfl) ?_)
   rintro _ w h
   refine WL.z (W.ret (bodyQ.rctB (vs := qv0) (v2 := .slice _ _ _) h results86 isAgg44 sizeOf44 rfl rfl rfl rfl ?_))
   have e1 : regO t i fresh = (t.told i, t.inc.freed.put i fresh) := by unfold regO; rw [if_pos ⟨by omega, c14⟩]
   have e : regF t i key fresh ign = ⟨t.inc.freed.put i fresh, plain 0 0 0, t.told i, 10756⟩ := by unfold regF; rw [if_pos (.inl (by simpa using c20)), e1]
   rw [e]
   dsimp only
   exact ⟨ad, (t.told i).length, rfl, h.to⟩
  refine W.skip (W.sr (WL.m (WL.m (WL.m (WL.n rfl (WL.f 0 underlying154 rfl sizeOf152 rfl rfl ?_))))))
  refine WL.v (run_indexAddrArr underlying152 sizeOf27 rfl rfl (by omega) (by omega)) (WL.e (eff_store (v := .int .u64 _) h sizeOf27 rfl rfl rfl (cells_lt hi) (free0 _)) ?_)
  rintro _ w h
  rw [cells_set hi] at h
  refine WL.nil (W.sr (WL.e (eff_call call119 (good_ok h)) ?_))
  rintro _ w ⟨rfl, h⟩
  refine WL.m (WL.e (eff_storeW (vs := qv0) h sizeOf44 rfl rfl rfl rfl rfl) ?_)
  rintro _ w h
  refine WL.z (W.ret (bodyQ.rctB (vs := qv0) (v2 := .slice _ _ _) h results86 isAgg44 sizeOf44 rfl rfl rfl rfl ?_))
  have e1 : regO t i fresh = ([], t.inc.put i fresh) := by unfold regO; rw [if_neg (fun hh => c14 hh.2)]
  have h : On W0 (Own 2 (.slice none 0 0) 0 (notesV 10756 []) :: _) w := h.ownEmpty 2 none
  have e : regF t i key fresh ign = ⟨t.inc.put i fresh, plain 0 0 0, [], 10756⟩ := by unfold regF; rw [if_pos (.inl (by simpa using c20)), e1]
  rw [e]
  dsimp only
  exact ⟨none, 0, rfl, h.to⟩
 refine WL.m (WL.s (WL.s (WL.s (WL.s (WL.s (WL.s (WL.pf ?_)))))))
 refine WL.nil (W.cs (W.sr (WL.m (WL.m (WL.m ?_)))))
 refine WL.n rfl (WL.f 0 underlying154 rfl sizeOf152 rfl rfl (WL.v (run_indexAddrArr underlying152 sizeOf27 rfl rfl (by omega) (by omega)) (WL.e (eff_store (v := .int .u64 _) h sizeOf27 rfl rfl rfl (cells_lt hi) (free0 _)) ?_)))
 rintro _ w h
 rw [cells_set hi] at h
 refine WL.nil (W.sr (WL.e (eff_call call119 (good_ok h)) ?_))
 rintro _ w ⟨rfl, h⟩
 refine WL.m (WL.e (eff_storeW (vs := qv0) h sizeOf44 rfl rfl rfl rfl rfl) ?_)
 rintro _ w h
 refine WL.z (W.ret (bodyQ.rctB (vs := qv0) (v2 := .slice _ _ _) h results86 isAgg44 sizeOf44 rfl rfl rfl rfl ?_))
 have e1 : regO t i fresh = ([], t.inc.put i fresh) := by unfold regO; rw [if_neg (fun hh => c40 hh.1)]
 have h : On W0 (Own 2 (.slice none 0 0) 0 (notesV 10756 []) :: _) w := h.ownEmpty 2 none
 have e : regF t i key fresh ign = ⟨t.inc.put i fresh, plain 0 0 0, [], 10756⟩ := by unfold regF; rw [if_pos (.inl (by simpa using c20)), e1]
 rw [e]
 dsimp only
 exact ⟨none, 0, rfl, h.to⟩
theorem ureserve_ok {b i : Nat} {t : Tb} {key typ : Int} (hi : i < 8) (h : On W0 (blk b t.cells 154 :: L) w) : Calls Tryz.prog 87 #[.pointer (some ⟨b, 0, none⟩), .int .i64 (i : Int), .int .u64 key, .int .i64 typ] w (Ret fun v w' => v = (rsvF t i key typ).r.val (.slice none 0 0) ∧ On W0 (blk b (rsvF t i key typ).t.cells 154 :: L) w') := by
 refine enter func87 rfl ntmps87 rfl (W.sr (WL.e (eff_alloc h zeroValue44 rfl) ?_))
 rintro _ w ⟨b8, rfl, h⟩
 refine WL.nil (W.seq (W.sr (WL.m (WL.m (WL.m (WL.e (eff_call call120 (umay_ok hi (h.fetch (blk b t.cells 154)))) ?_))))))
 rintro _ w ⟨hv, h⟩
 rcases hv with ⟨hok, rfl⟩ | ⟨hok, rfl⟩
 ·
  refine WL.m (WL.v (run_extract rfl rfl) (WL.v (run_extract rfl rfl) (WL.e (eff_alloc h zeroValue44 rfl) ?_)))
  rintro _ w ⟨b9, rfl, h⟩
  refine WL.e (eff_storeW (vs := qv0) h sizeOf44 rfl rfl rfl rfl rfl) ?_
  rintro _ w h
  refine WL.z (W.sr (WL.m (WL.v (run_not rfl) (WL.nil (W.cf ?_)))))
  refine W.skip (W.seq (W.block (W.sr (WL.m (WL.e (eff_call call121 (typed_ok h)) ?_)))))
  rintro _ w ⟨hv, h⟩
  have hcs := Bool.eq_false_or_eq_true (typedB typ)
  rcases hcs with hty | hty <;> (rw [hty] at hv; subst hv)
  ·
   refine WL.v (run_not rfl) (WL.z (W.cf (W.sr (WL.m (WL.n rfl ?_)))))
   refine WL.c 8 underlying154 rfl sizeOf3 rfl isAgg3 h rfl (WL.v (run_eql rfl rfl) (WL.z ?_))
   refine W.condIf rfl (fun c13 => ?_) (fun c13 => ?_)
   ·
    refine W.sr (WL.m (WL.m (WL.m (WL.m (WL.n rfl (WL.f 8 underlying154 rfl sizeOf3 rfl rfl ?_))))))
    refine WL.e (eff_store (v := .int .i64 _) h sizeOf3 rfl rfl rfl rfl rfl) ?_
    rintro _ w h
    try simp only [Nat.zero_add, Nat.add_zero, List.set_cons_zero, List.set_cons_succ] at h
    refine WL.n rfl (WL.f 9 underlying154 rfl sizeOf3 rfl rfl (WL.e (eff_store (v := .int .i64 _) h sizeOf3 rfl rfl rfl rfl rfl) ?_))
    rintro _ w h
    try simp only [Nat.zero_add, Nat.add_zero, List.set_cons_zero, List.set_cons_succ] at h
    refine WL.nil (W.seq ?_)
    have h := h.fetch (blk b ((t.cells.set (0 + 8) (.int .i64 (i : Int))).set (0 + 9) (.int .i64 typ)) 154)
    have h : On W0 (blk b (t.take i typ).cells 154 :: _) w := h
    refine W.region (WL.e (eff_call call119 (good_ok h)) ?_)
    rintro _ w ⟨rfl, h⟩
    refine WL.e (eff_storeW (vs := qv0) h sizeOf44 rfl rfl rfl rfl rfl) ?_
    rintro _ w h
    refine WL.nil (W.ret (bodyQ.rcB (vs := qv0) h results87 isAgg44 sizeOf44 rfl rfl rfl ?_))
    have e : rsvF t i key typ = ⟨t.take i typ, plain 0 0 0, [], 0⟩ := by unfold rsvF; rw [if_neg (by rw [hok]; decide), if_neg (by rw [hty]; decide), if_pos c13]
    rw [e]
    dsimp only
    exact ⟨rfl, h.to⟩
   refine W.sr (WL.m (WL.n rfl (WL.c 8 underlying154 rfl sizeOf3 rfl isAgg3 h rfl (WL.m ?_))))
   refine WL.q (run_eql rfl rfl) (fun c47 => ?_) (fun c47 => ?_)
   ·
    refine WL.m (WL.m (WL.n rfl (WL.c 9 underlying154 rfl sizeOf3 rfl isAgg3 h rfl (WL.m (WL.v (run_eql rfl rfl) (WL.pt ?_))))))
    refine WL.z ?_
    refine W.condIf rfl (fun c18 => ?_) (fun c18 => ?_)
    ·
     refine W.sr (WL.e (eff_call call119 (good_ok h)) ?_)
     rintro _ w ⟨rfl, h⟩
     refine WL.e (eff_storeW (vs := qv0) h sizeOf44 rfl rfl rfl rfl rfl) ?_
     rintro _ w h
     refine WL.nil (W.ret (bodyQ.rcB (vs := qv0) h results87 isAgg44 sizeOf44 rfl rfl rfl ?_))
     have e : rsvF t i key typ = ⟨t, plain 0 0 0, [], 0⟩ := by unfold rsvF; rw [if_neg (by rw [hok]; decide), if_neg (by rw [hty]; decide), if_neg c13, if_pos ⟨by omega, by omega⟩]
     rw [e]
     dsimp only
     exact ⟨rfl, h.to⟩
    refine W.skip (W.sr (WL.e (eff_call call117 (conflict_ok h)) ?_))
    rintro _ w ⟨rfl, h⟩
    refine WL.e (eff_storeW (vs := qv0) h sizeOf44 rfl rfl rfl rfl rfl) ?_
    rintro _ w h
    refine WL.nil (W.ret (bodyQ.rcB (vs := qv0) h results87 isAgg44 sizeOf44 rfl rfl rfl ?_))
    have e : rsvF t i key typ = ⟨t, plain 24 0 0, [], 0⟩ := by unfold rsvF; rw [if_neg (by rw [hok]; decide), if_neg (by rw [hty]; decide), if_neg c13, if_neg (by omega)]
    rw [e]
    dsimp only
    exact ⟨rfl, h.to⟩
   refine WL.m (WL.s (WL.s (WL.s (WL.s (WL.s (WL.s (WL.pf ?_)))))))
   refine WL.z (W.cs (W.sr (WL.e (eff_call call117 (conflict_ok h)) ?_)))
   rintro _ w ⟨rfl, h⟩
   refine WL.e (eff_storeW (vs := qv0) h sizeOf44 rfl rfl rfl rfl rfl) ?_
   rintro _ w h
   refine WL.nil (W.ret (bodyQ.rcB (vs := qv0) h results87 isAgg44 sizeOf44 rfl rfl rfl ?_))
   have e : rsvF t i key typ = ⟨t, plain 24 0 0, [], 0⟩ := by unfold rsvF; rw [if_neg (by rw [hok]; decide), if_neg (by rw [hty]; decide), if_neg c13, if_neg (by omega)]
   rw [e]
   dsimp only
   exact ⟨rfl, h.to⟩
  refine WL.v (run_not rfl) (WL.z (W.ct (W.sr (WL.e (eff_call call116 (field_ok h)) ?_))))
  rintro _ w ⟨rfl, h⟩
  refine WL.e (eff_storeW (vs := qv0) h sizeOf44 rfl rfl rfl rfl rfl) ?_
  rintro _ w h
  refine WL.nil (W.ret (bodyQ.rcB (vs := qv0) h results87 isAgg44 sizeOf44 rfl rfl rfl ?_))
  have e : rsvF t i key typ = ⟨t, plain 2 5 9216, [], 0⟩ := by unfold rsvF; rw [if_neg (by rw [hok]; decide), if_pos hty]
  rw [e]
  dsimp only
  exact ⟨rfl, h.to⟩
 refine WL.m (WL.v (run_extract rfl rfl) (WL.v (run_extract rfl rfl) (WL.e (eff_alloc h zeroValue44 rfl) ?_)))
 rintro _ w ⟨b9, rfl, h⟩
 refine WL.e (eff_storeW (vs := qv0) h sizeOf44 rfl rfl rfl rfl rfl) ?_
 rintro _ w h
 refine WL.z (W.sr (WL.m (WL.v (run_not rfl) (WL.nil (W.ct ?_)))))
 refine W.sr (WL.v (run_loadB (vs := qv0) h isAgg44 sizeOf44 rfl rfl rfl) (WL.e (eff_storeW (vs := qv0) h sizeOf44 rfl rfl rfl rfl rfl) ?_))
 rintro _ w h
 refine WL.nil (W.ret (bodyQ.rcB (vs := qv0) h results87 isAgg44 sizeOf44 rfl rfl rfl ?_))
 have e : rsvF t i key typ = ⟨t, plain 24 0 0, [], 0⟩ := by unfold rsvF; rw [if_pos hok]
 rw [e]
 dsimp only
 exact ⟨rfl, h.to⟩
theorem urelease_ok {b i : Nat} {t : Tb} {key typ : Int} (hi : i < 8) (h : On W0 (blk b t.cells 154 :: L) w) : Calls Tryz.prog 88 #[.pointer (some ⟨b, 0, none⟩), .int .i64 (i : Int), .int .u64 key, .int .i64 typ] w (Ret fun v w' => ∃ a c, v = .tuple #[(relF t i key typ).r.val (.slice none 0 0), .slice a (relF t i key typ).l.length c] ∧ On W0 (Own 2 (.slice a (relF t i key typ).l.length c) (relF t i key typ).l.length (notesV (relF t i key typ).code ((relF t i key typ).l)) :: blk b (relF t i key typ).t.cells 154 :: L) w') := by
 refine enter func88 rfl ntmps88 rfl (W.sr (WL.e (eff_alloc h zeroValue44 rfl) ?_))
 rintro _ w ⟨b8, rfl, h⟩
 refine WL.z (W.seq (W.sr (WL.m (WL.m (WL.m ?_)))))
 refine WL.e (eff_call call120 (umay_ok hi (h.fetch (blk b t.cells 154)))) ?_
 rintro _ w ⟨hv, h⟩
 rcases hv with ⟨hok, rfl⟩ | ⟨hok, rfl⟩
 ·
  refine WL.m (WL.v (run_extract rfl rfl) (WL.v (run_extract rfl rfl) (WL.e (eff_alloc h zeroValue44 rfl) ?_)))
  rintro _ w ⟨b10, rfl, h⟩
  refine WL.e (eff_storeW (vs := qv0) h sizeOf44 rfl rfl rfl rfl rfl) ?_
  rintro _ w h
  refine WL.z (W.sr (WL.m (WL.v (run_not rfl) (WL.nil (W.cf ?_)))))
  refine W.skip (W.seq (W.block (W.sr (WL.m (WL.e (eff_call call121 (typed_ok h)) ?_)))))
  rintro _ w ⟨hv, h⟩
  have hcs := Bool.eq_false_or_eq_true (typedB typ)
  rcases hcs with hty | hty <;> (rw [hty] at hv; subst hv)
  ·
   refine WL.v (run_not rfl) (WL.z (W.cf (W.sr (WL.m (WL.n rfl ?_)))))
   refine WL.c 8 underlying154 rfl sizeOf3 rfl isAgg3 h rfl (WL.m (WL.v (run_neq rfl rfl) (WL.z ?_)))
   refine W.condIf rfl (fun c13 => ?_) (fun c13 => ?_)
   ·
    refine W.sr (WL.e (eff_call call119 (good_ok h)) ?_)
    rintro _ w ⟨rfl, h⟩
    refine WL.e (eff_storeW (vs := qv0) h sizeOf44 rfl rfl rfl rfl rfl) ?_
    rintro _ w h
    refine WL.z (W.ret (bodyQ.rctB (vs := qv0) (v2 := .slice _ _ _) h results88 isAgg44 sizeOf44 rfl rfl rfl rfl ?_))
    have h : On W0 (Own 2 (.slice none 0 0) 0 (notesV 0 []) :: _) w := h.ownEmpty 2 none
    have e : relF t i key typ = ⟨t, plain 0 0 0, [], 0⟩ := by unfold relF; rw [if_neg (by rw [hok]; decide), if_neg (by rw [hty]; decide), if_pos (show t.hold ≠ i from c13)]
    rw [e]
    dsimp only
    exact ⟨none, 0, rfl, h.to⟩
   refine W.sr (WL.m (WL.n rfl (WL.c 9 underlying154 rfl sizeOf3 rfl isAgg3 h rfl (WL.m (WL.v (run_neq rfl rfl) ?_)))))
   refine WL.z ?_
   refine W.condIf rfl (fun c17 => ?_) (fun c17 => ?_)
   ·
    refine W.sr (WL.e (eff_call call49 (wrong_ok h)) ?_)
    rintro _ w ⟨rfl, h⟩
    refine WL.e (eff_storeW (vs := qv0) h sizeOf44 rfl rfl rfl rfl rfl) ?_
    rintro _ w h
    refine WL.z (W.ret (bodyQ.rctB (vs := qv0) (v2 := .slice _ _ _) h results88 isAgg44 sizeOf44 rfl rfl rfl rfl ?_))
    have h : On W0 (Own 2 (.slice none 0 0) 0 (notesV 0 []) :: _) w := h.ownEmpty 2 none
    have e : relF t i key typ = ⟨t, plain 2 5 9732, [], 0⟩ := by unfold relF; rw [if_neg (by rw [hok]; decide), if_neg (by rw [hty]; decide), if_neg (by omega), if_pos (show t.typ ≠ typ from c17)]
    rw [e]
    dsimp only
    exact ⟨none, 0, rfl, h.to⟩
   refine W.skip (W.sr (WL.e (eff_call call119 (good_ok h)) ?_))
   rintro _ w ⟨rfl, h⟩
   refine WL.m (WL.m (WL.e (eff_call call118 (drop_ok (hh := (i : Int)) (h.fetch (blk b t.cells 154)))) ?_))
   rintro _ w ⟨ad, rfl, h⟩
   refine WL.e (eff_storeW (vs := qv0) h sizeOf44 rfl rfl rfl rfl rfl) ?_
   rintro _ w h
   refine WL.z (W.ret (bodyQ.rctB (vs := qv0) (v2 := .slice _ _ _) h results88 isAgg44 sizeOf44 rfl rfl rfl rfl ?_))
   have e : relF t i key typ = ⟨t.freed, plain 0 0 0, t.told i, 10756⟩ := by unfold relF; rw [if_neg (by rw [hok]; decide), if_neg (by rw [hty]; decide), if_neg (by omega), if_neg (by omega)]
   rw [e]
   dsimp only
   exact ⟨ad, (t.told i).length, rfl, h.to⟩
  refine WL.v (run_not rfl) (WL.z (W.ct (W.sr (WL.e (eff_call call116 (field_ok h)) ?_))))
  rintro _ w ⟨rfl, h⟩
  refine WL.e (eff_storeW (vs := qv0) h sizeOf44 rfl rfl rfl rfl rfl) ?_
  rintro _ w h
  refine WL.z (W.ret (bodyQ.rctB (vs := qv0) (v2 := .slice _ _ _) h results88 isAgg44 sizeOf44 rfl rfl rfl rfl ?_))
  have h : On W0 (Own 2 (.slice none 0 0) 0 (notesV 0 []) :: _) w := h.ownEmpty 2 none
  have e : relF t i key typ = ⟨t, plain 2 5 9216, [], 0⟩ := by unfold relF; rw [if_neg (by rw [hok]; decide), if_pos hty]
  rw [e]
  dsimp only
  exact ⟨none, 0, rfl, h.to⟩
 refine WL.m (WL.v (run_extract rfl rfl) (WL.v (run_extract rfl rfl) (WL.e (eff_alloc h zeroValue44 rfl) ?_)))
 rintro _ w ⟨b10, rfl, h⟩
 refine WL.e (eff_storeW (vs := qv0) h sizeOf44 rfl rfl rfl rfl rfl) ?_
 rintro _ w h
 refine WL.z (W.sr (WL.m (WL.v (run_not rfl) (WL.nil (W.ct ?_)))))
 refine W.sr (WL.v (run_loadB (vs := qv0) h isAgg44 sizeOf44 rfl rfl rfl) (WL.e (eff_storeW (vs := qv0) h sizeOf44 rfl rfl rfl rfl rfl) ?_))
 rintro _ w h
 refine WL.z (W.ret (bodyQ.rctB (vs := qv0) (v2 := .slice _ _ _) h results88 isAgg44 sizeOf44 rfl rfl rfl rfl ?_))
 have h : On W0 (Own 2 (.slice none 0 0) 0 (notesV 0 []) :: _) w := h.ownEmpty 2 none
 have e : relF t i key typ = ⟨t, plain 24 0 0, [], 0⟩ := by unfold relF; rw [if_pos hok]
 rw [e]
 dsimp only
 exact ⟨none, 0, rfl, h.to⟩
theorem uclear_ok {b i : Nat} {t : Tb} {key : Int} (hi : i < 8) (h : On W0 (blk b t.cells 154 :: L) w) : Calls Tryz.prog 89 #[.pointer (some ⟨b, 0, none⟩), .int .i64 (i : Int), .int .u64 key] w (Ret fun v w' => ∃ a c, v = .tuple #[(clrF t i key).r.val (.slice none 0 0), .slice a (clrF t i key).l.length c] ∧ On W0 (Own 2 (.slice a (clrF t i key).l.length c) (clrF t i key).l.length (notesV (clrF t i key).code ((clrF t i key).l)) :: blk b (clrF t i key).t.cells 154 :: L) w') := by
 refine enter func89 rfl ntmps89 rfl (W.sr (WL.e (eff_alloc h zeroValue44 rfl) ?_))
 rintro _ w ⟨b6, rfl, h⟩
 refine WL.z (W.seq (W.sr (WL.m (WL.m (WL.m ?_)))))
 refine WL.e (eff_call call120 (umay_ok hi (h.fetch (blk b t.cells 154)))) ?_
 rintro _ w ⟨hv, h⟩
 rcases hv with ⟨hok, rfl⟩ | ⟨hok, rfl⟩
 ·
  refine WL.m (WL.v (run_extract rfl rfl) (WL.v (run_extract rfl rfl) (WL.e (eff_alloc h zeroValue44 rfl) ?_)))
  rintro _ w ⟨b8, rfl, h⟩
  refine WL.e (eff_storeW (vs := qv0) h sizeOf44 rfl rfl rfl rfl rfl) ?_
  rintro _ w h
  refine WL.z (W.sr (WL.m (WL.v (run_not rfl) (WL.nil (W.cf ?_)))))
  refine W.skip (W.sr (WL.m (WL.m (WL.e (eff_call call122 (others_ok (t := t) (b := b) (hh := (i : Int)) (code := 10755) (f := 123) (caps := #[]) (p := (fun _ => true)) (h.fetch (blk b t.cells 154)) call123 (fun k A w h => every_ok h))) ?_))))
  rintro _ w ⟨ad, rfl, h⟩
  refine WL.z (W.sr (WL.m (WL.n rfl (WL.c 10 underlying154 rfl sizeOf24 rfl isAgg24 h rfl ?_))))
  refine WL.v (run_addW rfl rfl) (WL.n rfl (WL.f 10 underlying154 rfl sizeOf24 rfl rfl (WL.e (eff_store (v := .int .u32 _) h sizeOf24 rfl rfl rfl rfl rfl) ?_)))
  rintro _ w h
  try simp only [Nat.zero_add, Nat.add_zero, List.set_cons_zero, List.set_cons_succ] at h
  refine WL.nil (W.sr (WL.m (WL.m (WL.m (WL.v (run_buildA (out := [.int .u64 _, .int .u64 _, .int .u64 _, .int .u64 _, .int .u64 _, .int .u64 _, .int .u64 _, .int .u64 _]) underlying152 sizeOf27 zeroValue152 rfl rfl (by simp) (trivial) rfl) (WL.n rfl ?_))))))
  refine WL.f 0 underlying154 rfl sizeOf152 rfl rfl (WL.e (eff_storeN (vs := keysV fun _ => 0) h sizeOf152 rfl rfl rfl rfl rfl (fun k _ _ => free0 k)) ?_)
  rintro _ w h
  refine WL.n rfl (WL.f 8 underlying154 rfl sizeOf3 rfl rfl (WL.e (eff_store (v := .int .i64 _) h sizeOf3 rfl rfl rfl rfl rfl) ?_))
  rintro _ w h
  try simp only [Nat.zero_add, Nat.add_zero, List.set_cons_zero, List.set_cons_succ] at h
  refine WL.n rfl (WL.f 9 underlying154 rfl sizeOf3 rfl rfl (WL.e (eff_store (v := .int .i64 _) h sizeOf3 rfl rfl rfl rfl rfl) ?_))
  rintro _ w h
  try simp only [Nat.zero_add, Nat.add_zero, List.set_cons_zero, List.set_cons_succ] at h
  refine WL.nil (W.seq ?_)
  have h := h.fetch (blk b ((((t.cells.set (0 + 10) (.int .u32 (IntKind.u32.wrap (t.gen + 1)))) |> (splice · (0 + 0) (keysV fun _ => 0))).set (0 + 8) (.int .i64 (-1))).set (0 + 9) (.int .i64 0)) 154)
  have h : On W0 (blk b t.cleared.cells 154 :: _) w := h
  refine W.region (WL.e (eff_call call119 (good_ok h)) ?_)
  rintro _ w ⟨rfl, h⟩
  refine WL.m (WL.e (eff_storeW (vs := qv0) h sizeOf44 rfl rfl rfl rfl rfl) ?_)
  rintro _ w h
  refine WL.z (W.ret (bodyQ.rctB (vs := qv0) (v2 := .slice _ _ _) h results89 isAgg44 sizeOf44 rfl rfl rfl rfl ?_))
  have e : clrF t i key = ⟨t.cleared, plain 0 0 0, hostsN t.K i (fun _ => true) 8, 10755⟩ := by unfold clrF; rw [if_neg (by rw [hok]; decide)]
  rw [e]
  dsimp only
  exact ⟨ad, (hostsN t.K i (fun _ => true) 8).length, rfl, h.to⟩
 refine WL.m (WL.v (run_extract rfl rfl) (WL.v (run_extract rfl rfl) (WL.e (eff_alloc h zeroValue44 rfl) ?_)))
 rintro _ w ⟨b8, rfl, h⟩
 refine WL.e (eff_storeW (vs := qv0) h sizeOf44 rfl rfl rfl rfl rfl) ?_
 rintro _ w h
 refine WL.z (W.sr (WL.m (WL.v (run_not rfl) (WL.nil (W.ct ?_)))))
 refine W.sr (WL.v (run_loadB (vs := qv0) h isAgg44 sizeOf44 rfl rfl rfl) (WL.e (eff_storeW (vs := qv0) h sizeOf44 rfl rfl rfl rfl rfl) ?_))
 rintro _ w h
 refine WL.z (W.ret (bodyQ.rctB (vs := qv0) (v2 := .slice _ _ _) h results89 isAgg44 sizeOf44 rfl rfl rfl rfl ?_))
 have h : On W0 (Own 2 (.slice none 0 0) 0 (notesV 0 []) :: _) w := h.ownEmpty 2 none
 have e : clrF t i key = ⟨t, plain 24 0 0, [], 0⟩ := by unfold clrF; rw [if_pos hok]
 rw [e]
 dsimp only
 exact ⟨none, 0, rfl, h.to⟩
theorem upreempt_ok {b ii : Nat} {t : Tb} {key other typ : Int} (hi : ii < 8) (hI : t.hold = -1 ∨ (0 ≤ t.hold ∧ t.hold < 8)) (h : On W0 (blk b t.cells 154 :: L) w) : Calls Tryz.prog 90 #[.pointer (some ⟨b, 0, none⟩), .int .i64 (ii : Int), .int .u64 key, .int .u64 other, .int .i64 typ] w (Ret fun v w' => ∃ a c, v = .tuple #[(preF t ii key other typ).r.val (.slice none 0 0), .slice a (preF t ii key other typ).l.length c] ∧ On W0 (Own 2 (.slice a (preF t ii key other typ).l.length c) (preF t ii key other typ).l.length (notesV (preF t ii key other typ).code ((preF t ii key other typ).l)) :: blk b (preF t ii key other typ).t.cells 154 :: L) w') := by
 refine enter func90 rfl ntmps90 rfl (W.sr (WL.e (eff_box (v := .int .u64 _) (l := [.int .u64 _]) h rfl rfl) ?_))
 rintro _ w ⟨b8, rfl, h⟩
 refine WL.e (eff_alloc h zeroValue44 rfl) ?_
 rintro _ w ⟨b10, rfl, h⟩
 refine WL.z (W.seq (W.sr (WL.m (WL.m (WL.m ?_)))))
 refine WL.e (eff_call call120 (umay_ok (i := ii) hi (h.fetch (blk b t.cells 154)))) ?_
 rintro _ w ⟨hv, h⟩
 rcases hv with ⟨hok, rfl⟩ | ⟨hok, rfl⟩
 ·
  refine WL.m (WL.v (run_extract rfl rfl) (WL.v (run_extract rfl rfl) (WL.e (eff_alloc h zeroValue44 rfl) ?_)))
  rintro _ w ⟨b12, rfl, h⟩
  refine WL.e (eff_storeW (vs := qv0) h sizeOf44 rfl rfl rfl rfl rfl) ?_
  rintro _ w h
  refine WL.z (W.sr (WL.m (WL.v (run_not rfl) (WL.nil (W.cf ?_)))))
  refine W.skip (W.seq (W.sr (WL.l isAgg27 rfl (h.cellB rfl) (WL.v (run_eql rfl rfl) (WL.nil ?_)))))
  refine W.condIf rfl (fun c8 => ?_) (fun c8 => ?_)
  ·
   refine W.sr (WL.e (eff_call call49 (wrong_ok h)) ?_)
   rintro _ w ⟨rfl, h⟩
   refine WL.e (eff_storeW (vs := qv0) h sizeOf44 rfl rfl rfl rfl rfl) ?_
   rintro _ w h
   refine WL.z (W.ret (bodyQ.rctB (vs := qv0) (v2 := .slice _ _ _) h results90 isAgg44 sizeOf44 rfl rfl rfl rfl ?_))
   have h : On W0 (Own 2 (.slice none 0 0) 0 (notesV 0 []) :: _) w := h.ownEmpty 2 none
   have e : preF t ii key other typ = ⟨t, plain 2 5 9728, [], 0⟩ := by unfold preF; rw [if_neg (by rw [hok]; decide), if_pos c8]
   rw [e]
   dsimp only
   exact ⟨none, 0, rfl, h.to⟩
  refine W.skip (W.sr (WL.m (WL.m (WL.v run_makeFunc (WL.e (eff_call call122 (others_ok (t := t) (b := b) (hh := (ii : Int)) (code := 10757) (f := 124) (caps := #[.pointer (some ⟨b8, 0, none⟩)]) (p := fun k => decide (k = other)) (h.fetch (blk b t.cells 154)) call124 (fun k A w h => preempt1_ok h))) ?_)))))
  rintro _ w ⟨a, hv, h⟩
  have hv2 : _ = Value.slice a (preL t ii other).length (preL t ii other).length := hv
  subst hv2
  have h : On W0 (Own 2 (.slice a (preL t ii other).length (preL t ii other).length) (preL t ii other).length (notesV 10757 (preL t ii other)) :: _) w := h
  have hlen : (preL t ii other).length ≤ 8 := hostsN_len ..
  refine WL.z (W.seq (W.sr (WL.m (WL.v (run_lenSlice underlying160 rfl) (WL.v (run_eql rfl rfl) ?_)))))
  refine WL.nil ?_
  refine W.condIf rfl (fun c14 => ?_) (fun c14 => ?_)
  ·
   refine W.sr (WL.e (eff_call call117 (conflict_ok h)) ?_)
   rintro _ w ⟨rfl, h⟩
   refine WL.e (eff_storeW (vs := qv0) h sizeOf44 rfl rfl rfl rfl rfl) ?_
   rintro _ w h
   refine WL.z (W.ret (bodyQ.rctB (vs := qv0) (v2 := .slice _ _ _) h results90 isAgg44 sizeOf44 rfl rfl rfl rfl ?_))
   have h : On W0 (Own 2 (.slice none 0 0) 0 (notesV 0 []) :: _) w := h.ownEmpty 2 none
   have e : preF t ii key other typ = ⟨t, plain 24 0 0, [], 0⟩ := by unfold preF; rw [if_neg (by rw [hok]; decide), if_neg c8, if_pos (List.eq_nil_of_length_eq_zero (by omega))]
   rw [e]
   dsimp only
   exact ⟨none, 0, rfl, h.to⟩
  refine W.skip (W.seq (W.seq ?_))
  refine W.draw Tryz.follows h (fun w h => ?_)
  refine WT.m 0 rfl (WT.n 1 rfl rfl (WT.f 2 8 rfl underlying154 rfl sizeOf3 rfl rfl (WT.l 3 rfl isAgg3 rfl (h.cellB rfl) ?_)))
  refine WT.dec 4 rfl (by kernel_rfl) (fun w' => (run_neq rfl rfl)) rfl rfl (fun c42 => ?_) (fun c42 => ?_)
  ·
   refine WT.m 5 rfl (WT.m 6 rfl (WT.n 7 rfl rfl (WT.f 8 8 rfl underlying154 rfl sizeOf3 rfl rfl (WT.l 9 rfl isAgg3 rfl (h.cellB rfl) (WT.m 10 rfl ?_)))))
   refine WT.dec 11 rfl (by kernel_rfl) (fun w' => (run_neq rfl rfl)) rfl rfl (fun c49 => ?_) (fun c49 => ?_)
   ·
    refine WT.p 12 rfl (fun w' => (run_pickT rfl)) (WT.m 13 rfl (WT.m 14 rfl (WT.m 15 rfl (WT.n 16 rfl rfl (WT.f 17 8 rfl underlying154 rfl sizeOf3 rfl rfl (WT.l 18 rfl isAgg3 rfl (h.cellB rfl) (WT.n 19 rfl rfl ?_)))))))
    refine WT.f 20 0 rfl underlying154 rfl sizeOf152 rfl rfl (WT.p 21 rfl (fun w' => (run_indexAddrArr underlying152 sizeOf27 rfl rfl (by omega) (by omega))) (WT.l 22 rfl isAgg27 rfl (h.cellB (cells_atI (by omega) (by omega))) (WT.l 23 rfl isAgg27 rfl (h.cellB rfl) ?_)))
    refine WT.dec 24 rfl (by kernel_rfl) (fun w' => (run_eql rfl rfl)) rfl rfl (fun c62 => ?_) (fun c62 => ?_)
    ·
     refine WT.p 25 rfl (fun w' => (run_pickT rfl)) (WT.dn (W.ct (W.seq (W.seq ?_))))
     have htk : takesP t ii other := ⟨c42, c49, c62⟩
     refine W.region (WL.m (WL.e (eff_call call121 (typed_ok h)) ?_))
     rintro _ w ⟨hv, h⟩
     have hcs := Bool.eq_false_or_eq_true (typedB typ)
     rcases hcs with hty | hty <;> (rw [hty] at hv; subst hv)
     ·
      refine WL.v (run_not rfl) (WL.nil (W.cs (W.region (WL.m (WL.m (WL.m ?_))))))
      refine WL.m (WL.n rfl (WL.f 8 underlying154 rfl sizeOf3 rfl rfl (WL.e (eff_store (v := .int .i64 _) h sizeOf3 rfl rfl rfl rfl rfl) ?_)))
      rintro _ w h
      try simp only [Nat.zero_add, Nat.add_zero, List.set_cons_zero, List.set_cons_succ] at h
      refine WL.n rfl (WL.f 9 underlying154 rfl sizeOf3 rfl rfl (WL.e (eff_store (v := .int .i64 _) h sizeOf3 rfl rfl rfl rfl rfl) ?_))
      rintro _ w h
      try simp only [Nat.zero_add, Nat.add_zero, List.set_cons_zero, List.set_cons_succ] at h
      refine WL.nil (W.seq ?_)
      have h := h.fetch (blk b ((t.cells.set (0 + 8) (.int .i64 ii)).set (0 + 9) (.int .i64 typ)) 154)
      have h : On W0 (blk b (t.take ii typ).cells 154 :: _) w := h
      refine W.region (WL.m (WL.n rfl (WL.c 10 underlying154 rfl sizeOf24 rfl isAgg24 h rfl (WL.v (run_addW rfl rfl) (WL.n rfl (WL.f 10 underlying154 rfl sizeOf24 rfl rfl ?_))))))
      refine WL.e (eff_store (v := .int .u32 _) h sizeOf24 rfl rfl rfl rfl rfl) ?_
      rintro _ w h
      try simp only [Nat.zero_add, Nat.add_zero, List.set_cons_zero, List.set_cons_succ] at h
      refine WL.nil (W.seq (W.seq ?_))
      have et0 : preT0 t ii other typ = (t.take ii typ).inc := by unfold preT0; rw [if_pos htk]
      have h := h.fetch (blk b ((t.take ii typ).cells.set (0 + 10) (.int .u32 (IntKind.u32.wrap ((t.take ii typ).gen + 1)))) 154)
      have h : On W0 (blk b (t.take ii typ).inc.cells 154 :: _) w := h
      rw [← et0, ← zer_nil (preT0 t ii other typ)] at h
      have h : On W0 (Own 2 (.slice a (preL t ii other).length (preL t ii other).length) (preL t ii other).length (notesV 10757 (preL t ii other)) :: blk b (zer (preT0 t ii other typ) []).cells 154 :: blk b10 [.int .i64 0, .int .i64 0, .int .i64 0, .slice none 0 0, .int .i64 0] 44 :: L) w := h.to
      refine W.region (WL.m (WL.v (run_lenSlice underlying160 rfl) (WL.m (WL.nil (W.block ?_)))))
      refine W.loop (fun (q : Nat) env w => ∃ j, env = mkE j [(0, .pointer (some ⟨b, 0, none⟩)), (1, .int .i64 (ii : Int)), (10, .pointer (some ⟨b10, 0, none⟩)), (14, .slice a (preL t ii other).length (preL t ii other).length), (83, .slice a (preL t ii other).length (preL t ii other).length), (84, .int .i64 (((preL t ii other).length : Nat) : Int)), (85, .int .i64 (q : Int))] ∧ q ≤ (preL t ii other).length ∧ On W0 (Own 2 (.slice a (preL t ii other).length (preL t ii other).length) (preL t ii other).length (notesV 10757 (preL t ii other)) :: blk b (zer (preT0 t ii other typ) ((preL t ii other).take q)).cells 154 :: blk b10 [.int .i64 0, .int .i64 0, .int .i64 0, .slice none 0 0, .int .i64 0] 44 :: L) w) (fun q => (preL t ii other).length - q) (0) ?_ ?_
      · exact ⟨_, mkE_of ⟨rfl, rfl, rfl, rfl, rfl, rfl, rfl, trivial⟩, Nat.zero_le _, h⟩
      rintro q env w ⟨j, rfl, hq, h⟩
      refine W.sr (WL.v (run_lss rfl rfl) (WL.nil (W.seq ?_)))
      refine W.condIf rfl (fun c32 => ?_) (fun c32 => ?_)
      ·
       refine W.skip (W.seq (W.block (W.seq ?_)))
       have hql : q < (preL t ii other).length := by omega
       have ob_ : ∃ i, (preL t ii other)[q]? = some i := ⟨(preL t ii other)[q], by simp⟩
       obtain ⟨i, hi⟩ := ob_
       have hi8 : i < 8 := (hostsN_mem.1 (List.mem_of_getElem? hi)).1
       have ob_ := Own.addr h (by omega)
       obtain ⟨bn, on, rfl⟩ := ob_
       refine W.region (WL.v (run_indexAddr underlying160 sizeOf198 rfl rfl (by omega) (by omega)) (WL.v (run_loadN isAgg198 sizeOf198 rfl rfl ((h.cellsO (v := .slice (some ⟨bn, on, none⟩) (preL t ii other).length (preL t ii other).length)).elem (i := q) (vs := noteV 10757 i) hql (drop_flatMap (noteV 10757) 2 (noteV_length 10757) (preL t ii other) _ _ hi))) (WL.e (eff_alloc h zeroValue198 rfl) ?_)))
       rintro _ w ⟨b16, rfl, h⟩
       refine WL.e (eff_storeW (vs := [.int .i64 _, .int .i64 _]) h sizeOf198 rfl rfl rfl rfl rfl) ?_
       rintro _ w h
       refine WL.nil ?_
       refine W.draw Tryz.follows h (fun w h => ?_)
       refine WT.m 0 rfl (WT.f 1 0 rfl underlying198 rfl sizeOf3 rfl rfl (WT.l 2 rfl isAgg3 rfl (h.cellB rfl) (WT.n 3 rfl rfl (WT.f 4 0 rfl underlying154 rfl sizeOf152 rfl rfl (WT.p 5 rfl (fun w' => (run_indexAddrArr underlying152 sizeOf27 rfl rfl (by omega) (by omega))) (WT.e 6 [false] rfl (eff_store (v := .int .u64 _) h sizeOf27 rfl rfl rfl (cells_lt hi8) (free0 _)) ?_))))))
       rintro _ w h
       rw [cells_set hi8, ← zer_snoc, ← RsM.take_snoc hi] at h
       refine ⟨trivial, ?_⟩
       refine WT.dn (W.region (WL.v (run_incN rfl rfl (by omega)) (WL.m (WL.nil ?_))))
       exact ⟨q + 1, ⟨_, mkE_of ⟨rfl, rfl, rfl, rfl, rfl, rfl, rfl, trivial⟩, by omega, h.to⟩, by show (preL t ii other).length - (q + 1) < (preL t ii other).length - q; omega⟩
      refine W.exit (W.sr (WL.e (eff_call call119 (good_ok h)) ?_))
      rintro _ w ⟨rfl, h⟩
      refine WL.m (WL.e (eff_storeW (vs := qv0) h sizeOf44 rfl rfl rfl rfl rfl) ?_)
      rintro _ w h
      refine WL.z (W.ret (bodyQ.rctB (vs := qv0) (v2 := .slice _ _ _) h results90 isAgg44 sizeOf44 rfl rfl rfl rfl ?_))
      have ob_ : q = (preL t ii other).length := by omega
      obtain rfl := ob_
      rw [List.take_length] at h
      have h : On W0 (Own 2 (.slice a (preL t ii other).length (preL t ii other).length) (preL t ii other).length (notesV 10757 (preL t ii other)) :: blk b (preT t ii other typ).cells 154 :: _) w := h
      have e : preF t ii key other typ = ⟨preT t ii other typ, plain 0 0 0, preL t ii other, 10757⟩ := by unfold preF; rw [if_neg (by rw [hok]; decide), if_neg c8, if_neg (fun e => c14 (by rw [e]; rfl)), if_neg (fun hx => by rw [hx.2] at hty; cases hty)]
      rw [e]
      dsimp only
      exact ⟨a, (preL t ii other).length, rfl, h.to⟩
     refine WL.v (run_not rfl) (WL.nil (W.ct (W.sr (WL.e (eff_call call116 (field_ok h)) ?_))))
     rintro _ w ⟨rfl, h⟩
     refine WL.e (eff_storeW (vs := qv0) h sizeOf44 rfl rfl rfl rfl rfl) ?_
     rintro _ w h
     refine WL.z (W.ret (bodyQ.rctB (vs := qv0) (v2 := .slice _ _ _) h results90 isAgg44 sizeOf44 rfl rfl rfl rfl ?_))
     have h : On W0 (Own 2 (.slice none 0 0) 0 (notesV 0 []) :: _) w := h.ownEmpty 2 none
     have e : preF t ii key other typ = ⟨t, plain 2 5 9216, [], 0⟩ := by unfold preF; rw [if_neg (by rw [hok]; decide), if_neg c8, if_neg (fun e => c14 (by rw [e]; rfl)), if_pos ⟨htk, hty⟩]
     rw [e]
     dsimp only
     exact ⟨none, 0, rfl, h.to⟩
    refine WT.p 25 rfl (fun w' => (run_pickT rfl)) (WT.dn (W.cs (W.seq ?_)))
    have htk : ¬ takesP t ii other := fun hx => c62 hx.2.2
    refine W.region (WL.m (WL.n rfl (WL.c 10 underlying154 rfl sizeOf24 rfl isAgg24 h rfl (WL.v (run_addW rfl rfl) (WL.n rfl (WL.f 10 underlying154 rfl sizeOf24 rfl rfl ?_))))))
    refine WL.e (eff_store (v := .int .u32 _) h sizeOf24 rfl rfl rfl rfl rfl) ?_
    rintro _ w h
    try simp only [Nat.zero_add, Nat.add_zero, List.set_cons_zero, List.set_cons_succ] at h
    refine WL.nil (W.seq (W.seq ?_))
    have et0 : preT0 t ii other typ = t.inc := by unfold preT0; rw [if_neg htk]
    have h := h.fetch (blk b (t.cells.set (0 + 10) (.int .u32 (IntKind.u32.wrap (t.gen + 1)))) 154)
    have h : On W0 (blk b t.inc.cells 154 :: _) w := h
    rw [← et0, ← zer_nil (preT0 t ii other typ)] at h
    have h : On W0 (Own 2 (.slice a (preL t ii other).length (preL t ii other).length) (preL t ii other).length (notesV 10757 (preL t ii other)) :: blk b (zer (preT0 t ii other typ) []).cells 154 :: blk b10 [.int .i64 0, .int .i64 0, .int .i64 0, .slice none 0 0, .int .i64 0] 44 :: L) w := h.to
    refine W.region (WL.m (WL.v (run_lenSlice underlying160 rfl) (WL.m (WL.nil (W.block ?_)))))
    refine W.loop (fun (q : Nat) env w => ∃ j, env = mkE j [(0, .pointer (some ⟨b, 0, none⟩)), (1, .int .i64 (ii : Int)), (10, .pointer (some ⟨b10, 0, none⟩)), (14, .slice a (preL t ii other).length (preL t ii other).length), (83, .slice a (preL t ii other).length (preL t ii other).length), (84, .int .i64 (((preL t ii other).length : Nat) : Int)), (85, .int .i64 (q : Int))] ∧ q ≤ (preL t ii other).length ∧ On W0 (Own 2 (.slice a (preL t ii other).length (preL t ii other).length) (preL t ii other).length (notesV 10757 (preL t ii other)) :: blk b (zer (preT0 t ii other typ) ((preL t ii other).take q)).cells 154 :: blk b10 [.int .i64 0, .int .i64 0, .int .i64 0, .slice none 0 0, .int .i64 0] 44 :: L) w) (fun q => (preL t ii other).length - q) (0) ?_ ?_
    · exact ⟨_, mkE_of ⟨rfl, rfl, rfl, rfl, rfl, rfl, rfl, trivial⟩, Nat.zero_le _, h⟩
    rintro q env w ⟨j, rfl, hq, h⟩
    refine W.sr (WL.v (run_lss rfl rfl) (WL.nil (W.seq ?_)))
    refine W.condIf rfl (fun c32 => ?_) (fun c32 => ?_)
    ·
     refine W.skip (W.seq (W.block (W.seq ?_)))
     have hql : q < (preL t ii other).length := by omega
     have ob_ : ∃ i, (preL t ii other)[q]? = some i := ⟨(preL t ii other)[q], by simp⟩
     obtain ⟨i, hi⟩ := ob_
     have hi8 : i < 8 := (hostsN_mem.1 (List.mem_of_getElem? hi)).1
     have ob_ := Own.addr h (by omega)
     obtain ⟨bn, on, rfl⟩ := ob_
     refine W.region (WL.v (run_indexAddr underlying160 sizeOf198 rfl rfl (by omega) (by omega)) (WL.v (run_loadN isAgg198 sizeOf198 rfl rfl ((h.cellsO (v := .slice (some ⟨bn, on, none⟩) (preL t ii other).length (preL t ii other).length)).elem (i := q) (vs := noteV 10757 i) hql (drop_flatMap (noteV 10757) 2 (noteV_length 10757) (preL t ii other) _ _ hi))) (WL.e (eff_alloc h zeroValue198 rfl) ?_)))
     rintro _ w ⟨b16, rfl, h⟩
     refine WL.e (eff_storeW (vs := [.int .i64 _, .int .i64 _]) h sizeOf198 rfl rfl rfl rfl rfl) ?_
     rintro _ w h
     refine WL.nil ?_
     refine W.draw Tryz.follows h (fun w h => ?_)
     refine WT.m 0 rfl (WT.f 1 0 rfl underlying198 rfl sizeOf3 rfl rfl (WT.l 2 rfl isAgg3 rfl (h.cellB rfl) (WT.n 3 rfl rfl (WT.f 4 0 rfl underlying154 rfl sizeOf152 rfl rfl (WT.p 5 rfl (fun w' => (run_indexAddrArr underlying152 sizeOf27 rfl rfl (by omega) (by omega))) (WT.e 6 [false] rfl (eff_store (v := .int .u64 _) h sizeOf27 rfl rfl rfl (cells_lt hi8) (free0 _)) ?_))))))
     rintro _ w h
     rw [cells_set hi8, ← zer_snoc, ← RsM.take_snoc hi] at h
     refine ⟨trivial, ?_⟩
     refine WT.dn (W.region (WL.v (run_incN rfl rfl (by omega)) (WL.m (WL.nil ?_))))
     exact ⟨q + 1, ⟨_, mkE_of ⟨rfl, rfl, rfl, rfl, rfl, rfl, rfl, trivial⟩, by omega, h.to⟩, by show (preL t ii other).length - (q + 1) < (preL t ii other).length - q; omega⟩
    refine W.exit (W.sr (WL.e (eff_call call119 (good_ok h)) ?_))
    rintro _ w ⟨rfl, h⟩
    refine WL.m (WL.e (eff_storeW (vs := qv0) h sizeOf44 rfl rfl rfl rfl rfl) ?_)
    rintro _ w h
    refine WL.z (W.ret (bodyQ.rctB (vs := qv0) (v2 := .slice _ _ _) h results90 isAgg44 sizeOf44 rfl rfl rfl rfl ?_))
    have ob_ : q = (preL t ii other).length := by omega
    obtain rfl := ob_
    rw [List.take_length] at h
    have h : On W0 (Own 2 (.slice a (preL t ii other).length (preL t ii other).length) (preL t ii other).length (notesV 10757 (preL t ii other)) :: blk b (preT t ii other typ).cells 154 :: _) w := h
    have e : preF t ii key other typ = ⟨preT t ii other typ, plain 0 0 0, preL t ii other, 10757⟩ := by unfold preF; rw [if_neg (by rw [hok]; decide), if_neg c8, if_neg (fun e => c14 (by rw [e]; rfl)), if_neg (fun hx => htk hx.1)]
    rw [e]
    dsimp only
    exact ⟨a, (preL t ii other).length, rfl, h.to⟩
   refine WT.p 12 rfl (fun w' => (run_pickT rfl)) (WT.m 13 rfl (WT.skip 14 rfl (by kernel_rfl) rfl rfl (WT.skip 15 rfl (by kernel_rfl) rfl rfl (WT.skip 16 rfl (by kernel_rfl) rfl rfl (WT.skip 17 rfl (by kernel_rfl) rfl rfl (WT.skip 18 rfl (by kernel_rfl) rfl rfl (WT.skip 19 rfl (by kernel_rfl) rfl rfl ?_)))))))
   refine WT.skip 20 rfl (by kernel_rfl) rfl rfl (WT.skip 21 rfl (by kernel_rfl) rfl rfl (WT.skip 22 rfl (by kernel_rfl) rfl rfl (WT.skip 23 rfl (by kernel_rfl) rfl rfl (WT.skip 24 rfl (by kernel_rfl) rfl rfl (WT.p 25 rfl (fun w' => (run_pickF rfl)) (WT.dn (W.cf ?_)))))))
   refine W.skip (W.seq ?_)
   have htk : ¬ takesP t ii other := fun hx => c49 hx.2.1
   refine W.region (WL.m (WL.n rfl (WL.c 10 underlying154 rfl sizeOf24 rfl isAgg24 h rfl (WL.v (run_addW rfl rfl) (WL.n rfl (WL.f 10 underlying154 rfl sizeOf24 rfl rfl ?_))))))
   refine WL.e (eff_store (v := .int .u32 _) h sizeOf24 rfl rfl rfl rfl rfl) ?_
   rintro _ w h
   try simp only [Nat.zero_add, Nat.add_zero, List.set_cons_zero, List.set_cons_succ] at h
   refine WL.nil (W.seq (W.seq ?_))
   have et0 : preT0 t ii other typ = t.inc := by unfold preT0; rw [if_neg htk]
   have h := h.fetch (blk b (t.cells.set (0 + 10) (.int .u32 (IntKind.u32.wrap (t.gen + 1)))) 154)
   have h : On W0 (blk b t.inc.cells 154 :: _) w := h
   rw [← et0, ← zer_nil (preT0 t ii other typ)] at h
   have h : On W0 (Own 2 (.slice a (preL t ii other).length (preL t ii other).length) (preL t ii other).length (notesV 10757 (preL t ii other)) :: blk b (zer (preT0 t ii other typ) []).cells 154 :: blk b10 [.int .i64 0, .int .i64 0, .int .i64 0, .slice none 0 0, .int .i64 0] 44 :: L) w := h.to
   refine W.region (WL.m (WL.v (run_lenSlice underlying160 rfl) (WL.m (WL.nil (W.block ?_)))))
   refine W.loop (fun (q : Nat) env w => ∃ j, env = mkE j [(0, .pointer (some ⟨b, 0, none⟩)), (1, .int .i64 (ii : Int)), (10, .pointer (some ⟨b10, 0, none⟩)), (14, .slice a (preL t ii other).length (preL t ii other).length), (83, .slice a (preL t ii other).length (preL t ii other).length), (84, .int .i64 (((preL t ii other).length : Nat) : Int)), (85, .int .i64 (q : Int))] ∧ q ≤ (preL t ii other).length ∧ On W0 (Own 2 (.slice a (preL t ii other).length (preL t ii other).length) (preL t ii other).length (notesV 10757 (preL t ii other)) :: blk b (zer (preT0 t ii other typ) ((preL t ii other).take q)).cells 154 :: blk b10 [.int .i64 0, .int .i64 0, .int .i64 0, .slice none 0 0, .int .i64 0] 44 :: L) w) (fun q => (preL t ii other).length - q) (0) ?_ ?_
   · exact ⟨_, mkE_of ⟨rfl, rfl, rfl, rfl, rfl, rfl, rfl, trivial⟩, Nat.zero_le _, h⟩
   rintro q env w ⟨j, rfl, hq, h⟩
   refine W.sr (WL.v (run_lss rfl rfl) (WL.nil (W.seq ?_)))
   refine W.condIf rfl (fun c32 => ?_) (fun c32 => ?_)
   ·
    refine W.skip (W.seq (W.block (W.seq ?_)))
    have hql : q < (preL t ii other).length := by omega
    have ob_ : ∃ i, (preL t ii other)[q]? = some i := ⟨(preL t ii other)[q], by simp⟩
    obtain ⟨i, hi⟩ := ob_
    have hi8 : i < 8 := (hostsN_mem.1 (List.mem_of_getElem? hi)).1
    have ob_ := Own.addr h (by omega)
    obtain ⟨bn, on, rfl⟩ := ob_
    refine W.region (WL.v (run_indexAddr underlying160 sizeOf198 rfl rfl (by omega) (by omega)) (WL.v (run_loadN isAgg198 sizeOf198 rfl rfl ((h.cellsO (v := .slice (some ⟨bn, on, none⟩) (preL t ii other).length (preL t ii other).length)).elem (i := q) (vs := noteV 10757 i) hql (drop_flatMap (noteV 10757) 2 (noteV_length 10757) (preL t ii other) _ _ hi))) (WL.e (eff_alloc h zeroValue198 rfl) ?_)))
    rintro _ w ⟨b16, rfl, h⟩
    refine WL.e (eff_storeW (vs := [.int .i64 _, .int .i64 _]) h sizeOf198 rfl rfl rfl rfl rfl) ?_
    rintro _ w h
    refine WL.nil ?_
    refine W.draw Tryz.follows h (fun w h => ?_)
    refine WT.m 0 rfl (WT.f 1 0 rfl underlying198 rfl sizeOf3 rfl rfl (WT.l 2 rfl isAgg3 rfl (h.cellB rfl) (WT.n 3 rfl rfl (WT.f 4 0 rfl underlying154 rfl sizeOf152 rfl rfl (WT.p 5 rfl (fun w' => (run_indexAddrArr underlying152 sizeOf27 rfl rfl (by omega) (by omega))) (WT.e 6 [false] rfl (eff_store (v := .int .u64 _) h sizeOf27 rfl rfl rfl (cells_lt hi8) (free0 _)) ?_))))))
    rintro _ w h
    rw [cells_set hi8, ← zer_snoc, ← RsM.take_snoc hi] at h
    refine ⟨trivial, ?_⟩
    refine WT.dn (W.region (WL.v (run_incN rfl rfl (by omega)) (WL.m (WL.nil ?_))))
    exact ⟨q + 1, ⟨_, mkE_of ⟨rfl, rfl, rfl, rfl, rfl, rfl, rfl, trivial⟩, by omega, h.to⟩, by show (preL t ii other).length - (q + 1) < (preL t ii other).length - q; omega⟩
   refine W.exit (W.sr (WL.e (eff_call call119 (good_ok h)) ?_))
   rintro _ w ⟨rfl, h⟩
   refine WL.m (WL.e (eff_storeW (vs := qv0) h sizeOf44 rfl rfl rfl rfl rfl) ?_)
   rintro _ w h
   refine WL.z (W.ret (bodyQ.rctB (vs := qv0) (v2 := .slice _ _ _) h results90 isAgg44 sizeOf44 rfl rfl rfl rfl ?_))
   have ob_ : q = (preL t ii other).length := by omega
   obtain rfl := ob_
   rw [List.take_length] at h
   have h : On W0 (Own 2 (.slice a (preL t ii other).length (preL t ii other).length) (preL t ii other).length (notesV 10757 (preL t ii other)) :: blk b (preT t ii other typ).cells 154 :: _) w := h
   have e : preF t ii key other typ = ⟨preT t ii other typ, plain 0 0 0, preL t ii other, 10757⟩ := by unfold preF; rw [if_neg (by rw [hok]; decide), if_neg c8, if_neg (fun e => c14 (by rw [e]; rfl)), if_neg (fun hx => htk hx.1)]
   rw [e]
   dsimp only
   exact ⟨a, (preL t ii other).length, rfl, h.to⟩
  refine WT.m 5 rfl (WT.skip 6 rfl (by kernel_rfl) rfl rfl (WT.skip 7 rfl (by kernel_rfl) rfl rfl (WT.skip 8 rfl (by kernel_rfl) rfl rfl (WT.skip 9 rfl (by kernel_rfl) rfl rfl (WT.skip 10 rfl (by kernel_rfl) rfl rfl (WT.skip 11 rfl (by kernel_rfl) rfl rfl (WT.p 12 rfl (fun w' => (run_pickF rfl)) ?_)))))))
  refine WT.m 13 rfl (WT.skip 14 rfl (by kernel_rfl) rfl rfl (WT.skip 15 rfl (by kernel_rfl) rfl rfl (WT.skip 16 rfl (by kernel_rfl) rfl rfl (WT.skip 17 rfl (by kernel_rfl) rfl rfl (WT.skip 18 rfl (by kernel_rfl) rfl rfl (WT.skip 19 rfl (by kernel_rfl) rfl rfl (WT.skip 20 rfl (by kernel_rfl) rfl rfl ?_)))))))
  refine WT.skip 21 rfl (by kernel_rfl) rfl rfl (WT.skip 22 rfl (by kernel_rfl) rfl rfl (WT.skip 23 rfl (by kernel_rfl) rfl rfl (WT.skip 24 rfl (by kernel_rfl) rfl rfl (WT.p 25 rfl (fun w' => (run_pickF rfl)) (WT.dn (W.cs ?_))))))
  refine W.seq ?_
  have htk : ¬ takesP t ii other := fun hx => c42 hx.1
  refine W.region (WL.m (WL.n rfl (WL.c 10 underlying154 rfl sizeOf24 rfl isAgg24 h rfl (WL.v (run_addW rfl rfl) (WL.n rfl (WL.f 10 underlying154 rfl sizeOf24 rfl rfl ?_))))))
  refine WL.e (eff_store (v := .int .u32 _) h sizeOf24 rfl rfl rfl rfl rfl) ?_
  rintro _ w h
  try simp only [Nat.zero_add, Nat.add_zero, List.set_cons_zero, List.set_cons_succ] at h
  refine WL.nil (W.seq (W.seq ?_))
  have et0 : preT0 t ii other typ = t.inc := by unfold preT0; rw [if_neg htk]
  have h := h.fetch (blk b (t.cells.set (0 + 10) (.int .u32 (IntKind.u32.wrap (t.gen + 1)))) 154)
  have h : On W0 (blk b t.inc.cells 154 :: _) w := h
  rw [← et0, ← zer_nil (preT0 t ii other typ)] at h
  have h : On W0 (Own 2 (.slice a (preL t ii other).length (preL t ii other).length) (preL t ii other).length (notesV 10757 (preL t ii other)) :: blk b (zer (preT0 t ii other typ) []).cells 154 :: blk b10 [.int .i64 0, .int .i64 0, .int .i64 0, .slice none 0 0, .int .i64 0] 44 :: L) w := h.to
  refine W.region (WL.m (WL.v (run_lenSlice underlying160 rfl) (WL.m (WL.nil (W.block ?_)))))
  refine W.loop (fun (q : Nat) env w => ∃ j, env = mkE j [(0, .pointer (some ⟨b, 0, none⟩)), (1, .int .i64 (ii : Int)), (10, .pointer (some ⟨b10, 0, none⟩)), (14, .slice a (preL t ii other).length (preL t ii other).length), (83, .slice a (preL t ii other).length (preL t ii other).length), (84, .int .i64 (((preL t ii other).length : Nat) : Int)), (85, .int .i64 (q : Int))] ∧ q ≤ (preL t ii other).length ∧ On W0 (Own 2 (.slice a (preL t ii other).length (preL t ii other).length) (preL t ii other).length (notesV 10757 (preL t ii other)) :: blk b (zer (preT0 t ii other typ) ((preL t ii other).take q)).cells 154 :: blk b10 [.int .i64 0, .int .i64 0, .int .i64 0, .slice none 0 0, .int .i64 0] 44 :: L) w) (fun q => (preL t ii other).length - q) (0) ?_ ?_
  · exact ⟨_, mkE_of ⟨rfl, rfl, rfl, rfl, rfl, rfl, rfl, trivial⟩, Nat.zero_le _, h⟩
  rintro q env w ⟨j, rfl, hq, h⟩
  refine W.sr (WL.v (run_lss rfl rfl) (WL.nil (W.seq ?_)))
  refine W.condIf rfl (fun c32 => ?_) (fun c32 => ?_)
  ·
   refine W.skip (W.seq (W.block (W.seq ?_)))
   have hql : q < (preL t ii other).length := by omega
   have ob_ : ∃ i, (preL t ii other)[q]? = some i := ⟨(preL t ii other)[q], by simp⟩
   obtain ⟨i, hi⟩ := ob_
   have hi8 : i < 8 := (hostsN_mem.1 (List.mem_of_getElem? hi)).1
   have ob_ := Own.addr h (by omega)
   obtain ⟨bn, on, rfl⟩ := ob_
   refine W.region (WL.v (run_indexAddr underlying160 sizeOf198 rfl rfl (by omega) (by omega)) (WL.v (run_loadN isAgg198 sizeOf198 rfl rfl ((h.cellsO (v := .slice (some ⟨bn, on, none⟩) (preL t ii other).length (preL t ii other).length)).elem (i := q) (vs := noteV 10757 i) hql (drop_flatMap (noteV 10757) 2 (noteV_length 10757) (preL t ii other) _ _ hi))) (WL.e (eff_alloc h zeroValue198 rfl) ?_)))
   rintro _ w ⟨b16, rfl, h⟩
   refine WL.e (eff_storeW (vs := [.int .i64 _, .int .i64 _]) h sizeOf198 rfl rfl rfl rfl rfl) ?_
   rintro _ w h
   refine WL.nil ?_
   refine W.draw Tryz.follows h (fun w h => ?_)
   refine WT.m 0 rfl (WT.f 1 0 rfl underlying198 rfl sizeOf3 rfl rfl (WT.l 2 rfl isAgg3 rfl (h.cellB rfl) (WT.n 3 rfl rfl (WT.f 4 0 rfl underlying154 rfl sizeOf152 rfl rfl (WT.p 5 rfl (fun w' => (run_indexAddrArr underlying152 sizeOf27 rfl rfl (by omega) (by omega))) (WT.e 6 [false] rfl (eff_store (v := .int .u64 _) h sizeOf27 rfl rfl rfl (cells_lt hi8) (free0 _)) ?_))))))
   rintro _ w h
   rw [cells_set hi8, ← zer_snoc, ← RsM.take_snoc hi] at h
   refine ⟨trivial, ?_⟩
   refine WT.dn (W.region (WL.v (run_incN rfl rfl (by omega)) (WL.m (WL.nil ?_))))
   exact ⟨q + 1, ⟨_, mkE_of ⟨rfl, rfl, rfl, rfl, rfl, rfl, rfl, trivial⟩, by omega, h.to⟩, by show (preL t ii other).length - (q + 1) < (preL t ii other).length - q; omega⟩
  refine W.exit (W.sr (WL.e (eff_call call119 (good_ok h)) ?_))
  rintro _ w ⟨rfl, h⟩
  refine WL.m (WL.e (eff_storeW (vs := qv0) h sizeOf44 rfl rfl rfl rfl rfl) ?_)
  rintro _ w h
  refine WL.z (W.ret (bodyQ.rctB (vs := qv0) (v2 := .slice _ _ _) h results90 isAgg44 sizeOf44 rfl rfl rfl rfl ?_))
  have ob_ : q = (preL t ii other).length := by omega
  obtain rfl := ob_
  rw [List.take_length] at h
  have h : On W0 (Own 2 (.slice a (preL t ii other).length (preL t ii other).length) (preL t ii other).length (notesV 10757 (preL t ii other)) :: blk b (preT t ii other typ).cells 154 :: _) w := h
  have e : preF t ii key other typ = ⟨preT t ii other typ, plain 0 0 0, preL t ii other, 10757⟩ := by unfold preF; rw [if_neg (by rw [hok]; decide), if_neg c8, if_neg (fun e => c14 (by rw [e]; rfl)), if_neg (fun hx => htk hx.1)]
  rw [e]
  dsimp only
  exact ⟨a, (preL t ii other).length, rfl, h.to⟩
 refine WL.m (WL.v (run_extract rfl rfl) (WL.v (run_extract rfl rfl) (WL.e (eff_alloc h zeroValue44 rfl) ?_)))
 rintro _ w ⟨b12, rfl, h⟩
 refine WL.e (eff_storeW (vs := qv0) h sizeOf44 rfl rfl rfl rfl rfl) ?_
 rintro _ w h
 refine WL.z (W.sr (WL.m (WL.v (run_not rfl) (WL.nil (W.ct ?_)))))
 refine W.sr (WL.v (run_loadB (vs := qv0) h isAgg44 sizeOf44 rfl rfl rfl) (WL.e (eff_storeW (vs := qv0) h sizeOf44 rfl rfl rfl rfl rfl) ?_))
 rintro _ w h
 refine WL.z (W.ret (bodyQ.rctB (vs := qv0) (v2 := .slice _ _ _) h results90 isAgg44 sizeOf44 rfl rfl rfl rfl ?_))
 have h : On W0 (Own 2 (.slice none 0 0) 0 (notesV 0 []) :: _) w := h.ownEmpty 2 none
 have e : preF t ii key other typ = ⟨t, plain 24 0 0, [], 0⟩ := by unfold preF; rw [if_pos hok]
 rw [e]
 dsimp only
 exact ⟨none, 0, rfl, h.to⟩
end Go.Proofs.YtjfmjbmkkpkppaaGreatDoor
namespace Go.Proofs.YtjfmjbmkkpkppaaGreatDoor
open Go.Proofs.Tryz
open Go Go.Sl Go.Sl.BitM Go.Sl.SpM Go.Sl.RsM Go.Sl.ByM Go.Sl.UnM
set_option maxHeartbeats 1000000
set_option maxRecDepth 8000
variable {W0 w : World} {L F : List HProp}
theorem unoticed_ok {bu c : Nat} {code : Int} {u : Un} {pool : PoolL} {ms : List Nat} {l : List Nat} {a : Option Addr} {rv : Value} {z0 z1 z2 z4 : Int} (hl8 : l.length ≤ 8) (hlt : ∀ j ∈ l, j < 8) (hsm : small 999000 u) (hr : rv = .agg #[.int .i64 z0, .int .i64 z1, .int .i64 z2, .slice none 0 0, .int .i64 z4]) (h : On W0 (UnP 108 151 154 bu pool ms u :: Own 2 (.slice a l.length c) l.length (notesV code l) :: L) w) : Calls Tryz.prog 85 #[.pointer (some ⟨bu, 0, none⟩), rv, .slice a l.length c] w (Ret fun v w' => v = rv ∧ On W0 (UnP 108 151 154 bu pool ms (notM u code l) :: L) w') := by
 refine enter func85 rfl ntmps85 rfl ?_
 subst hr
 have hul := On.unLen h
 obtain ⟨hl_, hwf⟩ := hul
 refine W.sr (WL.e (eff_box (v := .agg _) (l := [.int .i64 z0, .int .i64 z1, .int .i64 z2, .slice none 0 0, .int .i64 z4]) h rfl rfl) ?_)
 rintro _ w ⟨b4, rfl, h⟩
 refine WL.e (eff_alloc h zeroValue44 rfl) ?_
 rintro _ w ⟨b6, rfl, h⟩
 refine WL.nil (W.seq (W.sr (WL.m (WL.v (run_lenSlice underlying160 rfl) (WL.m (WL.nil ?_))))))
 refine W.block ?_
 refine W.loop (fun (k : Nat) env w => k ≤ l.length ∧ ∃ j, env = mkE j [(0, .pointer (some ⟨bu, 0, none⟩)), (4, .pointer (some ⟨b4, 0, none⟩)), (6, .pointer (some ⟨b6, 0, none⟩)), (9, .slice a l.length c), (10, .int .i64 (l.length : Int)), (11, .int .i64 (k : Int))] ∧ On W0 (UnP 108 151 154 bu pool ms (notM u code (l.take k)) :: Own 2 (.slice a l.length c) l.length (notesV code l) :: blk b6 [.int .i64 0, .int .i64 0, .int .i64 0, .slice none 0 0, .int .i64 0] 44 :: blk b4 [.int .i64 z0, .int .i64 z1, .int .i64 z2, .slice none 0 0, .int .i64 z4] 44 :: L) w) (fun k => l.length - k) (0) ?_ ?_
 · have h : On W0 (UnP 108 151 154 bu pool ms (notM u code (l.take 0)) :: _) w := h.fetch (UnP 108 151 154 bu pool ms u)
   exact ⟨Nat.zero_le _, _, mkE_of ⟨rfl, rfl, rfl, rfl, rfl, rfl, trivial⟩, h.to⟩
 rintro k env w ⟨hk, j, rfl, h⟩
 refine W.sr (WL.v (run_lss rfl rfl) (WL.nil (W.seq ?_)))
 refine W.condIf rfl (fun c5 => ?_) (fun c5 => ?_)
 ·
  refine W.skip (W.seq ?_)
  have hkl : k < l.length := by omega
  have ex_ : ∃ i, l[k]? = some i := ⟨l[k], by simp⟩
  obtain ⟨i, hq⟩ := ex_
  have hi8 : i < 8 := hlt i (List.mem_of_getElem? hq)
  have hrow := drop_flatMap (noteV code) 2 (noteV_length code) l _ _ hq
  have oa_ := Own.addr (h.own (.slice a l.length c)) (by omega)
  obtain ⟨bn, on, ha_⟩ := oa_
  subst ha_
  have hcl := notM_clen (code := code) hi8 (l.take k) (u := u) hl_
  have hcs := hsm i hi8
  have htl : (l.take k).length ≤ 8 := by rw [List.length_take]; omega
  refine W.block (W.sr (WL.v (run_indexAddr underlying160 sizeOf198 rfl rfl (by omega) (by omega)) (WL.v (run_loadN isAgg198 sizeOf198 rfl rfl ((h.cellsO (v := .slice (some ⟨bn, on, none⟩) l.length c)).elem (i := k) (vs := [.int .i64 (i : Int), .int .i64 code]) hkl hrow)) (WL.e (eff_alloc h zeroValue198 rfl) ?_))))
  rintro _ w ⟨b8, rfl, h⟩
  refine WL.e (eff_storeW (vs := [.int .i64 _, .int .i64 _]) h sizeOf198 rfl rfl rfl rfl rfl) ?_
  rintro _ w h
  refine WL.nil (W.region (WL.m (WL.c 0 underlying198 rfl sizeOf3 rfl isAgg3 h rfl (WL.c 1 underlying198 rfl sizeOf3 rfl isAgg3 h rfl (WL.e (eff_call call97 (tell_ok (i := i) (x := code) hi8 (by omega) (h.fetch (UnP 108 151 154 bu pool ms (notM u code (l.take k)))))) ?_)))))
  rintro _ w h
  rw [notM_take hq] at h
  refine WL.nil (W.region (WL.v (run_incN rfl rfl (by omega)) (WL.m (WL.nil ?_))))
  exact ⟨k + 1, ⟨by omega, _, mkE_of ⟨rfl, rfl, rfl, rfl, rfl, rfl, trivial⟩, h.to⟩, by show l.length - (k + 1) < l.length - k; omega⟩
 refine W.exit (W.sr (WL.v (run_loadB (vs := qv0) h isAgg44 sizeOf44 rfl rfl rfl) (WL.e (eff_storeW (vs := qv0) h sizeOf44 rfl rfl rfl rfl rfl) ?_)))
 rintro _ w h
 refine WL.nil (W.ret (bodyQ.rcB (vs := qv0) h results85 isAgg44 sizeOf44 rfl rfl rfl ?_))
 have ob_ : k = l.length := by omega
 obtain rfl := ob_
 rw [List.take_length] at h
 exact ⟨rfl, h.to⟩
theorem ukeys_ok {b : Nat} {t : Tb} (h : On W0 (blk b t.cells 154 :: L) w) : Calls Tryz.prog 93 #[.pointer (some ⟨b, 0, none⟩)] w (Ret fun v w' => ∃ a, v = .slice a (keysN t.K 8).length (keysN t.K 8).length ∧ On W0 (Own 1 (.slice a (keysN t.K 8).length (keysN t.K 8).length) (keysN t.K 8).length (kV (keysN t.K 8)) :: blk b t.cells 154 :: L) w') := by
 refine enter func93 rfl ntmps93 rfl ?_
 have hmx := maxLen_eq
 refine W.sr (WL.z (W.sr (WL.z ?_)))
 refine W.seq (W.sr (WL.m (WL.n rfl (WL.f 0 underlying154 rfl sizeOf152 rfl rfl (WL.v (run_loadB (vs := [.int .u64 _, .int .u64 _, .int .u64 _, .int .u64 _, .int .u64 _, .int .u64 _, .int .u64 _, .int .u64 _]) h isAgg152 sizeOf152 rfl rfl rfl) (WL.m ?_))))))
 refine WL.nil (W.block ?_)
 refine W.loop (fun (i : Nat) env w => ∃ j a c, env = mkE j [(3, .slice a (keysN t.K i).length c), (9, .agg (keysV t.K).toArray), (10, .int .i64 (i : Int))] ∧ i ≤ 8 ∧ On W0 (Own 1 (.slice a (keysN t.K i).length c) (keysN t.K i).length (kV (keysN t.K i)) :: blk b t.cells 154 :: L) w) (fun i => 8 - i) (0) ?_ ?_
 · exact ⟨_, none, 0, mkE_of ⟨rfl, rfl, rfl, trivial⟩, Nat.zero_le _, h.ownEmpty 1 none⟩
 rintro i env w ⟨j, a, c, rfl, hi, h⟩
 have hkn := keysN_len t.K i
 refine W.sr (WL.v (run_lss rfl rfl) (WL.nil (W.seq ?_)))
 refine W.condIf rfl (fun c6 => ?_) (fun c6 => ?_)
 ·
  refine W.skip (W.seq (W.block (W.sr (WL.v (run_indexArr underlying152 sizeOf27 isAgg27 rfl rfl (by omega) (by omega) (keysV_key (i := i) (by omega))) (WL.z ?_)))))
  refine W.sr (WL.m (WL.v (run_neq rfl rfl) (WL.nil ?_)))
  refine W.condIf rfl (fun c12 => ?_) (fun c12 => ?_)
  ·
   refine W.region (WL.m (WL.m (WL.e (eff_mkSlice (zl := [.int .u64 0]) (out := [.int .u64 _]) h underlying169 sizeOf27 zeroValue27 (by decide) (by kernel_rfl) rfl rfl (by simp) (⟨⟨_, _, rfl, rfl, by decide⟩, trivial⟩) rfl rfl (by simp [maxLen])) ?_)))
   rintro _ w ⟨b17, rfl, h⟩
   refine WL.e (eff_app (c2 := 1) (bytes := 8) h rfl rfl (h.cellsO (v := .slice (some ⟨b17, 0, none⟩) 1 1)) underlying169 rfl rfl rfl rfl rfl (by omega) (by omega) (by simp [Value.oneCell'])) ?_
   rintro _ w ⟨a18, c18, rfl, h⟩
   have e1 : keysN t.K i ++ [t.K i] = keysN t.K (i + 1) := by
     show _ = keysN t.K i ++ if t.K i = 0 then [] else [t.K i]
     rw [if_neg (by omega)]
   have e2 : kV (keysN t.K i) ++ [Value.int .u64 (t.K i)] = kV (keysN t.K (i + 1)) := by rw [← e1, ← kV_app]; rfl
   have el : (keysN t.K i).length + 1 = (keysN t.K (i + 1)).length := by rw [← e1, List.length_append]; rfl
   have h : On W0 (Own 1 (.slice a18 ((keysN t.K i).length + 1) c18) ((keysN t.K i).length + 1) (kV (keysN t.K i) ++ [.int .u64 (t.K i)]) :: _) w := h
   rw [e2, el] at h
   refine WL.z (W.region (WL.v (run_incN rfl rfl (by omega)) (WL.m (WL.nil ?_))))
   exact ⟨i + 1, ⟨_, a18, c18, mkE_of ⟨congrArg (fun q => Value.slice a18 q c18) el, rfl, rfl, trivial⟩, by omega, h.to⟩, by show 8 - (i + 1) < 8 - i; omega⟩
  refine W.skip (W.region (WL.v (run_incN rfl rfl (by omega)) (WL.m (WL.nil ?_))))
  have e1 : keysN t.K (i + 1) = keysN t.K i := by
    show keysN t.K i ++ (if t.K i = 0 then [] else [t.K i]) = _
    rw [if_pos (show t.K i = 0 by omega), List.append_nil]
  rw [← e1] at h
  exact ⟨i + 1, ⟨_, a, c, mkE_of ⟨congrArg (fun q : List Int => Value.slice a q.length c) e1.symm, rfl, rfl, trivial⟩, by omega, h.to⟩, by show 8 - (i + 1) < 8 - i; omega⟩
 refine W.exit (W.seq ?_)
 have ob_ : i = 8 := by omega
 obtain rfl := ob_
 refine W.region (WL.m (WL.e (eff_call call125 (clip_keys h)) ?_))
 rintro _ w ⟨rfl, h⟩
 refine WL.z (W.ret (bodyQ.r1 (v := .slice _ _ _) results93 rfl ?_))
 exact ⟨a, rfl, h⟩
theorem pkeys_ok {g ck : Nat} {ak : Option Addr} {ks : List Int} (hg : g < 4294967296) (hk : ∀ x ∈ ks, 0 ≤ x ∧ x < 18446744073709551616) (hl : ks.length ≤ 8) (h : On W0 L w) (C : Gives L (Cells 1 (.slice ak ks.length ck) ks.length (kV ks))) : Calls Tryz.prog 91 #[.int .u32 (g : Int), .slice ak ks.length ck] w (Ret fun v w' => ∃ a, v = .slice a (keysP g (8 * ks.length) ks ks.length).length (keysP g (8 * ks.length) ks ks.length).length ∧ On W0 (OwnB (.slice a (keysP g (8 * ks.length) ks ks.length).length (keysP g (8 * ks.length) ks ks.length).length) (keysP g (8 * ks.length) ks ks.length) :: L) w') := by
 refine enter func91 rfl ntmps91 rfl ?_
 have hmx := maxLen_eq
 have hbd := (h.reads C).bounds
 obtain ⟨hc1, hc2⟩ := hbd
 have e0 : ([] ++ be g 4) ++ be (8 * ks.length) 4 = (keysP g (8 * ks.length) ks 0) := by rw [keysP_zero, List.nil_append]
 refine W.sr (WL.z (W.sr (WL.m (WL.m ?_))))
 refine WL.v (run_lenSlice underlying169 rfl) (WL.v (run_minN (m := ks.length) (n := 16) rfl rfl (Nat.min_eq_left (by omega))) (WL.v (run_cutH underlying169 sizeOf27 rfl rfl  (by omega)) (WL.z (W.sr (WL.m ?_)))))
 refine WL.v (run_convIn underlying24 underlying27 rfl (by show (0 : Int) ≤ _; omega) (by show _ ≤ (18446744073709551615 : Int); omega)) (WL.e (eff_call call38 (bput_ok (ax := none) (cx := 0) (bs := []) (v := g) (n := 4) h Gives.nilB (by decide) (by decide) (by omega) (by decide))) ?_)
 rintro _ w ⟨a15, rfl, h⟩
 refine WL.m (WL.v (run_lenSlice underlying169 rfl) (WL.v (run_mulN (m := 8) (n := ks.length) rfl rfl (by omega)) (WL.v (run_convIn underlying3 underlying27 rfl (by show (0 : Int) ≤ _; omega) (by show _ ≤ (18446744073709551615 : Int); omega)) (WL.e (eff_call call38 (bput_ok (v := 8 * ks.length) (n := 4) h (Gives.ownO (v := .slice a15 ([] ++ be g 4).length ([] ++ be g 4).length)) (by decide) (by decide) (by omega) (by rw [List.nil_append, be_length]; decide))) ?_))))
 rintro v20 w ⟨a20, hv20, h⟩
 rw [e0] at hv20 h
 subst hv20
 refine WL.z (W.seq (W.sr (WL.m (WL.v (run_lenSlice underlying169 rfl) (WL.m ?_)))))
 refine WL.nil (W.block ?_)
 refine W.loop (fun (k : Nat) env w => k ≤ ks.length ∧ ∃ (j : Env) (ao : Option Addr) (co : Nat), env = mkE j [(5, .slice ao (keysP g (8 * ks.length) ks k).length co), (21, .slice ak ks.length ck), (22, .int .i64 (ks.length : Int)), (23, .int .i64 (k : Int))] ∧ co = (keysP g (8 * ks.length) ks k).length ∧ On W0 (OwnB (.slice ao (keysP g (8 * ks.length) ks k).length co) (keysP g (8 * ks.length) ks k) :: L) w) (fun k => ks.length - k) (0) ?_ ?_
 · exact ⟨Nat.zero_le _, _, a20, _, mkE_of ⟨rfl, rfl, rfl, rfl, trivial⟩, rfl, h.to⟩
 rintro k env w ⟨hk8, j, ao, co, rfl, hco, h⟩
 have hlk := keysP_len (g := g) (n := 8 * ks.length) hk8
 refine W.sr (WL.v (run_lss rfl rfl) (WL.nil (W.seq ?_)))
 refine W.condIf rfl (fun c7 => ?_) (fun c7 => ?_)
 ·
  refine W.skip (W.seq ?_)
  have hkl : k < ks.length := by omega
  have ex_ : ∃ x, ks[k]? = some x := ⟨ks[k], by simp⟩
  obtain ⟨x, hx⟩ := ex_
  have hxk := hk x (List.mem_of_getElem? hx)
  have ekx : x = ((x.toNat : Nat) : Int) := by omega
  have adx := (h.readsTo C).addr (by omega)
  obtain ⟨bx, ox, hax⟩ := adx
  subst hax
  refine W.block (W.sr (WL.v (run_indexAddr underlying169 sizeOf27 rfl rfl (by omega) (by omega)) (WL.l isAgg27 rfl ((h.readsTo C).elem (i := k) (vs := [.int .u64 ((x.toNat : Nat) : Int)]) hkl ((kV_get hx).trans (congrArg (fun q => [Value.int .u64 q]) ekx)) 0 _ rfl) (WL.z (W.region ?_)))))
  refine WL.m (WL.m (WL.e (eff_call call38 (bput_ok (v := x.toNat) (n := 8) (bs := (keysP g (8 * ks.length) ks k)) h (Gives.ownO (v := .slice ao (keysP g (8 * ks.length) ks k).length co)) (by decide) (by decide) (by omega) (by omega))) ?_))
  rintro _ w ⟨a29, rfl, h⟩
  refine WL.z (W.region (WL.v (run_incN rfl rfl (by omega)) (WL.m (WL.nil ?_))))
  rw [keysP_succ hx] at h
  exact ⟨k + 1, ⟨by omega, _, a29, _, mkE_of ⟨congrArg (fun q : List UInt8 => Value.slice a29 q.length q.length) (keysP_succ hx), rfl, rfl, rfl, trivial⟩, rfl, h.to⟩, by show ks.length - (k + 1) < ks.length - k; omega⟩
 refine W.exit (W.sr (WL.m (WL.z (W.ret (bodyQ.r1 (v := .slice _ _ _) results91 rfl ?_)))))
 have ob_ : k = ks.length := by omega
 obtain rfl := ob_
 subst hco
 exact ⟨ao, rfl, h⟩
def holdP (g key y : Nat) : List UInt8 := if y = 0 then be g 4 ++ be 0 4 else be g 4 ++ be 16 4 ++ be key 8 ++ be 0 4 ++ be y 2 ++ be 0 2
theorem and15 {y : Nat} (h : y < 16) : ((y &&& 15 : Nat) : Int) = (y : Int) := by
 have : y &&& 15 = y % 2 ^ 4 := Nat.and_two_pow_sub_one_eq_mod y 4
 rw [this, Nat.mod_eq_of_lt (by omega)]
theorem holdB_P {t : Tb} (h1 : 0 ≤ t.typ) : holdB t = holdP t.gen.toNat (holdK t).toNat t.typ.toNat := by
 unfold holdB holdP
 by_cases h : t.typ = 0
 · rw [if_pos h, if_pos (by omega)]
 rw [if_neg h, if_neg (by omega)]
theorem pholder_ok {g key y : Nat} (hg : g < 4294967296) (hk : key < 18446744073709551616) (hy : y < 16) (h : On W0 L w) : Calls Tryz.prog 95 #[.int .u32 (g : Int), .int .u64 (key : Int), .int .i64 (y : Int)] w (Ret fun v w' => ∃ a, v = .slice a (holdP g key y).length (holdP g key y).length ∧ On W0 (OwnB (.slice a (holdP g key y).length (holdP g key y).length) (holdP g key y) :: L) w') := by
 refine enter func95 rfl ntmps95 rfl ?_
 have hmx := maxLen_eq
 refine W.sr (WL.z (W.sr (WL.m (WL.v (run_convIn underlying24 underlying27 rfl (by show (0 : Int) ≤ _; omega) (by show _ ≤ (18446744073709551615 : Int); omega)) ?_))))
 refine WL.e (eff_call call38 (bput_ok (ax := none) (cx := 0) (bs := []) (v := g) (n := 4) h Gives.nilB (by decide) (by decide) (by omega) (by decide))) ?_
 rintro _ w ⟨a10, rfl, h⟩
 refine WL.z (W.seq (W.sr (WL.m (WL.v (run_andV (m := y) (n := 15) (and15 hy) rfl rfl (by show _ ≤ (9223372036854775807 : Int); omega) (by decide)) (WL.v (run_eql rfl rfl) ?_)))))
 refine WL.nil ?_
 refine W.condIf rfl (fun c3 => ?_) (fun c3 => ?_)
 ·
  refine W.sr (WL.m (WL.e (eff_call call38 (bput_ok (v := 0) (n := 4) (bs := [] ++ be g 4) h (Gives.ownO (v := .slice a10 ([] ++ be g 4).length ([] ++ be g 4).length)) (by decide) (by decide) (by omega) (by simp only [List.length_append, List.length_nil, be_length]; omega))) ?_))
  rintro _ w ⟨a15, rfl, h⟩
  refine WL.z (W.ret (bodyQ.r1 (v := .slice _ _ _) results95 rfl ?_))
  have e : holdP g key y = [] ++ be g 4 ++ be 0 4 := by unfold holdP; rw [if_pos (by omega), List.nil_append]
  rw [e]
  exact ⟨a15, rfl, h.to⟩
 refine W.skip (W.sr (WL.m (WL.e (eff_call call38 (bput_ok (v := 16) (n := 4) (bs := [] ++ be g 4) h (Gives.ownO (v := .slice a10 ([] ++ be g 4).length ([] ++ be g 4).length)) (by decide) (by decide) (by omega) (by simp only [List.length_append, List.length_nil, be_length]; omega))) ?_)))
 rintro _ w ⟨a17, rfl, h⟩
 refine WL.m (WL.e (eff_call call38 (bput_ok (v := key) (n := 8) (bs := [] ++ be g 4 ++ be 16 4) h (Gives.ownO (v := .slice a17 ([] ++ be g 4 ++ be 16 4).length ([] ++ be g 4 ++ be 16 4).length)) (by decide) (by decide) (by omega) (by simp only [List.length_append, List.length_nil, be_length]; omega))) ?_)
 rintro _ w ⟨a19, rfl, h⟩
 refine WL.e (eff_call call38 (bput_ok (v := 0) (n := 4) (bs := [] ++ be g 4 ++ be 16 4 ++ be key 8) h (Gives.ownO (v := .slice a19 ([] ++ be g 4 ++ be 16 4 ++ be key 8).length ([] ++ be g 4 ++ be 16 4 ++ be key 8).length)) (by decide) (by decide) (by omega) (by simp only [List.length_append, List.length_nil, be_length]; omega))) ?_
 rintro _ w ⟨a20, rfl, h⟩
 refine WL.z (W.sr (WL.m (WL.m (WL.v (run_andV (m := y) (n := 15) (and15 hy) rfl rfl (by show _ ≤ (9223372036854775807 : Int); omega) (by decide)) (WL.v (run_convIn underlying3 underlying27 rfl (by show (0 : Int) ≤ _; omega) (by show _ ≤ (18446744073709551615 : Int); omega)) ?_)))))
 refine WL.e (eff_call call38 (bput_ok (v := y) (n := 2) (bs := [] ++ be g 4 ++ be 16 4 ++ be key 8 ++ be 0 4) h (Gives.ownO (v := .slice a20 ([] ++ be g 4 ++ be 16 4 ++ be key 8 ++ be 0 4).length ([] ++ be g 4 ++ be 16 4 ++ be key 8 ++ be 0 4).length)) (by decide) (by decide) (by omega) (by simp only [List.length_append, List.length_nil, be_length]; omega))) ?_
 rintro _ w ⟨a25, rfl, h⟩
 refine WL.e (eff_call call38 (bput_ok (v := 0) (n := 2) (bs := [] ++ be g 4 ++ be 16 4 ++ be key 8 ++ be 0 4 ++ be y 2) h (Gives.ownO (v := .slice a25 ([] ++ be g 4 ++ be 16 4 ++ be key 8 ++ be 0 4 ++ be y 2).length ([] ++ be g 4 ++ be 16 4 ++ be key 8 ++ be 0 4 ++ be y 2).length)) (by decide) (by decide) (by omega) (by simp only [List.length_append, List.length_nil, be_length]; omega))) ?_
 rintro _ w ⟨a26, rfl, h⟩
 refine WL.z (W.ret (bodyQ.r1 (v := .slice _ _ _) results95 rfl ?_))
 have e : holdP g key y = [] ++ be g 4 ++ be 16 4 ++ be key 8 ++ be 0 4 ++ be y 2 ++ be 0 2 := by unfold holdP; rw [if_neg (by omega), List.nil_append]
 rw [e]
 exact ⟨a26, rfl, h.to⟩
end Go.Proofs.YtjfmjbmkkpkppaaGreatDoor
