/-
  A unit: attentions, commands of blocks: the contracts. Lines of walks printed by a program of the prover's.
-/
import Derived.Test.YtdpakoefdpmebaaGreatUnit2
namespace Go.Proofs.YtdpakoefdpmebaaGreat
open Go Go.Sl Go.Sl.BitM Go.Sl.SpM Go.Sl.RsM Go.Sl.ByM Go.Sl.UnM
set_option linter.unusedVariables false
set_option linter.unusedSimpArgs false
set_option maxHeartbeats 1000000
set_option maxRecDepth 8000
variable {W0 w : World} {L F : List HProp}

theorem sin_ok {b : Nat} {s : Sp} {at_ n : Int} (h : On W0 (SpP 146 b s :: L) w) : Calls Tryz.prog 133 #[.pointer (some ⟨b, 0, none⟩), .int .i64 at_, .int .i64 n] w (Ret fun v w' => ((v = .bool true ∧ inS s at_ n) ∨ (v = .bool false ∧ ¬ inS s at_ n)) ∧ On W0 (SpP 146 b s :: L) w') := by
  have ho := openS h
  obtain ⟨gd, od, cd, am, cm, hw, h⟩ := ho
  exact (in_s hw.2.2.1 h).mono fun e w' he => by
    obtain ⟨v, he, hv⟩ := he
    refine ⟨v, he, ?_⟩
    exact ⟨hv.1, closeS (cd := cd) (cm := cm) (gd := gd) (od := od) (am := am) hw hv.2⟩

theorem tell_ok {bu i : Nat} {u : Un} {pool : PoolL} {ms : List Nat} {x : Int} (hi : i < 8) (hsm : (u.guest i).codes.length ≤ 1000000) (h : On W0 (UnP 84 146 152 bu pool ms u :: L) w) : Calls Tryz.prog 105 #[.pointer (some ⟨bu, 0, none⟩), .int .i64 (i : Int), .int .i64 x] w (Ret fun v w' => On W0 (UnP 84 146 152 bu pool ms (u.tell i x) :: L) w') := by
  refine enter Tryz.func105 rfl Tryz.ntmps105 rfl ?_
  have hmx := maxLen_eq
  have ob_ := openU h
  obtain ⟨bs, bt, gs, hm, hl, h⟩ := ob_
  have ob_ := row_of hm hl hi
  obtain ⟨g, hg, hgu⟩ := ob_
  have h := Big.open hg (h.fetch (Big (GOwn pool) gs))
  have ob_ := openG h
  obtain ⟨hok, h⟩ := ob_
  have ob1_ := Own.bounds h
  obtain ⟨hb1, hb2⟩ := ob1_
  have hig : i < gs.length := by have := (List.getElem?_eq_some_iff.1 hg).1; omega
  rw [← hgu] at hsm
  refine W.seq (W.region (WL.val run_move rfl rfl (WL.val run_move rfl rfl (WL.val (run_nilCheck rfl) rfl rfl (WL.val (run_fieldAddr 2 Tryz.underlying84 rfl Tryz.sizeOf82 rfl rfl) rfl rfl (WL.val (run_indexAddrArr Tryz.underlying82 Tryz.sizeOf81 rfl rfl (by omega) (by omega)) rfl rfl (WL.val run_assign rfl rfl ?_)))))))
  refine WL.nil (W.seq (W.region (WL.val run_move rfl rfl (WL.val (run_nilCheck rfl) rfl rfl (WL.val (run_fieldAddr 0 Tryz.underlying81 rfl Tryz.sizeOf43 rfl rfl) rfl rfl (WL.val (run_load1 Tryz.isAgg43 rfl (h.cellB (ucell (bs := bs) (bt := bt) hg (k := 0) (by decide) rfl))) rfl rfl (WL.val run_move rfl rfl ?_)))))))
  refine WL.eff (eff_call Tryz.call147 (contains_ints (l := g.s.codes) (ao := g.a) (cap := g.c) (x := x) h (Gives.ownO (v := .slice g.a g.s.codes.length g.c)))) rfl rfl ?_
  rintro _ w ⟨hv, h⟩
  have hcs := Bool.eq_false_or_eq_true (decide (x ∈ g.s.codes))
  rcases hcs with hin | hin <;> (rw [hin] at hv; subst hv)
  ·
   refine WL.val (run_not rfl) rfl rfl (WL.nil (W.condF rfl (W.skip (bodyQ.fall (bodyQ.r0 Tryz.results105 ?_)))))
   first
     | (have e : u.tell i x = u.putG i ({ g with s := g.s.tell x, a := a26, c := c26 } : GX).s := by unfold Un.tell; rw [← hgu]
        rw [e]
        exact h.to)
     | (have hin' : x ∈ g.s.codes := of_decide_eq_true hin
        have h := Big.close (y := g) hig (closeG (g := g) hok (((h.fetch (Big (GOwn pool) (gs.eraseIdx i))).fetch (MapC g.mb .u64 g.kvs g.ck)).fetch (CodesO g)))
        rw [set_same hg] at h
        have h := closeU (bu := bu) (u := u) hm hl ((((h.fetch (Big (GOwn pool) gs)).fetch (blk bt u.t.cells 152)).fetch (SpP 146 bs u.s)).fetch (blk bu (ucells bs bt gs) 84))
        rw [tell_same hl hi (by rw [← hgu]; exact hin')]
        exact h.to)
  refine WL.val (run_not rfl) rfl rfl (WL.nil (W.condT rfl (W.region (WL.val run_move rfl rfl (WL.val run_move rfl rfl (WL.val (run_nilCheck rfl) rfl rfl (WL.val (run_fieldAddr 0 Tryz.underlying81 rfl Tryz.sizeOf43 rfl rfl) rfl rfl ?_)))))))
  refine WL.val (run_load1 Tryz.isAgg43 rfl (h.cellB (ucell (bs := bs) (bt := bt) hg (k := 0) (by decide) rfl))) rfl rfl (WL.val run_move rfl rfl (WL.eff (eff_mkSlice (zl := [.int .i64 0]) (out := [.int .i64 _]) h Tryz.underlying43 Tryz.sizeOf3 Tryz.zeroValue3 (by decide) (by kernel_rfl) rfl rfl (by simp) (⟨⟨_, _, rfl, rfl, by decide⟩, trivial⟩) rfl rfl (by simp [maxLen])) rfl rfl ?_))
  rintro _ w ⟨b25, rfl, h⟩
  refine WL.eff (eff_app (c2 := 1) (bytes := 8) h rfl rfl (h.cellsO (v := .slice (some ⟨b25, 0, none⟩) 1 1)) Tryz.underlying43 rfl rfl rfl rfl rfl (by omega) (by omega) (by simp [Value.oneCell'])) rfl rfl ?_
  rintro _ w ⟨a26, c26, rfl, h⟩
  refine WL.val (run_nilCheck rfl) rfl rfl (WL.val (run_fieldAddr 0 Tryz.underlying81 rfl Tryz.sizeOf43 rfl rfl) rfl rfl (WL.eff (eff_store (v := .slice a26 (g.s.codes.length + 1) c26) h Tryz.sizeOf43 rfl rfl rfl (ult (bs := bs) (bt := bt) hg (k := 0) (by decide)) (free0 _)) rfl rfl ?_))
  rintro _ w h
  have hnin : x ∉ g.s.codes := of_decide_eq_false hin
  have ec : (g.s.tell x).codes = g.s.codes ++ [x] := if_neg hnin
  have ec2 : (g.s.tell x).codes.length = g.s.codes.length + 1 := by rw [ec, List.length_append]; rfl
  have ec3 : cV g.s.codes ++ [.int .i64 x] = cV (g.s.tell x).codes := by rw [ec]; simp [cV]
  have er : ({ g with s := g.s.tell x, a := a26, c := c26 } : GX).row = g.row.set 0 (.slice a26 (g.s.codes.length + 1) c26) := by
    show [Value.slice a26 (g.s.tell x).codes.length c26, _, _] = _
    rw [ec2]; rfl
  rw [uset (bs := bs) (bt := bt) hg (k := 0) (by decide) er] at h
  have h : On W0 (Own 1 (.slice a26 (g.s.codes.length + 1) c26) (g.s.codes.length + 1) (cV g.s.codes ++ [.int .i64 x]) :: _) w := h.own (.slice a26 (g.s.codes.length + 1) c26)
  rw [ec3, ← ec2] at h
  have h : On W0 (CodesO ({ g with s := g.s.tell x, a := a26, c := c26 } : GX) :: _) w := h
  have hok' : okD pool ({ g with s := g.s.tell x, a := a26, c := c26 } : GX).s.done ({ g with s := g.s.tell x, a := a26, c := c26 } : GX).kvs := hok
  have h := Big.close (y := ({ g with s := g.s.tell x, a := a26, c := c26 } : GX)) hig (closeG (g := ({ g with s := g.s.tell x, a := a26, c := c26 } : GX)) hok' (((h.fetch (Big (GOwn pool) (gs.eraseIdx i))).fetch (MapC ({ g with s := g.s.tell x, a := a26, c := c26 } : GX).mb .u64 ({ g with s := g.s.tell x, a := a26, c := c26 } : GX).kvs ({ g with s := g.s.tell x, a := a26, c := c26 } : GX).ck)).fetch (CodesO ({ g with s := g.s.tell x, a := a26, c := c26 } : GX))))
  have hm' : (gs.set i ({ g with s := g.s.tell x, a := a26, c := c26 } : GX)).map (·.s) = ((u.putG i ({ g with s := g.s.tell x, a := a26, c := c26 } : GX).s)).g ∧ (gs.set i ({ g with s := g.s.tell x, a := a26, c := c26 } : GX)).map (·.mb) = ms := put_map hm hg rfl
  have h := closeU (bu := bu) (u := (u.putG i ({ g with s := g.s.tell x, a := a26, c := c26 } : GX).s)) hm' (put_len hl) ((((h.fetch (Big (GOwn pool) (gs.set i ({ g with s := g.s.tell x, a := a26, c := c26 } : GX)))).fetch (blk bt u.t.cells 152)).fetch (SpP 146 bs u.s)).fetch (blk bu (ucells bs bt (gs.set i ({ g with s := g.s.tell x, a := a26, c := c26 } : GX))) 84))
  refine WL.nil (bodyQ.fall (bodyQ.r0 Tryz.results105 ?_))
  first
    | (have e : u.tell i x = u.putG i ({ g with s := g.s.tell x, a := a26, c := c26 } : GX).s := by unfold Un.tell; rw [← hgu]
       rw [e]
       exact h.to)
    | (have hin' : x ∈ g.s.codes := of_decide_eq_true hin
       have h := Big.close (y := g) hig (closeG (g := g) hok (((h.fetch (Big (GOwn pool) (gs.eraseIdx i))).fetch (MapC g.mb .u64 g.kvs g.ck)).fetch (CodesO g)))
       rw [set_same hg] at h
       have h := closeU (bu := bu) (u := u) hm hl ((((h.fetch (Big (GOwn pool) gs)).fetch (blk bt u.t.cells 152)).fetch (SpP 146 bs u.s)).fetch (blk bu (ucells bs bt gs) 84))
       rw [tell_same hl hi (by rw [← hgu]; exact hin')]
       exact h.to)

theorem told_ok {bu i : Nat} {u : Un} {pool : PoolL} {ms : List Nat} (hi : i < 8) (hsm : (u.guest i).codes.length ≤ 1000000) (h : On W0 (UnP 84 146 152 bu pool ms u :: L) w) : Calls Tryz.prog 37 #[.pointer (some ⟨bu, 0, none⟩), .int .i64 (i : Int)] w (Ret fun v w' => (∃ x l, (u.guest i).codes = x :: l ∧ v = .tuple #[(plain 2 6 x).val (.slice none 0 0), .bool true] ∧ On W0 (UnP 84 146 152 bu pool ms (u.putG i (u.guest i).pop) :: L) w') ∨ ((u.guest i).codes = [] ∧ v = .tuple #[(plain 0 0 0).val (.slice none 0 0), .bool false] ∧ On W0 (UnP 84 146 152 bu pool ms u :: L) w')) := by
  refine enter Tryz.func37 rfl Tryz.ntmps37 rfl ?_
  have hmx := maxLen_eq
  have ob_ := openU h
  obtain ⟨bs, bt, gs, hm, hl, h⟩ := ob_
  have ob_ := row_of hm hl hi
  obtain ⟨g, hg, hgu⟩ := ob_
  have h := Big.open hg (h.fetch (Big (GOwn pool) gs))
  have ob_ := openG h
  obtain ⟨hok, h⟩ := ob_
  have ob1_ := Own.bounds h
  obtain ⟨hb1, hb2⟩ := ob1_
  have hig : i < gs.length := by have := (List.getElem?_eq_some_iff.1 hg).1; omega
  rw [← hgu] at hsm
  rw [← hgu]
  refine W.seq (W.region (WL.eff (eff_alloc h Tryz.zeroValue36 rfl) rfl rfl ?_))
  rintro _ w ⟨b4, rfl, h⟩
  refine WL.val run_assign rfl rfl (WL.nil (W.seq (W.region (WL.val run_move rfl rfl (WL.val run_move rfl rfl (WL.val (run_nilCheck rfl) rfl rfl (WL.val (run_fieldAddr 2 Tryz.underlying84 rfl Tryz.sizeOf82 rfl rfl) rfl rfl ?_)))))))
  refine WL.val (run_indexAddrArr Tryz.underlying82 Tryz.sizeOf81 rfl rfl (by omega) (by omega)) rfl rfl (WL.val run_assign rfl rfl (WL.nil (W.seq (W.seq (W.region (WL.val run_move rfl rfl (WL.val (run_nilCheck rfl) rfl rfl ?_)))))))
  refine WL.val (run_fieldAddr 0 Tryz.underlying81 rfl Tryz.sizeOf43 rfl rfl) rfl rfl (WL.val (run_load1 Tryz.isAgg43 rfl (h.cellB (ucell (bs := bs) (bt := bt) hg (k := 0) (by decide) rfl))) rfl rfl (WL.val (run_lenSlice Tryz.underlying43 rfl) rfl rfl (WL.val (run_eql rfl rfl) rfl rfl (WL.nil ?_))))
  refine W.condIf rfl (fun c3 => ?_) (fun c3 => ?_)
  ·
   refine W.seq (W.region (WL.val (run_buildS (pl := [(0, 1), (1, 1), (2, 1), (3, 1), (4, 1)]) (out := [.int .i64 _, .int .i64 _, .int .i64 _, .slice _ _ _, .int .i64 _]) Tryz.underlying36 Tryz.zeroValue36 (fun w => by kernel_rfl) rfl (trivial) rfl) rfl rfl (WL.eff (eff_storeW (vs := [.int .i64 _, .int .i64 _, .int .i64 _, .slice _ _ _, .int .i64 _]) h Tryz.sizeOf36 rfl rfl rfl rfl rfl) rfl rfl ?_)))
   rintro _ w h
   refine WL.val run_assign rfl rfl (WL.nil (W.ret (bodyQ.rctB (vs := [.int .i64 _, .int .i64 _, .int .i64 _, .slice _ _ _, .int .i64 _]) (v2 := .bool _) h Tryz.results37 Tryz.isAgg36 Tryz.sizeOf36 rfl rfl rfl rfl ?_)))
   have h := Big.close (y := g) hig (closeG (g := g) hok (((h.fetch (Big (GOwn pool) (gs.eraseIdx i))).fetch (MapC g.mb .u64 g.kvs g.ck)).fetch (CodesO g)))
   rw [set_same hg] at h
   have h := closeU (bu := bu) (u := u) hm hl ((((h.fetch (Big (GOwn pool) gs)).fetch (blk bt u.t.cells 152)).fetch (SpP 146 bs u.s)).fetch (blk bu (ucells bs bt gs) 84))
   exact .inr ⟨List.eq_nil_of_length_eq_zero (by omega), rfl, h.to⟩
  refine W.skip (W.seq ?_)
  have ob_ : ∃ x l, g.s.codes = x :: l := by
    cases hc : g.s.codes with
    | nil => rw [hc] at c3; exact absurd rfl c3
    | cons x l => exact ⟨x, l, rfl⟩
  obtain ⟨x, l, hxl⟩ := ob_
  have hx0 : g.s.codes[0]? = some x := by rw [hxl]; rfl
  have hpos : 0 < g.s.codes.length := by rw [hxl]; exact Nat.succ_pos _
  have ob3_ := Own.addr (h.own (.slice g.a g.s.codes.length g.c)) hpos
  obtain ⟨ba, oa, haa⟩ := ob3_
  have erow : g.row[0]? = some (.slice (some ⟨ba, oa, none⟩) g.s.codes.length g.c) := by rw [← haa]; rfl
  refine W.region (WL.val run_move rfl rfl (WL.val (run_nilCheck rfl) rfl rfl (WL.val (run_fieldAddr 0 Tryz.underlying81 rfl Tryz.sizeOf43 rfl rfl) rfl rfl (WL.val (run_load1 Tryz.isAgg43 rfl (h.cellB (ucell (bs := bs) (bt := bt) hg (k := 0) (by decide) erow))) rfl rfl (WL.val (run_indexAddr Tryz.underlying43 Tryz.sizeOf3 rfl rfl (by omega) (by omega)) rfl rfl (WL.val (run_load1 Tryz.isAgg3 rfl ((by have e0 := h.cellsO (v := .slice g.a g.s.codes.length g.c); rw [haa] at e0; exact Cells.elem e0 (i := 0) (vs := [.int .i64 x]) (by omega) (cV_get hx0) 0 _ rfl))) rfl rfl (WL.eff (eff_call Tryz.call36 (wrong_ok h)) rfl rfl ?_)))))))
  rintro _ w ⟨rfl, h⟩
  refine WL.eff (eff_alloc h Tryz.zeroValue36 rfl) rfl rfl ?_
  rintro _ w ⟨b7, rfl, h⟩
  refine WL.eff (eff_storeW (vs := [.int .i64 _, .int .i64 _, .int .i64 _, .slice _ _ _, .int .i64 _]) h Tryz.sizeOf36 rfl rfl rfl rfl rfl) rfl rfl ?_
  rintro _ w h
  refine WL.nil (W.seq ?_)
  have ob_ := cut_codes (L := [CodesO g]) (k := 1) (l := g.s.codes) (a := g.a) (c := g.c) (Gives.ownO (v := .slice g.a g.s.codes.length g.c)) hpos hb1
  obtain ⟨a', c', hcut, CC⟩ := ob_
  have hd1 : (g.s.codes.drop 1).length ≤ 1000000000000 := by rw [List.length_drop]; omega
  refine W.region (WL.val run_move rfl rfl (WL.val run_move rfl rfl (WL.val (run_nilCheck rfl) rfl rfl (WL.val (run_fieldAddr 0 Tryz.underlying81 rfl Tryz.sizeOf43 rfl rfl) rfl rfl (WL.val (run_load1 Tryz.isAgg43 rfl (h.cellB (ucell (bs := bs) (bt := bt) hg (k := 0) (by decide) rfl))) rfl rfl (WL.val (run_cutLV (l := 1) Tryz.underlying43 Tryz.sizeOf3 rfl rfl hpos hcut) rfl rfl (WL.eff (eff_call Tryz.call45 (clone_ints (l := g.s.codes.drop 1) h (Gives.to CC) hd1)) rfl rfl ?_)))))))
  rintro _ w ⟨a33, c33, rfl, h⟩
  refine WL.val (run_nilCheck rfl) rfl rfl (WL.val (run_fieldAddr 0 Tryz.underlying81 rfl Tryz.sizeOf43 rfl rfl) rfl rfl (WL.eff (eff_store (v := .slice a33 (g.s.codes.drop 1).length c33) h Tryz.sizeOf43 rfl rfl rfl (ult (bs := bs) (bt := bt) hg (k := 0) (by decide)) (free0 _)) rfl rfl ?_))
  rintro _ w h
  have er : ({ g with s := g.s.pop, a := a33, c := c33 } : GX).row = g.row.set 0 (.slice a33 (g.s.codes.drop 1).length c33) := rfl
  rw [uset (bs := bs) (bt := bt) hg (k := 0) (by decide) er] at h
  have h : On W0 (CodesO ({ g with s := g.s.pop, a := a33, c := c33 } : GX) :: _) w := h.own (.slice a33 (g.s.codes.drop 1).length c33)
  have hok' : okD pool ({ g with s := g.s.pop, a := a33, c := c33 } : GX).s.done ({ g with s := g.s.pop, a := a33, c := c33 } : GX).kvs := hok
  have h := Big.close (y := ({ g with s := g.s.pop, a := a33, c := c33 } : GX)) hig (closeG (g := ({ g with s := g.s.pop, a := a33, c := c33 } : GX)) hok' (((h.fetch (Big (GOwn pool) (gs.eraseIdx i))).fetch (MapC ({ g with s := g.s.pop, a := a33, c := c33 } : GX).mb .u64 ({ g with s := g.s.pop, a := a33, c := c33 } : GX).kvs ({ g with s := g.s.pop, a := a33, c := c33 } : GX).ck)).fetch (CodesO ({ g with s := g.s.pop, a := a33, c := c33 } : GX))))
  have hm' : (gs.set i ({ g with s := g.s.pop, a := a33, c := c33 } : GX)).map (·.s) = ((u.putG i g.s.pop)).g ∧ (gs.set i ({ g with s := g.s.pop, a := a33, c := c33 } : GX)).map (·.mb) = ms := put_map hm hg rfl
  have h := closeU (bu := bu) (u := (u.putG i g.s.pop)) hm' (put_len hl) ((((h.fetch (Big (GOwn pool) (gs.set i ({ g with s := g.s.pop, a := a33, c := c33 } : GX)))).fetch (blk bt u.t.cells 152)).fetch (SpP 146 bs u.s)).fetch (blk bu (ucells bs bt (gs.set i ({ g with s := g.s.pop, a := a33, c := c33 } : GX))) 84))
  refine WL.nil (W.seq (W.region (WL.val (run_loadB (vs := [.int .i64 _, .int .i64 _, .int .i64 _, .slice _ _ _, .int .i64 _]) h Tryz.isAgg36 Tryz.sizeOf36 rfl rfl rfl) rfl rfl (WL.eff (eff_storeW (vs := [.int .i64 _, .int .i64 _, .int .i64 _, .slice _ _ _, .int .i64 _]) h Tryz.sizeOf36 rfl rfl rfl rfl rfl) rfl rfl ?_))))
  rintro _ w h
  refine WL.val run_assign rfl rfl (WL.nil (W.ret (bodyQ.rctB (vs := [.int .i64 _, .int .i64 _, .int .i64 _, .slice _ _ _, .int .i64 _]) (v2 := .bool _) h Tryz.results37 Tryz.isAgg36 Tryz.sizeOf36 rfl rfl rfl rfl ?_)))
  exact .inl ⟨x, l, hxl, rfl, h.to⟩

end Go.Proofs.YtdpakoefdpmebaaGreat
