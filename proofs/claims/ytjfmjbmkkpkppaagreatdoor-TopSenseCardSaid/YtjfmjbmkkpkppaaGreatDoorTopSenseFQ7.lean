/-
  Texts of a proof as one.
-/
import Derived.Test.YtjfmjbmkkpkppaaGreatDoorTopSenseFQ6
import Derived.Test.YtjfmjbmkkpkppaaGreatDoorTopSenseFQ3
import Derived.Test.YtjfmjbmkkpkppaaGreatDoorTopSenseFQ1
import Derived.Test.YtjfmjbmkkpkppaaGreatDoorTopSenseFQ2
import Derived.Test.YtjfmjbmkkpkppaaGreatDoorTopSenseFQ5
import Derived.Test.YtjfmjbmkkpkppaaGreatDoorRows
import Derived.Test.YtjfmjbmkkpkppaaGreatDoorTopSenseFQ4
import Derived.ProofKit
import Derived.OpenShut
import Derived.LaidMore
import Derived.Lay
import Derived.Shelf.Vars
set_option linter.unusedVariables false
set_option linter.unusedSimpArgs false
namespace Go.Proofs.YtjfmjbmkkpkppaaGreatDoor
open Go.Proofs.Tryz
open Go Go.Sl Go.Sl.BitM Go.Sl.SpM Go.Sl.RsM Go.Sl.ByM Go.Sl.UnM Go.Sl.TpM
set_option linter.unusedVariables false
set_option linter.unusedSimpArgs false
set_option maxHeartbeats 1000000
set_option maxRecDepth 8000
variable {W0 w : World} {L F : List HProp}
theorem givesBig {rows : List BX} {k : Nat} {x : BX} (hx : rows[k]? = some x) : Gives [Big OwnBX rows] (Bytes x.v x.b) := fun h H => by
  obtain ⟨h1, s, hb⟩ := H.fact
  have hb : Sat (rows.map OwnBX) h1 := hb
  have hg := Sat.get k (A := OwnBX x) (by rw [List.getElem?_map, hx]; rfl) (Own_mono _ _ _ _) hb
  exact Cells_mono _ _ _ _ _ _ s (Own.cells hg)
theorem fold_snoc {rows : List BX} {k : Nat} {x : BX} {c : Cn} (hx : rows[k]? = some x) : ((rows.map BX.b).take (k + 1)).foldl Cn.inP c = (((rows.map BX.b).take k).foldl Cn.inP c).inP x.b := by
  rw [List.take_add_one, List.getElem?_map, hx, List.foldl_append]; rfl
theorem fold_all {rows : List BX} {c : Cn} : ((rows.map BX.b).take rows.length).foldl Cn.inP c = (rows.map BX.b).foldl Cn.inP c := by
  rw [List.take_of_length_le (by rw [List.length_map]; exact Nat.le_refl _)]
theorem sendN_le (c : Cn) (b : List UInt8) : c.sendN b ≤ b.length := by
  unfold Cn.sendN
  split
  · exact Nat.zero_le _
  · exact Nat.min_le_left _ _
theorem one_set {x : UInt8} {k : Nat} (hk : k < 8) : (bytesV (List.replicate k x ++ List.replicate (8 - k) 0)).set k (.int .u8 (x.toNat : Int)) = bytesV (List.replicate (k + 1) x ++ List.replicate (8 - (k + 1)) 0) := by
  rw [bytes_set, List.set_append_right _ _ (by simp), List.length_replicate, Nat.sub_self, show 8 - k = (8 - (k + 1)) + 1 by omega, List.replicate_succ, List.set_cons_zero, List.replicate_succ', List.append_assoc]; rfl
theorem lparams_ok {name : Str} {burst : Nat} (h : On W0 L w) : Calls Tryz.prog 66 #[.string ⟨name.toArray⟩, .int .i64 (burst : Int)] w (Ret fun v w' => v = .agg (Pm.cells ⟨name, 512, burst, true, true⟩).toArray ∧ On W0 L w') := by
  refine enter func66 rfl ntmps66 rfl (W.sr (WL.e (eff_alloc h zeroValue127 rfl) ?_))
  rintro _ w ⟨b4, rfl, h⟩
  refine WL.nil (W.sr (WL.m (WL.m (WL.v (run_buildS (pl := [(0, 1), (1, 1), (2, 1), (3, 1), (4, 1)]) (out := [.string _, .int .i64 _, .int .i64 _, .bool _, .bool _]) underlying127 zeroValue127 (fun w => by kernel_rfl) rfl (⟨⟨_, _, rfl, rfl, by decide⟩, ⟨⟨_, _, rfl, rfl, by decide⟩, ⟨⟨_, _, rfl, rfl, by decide⟩, ⟨⟨_, _, rfl, rfl, by decide⟩, ⟨⟨_, _, rfl, rfl, by decide⟩, trivial⟩⟩⟩⟩⟩) rfl) (WL.e (eff_storeW (vs := Pm.cells ⟨name, 512, burst, true, true⟩) h sizeOf127 rfl rfl rfl rfl rfl) ?_)))))
  rintro _ w h
  refine WL.nil (W.ret (bodyQ.rcB (vs := Pm.cells ⟨name, 512, burst, true, true⟩) h results66 isAgg127 sizeOf127 rfl rfl rfl ?_))
  exact ⟨rfl, h.to⟩
theorem lacl_ok (h : On W0 L w) : Calls Tryz.prog 68 #[] w (Ret fun v w' => ∃ a, v = .slice a aclL.length aclL.length ∧ On W0 (Own 1 (.slice a aclL.length aclL.length) aclL.length (aclL.map fun t => Value.string ⟨t.toArray⟩) :: L) w') := by
  refine enter func68 rfl ntmps68 rfl (W.sr (WL.a (WL.nil (W.sr ?_))))
  refine WL.e (eff_mkSlice (zl := [.string (ByteArray.mk #[]), .string (ByteArray.mk #[]), .string (ByteArray.mk #[])]) (out := [.string _, .string _, .string _]) h underlying131 sizeOf9 zeroValue9 (by decide) (by kernel_rfl) rfl rfl (by simp) (⟨⟨_, _, rfl, rfl, by decide⟩, ⟨⟨_, _, rfl, rfl, by decide⟩, ⟨⟨_, _, rfl, rfl, by decide⟩, trivial⟩⟩⟩) rfl rfl (by simp [maxLen])) ?_
  rintro _ w ⟨b1, rfl, h⟩
  refine WL.a (WL.nil (W.ret (bodyQ.r1 (v := .slice _ _ _) results68 rfl ?_)))
  exact ⟨_, rfl, h⟩
theorem lone_ok {x : UInt8} (h : On W0 L w) : Calls Tryz.prog 35 #[.int .u8 (x.toNat : Int)] w (Ret fun v w' => ∃ a, v = .slice a (List.replicate 8 x).length (List.replicate 8 x).length ∧ On W0 (OwnB (.slice a (List.replicate 8 x).length (List.replicate 8 x).length) (List.replicate 8 x) :: L) w') := by
  refine enter func35 rfl ntmps35 rfl ?_
  have hmx := maxLen_eq
  refine W.sr (WL.a (WL.nil (W.sr (WL.e (eff_make (n := 8) (bytes := 1) h (rfl) (rfl) underlying26 rfl rfl rfl rfl rfl (by omega) (by omega)) ?_))))
  rintro _ w ⟨b5, rfl, h⟩
  refine WL.a (WL.nil (W.seq (W.sr (WL.a (WL.nil (W.block ?_))))))
  refine W.loop (fun (k : Nat) env w => k ≤ 8 ∧ ∃ (j : Env), env = mkE j [(0, .int .u8 (x.toNat : Int)), (3, .slice (some ⟨b5, 0, none⟩) 8 8), (4, .int .i64 (k : Int))] ∧ On W0 (Own 1 (.slice (some ⟨b5, 0, none⟩) 8 8) 8 (bytesV (List.replicate k x ++ List.replicate (8 - k) 0)) :: L) w) (fun k => 8 - k) (0) ?_ ?_
  · exact ⟨by decide, _, mkE_of ⟨rfl, rfl, rfl, trivial⟩, h⟩
  clear h
  rintro k env w ⟨hk, j, rfl, h⟩
  refine W.seq (W.sr (WL.m (WL.v (run_lss rfl rfl) (WL.nil ?_))))
  refine W.condIf rfl (fun c6 => ?_) (fun c6 => ?_)
  ·
   refine W.skip (W.seq (W.block (W.region (WL.m (WL.m (WL.m (WL.v (run_indexAddr underlying26 sizeOf5 rfl rfl (by omega) (by omega)) ?_)))))))
   refine WL.e (eff_storeOwn (k := k * 1) (v := .int .u8 (x.toNat : Int)) h sizeOf5 rfl rfl rfl (by omega)) ?_
   rintro _ w h
   rw [Nat.mul_one] at h
   refine WL.nil (W.region (WL.m (WL.v (run_incN rfl rfl (by omega)) (WL.a (WL.nil ?_)))))
   have h : On W0 (Own 1 (.slice (some ⟨b5, 0, none⟩) 8 8) 8 ((bytesV (List.replicate k x ++ List.replicate (8 - k) 0)).set k (.int .u8 (x.toNat : Int))) :: L) w := h
   rw [one_set (by omega)] at h
   exact ⟨k + 1, ⟨by omega, _, mkE_of ⟨rfl, rfl, rfl, trivial⟩, h⟩, by show 8 - (k + 1) < 8 - k; omega⟩
  refine W.exit (W.sr (WL.m (WL.a (WL.nil (W.ret (bodyQ.r1 (v := .slice _ _ _) results35 rfl ?_))))))
  have ek : k = 8 := by omega
  subst ek
  exact ⟨_, rfl, h⟩
theorem ldesk_ok (h : On W0 L w) : Calls Tryz.prog 32 #[.int .i64 8] w (Ret fun v w' => ∃ bd, v = .pointer (some ⟨bd, 0, none⟩) ∧ On W0 (DeskP 123 108 151 154 bd (newU 8) :: L) w') := by
  refine enter func32 rfl ntmps32 rfl (W.sr (WL.a (WL.nil (W.sr (WL.m ?_)))))
  refine WL.e (eff_call call17 (unew_ok (n := 8) (pool := []) h)) ?_
  rintro _ w hv
  rcases hv with ⟨N, hN, h1, h2, bu, ms, rfl, h⟩ | ⟨hn, _⟩
  rotate_left
  · exact (hn (by decide)).elim
  have ob_ : N = 8 := by omega
  obtain rfl := ob_
  refine WL.m (WL.v (run_extract rfl rfl) (WL.v (run_extract rfl rfl) (WL.a (WL.a (WL.nil (W.seq (W.seq ?_)))))))
  refine W.region (WL.m (WL.v (run_neqF rfl rfl (by decide)) (WL.m (WL.m (WL.v (run_eqlPtrNil underlying51 rfl rfl) (WL.v (run_pickF rfl) (WL.nil ?_)))))))
  refine W.condF rfl (W.skip (W.sr (WL.m (WL.v (run_buildS (pl := [(0, 1)]) (out := [.pointer _]) underlying123 zeroValue123 (fun w => by kernel_rfl) rfl (⟨⟨_, _, rfl, rfl, by decide⟩, trivial⟩) rfl) (WL.e (eff_box (v := .agg _) (l := [.pointer _]) h rfl rfl) ?_)))))
  rintro _ w ⟨b18, rfl, h⟩
  refine WL.a (WL.nil (W.ret (bodyQ.r1 (v := .pointer _) results32 rfl ?_)))
  exact ⟨_, rfl, closeDk (goodU_new 8) h⟩
theorem lnew_ok {bd burst : Nat} {name : Str} {u : Un} (hn : name.length ≤ 1000) (hb : burst ≤ 1000000) (h : On W0 (DeskP 123 108 151 154 bd u :: L) w) : Calls Tryz.prog 33 #[.pointer (some ⟨bd, 0, none⟩), .string ⟨name.toArray⟩, .int .i64 (burst : Int), .int .i64 0] w (Ret fun v w' => ∃ bl, v = .pointer (some ⟨bl, 0, none⟩) ∧ On W0 (LnP ⟨135, 179, 117, 183, 115, 123, 108, 151, 154⟩ 69 bl ⟨newCl ⟨name, 512, burst, true, true⟩, newSe, newC 1 true, newC 2 false, [], [], u⟩ :: L) w') := by
  refine enter func33 rfl ntmps33 rfl (W.sr (WL.a (WL.nil (W.sr (WL.m ?_)))))
  refine WL.m (WL.e (eff_call call66 (lparams_ok h)) ?_)
  rintro _ w ⟨rfl, h⟩
  refine WL.e (eff_call call65 (cnewc_ok ⟨hn, (show (512 : Nat) ≤ 1000000 by decide), hb⟩ h)) ?_
  rintro _ w ⟨bc, rfl, h⟩
  refine WL.e (eff_call call68 (lacl_ok h)) ?_
  rintro _ w ⟨aa, rfl, h⟩
  refine WL.m (WL.v run_makeFunc (WL.e (eff_call call67 (senew_ok (fd := .func 69) (fa := #[.pointer (some ⟨bd, 0, none⟩)]) (fc := #[]) (acl := aclL) (by decide) h (Gives.ownO (v := .slice aa aclL.length aclL.length)))) ?_))
  rintro _ w ⟨bs, rfl, h⟩
  refine WL.e (eff_call call21 (cnew_ok (own := 1) (by decide) h)) ?_
  rintro _ w ⟨ba, rfl, h⟩
  refine WL.e (eff_call call21 (cnew_ok (own := 2) (by decide) h)) ?_
  rintro _ w ⟨bb, rfl, h⟩
  refine WL.m ?_
  refine WL.v (run_buildS (pl := [(0, 1), (1, 1), (2, 1), (3, 1), (4, 1), (5, 1), (6, 1), (7, 1)]) (out := [.pointer _, .pointer _, .pointer _, .pointer _, .int .i64 _, .int .i64 _, .slice _ _ _, .slice _ _ _]) underlying135 zeroValue135 (fun w => by kernel_rfl) rfl (⟨⟨_, _, rfl, rfl, by decide⟩, ⟨⟨_, _, rfl, rfl, by decide⟩, ⟨⟨_, _, rfl, rfl, by decide⟩, ⟨⟨_, _, rfl, rfl, by decide⟩, ⟨⟨_, _, rfl, rfl, by decide⟩, trivial⟩⟩⟩⟩⟩) rfl) ?_
  refine WL.e (eff_box (v := .agg _) (l := [.pointer _, .pointer _, .pointer _, .pointer _, .int .i64 _, .int .i64 _, .slice _ _ _, .slice _ _ _]) h rfl rfl) ?_
  rintro _ w ⟨b21, rfl, h⟩
  refine WL.a (WL.nil (W.ret (bodyQ.r1 (v := .pointer _) results33 rfl ?_)))
  have h : On W0 (blk b21 [.pointer (some ⟨bc, 0, none⟩), .pointer (some ⟨bs, 0, none⟩), .pointer (some ⟨ba, 0, none⟩), .pointer (some ⟨bb, 0, none⟩), .int .i64 0, .int .i64 0, .slice none 0 0, .slice none 0 0] 135 :: _) w := h
  have h := h.ownEmpty 1 none
  have h : On W0 (OwnB (.slice none ([] : List UInt8).length 0) [] :: _) w := h
  have h := h.ownEmpty 1 none
  have h : On W0 (OwnB (.slice none ([] : List UInt8).length 0) [] :: _) w := h
  refine ⟨b21, rfl, closeLn (l := ⟨newCl ⟨name, 512, burst, true, true⟩, newSe, newC 1 true, newC 2 false, [], [], u⟩) ⟨bc, bs, ba, bb, none, 0, none, 0, bd, 0⟩ (Nat.zero_le _) (Nat.zero_le _) ?_⟩
  exact h.to (T := blk b21 [.pointer (some ⟨bc, 0, none⟩), .pointer (some ⟨bs, 0, none⟩), .pointer (some ⟨ba, 0, none⟩), .pointer (some ⟨bb, 0, none⟩), .int .i64 0, .int .i64 0, .slice none 0 0, .slice none 0 0] 135 :: ClP 179 117 bc (newCl ⟨name, 512, burst, true, true⟩) :: SeP 183 117 0 bs aclL (.func (.func 69) #[.pointer (some ⟨bd, 0, none⟩)] #[]) newSe :: ConnP 115 ba (newC 1 true) :: ConnP 115 bb (newC 2 false) :: OwnB (.slice none ([] : List UInt8).length 0) [] :: OwnB (.slice none ([] : List UInt8).length 0) [] :: DeskP 123 108 151 154 bd u :: L)
theorem llost_ok {bl : Nat} {z : Int} {p0 p1 p2 p3 p6 p7 : Value} (h : On W0 (blk bl [p0, p1, p2, p3, .int .i64 0, .int .i64 z, p6, p7] 135 :: L) w) : Calls Tryz.prog 104 #[.pointer (some ⟨bl, 0, none⟩)] w (Ret fun v w' => ∃ z', v = .bool false ∧ On W0 (blk bl [p0, p1, p2, p3, .int .i64 0, .int .i64 z', p6, p7] 135 :: L) w') := by
  refine enter func104 rfl ntmps104 rfl (W.sr (WL.a (WL.nil (W.sr (WL.m ?_)))))
  refine WL.n rfl (WL.f 5 underlying135 rfl sizeOf3 rfl rfl (WL.l isAgg3 rfl (h.cellB rfl) (WL.v (run_addW rfl rfl) (WL.n rfl (WL.f 5 underlying135 rfl sizeOf3 rfl rfl (WL.e (eff_store (v := .int .i64 _) h sizeOf3 rfl rfl rfl rfl rfl) ?_))))))
  rintro _ w h
  try simp only [Nat.zero_add, Nat.add_zero, List.set_cons_zero, List.set_cons_succ] at h
  refine WL.nil (W.seq ?_)
  refine W.draw Tryz.follows h (fun w h => ?_)
  refine WT.m 0 rfl (WT.n 1 rfl rfl (WT.f 2 4 rfl underlying135 rfl sizeOf3 rfl rfl (WT.l 3 rfl isAgg3 rfl (h.cellB rfl) (WT.p 4 rfl (fun w' => run_gtrF rfl rfl (by decide)) (WT.m 5 rfl (WT.skip 6 rfl (by kernel_rfl) rfl rfl (WT.skip 7 rfl (by kernel_rfl) rfl rfl ?_)))))))
  refine WT.skip 8 rfl (by kernel_rfl) rfl rfl (WT.skip 9 rfl (by kernel_rfl) rfl rfl (WT.skip 10 rfl (by kernel_rfl) rfl rfl (WT.skip 11 rfl (by kernel_rfl) rfl rfl (WT.skip 12 rfl (by kernel_rfl) rfl rfl (WT.skip 13 rfl (by kernel_rfl) rfl rfl (WT.skip 14 rfl (by kernel_rfl) rfl rfl (WT.skip 15 rfl (by kernel_rfl) rfl rfl ?_)))))))
  refine WT.p 16 rfl (fun w' => (run_pickF rfl)) (WT.a 17 rfl (WT.dn (W.ret (bodyQ.r1 (v := .bool _) results104 rfl ?_))))
  exact ⟨_, rfl, h⟩
end Go.Proofs.YtjfmjbmkkpkppaaGreatDoor
namespace Go.Proofs.YtjfmjbmkkpkppaaGreatDoor
open Go.Proofs.Tryz
open Go Go.Sl Go.Sl.BitM Go.Sl.SpM Go.Sl.RsM Go.Sl.ByM Go.Sl.UnM Go.Sl.TpM
set_option linter.unusedVariables false
set_option linter.unusedSimpArgs false
set_option maxHeartbeats 1000000
set_option maxRecDepth 8000
variable {W0 w : World} {L F : List HProp}
theorem lround_ok {m : Int} (G : Gives L (GlP m)) {bl : Nat} {l l' : Ln} (hm : l.round = some l') (h : On W0 (LnP ⟨135, 179, 117, 183, 115, 123, 108, 151, 154⟩ 69 bl l :: L) w) : Calls Tryz.prog 71 #[.pointer (some ⟨bl, 0, none⟩)] w (Ret fun v w' => On W0 (LnP ⟨135, 179, 117, 183, 115, 123, 108, 151, 154⟩ 69 bl l' :: L) w') := by
  refine enter func71 rfl ntmps71 rfl ?_
  have hmx := maxLen_eq
  have hrs := round_some hm
  obtain ⟨o, c1, c2, q, hco, hsi, hci, hl', hWl, hVl⟩ := hrs
  obtain ⟨o2, s2, u2⟩ := q
  dsimp only at hl' hVl
  clear hm
  have ob_ : ∃ Wv, Wv = l.w ++ o := ⟨_, rfl⟩
  obtain ⟨Wv, hW⟩ := ob_
  rw [← hW] at hsi hci hl' hWl
  have ho_ := openLn h
  obtain ⟨x, hw0, hv0, h⟩ := ho_
  have h : On W0 (blk bl [.pointer (some ⟨x.bc, 0, none⟩), .pointer (some ⟨x.bs, 0, none⟩), .pointer (some ⟨x.ba, 0, none⟩), .pointer (some ⟨x.bb, 0, none⟩), .int .i64 0, .int .i64 x.n, .slice x.aw (l.w.length) x.cw, .slice x.av (l.v.length) x.cv] 135 :: ClP 179 117 x.bc l.c :: SeP 183 117 0 x.bs aclL (.func (.func 69) #[.pointer (some ⟨x.bd, 0, none⟩)] #[]) l.s :: ConnP 115 x.ba l.a :: ConnP 115 x.bb l.b :: _) w := h
  have hVl2 := hVl
  rw [List.length_append] at hVl2
  have hol : o.length ≤ 100000 := by rw [hW, List.length_append] at hWl; omega
  refine W.seq ?_
  refine W.draw Tryz.follows h (fun w h => ?_)
  refine WT.m 0 rfl (WT.m 1 rfl (WT.n 2 rfl rfl (WT.f 3 6 rfl underlying135 rfl sizeOf26 rfl rfl (WT.l 4 rfl isAgg26 rfl (h.cellB rfl) (WT.m 5 rfl (WT.n 6 rfl rfl (WT.f 7 0 rfl underlying135 rfl sizeOf124 rfl rfl ?_)))))))
  refine WT.l 8 rfl isAgg124 rfl (h.cellB rfl) (WT.e 9 [false, true] rfl (eff_call call103 (clout_ok (Gives.to G) hco (h.fetch (ClP 179 117 x.bc l.c)))) ?_)
  rintro _ w ⟨ao, rfl, h⟩
  refine ⟨⟨h.cellB rfl, trivial⟩, ?_⟩
  refine WT.e 10 [false] rfl (eff_app (c2 := o.length) (bytes := 1) (h.own (.slice x.aw l.w.length x.cw)) rfl rfl (h.cellsO (v := .slice ao o.length o.length)) underlying26 rfl rfl rfl rfl rfl (by omega) (by omega) bytes_one) ?_
  rintro _ w ⟨a16, c16, hv16, h⟩
  have el : l.w.length + o.length = Wv.length := by rw [hW, List.length_append]
  have ev : bytesV l.w ++ bytesV o = bytesV Wv := by rw [hW]; simp [bytesV]
  rw [ev, el] at h
  rw [el] at hv16
  subst hv16
  refine ⟨trivial, ?_⟩
  refine WT.n 11 rfl rfl (WT.f 12 6 rfl underlying135 rfl sizeOf26 rfl rfl (WT.e 13 [] rfl (eff_store (v := .slice a16 Wv.length c16) h sizeOf26 rfl rfl rfl rfl rfl) ?_))
  rintro _ w h
  try simp only [Nat.zero_add, Nat.add_zero, List.set_cons_zero, List.set_cons_succ] at h
  refine ⟨trivial, ?_⟩
  refine WT.dn (W.seq ?_)
  refine W.draw Tryz.follows h (fun w h => ?_)
  refine WT.m 0 rfl (WT.m 1 rfl (WT.n 2 rfl rfl (WT.f 3 6 rfl underlying135 rfl sizeOf26 rfl rfl (WT.l 4 rfl isAgg26 rfl (h.cellB rfl) (WT.m 5 rfl (WT.n 6 rfl rfl (WT.f 7 2 rfl underlying135 rfl sizeOf59 rfl rfl ?_)))))))
  refine WT.l 8 rfl isAgg59 rfl (h.cellB rfl) (WT.m 9 rfl (WT.n 10 rfl rfl (WT.f 11 6 rfl underlying135 rfl sizeOf26 rfl rfl (WT.l 12 rfl isAgg26 rfl (h.cellB rfl) (WT.e 13 [false, false, true] rfl (eff_call call23 (csend_ok (bs := Wv) (c := l.a) (by omega) (h.fetch (ConnP 115 x.ba l.a)) (Gives.ownO (v := .slice a16 Wv.length c16)))) ?_)))))
  rintro _ w ⟨rfl, h⟩
  have hot := ownTail (l := (l.a.sendN Wv)) (h.own (.slice a16 Wv.length c16)) (sendN_le _ _)
  obtain ⟨hWc, aw2, cw2, hcut, h⟩ := hot
  refine ⟨⟨h.cellB rfl, trivial⟩, ?_⟩
  refine WT.p 14 rfl (fun w' => (run_cutLV (n := Wv.length) (l := (l.a.sendN Wv)) underlying26 sizeOf5 rfl rfl (sendN_le _ _) hcut)) (WT.n 15 rfl rfl (WT.f 16 6 rfl underlying135 rfl sizeOf26 rfl rfl (WT.e 17 [false] rfl (eff_store (v := .slice aw2 (Wv.drop (l.a.sendN Wv)).length cw2) h sizeOf26 rfl rfl rfl rfl rfl) ?_)))
  rintro _ w h
  try simp only [Nat.zero_add, Nat.add_zero, List.set_cons_zero, List.set_cons_succ] at h
  refine ⟨trivial, ?_⟩
  refine WT.dn (W.seq ?_)
  refine W.draw Tryz.follows h (fun w h => ?_)
  refine WT.m 0 rfl (WT.m 1 rfl (WT.n 2 rfl rfl (WT.f 3 7 rfl underlying135 rfl sizeOf26 rfl rfl (WT.l 4 rfl isAgg26 rfl (h.cellB rfl) (WT.m 5 rfl (WT.n 6 rfl rfl (WT.f 7 3 rfl underlying135 rfl sizeOf59 rfl rfl ?_)))))))
  refine WT.l 8 rfl isAgg59 rfl (h.cellB rfl) (WT.m 9 rfl (WT.n 10 rfl rfl (WT.f 11 7 rfl underlying135 rfl sizeOf26 rfl rfl (WT.l 12 rfl isAgg26 rfl (h.cellB rfl) (WT.e 13 [false, false, true] rfl (eff_call call23 (csend_ok (bs := l.v) (c := l.b) (by omega) (h.fetch (ConnP 115 x.bb l.b)) (Gives.ownO (v := .slice x.av l.v.length x.cv)))) ?_)))))
  rintro _ w ⟨rfl, h⟩
  have hot := ownTail (l := (l.b.sendN l.v)) (h.own (.slice x.av l.v.length x.cv)) (sendN_le _ _)
  obtain ⟨hVc, av2, cv2, hcut2, h⟩ := hot
  refine ⟨⟨h.cellB rfl, trivial⟩, ?_⟩
  refine WT.p 14 rfl (fun w' => (run_cutLV (n := l.v.length) (l := (l.b.sendN l.v)) underlying26 sizeOf5 rfl rfl (sendN_le _ _) hcut2)) (WT.n 15 rfl rfl (WT.f 16 7 rfl underlying135 rfl sizeOf26 rfl rfl (WT.e 17 [false] rfl (eff_store (v := .slice av2 (l.v.drop (l.b.sendN l.v)).length cv2) h sizeOf26 rfl rfl rfl rfl rfl) ?_)))
  rintro _ w h
  try simp only [Nat.zero_add, Nat.add_zero, List.set_cons_zero, List.set_cons_succ] at h
  refine ⟨trivial, ?_⟩
  refine WT.dn (W.sr (WL.m (WL.n rfl (WL.f 2 underlying135 rfl sizeOf59 rfl rfl (WL.l isAgg59 rfl (h.cellB rfl) (WL.e (eff_call call24 (ctick_ok (h.fetch (ConnP 115 x.ba (l.a.send Wv))))) ?_))))))
  rintro _ w h
  refine WL.nil (W.sr (WL.m (WL.n rfl (WL.f 3 underlying135 rfl sizeOf59 rfl rfl (WL.l isAgg59 rfl (h.cellB rfl) (WL.e (eff_call call24 (ctick_ok (h.fetch (ConnP 115 x.bb (l.b.send l.v))))) ?_))))))
  rintro _ w h
  refine WL.nil (W.sr (WL.m (WL.n rfl (WL.f 2 underlying135 rfl sizeOf59 rfl rfl (WL.l isAgg59 rfl (h.cellB rfl) (WL.e (eff_call call25 (cout_ok (h.fetch (ConnP 115 x.ba ((l.a.send Wv).tick))))) ?_))))))
  rintro _ w ⟨rows, al, hrows, rfl, h⟩
  refine WL.a (WL.nil (W.sr (WL.m (WL.n rfl (WL.f 3 underlying135 rfl sizeOf59 rfl rfl (WL.l isAgg59 rfl (h.cellB rfl) ?_))))))
  refine WL.e (eff_call call25 (cout_ok (h.fetch (ConnP 115 x.bb ((l.b.send l.v).tick))))) ?_
  rintro _ w ⟨rows2, al2, hrows2, rfl, h⟩
  refine WL.a (WL.nil (W.seq (W.seq ?_)))
  have hr1 := (Own.bounds (h.own (.slice al rows.length rows.length))).2
  have hr2 := (Own.bounds (h.own (.slice al2 rows2.length rows2.length))).2
  have hsm1 : ∀ {k : Nat} {y : BX}, rows[k]? = some y → y.b.length ≤ 2000 := fun {k y} hx => outL_small ((l.a.send Wv).tick) y.b (by rw [← hrows]; exact List.mem_map_of_mem (List.mem_of_getElem? hx))
  have hsm2 : ∀ {k : Nat} {y : BX}, rows2[k]? = some y → y.b.length ≤ 2000 := fun {k y} hx => outL_small ((l.b.send l.v).tick) y.b (by rw [← hrows2]; exact List.mem_map_of_mem (List.mem_of_getElem? hx))
  rw [← hrows] at hsi
  rw [← hrows2] at hci
  rw [← hrows, ← hrows2] at hl'
  refine W.region (WL.a (WL.nil (W.block ?_)))
  refine W.loop (fun (k : Nat) env w => k ≤ rows.length ∧ ∃ (j : Env) (z : Int), env = mkE j [(0, .pointer (some ⟨bl, 0, none⟩)), (2, .slice al rows.length rows.length), (3, .slice al2 rows2.length rows2.length), (4, .int .i64 (k : Int))] ∧ On W0 (blk bl [.pointer (some ⟨x.bc, 0, none⟩), .pointer (some ⟨x.bs, 0, none⟩), .pointer (some ⟨x.ba, 0, none⟩), .pointer (some ⟨x.bb, 0, none⟩), .int .i64 0, .int .i64 z, .slice aw2 ((Wv.drop (l.a.sendN Wv)).length) cw2, .slice av2 ((l.v.drop (l.b.sendN l.v)).length) cv2] 135 :: ClP 179 117 x.bc c1 :: SeP 183 117 0 x.bs aclL (.func (.func 69) #[.pointer (some ⟨x.bd, 0, none⟩)] #[]) l.s :: ConnP 115 x.ba ((l.a.send Wv).tick).outC :: ConnP 115 x.bb (((rows.map BX.b).take k).foldl Cn.inP ((l.b.send l.v).tick).outC) :: OwnB (.slice aw2 ((Wv.drop (l.a.sendN Wv))).length cw2) ((Wv.drop (l.a.sendN Wv))) :: OwnB (.slice av2 ((l.v.drop (l.b.sendN l.v))).length cv2) ((l.v.drop (l.b.sendN l.v))) :: DeskP 123 108 151 154 x.bd l.u :: Own 1 (.slice al rows.length rows.length) rows.length (rows.map BX.v) :: Big OwnBX rows :: Own 1 (.slice al2 rows2.length rows2.length) rows2.length (rows2.map BX.v) :: Big OwnBX rows2 :: L) w) (fun k => rows.length - k) (0) ?_ ?_
  · have h := h.fetch (ConnP 115 x.bb ((l.b.send l.v).tick).outC)
    have h : On W0 (ConnP 115 x.bb (((rows.map BX.b).take 0).foldl Cn.inP ((l.b.send l.v).tick).outC) :: _) w := h
    exact ⟨Nat.zero_le _, _, x.n, mkE_of ⟨rfl, rfl, rfl, rfl, trivial⟩, h.to⟩
  clear h
  rintro k env w ⟨hk, j, z, rfl, h⟩
  refine W.seq (W.sr (WL.m (WL.m (WL.v (run_lenSlice underlying64 rfl) (WL.v (run_lss rfl rfl) (WL.nil ?_))))))
  refine W.condIf rfl (fun c11 => ?_) (fun c11 => ?_)
  ·
   refine W.skip (W.seq (W.block (W.sr (WL.m (WL.e (eff_call call104 (llost_ok (h.fetch (blk bl [.pointer (some ⟨x.bc, 0, none⟩), .pointer (some ⟨x.bs, 0, none⟩), .pointer (some ⟨x.ba, 0, none⟩), .pointer (some ⟨x.bb, 0, none⟩), .int .i64 0, .int .i64 z, .slice aw2 ((Wv.drop (l.a.sendN Wv)).length) cw2, .slice av2 ((l.v.drop (l.b.sendN l.v)).length) cv2] 135)))) ?_)))))
   rintro _ w ⟨z2, rfl, h⟩
   refine WL.v (run_not rfl) (WL.nil (W.condT rfl ?_))
   have ob_ : ∃ y, rows[k]? = some y := ⟨rows[k]'(by omega), List.getElem?_eq_getElem _⟩
   obtain ⟨y, hx⟩ := ob_
   have hys : y.b.length ≤ 2000 := hsm1 hx
   have had_ := (h.cellsO (v := .slice al rows.length rows.length)).addr (by omega)
   obtain ⟨bal, oal, hal⟩ := had_
   refine W.draw Tryz.follows h (fun w h => ?_)
   refine WT.m 0 rfl (WT.n 1 rfl rfl (WT.f 2 3 rfl underlying135 rfl sizeOf59 rfl rfl (WT.l 3 rfl isAgg59 rfl (h.cellB rfl) (WT.m 4 rfl (WT.m 5 rfl (WT.p 6 rfl (fun w' => (run_indexAddr underlying64 sizeOf26 (congrArg (fun q => Value.slice q rows.length rows.length) hal) rfl (by omega) (by omega))) (WT.l 7 rfl isAgg26 rfl ((by rw [hal] at h; exact (h.cellsO (v := .slice (some ⟨bal, oal, none⟩) rows.length rows.length)).elem (i := k) (vs := [.slice y.1 y.2.2.length y.2.1]) (by omega) (row_v hx) 0 _ rfl)) ?_)))))))
   refine WT.e 8 [false, false] rfl (eff_call call26 (cin_ok (bs := y.b) (by omega) (h.fetch (ConnP 115 x.bb (((rows.map BX.b).take k).foldl Cn.inP ((l.b.send l.v).tick).outC))) (Gives.to (givesBig hx)))) ?_
   rintro _ w h
   refine ⟨trivial, ?_⟩
   refine WT.dn (W.region (WL.m (WL.v (run_incN rfl rfl (by omega)) (WL.a (WL.nil ?_)))))
   rw [← fold_snoc hx] at h
   exact ⟨k + 1, ⟨by omega, _, z2, mkE_of ⟨rfl, rfl, rfl, rfl, trivial⟩, h.to⟩, by show rows.length - (k + 1) < rows.length - k; omega⟩
  refine W.exit (W.seq (W.sr (WL.a (WL.nil (W.block ?_)))))
  refine W.loop (fun (k : Nat) env w => k ≤ rows2.length ∧ ∃ (j : Env) (z : Int), env = mkE j [(0, .pointer (some ⟨bl, 0, none⟩)), (2, .slice al rows.length rows.length), (3, .slice al2 rows2.length rows2.length), (5, .int .i64 (k : Int))] ∧ On W0 (blk bl [.pointer (some ⟨x.bc, 0, none⟩), .pointer (some ⟨x.bs, 0, none⟩), .pointer (some ⟨x.ba, 0, none⟩), .pointer (some ⟨x.bb, 0, none⟩), .int .i64 0, .int .i64 z, .slice aw2 ((Wv.drop (l.a.sendN Wv)).length) cw2, .slice av2 ((l.v.drop (l.b.sendN l.v)).length) cv2] 135 :: ClP 179 117 x.bc c1 :: SeP 183 117 0 x.bs aclL (.func (.func 69) #[.pointer (some ⟨x.bd, 0, none⟩)] #[]) l.s :: ConnP 115 x.ba (((rows2.map BX.b).take k).foldl Cn.inP ((l.a.send Wv).tick).outC) :: ConnP 115 x.bb (((rows.map BX.b).take rows.length).foldl Cn.inP ((l.b.send l.v).tick).outC) :: OwnB (.slice aw2 ((Wv.drop (l.a.sendN Wv))).length cw2) ((Wv.drop (l.a.sendN Wv))) :: OwnB (.slice av2 ((l.v.drop (l.b.sendN l.v))).length cv2) ((l.v.drop (l.b.sendN l.v))) :: DeskP 123 108 151 154 x.bd l.u :: Own 1 (.slice al rows.length rows.length) rows.length (rows.map BX.v) :: Big OwnBX rows :: Own 1 (.slice al2 rows2.length rows2.length) rows2.length (rows2.map BX.v) :: Big OwnBX rows2 :: L) w) (fun k => rows2.length - k) (0) ?_ ?_
  · have ek : k = rows.length := by omega
    subst ek
    have h := h.fetch (ConnP 115 x.ba ((l.a.send Wv).tick).outC)
    have h : On W0 (ConnP 115 x.ba (((rows2.map BX.b).take 0).foldl Cn.inP ((l.a.send Wv).tick).outC) :: _) w := h
    exact ⟨Nat.zero_le _, _, z, mkE_of ⟨rfl, rfl, rfl, rfl, trivial⟩, h.to⟩
  clear h
  rintro k env w ⟨hk, j, z, rfl, h⟩
  refine W.seq (W.sr (WL.m (WL.m (WL.v (run_lenSlice underlying64 rfl) (WL.v (run_lss rfl rfl) (WL.nil ?_))))))
  refine W.condIf rfl (fun c24 => ?_) (fun c24 => ?_)
  ·
   refine W.skip (W.seq (W.block (W.sr (WL.m (WL.e (eff_call call104 (llost_ok (h.fetch (blk bl [.pointer (some ⟨x.bc, 0, none⟩), .pointer (some ⟨x.bs, 0, none⟩), .pointer (some ⟨x.ba, 0, none⟩), .pointer (some ⟨x.bb, 0, none⟩), .int .i64 0, .int .i64 z, .slice aw2 ((Wv.drop (l.a.sendN Wv)).length) cw2, .slice av2 ((l.v.drop (l.b.sendN l.v)).length) cv2] 135)))) ?_)))))
   rintro _ w ⟨z2, rfl, h⟩
   refine WL.v (run_not rfl) (WL.nil (W.condT rfl ?_))
   have ob_ : ∃ y, rows2[k]? = some y := ⟨rows2[k]'(by omega), List.getElem?_eq_getElem _⟩
   obtain ⟨y, hx⟩ := ob_
   have hys : y.b.length ≤ 2000 := hsm2 hx
   have had_ := (h.cellsO (v := .slice al2 rows2.length rows2.length)).addr (by omega)
   obtain ⟨bal, oal, hal⟩ := had_
   refine W.draw Tryz.follows h (fun w h => ?_)
   refine WT.m 0 rfl (WT.n 1 rfl rfl (WT.f 2 2 rfl underlying135 rfl sizeOf59 rfl rfl (WT.l 3 rfl isAgg59 rfl (h.cellB rfl) (WT.m 4 rfl (WT.m 5 rfl (WT.p 6 rfl (fun w' => (run_indexAddr underlying64 sizeOf26 (congrArg (fun q => Value.slice q rows2.length rows2.length) hal) rfl (by omega) (by omega))) (WT.l 7 rfl isAgg26 rfl ((by rw [hal] at h; exact (h.cellsO (v := .slice (some ⟨bal, oal, none⟩) rows2.length rows2.length)).elem (i := k) (vs := [.slice y.1 y.2.2.length y.2.1]) (by omega) (row_v hx) 0 _ rfl)) ?_)))))))
   refine WT.e 8 [false, false] rfl (eff_call call26 (cin_ok (bs := y.b) (by omega) (h.fetch (ConnP 115 x.ba (((rows2.map BX.b).take k).foldl Cn.inP ((l.a.send Wv).tick).outC))) (Gives.to (givesBig hx)))) ?_
   rintro _ w h
   refine ⟨trivial, ?_⟩
   refine WT.dn (W.region (WL.m (WL.v (run_incN rfl rfl (by omega)) (WL.a (WL.nil ?_)))))
   rw [← fold_snoc hx] at h
   exact ⟨k + 1, ⟨by omega, _, z2, mkE_of ⟨rfl, rfl, rfl, rfl, trivial⟩, h.to⟩, by show rows2.length - (k + 1) < rows2.length - k; omega⟩
  refine W.exit (W.seq ?_)
  have ek : k = rows2.length := by omega
  subst ek
  rw [fold_all, fold_all] at h
  have ob_ : ∃ AF, AF = (rows2.map BX.b).foldl Cn.inP ((l.a.send Wv).tick).outC := ⟨_, rfl⟩
  obtain ⟨AF, hAF⟩ := ob_
  have ob_ : ∃ BF, BF = (rows.map BX.b).foldl Cn.inP ((l.b.send l.v).tick).outC := ⟨_, rfl⟩
  obtain ⟨BF, hBF⟩ := ob_
  rw [← hAF, ← hBF] at h
  rw [← hBF] at hsi
  rw [← hAF] at hci
  rw [← hAF, ← hBF] at hl'
  refine W.draw Tryz.follows h (fun w h => ?_)
  refine WT.m 0 rfl (WT.m 1 rfl (WT.n 2 rfl rfl (WT.f 3 7 rfl underlying135 rfl sizeOf26 rfl rfl (WT.l 4 rfl isAgg26 rfl (h.cellB rfl) (WT.m 5 rfl (WT.n 6 rfl rfl (WT.f 7 1 rfl underlying135 rfl sizeOf129 rfl rfl ?_)))))))
  refine WT.l 8 rfl isAgg129 rfl (h.cellB rfl) (WT.m 9 rfl (WT.n 10 rfl rfl (WT.f 11 3 rfl underlying135 rfl sizeOf59 rfl rfl (WT.l 12 rfl isAgg59 rfl (h.cellB rfl) (WT.e 13 [false, true, true] rfl (eff_call call28 (crecv_ok (c := BF) (h.fetch (ConnP 115 x.bb BF)))) ?_)))))
  rintro _ w ⟨a122, rfl, h⟩
  refine ⟨⟨h.cellB rfl, h.cellB rfl, trivial⟩, ?_⟩
  refine WT.e 14 [false, true] rfl (eff_call call105 (sein_ok (K := 0) (bd := x.bd) (bs_ := BF.inb) (Gives.to G) (by decide) (by decide) hsi ((h.fetch (DeskP 123 108 151 154 x.bd l.u)).fetch (SeP 183 117 0 x.bs aclL (.func (.func 69) #[.pointer (some ⟨x.bd, 0, none⟩)] #[]) l.s)) (Gives.ownO (v := .slice a122 BF.inb.length BF.inb.length)))) ?_
  rintro _ w ⟨a123, rfl, h⟩
  refine ⟨⟨h.cellB rfl, trivial⟩, ?_⟩
  refine WT.e 15 [false] rfl (eff_app (c2 := o2.length) (bytes := 1) (h.own (.slice av2 (l.v.drop (l.b.sendN l.v)).length cv2)) rfl rfl (h.cellsO (v := .slice a123 o2.length o2.length)) underlying26 rfl rfl rfl rfl rfl (by omega) (by omega) bytes_one) ?_
  rintro _ w ⟨a124, c124, hv124, h⟩
  have el : (l.v.drop (l.b.sendN l.v)).length + o2.length = ((l.v.drop (l.b.sendN l.v)) ++ o2).length := List.length_append.symm
  have ev : bytesV (l.v.drop (l.b.sendN l.v)) ++ bytesV o2 = bytesV ((l.v.drop (l.b.sendN l.v)) ++ o2) := by simp [bytesV]
  rw [ev, el] at h
  rw [el] at hv124
  subst hv124
  refine ⟨trivial, ?_⟩
  refine WT.n 16 rfl rfl (WT.f 17 7 rfl underlying135 rfl sizeOf26 rfl rfl (WT.e 18 [] rfl (eff_store (v := .slice a124 ((l.v.drop (l.b.sendN l.v)) ++ o2).length c124) h sizeOf26 rfl rfl rfl rfl rfl) ?_))
  rintro _ w h
  try simp only [Nat.zero_add, Nat.add_zero, List.set_cons_zero, List.set_cons_succ] at h
  refine ⟨trivial, ?_⟩
  refine WT.dn ?_
  refine W.draw Tryz.follows h (fun w h => ?_)
  refine WT.m 0 rfl (WT.n 1 rfl rfl (WT.f 2 0 rfl underlying135 rfl sizeOf124 rfl rfl (WT.l 3 rfl isAgg124 rfl (h.cellB rfl) (WT.m 4 rfl (WT.n 5 rfl rfl (WT.f 6 2 rfl underlying135 rfl sizeOf59 rfl rfl (WT.l 7 rfl isAgg59 rfl (h.cellB rfl) ?_)))))))
  refine WT.e 8 [false, true] rfl (eff_call call28 (crecv_ok (c := AF) (h.fetch (ConnP 115 x.ba AF)))) ?_
  rintro _ w ⟨a135, rfl, h⟩
  refine ⟨⟨h.cellB rfl, trivial⟩, ?_⟩
  refine WT.e 9 [false] rfl (eff_call call106 (clin_ok (bs := AF.inb) (Gives.to G) hci (h.fetch (ClP 179 117 x.bc c1)) (Gives.ownO (v := .slice a135 AF.inb.length AF.inb.length)))) ?_
  rintro _ w h
  refine ⟨trivial, ?_⟩
  refine WT.dn (bodyQ.fall (bodyQ.r0 results71 ?_))
  subst hl'
  have hWl2 : (Wv.drop (l.a.sendN Wv)).length ≤ 100000 := by rw [List.length_drop]; omega
  have h := h.to (T := blk bl [.pointer (some ⟨x.bc, 0, none⟩), .pointer (some ⟨x.bs, 0, none⟩), .pointer (some ⟨x.ba, 0, none⟩), .pointer (some ⟨x.bb, 0, none⟩), .int .i64 0, .int .i64 z, .slice aw2 ((Wv.drop (l.a.sendN Wv)).length) cw2, .slice a124 (((l.v.drop (l.b.sendN l.v)) ++ o2).length) c124] 135 :: ClP 179 117 x.bc c2 :: SeP 183 117 0 x.bs aclL (.func (.func 69) #[.pointer (some ⟨x.bd, 0, none⟩)] #[]) s2 :: ConnP 115 x.ba AF.recv :: ConnP 115 x.bb BF.recv :: OwnB (.slice aw2 ((Wv.drop (l.a.sendN Wv))).length cw2) ((Wv.drop (l.a.sendN Wv))) :: OwnB (.slice a124 ((l.v.drop (l.b.sendN l.v)) ++ o2).length c124) ((l.v.drop (l.b.sendN l.v)) ++ o2) :: DeskP 123 108 151 154 x.bd u2 :: L)
  exact closeLn (l := ⟨c2, s2, AF.recv, BF.recv, (Wv.drop (l.a.sendN Wv)), (l.v.drop (l.b.sendN l.v)) ++ o2, u2⟩) { x with n := z, aw := aw2, cw := cw2, av := a124, cv := c124 } hWl2 hVl h
end Go.Proofs.YtjfmjbmkkpkppaaGreatDoor
namespace Go.Sl.TpM
open Go Go.Sl Go.Sl.ByM Go.Sl.UnM
theorem runK_is : runK = some ([], one7) := by kernel_rfl
end Go.Sl.TpM
namespace Go.Proofs.YtjfmjbmkkpkppaaGreatDoor
open Go.Proofs.Tryz
open Go Go.Sl Go.Sl.BitM Go.Sl.SpM Go.Sl.RsM Go.Sl.ByM Go.Sl.UnM Go.Sl.TpM
set_option linter.unusedVariables false
set_option linter.unusedSimpArgs false
set_option maxHeartbeats 1000000
set_option maxRecDepth 8000
variable {W0 w : World} {L F : List HProp}
theorem cldone_ok {bc : Nat} {c : Cl} (h : On W0 (ClP 179 117 bc c :: L) w) : Calls Tryz.prog 72 #[.pointer (some ⟨bc, 0, none⟩)] w (Ret fun v w' => (∃ a, c.done = none ∧ v = .slice a 0 0 ∧ On W0 (ClP 179 117 bc ({ c with done := none } : Cl) :: L) w') ∨ (∃ a d, c.done = some d ∧ v = .slice a 1 1 ∧ On W0 (ClP 179 117 bc ({ c with done := none } : Cl) :: DnP a 1 (some d) :: L) w')) := by
  cases hd : c.done with
  | none =>
    exact (cldone0_ok hd h).mono fun e w' he => by
      obtain ⟨v, he, a, hv, h⟩ := he
      exact ⟨v, he, .inl ⟨a, rfl, hv, h.d1⟩⟩
  | some d =>
    exact (cldone1_ok hd h).mono fun e w' he => by
      obtain ⟨v, he, a, hv, h⟩ := he
      exact ⟨v, he, .inr ⟨a, d, rfl, hv, h⟩⟩
theorem askK_some {f t : Nat} {l l' : Ln} {out : List UInt8} (h : Ln.askK f l t = some (out, l')) : ∃ f1 l1, f = f1 + 1 ∧ l.round = some l1 ∧ ((∃ d, l1.c.done = some d ∧ d.1 = t ∧ out = d.2 ∧ l' = { l1 with c := { l1.c with done := none } }) ∨ (l1.c.done = none ∧ Ln.askK f1 l1 t = some (out, l'))) := by
  match f, h with
  | f + 1, h =>
    unfold Ln.askK at h
    cases hr : l.round with
    | none => rw [hr] at h; cases h
    | some l1 =>
      rw [hr] at h
      simp only [Option.bind_some] at h
      refine ⟨f, l1, rfl, rfl, ?_⟩
      cases hd : l1.c.done with
      | none => rw [hd] at h; exact .inr ⟨rfl, h⟩
      | some d =>
        rw [hd] at h
        simp only [] at h
        split at h
        · rename_i h1; cases h; exact .inl ⟨d, rfl, h1, rfl, rfl⟩
        · cases h
theorem ask_some {l l' : Ln} {x : Cm} {out : List UInt8} (h : l.ask x = some (out, l')) : ∃ c, l.c.do_ x = some c ∧ Ln.askK 200 { l with c := c } c.tag = some (out, l') := by
  unfold Ln.ask at h
  cases hd : l.c.do_ x with
  | none => rw [hd] at h; cases h
  | some c => rw [hd] at h; exact ⟨c, rfl, h⟩
theorem none_done (c : Cl) (h : c.done = none) : ({ c with done := none } : Cl) = c := by rw [← h]
theorem lask2_ok {m : Int} (G : Gives L (GlP m)) {bl : Nat} {l l' : Ln} {out : List UInt8} {kind : Int} {at_ n : Nat} {key new : Int} {typ : Nat} {data : List UInt8} {ax : Option Addr} {cx : Nat} (hat : at_ ≤ 4611686018427387904) (hn : n ≤ 4294967295) (htyp : typ ≤ 15) (hm : l.ask (⟨kind, (at_ : Int), (n : Int), data, key, new, (typ : Int), false⟩ : Cm) = some (out, l')) (h : On W0 (LnP ⟨135, 179, 117, 183, 115, 123, 108, 151, 154⟩ 69 bl l :: L) w) (C : Gives L (Bytes (.slice ax data.length cx) data)) : Calls Tryz.prog 34 #[.pointer (some ⟨bl, 0, none⟩), .agg #[.int .i64 kind, .int .i64 (at_ : Int), .int .i64 (n : Int), .slice ax data.length cx, .int .u64 key, .int .u64 new, .int .i64 (typ : Int), .bool false], .int .i64 200] w (Ret fun v w' => ∃ a c, v = .tuple #[.agg #[.int .i64 0, .int .i64 0, .int .i64 0, .slice a out.length c, .int .i64 0], .bool true] ∧ On W0 (LnP ⟨135, 179, 117, 183, 115, 123, 108, 151, 154⟩ 69 bl l' :: OwnB (.slice a out.length c) out :: L) w') := by
  refine enter func34 rfl ntmps34 rfl ?_
  have hmx := maxLen_eq
  have has_ := ask_some hm
  obtain ⟨cc, hdo, hak⟩ := has_
  clear hm
  have ho_ := openLn h
  obtain ⟨x, hwl, hvl, h⟩ := ho_
  have h : On W0 (blk bl [.pointer (some ⟨x.bc, 0, none⟩), .pointer (some ⟨x.bs, 0, none⟩), .pointer (some ⟨x.ba, 0, none⟩), .pointer (some ⟨x.bb, 0, none⟩), .int .i64 0, .int .i64 x.n, .slice x.aw (l.w.length) x.cw, .slice x.av (l.v.length) x.cv] 135 :: ClP 179 117 x.bc l.c :: SeP 183 117 0 x.bs aclL (.func (.func 69) #[.pointer (some ⟨x.bd, 0, none⟩)] #[]) l.s :: ConnP 115 x.ba l.a :: ConnP 115 x.bb l.b :: _) w := h
  refine W.sr (WL.e (eff_box (v := .agg #[.int .i64 kind, .int .i64 (at_ : Int), .int .i64 (n : Int), .slice ax data.length cx, .int .u64 key, .int .u64 new, .int .i64 (typ : Int), .bool false]) (l := [.int .i64 kind, .int .i64 (at_ : Int), .int .i64 (n : Int), .slice ax data.length cx, .int .u64 key, .int .u64 new, .int .i64 (typ : Int), .bool false]) h rfl rfl) ?_)
  rintro _ w ⟨b4, rfl, h⟩
  refine WL.e (eff_alloc h zeroValue44 rfl) ?_
  rintro _ w ⟨b6, rfl, h⟩
  refine WL.a (WL.nil (W.seq ?_))
  refine W.draw Tryz.follows h (fun w h => ?_)
  refine WT.m 0 rfl (WT.n 1 rfl rfl (WT.f 2 0 rfl underlying135 rfl sizeOf124 rfl rfl (WT.l 3 rfl isAgg124 rfl (h.cellB rfl) (WT.loadN (vs := [.int .i64 _, .int .i64 _, .int .i64 _, .slice _ _ _, .int .u64 _, .int .u64 _, .int .i64 _, .bool _]) 4 rfl (by kernel_rfl) isAgg29 sizeOf29 rfl rfl (h.rowV (n := 8) rfl) rfl rfl (WT.e 5 [false, false] rfl (eff_call call70 (cdo_ok hat hn htyp hdo (h.fetch (ClP 179 117 x.bc l.c)) (Gives.to C))) ?_)))))
  rintro _ w ⟨rfl, h⟩
  refine ⟨trivial, ?_⟩
  refine WT.m 6 rfl (WT.p 7 rfl (fun w' => (run_extract rfl rfl)) (WT.p 8 rfl (fun w' => (run_extract rfl rfl)) (WT.a 9 rfl (WT.a 10 rfl (WT.dn (W.seq (W.seq ?_)))))))
  refine W.region (WL.m (WL.v (run_neqF rfl rfl (by decide)) (WL.nil (W.condF rfl (W.skip (W.seq (W.seq ?_)))))))
  refine W.region (WL.a (WL.nil (W.block ?_)))
  refine W.loop (fun (f : Nat) env w => f ≤ 200 ∧ ∃ (j : Env) (ll : Ln), Ln.askK f ll cc.tag = some (out, l') ∧ env = mkE j [(0, .pointer (some ⟨bl, 0, none⟩)), (2, .int .i64 200), (6, .pointer (some ⟨b6, 0, none⟩)), (7, .bool false), (8, .int .u32 (cc.tag : Int)), (10, .int .i64 (200 - (f : Int)))] ∧ On W0 (LnP ⟨135, 179, 117, 183, 115, 123, 108, 151, 154⟩ 69 bl ll :: blk b6 [.int .i64 0, .int .i64 0, .int .i64 0, .slice none 0 0, .int .i64 0] 44 :: L) w) (fun f => f) (200) ?_ ?_
  · have h := h.p1
    have h : On W0 (blk b6 [.int .i64 0, .int .i64 0, .int .i64 0, .slice none 0 0, .int .i64 0] 44 :: _) w := h
    have h := closeLn (l := ({ l with c := cc } : Ln)) (t := ⟨135, 179, 117, 183, 115, 123, 108, 151, 154⟩) (fd := 69) (bl := bl) x hwl hvl (h.to (T := blk bl [.pointer (some ⟨x.bc, 0, none⟩), .pointer (some ⟨x.bs, 0, none⟩), .pointer (some ⟨x.ba, 0, none⟩), .pointer (some ⟨x.bb, 0, none⟩), .int .i64 0, .int .i64 x.n, .slice x.aw (l.w.length) x.cw, .slice x.av (l.v.length) x.cv] 135 :: ClP 179 117 x.bc cc :: SeP 183 117 0 x.bs aclL (.func (.func 69) #[.pointer (some ⟨x.bd, 0, none⟩)] #[]) l.s :: ConnP 115 x.ba l.a :: ConnP 115 x.bb l.b :: OwnB (.slice x.aw (l.w).length x.cw) (l.w) :: OwnB (.slice x.av (l.v).length x.cv) (l.v) :: DeskP 123 108 151 154 x.bd l.u :: blk b6 [.int .i64 0, .int .i64 0, .int .i64 0, .slice none 0 0, .int .i64 0] 44 :: L))
    exact ⟨Nat.le_refl _, _, _, hak, mkE_of ⟨rfl, rfl, rfl, rfl, rfl, rfl, trivial⟩, h⟩
  clear h hak
  rintro f env w ⟨hf, j, ll, hak, rfl, h⟩
  have hks := askK_some hak
  obtain ⟨f1, l1, hf1, hrd, hks⟩ := hks
  subst hf1
  have h : On W0 (LnP ⟨135, 179, 117, 183, 115, 123, 108, 151, 154⟩ 69 bl ll :: blk b6 [.int .i64 0, .int .i64 0, .int .i64 0, .slice none 0 0, .int .i64 0] 44 :: L) w := h
  refine W.seq (W.sr (WL.m (WL.m (WL.v (run_lssT rfl rfl (by omega)) (WL.nil (W.condT rfl ?_))))))
  refine W.skip (W.seq (W.block (W.sr (WL.m (WL.e (eff_call call71 (lround_ok (Gives.to G) hrd h)) ?_)))))
  rintro _ w h
  have ho_ := openLn h
  obtain ⟨x, hwl, hvl, h⟩ := ho_
  have h : On W0 (blk bl [.pointer (some ⟨x.bc, 0, none⟩), .pointer (some ⟨x.bs, 0, none⟩), .pointer (some ⟨x.ba, 0, none⟩), .pointer (some ⟨x.bb, 0, none⟩), .int .i64 0, .int .i64 x.n, .slice x.aw (l1.w.length) x.cw, .slice x.av (l1.v.length) x.cv] 135 :: ClP 179 117 x.bc l1.c :: SeP 183 117 0 x.bs aclL (.func (.func 69) #[.pointer (some ⟨x.bd, 0, none⟩)] #[]) l1.s :: ConnP 115 x.ba l1.a :: ConnP 115 x.bb l1.b :: _) w := h
  refine WL.nil (W.sr (WL.m (WL.n rfl (WL.f 0 underlying135 rfl sizeOf124 rfl rfl (WL.l isAgg124 rfl (h.cellB rfl) (WL.e (eff_call call72 (cldone_ok (h.fetch (ClP 179 117 x.bc l1.c)))) ?_))))))
  rintro _ w hv
  rcases hv with ⟨a36, hd, rfl, h⟩ | ⟨a36, d, hd, rfl, h⟩
  ·
   refine WL.a (WL.nil (W.sr (WL.a (WL.nil (W.block ?_)))))
   refine W.loop (fun (k : Nat) env w => ∃ (j : Env), env = mkE j [(0, .pointer (some ⟨bl, 0, none⟩)), (2, .int .i64 200), (6, .pointer (some ⟨b6, 0, none⟩)), (7, .bool false), (8, .int .u32 (cc.tag : Int)), (10, .int .i64 (200 - (f1 + 1 : Int))), (11, .slice a36 0 0), (12, .int .i64 0)] ∧ On W0 (LnP ⟨135, 179, 117, 183, 115, 123, 108, 151, 154⟩ 69 bl l1 :: blk b6 [.int .i64 0, .int .i64 0, .int .i64 0, .slice none 0 0, .int .i64 0] 44 :: L) w) (fun k => k) (0) ?_ ?_
   · have h := closeLn (l := ({ l1 with c := ({ l1.c with done := none } : Cl) } : Ln)) (t := ⟨135, 179, 117, 183, 115, 123, 108, 151, 154⟩) (fd := 69) (bl := bl) x hwl hvl (h.to (T := blk bl [.pointer (some ⟨x.bc, 0, none⟩), .pointer (some ⟨x.bs, 0, none⟩), .pointer (some ⟨x.ba, 0, none⟩), .pointer (some ⟨x.bb, 0, none⟩), .int .i64 0, .int .i64 x.n, .slice x.aw (l1.w.length) x.cw, .slice x.av (l1.v.length) x.cv] 135 :: ClP 179 117 x.bc ({ l1.c with done := none } : Cl) :: SeP 183 117 0 x.bs aclL (.func (.func 69) #[.pointer (some ⟨x.bd, 0, none⟩)] #[]) l1.s :: ConnP 115 x.ba l1.a :: ConnP 115 x.bb l1.b :: OwnB (.slice x.aw (l1.w).length x.cw) (l1.w) :: OwnB (.slice x.av (l1.v).length x.cv) (l1.v) :: DeskP 123 108 151 154 x.bd l1.u :: blk b6 [.int .i64 0, .int .i64 0, .int .i64 0, .slice none 0 0, .int .i64 0] 44 :: L))
     rw [none_done _ hd] at h
     exact ⟨_, mkE_of ⟨rfl, rfl, rfl, rfl, rfl, rfl, rfl, rfl, trivial⟩, h⟩
   clear h
   rintro k env w ⟨j, rfl, h⟩
   refine W.seq (W.sr (WL.m (WL.m (WL.v (run_lenSlice underlying138 rfl) (WL.v (run_lssF rfl rfl (by decide)) (WL.nil ?_))))))
   refine W.condF rfl (W.exit (W.region (WL.m (WL.v (run_add rfl rfl (by omega) (by omega)) (WL.a (WL.nil ?_))))))
   have hak2 : Ln.askK f1 l1 cc.tag = some (out, l') := by
     rcases hks with ⟨d, q, _⟩ | ⟨_, q⟩
     · rw [hd] at q; cases q
     · exact q
   exact ⟨f1, ⟨by omega, _, l1, hak2, mkE_of ⟨rfl, rfl, rfl, rfl, rfl, congrArg (Value.int .i64) (show (200 : Int) - ((f1 + 1 : Nat) : Int) + 1 = 200 - (f1 : Int) by omega), trivial⟩, h⟩, Nat.lt_succ_self f1⟩
  refine WL.a (WL.nil (W.sr (WL.a (WL.nil (W.block ?_)))))
  refine W.loop (fun (k : Nat) env w => ∃ (j : Env), env = mkE j [(0, .pointer (some ⟨bl, 0, none⟩)), (2, .int .i64 200), (6, .pointer (some ⟨b6, 0, none⟩)), (7, .bool false), (8, .int .u32 (cc.tag : Int)), (10, .int .i64 (200 - (f1 + 1 : Int))), (11, .slice a36 1 1), (12, .int .i64 0)] ∧ On W0 (LnP ⟨135, 179, 117, 183, 115, 123, 108, 151, 154⟩ 69 bl ({ l1 with c := { l1.c with done := none } } : Ln) :: DnP a36 1 (some d) :: blk b6 [.int .i64 0, .int .i64 0, .int .i64 0, .slice none 0 0, .int .i64 0] 44 :: L) w) (fun k => k) (0) ?_ ?_
  · have h := closeLn (l := ({ l1 with c := ({ l1.c with done := none } : Cl) } : Ln)) (t := ⟨135, 179, 117, 183, 115, 123, 108, 151, 154⟩) (fd := 69) (bl := bl) x hwl hvl (h.to (T := blk bl [.pointer (some ⟨x.bc, 0, none⟩), .pointer (some ⟨x.bs, 0, none⟩), .pointer (some ⟨x.ba, 0, none⟩), .pointer (some ⟨x.bb, 0, none⟩), .int .i64 0, .int .i64 x.n, .slice x.aw (l1.w.length) x.cw, .slice x.av (l1.v.length) x.cv] 135 :: ClP 179 117 x.bc ({ l1.c with done := none } : Cl) :: SeP 183 117 0 x.bs aclL (.func (.func 69) #[.pointer (some ⟨x.bd, 0, none⟩)] #[]) l1.s :: ConnP 115 x.ba l1.a :: ConnP 115 x.bb l1.b :: OwnB (.slice x.aw (l1.w).length x.cw) (l1.w) :: OwnB (.slice x.av (l1.v).length x.cv) (l1.v) :: DeskP 123 108 151 154 x.bd l1.u :: DnP a36 1 (some d) :: blk b6 [.int .i64 0, .int .i64 0, .int .i64 0, .slice none 0 0, .int .i64 0] 44 :: L))
    exact ⟨_, mkE_of ⟨rfl, rfl, rfl, rfl, rfl, rfl, rfl, rfl, trivial⟩, h⟩
  clear h
  rintro k env w ⟨j, rfl, h⟩
  refine W.seq (W.sr (WL.m (WL.m (WL.v (run_lenSlice underlying138 rfl) (WL.v (run_lssT rfl rfl (by decide)) (WL.nil ?_))))))
  refine W.condT rfl (W.skip (W.seq (W.block (W.seq ?_))))
  have hks2 : d.1 = cc.tag ∧ out = d.2 ∧ l' = ({ l1 with c := { l1.c with done := none } } : Ln) := by
    rcases hks with ⟨d2, q1, q2, q3, q4⟩ | ⟨q, _⟩
    · rw [hd] at q1; cases q1; exact ⟨q2, q3, q4⟩
    · rw [hd] at q; cases q
  obtain ⟨htg, hou, hl'⟩ := hks2
  have h := h.fetch (DnP a36 1 (some d))
  have hod_ := openDn h
  obtain ⟨y, h⟩ := hod_
  have had_ := (h.cellsO (v := .slice a36 1 1)).addr (by decide)
  obtain ⟨ba, oa, had⟩ := had_
  rw [had] at h
  refine W.region (WL.m (WL.m (WL.v (run_indexAddr underlying138 sizeOf141 (congrArg (fun q => Value.slice q 1 1) had) rfl (by decide) (by decide)) (WL.f 0 underlying141 rfl sizeOf24 rfl rfl (WL.l isAgg24 rfl ((h.cellsO (v := .slice (some ⟨ba, oa, none⟩) 1 1)).elem (i := 0) (vs := dnCells d y) (by decide) rfl 0 _ rfl) (WL.m (WL.v (run_eqlT rfl rfl (by omega)) ?_)))))))
  refine WL.nil (W.condT rfl (W.sr (WL.m (WL.m (WL.v (run_indexAddr underlying138 sizeOf141 (congrArg (fun q => Value.slice q 1 1) had) rfl (by decide) (by decide)) (WL.f 1 underlying141 rfl sizeOf44 rfl rfl ?_))))))
  refine WL.v (run_loadN (vs := [.int .i64 0, .int .i64 0, .int .i64 0, .slice y.1 d.2.length y.2, .int .i64 0]) isAgg44 sizeOf44 rfl rfl (fun j u hj => by have q := (h.cellsO (v := .slice (some ⟨ba, oa, none⟩) 1 1)).elem (i := 0) (vs := dnCells d y) (by decide) rfl (1 + j) u (by rw [Nat.add_comm]; exact hj); rw [← Nat.add_assoc] at q; exact q)) (WL.e (eff_storeW (vs := [.int .i64 _, .int .i64 _, .int .i64 _, .slice _ _ _, .int .i64 _]) h sizeOf44 rfl rfl rfl rfl rfl) ?_)
  rintro _ w h
  refine WL.a (WL.nil (W.ret (bodyQ.rctB (vs := [.int .i64 0, .int .i64 0, .int .i64 0, .slice y.1 d.2.length y.2, .int .i64 0]) (v2 := .bool true) h results34 isAgg44 sizeOf44 rfl rfl rfl rfl ?_)))
  subst hl'
  subst hou
  exact ⟨y.1, y.2, rfl, h.to⟩
end Go.Proofs.YtjfmjbmkkpkppaaGreatDoor
namespace Go.Proofs.YtjfmjbmkkpkppaaGreatDoor
open Go.Proofs.Tryz
open Go Go.Sl Go.Sl.BitM Go.Sl.SpM Go.Sl.RsM Go.Sl.ByM Go.Sl.UnM Go.Sl.TpM
set_option linter.unusedVariables false
set_option linter.unusedSimpArgs false
set_option maxHeartbeats 1000000
set_option maxRecDepth 8000
variable {W0 w : World} {L F : List HProp}
theorem runK_parts : ∃ l1 l2, newLn.ask ⟨3, ((1 : Nat) : Int), ((1 : Nat) : Int), one7, 0, 0, ((0 : Nat) : Int), false⟩ = some ([], l1) ∧ l1.ask ⟨2, ((1 : Nat) : Int), ((1 : Nat) : Int), [], 0, 0, ((0 : Nat) : Int), false⟩ = some (one7, l2) := by
  have hr := runK_is
  unfold runK at hr
  cases h1 : newLn.ask ⟨3, 1, 1, one7, 0, 0, 0, false⟩ with
  | none => rw [h1] at hr; cases hr
  | some q =>
    rw [h1] at hr
    simp only [Option.bind_some] at hr
    cases h2 : q.2.ask ⟨2, 1, 1, [], 0, 0, 0, false⟩ with
    | none => rw [h2] at hr; cases hr
    | some r =>
      rw [h2] at hr
      simp only [Option.map_some, Option.some.injEq, Prod.mk.injEq] at hr
      obtain ⟨q1, q2⟩ := q
      obtain ⟨r1, r2⟩ := r
      obtain ⟨e1, e2⟩ := hr
      dsimp only at e1 e2
      subst e1
      subst e2
      exact ⟨q2, r2, rfl, h2⟩
theorem tknown_ok {m : Int} (G : Gives L (GlP m)) (h : On W0 L w) : Calls Tryz.prog 6 #[] w (Ret fun v w' => v = .bool true ∧ On W0 L w') := by
  refine enter func6 rfl ntmps6 rfl ?_
  have hmx := maxLen_eq
  have hrk := runK_parts
  obtain ⟨l1, l2, hm1, hm2⟩ := hrk
  refine W.sr (WL.a (WL.nil (W.sr (WL.e (eff_call call32 (ldesk_ok h)) ?_))))
  rintro _ w ⟨bd, rfl, h⟩
  refine WL.a (WL.nil (W.seq (W.sr (WL.m (WL.v (run_eqlPtrNil underlying73 rfl rfl) (WL.nil ?_))))))
  refine W.condF rfl (W.skip (W.sr (WL.m (WL.e (eff_call call33 (lnew_ok (name := [105, 113, 110, 46, 97]) (burst := 1000) (by decide) (by decide) h)) ?_))))
  rintro _ w ⟨bl, rfl, h⟩
  have h : On W0 (LnP ⟨135, 179, 117, 183, 115, 123, 108, 151, 154⟩ 69 bl newLn :: L) w := h
  refine WL.a (WL.nil (W.sr (WL.m (WL.e (eff_call call35 (lone_ok (x := 7) h)) ?_))))
  rintro _ w ⟨a14, rfl, h⟩
  have h : On W0 (OwnB (.slice a14 one7.length one7.length) one7 :: _) w := h
  refine WL.v (run_buildS (pl := [(0, 1), (1, 1), (2, 1), (3, 1), (4, 1), (5, 1), (6, 1), (7, 1)]) (out := [.int .i64 _, .int .i64 _, .int .i64 _, .slice _ _ _, .int .u64 _, .int .u64 _, .int .i64 _, .bool _]) underlying29 zeroValue29 (fun w => by kernel_rfl) rfl (⟨⟨_, _, rfl, rfl, by decide⟩, ⟨⟨_, _, rfl, rfl, by decide⟩, ⟨⟨_, _, rfl, rfl, by decide⟩, ⟨⟨_, _, rfl, rfl, by decide⟩, trivial⟩⟩⟩⟩) rfl) ?_
  refine WL.e (eff_call call34 (lask2_ok (kind := 3) (at_ := 1) (n := 1) (key := 0) (new := 0) (typ := 0) (data := one7) (ax := a14) (cx := one7.length) (Gives.to G) (by decide) (by decide) (by decide) hm1 (h.fetch (LnP ⟨135, 179, 117, 183, 115, 123, 108, 151, 154⟩ 69 bl newLn)) (Gives.ownO (v := .slice a14 one7.length one7.length)))) ?_
  rintro _ w ⟨a16, c16, rfl, h⟩
  refine WL.m (WL.v (run_extract rfl rfl) (WL.v (run_extract rfl rfl) (WL.e (eff_alloc h zeroValue44 rfl) ?_)))
  rintro _ w ⟨b3, rfl, h⟩
  refine WL.e (eff_storeW (vs := [.int .i64 0, .int .i64 0, .int .i64 0, .slice a16 (([] : List UInt8)).length c16, .int .i64 0]) h sizeOf44 rfl rfl rfl rfl rfl) ?_
  rintro _ w h
  refine WL.a (WL.nil (W.sr (WL.m (WL.v (run_buildS (pl := [(0, 1), (1, 1), (2, 1), (3, 1), (4, 1), (5, 1), (6, 1), (7, 1)]) (out := [.int .i64 _, .int .i64 _, .int .i64 _, .slice _ _ _, .int .u64 _, .int .u64 _, .int .i64 _, .bool _]) underlying29 zeroValue29 (fun w => by kernel_rfl) rfl (⟨⟨_, _, rfl, rfl, by decide⟩, ⟨⟨_, _, rfl, rfl, by decide⟩, ⟨⟨_, _, rfl, rfl, by decide⟩, trivial⟩⟩⟩) rfl) (WL.e (eff_call call34 (lask2_ok (kind := 2) (at_ := 1) (n := 1) (key := 0) (new := 0) (typ := 0) (data := []) (ax := none) (cx := 0) (Gives.to G) (by decide) (by decide) (by decide) hm2 (h.fetch (LnP ⟨135, 179, 117, 183, 115, 123, 108, 151, 154⟩ 69 bl l1)) Gives.nilB)) ?_)))))
  rintro _ w ⟨a22, c22, rfl, h⟩
  refine WL.m (WL.v (run_extract rfl rfl) (WL.v (run_extract rfl rfl) (WL.e (eff_alloc h zeroValue44 rfl) ?_)))
  rintro _ w ⟨b5, rfl, h⟩
  refine WL.e (eff_storeW (vs := [.int .i64 0, .int .i64 0, .int .i64 0, .slice a22 (one7).length c22, .int .i64 0]) h sizeOf44 rfl rfl rfl rfl rfl) ?_
  rintro _ w h
  refine WL.a (WL.nil (W.seq ?_))
  refine W.draw Tryz.follows h (fun w h => ?_)
  refine WT.m 0 rfl (WT.m 1 rfl (WT.m 2 rfl (WT.p 3 rfl (fun w' => (run_pickT rfl)) (WT.m 4 rfl (WT.f 5 0 rfl underlying44 rfl sizeOf3 rfl rfl (WT.l 6 rfl isAgg3 rfl (h.cellB rfl) (WT.p 7 rfl (fun w' => run_eqlT rfl rfl (rfl)) ?_)))))))
  refine WT.p 8 rfl (fun w' => (run_pickT rfl)) (WT.m 9 rfl (WT.f 10 3 rfl underlying44 rfl sizeOf26 rfl rfl (WT.l 11 rfl isAgg26 rfl (h.cellB rfl) (WT.take 12 (fun w => Bytes (.slice a22 one7.length c22) (one7) (hp w)) rfl (by kernel_rfl) rfl rfl (h.cellsO (v := .slice a22 one7.length c22)) (fun w' hC => run_bytesStr underlying26 underlying5 underlying9 rfl hC) (WT.e 13 [true, true, false] rfl (eff_call call35 (lone_ok (x := 7) h)) ?_)))))
  rintro _ w ⟨a38, rfl, h⟩
  have h : On W0 (OwnB (.slice a38 one7.length one7.length) one7 :: _) w := h
  refine ⟨⟨h.cellsO (v := .slice a22 one7.length c22), h.cellB rfl, trivial⟩, ?_⟩
  refine WT.take 14 (fun w => Bytes (.slice a38 one7.length one7.length) (one7) (hp w)) rfl (by kernel_rfl) rfl rfl (h.cellsO (v := .slice a38 one7.length one7.length)) (fun w' hC => run_bytesStr underlying26 underlying5 underlying9 rfl hC) (WT.p 15 rfl (fun w' => run_eqlStrT rfl rfl (rfl)) (WT.p 16 rfl (fun w' => (run_pickT rfl)) (WT.a 17 rfl (WT.dn (W.ret (bodyQ.r1 (v := .bool _) results6 rfl ?_))))))
  exact ⟨rfl, h.to⟩
end Go.Proofs.YtjfmjbmkkpkppaaGreatDoor
namespace Go.Sl.TpM
open Go Go.Sl Go.Sl.ByM Go.Sl.UnM Go.Sl.BitM Go.Sl.SpM Go.Sl.RsM
set_option linter.unusedVariables false
def hbB (i : Nat) : UInt8 := if i = 0 then 112 else 240
def senseI (k c i : Nat) : List UInt8 := [hbB i, 0, UInt8.ofNat k] ++ be i 4 ++ [10, 0, 0, 0, 0] ++ be c 2 ++ [0, 0, 0, 0]
theorem senseI_len (k c i : Nat) : (senseI k c i).length = 18 := by simp only [senseI, List.length_append, be_length, List.length_cons, List.length_nil]
theorem hbB_or (i : Nat) : hbB i = 112 ∨ hbB i = 240 := by unfold hbB; split; exact .inl rfl; exact .inr rfl
theorem senseI_c (k c i : Nat) : ((senseI k c i).drop 12).take 2 = be c 2 := rfl
theorem senseI_i (k c i : Nat) : ((senseI k c i).drop 3).take 4 = be i 4 := rfl
theorem senseI_0 (k c i : Nat) : (senseI k c i)[0]? = some (hbB i) := rfl
theorem senseI_7 (k c i : Nat) : (senseI k c i)[7]? = some 10 := rfl
theorem senseI_2 (k c i : Nat) : (senseI k c i)[2]? = some (UInt8.ofNat k) := rfl
structure okSn (r : Rp) : Prop where
  good : r.st ≠ 2 → r.key = 0 ∧ r.code = 0 ∧ r.info = 0
  bad : r.st = 2 → (0 ≤ r.key ∧ r.key < 16) ∧ (0 ≤ r.code ∧ r.code < 65536) ∧ (0 ≤ r.info ∧ r.info < 4294967296) ∧ r.data = []
theorem okSn_plain {s k c : Int} (h : s ≠ 2 → k = 0 ∧ c = 0) (h1 : 0 ≤ k ∧ k < 16) (h2 : 0 ≤ c ∧ c < 65536) : okSn (plain s k c) :=
  ⟨fun e => ⟨(h e).1, (h e).2, rfl⟩, fun _ => ⟨h1, h2, ⟨(show (0 : Int) ≤ 0 by decide), (show (0 : Int) < 4294967296 by decide)⟩, rfl⟩⟩
theorem okSn_gave (b : List UInt8) : okSn (gave b) := ⟨fun _ => ⟨rfl, rfl, rfl⟩, fun e => (by cases e)⟩
theorem okSn_p0 : okSn (plain 0 0 0) := okSn_plain (fun _ => ⟨rfl, rfl⟩) (by decide) (by decide)
theorem okSn_p24 : okSn (plain 24 0 0) := okSn_plain (fun _ => ⟨rfl, rfl⟩) (by decide) (by decide)
theorem okSn_p25 {c : Int} (h : 0 ≤ c ∧ c < 65536) : okSn (plain 2 5 c) := okSn_plain (fun e => (e rfl).elim) (by decide) h
theorem okSn_rv (t : Tb) (i : Nat) (c : Cm) : okSn (rvM t i c).r := by
  unfold rvM regF rsvF relF clrF preF
  repeat' split
  all_goals first
    | exact okSn_p0
    | exact okSn_p24
    | exact okSn_p25 (by decide)
theorem diffAt_le : ∀ (xs ys : List UInt8), diffAt xs ys ≤ ys.length
  | [], _ => by simp [diffAt]
  | _ :: _, [] => by simp [diffAt]
  | x :: xs, y :: ys => by
    unfold diffAt
    have := diffAt_le xs ys
    split
    · rw [List.length_cons]; omega
    · exact Nat.zero_le _
theorem okSn_run {s : Sp} {c : Cm} (hd : c.data.length ≤ 100000) : okSn (runM s c).2 := by
  unfold runM cmpM
  repeat' split
  all_goals first
    | exact okSn_p0
    | exact okSn_gave _
    | exact okSn_p25 (by decide)
    | skip
  all_goals
    refine ⟨fun e => (e rfl).elim, fun _ => ⟨(show (0 : Int) ≤ 14 ∧ (14 : Int) < 16 by decide), (show (0 : Int) ≤ 7424 ∧ (7424 : Int) < 65536 by decide), ⟨Int.natCast_nonneg _, ?_⟩, rfl⟩⟩
    have := diffAt_le (partS s c.at_.toNat c.n.toNat) c.data
    show ((diffAt (partS s c.at_.toNat c.n.toNat) c.data : Nat) : Int) < 4294967296
    omega
theorem okSn_do {u : Un} {hh : Int} {c : Cm} (h8 : u.g.length = 8) (hc : okC u) (hd : c.data.length ≤ 100000) : okSn (doM u hh c).2 := by
  unfold doM
  split
  · exact okSn_p25 (by decide)
  rename_i h1
  have hh8 : hh.toNat < 8 := by
    have : hostB hh = true := by
      cases e : hostB hh with
      | true => rfl
      | false => exact (h1 (.inl e)).elim
    rw [hostB_iff] at this; omega
  split
  · split <;> exact okSn_gave _
  split
  · rename_i h2
    have hcc := hc hh.toNat hh8
    cases hl : (u.guest hh.toNat).codes with
    | nil => exact (h2.2 hl).elim
    | cons x l =>
      rw [hl] at hcc
      exact okSn_plain (fun e => (e rfl).elim) (by decide) (hcc x (by simp))
  split
  · exact okSn_p24
  · unfold actM
    repeat' split
    · exact okSn_p0
    · exact okSn_gave _
    · exact okSn_gave _
    · exact okSn_run hd
    · exact okSn_p0
    · unfold resM
      repeat' split
      · exact okSn_gave _
      · exact okSn_gave _
      · exact okSn_rv _ _ _
theorem new_okC (n : Nat) : okC (newU n) := (goodU_new n).2
end Go.Sl.TpM
namespace Go.Proofs.YtjfmjbmkkpkppaaGreatDoor
open Go.Proofs.Tryz
open Go Go.Sl Go.Sl.BitM Go.Sl.SpM Go.Sl.RsM Go.Sl.ByM Go.Sl.UnM Go.Sl.TpM
set_option linter.unusedVariables false
set_option linter.unusedSimpArgs false
set_option maxHeartbeats 1000000
set_option maxRecDepth 8000
variable {W0 w : World} {L F : List HProp}
theorem run_orE {P : Program} {w : World} {ρ : Operand → Value} {d : Option Tmp} {t ty yt : TypeId} {pos : String} {af : Array Edge} {g : Option (Nat × Bool)} {x y : Operand} {k : IntKind} {m n z : Int} (hx : ρ x = .int k m) (hy : ρ y = .int k n) (hz : k.wrap (BitVec.ofInt k.bits m ||| BitVec.ofInt k.bits n).toNat = z) : (execOp ρ ⟨d, .binOp .or t x y yt, ty, pos, af, g⟩).run P w = .ok (.value (.int k z)) w := by
  rw [run_or hx hy, hz]
theorem run_andNotE {P : Program} {w : World} {ρ : Operand → Value} {d : Option Tmp} {t ty yt : TypeId} {pos : String} {af : Array Edge} {g : Option (Nat × Bool)} {x y : Operand} {k : IntKind} {m n z : Int} (hx : ρ x = .int k m) (hy : ρ y = .int k n) (hz : k.wrap (BitVec.ofInt k.bits m &&& ~~~BitVec.ofInt k.bits n).toNat = z) : (execOp ρ ⟨d, .binOp .andNot t x y yt, ty, pos, af, g⟩).run P w = .ok (.value (.int k z)) w := by
  rw [run_andNot hx hy, hz]
theorem run_andE {P : Program} {w : World} {ρ : Operand → Value} {d : Option Tmp} {t ty yt : TypeId} {pos : String} {af : Array Edge} {g : Option (Nat × Bool)} {x y : Operand} {k : IntKind} {m n z : Int} (hx : ρ x = .int k m) (hy : ρ y = .int k n) (hz : k.wrap (BitVec.ofInt k.bits m &&& BitVec.ofInt k.bits n).toNat = z) : (execOp ρ ⟨d, .binOp .and t x y yt, ty, pos, af, g⟩).run P w = .ok (.value (.int k z)) w := by
  rw [run_and hx hy, hz]
theorem hb_andNot (i : Nat) : IntKind.wrap .u8 ((BitVec.ofInt (IntKind.bits .u8) ((hbB i).toNat : Int) &&& ~~~BitVec.ofInt (IntKind.bits .u8) 128).toNat : Nat) = 112 := by
  rcases hbB_or i with e | e <;> rw [e] <;> rfl
theorem hb_and (i : Nat) : IntKind.wrap .u8 ((BitVec.ofInt (IntKind.bits .u8) ((hbB i).toNat : Int) &&& BitVec.ofInt (IntKind.bits .u8) 128).toNat : Nat) = (if i = 0 then 0 else 128 : Int) := by
  unfold hbB
  by_cases h : i = 0
  · rw [if_pos h, if_pos h]; rfl
  · rw [if_neg h, if_neg h]; rfl
theorem k15 {k : Nat} (hk : k < 16) : (UInt8.ofNat k).toNat &&& 15 = k := by
  rw [show (15 : Nat) = 2 ^ 4 - 1 from rfl, Nat.and_two_pow_sub_one_eq_mod]
  simp only [UInt8.toNat_ofNat']
  omega
theorem senc2_ok {s : Int} {k c i : Nat} {ad : Option Addr} {nd cd : Nat} (hk : k < 16) (hc : c < 65536) (hi : i < 4294967296) (h : On W0 L w) : Calls Tryz.prog 20 #[.agg #[.int .i64 s, .int .i64 (k : Int), .int .i64 (c : Int), .slice ad nd cd, .int .i64 (i : Int)]] w (Ret fun v w' => ∃ a, v = .slice a (senseI k c i).length (senseI k c i).length ∧ On W0 (OwnB (.slice a (senseI k c i).length (senseI k c i).length) (senseI k c i) :: L) w') := by
  refine enter func20 rfl ntmps20 rfl ?_
  have hmx := maxLen_eq
  refine W.sr (WL.e (eff_box (v := .agg #[.int .i64 s, .int .i64 (k : Int), .int .i64 (c : Int), .slice ad nd cd, .int .i64 (i : Int)]) (l := [.int .i64 s, .int .i64 (k : Int), .int .i64 (c : Int), .slice ad nd cd, .int .i64 (i : Int)]) h rfl rfl) ?_)
  rintro _ w ⟨b1, rfl, h⟩
  refine WL.a (WL.nil (W.sr (WL.e (eff_make (n := 18) (bytes := 1) h rfl rfl underlying26 rfl rfl rfl rfl rfl (by omega) (by omega)) ?_)))
  rintro _ w ⟨b6, rfl, h⟩
  have h : On W0 (Own 1 (.slice (some ⟨b6, 0, none⟩) 18 18) 18 (bytesV (List.replicate 18 (0 : UInt8))) :: _) w := h
  refine WL.a (WL.nil (W.sr (WL.m (WL.e (eff_call call61 (laid_ok (ax := some ⟨b6, 0, none⟩) (n := 18) (cx := 18) h)) ?_))))
  rintro _ w ⟨bx, rfl, h⟩
  refine WL.a (WL.nil (W.sr (WL.a (WL.nil ?_))))
  refine W.cut (fun env w => ∃ (j : Env), env = mkE j [(1, .pointer (some ⟨b1, 0, none⟩)), (3, .slice (some ⟨b6, 0, none⟩) 18 18), (4, .func (.func 98) #[] #[.pointer (some ⟨bx, 0, none⟩)]), (5, .int .u8 ((hbB i).toNat : Int))] ∧ On W0 (blk bx [.slice (some ⟨b6, 0, none⟩) 18 18] 26 :: Own 1 (.slice (some ⟨b6, 0, none⟩) 18 18) 18 (bytesV (List.replicate 18 (0 : UInt8))) :: blk b1 [.int .i64 s, .int .i64 (k : Int), .int .i64 (c : Int), .slice ad nd cd, .int .i64 (i : Int)] 44 :: L) w) ?_ ?_
  ·
   refine W.sr (WL.f 4 underlying44 rfl sizeOf3 rfl rfl (WL.l isAgg3 rfl (h.cellB rfl) (WL.v (run_convIn underlying3 underlying24 rfl (by show (0 : Int) ≤ _; omega) (by show _ ≤ (4294967295 : Int); omega)) (WL.v (run_neq rfl rfl) (WL.nil ?_)))))
   refine W.condIf rfl (fun c5 => ?_) (fun c5 => ?_)
   ·
    refine W.region (WL.m (WL.v (run_orE (z := 240) rfl rfl rfl) (WL.a (WL.nil ?_))))
    have e : hbB i = 240 := by unfold hbB; rw [if_neg (by omega)]
    rw [e]
    exact ⟨_, mkE_of ⟨rfl, rfl, rfl, rfl, trivial⟩, h.to⟩
   refine W.skip ?_
   have e : hbB i = 112 := by unfold hbB; rw [if_pos (by omega)]
   rw [e]
   exact ⟨_, mkE_of ⟨rfl, rfl, rfl, rfl, trivial⟩, h.to⟩
  clear h
  rintro env w ⟨j, rfl, h⟩
  refine W.sr (WL.m (WL.m (WL.e (eff_mkSlice (zl := [.int .u8 0]) (out := [.int .u8 ((hbB i).toNat : Int)]) h underlying26 sizeOf5 zeroValue5 (by decide) (by kernel_rfl) rfl rfl (by simp) (⟨⟨_, _, rfl, rfl, by decide⟩, trivial⟩) rfl rfl (by simp [maxLen])) ?_)))
  rintro _ w ⟨b17, rfl, h⟩
  have h : On W0 (Own 1 (.slice (some ⟨b17, 0, none⟩) ([hbB i] : List UInt8).length 1) 1 (bytesV [hbB i]) :: _) w := h
  refine WL.e (eff_call2C (v1 := .int .i64 ((0 : Nat) : Int)) (v2 := .slice (some ⟨b17, 0, none⟩) 1 1) rfl call98 rfl rfl (laid1_ok (bx := bx) (bo := b6) (n := 18) (k := 1) (at_ := 0) (ay := (some ⟨b17, 0, none⟩)) (cy := 1) (xs := (List.replicate 18 (0 : UInt8))) (ys := [hbB i]) (by decide) (by first | rfl | exact be_length ..) (by decide) (by decide) ((h.fetch (Own 1 (.slice (some ⟨b6, 0, none⟩) 18 18) 18 (bytesV (List.replicate 18 (0 : UInt8))))).fetch (blk bx [.slice (some ⟨b6, 0, none⟩) 18 18] 26)) (Gives.ownO (v := .slice (some ⟨b17, 0, none⟩) ([hbB i]).length 1)))) ?_
  rintro _ w h
  refine WL.nil (W.sr (WL.m (WL.f 1 underlying44 rfl sizeOf3 rfl rfl (WL.l isAgg3 rfl (h.cellB rfl) (WL.v (run_andN (k := .i64) (m := k) (n := 15) rfl rfl (by show _ ≤ (9223372036854775807 : Int); omega) (by decide)) (WL.v (run_convByte underlying3 underlying5 rfl) ?_))))))
  refine WL.e (eff_mkSlice (zl := [.int .u8 0]) (out := [.int .u8 (((UInt8.ofNat (k &&& 15)).toNat : Nat) : Int)]) h underlying26 sizeOf5 zeroValue5 (by decide) (by kernel_rfl) rfl rfl (by simp) (⟨⟨_, _, rfl, rfl, by decide⟩, trivial⟩) rfl rfl (by simp [maxLen])) ?_
  rintro _ w ⟨b24, rfl, h⟩
  rw [show k &&& 15 = k by rw [show (15 : Nat) = 2 ^ 4 - 1 from rfl, Nat.and_two_pow_sub_one_eq_mod]; omega] at h
  have h : On W0 (Own 1 (.slice (some ⟨b24, 0, none⟩) ([UInt8.ofNat k] : List UInt8).length 1) 1 (bytesV [UInt8.ofNat k]) :: _) w := h
  refine WL.e (eff_call2C (v1 := .int .i64 ((2 : Nat) : Int)) (v2 := .slice (some ⟨b24, 0, none⟩) 1 1) rfl call98 rfl rfl (laid1_ok (bx := bx) (bo := b6) (n := 18) (k := 1) (at_ := 2) (ay := (some ⟨b24, 0, none⟩)) (cy := 1) (xs := (over (List.replicate 18 (0 : UInt8)) 0 [hbB i])) (ys := [UInt8.ofNat k]) (by decide) (by first | rfl | exact be_length ..) (by decide) (by decide) ((h.fetch (Own 1 (.slice (some ⟨b6, 0, none⟩) 18 18) 18 (bytesV (over (List.replicate 18 (0 : UInt8)) 0 [hbB i])))).fetch (blk bx [.slice (some ⟨b6, 0, none⟩) 18 18] 26)) (Gives.ownO (v := .slice (some ⟨b24, 0, none⟩) ([UInt8.ofNat k]).length 1)))) ?_
  rintro _ w h
  refine WL.nil (W.sr (WL.m (WL.f 4 underlying44 rfl sizeOf3 rfl rfl (WL.l isAgg3 rfl (h.cellB rfl) (WL.v (run_convIn underlying3 underlying27 rfl (by show (0 : Int) ≤ _; omega) (by show _ ≤ (18446744073709551615 : Int); omega)) (WL.e (eff_call call38 (bput_ok (ax := none) (cx := 0) (bs := []) (v := i) (n := 4) h Gives.nilB (by decide) (by decide) (by omega) (by decide))) ?_))))))
  rintro _ w ⟨a30, rfl, h⟩
  have h : On W0 (OwnB (.slice a30 (be i 4).length 4) (be i 4) :: _) w := h
  refine WL.e (eff_call2C (v1 := .int .i64 ((3 : Nat) : Int)) (v2 := .slice a30 4 4) rfl call98 rfl rfl (laid1_ok (bx := bx) (bo := b6) (n := 18) (k := 4) (at_ := 3) (ay := a30) (cy := 4) (xs := (over (over (List.replicate 18 (0 : UInt8)) 0 [hbB i]) 2 [UInt8.ofNat k])) (ys := (be i 4)) (by decide) (by first | rfl | exact be_length ..) (by decide) (by decide) ((h.fetch (Own 1 (.slice (some ⟨b6, 0, none⟩) 18 18) 18 (bytesV (over (over (List.replicate 18 (0 : UInt8)) 0 [hbB i]) 2 [UInt8.ofNat k])))).fetch (blk bx [.slice (some ⟨b6, 0, none⟩) 18 18] 26)) (Gives.ownO (v := .slice a30 ((be i 4)).length 4)))) ?_
  rintro _ w h
  refine WL.nil (W.sr (WL.m (WL.e (eff_mkSlice (zl := [.int .u8 0]) (out := [.int .u8 _]) h underlying26 sizeOf5 zeroValue5 (by decide) (by kernel_rfl) rfl rfl (by simp) (⟨⟨_, _, rfl, rfl, by decide⟩, trivial⟩) rfl rfl (by simp [maxLen])) ?_)))
  rintro _ w ⟨b33, rfl, h⟩
  refine WL.e (eff_call2C (v1 := .int .i64 ((7 : Nat) : Int)) (v2 := .slice (some ⟨b33, 0, none⟩) 1 1) rfl call98 rfl rfl (laid1_ok (bx := bx) (bo := b6) (n := 18) (k := 1) (at_ := 7) (ay := (some ⟨b33, 0, none⟩)) (cy := 1) (xs := (over (over (over (List.replicate 18 (0 : UInt8)) 0 [hbB i]) 2 [UInt8.ofNat k]) 3 (be i 4))) (ys := [10]) (by decide) (by first | rfl | exact be_length ..) (by decide) (by decide) ((h.fetch (Own 1 (.slice (some ⟨b6, 0, none⟩) 18 18) 18 (bytesV (over (over (over (List.replicate 18 (0 : UInt8)) 0 [hbB i]) 2 [UInt8.ofNat k]) 3 (be i 4))))).fetch (blk bx [.slice (some ⟨b6, 0, none⟩) 18 18] 26)) (Gives.ownO (v := .slice (some ⟨b33, 0, none⟩) ([10]).length 1)))) ?_
  rintro _ w h
  refine WL.nil (W.sr (WL.m (WL.f 2 underlying44 rfl sizeOf3 rfl rfl (WL.l isAgg3 rfl (h.cellB rfl) (WL.v (run_convIn underlying3 underlying27 rfl (by show (0 : Int) ≤ _; omega) (by show _ ≤ (18446744073709551615 : Int); omega)) (WL.e (eff_call call38 (bput_ok (ax := none) (cx := 0) (bs := []) (v := c) (n := 2) h Gives.nilB (by decide) (by decide) (by omega) (by decide))) ?_))))))
  rintro _ w ⟨a39, rfl, h⟩
  have h : On W0 (OwnB (.slice a39 (be c 2).length 2) (be c 2) :: _) w := h
  refine WL.e (eff_call2C (v1 := .int .i64 ((12 : Nat) : Int)) (v2 := .slice a39 2 2) rfl call98 rfl rfl (laid1_ok (bx := bx) (bo := b6) (n := 18) (k := 2) (at_ := 12) (ay := a39) (cy := 2) (xs := (over (over (over (over (List.replicate 18 (0 : UInt8)) 0 [hbB i]) 2 [UInt8.ofNat k]) 3 (be i 4)) 7 [10])) (ys := (be c 2)) (by decide) (by first | rfl | exact be_length ..) (by decide) (by decide) ((h.fetch (Own 1 (.slice (some ⟨b6, 0, none⟩) 18 18) 18 (bytesV (over (over (over (over (List.replicate 18 (0 : UInt8)) 0 [hbB i]) 2 [UInt8.ofNat k]) 3 (be i 4)) 7 [10])))).fetch (blk bx [.slice (some ⟨b6, 0, none⟩) 18 18] 26)) (Gives.ownO (v := .slice a39 ((be c 2)).length 2)))) ?_
  rintro _ w h
  refine WL.nil (W.sr (WL.m (WL.a (WL.nil (W.ret (bodyQ.r1 (v := .slice _ _ _) results20 rfl ?_))))))
  have h : On W0 (blk bx _ _ :: OwnB (.slice (some ⟨b6, 0, none⟩) (senseI k c i).length (senseI k c i).length) (senseI k c i) :: _) w := h
  exact ⟨_, rfl, h.to⟩
theorem sdec2_ok {k c i : Nat} {ax : Option Addr} {cx : Nat} (hk : k < 16) (hc : c < 65536) (hi : i < 4294967296) (h : On W0 L w) (C : Gives L (Bytes (.slice ax (senseI k c i).length cx) (senseI k c i))) : Calls Tryz.prog 19 #[.slice ax (senseI k c i).length cx] w (Ret fun v w' => v = .tuple #[.int .i64 (k : Int), .int .i64 (c : Int), .int .i64 (i : Int), .int .i64 0] ∧ On W0 L w') := by
  refine enter func19 rfl ntmps19 rfl ?_
  have hmx := maxLen_eq
  have hln := senseI_len k c i
  have had_ := (h.readsTo C).addr (by omega)
  obtain ⟨ba, oa, had⟩ := had_
  subst had
  refine W.sr (WL.a (WL.a (WL.a (WL.a (WL.nil (W.seq ?_))))))
  refine W.sr (WL.m (WL.v (run_lenSlice underlying26 rfl) (WL.v (run_lssF rfl rfl (by omega)) (WL.nil (W.condF rfl (W.skip ?_))))))
  refine W.seq (W.sr (WL.m (WL.v (run_indexAddr underlying26 sizeOf5 rfl rfl (by omega) (by omega)) (WL.l isAgg5 rfl ((h.readsTo C).elem (i := 0) (vs := [.int .u8 ((hbB i).toNat : Int)]) (by rw [senseI_len]; decide) (bytes_row (senseI_0 k c i)) 0 _ rfl) (WL.v (run_andNotE (z := 112) rfl rfl (hb_andNot i)) (WL.v (run_neqF rfl rfl (by decide)) ?_))))))
  refine WL.m (WL.m (WL.v (run_indexAddr underlying26 sizeOf5 rfl rfl (by omega) (by omega)) (WL.l isAgg5 rfl ((h.readsTo C).elem (i := 7) (vs := [.int .u8 ((10 : UInt8).toNat : Int)]) (by rw [senseI_len]; decide) (bytes_row (senseI_7 k c i)) 0 _ rfl) (WL.v (run_neqF rfl rfl (by decide)) (WL.v (run_pickF rfl) (WL.nil (W.condF rfl ?_)))))))
  refine W.skip (W.sr (WL.m (WL.e (eff_call call52 (bgetE_ok (p := 12) (n := 2) (bs := (senseI k c i)) (by decide) (by decide) h (Gives.to C))) ?_)))
  rintro _ w ⟨z, ok26, hz26, rfl, h⟩
  have hzz := hz26 (by omega)
  rw [senseI_c, beV_be (by omega)] at hzz
  have hzz := hzz.symm
  subst hzz
  refine WL.m (WL.v (run_extract rfl rfl) (WL.v (run_extract rfl rfl) (WL.a (WL.a (WL.nil (W.seq (W.seq ?_)))))))
  refine W.region (WL.m (WL.v (run_indexAddr underlying26 sizeOf5 rfl rfl (by omega) (by omega)) (WL.l isAgg5 rfl ((h.readsTo C).elem (i := 0) (vs := [.int .u8 ((hbB i).toNat : Int)]) (by rw [senseI_len]; decide) (bytes_row (senseI_0 k c i)) 0 _ rfl) (WL.v (run_andE (z := (if i = 0 then 0 else 128 : Int)) rfl rfl (hb_and i)) (WL.v (run_neq rfl rfl) (WL.nil ?_))))))
  refine W.condIf rfl (fun c13 => ?_) (fun c13 => ?_)
  ·
   have hi0 : ¬ i = 0 := by intro e; rw [if_pos e] at c13; exact c13 rfl
   refine W.sr (WL.m (WL.e (eff_call call52 (bgetE_ok (p := 3) (n := 4) (bs := (senseI k c i)) (by decide) (by decide) h (Gives.to C))) ?_))
   rintro _ w ⟨z2, ok36, hz36, rfl, h⟩
   have hzz := hz36 (by omega)
   rw [senseI_i, beV_be (by omega)] at hzz
   have hzz := hzz.symm
   subst hzz
   refine WL.m (WL.v (run_extract rfl rfl) (WL.v (run_extract rfl rfl) (WL.a (WL.a (WL.nil (W.region (WL.m ?_)))))))
   refine WL.v (run_convInt64 underlying27 underlying3 rfl (by omega) (by omega)) (WL.a (WL.nil (W.sr (WL.m (WL.v (run_indexAddr underlying26 sizeOf5 rfl rfl (by omega) (by omega)) (WL.l isAgg5 rfl ((h.readsTo C).elem (i := 2) (vs := [.int .u8 ((UInt8.ofNat k).toNat : Int)]) (by rw [senseI_len]; decide) (bytes_row (senseI_2 k c i)) 0 _ rfl) ?_))))))
   refine WL.v (run_andN (k := .u8) (m := (UInt8.ofNat k).toNat) (n := 15) rfl rfl (by have := (UInt8.ofNat k).toNat_lt; show _ ≤ (255 : Int); omega) (by decide)) (WL.v (run_convInt64 underlying5 underlying3 rfl (by omega) (by rw [k15 hk]; omega)) (WL.m (WL.v (run_convInt64 underlying27 underlying3 rfl (by omega) (by omega)) (WL.m (WL.a (WL.a (WL.a ?_)))))))
   refine WL.a (WL.nil (W.ret (bodyQ.r4 (v1 := .int .i64 _) (v2 := .int .i64 _) (v3 := .int .i64 _) (v4 := .int .i64 _) results19 rfl rfl rfl rfl ?_)))
   rw [k15 hk]
   exact ⟨rfl, h⟩
  have hi0 : i = 0 := by
    by_cases e : i = 0
    · exact e
    · rw [if_neg e] at c13; exact (c13 (by decide)).elim
  refine W.skip (W.sr (WL.m (WL.v (run_indexAddr underlying26 sizeOf5 rfl rfl (by omega) (by omega)) (WL.l isAgg5 rfl ((h.readsTo C).elem (i := 2) (vs := [.int .u8 ((UInt8.ofNat k).toNat : Int)]) (by rw [senseI_len]; decide) (bytes_row (senseI_2 k c i)) 0 _ rfl) (WL.v (run_andN (k := .u8) (m := (UInt8.ofNat k).toNat) (n := 15) rfl rfl (by have := (UInt8.ofNat k).toNat_lt; show _ ≤ (255 : Int); omega) (by decide)) (WL.v (run_convInt64 underlying5 underlying3 rfl (by omega) (by rw [k15 hk]; omega)) ?_))))))
  refine WL.m (WL.v (run_convInt64 underlying27 underlying3 rfl (by omega) (by omega)) (WL.m (WL.a (WL.a (WL.a (WL.a (WL.nil ?_)))))))
  refine W.ret (bodyQ.r4 (v1 := .int .i64 _) (v2 := .int .i64 _) (v3 := .int .i64 _) (v4 := .int .i64 _) results19 rfl rfl rfl rfl ?_)
  rw [k15 hk]
  exact ⟨by rw [hi0]; rfl, h⟩
end Go.Proofs.YtjfmjbmkkpkppaaGreatDoor
namespace Go.Proofs.YtjfmjbmkkpkppaaGreatDoor
open Go.Proofs.Tryz
open Go Go.Sl Go.Sl.BitM Go.Sl.SpM Go.Sl.RsM Go.Sl.ByM Go.Sl.UnM Go.Sl.TpM
set_option linter.unusedVariables false
set_option linter.unusedSimpArgs false
set_option maxHeartbeats 1000000
set_option maxRecDepth 8000
variable {W0 w : World} {L F : List HProp}
theorem tsense_law {m : Int} (G : Gives L (GlP m)) {host : Int} {kind at_ n key new typ : Int} {force : Bool} {data : List UInt8} {ax : Option Addr} {cx : Nat} (hcm : okCm (⟨kind, at_, n, data, key, new, typ, force⟩ : Cm)) (h : On W0 L w) (C : Gives L (Bytes (.slice ax data.length cx) data)) : Calls Tryz.prog 4 #[.int .i64 host, (⟨kind, at_, n, data, key, new, typ, force⟩ : Cm).val (.slice ax data.length cx)] w (Ret fun v w' => v = .bool true ∧ On W0 L w') := by
  refine enter func4 rfl ntmps4 rfl ?_
  have hmx := maxLen_eq
  refine W.sr (WL.e (eff_box (v := (⟨kind, at_, n, data, key, new, typ, force⟩ : Cm).val (.slice ax data.length cx)) (l := (⟨kind, at_, n, data, key, new, typ, force⟩ : Cm).cells (.slice ax data.length cx)) h rfl rfl) ?_)
  rintro _ w ⟨b3, rfl, h⟩
  have h : On W0 (blk b3 [.int .i64 kind, .int .i64 at_, .int .i64 n, .slice ax data.length cx, .int .u64 key, .int .u64 new, .int .i64 typ, .bool force] 29 :: _) w := h
  refine WL.a (WL.nil (W.seq (W.sr (WL.e (eff_call call6 (tknown_ok (Gives.to G) h)) ?_))))
  rintro _ w ⟨rfl, h⟩
  refine WL.v (run_not rfl) (WL.nil (W.condF rfl (W.skip (W.seq (W.sr (WL.f 3 underlying29 rfl sizeOf26 rfl rfl ?_))))))
  refine WL.l isAgg26 rfl (h.cellB rfl) (WL.v (run_lenSlice underlying26 rfl) (WL.v (run_gtr rfl rfl) (WL.nil ?_)))
  refine W.condIf rfl (fun c7 => ?_) (fun c7 => ?_)
  ·
   refine W.sr (WL.a (WL.nil (W.ret (bodyQ.r1 (v := .bool _) results4 rfl ?_))))
   exact ⟨rfl, h.to⟩
  refine W.skip (W.sr (WL.e (eff_call call17 (unew_ok (n := 8) (pool := []) h)) ?_))
  rintro _ w hv
  rcases hv with ⟨N, hN, h1, h2, bu, ms, rfl, h⟩ | ⟨hn, _⟩
  rotate_left
  · exact (hn (by decide)).elim
  have ob_ : N = 8 := by omega
  obtain rfl := ob_
  refine WL.m (WL.v (run_extract rfl rfl) (WL.v (run_extract rfl rfl) (WL.a (WL.a (WL.nil (W.sr ?_))))))
  refine WL.m (WL.m (WL.v (run_loadB (vs := [.int .i64 _, .int .i64 _, .int .i64 _, .slice _ _ _, .int .u64 _, .int .u64 _, .int .i64 _, .bool _]) h isAgg29 sizeOf29 rfl rfl rfl) (WL.e (eff_call call18 (udo_ok (u := newU 8) (fun i hi => Nat.le_trans (new_small 8 i hi) (by decide)) (goodU_new 8) hcm (h.fetch (UnP 108 151 154 bu [] ms (newU 8))) (Gives.to C) (by omega))) ?_)))
  rintro _ w ⟨u2, r, dv, hdo, rfl, h⟩
  have hfm := Own.form h
  obtain ⟨ad, cd, hdv, _, _, _⟩ := hfm
  subst hdv
  have hsn := okSn_do (u := newU 8) (hh := host) (c := (⟨kind, at_, n, data, key, new, typ, force⟩ : Cm)) (by rfl) (new_okC 8) (show data.length ≤ 100000 by omega)
  rw [hdo] at hsn
  obtain ⟨hgood, hbad⟩ := hsn
  dsimp only at hgood hbad
  refine WL.e (eff_alloc h zeroValue44 rfl) ?_
  rintro _ w ⟨b7, rfl, h⟩
  refine WL.e (eff_storeW (vs := r.cells (.slice ad r.data.length cd)) h sizeOf44 rfl rfl rfl rfl rfl) ?_
  rintro _ w h
  have h : On W0 (blk b7 [.int .i64 r.st, .int .i64 r.key, .int .i64 r.code, .slice ad r.data.length cd, .int .i64 r.info] 44 :: _) w := h
  refine WL.nil (W.seq (W.sr (WL.f 0 underlying44 rfl sizeOf3 rfl rfl (WL.l isAgg3 rfl (h.cellB rfl) (WL.v (run_neq rfl rfl) (WL.nil ?_))))))
  refine W.condIf rfl (fun c14 => ?_) (fun c14 => ?_)
  ·
   have hg := hgood c14
   obtain ⟨g1, g2, g3⟩ := hg
   refine W.sr (WL.f 1 underlying44 rfl sizeOf3 rfl rfl (WL.l isAgg3 rfl (h.cellB rfl) (WL.v (run_eqlT rfl rfl (g1)) (WL.m (WL.f 2 underlying44 rfl sizeOf3 rfl rfl (WL.l isAgg3 rfl (h.cellB rfl) ?_))))))
   refine WL.v (run_eqlT rfl rfl (g2)) (WL.v (run_pickT rfl) (WL.m (WL.f 4 underlying44 rfl sizeOf3 rfl rfl (WL.l isAgg3 rfl (h.cellB rfl) (WL.v (run_eqlT rfl rfl (g3)) (WL.v (run_pickT rfl) (WL.a ?_)))))))
   refine WL.nil (W.ret (bodyQ.r1 (v := .bool _) results4 rfl ?_))
   exact ⟨rfl, h.to⟩
  have hst : r.st = 2 := Decidable.not_not.1 c14
  have hb := hbad hst
  obtain ⟨⟨k1, k2⟩, ⟨k3, k4⟩, ⟨k5, k6⟩, k7⟩ := hb
  have ob_ := Int.eq_ofNat_of_zero_le k1
  obtain ⟨k, hk⟩ := ob_
  have ob_ := Int.eq_ofNat_of_zero_le k3
  obtain ⟨c, hc⟩ := ob_
  have ob_ := Int.eq_ofNat_of_zero_le k5
  obtain ⟨i, hi⟩ := ob_
  rw [hk, hc, hi] at h
  rw [hk] at k2
  rw [hc] at k4
  rw [hi] at k6
  refine W.skip (W.sr (WL.v (run_loadB (vs := [.int .i64 _, .int .i64 _, .int .i64 _, .slice _ _ _, .int .i64 _]) h isAgg44 sizeOf44 rfl rfl rfl) (WL.e (eff_call call20 (senc2_ok (k := k) (c := c) (i := i) (by omega) (by omega) (by omega) h)) ?_)))
  rintro _ w ⟨a44, rfl, h⟩
  refine WL.e (eff_call call19 (sdec2_ok (k := k) (c := c) (i := i) (by omega) (by omega) (by omega) h (Gives.ownO (v := .slice a44 (senseI k c i).length (senseI k c i).length)))) ?_
  rintro _ w ⟨rfl, h⟩
  refine WL.m (WL.v (run_extract rfl rfl) (WL.v (run_extract rfl rfl) (WL.v (run_extract rfl rfl) (WL.v (run_extract rfl rfl) (WL.a (WL.a (WL.a ?_)))))))
  refine WL.a (WL.nil (W.sr (WL.m (WL.v (run_eqlT rfl rfl (rfl)) (WL.m (WL.m ?_))))))
  refine WL.f 1 underlying44 rfl sizeOf3 rfl rfl (WL.l isAgg3 rfl (h.cellB rfl) (WL.v (run_eqlT rfl rfl (rfl)) (WL.v (run_pickT rfl) (WL.m (WL.m (WL.f 2 underlying44 rfl sizeOf3 rfl rfl (WL.l isAgg3 rfl (h.cellB rfl) ?_)))))))
  refine WL.v (run_eqlT rfl rfl (rfl)) (WL.v (run_pickT rfl) (WL.m (WL.m (WL.f 4 underlying44 rfl sizeOf3 rfl rfl (WL.l isAgg3 rfl (h.cellB rfl) (WL.v (run_eqlT rfl rfl (rfl)) (WL.v (run_pickT rfl) ?_)))))))
  refine WL.m (WL.f 3 underlying44 rfl sizeOf26 rfl rfl (WL.l isAgg26 rfl (h.cellB rfl) (WL.v (run_lenSlice underlying26 rfl) (WL.v (run_eqlT rfl rfl (by rw [k7]; rfl)) (WL.v (run_pickT rfl) (WL.a (WL.nil ?_)))))))
  refine W.ret (bodyQ.r1 (v := .bool _) results4 rfl ?_)
  exact ⟨rfl, h.to⟩
end Go.Proofs.YtjfmjbmkkpkppaaGreatDoor
namespace Go.Sl.UnM
open Go Go.Sl Go.Sl.BitM Go.Sl.SpM Go.Sl.RsM Go.Sl.ByM
set_option linter.unusedVariables false
structure CmX where
  kind : Int
  at_ : Int
  n : Int
  ax : Option Addr
  ac : Nat
  bs : List UInt8
  key : Int
  new : Int
  typ : Int
  force : Bool
def CmX.cells (c : CmX) : List Value := [.int .i64 c.kind, .int .i64 c.at_, .int .i64 c.n, .slice c.ax c.bs.length c.ac, .int .u64 c.key, .int .u64 c.new, .int .i64 c.typ, .bool c.force]
def CmX.cm (c : CmX) : Cm := ⟨c.kind, c.at_, c.n, c.bs, c.key, c.new, c.typ, c.force⟩
end Go.Sl.UnM
namespace Go.Proofs.YtjfmjbmkkpkppaaGreatDoor
open Go Go.Sl Go.ChangeShapes Go.WideShapes Go.ChangeAt Go.RowKit
set_option linter.unusedVariables false
theorem returnsLaidShaped {H : Type} {enc : TypeId × Value → H} {a : Assume} {C : Checked} {os : Os} {f : FuncId} {fn : Func} {s : ChangeSpec} {conds : List PathCond} {apart fresh handsOn again : Bool} {X : World → Array Value → Prop}
    (hX : ∀ (w w' : World) (args : Array Value), w.heap = w'.heap → X w args → X w' args)
    (own : ownKnob C.prog.godebug = none) (started : os.Started) (noInit : C.prog.inits.idxOf? f = none) (hfn : C.prog.funcs[f]? = some fn)
    (witness : ∃ (w : World) (tape : Tape) (i : Input), w.os = os ∧ (w.forCall tape i).Shaped C.prog ∧ i.vars = [] ∧ Input.okWide C.prog (w.forCall tape i) .any w.heap.size f i ∧
      ((s.pre enc C.prog fn conds apart (w.forCall tape i).memory i.args ∧ X (w.forCall tape i).memory i.args) ∧ sizedMet enc C.prog fn (OpenSpec.ofChange s) apart (w.forCall tape i).memory i.args) ∧ a.holds C.prog (lone (Frame.enter C.prog f i.args .normal) [] (w.forCall tape i)))
    (contract : ∀ (W : World) (base : Nat) (args : Array Value) (ds gs : List (DataW H)) (before : List MemPlace),
      (∀ (j : Nat) t v, fn.params[j]? = some t → args[j]? = some v → Value.okWide C.prog W .any base t v) →
      DataW.Whole enc C.prog fn.params.toList s.vars apart W args.toList ds gs before →
      X W args → W.ShapedOpen C.prog →
      Calls C.prog f args W fun e W' => ∃ v, e = .returned v ∧ s.post enc C.prog fn apart fresh handsOn again W args v W') :
    ReturnsInHanded a C os f .any (fun w args => (s.pre enc C.prog fn conds apart w args ∧ X w args) ∧ sizedMet enc C.prog fn (OpenSpec.ofChange s) apart w args) (s.post enc C.prog fn apart fresh handsOn again) := by
  refine returnsInHanded_of_calls own started noInit witness ?_
  intro w tape i _ hsh _ hok hpre hholds
  obtain ⟨_, _, _, fn', hfn', _, _, _, _, hval⟩ := hok
  have e : fn' = fn := Option.some.inj (hfn'.symm.trans hfn)
  subst e
  obtain ⟨⟨⟨ds, gs, before, hw, _⟩, hx⟩, _⟩ := hpre
  have hw' := DataW.Whole.of_heap (w' := w.forCall tape i) (by rfl) hw
  refine (contract (w.forCall tape i) w.heap.size i.args ds gs before hval hw' (hX _ _ _ (by rfl) hx) hsh).mono fun e W' ⟨v, he, hp⟩ => ?_
  subst he
  exact ChangeSpec.post_blind hp
noncomputable def laidL : List (String × DataW Unit) := [("math/bits.deBruijn32tab", Rows.laid_math_bits_deBruijn32tab), ("math/bits.deBruijn64tab", Rows.laid_math_bits_deBruijn64tab), ("internal/strconv.uint64pow10", Rows.laid_internal_strconv_uint64pow10), ("unicode/utf8.acceptRanges", Rows.laid_unicode_utf8_acceptRanges), ("strconv.ErrRange", Rows.laid_strconv_ErrRange), ("strconv.ErrSyntax", Rows.laid_strconv_ErrSyntax), ("unicode/utf8.first", Rows.laid_unicode_utf8_first)]
theorem laid_none : (laidL.all fun x => x.2.handleName?.isNone) = true := by kernel_rfl
theorem pow_data : (Rows.laid_internal_strconv_uint64pow10 : DataW Unit) = .agg (Lib.pow10Tab.map fun z => .lit (.int .u64 z)) := by kernel_rfl
theorem pow_cells {W : World} (h : laidMetH Tryz.prog laidL W) : ∃ e fr, W.heap[1]? = some (.cells (Lib.pow10Tab.map fun z => Value.int .u64 z).toArray e fr) := by
  rw [MakeChecks.laidMetH_plain _ _ _ laid_none] at h
  obtain ⟨ps, hv, _, _⟩ := h
  obtain ⟨_, _, _, _, _, _, _, _, _, _, hv, _⟩ := hv
  obtain ⟨_, _, _, _, _, _, _, _, _, _, hv, _⟩ := hv
  obtain ⟨g, t, cs, fuel, p, q, hg, ht, hv, hd, _, _⟩ := hv
  obtain rfl := Option.some.inj ((show Tryz.prog.globalNamed "internal/strconv.uint64pow10" = some 1 by kernel_rfl).symm.trans hg)
  obtain rfl := Option.some.inj ((show (Tryz.prog.globals[1]?).map (·.type) = some 284 by kernel_rfl).symm.trans ht)
  obtain ⟨xs, m, _, ex, hcl, hl, hel⟩ := DataW.trod_array Tryz.underlying284 hd
  have c5 : Tryz.prog.cellsOf 27 = 1 := by kernel_rfl
  have c20 : Tryz.prog.cellsOf 284 = 20 := by kernel_rfl
  rw [c20] at hcl
  rw [pow_data] at ex
  have e3 : (xs.map (·.1)) = Lib.pow10Tab.map fun n => .lit (.int .u64 n) := (DataW.agg.inj (Prod.mk.inj ex).1).symm
  have hcs : cs.toList = Lib.pow10Tab.map fun z => Value.int .u64 z := by
    apply List.ext_getElem?
    intro r
    by_cases hr : r < 20
    · have hE := hel r hr
      rw [c5, Nat.mul_one, List.getElem?_eq_getElem (by omega)] at hE
      obtain ⟨z, e1, e2, _⟩ := DataW.trod_int Tryz.underlying27 hE
      have e4 : (xs.map (·.1))[r]? = (Lib.pow10Tab.map fun n => (DataW.lit (.int .u64 n) : DataW Unit))[r]? := by rw [e3]
      have hpl := Lib.pow10Tab_length
      rw [List.getElem?_map, List.getElem?_map, List.getElem?_eq_getElem (by omega : r < xs.length), List.getElem?_eq_getElem (by omega : r < Lib.pow10Tab.length), e2] at e4
      simp only [Option.map_some, Option.some.injEq, DataW.lit.injEq, Lit.int.injEq, true_and] at e4
      have h0 : ((cs.toList.drop r).take 1)[0]? = some (.int .u64 z) := by rw [e1]; rfl
      have h1 : cs.toList[r]? = some (.int .u64 z) := by simpa using h0
      rw [h1, List.getElem?_map, List.getElem?_eq_getElem (by omega : r < Lib.pow10Tab.length), Option.map_some, e4]
    · rw [List.getElem?_eq_none (by omega), List.getElem?_eq_none (by rw [List.length_map, Lib.pow10Tab_length]; omega)]
  have hcs2 : cs = (Lib.pow10Tab.map fun z => Value.int .u64 z).toArray := by rw [← hcs]
  subst hcs2
  unfold World.var? at hv
  rw [hg] at hv
  simp only [Option.bind_some] at hv
  split at hv
  · rename_i e fr hh
    cases hv
    exact ⟨_, _, hh⟩
  · cases hv
theorem glp_of {W : World} (hS : W.ShapedOpen Tryz.prog) (h : laidMetH Tryz.prog laidL W) : ∃ m, Gives [old W] (GlP m) := by
  obtain ⟨e1, fr1, h1⟩ := pow_cells h
  have hz : ((begin Tryz.prog (fun _ _ => 0) default).world.heap[0]?).bind Obj.row? = some (#[.int .i64 0], 3) := by kernel_rfl
  obtain ⟨m, hm⟩ := cell_of_shapedOpen_int (k := .i64) hS (g := 0) (of_decide_eq_true (by kernel_rfl)) hz rfl (by kernel_rfl) (by kernel_rfl) Tryz.underlying3
  obtain ⟨cs, hh, hs, _⟩ := hS.1 0 _ _ (of_decide_eq_true (by kernel_rfl)) hz
  have hcs : cs = #[.int .i64 m] := by
    have h0 : cs[0]? = some (.int .i64 m) := by simpa [World.cell?, hh] using hm
    have hs1 : cs.size = 1 := hs
    apply Array.ext
    · rw [hs1]; rfl
    · intro i hi1 hi2
      have : i = 0 := by omega
      subst this
      simpa [Array.getElem?_eq_getElem hi1] using h0
  subst hcs
  have l0 : 0 < W.heap.size := (Array.getElem?_eq_some_iff.1 hh).1
  have l1 : 1 < W.heap.size := (Array.getElem?_eq_some_iff.1 h1).1
  refine ⟨m, fun hp_ H => ?_⟩
  obtain ⟨hh1, s, ho⟩ := H.fact
  refine ⟨⟨_, _, s _ _ ((ho 0 l0).trans hh)⟩, ⟨e1, fr1, s _ _ ((ho 1 l1).trans h1)⟩⟩
end Go.Proofs.YtjfmjbmkkpkppaaGreatDoor
