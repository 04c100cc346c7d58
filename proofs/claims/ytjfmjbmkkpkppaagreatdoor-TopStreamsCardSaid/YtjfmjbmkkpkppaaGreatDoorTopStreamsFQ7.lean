/-
  Texts of a proof as one.
-/
import Derived.Test.YtjfmjbmkkpkppaaGreatDoorTopStreamsFQ6
import Derived.Test.YtjfmjbmkkpkppaaGreatDoorTopStreamsFQ1
import Derived.Test.YtjfmjbmkkpkppaaGreatDoorRows
import Derived.Test.YtjfmjbmkkpkppaaGreatDoorTopStreamsFQ4
import Derived.ProofKit
import Derived.OpenShut
import Derived.LaidMore
import Derived.Lay
import Derived.Shelf.Vars
set_option linter.unusedVariables false
set_option linter.unusedSimpArgs false
namespace Go.Proofs.YtjfmjbmkkpkppaaGreatDoor
open Go.Proofs.Tryz
open Go Go.Sl Go.Sl.BitM Go.Sl.SpM Go.Sl.RsM Go.Sl.ByM Go.Sl.UnM Go.Sl.TpM
set_option maxHeartbeats 1000000
set_option maxRecDepth 8000
variable {W0 w : World} {L F : List HProp}
theorem rheld_ok {br : Nat} {r : Rdr} (h : On W0 (RdrP 117 br r :: L) w) : Calls Tryz.prog 30 #[.pointer (some ⟨br, 0, none⟩)] w (Ret fun v w' => v = .int .i64 (r.b.length : Int) ∧ On W0 (RdrP 117 br r :: L) w') := by
 refine enter func30 rfl ntmps30 rfl ?_
 have ho := openRd h
 obtain ⟨a, c, h⟩ := ho
 refine W.sr (WL.z (W.sr (WL.m (WL.n rfl ?_))))
 refine WL.c 0 underlying117 rfl sizeOf26 rfl isAgg26 h rfl (WL.v (run_lenSlice underlying26 rfl) (WL.z (W.ret (bodyQ.r1 (v := .int .i64 _) results30 rfl ?_))))
 exact ⟨rfl, closeRd h⟩
theorem deliver_step {i k n j : Nat} {xs : List (List UInt8)} {p : List UInt8} {c : Cn} (h : xs[j]? = some p) : deliver i k (n + j) (xs.drop j) c = deliver i k (n + (j + 1)) (xs.drop (j + 1)) (if 100 ≤ i ∨ (n + j + 1) % k ≠ 0 then c.inP p else c) := by
 have hg := (List.getElem?_eq_some_iff.1 h).1
 have he := (List.getElem?_eq_some_iff.1 h).2
 rw [List.drop_eq_getElem_cons hg, he, deliver]; rfl
theorem chunks_len (c : Cn) : ∀ f s, (c.chunks f s).length ≤ f
 | 0, _ => Nat.le_refl _
 | f + 1, s => by
   unfold Cn.chunks
   split
   · exact Nat.zero_le _
   have := chunks_len c f (s + min (c.out.length - s) 1024)
   rw [List.length_cons]; omega
theorem outL_len (c : Cn) : c.outL.length ≤ 5 := by
 have h := chunks_len c 5 c.sent
 unfold Cn.outL
 split
 · exact Nat.zero_le _
 dsimp only
 split
 · split
   · exact (show (1 : Nat) ≤ 5 by decide)
   exact h
 split
 · exact (show (1 : Nat) ≤ 5 by decide)
 exact Nat.zero_le _
theorem ownPd {i n b : Nat} (h : On W0 (Own 1 (.slice (some ⟨b, 0, none⟩) n n) n (bytesV (List.replicate n 0)) :: L) w) : On W0 (OwnB (.slice (some ⟨b, 0, none⟩) (pdK i n).data.length n) (pdK i n).data :: L) w := by
 have e : (pdK i n).data.length = n := List.length_replicate
 have e2 : OwnB (.slice (some ⟨b, 0, none⟩) (pdK i n).data.length n) (pdK i n).data = Own 1 (.slice (some ⟨b, 0, none⟩) n n) n (bytesV (List.replicate n 0)) := by
   show Own 1 _ (pdK i n).data.length (bytesV (pdK i n).data) = _
   rw [e]; rfl
 rw [e2]; exact h
theorem penck_ok {i n b : Nat} (hok : okPd (pdK i n)) (h : On W0 L w) (C : Gives L (Bytes (.slice (some ⟨b, 0, none⟩) (pdK i n).data.length n) (pdK i n).data)) : Calls Tryz.prog 10 #[.agg #[.int .i64 0, .bool false, .int .i64 0, .int .i64 0, .int .u32 (i : Int), .int .u32 0, .int .u32 0, .int .u32 0, .int .u32 0, .int .u32 0, .int .u8 0, .int .u8 0, .int .u8 0, .int .u8 0, .int .u8 0, .int .u8 0, .int .u8 0, .int .u8 0, .int .u8 0, .int .u8 0, .int .u8 0, .int .u8 0, .int .u8 0, .int .u8 0, .int .u8 0, .int .u8 0, .slice (some ⟨b, 0, none⟩) n n]] w (Ret fun v w' => ∃ a, v = .tuple #[.slice a (encP (pdK i n)).length (encP (pdK i n)).length, .int .i64 0] ∧ On W0 (OwnB (.slice a (encP (pdK i n)).length (encP (pdK i n)).length) (encP (pdK i n)) :: L) w') := by
 have e : (pdK i n).data.length = n := List.length_replicate
 have q := pencode_ok (p := pdK i n) (ad := some ⟨b, 0, none⟩) (cd := n) hok h C
 rw [e] at q
 exact q
theorem map_get {rows : List BX} {j : Nat} {y : BX} (h : rows[j]? = some y) : (rows.map BX.b)[j]? = some y.b := by rw [List.getElem?_map, h]; rfl
theorem sinv_new (S : List UInt8) : SInv S (newC 1 true) (newC 2 false) S := ⟨⟨rfl, rfl, rfl, (fun q => by cases q), (show (0 : Nat) < 4294967296 by decide), (fun q => by cases q), rfl, rfl, rfl, Nat.zero_le _, Nat.zero_le _⟩, ⟨rfl, rfl, (fun q => by cases q), (show (0 : Nat) < 4294967296 by decide), (fun q => by cases q), rfl, rfl, rfl⟩, rfl, Nat.le_refl _, Nat.le_refl _⟩
theorem rinv_new (ps : List Pd) : RInv ps 0 0 ⟨[], 0⟩ := ⟨by show [] = ((catP ps).take 0).drop _; rw [List.take_zero, List.drop_nil], rfl, (show (0 : Nat) ≤ 0 by decide), Nat.zero_le _⟩
theorem prog_start (S : List UInt8) (a b : Cn) : Prog S 0 a b := .inr ⟨fun q => absurd q (by decide), fun q => absurd q (by decide), fun q => absurd q (by decide), fun q => absurd q (by decide), by decide⟩
theorem nextJ {l : List UInt8} {G gg br : Nat} {r : Rdr} {v : Value} {w' : World} (hnc : (r.next.1.2 = false ∧ r.next.2 = r ∧ (G = (catP (psK l l.length)).length → gg = (psK l l.length).length ∧ r.b = [])) ∨ (∃ p, (psK l l.length)[gg]? = some p ∧ r.next.1 = (p, true) ∧ RInv (psK l l.length) G (gg + 1) r.next.2))
   (hv : (r.next.1.2 = false ∧ v = .tuple #[.agg (Pd.cells zPd (.slice none 0 0)).toArray, .bool false] ∧ On W0 (RdrP 117 br r.next.2 :: L) w') ∨ (r.next.1.2 = true ∧ r.next.1.1.cdb.length = 16 ∧ ∃ a c, v = .tuple #[.agg (Pd.cells r.next.1.1 (.slice a r.next.1.1.data.length c)).toArray, .bool true] ∧ On W0 (OwnB (.slice a r.next.1.1.data.length c) r.next.1.1.data :: RdrP 117 br r.next.2 :: L) w')) : ((G = (catP (psK l l.length)).length → gg = l.length ∧ r.b = []) ∧ v = .tuple #[.agg (Pd.cells zPd (.slice none 0 0)).toArray, .bool false] ∧ On W0 (RdrP 117 br r :: L) w') ∨ (gg < l.length ∧ RInv (psK l l.length) G (gg + 1) r.next.2 ∧ ∃ a c, v = .tuple #[.agg (Pd.cells (pdK gg (l.getD gg 0).toNat) (.slice a (pdK gg (l.getD gg 0).toNat).data.length c)).toArray, .bool true] ∧ On W0 (OwnB (.slice a (pdK gg (l.getD gg 0).toNat).data.length c) (pdK gg (l.getD gg 0).toNat).data :: RdrP 117 br r.next.2 :: L) w') := by
 rcases hv with ⟨h1, h2, h3⟩ | ⟨h1, h2, a, c, h3, h4⟩
 · rcases hnc with ⟨_, q1, q2⟩ | ⟨p, _, q, _⟩
   · rw [psK_len] at q2
     rw [q1] at h3
     exact .inl ⟨q2, h2, h3⟩
   rw [q] at h1; cases h1
 rcases hnc with ⟨q, _⟩ | ⟨p, q1, q2, q3⟩
 · rw [q] at h1; cases h1
 obtain ⟨q4, q5⟩ := psK_get q1
 rw [q2] at h3 h4
 rw [q5] at h3 h4
 exact .inr ⟨q4, q3, a, c, h3, h4⟩
theorem tstreams_law {m : Int} (G : Gives L (GlP m)) {l : List UInt8} {ax : Option Addr} {cx : Nat} {k : Int} (h : On W0 L w) (C : Gives L (Bytes (.slice ax l.length cx) l)) : Calls Tryz.prog 5 #[.slice ax l.length cx, .int .i64 k] w (Ret fun v w' => v = .bool true ∧ On W0 L w') := by
 refine enter func5 rfl ntmps5 rfl ?_
 have hmx := maxLen_eq
 have hbd := (h.readsTo C).bounds
 obtain ⟨hbc, hbm⟩ := hbd
 refine W.sr (WL.z (W.seq (W.sr (WL.e (eff_call call6 (tknown_ok (Gives.to G) h)) ?_))))
 rintro _ w ⟨rfl, h⟩
 refine WL.v (run_not rfl) (WL.nil (W.cs (W.seq (W.sr (WL.m ?_)))))
 refine WL.v (run_lenSlice underlying26 rfl) ?_
 refine WL.q (run_gtr rfl rfl) (fun c25 => ?_) (fun c25 => ?_)
 ·
  refine WL.m (WL.s (WL.s (WL.pt (WL.m (WL.s (WL.s (WL.pt ?_)))))))
  refine WL.nil (W.ct (W.sr (WL.z (W.ret (bodyQ.r1 (v := .bool _) results5 rfl ?_)))))
  exact ⟨rfl, h.to⟩
 refine WL.m (WL.m ?_)
 refine WL.q (run_lss rfl rfl) (fun c28 => ?_) (fun c28 => ?_)
 ·
  refine WL.pf (WL.m (WL.s (WL.s (WL.pt (WL.nil (W.ct (W.seq ?_)))))))
  refine W.region (WL.z (W.ret (bodyQ.r1 (v := .bool _) results5 rfl ?_)))
  exact ⟨rfl, h.to⟩
 refine WL.pf (WL.m (WL.m (WL.v (run_gtr rfl rfl) (WL.pf (WL.nil ?_)))))
 refine W.condIf rfl (fun c7 => ?_) (fun c7 => ?_)
 ·
  refine W.sr (WL.z (W.ret (bodyQ.r1 (v := .bool _) results5 rfl ?_)))
  exact ⟨rfl, h.to⟩
 refine W.skip (W.seq ?_)
 have ob_ := Int.eq_ofNat_of_zero_le (show 0 ≤ k by omega)
 obtain ⟨kn, hkn⟩ := ob_
 subst hkn
 refine W.region (WL.e (eff_call call21 (cnew_ok (own := 1) (first := true) (by decide) h)) ?_)
 rintro _ w ⟨ba, rfl, h⟩
 refine WL.z (W.sr (WL.e (eff_call call21 (cnew_ok (own := 2) (first := false) (by decide) h)) ?_))
 rintro _ w ⟨bb, rfl, h⟩
 refine WL.z (W.sr (WL.e (eff_call call22 (newRd_ok h)) ?_))
 rintro _ w ⟨br, rfl, h⟩
 refine WL.z (W.sr (WL.z (W.seq (W.seq ?_))))
 refine W.region (WL.z (W.block ?_))
 refine W.loop (fun (j : Nat) env w => j ≤ l.length ∧ ∃ (e : Env) (aa : Option Addr) (ca : Nat), env = mkE e [(0, .slice ax l.length cx), (1, .int .i64 (kn : Int)), (5, .pointer (some ⟨ba, 0, none⟩)), (6, .pointer (some ⟨bb, 0, none⟩)), (7, .pointer (some ⟨br, 0, none⟩)), (8, .slice aa ((catP (psK l j))).length ca), (9, .int .i64 (j : Int))] ∧ On W0 (OwnB (.slice aa ((catP (psK l j))).length ca) ((catP (psK l j))) :: RdrP 117 br ⟨[], 0⟩ :: ConnP 115 bb (newC 2 false) :: ConnP 115 ba (newC 1 true) :: L) w) (fun j => l.length - j) (0) ?_ ?_
 · have h := h.ownEmpty 1 none
   have h : On W0 (OwnB (.slice none ((catP (psK l 0))).length 0) ((catP (psK l 0))) :: _) w := h
   exact ⟨Nat.zero_le _, _, none, 0, mkE_of ⟨rfl, rfl, rfl, rfl, rfl, rfl, rfl, trivial⟩, h.to⟩
 clear h
 rintro j env w ⟨hj, e, aa, ca, rfl, h⟩
 refine W.seq (W.sr (WL.m (WL.m (WL.v (run_lenSlice underlying26 rfl) (WL.v (run_lss rfl rfl) (WL.nil ?_))))))
 refine W.condIf rfl (fun c19 => ?_) (fun c19 => ?_)
 ·
  refine W.skip (W.seq ?_)
  have ob_ : ∃ x, l[j]? = some x := ⟨l[j]'(by omega), List.getElem?_eq_getElem _⟩
  obtain ⟨x, hx⟩ := ob_
  have hxd : l.getD j 0 = x := by rw [List.getD_eq_getElem?_getD, hx]; rfl
  have hxl := x.toNat_lt
  have had_ := (h.readsTo C).addr (by omega)
  obtain ⟨bl, ol, hal⟩ := had_
  have hok := pdK_ok (i := j) (n := x.toNat) (by omega) (by omega)
  have hel := pdK_len (i := j) (n := x.toNat) (by omega) (by omega)
  have hsl := psK_cat (l := l) j (by omega)
  have hdl : (pdK j x.toNat).data.length = x.toNat := List.length_replicate
  refine W.block (W.sr (WL.m (WL.v (run_convIn underlying3 underlying24 rfl (by show (0 : Int) ≤ _; omega) (by show _ ≤ (4294967295 : Int); omega)) (WL.m (WL.m (WL.v (run_indexAddr underlying26 sizeOf5 (congrArg (fun q => Value.slice q l.length cx) hal) rfl (by omega) (by omega)) ?_))))))
  refine WL.l isAgg5 rfl ((by have C2 := C; rw [hal] at C2; exact (h.readsTo C2).elem (i := j) (vs := [.int .u8 (x.toNat : Int)]) (by omega) (bytes_row hx) 0 _ rfl)) (WL.v (run_convInt64 underlying5 underlying3 rfl (by omega) (by omega)) (WL.e (eff_make (n := x.toNat) (bytes := 1) h (rfl) (rfl) underlying26 rfl rfl rfl rfl rfl (by omega) (by omega)) ?_))
  rintro _ w ⟨b51, rfl, h⟩
  rw [← zerosB] at h
  have h := ownPd (i := j) h
  refine WL.v (run_buildS (pl := qp2) (out := qv1) underlying36 zeroValue36 (fun w => by kernel_rfl) rfl (⟨⟨_, _, rfl, rfl, by decide⟩, ⟨⟨_, _, rfl, rfl, by decide⟩, ⟨⟨_, _, rfl, rfl, by decide⟩, trivial⟩⟩⟩) rfl) ?_
  refine WL.e (eff_call call10 (penck_ok (i := j) (n := x.toNat) (b := b51) hok h (Gives.ownO (v := .slice (some ⟨b51, 0, none⟩) (pdK j x.toNat).data.length x.toNat)))) ?_
  rintro _ w ⟨a53, rfl, h⟩
  refine WL.m (WL.v (run_extract rfl rfl) (WL.v (run_extract rfl rfl) (WL.a (WL.z (W.seq (W.seq ?_))))))
  refine W.region (WL.m (WL.v (run_neqF rfl rfl (rfl)) (WL.nil (W.cs (W.region (WL.m ?_))))))
  refine WL.m (WL.e (eff_app (c2 := (encP (pdK j x.toNat)).length) (bytes := 1) (h.own (.slice aa (catP (psK l j)).length ca)) rfl rfl (h.cellsO (v := .slice a53 (encP (pdK j x.toNat)).length (encP (pdK j x.toNat)).length)) underlying26 rfl rfl rfl rfl rfl (by omega) (by omega) bytes_one) ?_)
  rintro _ w ⟨a60, c60, hv60, h⟩
  have es : (catP (psK l (j + 1))) = (catP (psK l j)) ++ (encP (pdK j x.toNat)) := by rw [psK_succ, hxd]
  have el : (catP (psK l j)).length + (encP (pdK j x.toNat)).length = (catP (psK l (j + 1))).length := by rw [es, List.length_append]
  have ev : bytesV (catP (psK l j)) ++ bytesV (encP (pdK j x.toNat)) = bytesV (catP (psK l (j + 1))) := by rw [es]; simp [bytesV]
  rw [ev, el] at h
  rw [el] at hv60
  subst hv60
  refine WL.z (W.region (WL.m (WL.v (run_incN rfl rfl (by omega)) (WL.z ?_))))
  exact ⟨j + 1, ⟨by omega, _, a60, c60, mkE_of ⟨rfl, rfl, rfl, rfl, rfl, rfl, rfl, trivial⟩, h.to⟩, by show l.length - (j + 1) < l.length - j; omega⟩
 refine W.exit (W.seq ?_)
 have ej : j = l.length := by omega
 subst ej
 have hSl := psK_cat (l := l) l.length (by omega)
 have hT : (catP (psK l l.length)).length ≤ 8000 := by omega
 have hpl := psK_len l l.length
 have hpo := psK_ok (l := l) (k := l.length) (by omega)
 refine W.region (WL.z (W.sr (WL.z (W.seq ?_))))
 refine W.sr (WL.z (W.block ?_))
 refine W.loop (fun (i : Nat) env w => i ≤ 300 ∧ ∃ (e : Env) (a b : Cn) (al : List UInt8) (aa : Option Addr) (ca n g : Nat) (r : Rdr), SInv (catP (psK l l.length)) a b al ∧ RInv (psK l l.length) b.got g r ∧ (1 ≤ i → b.got = (catP (psK l l.length)).length → g = (psK l l.length).length ∧ r.b = []) ∧ (100 ≤ i → Prog (catP (psK l l.length)) (min (i - 100) 5) a b) ∧ n ≤ 10 * i ∧ env = mkE e [(0, .slice ax l.length cx), (1, .int .i64 (kn : Int)), (5, .pointer (some ⟨ba, 0, none⟩)), (6, .pointer (some ⟨bb, 0, none⟩)), (7, .pointer (some ⟨br, 0, none⟩)), (8, .slice aa (al).length ca), (12, .int .i64 (n : Int)), (13, .int .i64 (g : Int)), (14, .int .i64 (i : Int))] ∧ On W0 (ConnP 115 ba a :: ConnP 115 bb b :: RdrP 117 br r :: OwnB (.slice aa (al).length ca) (al) :: L) w) (fun i => 300 - i) (0) ?_ ?_
 · exact ⟨by decide, _, newC 1 true, newC 2 false, (catP (psK l l.length)), aa, ca, 0, 0, ⟨[], 0⟩, sinv_new _, rinv_new _, (fun q => absurd q (by decide)), (fun q => absurd q (by decide)), (by decide), mkE_of ⟨rfl, rfl, rfl, rfl, rfl, rfl, rfl, rfl, rfl, trivial⟩, h.to⟩
 clear h
 rintro i env w ⟨hi, e, a, b, al, aa, ca, n, g, r, hsi, hri0, hsk0, hpr, hn10, rfl, h⟩
 refine W.seq (W.sr (WL.m (WL.v (run_lss rfl rfl) (WL.nil ?_))))
 refine W.condIf rfl (fun c37 => ?_) (fun c37 => ?_)
 ·
  refine W.skip (W.seq ?_)
  have hall_ := hsi.ia.sum
  have hal1 : al.length ≤ 10000 := by omega
  refine W.block (W.sr (WL.m (WL.m (WL.m (WL.e (eff_call call23 (csend_ok (bs := al) (c := a) (by omega) (h.fetch (ConnP 115 ba a)) (Gives.ownO (v := .slice aa al.length ca)))) ?_)))))
  rintro _ w ⟨rfl, h⟩
  have hot := ownTail (l := (a.sendN al)) (h.own (.slice aa al.length ca)) (sendN_le _ _)
  obtain ⟨hWc, aw2, cw2, hcut, h⟩ := hot
  refine WL.v (run_cutLV (n := al.length) (l := (a.sendN al)) underlying26 sizeOf5 rfl rfl (sendN_le _ _) hcut) (WL.z (W.sr (WL.m (WL.e (eff_call call24 (ctick_ok (h.fetch (ConnP 115 ba (a.send al))))) ?_))))
  rintro _ w h
  refine WL.nil (W.sr (WL.m (WL.e (eff_call call24 (ctick_ok (h.fetch (ConnP 115 bb b)))) ?_)))
  rintro _ w h
  refine WL.nil (W.sr (WL.m (WL.e (eff_call call25 (cout_ok (h.fetch (ConnP 115 ba ((a.send al).tick))))) ?_)))
  rintro _ w ⟨rows, al1, hrows, rfl, h⟩
  refine WL.z (W.sr (WL.m (WL.e (eff_call call25 (cout_ok (h.fetch (ConnP 115 bb b.tick)))) ?_)))
  rintro _ w ⟨rows2, al2, hrows2, rfl, h⟩
  refine WL.z (W.seq (W.seq ?_))
  have hr1 := (Own.bounds (h.own (.slice al1 rows.length rows.length))).2
  have hr2 := (Own.bounds (h.own (.slice al2 rows2.length rows2.length))).2
  have hsm1 : ∀ {k : Nat} {y : BX}, rows[k]? = some y → y.b.length ≤ 2000 := fun {k y} hx => outL_small ((a.send al).tick) y.b (by rw [← hrows]; exact List.mem_map_of_mem (List.mem_of_getElem? hx))
  have hsm2 : ∀ {k : Nat} {y : BX}, rows2[k]? = some y → y.b.length ≤ 2000 := fun {k y} hx => outL_small b.tick y.b (by rw [← hrows2]; exact List.mem_map_of_mem (List.mem_of_getElem? hx))
  have hl1 : rows.length ≤ 5 := by have := outL_len ((a.send al).tick); rw [← hrows, List.length_map] at this; exact this
  have hl2 : rows2.length ≤ 5 := by have := outL_len b.tick; rw [← hrows2, List.length_map] at this; exact this
  refine W.region (WL.z (W.block ?_))
  refine W.loop (fun (j : Nat) env w => j ≤ rows.length ∧ ∃ (e : Env) (c : Cn), deliver i kn (n + j) ((rows.map BX.b).drop j) c = deliver i kn n (rows.map BX.b) b.tick.outC ∧ env = mkE e [(0, .slice ax l.length cx), (1, .int .i64 (kn : Int)), (5, .pointer (some ⟨ba, 0, none⟩)), (6, .pointer (some ⟨bb, 0, none⟩)), (7, .pointer (some ⟨br, 0, none⟩)), (8, .slice aw2 ((al.drop (a.sendN al))).length cw2), (12, .int .i64 ((n + j : Nat) : Int)), (13, .int .i64 (g : Int)), (14, .int .i64 (i : Int)), (15, .slice al1 rows.length rows.length), (16, .slice al2 rows2.length rows2.length), (17, .int .i64 (j : Int))] ∧ On W0 (ConnP 115 bb c :: ConnP 115 ba ((a.send al).tick).outC :: OwnB (.slice aw2 ((al.drop (a.sendN al))).length cw2) ((al.drop (a.sendN al))) :: RdrP 117 br r :: Own 1 (.slice al1 rows.length rows.length) rows.length (rows.map BX.v) :: Big OwnBX rows :: Own 1 (.slice al2 rows2.length rows2.length) rows2.length (rows2.map BX.v) :: Big OwnBX rows2 :: L) w) (fun j => rows.length - j) (0) ?_ ?_
  · exact ⟨Nat.zero_le _, _, _, rfl, mkE_of ⟨rfl, rfl, rfl, rfl, rfl, rfl, rfl, rfl, rfl, rfl, rfl, rfl, trivial⟩, h.to⟩
  clear h
  rintro j env w ⟨hj, e, c, hde, rfl, h⟩
  refine W.seq (W.sr (WL.m (WL.m (WL.v (run_lenSlice underlying64 rfl) (WL.v (run_lss rfl rfl) (WL.nil ?_))))))
  refine W.condIf rfl (fun c50 => ?_) (fun c50 => ?_)
  ·
   refine W.skip (W.seq ?_)
   have ob_ : ∃ y, rows[j]? = some y := ⟨rows[j]'(by omega), List.getElem?_eq_getElem _⟩
   obtain ⟨y, hx⟩ := ob_
   have hys : y.b.length ≤ 2000 := hsm1 hx
   have had_ := (h.cellsO (v := .slice al1 rows.length rows.length)).addr (by omega)
   obtain ⟨bal, oal, hal⟩ := had_
   have hst := deliver_step (i := i) (k := kn) (n := n) (c := c) (map_get hx)
   rw [hde] at hst
   refine W.block (W.sr (WL.m (WL.v (run_incN rfl rfl (by omega)) (WL.z (W.seq ?_)))))
   refine W.region (WL.m ?_)
   refine WL.q (run_geq rfl rfl) (fun c87 => ?_) (fun c87 => ?_)
   ·
    refine WL.m (WL.s (WL.s (WL.s (WL.s (WL.pt (WL.nil (W.ct ?_)))))))
    refine W.region (WL.m (WL.m (WL.m (WL.v (run_indexAddr underlying64 sizeOf26 (congrArg (fun q => Value.slice q rows.length rows.length) hal) rfl (by omega) (by omega)) (WL.l isAgg26 rfl ((by rw [hal] at h; exact (h.cellsO (v := .slice (some ⟨bal, oal, none⟩) rows.length rows.length)).elem (i := j) (vs := [.slice y.1 y.2.2.length y.2.1]) (by omega) (row_v hx) 0 _ rfl)) (WL.e (eff_call call26 (cin_ok (bs := y.b) (by omega) (h.fetch (ConnP 115 bb c)) (Gives.to (givesBig hx)))) ?_))))))
    rintro _ w h
    refine WL.nil (W.region (WL.m (WL.v (run_incN rfl rfl (by omega)) (WL.z ?_))))
    exact ⟨j + 1, ⟨by omega, _, _, (by rw [hst, if_pos (.inl (by omega))]), mkE_of ⟨rfl, rfl, rfl, rfl, rfl, rfl, rfl, rfl, rfl, rfl, rfl, rfl, trivial⟩, h.to⟩, by show rows.length - (j + 1) < rows.length - j; omega⟩
   refine WL.m (WL.m (WL.m (WL.v (run_remN rfl rfl (by omega)) (WL.v (run_neq rfl rfl) (WL.pf (WL.nil ?_))))))
   refine W.condIf rfl (fun c56 => ?_) (fun c56 => ?_)
   ·
    refine W.region (WL.m (WL.m (WL.m (WL.v (run_indexAddr underlying64 sizeOf26 (congrArg (fun q => Value.slice q rows.length rows.length) hal) rfl (by omega) (by omega)) (WL.l isAgg26 rfl ((by rw [hal] at h; exact (h.cellsO (v := .slice (some ⟨bal, oal, none⟩) rows.length rows.length)).elem (i := j) (vs := [.slice y.1 y.2.2.length y.2.1]) (by omega) (row_v hx) 0 _ rfl)) (WL.e (eff_call call26 (cin_ok (bs := y.b) (by omega) (h.fetch (ConnP 115 bb c)) (Gives.to (givesBig hx)))) ?_))))))
    rintro _ w h
    refine WL.nil (W.region (WL.m (WL.v (run_incN rfl rfl (by omega)) (WL.z ?_))))
    exact ⟨j + 1, ⟨by omega, _, _, (by rw [hst, if_pos (.inr (by omega))]), mkE_of ⟨rfl, rfl, rfl, rfl, rfl, rfl, rfl, rfl, rfl, rfl, rfl, rfl, trivial⟩, h.to⟩, by show rows.length - (j + 1) < rows.length - j; omega⟩
   refine W.skip (W.region (WL.m (WL.v (run_incN rfl rfl (by omega)) (WL.z ?_))))
   exact ⟨j + 1, ⟨by omega, _, _, (by rw [hst, if_neg (by omega)]), mkE_of ⟨rfl, rfl, rfl, rfl, rfl, rfl, rfl, rfl, rfl, rfl, rfl, rfl, trivial⟩, h.to⟩, by show rows.length - (j + 1) < rows.length - j; omega⟩
  refine W.exit (W.seq (W.seq ?_))
  have ej : j = rows.length := by omega
  subst ej
  have hBF : c = deliver i kn n (rows.map BX.b) b.tick.outC := by rw [← hde, List.drop_of_length_le (by rw [List.length_map]; exact Nat.le_refl _)]; rfl
  have ob_ : ∃ BF, BF = c := ⟨_, rfl⟩
  obtain ⟨BF, hbf⟩ := ob_
  rw [← hbf] at h hBF
  clear hde hbf
  refine W.region (WL.z (W.block ?_))
  refine W.loop (fun (j : Nat) env w => j ≤ rows2.length ∧ ∃ (e : Env) (c : Cn), deliver i kn (n + rows.length + j) ((rows2.map BX.b).drop j) c = deliver i kn (n + rows.length) (rows2.map BX.b) (a.send al).tick.outC ∧ env = mkE e [(0, .slice ax l.length cx), (1, .int .i64 (kn : Int)), (5, .pointer (some ⟨ba, 0, none⟩)), (6, .pointer (some ⟨bb, 0, none⟩)), (7, .pointer (some ⟨br, 0, none⟩)), (8, .slice aw2 ((al.drop (a.sendN al))).length cw2), (12, .int .i64 ((n + rows.length + j : Nat) : Int)), (13, .int .i64 (g : Int)), (14, .int .i64 (i : Int)), (15, .slice al1 rows.length rows.length), (16, .slice al2 rows2.length rows2.length), (18, .int .i64 (j : Int))] ∧ On W0 (ConnP 115 ba c :: ConnP 115 bb BF :: OwnB (.slice aw2 ((al.drop (a.sendN al))).length cw2) ((al.drop (a.sendN al))) :: RdrP 117 br r :: Own 1 (.slice al1 rows.length rows.length) rows.length (rows.map BX.v) :: Big OwnBX rows :: Own 1 (.slice al2 rows2.length rows2.length) rows2.length (rows2.map BX.v) :: Big OwnBX rows2 :: L) w) (fun j => rows2.length - j) (0) ?_ ?_
  · exact ⟨Nat.zero_le _, _, _, rfl, mkE_of ⟨rfl, rfl, rfl, rfl, rfl, rfl, rfl, rfl, rfl, rfl, rfl, rfl, trivial⟩, h.to⟩
  clear h
  rintro j env w ⟨hj, e, c, hde, rfl, h⟩
  refine W.seq (W.sr (WL.m (WL.m (WL.v (run_lenSlice underlying64 rfl) (WL.v (run_lss rfl rfl) (WL.nil ?_))))))
  refine W.condIf rfl (fun c64 => ?_) (fun c64 => ?_)
  ·
   refine W.skip (W.seq ?_)
   have ob_ : ∃ y, rows2[j]? = some y := ⟨rows2[j]'(by omega), List.getElem?_eq_getElem _⟩
   obtain ⟨y, hx⟩ := ob_
   have hys : y.b.length ≤ 2000 := hsm2 hx
   have had_ := (h.cellsO (v := .slice al2 rows2.length rows2.length)).addr (by omega)
   obtain ⟨bal, oal, hal⟩ := had_
   have hst := deliver_step (i := i) (k := kn) (n := (n + rows.length)) (c := c) (map_get hx)
   rw [hde] at hst
   refine W.block (W.sr (WL.m (WL.v (run_incN rfl rfl (by omega)) (WL.z (W.seq ?_)))))
   refine W.region (WL.m ?_)
   refine WL.q (run_geq rfl rfl) (fun c109 => ?_) (fun c109 => ?_)
   ·
    refine WL.m (WL.s (WL.s (WL.s (WL.s (WL.pt (WL.nil (W.ct ?_)))))))
    refine W.region (WL.m (WL.m (WL.m (WL.v (run_indexAddr underlying64 sizeOf26 (congrArg (fun q => Value.slice q rows2.length rows2.length) hal) rfl (by omega) (by omega)) (WL.l isAgg26 rfl ((by rw [hal] at h; exact (h.cellsO (v := .slice (some ⟨bal, oal, none⟩) rows2.length rows2.length)).elem (i := j) (vs := [.slice y.1 y.2.2.length y.2.1]) (by omega) (row_v hx) 0 _ rfl)) (WL.e (eff_call call26 (cin_ok (bs := y.b) (by omega) (h.fetch (ConnP 115 ba c)) (Gives.to (givesBig hx)))) ?_))))))
    rintro _ w h
    refine WL.nil (W.region (WL.m (WL.v (run_incN rfl rfl (by omega)) (WL.z ?_))))
    exact ⟨j + 1, ⟨by omega, _, _, (by rw [hst, if_pos (.inl (by omega))]), mkE_of ⟨rfl, rfl, rfl, rfl, rfl, rfl, rfl, rfl, rfl, rfl, rfl, rfl, trivial⟩, h.to⟩, by show rows2.length - (j + 1) < rows2.length - j; omega⟩
   refine WL.m (WL.m (WL.m (WL.v (run_remN rfl rfl (by omega)) (WL.v (run_neq rfl rfl) (WL.pf (WL.nil ?_))))))
   refine W.condIf rfl (fun c70 => ?_) (fun c70 => ?_)
   ·
    refine W.region (WL.m (WL.m (WL.m (WL.v (run_indexAddr underlying64 sizeOf26 (congrArg (fun q => Value.slice q rows2.length rows2.length) hal) rfl (by omega) (by omega)) (WL.l isAgg26 rfl ((by rw [hal] at h; exact (h.cellsO (v := .slice (some ⟨bal, oal, none⟩) rows2.length rows2.length)).elem (i := j) (vs := [.slice y.1 y.2.2.length y.2.1]) (by omega) (row_v hx) 0 _ rfl)) (WL.e (eff_call call26 (cin_ok (bs := y.b) (by omega) (h.fetch (ConnP 115 ba c)) (Gives.to (givesBig hx)))) ?_))))))
    rintro _ w h
    refine WL.nil (W.region (WL.m (WL.v (run_incN rfl rfl (by omega)) (WL.z ?_))))
    exact ⟨j + 1, ⟨by omega, _, _, (by rw [hst, if_pos (.inr (by omega))]), mkE_of ⟨rfl, rfl, rfl, rfl, rfl, rfl, rfl, rfl, rfl, rfl, rfl, rfl, trivial⟩, h.to⟩, by show rows2.length - (j + 1) < rows2.length - j; omega⟩
   refine W.skip (W.region (WL.m (WL.v (run_incN rfl rfl (by omega)) (WL.z ?_))))
   exact ⟨j + 1, ⟨by omega, _, _, (by rw [hst, if_neg (by omega)]), mkE_of ⟨rfl, rfl, rfl, rfl, rfl, rfl, rfl, rfl, rfl, rfl, rfl, rfl, trivial⟩, h.to⟩, by show rows2.length - (j + 1) < rows2.length - j; omega⟩
  refine W.exit (W.seq ?_)
  have ej : j = rows2.length := by omega
  subst ej
  have hAF : c = deliver i kn (n + rows.length) (rows2.map BX.b) (a.send al).tick.outC := by rw [← hde, List.drop_of_length_le (by rw [List.length_map]; exact Nat.le_refl _)]; rfl
  have eB : BF = (rb i kn n a b al) := by rw [hBF, hrows]; rfl
  have eA : c = (rfa i kn n a b al) := by
    rw [hAF, hrows2]
    have e1 : n + rows.length = rn n a al := by unfold rn ra; rw [← hrows, List.length_map]
    rw [e1]; rfl
  rw [eB, eA] at h
  clear hde hAF hBF eA eB
  have hro := round_ok (i := i) (k := kn) (n := n) hT hsi
  obtain ⟨hro1, hro2, hro3, hro4, hro5⟩ := hro
  have hinl : (rb i kn n a b al).inb.length ≤ 8000 := by rw [hro4, List.length_drop, List.length_take]; omega
  have hrl : r.b.length ≤ 8000 := by rw [hri0.b, List.length_drop, List.length_take]; omega
  have hr2 := put_inv (x := (rb i kn n a b al).inb) hri0 hro2 (by omega) hro4
  have hpg : 100 ≤ i + 1 → Prog (catP (psK l l.length)) (min (i + 1 - 100) 5) (rfa i kn n a b al) (rb i kn n a b al).recv := by
    intro q
    by_cases hq : 100 ≤ i
    · have := hro5 hq _ (hpr hq)
      rw [show min (i + 1 - 100) 5 = min (min (i - 100) 5 + 1) 5 by omega]; exact this
    rw [show min (i + 1 - 100) 5 = 0 by omega]; exact prog_start _ _ _
  refine W.region (WL.m (WL.m (WL.e (eff_call call28 (crecv_ok (c := (rb i kn n a b al)) (h.fetch (ConnP 115 bb (rb i kn n a b al))))) ?_)))
  rintro _ w ⟨a124, rfl, h⟩
  refine WL.e (eff_call call27 (rput_ok (r := r) (bs := (rb i kn n a b al).inb) (by omega) (h.fetch (RdrP 117 br r)) (Gives.ownO (v := .slice a124 (rb i kn n a b al).inb.length (rb i kn n a b al).inb.length)))) ?_
  rintro _ w h
  refine WL.nil (W.block ?_)
  refine W.loop (fun (gg : Nat) env w => ∃ (e : Env) (r2 : Rdr), RInv (psK l l.length) (rb i kn n a b al).got gg r2 ∧ env = mkE e [(0, .slice ax l.length cx), (1, .int .i64 (kn : Int)), (5, .pointer (some ⟨ba, 0, none⟩)), (6, .pointer (some ⟨bb, 0, none⟩)), (7, .pointer (some ⟨br, 0, none⟩)), (8, .slice aw2 ((al.drop (a.sendN al))).length cw2), (12, .int .i64 ((n + rows.length + rows2.length : Nat) : Int)), (13, .int .i64 (gg : Int)), (14, .int .i64 (i : Int))] ∧ On W0 (RdrP 117 br r2 :: ConnP 115 bb (rb i kn n a b al).recv :: ConnP 115 ba (rfa i kn n a b al) :: OwnB (.slice aw2 ((al.drop (a.sendN al))).length cw2) ((al.drop (a.sendN al))) :: L) w) (fun gg => (psK l l.length).length - gg) (g) ?_ ?_
  · exact ⟨_, _, hr2, mkE_of ⟨rfl, rfl, rfl, rfl, rfl, rfl, rfl, rfl, rfl, trivial⟩, h.to⟩
  clear h
  rintro gg env w ⟨e, r2, hri, rfl, h⟩
  have hnc := next_cases hpo hro3 hri
  have hr2l : r2.b.length ≤ 8000 := by rw [hri.b, List.length_drop, List.length_take]; omega
  refine W.block (W.sr (WL.m (WL.e (eff_call call29 (rnext_ok (r := r2) (by omega) h)) ?_)))
  rintro _ w hv
  have hv2 := nextJ hnc hv
  clear hnc hv
  rcases hv2 with ⟨hstk, rfl, h⟩ | ⟨hgl, hrn, ad, cd, rfl, h⟩
  ·
   refine WL.m (WL.v (run_extract rfl rfl) (WL.v (run_extract rfl rfl) (WL.e (eff_alloc h zeroValue36 rfl) ?_)))
   rintro _ w ⟨b19, rfl, h⟩
   refine WL.e (eff_storeW (vs := (Pd.cells zPd (.slice none 0 0))) h sizeOf36 rfl rfl rfl rfl rfl) ?_
   rintro _ w h
   refine WL.z (W.seq (W.sr (WL.m (WL.v (run_not rfl) (WL.nil ?_)))))
   refine W.ct (W.exit (W.region (WL.m (WL.v (run_incN rfl rfl (by omega)) (WL.z ?_)))))
   exact ⟨i + 1, ⟨by omega, _, (rfa i kn n a b al), (rb i kn n a b al).recv, (al.drop (a.sendN al)), aw2, cw2, n + rows.length + rows2.length, gg, r2, hro1, hri, (fun _ q => by rw [hpl]; exact hstk q), hpg, (by omega), mkE_of ⟨rfl, rfl, rfl, rfl, rfl, rfl, rfl, rfl, rfl, trivial⟩, h.to⟩, by show 300 - (i + 1) < 300 - i; omega⟩
  refine WL.m (WL.v (run_extract rfl rfl) (WL.v (run_extract rfl rfl) (WL.e (eff_alloc h zeroValue36 rfl) ?_)))
  rintro _ w ⟨b19, rfl, h⟩
  refine WL.e (eff_storeW (vs := Pd.cells (pdK gg (l.getD gg 0).toNat) (.slice ad (pdK gg (l.getD gg 0).toNat).data.length cd)) h sizeOf36 rfl rfl rfl (cells_one rfl) rfl) ?_
  rintro _ w h
  refine WL.z (W.seq (W.sr (WL.m (WL.v (run_not rfl) (WL.nil ?_)))))
  refine W.cs (W.seq (W.seq ?_))
  have ob_ : ∃ x, l[gg]? = some x := ⟨l[gg]'(by omega), List.getElem?_eq_getElem _⟩
  obtain ⟨x, hx⟩ := ob_
  have hxd : l.getD gg 0 = x := by rw [List.getD_eq_getElem?_getD, hx]; rfl
  have hxl := x.toNat_lt
  have had_ := (h.readsTo C).addr (by omega)
  obtain ⟨bl, ol, hal⟩ := had_
  have hdl : (pdK gg (l.getD gg 0).toNat).data.length = x.toNat := by rw [hxd]; exact List.length_replicate
  refine W.draw Tryz.follows h (fun w h => ?_)
  refine WT.m 0 rfl (WT.m 1 rfl (WT.p 2 rfl (fun w' => (run_lenSlice underlying26 rfl)) (WT.p 3 rfl (fun w' => run_geqF rfl rfl (by omega)) (WT.m 4 rfl (WT.f 5 4 rfl underlying36 rfl sizeOf24 rfl rfl (WT.l 6 rfl isAgg24 rfl (h.cellB (v := .int .u32 (gg : Int)) rfl) (WT.m 7 rfl ?_)))))))
  refine WT.p 8 rfl (fun w' => (run_convIn underlying3 underlying24 rfl (by show (0 : Int) ≤ _; omega) (by show _ ≤ (4294967295 : Int); omega))) (WT.p 9 rfl (fun w' => run_neqF rfl rfl (rfl)) (WT.p 10 rfl (fun w' => (run_pickF rfl)) (WT.m 11 rfl (WT.f 12 26 rfl underlying36 rfl sizeOf26 rfl rfl (WT.l 13 rfl isAgg26 rfl (h.cellB (cells_data rfl)) (WT.p 14 rfl (fun w' => (run_lenSlice underlying26 rfl)) (WT.m 15 rfl ?_)))))))
  refine WT.m 16 rfl (WT.p 17 rfl (fun w' => (run_indexAddr underlying26 sizeOf5 (congrArg (fun q => Value.slice q l.length cx) hal) rfl (by omega) (by omega))) (WT.l 18 rfl isAgg5 rfl ((by have C2 := C; rw [hal] at C2; exact (h.readsTo C2).elem (i := gg) (vs := [.int .u8 (x.toNat : Int)]) (by omega) (bytes_row hx) 0 _ rfl)) (WT.p 19 rfl (fun w' => (run_convInt64 underlying5 underlying3 rfl (by omega) (by omega))) (WT.p 20 rfl (fun w' => run_neqF rfl rfl (by omega)) (WT.p 21 rfl (fun w' => (run_pickF rfl)) (WT.dn (W.cf ?_)))))))
  refine W.skip (W.region (WL.m (WL.v (run_incN rfl rfl (by omega)) (WL.z ?_))))
  exact ⟨gg + 1, ⟨_, _, hrn, mkE_of ⟨rfl, rfl, rfl, rfl, rfl, rfl, rfl, rfl, rfl, trivial⟩, h.to⟩, by show (psK l l.length).length - (gg + 1) < (psK l l.length).length - gg; omega⟩
 refine W.exit (W.seq ?_)
 have ei : i = 300 := by omega
 subst ei
 have hp5 := hpr (by decide)
 have hgt : b.got = (catP (psK l l.length)).length := by
   rcases hp5 with q | q
   · exact q
   exact absurd q.2.2.2.2 (by decide)
 have hsk := hsk0 (by decide) hgt
 obtain ⟨hgl, hrb⟩ := hsk
 rw [hpl] at hgl
 have hrz : r.b.length = 0 := by rw [hrb]; rfl
 have hre := hri0.err
 refine W.region (WL.m (WL.m (WL.v (run_lenSlice underlying26 rfl) (WL.v (run_eqlT rfl rfl (by omega)) (WL.m (WL.m (WL.e (eff_call call30 (rheld_ok (h.fetch (RdrP 117 br r)))) ?_)))))))
 rintro _ w ⟨rfl, h⟩
 refine WL.v (run_eqlT rfl rfl (by omega)) (WL.pt (WL.m (WL.m (WL.e (eff_call call31 (rerr_ok (h.fetch (RdrP 117 br r)))) ?_))))
 rintro _ w ⟨rfl, h⟩
 refine WL.v (run_eqlT rfl rfl (by omega)) (WL.pt (WL.z (W.ret (bodyQ.r1 (v := .bool _) results5 rfl ?_))))
 exact ⟨rfl, h.to⟩
end Go.Proofs.YtjfmjbmkkpkppaaGreatDoor
namespace Go.Proofs.YtjfmjbmkkpkppaaGreatDoor
open Go Go.Sl Go.ChangeShapes Go.WideShapes Go.ChangeAt Go.RowKit
theorem returnsLaidShaped {H : Type} {enc : TypeId × Value → H} {a : Assume} {C : Checked} {os : Os} {f : FuncId} {fn : Func} {s : ChangeSpec} {conds : List PathCond} {apart fresh handsOn again : Bool} {X : World → Array Value → Prop}
   (hX : ∀ (w w' : World) (args : Array Value), w.heap = w'.heap → X w args → X w' args)
   (own : ownKnob C.prog.godebug = none) (started : os.Started) (noInit : C.prog.inits.idxOf? f = none) (hfn : C.prog.funcs[f]? = some fn)
   (witness : ∃ (w : World) (tape : Tape) (i : Input), w.os = os ∧ (w.forCall tape i).Shaped C.prog ∧ i.vars = [] ∧ Input.okWide C.prog (w.forCall tape i) .any w.heap.size f i ∧
     ((s.pre enc C.prog fn conds apart (w.forCall tape i).memory i.args ∧ X (w.forCall tape i).memory i.args) ∧ sizedMet enc C.prog fn (OpenSpec.ofChange s) apart (w.forCall tape i).memory i.args) ∧ a.holds C.prog (lone (Frame.enter C.prog f i.args .normal) [] (w.forCall tape i)))
   (contract : ∀ (W : World) (base : Nat) (args : Array Value) (ds gs : List (DataW H)) (before : List MemPlace),
     (∀ (j : Nat) t v, fn.params[j]? = some t → args[j]? = some v → Value.okWide C.prog W .any base t v) →
     DataW.Whole enc C.prog fn.params.toList s.vars apart W args.toList ds gs before →
     X W args → W.ShapedOpen C.prog →
     Calls C.prog f args W fun e W' => ∃ v, e = .returned v ∧ s.post enc C.prog fn apart fresh handsOn again W args v W') :
   ReturnsInHanded a C os f .any (fun w args => (s.pre enc C.prog fn conds apart w args ∧ X w args) ∧ sizedMet enc C.prog fn (OpenSpec.ofChange s) apart w args) (s.post enc C.prog fn apart fresh handsOn again) := by
 refine returnsInHanded_of_calls own started noInit witness ?_
 intro w tape i _ hsh _ hok hpre hholds
 obtain ⟨_, _, _, fn', hfn', _, _, _, _, hval⟩ := hok
 have e : fn' = fn := Option.some.inj (hfn'.symm.trans hfn)
 subst e
 obtain ⟨⟨⟨ds, gs, before, hw, _⟩, hx⟩, _⟩ := hpre
 have hw' := DataW.Whole.of_heap (w' := w.forCall tape i) (by rfl) hw
 refine (contract (w.forCall tape i) w.heap.size i.args ds gs before hval hw' (hX _ _ _ (by rfl) hx) hsh).mono fun e W' ⟨v, he, hp⟩ => ?_
 subst he
 exact ChangeSpec.post_blind hp
noncomputable def laidL : List (String × DataW Unit) := [("math/bits.deBruijn32tab", Rows.laid_math_bits_deBruijn32tab), ("math/bits.deBruijn64tab", Rows.laid_math_bits_deBruijn64tab), ("internal/strconv.uint64pow10", Rows.laid_internal_strconv_uint64pow10), ("unicode/utf8.acceptRanges", Rows.laid_unicode_utf8_acceptRanges), ("strconv.ErrRange", Rows.laid_strconv_ErrRange), ("strconv.ErrSyntax", Rows.laid_strconv_ErrSyntax), ("unicode/utf8.first", Rows.laid_unicode_utf8_first)]
theorem laid_none : (laidL.all fun x => x.2.handleName?.isNone) = true := by kernel_rfl
theorem pow_data : (Rows.laid_internal_strconv_uint64pow10 : DataW Unit) = .agg (Lib.pow10Tab.map fun z => .lit (.int .u64 z)) := by kernel_rfl
theorem pow_cells {W : World} (h : laidMetH Tryz.prog laidL W) : ∃ e fr, W.heap[1]? = some (.cells (Lib.pow10Tab.map fun z => Value.int .u64 z).toArray e fr) := by
 rw [MakeChecks.laidMetH_plain _ _ _ laid_none] at h
 obtain ⟨ps, hv, _, _⟩ := h
 obtain ⟨_, _, _, _, _, _, _, _, _, _, hv, _⟩ := hv
 obtain ⟨_, _, _, _, _, _, _, _, _, _, hv, _⟩ := hv
 obtain ⟨g, t, cs, fuel, p, q, hg, ht, hv, hd, _, _⟩ := hv
 obtain rfl := Option.some.inj ((show Tryz.prog.globalNamed "internal/strconv.uint64pow10" = some 1 by kernel_rfl).symm.trans hg)
 obtain rfl := Option.some.inj ((show (Tryz.prog.globals[1]?).map (·.type) = some 284 by kernel_rfl).symm.trans ht)
 obtain ⟨xs, m, _, ex, hcl, hl, hel⟩ := DataW.trod_array Tryz.underlying284 hd
 have c5 : Tryz.prog.cellsOf 27 = 1 := by kernel_rfl
 have c20 : Tryz.prog.cellsOf 284 = 20 := by kernel_rfl
 rw [c20] at hcl
 rw [pow_data] at ex
 have e3 : (xs.map (·.1)) = Lib.pow10Tab.map fun n => .lit (.int .u64 n) := (DataW.agg.inj (Prod.mk.inj ex).1).symm
 have hcs : cs.toList = Lib.pow10Tab.map fun z => Value.int .u64 z := by
   apply List.ext_getElem?
   intro r
   by_cases hr : r < 20
   · have hE := hel r hr
     rw [c5, Nat.mul_one, List.getElem?_eq_getElem (by omega)] at hE
     obtain ⟨z, e1, e2, _⟩ := DataW.trod_int Tryz.underlying27 hE
     have e4 : (xs.map (·.1))[r]? = (Lib.pow10Tab.map fun n => (DataW.lit (.int .u64 n) : DataW Unit))[r]? := by rw [e3]
     have hpl := Lib.pow10Tab_length
     rw [List.getElem?_map, List.getElem?_map, List.getElem?_eq_getElem (by omega : r < xs.length), List.getElem?_eq_getElem (by omega : r < Lib.pow10Tab.length), e2] at e4
     simp only [Option.map_some, Option.some.injEq, DataW.lit.injEq, Lit.int.injEq, true_and] at e4
     have h0 : ((cs.toList.drop r).take 1)[0]? = some (.int .u64 z) := by rw [e1]; rfl
     have h1 : cs.toList[r]? = some (.int .u64 z) := by simpa using h0
     rw [h1, List.getElem?_map, List.getElem?_eq_getElem (by omega : r < Lib.pow10Tab.length), Option.map_some, e4]
   rw [List.getElem?_eq_none (by omega), List.getElem?_eq_none (by rw [List.length_map, Lib.pow10Tab_length]; omega)]
 have hcs2 : cs = (Lib.pow10Tab.map fun z => Value.int .u64 z).toArray := by rw [← hcs]
 subst hcs2
 unfold World.var? at hv
 rw [hg] at hv
 simp only [Option.bind_some] at hv
 split at hv
 · rename_i e fr hh
   cases hv
   exact ⟨_, _, hh⟩
 cases hv
theorem glp_of {W : World} (hS : W.ShapedOpen Tryz.prog) (h : laidMetH Tryz.prog laidL W) : ∃ m, Gives [old W] (GlP m) := by
 obtain ⟨e1, fr1, h1⟩ := pow_cells h
 have hz : ((begin Tryz.prog (fun _ _ => 0) default).world.heap[0]?).bind Obj.row? = some (#[.int .i64 0], 3) := by kernel_rfl
 obtain ⟨m, hm⟩ := cell_of_shapedOpen_int (k := .i64) hS (g := 0) (of_decide_eq_true (by kernel_rfl)) hz rfl (by kernel_rfl) (by kernel_rfl) Tryz.underlying3
 obtain ⟨cs, hh, hs, _⟩ := hS.1 0 _ _ (of_decide_eq_true (by kernel_rfl)) hz
 have hcs : cs = #[.int .i64 m] := by
   have h0 : cs[0]? = some (.int .i64 m) := by simpa [World.cell?, hh] using hm
   have hs1 : cs.size = 1 := hs
   apply Array.ext
   · rw [hs1]; rfl
   intro i hi1 hi2
   have : i = 0 := by omega
   subst this
   simpa [Array.getElem?_eq_getElem hi1] using h0
 subst hcs
 have l0 : 0 < W.heap.size := (Array.getElem?_eq_some_iff.1 hh).1
 have l1 : 1 < W.heap.size := (Array.getElem?_eq_some_iff.1 h1).1
 refine ⟨m, fun hp_ H => ?_⟩
 obtain ⟨hh1, s, ho⟩ := H.fact
 refine ⟨⟨_, _, s _ _ ((ho 0 l0).trans hh)⟩, ⟨e1, fr1, s _ _ ((ho 1 l1).trans h1)⟩⟩
end Go.Proofs.YtjfmjbmkkpkppaaGreatDoor
