/-
  The document's unit as it lies: what it reads may be shared, nobody writes it. No program is named here.
-/
import Derived.Test.YtjbgiingimhnnaaGreatUnitBytesFQ6
import Derived.Test.YtjbgiingimhnnaaGreatUnitBytesFQ3
import Derived.KernelRfl
import Derived.Test.YtjbgiingimhnnaaGreatUnitBytesFQ1
namespace Go.Sl.UnM
open Go Go.Sl Go.Sl.BitM Go.Sl.SpM Go.Sl.RsM Go.Sl.ByM
set_option linter.unusedVariables false
set_option linter.unusedSimpArgs false
/-- Rows that nobody writes any more: size, slice, elements, cells. -/
abbrev PoolK := List (Nat × Value × Nat × List Value)
abbrev inB (pc : PoolK) (v : Value) (bs : List UInt8) : Prop := (1, v, bs.length, bytesV bs) ∈ pc
section
variable {W0 w : World} {L : List HProp} {pc pc' : PoolK}
end
def subK (pc pc' : PoolK) : Prop := ∀ p ∈ pc, p ∈ pc'
theorem subK.trans {a b c : PoolK} (h1 : subK a b) (h2 : subK b c) : subK a c := fun p h => h2 p (h1 p h)
/-! ### Blocks -/
def RSpP (T b : Nat) (pc : PoolK) (s : Sp) : HProp := Ex fun (x : Value × Value × List UInt8) => Pack (wfS s ∧ inB pc x.1 s.d ∧ inB pc x.2.1 x.2.2 ∧ x.2.2.length ≤ 1000)
  [blk b [.int .i64 (s.N : Int), x.1, x.2.1] T]
section
variable {W0 w : World} {L : List HProp} {T b : Nat} {s : Sp} {pc pc' : PoolK}
theorem openR (H : On W0 (RSpP T b pc s :: L) w) : ∃ bv mv m, (wfS s ∧ inB pc bv s.d ∧ inB pc mv m ∧ m.length ≤ 1000) ∧ On W0 (blk b [.int .i64 (s.N : Int), bv, mv] T :: L) w := by
  obtain ⟨⟨bv, mv, m⟩, H⟩ := H.ex
  obtain ⟨h1, H⟩ := H.unpack
  exact ⟨bv, mv, m, h1, H⟩
theorem closeR {bv mv : Value} {m : List UInt8} (h1 : wfS s ∧ inB pc bv s.d ∧ inB pc mv m ∧ m.length ≤ 1000) (H : On W0 (blk b [.int .i64 (s.N : Int), bv, mv] T :: L) w) : On W0 (RSpP T b pc s :: L) w :=
  On.exI (bv, mv, m) (On.pack h1 H)
end
/-! ### The unit -/
/-- What was done: its number, what was told, where that lies. -/
structure DX where
  id : Int
  r : Rp
  v : Value
def DX.cells (d : DX) : List Value := .int .u64 d.id :: d.r.cells d.v
def DX.out (d : DX) : Int × Rp := (d.id, d.r)
structure RX where
  codes : List Int
  floor : Int
  D : List DX
  wv : Value
  dv : Value
def RX.s (x : RX) : Gs := ⟨x.codes, x.floor, x.D.map DX.out⟩
section
variable {W0 w : World} {L : List HProp} {TU TS TT bu bs bt : Nat} {pc pc' : PoolK} {u : Un} {xs : List RX} {x x' : RX} {i : Nat}
end
end Go.Sl.UnM
/-
  A unit and its twin: what stays true of both. No program is named here.
-/
namespace Go.Sl.UnM
open Go Go.Sl Go.Sl.BitM Go.Sl.SpM Go.Sl.RsM Go.Sl.ByM
set_option linter.unusedVariables false
set_option linter.unusedSectionVars false
theorem goodU_setD {u : Un} {i : Nat} {fl : Int} {D : List (Int × Rp)} (h8 : u.g.length = 8) (hi : i < 8) (h : goodU u) : goodU (u.putG i ((u.guest i).setD fl D)) := ⟨h.1, setD_okC h8 hi h.2⟩
section
variable {W0 w : World} {L : List HProp} {pool pool' : PoolL}
end
end Go.Sl.UnM
/-
  A unit: commands by their numbers: the contracts. Lines of walks printed by a program of the prover's.
-/
namespace Go.Proofs.YtjbgiingimhnnaaGreat
open Go.Proofs.Tryz
open Go Go.Sl Go.Sl.BitM Go.Sl.SpM Go.Sl.RsM Go.Sl.ByM Go.Sl.UnM
set_option linter.unusedVariables false
set_option linter.unusedSimpArgs false
set_option maxHeartbeats 1000000
set_option maxRecDepth 8000
variable {W0 w : World} {L F : List HProp}
theorem uuonce_ok {bu i : Nat} {id floor : Int} {u : Un} {pool : PoolL} {ms : List Nat} {kind at_ n key new typ : Int} {force : Bool} {data : List UInt8} {ax : Option Addr} {cx : Nat} (hi : i < 8) (hsm : small 999000 u) (hgu_ : goodU u) (hcm : okCm (⟨kind, at_, n, data, key, new, typ, force⟩ : Cm)) (hdl : ∀ x ∈ (u.guest i).done, x.2.data.length ≤ 1000000) (h : On W0 (UnP 68 105 113 bu pool ms u :: Pool pool :: L) w) (C : Gives L (Bytes (.slice ax data.length cx) data)) (hd : data.length ≤ 1000000) : Calls Tryz.prog 16 #[.pointer (some ⟨bu, 0, none⟩), .int .i64 (i : Int), .int .u64 id, .int .u64 floor, (⟨kind, at_, n, data, key, new, typ, force⟩ : Cm).val (.slice ax data.length cx)] w (Ret fun v w' => ∃ u' r fresh dv ms' pool', onceM u i id floor (⟨kind, at_, n, data, key, new, typ, force⟩ : Cm) = (u', r, fresh) ∧ v = .tuple #[r.val dv, .bool fresh] ∧ (∀ p ∈ pool, p ∈ pool') ∧ On W0 (OwnB dv r.data :: UnP 68 105 113 bu pool' ms' u' :: Pool pool' :: L) w') := by
  refine enter func16 rfl ntmps16 rfl ?_
  have hmx := maxLen_eq
  have ob_ := openU h
  obtain ⟨bs, bt, gs, hm, hl, h⟩ := ob_
  have ob_ := row_of hm hl hi
  obtain ⟨g, hg, hgu⟩ := ob_
  have h := Big.open hg (h.fetch (Big (GOwn pool) gs))
  have ob_ := openG h
  obtain ⟨hok, h⟩ := ob_
  have ob1_ := Own.bounds h
  obtain ⟨hb1, hb2⟩ := ob1_
  have hig : i < gs.length := by have := (List.getElem?_eq_some_iff.1 hg).1; omega
  refine W.seq (W.region (WL.eff (eff_box (v := .agg _) (l := (⟨kind, at_, n, data, key, new, typ, force⟩ : Cm).cells (.slice ax data.length cx)) h rfl rfl) rfl rfl ?_))
  rintro _ w ⟨b9, rfl, h⟩
  have h : On W0 (blk b9 [.int .i64 kind, .int .i64 at_, .int .i64 n, .slice ax data.length cx, .int .u64 key, .int .u64 new, .int .i64 typ, .bool force] 25 :: _) w := h
  refine WL.eff (eff_alloc h zeroValue36 rfl) rfl rfl ?_
  rintro _ w ⟨b10, rfl, h⟩
  refine WL.val run_assign rfl rfl (WL.nil (W.seq (W.region (WL.val (run_buildS (pl := [(0, 1), (1, 1), (2, 1), (3, 1), (4, 1)]) (out := [.int .i64 _, .int .i64 _, .int .i64 _, .slice _ _ _, .int .i64 _]) underlying36 zeroValue36 (fun w => by kernel_rfl) rfl (⟨⟨_, _, rfl, rfl, by decide⟩, trivial⟩) rfl) rfl rfl (WL.eff (eff_alloc h zeroValue36 rfl) rfl rfl ?_)))))
  rintro _ w ⟨b12, rfl, h⟩
  refine WL.eff (eff_storeW (vs := [.int .i64 _, .int .i64 _, .int .i64 _, .slice _ _ _, .int .i64 _]) h sizeOf36 rfl rfl rfl rfl rfl) rfl rfl ?_
  rintro _ w h
  refine WL.nil (W.seq (W.seq (W.region (WL.val run_move rfl rfl (WL.eff (eff_call call25 (uhost_ok h)) rfl rfl ?_)))))
  rintro _ w ⟨hv, h⟩
  rw [host_nat hi] at hv
  subst hv
  refine WL.val (run_not rfl) rfl rfl (WL.val run_move rfl rfl (WL.val run_move rfl rfl ?_))
  refine WL.dec (run_eql rfl rfl) rfl rfl (fun c25 => ?_) (fun c25 => ?_)
  ·
   refine WL.val (run_pickF rfl) rfl rfl (WL.val run_move rfl rfl (WL.skip rfl rfl (WL.skip rfl rfl (WL.skip rfl rfl (WL.skip rfl rfl (WL.skip rfl rfl (WL.skip rfl rfl ?_)))))))
   refine WL.skip rfl rfl (WL.skip rfl rfl (WL.skip rfl rfl (WL.val (run_pickT rfl) rfl rfl (WL.nil (W.condT rfl (W.seq (W.region ?_)))))))
   refine WL.val (run_loadB (vs := [.int .i64 _, .int .i64 _, .int .i64 _, .slice _ _ _, .int .i64 _]) h isAgg36 sizeOf36 rfl rfl rfl) rfl rfl (WL.eff (eff_storeW (vs := [.int .i64 _, .int .i64 _, .int .i64 _, .slice _ _ _, .int .i64 _]) h sizeOf36 rfl rfl rfl rfl rfl) rfl rfl ?_)
   rintro _ w h
   refine WL.val run_assign rfl rfl (WL.nil (W.ret (bodyQ.rctB (vs := [.int .i64 _, .int .i64 _, .int .i64 _, .slice _ _ _, .int .i64 _]) (v2 := .bool _) h results16 isAgg36 sizeOf36 rfl rfl rfl rfl ?_)))
   have h := Big.close (y := g) hig (closeG (g := g) hok (((h.fetch (Big (GOwn pool) (gs.eraseIdx i))).fetch (MapC g.mb .u64 g.kvs g.ck)).fetch (CodesO g)))
   rw [set_same hg] at h
   have h := closeU (bu := bu) (u := u) hm hl ((((h.fetch (Big (GOwn pool) gs)).fetch (blk bt u.t.cells 113)).fetch (SpP 105 bs u.s)).fetch (blk bu (ucells bs bt gs) 68))
   have h : On W0 (OwnB (.slice none 0 0) (plain 8 0 0 : Rp).data :: _) w := h.ownEmpty 1 none
   exact ⟨u, plain 8 0 0, false, .slice none 0 0, ms, pool, (once_busy (.inl c25)), rfl, (fun p hp => hp), h.to⟩
  refine WL.val (run_pickF rfl) rfl rfl (WL.val run_move rfl rfl (WL.val run_move rfl rfl (WL.val run_move rfl rfl (WL.val run_move rfl rfl (WL.val (run_nilCheck rfl) rfl rfl (WL.val (run_fieldAddr 2 underlying68 rfl sizeOf66 rfl rfl) rfl rfl (WL.val (run_indexAddrArr underlying66 sizeOf65 rfl rfl (by omega) (by omega)) rfl rfl ?_)))))))
  refine WL.val (run_fieldAddr 1 underlying65 rfl sizeOf23 rfl rfl) rfl rfl (WL.val (run_load1 isAgg23 rfl (h.cellB (ucell (bs := bs) (bt := bt) hg (k := 1) (by decide) rfl))) rfl rfl (WL.val (run_lss rfl rfl) rfl rfl (WL.val (run_pickF rfl) rfl rfl (WL.nil ?_))))
  refine W.condIf rfl (fun c3 => ?_) (fun c3 => ?_)
  ·
   refine W.seq (W.region (WL.val (run_loadB (vs := [.int .i64 _, .int .i64 _, .int .i64 _, .slice _ _ _, .int .i64 _]) h isAgg36 sizeOf36 rfl rfl rfl) rfl rfl (WL.eff (eff_storeW (vs := [.int .i64 _, .int .i64 _, .int .i64 _, .slice _ _ _, .int .i64 _]) h sizeOf36 rfl rfl rfl rfl rfl) rfl rfl ?_)))
   rintro _ w h
   refine WL.val run_assign rfl rfl (WL.nil (W.ret (bodyQ.rctB (vs := [.int .i64 _, .int .i64 _, .int .i64 _, .slice _ _ _, .int .i64 _]) (v2 := .bool _) h results16 isAgg36 sizeOf36 rfl rfl rfl rfl ?_)))
   have h := Big.close (y := g) hig (closeG (g := g) hok (((h.fetch (Big (GOwn pool) (gs.eraseIdx i))).fetch (MapC g.mb .u64 g.kvs g.ck)).fetch (CodesO g)))
   rw [set_same hg] at h
   have h := closeU (bu := bu) (u := u) hm hl ((((h.fetch (Big (GOwn pool) gs)).fetch (blk bt u.t.cells 113)).fetch (SpP 105 bs u.s)).fetch (blk bu (ucells bs bt gs) 68))
   have h : On W0 (OwnB (.slice none 0 0) (plain 8 0 0 : Rp).data :: _) w := h.ownEmpty 1 none
   exact ⟨u, plain 8 0 0, false, .slice none 0 0, ms, pool, (once_busy (.inr (by rw [← hgu]; exact c3))), rfl, (fun p hp => hp), h.to⟩
  refine W.skip (W.seq (W.region (WL.val run_move rfl rfl (WL.val run_move rfl rfl (WL.val (run_nilCheck rfl) rfl rfl (WL.val (run_fieldAddr 2 underlying68 rfl sizeOf66 rfl rfl) rfl rfl (WL.val (run_indexAddrArr underlying66 sizeOf65 rfl rfl (by omega) (by omega)) rfl rfl ?_)))))))
  refine WL.val run_assign rfl rfl (WL.nil (W.seq (W.region (WL.val run_move rfl rfl (WL.val run_move rfl rfl (WL.val (run_minI rfl rfl) rfl rfl (WL.val run_move rfl rfl ?_)))))))
  refine WL.val (run_nilCheck rfl) rfl rfl (WL.val (run_fieldAddr 1 underlying65 rfl sizeOf23 rfl rfl) rfl rfl (WL.val (run_load1 isAgg23 rfl (h.cellB (ucell (bs := bs) (bt := bt) hg (k := 1) (by decide) rfl))) rfl rfl (WL.val (run_maxI rfl rfl) rfl rfl (WL.val run_assign rfl rfl (WL.nil (W.seq (W.region ?_)))))))
  refine WL.eff (eff_makeMap (kd := .u64) h) rfl rfl ?_
  rintro _ w ⟨b52, rfl, h⟩
  refine WL.val run_assign rfl rfl (WL.nil (W.seq (W.seq (W.region (WL.val run_move rfl rfl (WL.val (run_nilCheck rfl) rfl rfl (WL.val (run_fieldAddr 2 underlying65 rfl sizeOf63 rfl rfl) rfl rfl ?_)))))))
  refine WL.val (run_load1 isAgg63 rfl (h.cellB (ucell (bs := bs) (bt := bt) hg (k := 2) (by decide) rfl))) rfl rfl (WL.eff (eff_range (h.fetch (MapC g.mb .u64 g.kvs g.ck)) underlying63 rfl) rfl rfl ?_)
  rintro _ w ⟨rr, rfl, h⟩
  have hfit := (On.mapC (h.fetch (MapC g.mb .u64 g.kvs g.ck))).1
  refine WL.nil (W.block ?_)
  refine W.loop (fun (seen : Array Nat) env w => ∃ (j : Env) (ks : List KV) (ck2 : Nat), env = mkE j [(0, .pointer (some ⟨bu, 0, none⟩)), (1, .int .i64 (i : Int)), (2, .int .u64 id), (3, .int .u64 (max (min floor id) g.s.floor)), (9, .pointer (some ⟨b9, 0, none⟩)), (10, .pointer (some ⟨b10, 0, none⟩)), (12, .pointer (some ⟨b12, 0, none⟩)), (13, .pointer (some ⟨bu, 0 + 2 + ((i : Nat) : Int).toNat * 3, none⟩)), (14, .map (some b52)), (57, .pointer (some ⟨rr, 0, none⟩))] ∧ okK g.kvs (max (min floor id) g.s.floor) seen ks ∧ On W0 (IterC rr g.mb seen g.ck :: MapC g.mb .u64 g.kvs g.ck :: MapC b52 .u64 ks ck2 :: CodesO g :: Big (GOwn pool) (gs.eraseIdx i) :: blk bu (ucells bs bt gs) 68 :: SpP 105 bs u.s :: blk bt u.t.cells 113 :: blk b12 [.int .i64 8, .int .i64 0, .int .i64 0, .slice none 0 0, .int .i64 0] 36 :: blk b10 [.int .i64 0, .int .i64 0, .int .i64 0, .slice none 0 0, .int .i64 0] 36 :: blk b9 [.int .i64 kind, .int .i64 at_, .int .i64 n, .slice ax data.length cx, .int .u64 key, .int .u64 new, .int .i64 typ, .bool force] 25 :: Pool pool :: L) w) (fun seen => (remM g.kvs seen).length) (#[]) ?_ ?_
  · exact ⟨_, [], 0, mkE_of ⟨rfl, rfl, rfl, rfl, rfl, rfl, rfl, rfl, rfl, rfl, trivial⟩, okK_start, h.to⟩
  rintro seen env w ⟨j, ks, ck2, rfl, hK, h⟩
  refine W.seq (W.region (WL.eff (eff_next (h.fetch (IterC rr g.mb seen g.ck)) rfl) rfl rfl ?_))
  rintro _ w h0
  rcases h0 with ⟨hnil, rfl, h⟩ | ⟨e1, hin, rfl, h⟩
  rotate_left
  ·
   refine WL.val (run_extract rfl rfl) rfl rfl (WL.nil (W.seq (W.condT rfl (W.skip (W.block (W.seq ?_))))))
   obtain ⟨k1, v1, bn1⟩ := e1
   have ob_ := hok.2.2 _ (rem_inM hin)
   obtain ⟨r1, dv1, hr1, hv1, hp1⟩ := ob_
   have hv1 : v1 = r1.val dv1 := hv1
   have hf1 := Cells.form (On.reads (h.fetch (Pool pool)) (Gives.pool hp1))
   obtain ⟨ad1, cd1, hdv1, _⟩ := hf1
   subst hdv1
   subst hv1
   have h := h.fetch (IterC rr g.mb (seen.push bn1) g.ck)
   refine W.region (WL.val (run_entryM h (rem_inM hin) rfl) rfl rfl (WL.val (run_extract rfl rfl) rfl rfl (WL.val (run_extract rfl rfl) rfl rfl (WL.eff (eff_alloc h zeroValue36 rfl) rfl rfl ?_))))
   rintro _ w ⟨b16, rfl, h⟩
   refine WL.val run_assign rfl rfl (WL.eff (eff_storeW (vs := [.int .i64 _, .int .i64 _, .int .i64 _, .slice _ _ _, .int .i64 _]) h sizeOf36 rfl rfl rfl rfl rfl) rfl rfl ?_)
   rintro _ w h
   refine WL.nil (W.seq (W.region (WL.val run_move rfl rfl (WL.val run_move rfl rfl (WL.val (run_geq rfl rfl) rfl rfl (WL.nil ?_))))))
   refine W.condIf rfl (fun c20 => ?_) (fun c20 => ?_)
   ·
    refine W.region (WL.val run_move rfl rfl (WL.val run_move rfl rfl (WL.val (run_loadB (vs := [.int .i64 _, .int .i64 _, .int .i64 _, .slice _ _ _, .int .i64 _]) h isAgg36 sizeOf36 rfl rfl rfl) rfl rfl (WL.eff (eff_mapUpdate (k := k1) (v := r1.val (.slice ad1 r1.data.length cd1)) (h.fetch (MapC b52 .u64 ks ck2)) underlying63 underlying23 rfl rfl rfl) rfl rfl ?_))))
    rintro _ w h
    refine WL.nil ?_
    exact ⟨seen.push bn1, ⟨_, putM ks k1 (r1.val (.slice ad1 r1.data.length cd1)) ck2, clockM ks k1 ck2, mkE_of ⟨rfl, rfl, rfl, rfl, rfl, rfl, rfl, rfl, rfl, rfl, trivial⟩, okK_put hK hfit.2.1 (rem_inM hin) c20, h.to⟩, remM_less hin⟩
   refine W.skip ?_
   exact ⟨seen.push bn1, ⟨_, ks, ck2, mkE_of ⟨rfl, rfl, rfl, rfl, rfl, rfl, rfl, rfl, rfl, rfl, trivial⟩, okK_skip hK hfit.2.1 (rem_inM hin) c20, h.to⟩, remM_less hin⟩
  refine WL.val (run_extract rfl rfl) rfl rfl (WL.nil (W.seq (W.condF rfl (W.exit (W.seq (W.seq ?_))))))
  have hfit2 := (On.mapC (h.fetch (MapC b52 .u64 ks ck2))).1
  have hD : okD pool (keepM g.s.done (flM g.s id floor)) ks := okK_end hok hK hnil hfit2.1
  have hnb : ¬ (id = 0 ∨ id < (u.guest i).floor) := by rw [← hgu]; rintro (e | e); exact c25 e; exact c3 e
  rw [← hgu] at hdl
  refine W.region (WL.val run_move rfl rfl (WL.val run_move rfl rfl ?_))
  have hcs := look_ok hD id
  rcases hcs with ⟨r2, dv2, hl1, hl2, hp2⟩ | ⟨hl1, hl2, hno⟩
  have hf2 := Cells.form (On.reads (h.fetch (Pool pool)) (Gives.pool hp2))
  obtain ⟨ad2, cd2, hdv2, _⟩ := hf2
  subst hdv2
  have hks := (On.mapC (h.fetch (MapC b52 .u64 ks ck2))).2
  refine WL.val (run_lookupOkV (v := r2.val (.slice ad2 r2.data.length cd2)) (o := true) hks underlying63 underlying23 zeroValue36 rfl rfl (by rw [hl2]; rfl) (by rw [hl2]; rfl)) rfl rfl ?_
  rotate_left
  have hks := (On.mapC (h.fetch (MapC b52 .u64 ks ck2))).2
  refine WL.val (run_lookupOkV (v := .agg #[.int .i64 0, .int .i64 0, .int .i64 0, .slice none 0 0, .int .i64 0]) (o := false) hks underlying63 underlying23 zeroValue36 rfl rfl (by rw [hl2]; rfl) (by rw [hl2]; rfl)) rfl rfl ?_
  rotate_left
  ·
   refine WL.val run_move rfl rfl (WL.val (run_extract rfl rfl) rfl rfl (WL.val (run_extract rfl rfl) rfl rfl (WL.eff (eff_alloc h zeroValue36 rfl) rfl rfl ?_)))
   rintro _ w ⟨b17, rfl, h⟩
   refine WL.eff (eff_storeW (vs := [.int .i64 _, .int .i64 _, .int .i64 _, .slice _ _ _, .int .i64 _]) h sizeOf36 rfl rfl rfl rfl rfl) rfl rfl ?_
   rintro _ w h
   refine WL.val run_assign rfl rfl (WL.nil (W.seq (W.region (WL.val run_move rfl rfl (WL.nil (W.condT rfl (W.seq ?_)))))))
   refine W.region (WL.val run_move rfl rfl (WL.val run_move rfl rfl (WL.val run_move rfl rfl (WL.val run_move rfl rfl (WL.val (run_nilCheck rfl) rfl rfl (WL.val (run_fieldAddr 1 underlying65 rfl sizeOf23 rfl rfl) rfl rfl (WL.eff (eff_store (v := .int .u64 (flM g.s id floor)) h sizeOf23 rfl rfl rfl (ult (bs := bs) (bt := bt) hg (k := 1) (by decide)) (free0 _)) rfl rfl ?_)))))))
   rintro _ w h
   have er1 : ({ g with s := { g.s with floor := (flM g.s id floor) } } : GX).row = g.row.set 1 (.int .u64 (flM g.s id floor)) := rfl
   rw [uset (bs := bs) (bt := bt) hg (k := 1) (by decide) er1] at h
   have hg1 : (gs.set i ({ g with s := { g.s with floor := (flM g.s id floor) } } : GX))[i]? = some ({ g with s := { g.s with floor := (flM g.s id floor) } } : GX) := by rw [List.getElem?_set, if_pos rfl, if_pos hig]
   refine WL.val (run_nilCheck rfl) rfl rfl (WL.val (run_fieldAddr 2 underlying65 rfl sizeOf63 rfl rfl) rfl rfl (WL.eff (eff_store (v := .map (some b52)) h sizeOf63 rfl rfl rfl (ult (bs := bs) (bt := bt) hg1 (k := 2) (by decide)) (free0 _)) rfl rfl ?_))
   rintro _ w h
   have er2 : ({ g with s := g.s.setD (flM g.s id floor) (keepM g.s.done (flM g.s id floor)), mb := b52, ck := ck2, kvs := ks } : GX).row = ({ g with s := { g.s with floor := (flM g.s id floor) } } : GX).row.set 2 (.map (some b52)) := rfl
   rw [uset (bs := bs) (bt := bt) hg1 (k := 2) (by decide) er2, List.set_set] at h
   have h := Big.close (y := ({ g with s := g.s.setD (flM g.s id floor) (keepM g.s.done (flM g.s id floor)), mb := b52, ck := ck2, kvs := ks } : GX)) hig (closeG (g := ({ g with s := g.s.setD (flM g.s id floor) (keepM g.s.done (flM g.s id floor)), mb := b52, ck := ck2, kvs := ks } : GX)) hD (((h.fetch (Big (GOwn pool) (gs.eraseIdx i))).fetch (MapC b52 .u64 ks ck2)).fetch (CodesO g)))
   have hm' : (gs.set i ({ g with s := g.s.setD (flM g.s id floor) (keepM g.s.done (flM g.s id floor)), mb := b52, ck := ck2, kvs := ks } : GX)).map (·.s) = (u.putG i (onceG u i id floor)).g ∧ (gs.set i ({ g with s := g.s.setD (flM g.s id floor) (keepM g.s.done (flM g.s id floor)), mb := b52, ck := ck2, kvs := ks } : GX)).map (·.mb) = ms.set i b52 := by
     have := put_map2 (g' := ({ g with s := g.s.setD (flM g.s id floor) (keepM g.s.done (flM g.s id floor)), mb := b52, ck := ck2, kvs := ks } : GX)) (i := i) hm
     rw [show ({ g with s := g.s.setD (flM g.s id floor) (keepM g.s.done (flM g.s id floor)), mb := b52, ck := ck2, kvs := ks } : GX).s = onceG u i id floor from by unfold onceG; rw [← hgu]] at this
     exact this
   have h := closeU (bu := bu) (u := (u.putG i (onceG u i id floor))) hm' (put_len hl) ((((h.fetch (Big (GOwn pool) (gs.set i ({ g with s := g.s.setD (flM g.s id floor) (keepM g.s.done (flM g.s id floor)), mb := b52, ck := ck2, kvs := ks } : GX)))).fetch (blk bt u.t.cells 113)).fetch (SpP 105 bs u.s)).fetch (blk bu (ucells bs bt (gs.set i ({ g with s := g.s.setD (flM g.s id floor) (keepM g.s.done (flM g.s id floor)), mb := b52, ck := ck2, kvs := ks } : GX))) 68))
   refine WL.nil (W.seq (W.region (WL.val (run_loadB (vs := [.int .i64 _, .int .i64 _, .int .i64 _, .slice _ _ _, .int .i64 _]) h isAgg36 sizeOf36 rfl rfl rfl) rfl rfl (WL.eff (eff_call call46 (uapart_ok (s1 := r2.st) (k1 := r2.key) (c1 := r2.code) (i1 := r2.info) (d1 := r2.data) (a1 := ad2) (x1 := cd2) h (Gives.to (T := [Pool pool]) (Gives.pool hp2)) (hdl _ (List.mem_filter.1 (lookD_in hl1)).1))) rfl rfl ?_))))
   rintro _ w ⟨a85, rfl, h⟩
   refine WL.eff (eff_storeW (vs := [.int .i64 _, .int .i64 _, .int .i64 _, .slice _ _ _, .int .i64 _]) h sizeOf36 rfl rfl rfl rfl rfl) rfl rfl ?_
   rintro _ w h
   refine WL.val run_assign rfl rfl (WL.nil (W.ret (bodyQ.rctB (vs := [.int .i64 _, .int .i64 _, .int .i64 _, .slice _ _ _, .int .i64 _]) (v2 := .bool _) h results16 isAgg36 sizeOf36 rfl rfl rfl rfl ?_)))
   exact ⟨(u.putG i (onceG u i id floor)), r2, false, .slice a85 r2.data.length r2.data.length, ms.set i b52, pool, once_old hnb (by rw [← hgu]; exact hl1), rfl, (fun p hp => hp), h.to⟩
  refine WL.val run_move rfl rfl (WL.val (run_extract rfl rfl) rfl rfl (WL.val (run_extract rfl rfl) rfl rfl (WL.eff (eff_alloc h zeroValue36 rfl) rfl rfl ?_)))
  rintro _ w ⟨b17, rfl, h⟩
  refine WL.eff (eff_storeW (vs := [.int .i64 _, .int .i64 _, .int .i64 _, .slice _ _ _, .int .i64 _]) h sizeOf36 rfl rfl rfl rfl rfl) rfl rfl ?_
  rintro _ w h
  refine WL.val run_assign rfl rfl (WL.nil (W.seq (W.region (WL.val run_move rfl rfl (WL.nil (W.condF rfl (W.skip ?_)))))))
  refine W.seq (W.seq ?_)
  have hkl : ks.length = (keepM g.s.done (flM g.s id floor)).length := by have := hD.1.length_eq; simpa using this
  refine W.region (WL.val run_move rfl rfl (WL.val (run_lenMap (On.mapC (h.fetch (MapC b52 .u64 ks ck2))).2 rfl underlying63 rfl hkl) rfl rfl (WL.val (run_geq rfl rfl) rfl rfl (WL.nil ?_))))
  refine W.condIf rfl (fun c31 => ?_) (fun c31 => ?_)
  ·
   refine W.seq (W.region (WL.val (run_loadB (vs := [.int .i64 _, .int .i64 _, .int .i64 _, .slice _ _ _, .int .i64 _]) h isAgg36 sizeOf36 rfl rfl rfl) rfl rfl (WL.eff (eff_storeW (vs := [.int .i64 _, .int .i64 _, .int .i64 _, .slice _ _ _, .int .i64 _]) h sizeOf36 rfl rfl rfl rfl rfl) rfl rfl ?_)))
   rintro _ w h
   refine WL.val run_assign rfl rfl (WL.nil (W.ret (bodyQ.rctB (vs := [.int .i64 _, .int .i64 _, .int .i64 _, .slice _ _ _, .int .i64 _]) (v2 := .bool _) h results16 isAgg36 sizeOf36 rfl rfl rfl rfl ?_)))
   have h := Big.close (y := g) hig (closeG (g := g) hok (((h.fetch (Big (GOwn pool) (gs.eraseIdx i))).fetch (MapC g.mb .u64 g.kvs g.ck)).fetch (CodesO g)))
   rw [set_same hg] at h
   have h := closeU (bu := bu) (u := u) hm hl ((((h.fetch (Big (GOwn pool) gs)).fetch (blk bt u.t.cells 113)).fetch (SpP 105 bs u.s)).fetch (blk bu (ucells bs bt gs) 68))
   have h : On W0 (OwnB (.slice none 0 0) (plain 8 0 0 : Rp).data :: _) w := h.ownEmpty 1 none
   exact ⟨u, plain 8 0 0, false, .slice none 0 0, ms, pool, (once_full hnb (by rw [← hgu]; exact hl1) (by rw [← hgu]; omega)), rfl, (fun p hp => hp), h.to⟩
  refine W.skip (W.seq (W.region (WL.val run_move rfl rfl (WL.val run_move rfl rfl (WL.val run_move rfl rfl (WL.val run_move rfl rfl (WL.val (run_nilCheck rfl) rfl rfl ?_)))))))
  refine WL.val (run_fieldAddr 1 underlying65 rfl sizeOf23 rfl rfl) rfl rfl (WL.eff (eff_store (v := .int .u64 (flM g.s id floor)) h sizeOf23 rfl rfl rfl (ult (bs := bs) (bt := bt) hg (k := 1) (by decide)) (free0 _)) rfl rfl ?_)
  rintro _ w h
  have er1 : ({ g with s := { g.s with floor := (flM g.s id floor) } } : GX).row = g.row.set 1 (.int .u64 (flM g.s id floor)) := rfl
  rw [uset (bs := bs) (bt := bt) hg (k := 1) (by decide) er1] at h
  have hg1 : (gs.set i ({ g with s := { g.s with floor := (flM g.s id floor) } } : GX))[i]? = some ({ g with s := { g.s with floor := (flM g.s id floor) } } : GX) := by rw [List.getElem?_set, if_pos rfl, if_pos hig]
  refine WL.val (run_nilCheck rfl) rfl rfl (WL.val (run_fieldAddr 2 underlying65 rfl sizeOf63 rfl rfl) rfl rfl (WL.eff (eff_store (v := .map (some b52)) h sizeOf63 rfl rfl rfl (ult (bs := bs) (bt := bt) hg1 (k := 2) (by decide)) (free0 _)) rfl rfl ?_))
  rintro _ w h
  have er2 : ({ g with s := g.s.setD (flM g.s id floor) (keepM g.s.done (flM g.s id floor)), mb := b52, ck := ck2, kvs := ks } : GX).row = ({ g with s := { g.s with floor := (flM g.s id floor) } } : GX).row.set 2 (.map (some b52)) := rfl
  rw [uset (bs := bs) (bt := bt) hg1 (k := 2) (by decide) er2, List.set_set] at h
  have h := Big.close (y := ({ g with s := g.s.setD (flM g.s id floor) (keepM g.s.done (flM g.s id floor)), mb := b52, ck := ck2, kvs := ks } : GX)) hig (closeG (g := ({ g with s := g.s.setD (flM g.s id floor) (keepM g.s.done (flM g.s id floor)), mb := b52, ck := ck2, kvs := ks } : GX)) hD (((h.fetch (Big (GOwn pool) (gs.eraseIdx i))).fetch (MapC b52 .u64 ks ck2)).fetch (CodesO g)))
  have hm' : (gs.set i ({ g with s := g.s.setD (flM g.s id floor) (keepM g.s.done (flM g.s id floor)), mb := b52, ck := ck2, kvs := ks } : GX)).map (·.s) = (u.putG i (onceG u i id floor)).g ∧ (gs.set i ({ g with s := g.s.setD (flM g.s id floor) (keepM g.s.done (flM g.s id floor)), mb := b52, ck := ck2, kvs := ks } : GX)).map (·.mb) = ms.set i b52 := by
    have := put_map2 (g' := ({ g with s := g.s.setD (flM g.s id floor) (keepM g.s.done (flM g.s id floor)), mb := b52, ck := ck2, kvs := ks } : GX)) (i := i) hm
    rw [show ({ g with s := g.s.setD (flM g.s id floor) (keepM g.s.done (flM g.s id floor)), mb := b52, ck := ck2, kvs := ks } : GX).s = onceG u i id floor from by unfold onceG; rw [← hgu]] at this
    exact this
  have h := closeU (bu := bu) (u := (u.putG i (onceG u i id floor))) hm' (put_len hl) ((((h.fetch (Big (GOwn pool) (gs.set i ({ g with s := g.s.setD (flM g.s id floor) (keepM g.s.done (flM g.s id floor)), mb := b52, ck := ck2, kvs := ks } : GX)))).fetch (blk bt u.t.cells 113)).fetch (SpP 105 bs u.s)).fetch (blk bu (ucells bs bt (gs.set i ({ g with s := g.s.setD (flM g.s id floor) (keepM g.s.done (flM g.s id floor)), mb := b52, ck := ck2, kvs := ks } : GX))) 68))
  refine WL.nil (W.seq (W.region (WL.val run_move rfl rfl (WL.val run_move rfl rfl (WL.val (run_loadB (vs := [.int .i64 _, .int .i64 _, .int .i64 _, .slice _ _ _, .int .u64 _, .int .u64 _, .int .i64 _, .bool _]) h isAgg25 sizeOf25 rfl rfl rfl) rfl rfl (WL.eff (eff_call call8 (udo_ok (u := (u.putG i (onceG u i id floor))) (setD_small hl hi hsm) (goodU_setD hl hi hgu_) hcm (h.fetch (UnP 68 105 113 bu pool (ms.set i b52) (u.putG i (onceG u i id floor)))) (Gives.to C) hd)) rfl rfl ?_))))))
  rintro _ w ⟨u', r', dv', heq, rfl, h⟩
  have of_ := Own.form h
  obtain ⟨ad, cd, hdv, _⟩ := of_
  subst hdv
  refine WL.eff (eff_storeW (vs := [.int .i64 _, .int .i64 _, .int .i64 _, .slice _ _ _, .int .i64 _]) h sizeOf36 rfl rfl rfl rfl rfl) rfl rfl ?_
  rintro _ w h
  refine WL.nil (W.seq (W.region (WL.val run_move rfl rfl (WL.val run_move rfl rfl (WL.val (run_loadB (vs := [.int .i64 _, .int .i64 _, .int .i64 _, .slice _ _ _, .int .i64 _]) h isAgg36 sizeOf36 rfl rfl rfl) rfl rfl ?_)))))
  refine WL.eff (eff_call call46 (uapart_ok (s1 := r'.st) (k1 := r'.key) (c1 := r'.code) (i1 := r'.info) (d1 := r'.data) (a1 := ad) (x1 := cd) h (Gives.ownO (v := .slice ad r'.data.length cd)) (by have := doM_dlen (u := (u.putG i (onceG u i id floor))) (hh := (i : Int)) (c := (⟨kind, at_, n, data, key, new, typ, force⟩ : Cm)); rw [heq] at this; have this : r'.data.length ≤ 1000 := this; omega))) rfl rfl ?_
  rintro _ w ⟨a105, rfl, h⟩
  have hkp := kept_do (u := (u.putG i (onceG u i id floor))) (hh := (i : Int)) (c := (⟨kind, at_, n, data, key, new, typ, force⟩ : Cm)) (put_len hl)
  rw [heq] at hkp
  have hkd := hkp.2.1 i hi
  rw [guest_put hl hi] at hkd
  have h := On.toPool ((h.fetch (Pool pool)).fetch (OwnB (.slice a105 r'.data.length r'.data.length) r'.data))
  have h := UnP_more (p := (.slice a105 r'.data.length r'.data.length, r'.data)) (h.fetch (UnP 68 105 113 bu pool (ms.set i b52) u'))
  have ob_ := openU h
  obtain ⟨bs2, bt2, gs2, hm2, hl2, h⟩ := ob_
  have ob_ := row_of hm2 hl2 hi
  obtain ⟨g2, hg2, hgu2⟩ := ob_
  have hig2 : i < gs2.length := (List.getElem?_eq_some_iff.1 hg2).1
  have h := Big.open hg2 (h.fetch (Big (GOwn ((.slice a105 r'.data.length r'.data.length, r'.data) :: pool)) gs2))
  have ob_ := openG h
  obtain ⟨hok2, h⟩ := ob_
  have hmb2 : g2.mb = b52 := by
    have e1 := mb_of hm2.2 hg2
    rw [List.getElem?_set, if_pos rfl, if_pos (by rw [← hm.2, List.length_map]; exact hig)] at e1
    exact (Option.some.inj e1).symm
  have hdn : g2.s.done = (keepM g.s.done (flM g.s id floor)) := by rw [hgu2, hkd.2]; unfold onceG; rw [← hgu]; rfl
  have hfn : g2.s.floor = (flM g.s id floor) := by rw [hgu2, hkd.1]; unfold onceG; rw [← hgu]; rfl
  refine WL.eff (eff_mapUpdate (k := id) (v := r'.val (.slice a105 r'.data.length r'.data.length)) (h.fetch (MapC g2.mb .u64 g2.kvs g2.ck)) underlying63 underlying23 (congrArg (fun q => Value.map (some q)) hmb2.symm) rfl rfl) rfl rfl ?_
  rintro _ w h
  have hok3 := okD_putIn (id := id) (r := r') (dv := .slice a105 r'.data.length r'.data.length) (ck := g2.ck) hok2 (List.mem_cons_self ..) (by rw [hdn]; exact hno)
  rw [hdn] at hok3
  have er3 : ({ g2 with s := g2.s.setD (flM g.s id floor) ((keepM g.s.done (flM g.s id floor)) ++ [(id, r')]), kvs := putM g2.kvs id (r'.val (.slice a105 r'.data.length r'.data.length)) g2.ck, ck := clockM g2.kvs id g2.ck } : GX).row = g2.row := by
    show [_, Value.int .u64 (flM g.s id floor), _] = [_, Value.int .u64 g2.s.floor, _]
    rw [hfn]; rfl
  have h := Big.close (y := ({ g2 with s := g2.s.setD (flM g.s id floor) ((keepM g.s.done (flM g.s id floor)) ++ [(id, r')]), kvs := putM g2.kvs id (r'.val (.slice a105 r'.data.length r'.data.length)) g2.ck, ck := clockM g2.kvs id g2.ck } : GX)) hig2 (closeG (g := ({ g2 with s := g2.s.setD (flM g.s id floor) ((keepM g.s.done (flM g.s id floor)) ++ [(id, r')]), kvs := putM g2.kvs id (r'.val (.slice a105 r'.data.length r'.data.length)) g2.ck, ck := clockM g2.kvs id g2.ck } : GX)) hok3 (((h.fetch (Big (GOwn ((.slice a105 r'.data.length r'.data.length, r'.data) :: pool)) (gs2.eraseIdx i))).fetch (MapC ({ g2 with s := g2.s.setD (flM g.s id floor) ((keepM g.s.done (flM g.s id floor)) ++ [(id, r')]), kvs := putM g2.kvs id (r'.val (.slice a105 r'.data.length r'.data.length)) g2.ck, ck := clockM g2.kvs id g2.ck } : GX).mb .u64 ({ g2 with s := g2.s.setD (flM g.s id floor) ((keepM g.s.done (flM g.s id floor)) ++ [(id, r')]), kvs := putM g2.kvs id (r'.val (.slice a105 r'.data.length r'.data.length)) g2.ck, ck := clockM g2.kvs id g2.ck } : GX).kvs ({ g2 with s := g2.s.setD (flM g.s id floor) ((keepM g.s.done (flM g.s id floor)) ++ [(id, r')]), kvs := putM g2.kvs id (r'.val (.slice a105 r'.data.length r'.data.length)) g2.ck, ck := clockM g2.kvs id g2.ck } : GX).ck)).fetch (CodesO g2)))
  have h := h.fetch (blk bu (ucells bs2 bt2 gs2) 68)
  rw [show ucells bs2 bt2 gs2 = ucells bs2 bt2 (gs2.set i ({ g2 with s := g2.s.setD (flM g.s id floor) ((keepM g.s.done (flM g.s id floor)) ++ [(id, r')]), kvs := putM g2.kvs id (r'.val (.slice a105 r'.data.length r'.data.length)) g2.ck, ck := clockM g2.kvs id g2.ck } : GX)) from by show _ :: _ :: _ = _ :: _ :: (gs2.set i ({ g2 with s := g2.s.setD (flM g.s id floor) ((keepM g.s.done (flM g.s id floor)) ++ [(id, r')]), kvs := putM g2.kvs id (r'.val (.slice a105 r'.data.length r'.data.length)) g2.ck, ck := clockM g2.kvs id g2.ck } : GX)).flatMap GX.row; rw [rows_same hg2 er3]] at h
  have hm3 : (gs2.set i ({ g2 with s := g2.s.setD (flM g.s id floor) ((keepM g.s.done (flM g.s id floor)) ++ [(id, r')]), kvs := putM g2.kvs id (r'.val (.slice a105 r'.data.length r'.data.length)) g2.ck, ck := clockM g2.kvs id g2.ck } : GX)).map (·.s) = (u'.putG i ((u'.guest i).setD (flM g.s id floor) ((keepM g.s.done (flM g.s id floor)) ++ [(id, r')]))).g ∧ (gs2.set i ({ g2 with s := g2.s.setD (flM g.s id floor) ((keepM g.s.done (flM g.s id floor)) ++ [(id, r')]), kvs := putM g2.kvs id (r'.val (.slice a105 r'.data.length r'.data.length)) g2.ck, ck := clockM g2.kvs id g2.ck } : GX)).map (·.mb) = ms.set i b52 := by
    have := put_map (g' := ({ g2 with s := g2.s.setD (flM g.s id floor) ((keepM g.s.done (flM g.s id floor)) ++ [(id, r')]), kvs := putM g2.kvs id (r'.val (.slice a105 r'.data.length r'.data.length)) g2.ck, ck := clockM g2.kvs id g2.ck } : GX)) hm2 hg2 rfl
    rw [← hgu2]
    exact this
  have h := closeU (bu := bu) (u := u'.putG i ((u'.guest i).setD (flM g.s id floor) ((keepM g.s.done (flM g.s id floor)) ++ [(id, r')]))) hm3 (put_len hl2) ((((h.fetch (Big (GOwn ((.slice a105 r'.data.length r'.data.length, r'.data) :: pool)) (gs2.set i ({ g2 with s := g2.s.setD (flM g.s id floor) ((keepM g.s.done (flM g.s id floor)) ++ [(id, r')]), kvs := putM g2.kvs id (r'.val (.slice a105 r'.data.length r'.data.length)) g2.ck, ck := clockM g2.kvs id g2.ck } : GX)))).fetch (blk bt2 u'.t.cells 113)).fetch (SpP 105 bs2 u'.s)).fetch (blk bu (ucells bs2 bt2 (gs2.set i ({ g2 with s := g2.s.setD (flM g.s id floor) ((keepM g.s.done (flM g.s id floor)) ++ [(id, r')]), kvs := putM g2.kvs id (r'.val (.slice a105 r'.data.length r'.data.length)) g2.ck, ck := clockM g2.kvs id g2.ck } : GX))) 68))
  refine WL.nil (W.seq (W.region (WL.val (run_loadB (vs := [.int .i64 _, .int .i64 _, .int .i64 _, .slice _ _ _, .int .i64 _]) h isAgg36 sizeOf36 rfl rfl rfl) rfl rfl (WL.eff (eff_storeW (vs := [.int .i64 _, .int .i64 _, .int .i64 _, .slice _ _ _, .int .i64 _]) h sizeOf36 rfl rfl rfl rfl rfl) rfl rfl ?_))))
  rintro _ w h
  refine WL.val run_assign rfl rfl (WL.nil (W.ret (bodyQ.rctB (vs := [.int .i64 _, .int .i64 _, .int .i64 _, .slice _ _ _, .int .i64 _]) (v2 := .bool _) h results16 isAgg36 sizeOf36 rfl rfl rfl rfl ?_)))
  exact ⟨_, r', true, .slice ad r'.data.length cd, ms.set i b52, ((.slice a105 r'.data.length r'.data.length, r'.data) :: pool), by rw [once_new hnb (by rw [← hgu]; exact hl1) (by rw [← hgu]; omega) heq, ← hgu], rfl, (fun p hp => List.mem_cons_of_mem _ hp), h.to⟩
end Go.Proofs.YtjbgiingimhnnaaGreat
/-
  What a small unit tells, by the plain models. No program is named here.
-/
namespace Go.Sl.UnM
open Go Go.Sl Go.Sl.BitM Go.Sl.SpM Go.Sl.RsM Go.Sl.ByM
set_option linter.unusedVariables false
def abc : List UInt8 := [97, 98, 99, 100, 101, 102, 103, 104]
def cmW : Cm := ⟨3, 1, 1, abc, 0, 0, 0, false⟩
def cmR : Cm := ⟨2, 1, 1, [], 0, 0, 0, false⟩
def cmR0 : Cm := ⟨2, 0, 0, [], 0, 0, 0, false⟩
def kn1 : Un := (onceM (newU 4) 0 1 0 cmW).1
def kn2 : Un := (doM kn1 1 cmR).1
def kn3 : Un := (onceM kn2 0 1 0 cmR).1
def kn4 : Un := (doM kn3 9 cmR0).1
theorem kn1_eq : onceM (newU 4) 0 1 0 cmW = (kn1, plain 0 0 0, true) := by
  have h : (onceM (newU 4) 0 1 0 cmW).2 = (plain 0 0 0, true) := by decide +kernel
  unfold kn1; rw [← h]
theorem kn2_eq : doM kn1 1 cmR = (kn2, gave abc) := by
  have h : (doM kn1 1 cmR).2 = gave abc := by decide +kernel
  unfold kn2; rw [← h]
theorem kn3_eq : onceM kn2 0 1 0 cmR = (kn3, plain 0 0 0, false) := by
  have h : (onceM kn2 0 1 0 cmR).2 = (plain 0 0 0, false) := by decide +kernel
  unfold kn3; rw [← h]
theorem kn4_eq : doM kn3 9 cmR0 = (kn4, plain 2 5 8192) := by
  have h : (doM kn3 9 cmR0).2 = plain 2 5 8192 := by decide +kernel
  unfold kn4; rw [← h]
/-- What a unit's parts have to be, decided. -/
def okCb (u : Un) : Bool := (List.range 8).all fun i => (u.guest i).codes.all fun c => decide (0 ≤ c ∧ c < 65536)
def smallb (u : Un) : Bool := (List.range 8).all fun i => decide ((u.guest i).codes.length ≤ 1000)
theorem okCb_ok {u : Un} (h : okCb u = true) : okC u := fun i hi c hc => by
  unfold okCb at h
  have h1 := List.all_eq_true.1 h i (List.mem_range.2 hi)
  have h2 := List.all_eq_true.1 h1 c hc
  simpa using h2
def okRb (r : Rp) : Bool := decide (0 ≤ r.st ∧ r.st < 256 ∧ 0 ≤ r.key ∧ r.key < 256 ∧ 0 ≤ r.code ∧ r.code < 65536 ∧ 0 ≤ r.info ∧ r.info < 4294967296 ∧ r.data.length ≤ 10000)
def okGb (g : Gs) : Bool := (decide (g.codes.length ≤ 10000) && g.codes.all (fun c => decide (0 ≤ c ∧ c < 65536))) && (decide (0 ≤ g.floor ∧ g.floor < 18446744073709551616) && g.done.all fun x => decide (0 ≤ x.1 ∧ x.1 < 18446744073709551616) && okRb x.2)
def okUb (u : Un) : Bool := (List.range 8).all fun i => okGb (u.guest i) && decide ((u.guest i).done.length ≤ 1)
theorem okGb_ok {g : Gs} (h : okGb g = true) : okG g := by
  unfold okGb at h
  rw [Bool.and_eq_true, Bool.and_eq_true, Bool.and_eq_true, List.all_eq_true, List.all_eq_true] at h
  obtain ⟨⟨h1, h2⟩, h3, h4⟩ := h
  have h3 := of_decide_eq_true h3
  refine ⟨of_decide_eq_true h1, fun c hc => of_decide_eq_true (h2 c hc), h3.1, h3.2, fun x hx => ?_⟩
  have h5 := h4 x hx
  rw [Bool.and_eq_true] at h5
  have h6 := h5.2
  unfold okRb at h6
  have h6 := of_decide_eq_true h6
  exact ⟨of_decide_eq_true h5.1, h6⟩
theorem okUb_ok {u : Un} (h : okUb u = true) : ∀ i, i < 8 → okG (u.guest i) ∧ (u.guest i).done.length ≤ 1 := fun i hi => by
  unfold okUb at h
  have h1 := List.all_eq_true.1 h i (List.mem_range.2 hi)
  rw [Bool.and_eq_true] at h1
  exact ⟨okGb_ok h1.1, of_decide_eq_true h1.2⟩
def goodTb (t : Tb) : Bool := ((List.range 8).all fun i => decide (0 ≤ t.K i ∧ t.K i < 18446744073709551616)) && decide (0 ≤ t.gen ∧ t.gen < 4294967296) && decide (t.hold = -1 ∧ t.typ = 0)
theorem goodTb_ok {t : Tb} (h : goodTb t = true) : goodT t := by
  unfold goodTb at h
  rw [Bool.and_eq_true, Bool.and_eq_true] at h
  exact ⟨⟨fun i hi => of_decide_eq_true (List.all_eq_true.1 h.1.1 i (List.mem_range.2 hi)), of_decide_eq_true h.1.2⟩, .inl (of_decide_eq_true h.2)⟩
def fineb (u : Un) : Bool := goodTb u.t && okCb u && smallb u
theorem fineb_ok {u : Un} (h : fineb u = true) : goodU u ∧ small 999000 u := by
  unfold fineb at h
  rw [Bool.and_eq_true, Bool.and_eq_true] at h
  refine ⟨⟨goodTb_ok h.1.1, okCb_ok h.1.2⟩, fun i hi => ?_⟩
  have h0 := h.2
  unfold smallb at h0
  have h1 := List.all_eq_true.1 h0 i (List.mem_range.2 hi)
  have h2 : (u.guest i).codes.length ≤ 1000 := by simpa using h1
  omega
theorem kn0_ok : goodU (newU 4) ∧ small 999000 (newU 4) := fineb_ok (by decide +kernel)
theorem kn1_ok : goodU kn1 ∧ small 999000 kn1 := fineb_ok (by decide +kernel)
theorem kn2_ok : goodU kn2 ∧ small 999000 kn2 := fineb_ok (by decide +kernel)
theorem kn3_ok : goodU kn3 ∧ small 999000 kn3 := fineb_ok (by decide +kernel)
theorem cm_okC {k a n t : Int} {d : List UInt8} {f : Bool} : okCm ⟨k, a, n, d, 0, 0, t, f⟩ := ⟨⟨Int.le_refl 0, by show (0 : Int) < _; decide⟩, Int.le_refl 0, by show (0 : Int) < _; decide⟩
theorem kn2_d : ∀ x ∈ (kn2.guest 0).done, x.2.data.length ≤ 1000000 := fun x hx => by
  have h : (kn2.guest 0).done.all (fun x => decide (x.2.data.length ≤ 1000000)) = true := by decide +kernel
  exact of_decide_eq_true (List.all_eq_true.1 h x hx)
theorem kn4_s : kn4.s = writeS (newS 4) 1 abc := by kernel_rfl
theorem kn4_t : kn4.t = newT := by kernel_rfl
theorem kn4_cap : capS kn4.s := by
  rw [kn4_s]
  exact cap_write (newS_wf (by decide) (by decide)) cap_new (by decide)
theorem newT_ok : okT newT := ⟨fun i hi => ⟨Int.le_refl 0, by show (0 : Int) < _; decide⟩, by decide, by decide⟩
theorem kn4_okT : okT kn4.t := by rw [kn4_t]; exact newT_ok
theorem kn4_g : ∀ i, i < 8 → okG (kn4.guest i) ∧ (kn4.guest i).done.length ≤ 1 := okUb_ok (by decide +kernel)
theorem kn4_N : kn4.s.N = 4 := by decide +kernel
def knB : List UInt8 := encU kn4 (SpM.encS kn4.s)
theorem knB_s : (SpM.encS kn4.s).length ≤ 10000000000 := by decide +kernel
theorem knB_len : knB.length ≤ 100000 := by decide +kernel
theorem knB_0 : ∀ u, decU0 knB = some u → ∀ i, i < 8 → okG (u.guest i) ∧ (u.guest i).done.length ≤ 1 := fun u hu => by
  have h : (match decU0 knB with | some u => okUb u | none => true) = true := by decide +kernel
  rw [hu] at h
  exact okUb_ok h
theorem knB_1 : ∃ u, decU knB = some u := by
  have h : (decU knB).isSome = true := by decide +kernel
  exact Option.isSome_iff_exists.1 h
theorem knB_2 {u : Un} (hu : decU knB = some u) : goodU u ∧ small 999000 u ∧ ∃ u', doM u 0 cmR = (u', gave abc) := by
  have h : (match decU knB with | some u => fineb u && decide ((doM u 0 cmR).2 = gave abc) | none => true) = true := by decide +kernel
  rw [hu] at h
  simp only [Bool.and_eq_true] at h
  exact ⟨(fineb_ok h.1).1, (fineb_ok h.1).2, (doM u 0 cmR).1, by rw [← of_decide_eq_true h.2]⟩
end Go.Sl.UnM
/-
  A unit: the law's own unit: the contracts. Lines of walks printed by a program of the prover's.
-/
namespace Go.Proofs.YtjbgiingimhnnaaGreat
open Go.Proofs.Tryz
open Go Go.Sl Go.Sl.BitM Go.Sl.SpM Go.Sl.RsM Go.Sl.ByM Go.Sl.UnM
set_option linter.unusedVariables false
set_option linter.unusedSimpArgs false
set_option maxHeartbeats 1000000
set_option maxRecDepth 8000
variable {W0 w : World} {L F : List HProp}
theorem uknown_ok (h : On W0 F w) : Calls Tryz.prog 5 #[] w (Ret fun v w' => v = .bool true ∧ On W0 F w') := by
  refine enter func5 rfl ntmps5 rfl (W.seq (W.region (WL.val run_assign rfl rfl (WL.nil (W.seq (W.region (WL.eff (eff_call call10 (unew_ok (pool := []) h)) rfl rfl ?_)))))))
  rintro _ w hv
  rcases hv with ⟨N, hN, h1N, hN2, bu, ms0, rfl, h⟩ | ⟨hno, _, _⟩
  rotate_left
  · exact absurd (by decide) hno
  have ob_ : N = 4 := by omega
  obtain rfl := ob_
  have h := h.pool0
  refine WL.val run_move rfl rfl (WL.val (run_extract rfl rfl) rfl rfl (WL.val (run_extract rfl rfl) rfl rfl (WL.val run_assign rfl rfl (WL.val run_assign rfl rfl (WL.nil (W.seq (W.seq ?_)))))))
  refine W.region (WL.val run_move rfl rfl (WL.val (run_neqF rfl rfl (rfl)) rfl rfl (WL.val run_move rfl rfl (WL.val run_move rfl rfl (WL.val (run_eqlPtrNil underlying31 rfl rfl) rfl rfl (WL.val (run_pickF rfl) rfl rfl (WL.nil ?_)))))))
  refine W.condF rfl (W.skip (W.seq (W.region (WL.val run_move rfl rfl (WL.eff (eff_mkRow (out := [.int .u8 _, .int .u8 _, .int .u8 _, .int .u8 _, .int .u8 _, .int .u8 _, .int .u8 _, .int .u8 _]) h underlying22 sizeOf5 zeroValue5 rfl (by decide) rfl rfl rfl) rfl rfl ?_)))))
  rintro _ w ⟨b24, rfl, h⟩
  refine WL.eff (eff_ofString h rfl (by omega) underlying22 underlying5) rfl rfl ?_
  rintro _ w ⟨rfl, h⟩
  refine WL.val (run_buildS (pl := [(0, 1), (1, 1), (2, 1), (3, 1), (4, 1), (5, 1), (6, 1), (7, 1)]) (out := [.int .i64 _, .int .i64 _, .int .i64 _, .slice _ _ _, .int .u64 _, .int .u64 _, .int .i64 _, .bool _]) underlying25 zeroValue25 (fun w => by kernel_rfl) rfl (⟨⟨_, _, rfl, rfl, by decide⟩, ⟨⟨_, _, rfl, rfl, by decide⟩, ⟨⟨_, _, rfl, rfl, by decide⟩, ⟨⟨_, _, rfl, rfl, by decide⟩, trivial⟩⟩⟩⟩) rfl) rfl rfl ?_
  refine WL.eff (eff_call call16 (uuonce_ok (i := 0) (id := 1) (floor := 0) (kind := 3) (at_ := 1) (n := 1) (data := abc) (key := 0) (new := 0) (typ := 0) (force := false) (u := (newU 4)) (pool := []) (ms := ms0) (by decide) (kn0_ok).2 (kn0_ok).1 cm_okC (fun x hx => by cases hx) ((h.fetch (Pool [])).fetch (UnP 68 105 113 bu [] ms0 (newU 4))) (Gives.ownO (v := .slice (some ⟨b24, 0, none⟩) 8 8)) (by decide))) rfl rfl ?_
  rintro _ w ⟨u1_, r1_, f1_, dv1, ms1, pool1, he, rfl, _, h⟩
  have he := he.symm.trans kn1_eq
  simp only [Prod.mk.injEq] at he
  obtain ⟨rfl, rfl, rfl⟩ := he
  have of_ := Own.form h
  obtain ⟨ad1, cd1, hdv, _⟩ := of_
  subst hdv
  have h : On W0 (OwnB (.slice ad1 ([] : List UInt8).length cd1) [] :: _) w := h
  refine WL.val run_move rfl rfl (WL.val (run_extract rfl rfl) rfl rfl (WL.val (run_extract rfl rfl) rfl rfl (WL.eff (eff_alloc h zeroValue36 rfl) rfl rfl ?_)))
  rintro _ w ⟨b3, rfl, h⟩
  refine WL.eff (eff_storeW (vs := [.int .i64 _, .int .i64 _, .int .i64 _, .slice _ _ _, .int .i64 _]) h sizeOf36 rfl rfl rfl rfl rfl) rfl rfl ?_
  rintro _ w h
  refine WL.val run_assign rfl rfl (WL.nil (W.seq (W.region (WL.val run_move rfl rfl (WL.val (run_buildS (pl := [(0, 1), (1, 1), (2, 1), (3, 1), (4, 1), (5, 1), (6, 1), (7, 1)]) (out := [.int .i64 _, .int .i64 _, .int .i64 _, .slice _ _ _, .int .u64 _, .int .u64 _, .int .i64 _, .bool _]) underlying25 zeroValue25 (fun w => by kernel_rfl) rfl (⟨⟨_, _, rfl, rfl, by decide⟩, ⟨⟨_, _, rfl, rfl, by decide⟩, ⟨⟨_, _, rfl, rfl, by decide⟩, trivial⟩⟩⟩) rfl) rfl rfl (WL.eff (eff_call call8 (udo_ok (hh := 1) (kind := 2) (at_ := 1) (n := 1) (data := []) (key := 0) (new := 0) (typ := 0) (force := false) (u := kn1) (kn1_ok).2 (kn1_ok).1 cm_okC (h.fetch (UnP 68 105 113 bu pool1 ms1 kn1)) Gives.nilB (by decide))) rfl rfl ?_))))))
  rintro _ w ⟨u1_, r1_, dv2, he, rfl, h⟩
  have he := he.symm.trans kn2_eq
  simp only [Prod.mk.injEq] at he
  obtain ⟨rfl, rfl⟩ := he
  have of_ := Own.form h
  obtain ⟨ad2, cd2, hdv, _⟩ := of_
  subst hdv
  have h : On W0 (OwnB (.slice ad2 (abc).length cd2) (abc) :: _) w := h
  refine WL.eff (eff_alloc h zeroValue36 rfl) rfl rfl ?_
  rintro _ w ⟨b5, rfl, h⟩
  refine WL.eff (eff_storeW (vs := [.int .i64 _, .int .i64 _, .int .i64 _, .slice _ _ _, .int .i64 _]) h sizeOf36 rfl rfl rfl rfl rfl) rfl rfl ?_
  rintro _ w h
  refine WL.nil (W.seq (W.region (WL.val run_move rfl rfl (WL.val (run_buildS (pl := [(0, 1), (1, 1), (2, 1), (3, 1), (4, 1), (5, 1), (6, 1), (7, 1)]) (out := [.int .i64 _, .int .i64 _, .int .i64 _, .slice _ _ _, .int .u64 _, .int .u64 _, .int .i64 _, .bool _]) underlying25 zeroValue25 (fun w => by kernel_rfl) rfl (⟨⟨_, _, rfl, rfl, by decide⟩, ⟨⟨_, _, rfl, rfl, by decide⟩, ⟨⟨_, _, rfl, rfl, by decide⟩, trivial⟩⟩⟩) rfl) rfl rfl (WL.eff (eff_call call16 (uuonce_ok (i := 0) (id := 1) (floor := 0) (kind := 2) (at_ := 1) (n := 1) (data := []) (key := 0) (new := 0) (typ := 0) (force := false) (u := kn2) (pool := pool1) (ms := ms1) (by decide) (kn2_ok).2 (kn2_ok).1 cm_okC kn2_d ((h.fetch (Pool pool1)).fetch (UnP 68 105 113 bu pool1 ms1 kn2)) Gives.nilB (by decide))) rfl rfl ?_)))))
  rintro _ w ⟨u1_, r1_, f1_, dv3, ms3, pool3, he, rfl, _, h⟩
  have he := he.symm.trans kn3_eq
  simp only [Prod.mk.injEq] at he
  obtain ⟨rfl, rfl, rfl⟩ := he
  have of_ := Own.form h
  obtain ⟨ad3, cd3, hdv, _⟩ := of_
  subst hdv
  have h : On W0 (OwnB (.slice ad3 ([] : List UInt8).length cd3) [] :: _) w := h
  refine WL.val run_move rfl rfl (WL.val (run_extract rfl rfl) rfl rfl (WL.val (run_extract rfl rfl) rfl rfl (WL.eff (eff_alloc h zeroValue36 rfl) rfl rfl ?_)))
  rintro _ w ⟨b6, rfl, h⟩
  refine WL.eff (eff_storeW (vs := [.int .i64 _, .int .i64 _, .int .i64 _, .slice _ _ _, .int .i64 _]) h sizeOf36 rfl rfl rfl rfl rfl) rfl rfl ?_
  rintro _ w h
  refine WL.val run_assign rfl rfl (WL.nil (W.seq (W.region (WL.val run_move rfl rfl (WL.val (run_buildS (pl := [(0, 1), (1, 1), (2, 1), (3, 1), (4, 1), (5, 1), (6, 1), (7, 1)]) (out := [.int .i64 _, .int .i64 _, .int .i64 _, .slice _ _ _, .int .u64 _, .int .u64 _, .int .i64 _, .bool _]) underlying25 zeroValue25 (fun w => by kernel_rfl) rfl (⟨⟨_, _, rfl, rfl, by decide⟩, trivial⟩) rfl) rfl rfl (WL.eff (eff_call call8 (udo_ok (hh := 9) (kind := 2) (at_ := 0) (n := 0) (data := []) (key := 0) (new := 0) (typ := 0) (force := false) (u := kn3) (kn3_ok).2 (kn3_ok).1 cm_okC (h.fetch (UnP 68 105 113 bu pool3 ms3 kn3)) Gives.nilB (by decide))) rfl rfl ?_))))))
  rintro _ w ⟨u1_, r1_, dv4, he, rfl, h⟩
  have he := he.symm.trans kn4_eq
  simp only [Prod.mk.injEq] at he
  obtain ⟨rfl, rfl⟩ := he
  have of_ := Own.form h
  obtain ⟨ad4, cd4, hdv, _⟩ := of_
  subst hdv
  have h : On W0 (OwnB (.slice ad4 ([] : List UInt8).length cd4) ([] : List UInt8) :: _) w := h
  refine WL.eff (eff_alloc h zeroValue36 rfl) rfl rfl ?_
  rintro _ w ⟨b8, rfl, h⟩
  refine WL.eff (eff_storeW (vs := [.int .i64 _, .int .i64 _, .int .i64 _, .slice _ _ _, .int .i64 _]) h sizeOf36 rfl rfl rfl rfl rfl) rfl rfl ?_
  rintro _ w h
  refine WL.nil (W.seq (W.region (WL.val run_move rfl rfl (WL.eff (eff_call call17 (uencode_ok (u := kn4) (pool := pool3) (ms := ms3) kn4_cap kn4_okT kn4_g knB_s ((h.fetch (Pool pool3)).fetch (UnP 68 105 113 bu pool3 ms3 kn4)))) rfl rfl ?_))))
  rintro v44 w ⟨a44, hv44, h⟩
  have ob_ : ∃ E, E = knB := ⟨_, rfl⟩
  obtain ⟨E, hEq⟩ := ob_
  have hEq2 : encU kn4 (SpM.encS kn4.s) = E := hEq.symm
  rw [hEq2] at hv44 h
  subst hv44
  refine WL.eff (eff_call call7 (udecode_ok (tF := To.refl) (b := E) (ab0 := a44) (cb0 := E.length) (by rw [hEq]; exact knB_len) (by rw [hEq]; exact knB_0) h (Gives.ownO (v := .slice a44 E.length E.length)))) rfl rfl ?_
  rintro _ w hv
  rcases hv with ⟨u4, bu2, ms4, pool4, hdu, rfl, h⟩ | ⟨hno, rfl, h⟩
  rotate_left
  · rw [hEq] at hno; have hk := knB_1; rw [hno] at hk; obtain ⟨_, hk⟩ := hk; cases hk
  rw [hEq] at hdu
  have hk2 := knB_2 hdu
  obtain ⟨hkC, hkS, u5, hk5⟩ := hk2
  refine WL.val run_move rfl rfl (WL.val (run_extract rfl rfl) rfl rfl (WL.val (run_extract rfl rfl) rfl rfl (WL.val run_assign rfl rfl (WL.val run_assign rfl rfl (WL.nil (W.seq (W.seq ?_)))))))
  refine W.region (WL.val run_move rfl rfl (WL.val (run_neqF rfl rfl (rfl)) rfl rfl (WL.val run_move rfl rfl (WL.val run_move rfl rfl (WL.val (run_eqlPtrNil underlying31 rfl rfl) rfl rfl (WL.val (run_pickF rfl) rfl rfl (WL.nil ?_)))))))
  refine W.condF rfl (W.skip (W.seq (W.region (WL.val run_move rfl rfl (WL.val (run_buildS (pl := [(0, 1), (1, 1), (2, 1), (3, 1), (4, 1), (5, 1), (6, 1), (7, 1)]) (out := [.int .i64 _, .int .i64 _, .int .i64 _, .slice _ _ _, .int .u64 _, .int .u64 _, .int .i64 _, .bool _]) underlying25 zeroValue25 (fun w => by kernel_rfl) rfl (⟨⟨_, _, rfl, rfl, by decide⟩, ⟨⟨_, _, rfl, rfl, by decide⟩, ⟨⟨_, _, rfl, rfl, by decide⟩, trivial⟩⟩⟩) rfl) rfl rfl (WL.eff (eff_call call8 (udo_ok (hh := 0) (kind := 2) (at_ := 1) (n := 1) (data := []) (key := 0) (new := 0) (typ := 0) (force := false) (u := u4) ((And.intro hkC hkS)).2 ((And.intro hkC hkS)).1 cm_okC (h.fetch (UnP 68 105 113 bu2 pool4 ms4 u4)) Gives.nilB (by decide))) rfl rfl ?_))))))
  rintro _ w ⟨u1_, r1_, dv5, he, rfl, h⟩
  have he := he.symm.trans hk5
  simp only [Prod.mk.injEq] at he
  obtain ⟨rfl, rfl⟩ := he
  have of_ := Own.form h
  obtain ⟨ad5, cd5, hdv, _⟩ := of_
  subst hdv
  have h : On W0 (OwnB (.slice ad5 (abc).length cd5) (abc) :: _) w := h
  refine WL.eff (eff_alloc h zeroValue36 rfl) rfl rfl ?_
  rintro _ w ⟨b11, rfl, h⟩
  refine WL.eff (eff_storeW (vs := [.int .i64 _, .int .i64 _, .int .i64 _, .slice _ _ _, .int .i64 _]) h sizeOf36 rfl rfl rfl rfl rfl) rfl rfl ?_
  rintro _ w h
  refine WL.nil (W.seq (W.region (WL.val run_move rfl rfl (WL.val run_move rfl rfl (WL.val run_move rfl rfl (WL.val (run_not rfl) rfl rfl (WL.val (run_pickT rfl) rfl rfl ?_)))))))
  refine WL.val run_move rfl rfl (WL.val (run_fieldAddr 0 underlying36 rfl sizeOf3 rfl rfl) rfl rfl (WL.val (run_load1 isAgg3 rfl (h.cellB rfl)) rfl rfl (WL.val (run_eqlT rfl rfl (rfl)) rfl rfl (WL.val (run_pickT rfl) rfl rfl (WL.val run_move rfl rfl (WL.val (run_fieldAddr 3 underlying36 rfl sizeOf22 rfl rfl) rfl rfl (WL.val (run_load1 isAgg22 rfl (h.cellB rfl)) rfl rfl ?_)))))))
  refine WL.val (run_bytesStr underlying22 underlying5 underlying9 rfl (h.cellsO (v := .slice ad2 abc.length cd2))) rfl rfl (WL.val (run_eqlStrT rfl rfl (rfl)) rfl rfl (WL.val (run_pickT rfl) rfl rfl (WL.val run_move rfl rfl (WL.val (run_loadB (vs := [.int .i64 _, .int .i64 _, .int .i64 _, .slice _ _ _, .int .i64 _]) h isAgg36 sizeOf36 rfl rfl rfl) rfl rfl (WL.val (run_loadB (vs := [.int .i64 _, .int .i64 _, .int .i64 _, .slice _ _ _, .int .i64 _]) h isAgg36 sizeOf36 rfl rfl rfl) rfl rfl (WL.eff (eff_call call18 (usame_ok (s1 := 0) (k1 := 0) (c1 := 0) (i1 := 0) (d1 := []) (s2 := 0) (k2 := 0) (c2 := 0) (i2 := 0) (d2 := []) h (Gives.ownO (v := .slice ad1 ([] : List UInt8).length cd1)) (Gives.ownO (v := .slice ad3 ([] : List UInt8).length cd3)))) rfl rfl ?_))))))
  rintro _ w ⟨rfl, h⟩
  refine WL.val (run_pickT rfl) rfl rfl (WL.val run_move rfl rfl (WL.val (run_fieldAddr 2 underlying36 rfl sizeOf3 rfl rfl) rfl rfl (WL.val (run_load1 isAgg3 rfl (h.cellB rfl)) rfl rfl (WL.val (run_eqlT rfl rfl (rfl)) rfl rfl (WL.val (run_pickT rfl) rfl rfl (WL.val run_move rfl rfl (WL.val (run_fieldAddr 3 underlying36 rfl sizeOf22 rfl rfl) rfl rfl ?_)))))))
  refine WL.val (run_load1 isAgg22 rfl (h.cellB rfl)) rfl rfl (WL.val (run_bytesStr underlying22 underlying5 underlying9 rfl (h.cellsO (v := .slice ad5 abc.length cd5))) rfl rfl (WL.val (run_eqlStrT rfl rfl (rfl)) rfl rfl (WL.val (run_pickT rfl) rfl rfl (WL.val run_move rfl rfl (WL.val run_move rfl rfl (WL.eff (eff_call call9 (ublocks_ok (u := kn4) (bu := bu) (pool := pool3) (ms := ms3) (h.fetch (UnP 68 105 113 bu pool3 ms3 kn4)))) rfl rfl ?_))))))
  rintro _ w ⟨rfl, h⟩
  refine WL.val (run_eqlT rfl rfl (by rw [kn4_N]; rfl)) rfl rfl (WL.val (run_pickT rfl) rfl rfl (WL.val run_assign rfl rfl (WL.nil (W.ret (bodyQ.r1 (v := .bool _) results5 rfl ?_)))))
  exact ⟨rfl, h.to⟩
end Go.Proofs.YtjbgiingimhnnaaGreat
/-
  Laws of a unit on plain data: attentions, blocks in any order. No program is named here.
-/
namespace Go.Sl.UnM
open Go Go.Sl Go.Sl.BitM Go.Sl.SpM Go.Sl.RsM Go.Sl.ByM
set_option linter.unusedVariables false
def at1 : Un := resetN (newU 4) 8
end Go.Sl.UnM
namespace Go.Sl.UnM
open Go Go.Sl Go.Sl.BitM Go.Sl.SpM Go.Sl.RsM Go.Sl.ByM
end Go.Sl.UnM
/-
  A command as an argument reads. No program is named here.
-/
namespace Go.Sl.UnM
open Go Go.Sl Go.Sl.BitM Go.Sl.SpM Go.Sl.RsM Go.Sl.ByM
set_option linter.unusedVariables false
/-- A command as an argument reads. -/
structure CmX where
  kind : Int
  at_ : Int
  n : Int
  ax : Option Addr
  ac : Nat
  bs : List UInt8
  key : Int
  new : Int
  typ : Int
  force : Bool
def CmX.cells (c : CmX) : List Value := [.int .i64 c.kind, .int .i64 c.at_, .int .i64 c.n, .slice c.ax c.bs.length c.ac, .int .u64 c.key, .int .u64 c.new, .int .i64 c.typ, .bool c.force]
def CmX.cm (c : CmX) : Cm := ⟨c.kind, c.at_, c.n, c.bs, c.key, c.new, c.typ, c.force⟩
end Go.Sl.UnM
/-
  Commands of blocks, one behind the other: the bytes that are kept beside. No program is named here.
-/
namespace Go.Sl.UnM
open Go Go.Sl Go.Sl.BitM Go.Sl.SpM Go.Sl.RsM Go.Sl.ByM
set_option linter.unusedVariables false
/-- An act of a play. -/
structure A17 where
  h : Int
  c : CmX
  once : Bool
  id : Int
  floor : Int
  code : Bool
def A17.cells (a : A17) : List Value := .int .i64 a.h :: (a.c.cells ++ [.bool a.once, .int .u64 a.id, .int .u64 a.floor, .bool a.code])
theorem A17.cells_length (a : A17) : a.cells.length = 13 := rfl
/-! ### What each command does to the bytes -/
section
variable {s : Sp} {p q : Nat} {bs : List UInt8} {k n t : Int} {f : Bool}
end
end Go.Sl.UnM
namespace Go.Sl
open Go
theorem cell_at {w : World} {b o p : Nat} {vs : List Value} {v : Value} (H : ∀ j u, vs[j]? = some u → w.cell? ⟨b, o + j, none⟩ = some u) (q : Nat) (e : vs[p + q]? = some v) : w.cell? ⟨b, o + p + q, none⟩ = some v := by
  rw [Nat.add_assoc]; exact H _ _ e
end Go.Sl
namespace Go.Sl
open Go
end Go.Sl
namespace Go.Sl.UnM
open Go Go.Sl Go.Sl.BitM Go.Sl.SpM Go.Sl.RsM Go.Sl.ByM
end Go.Sl.UnM
/-
  A unit: the law of any bytes: the contracts. Lines of walks printed by a program of the prover's.
-/
namespace Go.Proofs.YtjbgiingimhnnaaGreat
open Go.Proofs.Tryz
open Go Go.Sl Go.Sl.BitM Go.Sl.SpM Go.Sl.RsM Go.Sl.ByM Go.Sl.UnM
set_option linter.unusedVariables false
set_option linter.unusedSimpArgs false
set_option maxHeartbeats 1000000
set_option maxRecDepth 8000
variable {W0 w : World} {L F : List HProp}
theorem few17_ok {al : Option Addr} {cl : Nat} {l : List A17} (h : On W0 F w) (C : Gives F (Cells 13 (.slice al l.length cl) l.length (l.flatMap A17.cells))) : Calls Tryz.prog 6 #[.slice al l.length cl] w (Ret fun v w' => ∃ t : Bool, v = .bool t ∧ (t = true → l.length ≤ 60 ∧ ∀ a ∈ l, a.c.bs.length ≤ 600) ∧ On W0 F w') := by
  refine enter func6 rfl ntmps6 rfl ?_
  have hbd := (h.reads C).bounds
  obtain ⟨hc1, hc2⟩ := hbd
  have hmx := maxLen_eq
  refine W.seq (W.region (WL.val run_assign rfl rfl (WL.nil (W.seq (W.seq (W.region (WL.val run_move rfl rfl ?_)))))))
  refine WL.val (run_lenSlice underlying30 rfl) rfl rfl (WL.val (run_gtr rfl rfl) rfl rfl (WL.nil ?_))
  refine W.condIf rfl (fun c2 => ?_) (fun c2 => ?_)
  ·
   refine W.seq (W.region (WL.val run_assign rfl rfl (WL.nil (W.ret (bodyQ.r1 (v := .bool _) results6 rfl ?_)))))
   exact ⟨false, rfl, fun e => (by cases e), h⟩
  refine W.skip (W.seq (W.seq (W.region (WL.val run_assign rfl rfl (WL.nil (W.block ?_))))))
  refine W.loop (fun (k : Nat) env w => ∃ j, env = mkE j [(0, .slice al l.length cl), (3, .int .i64 (k : Int))] ∧ k ≤ l.length ∧ (∀ (i : Nat) a, i < k → l[i]? = some a → a.c.bs.length ≤ 600) ∧ On W0 F w) (fun k => l.length - k) (0) ?_ ?_
  · exact ⟨_, mkE_of ⟨rfl, rfl, trivial⟩, Nat.zero_le _, by intro i a hi; omega, h⟩
  rintro k env w ⟨j, rfl, hk, hno, h⟩
  refine W.seq (W.seq (W.region (WL.val run_move rfl rfl (WL.val run_move rfl rfl (WL.val (run_lenSlice underlying30 rfl) rfl rfl (WL.val (run_lss rfl rfl) rfl rfl (WL.nil ?_)))))))
  refine W.condIf rfl (fun c10 => ?_) (fun c10 => ?_)
  ·
   refine W.skip (W.seq (W.block (W.seq ?_)))
   have hkl : k < l.length := by omega
   have ad_ := (h.readsTo C).addr (by omega)
   obtain ⟨bq, oq, hal⟩ := ad_
   subst hal
   have ex_ : ∃ a, l[k]? = some a := ⟨l[k], by simp⟩
   obtain ⟨⟨ah, ⟨ck, cat, cn, cax, cac, cbs, cky, cnw, cty, cfo⟩, ao, aid, afl, aco⟩, hq⟩ := ex_
   have hrow := drop_flatMap A17.cells 13 A17.cells_length l _ _ hq
   refine W.region (WL.val run_move rfl rfl (WL.val run_move rfl rfl (WL.val (run_indexAddr underlying30 sizeOf27 rfl rfl (by omega) (by omega)) rfl rfl (WL.val (run_fieldAddr 1 underlying27 rfl sizeOf25 rfl rfl) rfl rfl (WL.val (run_fieldAddr 3 underlying25 rfl sizeOf22 rfl rfl) rfl rfl (WL.val (run_load1 isAgg22 rfl (cell_at (p := 1) ((h.readsTo C).elem (i := k) (vs := [.int .i64 ah, .int .i64 ck, .int .i64 cat, .int .i64 cn, .slice cax cbs.length cac, .int .u64 cky, .int .u64 cnw, .int .i64 cty, .bool cfo, .bool ao, .int .u64 aid, .int .u64 afl, .bool aco]) (by omega) hrow) 3 rfl)) rfl rfl (WL.val (run_lenSlice underlying22 rfl) rfl rfl ?_)))))))
   refine WL.val (run_gtr rfl rfl) rfl rfl (WL.nil ?_)
   refine W.condIf rfl (fun c15 => ?_) (fun c15 => ?_)
   ·
    refine W.seq (W.region (WL.val run_assign rfl rfl (WL.nil (W.ret (bodyQ.r1 (v := .bool _) results6 rfl ?_)))))
    exact ⟨false, rfl, fun e => (by cases e), h⟩
   refine W.skip (W.region (WL.val run_move rfl rfl (WL.val (run_incN rfl rfl (by omega)) rfl rfl (WL.val run_assign rfl rfl (WL.nil ?_)))))
   exact ⟨k + 1, ⟨_, mkE_of ⟨rfl, rfl, trivial⟩, by omega, (by
     intro i a hi ha
     by_cases hik : i = k
     · subst hik; rw [hq] at ha; cases ha; show cbs.length ≤ 600; omega
     · exact hno i a (by omega) ha), h⟩, by show l.length - (k + 1) < l.length - k; omega⟩
  refine W.exit (W.seq (W.region (WL.val run_assign rfl rfl (WL.nil (W.ret (bodyQ.r1 (v := .bool _) results6 rfl ?_))))))
  exact ⟨true, rfl, fun _ => ⟨by omega, fun a ha => by
    have ex_ := List.getElem?_of_mem ha
    obtain ⟨i, hi⟩ := ex_
    exact hno i a (by have := (List.getElem?_eq_some_iff.1 hi).1; omega) hi⟩, h⟩
theorem ubytes_law {ab : Option Addr} {cb : Nat} {b : List UInt8} {hh id floor : Int} {once code : Bool} {kind at_ n key new typ : Int} {force : Bool} {data : List UInt8} {ax : Option Addr} {cx : Nat} [tF : To F F] (hcm : okCm (⟨kind, at_, n, data, key, new, typ, force⟩ : Cm)) (h : On W0 F w) (C0 : Gives F (Bytes (.slice ab b.length cb) b)) (C1 : Gives F (Bytes (.slice ax data.length cx) data)) : Calls Tryz.prog 3 #[.slice ab b.length cb, .agg #[.int .i64 hh, .int .i64 kind, .int .i64 at_, .int .i64 n, .slice ax data.length cx, .int .u64 key, .int .u64 new, .int .i64 typ, .bool force, .bool once, .int .u64 id, .int .u64 floor, .bool code]] w (Ret fun v w' => v = .bool true ∧ On W0 F w') := by
  refine enter func3 rfl ntmps3 rfl ?_
  have hmx := maxLen_eq
  refine W.seq (W.region (WL.eff (eff_box (v := .agg _) (l := [.int .i64 hh, .int .i64 kind, .int .i64 at_, .int .i64 n, .slice ax data.length cx, .int .u64 key, .int .u64 new, .int .i64 typ, .bool force, .bool once, .int .u64 id, .int .u64 floor, .bool code]) h rfl rfl) rfl rfl ?_))
  rintro _ w ⟨b3, rfl, h⟩
  refine WL.val run_assign rfl rfl (WL.nil (W.seq (W.seq (W.region (WL.eff (eff_call call5 (uknown_ok h)) rfl rfl ?_)))))
  rintro _ w ⟨rfl, h⟩
  refine WL.val (run_not rfl) rfl rfl (WL.nil (W.condF rfl (W.skip (W.seq (W.seq (W.region (WL.val run_move rfl rfl ?_)))))))
  refine WL.val (run_lenSlice underlying22 rfl) rfl rfl ?_
  refine WL.dec (run_gtr rfl rfl) rfl rfl (fun c11 => ?_) (fun c11 => ?_)
  ·
   refine WL.val run_move rfl rfl (WL.skip rfl rfl (WL.skip rfl rfl (WL.skip rfl rfl (WL.skip rfl rfl (WL.val (run_pickT rfl) rfl rfl (WL.nil (W.condT rfl ?_)))))))
   refine W.seq (W.region (WL.val run_assign rfl rfl (WL.nil (W.ret (bodyQ.r1 (v := .bool _) results3 rfl ?_)))))
   exact ⟨rfl, h.to⟩
  refine WL.val run_move rfl rfl (WL.val (run_loadB (vs := [.int .i64 _, .int .i64 _, .int .i64 _, .int .i64 _, .slice _ _ _, .int .u64 _, .int .u64 _, .int .i64 _, .bool _, .bool _, .int .u64 _, .int .u64 _, .bool _]) h isAgg27 sizeOf27 rfl rfl rfl) rfl rfl ?_)
  refine WL.eff (eff_mkSlice (zl := [.int .i64 0, .int .i64 0, .int .i64 0, .int .i64 0, .slice none 0 0, .int .u64 0, .int .u64 0, .int .i64 0, .bool false, .bool false, .int .u64 0, .int .u64 0, .bool false]) (out := [.int .i64 _, .int .i64 _, .int .i64 _, .int .i64 _, .slice _ _ _, .int .u64 _, .int .u64 _, .int .i64 _, .bool _, .bool _, .int .u64 _, .int .u64 _, .bool _]) h underlying30 sizeOf27 zeroValue27 (by decide) (by kernel_rfl) rfl rfl (by simp) (⟨⟨_, _, rfl, rfl, by decide⟩, trivial⟩) rfl rfl (by simp [maxLen])) rfl rfl ?_
  rintro _ w ⟨b14, rfl, h⟩
  refine WL.eff (eff_call call6 (few17_ok (l := [(⟨hh, ⟨kind, at_, n, ax, cx, data, key, new, typ, force⟩, once, id, floor, code⟩ : A17)]) h (Gives.ownO (v := .slice (some ⟨b14, 0, none⟩) 1 1)))) rfl rfl ?_
  rintro _ w ⟨t, rfl, hf0, h⟩
  refine WL.val (run_not rfl) rfl rfl (WL.val (run_pickF rfl) rfl rfl (WL.nil ?_))
  refine W.condB rfl (fun c7 => ?_) (fun c7 => ?_)
  ·
   refine W.seq (W.region (WL.val run_assign rfl rfl (WL.nil (W.ret (bodyQ.r1 (v := .bool _) results3 rfl ?_)))))
   exact ⟨rfl, h.to⟩
  have hf1 := hf0 (by simpa using c7)
  have hd6 : data.length ≤ 600 := hf1.2 (⟨hh, ⟨kind, at_, n, ax, cx, data, key, new, typ, force⟩, once, id, floor, code⟩ : A17) (List.mem_singleton.2 rfl)
  refine W.skip (W.seq (W.region (WL.val run_move rfl rfl (WL.eff (eff_call call7 (udecodeA_ok (F := F) (b := b) (by omega) h C0)) rfl rfl ?_))))
  rintro _ w hv
  rcases hv with ⟨u, bu, ms, pool, ⟨hgu, hsm⟩, rfl, h⟩ | ⟨rfl, h⟩
  ·
   refine WL.val run_move rfl rfl (WL.val (run_extract rfl rfl) rfl rfl (WL.val (run_extract rfl rfl) rfl rfl (WL.val run_assign rfl rfl (WL.val run_assign rfl rfl (WL.nil (W.seq (W.seq ?_)))))))
   refine W.region (WL.val run_move rfl rfl (WL.val (run_eqlPtrNil underlying31 rfl rfl) rfl rfl (WL.nil (W.condF rfl (W.skip (W.seq (W.region ?_)))))))
   refine WL.val run_move rfl rfl (WL.val (run_fieldAddr 0 underlying27 rfl sizeOf3 rfl rfl) rfl rfl (WL.val (run_load1 isAgg3 rfl (h.cellB rfl)) rfl rfl (WL.val (run_fieldAddr 1 underlying27 rfl sizeOf25 rfl rfl) rfl rfl (WL.val (run_loadB (vs := [.int .i64 _, .int .i64 _, .int .i64 _, .slice _ _ _, .int .u64 _, .int .u64 _, .int .i64 _, .bool _]) h isAgg25 sizeOf25 rfl rfl rfl) rfl rfl (WL.eff (eff_call call8 (udo_ok (u := u) (pool := pool) (ms := ms) (hh := hh) (kind := kind) (at_ := at_) (n := n) (data := data) (key := key) (new := new) (typ := typ) (force := force) hsm hgu hcm (h.fetch (UnP 68 105 113 bu pool ms u)) (Gives.to C1) (by omega))) rfl rfl ?_)))))
   rintro _ w ⟨u1, ⟨s1, k1, c1, d1, i1⟩, dv1, he1, rfl, h⟩
   have hwf : wfS u1.s := by
     have ho := openU (h.fetch (UnP 68 105 113 bu pool ms u1))
     obtain ⟨bs, bt, gs, hm, hl, h⟩ := ho
     exact On.wfS (h.fetch (SpP 105 bs u1.s))
   have hN1 := hwf.2.1
   have hN2 := hwf.2.2.1
   refine WL.nil (W.seq (W.region (WL.val run_move rfl rfl (WL.val (run_eqlT rfl rfl (rfl)) rfl rfl (WL.val run_move rfl rfl (WL.val run_move rfl rfl (WL.eff (eff_call call9 (ublocks_ok (u := u1) (h.fetch (UnP 68 105 113 bu pool ms u1)))) rfl rfl ?_)))))))
   rintro _ w ⟨rfl, h⟩
   refine WL.val (run_geqT rfl rfl (by omega)) rfl rfl (WL.val (run_pickT rfl) rfl rfl (WL.val run_move rfl rfl (WL.val run_move rfl rfl (WL.eff (eff_call call9 (ublocks_ok (u := u1) (h.fetch (UnP 68 105 113 bu pool ms u1)))) rfl rfl ?_))))
   rintro _ w ⟨rfl, h⟩
   refine WL.val (run_leqT rfl rfl (by omega)) rfl rfl (WL.val (run_pickT rfl) rfl rfl (WL.val run_assign rfl rfl (WL.nil (W.ret (bodyQ.r1 (v := .bool _) results3 rfl ?_)))))
   exact ⟨rfl, h.to⟩
  refine WL.val run_move rfl rfl (WL.val (run_extract rfl rfl) rfl rfl (WL.val (run_extract rfl rfl) rfl rfl (WL.val run_assign rfl rfl (WL.val run_assign rfl rfl (WL.nil (W.seq (W.seq ?_)))))))
  refine W.region (WL.val run_move rfl rfl (WL.val (run_eqlPtrNil underlying31 rfl rfl) rfl rfl (WL.nil (W.condT rfl (W.seq (W.region (WL.val run_move rfl rfl ?_)))))))
  refine WL.val (run_eqlT rfl rfl (rfl)) rfl rfl (WL.val run_assign rfl rfl (WL.nil (W.ret (bodyQ.r1 (v := .bool _) results3 rfl ?_))))
  exact ⟨rfl, h.to⟩
end Go.Proofs.YtjbgiingimhnnaaGreat
