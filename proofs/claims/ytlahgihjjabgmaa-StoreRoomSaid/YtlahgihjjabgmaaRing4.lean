/-
  A journal is opened, trimmed, read: the contracts. Lines of walks printed by a program of the prover's.
-/
import Derived.Test.YtlahgihjjabgmaaRing3
import Derived.Test.YtlahgihjjabgmaaRingT
namespace Go.Proofs.Ytlahgihjjabgmaa
open Go Go.Sl Go.Sl.ByM Go.Sl.DkM Go.Sl.TwM Go.Sl.RgM
set_option linter.unusedVariables false
set_option linter.unusedSimpArgs false
set_option maxHeartbeats 1000000
set_option maxRecDepth 8000
variable {W0 w : World} {L F : List HProp}

theorem scan_chain {br b at_ n first place life k : Nat} {d : Dk} {l : List LB} (C : Chain d at_ n place first life l) (hk : k ≤ l.length) (hp : place < n) (hs : stE d = 0) (hin : ((at_ + n : Nat) : Int) ≤ d.n) (h : On W0 (RingP 130 br b (rgF (g0R at_ n first place life) ((l.map (·.2)).take k)) :: DiskP 106 110 b d :: L) w) :
    Calls Try.prog 88 #[.pointer (some ⟨br, 0, none⟩), .int .u32 (leastR (l.take k) : Int)] w (Ret fun v w' => (∃ (x : LB) (a : Option Addr) (c : Nat), l[k]? = some x ∧ x.2.length ≤ 32768 ∧ (rgF (g0R at_ n first place life) ((l.map (·.2)).take k)).used + needR x.2.length ≤ (rgF (g0R at_ n first place life) ((l.map (·.2)).take k)).n ∧ v = .tuple #[.slice a x.2.length c, .int .u32 (x.1 : Int), .bool true, .int .i64 0] ∧ On W0 (OwnB (.slice a x.2.length c) x.2 :: RingP 130 br b (rgF (g0R at_ n first place life) ((l.map (·.2)).take k)) :: DiskP 106 110 b d :: L) w') ∨ (k = l.length ∧ v = .tuple #[.slice none 0 0, .int .u32 0, .bool false, .int .i64 0] ∧ On W0 (RingP 130 br b (rgF (g0R at_ n first place life) ((l.map (·.2)).take k)) :: DiskP 106 110 b d :: L) w')) := by
  have F := rgF_facts (g0R at_ n first place life) ((l.map (·.2)).take k)
  have hpl := rgF_place (g := (g0R at_ n first place life)) hp ((l.map (·.2)).take k)
  have hu : usedB ((l.map (·.2)).take k) = usedR (l.take k) := by rw [← List.map_take]; exact usedB_of _
  have hbl : ((l.map (·.2)).take k).length = k := by rw [List.length_take, List.length_map]; omega
  have h1 : (rgF (g0R at_ n first place life) ((l.map (·.2)).take k)).next = first + k := by unfold Rg.next; rw [F.first, F.len, hbl]; show first + (0 + k) = _; omega
  have h2 : (rgF (g0R at_ n first place life) ((l.map (·.2)).take k)).used = usedR (l.take k) := by rw [F.used, hu]; show 0 + _ = _; omega
  have h3 : (rgF (g0R at_ n first place life) ((l.map (·.2)).take k)).place = (place + usedR (l.take k)) % n := by rw [hpl, hu]; rfl
  have h4 : (rgF (g0R at_ n first place life) ((l.map (·.2)).take k)).n = n := F.n
  have h5 : (rgF (g0R at_ n first place life) ((l.map (·.2)).take k)).at_ = at_ := F.at_
  have h6 : (rgF (g0R at_ n first place life) ((l.map (·.2)).take k)).life = life := F.life
  rcases Nat.lt_or_ge k l.length with hlt | hge
  · have hx : l[k]? = some l[k] := List.getElem?_eq_getElem hlt
    generalize l[k] = x at hx
    obtain ⟨c1, c2, c3, c4⟩ := C.here k x hx
    have hst := usedR_step hx
    have hle := usedR_take_le l (k + 1)
    have hcu := C.used
    have hro : (rgF (g0R at_ n first place life) ((l.map (·.2)).take k)).used + needR x.2.length ≤ (rgF (g0R at_ n first place life) ((l.map (·.2)).take k)).n := by rw [h2, h4]; omega
    refine (scan_here (l2 := x.1) (bb := x.2) (by rw [h5, h4, h3, h1]; exact c1) c2 (by rw [h6]; exact c3) c4 hro hs (by rw [h5, h4]; exact hin) h).mono fun e w' he => ?_
    obtain ⟨v, he, a, c, hv, h⟩ := he
    exact ⟨v, he, .inl ⟨x, a, c, hx, c4, hro, hv, h⟩⟩
  · have hkl : k = l.length := by omega
    subst hkl
    have hcu := C.used
    rw [List.take_length] at h2 h3
    rw [List.take_length]
    refine (scan_gone (least := leastR l) ?_ hs (by rw [h5, h4]; exact hin) h).mono fun e w' he => ?_
    · rw [h2, h4, h5, h3, h1, h6]
      rcases C.gone with hg | hg
      · exact .inl hg
      · rcases Nat.lt_or_ge (usedR l) n with hh | hh
        · exact .inr ⟨hh, hg⟩
        · exact .inl (by omega)
    · obtain ⟨v, he, hv, h⟩ := he
      exact ⟨v, he, .inr ⟨rfl, hv, h⟩⟩

theorem clip_rows {a : Option Addr} {n c : Nat} {xs : List Value} (h : On W0 (Own 1 (.slice a n c) n xs :: L) w) :
    Calls Try.prog 89 #[.slice a n c] w (Ret fun v w' => v = .slice a n n ∧ On W0 (Own 1 (.slice a n n) n xs :: L) w') := by
  refine enter Try.func89 rfl Try.ntmps89 rfl ?_
  have ob_ := Own.form h
  obtain ⟨a', c', hv, hnc, hcm, hnone⟩ := ob_
  simp only [Value.slice.injEq] at hv
  obtain ⟨rfl, _, rfl⟩ := hv
  refine W.seq ?_
  refine W.region ?_
  refine WL.val run_assign rfl rfl ?_
  refine WL.nil ?_
  refine W.seq ?_
  refine W.region ?_
  refine WL.val run_move rfl rfl ?_
  refine WL.val run_move rfl rfl ?_
  refine WL.val (run_lenSlice Try.underlying23 rfl) rfl rfl ?_
  refine WL.val run_move rfl rfl ?_
  refine WL.val (run_lenSlice Try.underlying23 rfl) rfl rfl ?_
  refine WL.val (run_cutHM Try.underlying23 Try.sizeOf22 rfl rfl rfl  (by omega) (by omega)) rfl rfl ?_
  refine WL.val run_assign rfl rfl ?_
  refine WL.nil ?_
  refine W.ret ?_
  refine bodyQ.r1 (v := .slice _ _ _) Try.results89 rfl ?_
  -- path 
  exact ⟨rfl, Own.clip h⟩

theorem ropen_ok {b at_ n first place life : Nat} {d : Dk} {l : List LB} (C : Chain d at_ n place first life l) (hn2 : 2 ≤ n) (hn4 : n ≤ 4096) (hat : at_ ≤ 4096) (hp : place < n) (hf : first ≤ 4000000000000000000) (hlf : life < 4294967296) (hs : stE d = 0) (hin : ((at_ + n : Nat) : Int) ≤ d.n) (h : On W0 (DiskP 106 110 b d :: L) w) : Calls Try.prog 34 #[.pointer (some ⟨b, 0, none⟩), .int .i64 (at_ : Int), .int .i64 (n : Int), .int .u64 (first : Int), .int .i64 (place : Int), .int .u32 (life : Int)] w (Ret fun v w' => ∃ br a, v = .tuple #[.pointer (some ⟨br, 0, none⟩), .slice a (l.map (·.2)).length (l.map (·.2)).length, .int .i64 0] ∧ On W0 (RingP 130 br b (rgF (g0R at_ n first place life) (l.map (·.2))) :: OutP a (l.map (·.2)).length (l.map (·.2)) :: DiskP 106 110 b d :: L) w') := by
  refine enter Try.func34 rfl Try.ntmps34 rfl ?_
  have hdok := diskOk h
  have hdn := hdok.1
  have hmx := maxLen_eq
  have hcu := C.used
  have hll := len_used l
  refine W.seq ?_
  refine W.region ?_
  refine WL.val run_assign rfl rfl ?_
  refine WL.val run_assign rfl rfl ?_
  refine WL.val run_assign rfl rfl ?_
  refine WL.nil ?_
  refine W.seq ?_
  refine W.seq ?_
  refine W.region ?_
  refine WL.val run_move rfl rfl ?_
  refine WL.val (run_lssF rfl rfl (by omega)) rfl rfl ?_
  refine WL.val run_move rfl rfl ?_
  refine WL.val run_move rfl rfl ?_
  refine WL.val (run_lssF rfl rfl (by omega)) rfl rfl ?_
  refine WL.val (run_pickF rfl) rfl rfl ?_
  refine WL.val run_move rfl rfl ?_
  refine WL.val run_move rfl rfl ?_
  refine WL.val run_move rfl rfl ?_
  refine WL.eff (eff_call Try.call63 (sectors_ok h)) rfl rfl ?_
  rintro _ w ⟨rfl, h⟩
  refine WL.val (run_gtrF rfl rfl (by omega)) rfl rfl ?_
  refine WL.val (run_pickF rfl) rfl rfl ?_
  refine WL.val run_move rfl rfl ?_
  refine WL.val run_move rfl rfl ?_
  refine WL.val run_move rfl rfl ?_
  refine WL.eff (eff_call Try.call63 (sectors_ok h)) rfl rfl ?_
  rintro _ w ⟨rfl, h⟩
  refine WL.val run_move rfl rfl ?_
  refine WL.val (run_sub rfl rfl (by omega) (by omega)) rfl rfl ?_
  refine WL.val (run_gtrF rfl rfl (by omega)) rfl rfl ?_
  refine WL.val (run_pickF rfl) rfl rfl ?_
  refine WL.val run_move rfl rfl ?_
  refine WL.val run_move rfl rfl ?_
  refine WL.val (run_lssF rfl rfl (by omega)) rfl rfl ?_
  refine WL.val (run_pickF rfl) rfl rfl ?_
  refine WL.val run_move rfl rfl ?_
  refine WL.val run_move rfl rfl ?_
  refine WL.val run_move rfl rfl ?_
  refine WL.val (run_geqF rfl rfl (by omega)) rfl rfl ?_
  refine WL.val (run_pickF rfl) rfl rfl ?_
  refine WL.val run_move rfl rfl ?_
  refine WL.val run_move rfl rfl ?_
  refine WL.val (run_gtrF rfl rfl (by omega)) rfl rfl ?_
  refine WL.val (run_pickF rfl) rfl rfl ?_
  refine WL.nil ?_
  refine W.condF rfl ?_
  refine W.skip ?_
  refine W.seq ?_
  refine W.region ?_
  refine WL.val run_move rfl rfl ?_
  refine WL.val run_move rfl rfl ?_
  refine WL.val run_move rfl rfl ?_
  refine WL.val run_move rfl rfl ?_
  refine WL.val run_move rfl rfl ?_
  refine WL.val run_move rfl rfl ?_
  refine WL.val (run_buildS (pl := [(0, 1), (1, 1), (2, 1), (3, 1), (4, 1), (5, 1), (6, 1), (7, 1)]) (out := [.pointer _, .int .i64 _, .int .i64 _, .int .u64 _, .int .i64 _, .int .i64 _, .int .u32 _, .slice _ _ _]) Try.underlying130 Try.zeroValue130 (fun w => by kernel_rfl) rfl (⟨⟨_, _, rfl, rfl, by decide⟩, ⟨⟨_, _, rfl, rfl, by decide⟩, ⟨⟨_, _, rfl, rfl, by decide⟩, ⟨⟨_, _, rfl, rfl, by decide⟩, ⟨⟨_, _, rfl, rfl, by decide⟩, ⟨⟨_, _, rfl, rfl, by decide⟩, trivial⟩⟩⟩⟩⟩⟩) rfl) rfl rfl ?_
  refine WL.eff (eff_box (v := .agg _) (l := [.pointer _, .int .i64 _, .int .i64 _, .int .u64 _, .int .i64 _, .int .i64 _, .int .u32 _, .slice _ _ _]) h rfl rfl) rfl rfl ?_
  rintro _ w ⟨b64, rfl, h⟩
  refine WL.val run_assign rfl rfl ?_
  refine WL.nil ?_
  refine W.seq ?_
  refine W.seq ?_
  refine W.region ?_
  refine WL.val run_move rfl rfl ?_
  refine WL.val run_move rfl rfl ?_
  refine WL.eff (eff_call Try.call21 (read_live (k := (at_ : Int)) hs ⟨by omega, by omega⟩ (h.fetch (DiskP 106 110 b d)))) rfl rfl ?_
  rintro _ w ⟨bq, rfl, h⟩
  refine WL.val run_move rfl rfl ?_
  refine WL.val (run_extract rfl rfl) rfl rfl ?_
  refine WL.val (run_extract rfl rfl) rfl rfl ?_
  refine WL.val run_assign rfl rfl ?_
  refine WL.val run_assign rfl rfl ?_
  refine WL.nil ?_
  refine W.seq ?_
  refine W.region ?_
  refine WL.val run_move rfl rfl ?_
  refine WL.val (run_neqF rfl rfl (rfl)) rfl rfl ?_
  refine WL.nil ?_
  refine W.condF rfl ?_
  refine W.skip ?_
  refine W.seq ?_
  refine W.region ?_
  refine WL.val run_assign rfl rfl ?_
  refine WL.nil ?_
  refine W.seq ?_
  refine W.region ?_
  refine WL.val run_assign rfl rfl ?_
  refine WL.nil ?_
  have h := closeR (TR := 130) (br := b64) (b := b) (g := (g0R at_ n first place life)) (a := none) (c := 0) (ws := []) (pool := []) (L := DiskP 106 110 b d :: L) (g0R_ok hn2 hn4 hat hp hf hlf) rfl (fun x hx => by cases hx) (show On W0 (blk b64 [.pointer (some ⟨b, 0, none⟩), .int .i64 (at_ : Int), .int .i64 (n : Int), .int .u64 (first : Int), .int .i64 (place : Int), .int .i64 0, .int .u32 (life : Int), .slice none 0 0] 130 :: Own 2 (.slice none 0 0) 0 [] :: Pool [] :: DiskP 106 110 b d :: L) w from (h.pool0.ownEmpty 2 none).to)
  refine W.block ?_
  refine W.loop (fun (k : Nat) env w => k ≤ l.length ∧ ∃ (j : Env) (ao : Option Addr) (co : Nat), env = mkE j [(15, .pointer (some ⟨b64, 0, none⟩)), (18, .slice ao ((l.map (·.2)).take k).length co), (19, .int .u32 (leastR (l.take k) : Int))] ∧ On W0 (OutP ao co ((l.map (·.2)).take k) :: RingP 130 b64 b (rgF (g0R at_ n first place life) ((l.map (·.2)).take k)) :: DiskP 106 110 b d :: L) w) (fun k => l.length - k) (0) ?_ ?_
  · exact ⟨Nat.zero_le _, _, none, 0, mkE_of ⟨rfl, rfl, rfl, trivial⟩, out_nil h⟩
  · rintro k env w ⟨hk, j, ao, co, rfl, h⟩
    have F := rgF_facts (g0R at_ n first place life) ((l.map (·.2)).take k)
    have hbl : ((l.map (·.2)).take k).length = k := by rw [List.length_take, List.length_map]; omega
    have Ff := F.first
    have Fl := F.len
    have Fa : (rgF (g0R at_ n first place life) ((l.map (·.2)).take k)).first = first := Ff
    have Fb : (rgF (g0R at_ n first place life) ((l.map (·.2)).take k)).l.length = k := by rw [Fl, hbl]; show 0 + k = k; omega
    refine W.block ?_
    refine W.seq ?_
    refine W.region ?_
    refine WL.val run_move rfl rfl ?_
    refine WL.val run_move rfl rfl ?_
    refine WL.eff (eff_call Try.call88 (scan_chain (br := b64) (b := b) (k := k) C hk hp hs hin (L := OutP ao co ((l.map (·.2)).take k) :: L) h.to)) rfl rfl ?_
    rintro _ w hg
    rcases hg with ⟨x, a77, c77, hx, hxb, hro, rfl, h⟩ | ⟨hkl, rfl, h⟩
    · skip
      refine WL.val run_move rfl rfl ?_
      refine WL.val (run_extract rfl rfl) rfl rfl ?_
      refine WL.val (run_extract rfl rfl) rfl rfl ?_
      refine WL.val (run_extract rfl rfl) rfl rfl ?_
      refine WL.val (run_extract rfl rfl) rfl rfl ?_
      refine WL.val run_assign rfl rfl ?_
      refine WL.val run_assign rfl rfl ?_
      refine WL.val run_assign rfl rfl ?_
      refine WL.val run_assign rfl rfl ?_
      refine WL.nil ?_
      refine W.seq ?_
      refine W.block ?_
      refine W.seq ?_
      refine W.region ?_
      refine WL.val run_move rfl rfl ?_
      refine WL.val (run_neqF rfl rfl (rfl)) rfl rfl ?_
      refine WL.val run_assign rfl rfl ?_
      refine WL.nil ?_
      refine W.condF rfl ?_
      refine W.seq ?_
      refine W.region ?_
      refine WL.val run_move rfl rfl ?_
      refine WL.val (run_not rfl) rfl rfl ?_
      refine WL.val run_assign rfl rfl ?_
      refine WL.nil ?_
      refine W.condF rfl ?_
      refine W.skip ?_
      refine W.seq ?_
      refine W.region ?_
      refine WL.val run_move rfl rfl ?_
      refine WL.val run_assign rfl rfl ?_
      refine WL.nil ?_
      refine W.seq ?_
      refine W.region ?_
      refine WL.val run_move rfl rfl ?_
      refine WL.val run_move rfl rfl ?_
      refine WL.eff (eff_call Try.call90 (keep_ok (br := b64) (b := b) hxb hro (by rw [Fa, Fb]; omega) (h.fetch (RingP 130 b64 b (rgF (g0R at_ n first place life) ((l.map (·.2)).take k)))) (Gives.ownO (v := .slice a77 x.2.length c77)))) rfl rfl ?_
      rintro _ w ⟨rfl, h⟩
      refine WL.nil ?_
      refine W.region ?_
      refine WL.val run_move rfl rfl ?_
      refine WL.val run_move rfl rfl ?_
      refine WL.eff (eff_call Try.call68 (clone_bytes h (Gives.ownO (v := .slice a77 x.2.length c77)) (by omega))) rfl rfl ?_
      rintro _ w ⟨a98, c98, rfl, h⟩
      refine WL.eff (eff_call Try.call81 (clip_bytes h)) rfl rfl ?_
      rintro _ w ⟨rfl, h⟩
      have ob_ := openO (h.fetch (OutP ao co ((l.map (·.2)).take k)))
      obtain ⟨ws, pool, hws, hpl, h⟩ := ob_
      have hwl : ((l.map (·.2)).take k).length ≤ 4096 := by omega
      refine WL.eff (eff_mkSlice (zl := [.slice none 0 0]) (out := [.slice _ _ _]) h Try.underlying23 Try.sizeOf22 Try.zeroValue22 (by decide) (by kernel_rfl) rfl rfl (by simp) (⟨⟨_, _, rfl, rfl, by decide⟩, trivial⟩) rfl rfl (by simp [maxLen])) rfl rfl ?_
      rintro _ w ⟨b100, rfl, h⟩
      refine WL.eff (eff_app (bytes := 24) (c2 := 1) h rfl rfl (h.cellsO (v := .slice (some ⟨b100, 0, none⟩) 1 1)) Try.underlying23 rfl rfl rfl rfl rfl (by omega) (by omega) (by simp [Value.oneCell'])) rfl rfl ?_
      rintro _ w ⟨a101, c101, rfl, h⟩
      refine WL.val run_assign rfl rfl ?_
      refine WL.nil ?_
      -- round, path LT
      have hx2 : (l.map (·.2))[k]? = some x.2 := by rw [List.getElem?_map, hx]; rfl
      have e1 : ((l.map (·.2)).take (k + 1)) = ((l.map (·.2)).take k) ++ [x.2] := by rw [List.take_add_one, hx2]; rfl
      have e2 : leastR (l.take (k + 1)) = x.1 := by rw [take_snocR hx, leastR_app]
      have e3 : ((l.map (·.2)).take k).length + 1 = ((l.map (·.2)).take (k + 1)).length := by rw [e1, List.length_append]; rfl
      have hlt := (List.getElem?_eq_some_iff.1 hx).1
      have h := out_push (a := ao) (c := co) (a2 := a101) (c2 := c101) (v := .slice a98 x.2.length x.2.length) (b := x.2) (ws := ws) (pool := pool) (L := RingP 130 b64 b (keepR (rgF (g0R at_ n first place life) ((l.map (·.2)).take k)) x.2) :: DiskP 106 110 b d :: L) hws hpl rfl h.to
      rw [← rgF_app, ← e1] at h
      exact ⟨k + 1, ⟨by omega, _, a101, c101, mkE_of ⟨rfl, congrArg (fun q => Value.slice a101 q c101) e3, congrArg (fun q : Nat => Value.int .u32 (q : Int)) e2.symm, trivial⟩, h⟩, by show l.length - (k + 1) < l.length - k; omega⟩
    · skip
      refine WL.val run_move rfl rfl ?_
      refine WL.val (run_extract rfl rfl) rfl rfl ?_
      refine WL.val (run_extract rfl rfl) rfl rfl ?_
      refine WL.val (run_extract rfl rfl) rfl rfl ?_
      refine WL.val (run_extract rfl rfl) rfl rfl ?_
      refine WL.val run_assign rfl rfl ?_
      refine WL.val run_assign rfl rfl ?_
      refine WL.val run_assign rfl rfl ?_
      refine WL.val run_assign rfl rfl ?_
      refine WL.nil ?_
      refine W.seq ?_
      refine W.block ?_
      refine W.seq ?_
      refine W.region ?_
      refine WL.val run_move rfl rfl ?_
      refine WL.val (run_neqF rfl rfl (rfl)) rfl rfl ?_
      refine WL.val run_assign rfl rfl ?_
      refine WL.nil ?_
      refine W.condF rfl ?_
      refine W.seq ?_
      refine W.region ?_
      refine WL.val run_move rfl rfl ?_
      refine WL.val (run_not rfl) rfl rfl ?_
      refine WL.val run_assign rfl rfl ?_
      refine WL.nil ?_
      refine W.condT rfl ?_
      refine W.seq ?_
      have e : ((l.map (·.2)).take k) = l.map (·.2) := List.take_of_length_le (by rw [List.length_map]; omega)
      rw [e] at h
      rw [e]
      have ob_ := openO (h.fetch (OutP ao co (l.map (·.2))))
      obtain ⟨ws, pool, hws, hpl, h⟩ := ob_
      refine W.region ?_
      refine WL.val run_move rfl rfl ?_
      refine WL.val run_move rfl rfl ?_
      refine WL.eff (eff_call Try.call89 (clip_rows h)) rfl rfl ?_
      rintro _ w ⟨rfl, h⟩
      refine WL.val run_assign rfl rfl ?_
      refine WL.val run_assign rfl rfl ?_
      refine WL.val run_assign rfl rfl ?_
      refine WL.nil ?_
      refine W.ret ?_
      refine bodyQ.r3 (v1 := .pointer _) (v2 := .slice _ _ _) (v3 := .int .i64 _) Try.results34 rfl rfl rfl ?_
      -- path LF
      have h := closeO (a := ao) (c := (l.map (·.2)).length) (bss := l.map (·.2)) (ws := ws) (pool := pool) (L := RingP 130 b64 b (rgF (g0R at_ n first place life) (l.map (·.2))) :: DiskP 106 110 b d :: L) hws hpl h.to
      exact ⟨b64, ao, rfl, h.to⟩

theorem clone_recs {ao : Option Addr} {cap n : Nat} {xs : List Value} (h : On W0 L w) (C : Gives L (Cells 2 (.slice ao n cap) n xs)) (hn : n ≤ 1000000000) (h1 : ∀ u ∈ xs, u.oneCell' = true) :
    Calls Try.prog 92 #[.slice ao n cap] w (Ret fun v w' => ∃ a c, v = .slice a n c ∧ On W0 (Own 2 (.slice a n c) n xs :: L) w') := by
  refine enter Try.func92 rfl Try.ntmps92 rfl ?_
  have ob_ := (h.reads C).form
  obtain ⟨ao', cap', hv, hnc, hcm, hnone⟩ := ob_
  have hxl := (h.reads C).1
  simp only [Value.slice.injEq] at hv
  obtain ⟨rfl, _, rfl⟩ := hv
  have hl := maxLen_eq
  refine W.seq ?_
  refine W.region ?_
  refine WL.val run_assign rfl rfl ?_
  refine WL.nil ?_
  refine W.seq ?_
  refine W.seq ?_
  refine W.region ?_
  refine WL.val run_move rfl rfl ?_
  refine WL.val (run_eqlSliceNil Try.underlying128 rfl rfl) rfl rfl ?_
  refine WL.nil ?_
  refine W.condB rfl (fun c2 => ?_) (fun c2 => ?_)
  · skip
    refine W.seq ?_
    refine W.region ?_
    refine WL.val run_assign rfl rfl ?_
    refine WL.nil ?_
    refine W.ret ?_
    refine bodyQ.r1 (v := .slice _ _ _) Try.results92 rfl ?_
    -- path T
    have h0 : cap = 0 := hnone (by simpa using c2)
    have ob_ : n = 0 := by omega
    obtain rfl := ob_
    have ob_ : xs = [] := List.eq_nil_of_length_eq_zero (by omega)
    obtain rfl := ob_
    exact ⟨none, 0, rfl, h.ownEmpty 2 none⟩
  · skip
    refine W.skip ?_
    refine W.seq ?_
    refine W.region ?_
    refine WL.eff (eff_mkSlice (zl := []) (out := []) h Try.underlying128 Try.sizeOf137 Try.zeroValue137 (by decide) (by simp) rfl rfl (by simp) (trivial) rfl rfl (by simp [maxLen])) rfl rfl ?_
    rintro _ w ⟨b5, rfl, h⟩
    refine WL.val run_move rfl rfl ?_
    refine WL.eff (eff_app0 (bytes := 32) h rfl rfl (h.readsTo C) Try.underlying128 rfl rfl rfl rfl rfl (by omega) (by omega) h1) rfl rfl ?_
    rintro _ w ⟨a, c, rfl, h⟩
    refine WL.val run_assign rfl rfl ?_
    refine WL.nil ?_
    refine W.ret ?_
    refine bodyQ.r1 (v := .slice _ _ _) Try.results92 rfl ?_
    -- path F
    exact ⟨_, _, rfl, h⟩

theorem rtrim_ok {br b : Nat} {g : Rg} {k : Nat} (hk : k ≤ g.l.length) (h : On W0 (RingP 130 br b g :: L) w) : Calls Try.prog 42 #[.pointer (some ⟨br, 0, none⟩), .int .u64 ((g.first + k : Nat) : Int)] w (Ret fun v w' => v = .int .i64 0 ∧ On W0 (RingP 130 br b (trimN g k) :: L) w') := by
  refine enter Try.func42 rfl Try.ntmps42 rfl ?_
  have hgok := ringOk h
  have hgf := hgok.first
  have ob_ := openR h
  obtain ⟨a, c, ws, pool, hok, hws, hpl, h⟩ := ob_
  refine W.seq ?_
  refine W.region ?_
  refine WL.val run_assign rfl rfl ?_
  refine WL.nil ?_
  refine W.seq ?_
  refine W.seq ?_
  refine W.region ?_
  refine WL.val run_move rfl rfl ?_
  refine WL.val run_move rfl rfl ?_
  refine WL.val (run_nilCheck rfl) rfl rfl ?_
  refine WL.val (run_fieldAddr 3 Try.underlying130 rfl Try.sizeOf40 rfl rfl) rfl rfl ?_
  refine WL.val (run_load1 Try.isAgg40 rfl (h.cellB rfl)) rfl rfl ?_
  refine WL.val (run_lssF rfl rfl (by omega)) rfl rfl ?_
  refine WL.val run_move rfl rfl ?_
  refine WL.val run_move rfl rfl ?_
  refine WL.val run_move rfl rfl ?_
  refine WL.eff (eff_call Try.call87 (rnext_ok (br := br) (b := b) (g := g) (closeR (g := g) (a := a) (c := c) hok hws hpl h))) rfl rfl ?_
  rintro _ w ⟨rfl, h⟩
  have hnx : g.next = g.first + g.l.length := rfl
  refine WL.val (run_gtrF rfl rfl (by omega)) rfl rfl ?_
  refine WL.val (run_pickF rfl) rfl rfl ?_
  refine WL.nil ?_
  refine W.condF rfl ?_
  refine W.skip ?_
  refine W.seq ?_
  refine W.block ?_
  refine W.loop (fun (i : Nat) env w => i ≤ k ∧ ∃ j, env = mkE j [(0, .pointer (some ⟨br, 0, none⟩)), (1, .int .u64 ((g.first + k : Nat) : Int)), (4, .int .i64 0)] ∧ On W0 (RingP 130 br b (trimN g i) :: L) w) (fun i => k - i) (0) ?_ ?_
  · exact ⟨Nat.zero_le _, _, mkE_of ⟨rfl, rfl, rfl, trivial⟩, h⟩
  · rintro i env w ⟨hi, j, rfl, h⟩
    have ob_ := trimN_l g i
    obtain ⟨t1, t2, t3, t4⟩ := ob_
    have ob_ : ∃ G, G = (trimN g i) := ⟨_, rfl⟩
    obtain ⟨G, hG⟩ := ob_
    rw [← hG] at h t1 t2 t3 t4
    have hgl : G.l.length = g.l.length - i := by rw [t1, List.length_drop]
    have ob_ := openR h
    obtain ⟨a, c, ws, pool, hok, hws, hpl, h⟩ := ob_
    have hn4 := hok.n4; have hused := hok.used; have hfirst := hok.first
    have hlen : G.l.length ≤ 4096 := by have h1 := len_used G.l; have h2 := hok.sum; omega
    refine W.seq ?_
    refine W.seq ?_
    refine W.region ?_
    refine WL.val run_move rfl rfl ?_
    refine WL.val (run_nilCheck rfl) rfl rfl ?_
    refine WL.val (run_fieldAddr 3 Try.underlying130 rfl Try.sizeOf40 rfl rfl) rfl rfl ?_
    refine WL.val (run_load1 Try.isAgg40 rfl (h.cellB rfl)) rfl rfl ?_
    refine WL.val run_move rfl rfl ?_
    refine WL.val (run_lss rfl rfl) rfl rfl ?_
    refine WL.nil ?_
    refine W.condIf rfl (fun c9 => ?_) (fun c9 => ?_)
    · skip
      refine W.skip ?_
      refine W.block ?_
      refine W.seq ?_
      have hik : i < k := by omega
      have ob_ : ∃ x, G.l[0]? = some x := ⟨G.l[0]'(by omega), by simp⟩
      obtain ⟨x, hx⟩ := ob_
      have ob_ := rx_get hws hx
      obtain ⟨q, hq, hq1, hq2⟩ := ob_
      have ob_ := (h.cellsO (v := .slice a G.l.length c)).addr (by omega)
      obtain ⟨ba, oa, haa⟩ := ob_
      subst haa
      have ob_ := hpl q (List.mem_of_getElem? hq)
      obtain ⟨hq3, hq4⟩ := ob_
      have ob3_ := hq3.form (h.fetch (Pool pool))
      obtain ⟨aq, cq, hqv, hqc, hqm⟩ := ob3_
      rw [hq2] at hqv hqc
      have htr := (hok.trim (fun e0 => by rw [e0] at hx; cases hx)).2
      rw [head_of hx] at htr
      have hxb := (hok.recs x (List.mem_of_getElem? hx)).1
      have hCb := (h.cellsO (v := .slice (some ⟨ba, oa, none⟩) G.l.length c)).bounds
      refine W.draw Try.follows h (fun w h => ?_)
      refine WT.pure 0 rfl (by kernel_rfl) (fun w' => run_move) rfl rfl ?_
      refine WT.pure 1 rfl (by kernel_rfl) (fun w' => (run_nilCheck rfl)) rfl rfl ?_
      refine WT.pure 2 rfl (by kernel_rfl) (fun w' => (run_fieldAddr 5 Try.underlying130 rfl Try.sizeOf3 rfl rfl)) rfl rfl ?_
      refine WT.load1 3 rfl (by kernel_rfl) Try.isAgg3 rfl (h.cellB rfl) rfl rfl ?_
      refine WT.pure 4 rfl (by kernel_rfl) (fun w' => run_move) rfl rfl ?_
      refine WT.pure 5 rfl (by kernel_rfl) (fun w' => (run_nilCheck rfl)) rfl rfl ?_
      refine WT.pure 6 rfl (by kernel_rfl) (fun w' => (run_fieldAddr 7 Try.underlying130 rfl Try.sizeOf128 rfl rfl)) rfl rfl ?_
      refine WT.load1 7 rfl (by kernel_rfl) Try.isAgg128 rfl (h.cellB rfl) rfl rfl ?_
      refine WT.pure 8 rfl (by kernel_rfl) (fun w' => (run_indexAddr Try.underlying128 Try.sizeOf137 rfl rfl (by omega) (by omega))) rfl rfl ?_
      refine WT.pure 9 rfl (by kernel_rfl) (fun w' => (run_fieldAddr 1 Try.underlying137 rfl Try.sizeOf22 rfl rfl)) rfl rfl ?_
      refine WT.load1 10 rfl (by kernel_rfl) Try.isAgg22 rfl ((h.cellsO (v := .slice (some ⟨ba, oa, none⟩) G.l.length c)).elem (i := 0) (vs := q.row) (by omega) (drop_flatMap RX.row 2 RX.row_length ws _ _ hq) 1 (.slice aq x.2.length cq) (by rw [← hqv]; rfl)) rfl rfl ?_
      refine WT.pure 11 rfl (by kernel_rfl) (fun w' => (run_lenSlice Try.underlying22 rfl)) rfl rfl ?_
      refine WT.eff 12 [false, false, true] rfl (by kernel_rfl) (by kernel_rfl) (eff_call Try.call40 (need_ok (n := x.2.length) (by omega) h)) rfl rfl ?_
      rintro _ w ⟨rfl, h⟩
      refine ⟨⟨h.cellB rfl, trivial⟩, ?_⟩
      refine WT.pure 13 rfl (by kernel_rfl) (fun w' => (run_subN (m := G.used) (n := needR x.2.length) rfl rfl (by omega) (by omega))) rfl rfl ?_
      refine WT.pure 14 rfl (by kernel_rfl) (fun w' => (run_nilCheck rfl)) rfl rfl ?_
      refine WT.pure 15 rfl (by kernel_rfl) (fun w' => (run_fieldAddr 5 Try.underlying130 rfl Try.sizeOf3 rfl rfl)) rfl rfl ?_
      refine WT.eff 16 [false] rfl (by kernel_rfl) (by kernel_rfl) (eff_store (v := .int .i64 _) h Try.sizeOf3 rfl rfl rfl rfl rfl) rfl rfl ?_
      rintro _ w h
      try simp only [Nat.zero_add, Nat.add_zero, List.set_cons_zero, List.set_cons_succ] at h
      refine ⟨trivial, ?_⟩
      refine WT.done (by kernel_rfl) ?_
      refine W.seq ?_
      have ob_ : ∃ a' c', sliced (some ⟨ba, oa, none⟩) 1 G.l.length c 2 = .slice a' (G.l.length - 1) c' ∧ Gives [Own 2 (.slice (some ⟨ba, oa, none⟩) G.l.length c) G.l.length (ws.flatMap RX.row)] (Cells 2 (.slice a' (G.l.length - 1) c') (G.l.length - 1) ((ws.flatMap RX.row).drop 2)) := by
        refine ⟨if c = 1 then some ⟨ba, oa, none⟩ else some (Addr.add ⟨ba, oa, none⟩ (1 * 2)), c - 1, by unfold sliced; by_cases hc1 : c = 1 <;> simp [hc1], fun hh H => ?_⟩
        have cc := (Gives.own (L := []) hh H).cut (l := 1) (h := G.l.length) (m := c) (by omega) (Nat.le_refl _) (by omega) (Nat.le_refl _)
        have hfl : (ws.flatMap RX.row).length = G.l.length * 2 := (Gives.own (L := []) hh H).1
        rw [List.take_of_length_le (by rw [List.length_drop, hfl]; omega)] at cc
        have e9 : sliced (some ⟨ba, oa, none⟩) 1 G.l.length c 2 = .slice (if c = 1 then some ⟨ba, oa, none⟩ else some (Addr.add ⟨ba, oa, none⟩ (1 * 2))) (G.l.length - 1) (c - 1) := by unfold sliced; by_cases hc1 : c = 1 <;> simp [hc1]
        rw [e9] at cc
        exact cc
      obtain ⟨a44, c44, hcut, gC⟩ := ob_
      refine W.region ?_
      refine WL.val run_move rfl rfl ?_
      refine WL.val run_move rfl rfl ?_
      refine WL.val (run_nilCheck rfl) rfl rfl ?_
      refine WL.val (run_fieldAddr 7 Try.underlying130 rfl Try.sizeOf128 rfl rfl) rfl rfl ?_
      refine WL.val (run_load1 Try.isAgg128 rfl (h.cellB rfl)) rfl rfl ?_
      refine WL.val (run_cutLV (l := 1) Try.underlying128 Try.sizeOf137 rfl rfl (by omega) hcut) rfl rfl ?_
      refine WL.eff (eff_call Try.call92 (clone_recs h (Gives.to gC) (by omega) (fun u hu => hpl.one u (List.mem_of_mem_drop hu)))) rfl rfl ?_
      rintro _ w ⟨a45, c45, rfl, h⟩
      refine WL.val (run_nilCheck rfl) rfl rfl ?_
      refine WL.val (run_fieldAddr 7 Try.underlying130 rfl Try.sizeOf128 rfl rfl) rfl rfl ?_
      refine WL.eff (eff_store (v := .slice _ _ _) h Try.sizeOf128 rfl rfl rfl rfl rfl) rfl rfl ?_
      rintro _ w h
      try simp only [Nat.zero_add, Nat.add_zero, List.set_cons_zero, List.set_cons_succ] at h
      refine WL.nil ?_
      refine W.region ?_
      refine WL.val run_move rfl rfl ?_
      refine WL.val (run_nilCheck rfl) rfl rfl ?_
      refine WL.val (run_fieldAddr 3 Try.underlying130 rfl Try.sizeOf40 rfl rfl) rfl rfl ?_
      refine WL.val (run_load1 Try.isAgg40 rfl (h.cellB rfl)) rfl rfl ?_
      refine WL.val (run_addK (k := .u64) (m := G.first) (n := 1) rfl rfl (Int.ofNat_le.2 (show _ ≤ 18446744073709551615 by omega))) rfl rfl ?_
      refine WL.val (run_nilCheck rfl) rfl rfl ?_
      refine WL.val (run_fieldAddr 3 Try.underlying130 rfl Try.sizeOf40 rfl rfl) rfl rfl ?_
      refine WL.eff (eff_store (v := .int .u64 _) h Try.sizeOf40 rfl rfl rfl rfl rfl) rfl rfl ?_
      rintro _ w h
      try simp only [Nat.zero_add, Nat.add_zero, List.set_cons_zero, List.set_cons_succ] at h
      refine WL.nil ?_
      -- round, path LT
      have e : trimN g (i + 1) = trimR G := by rw [hG]; rfl
      have h := close_trim (TR := 130) (br := br) (b := b) (g := G) (x := x) (a := a45) (c := c45) (ws := ws) (pool := pool) (L := L) hok hx hws hpl h.to
      rw [← e] at h
      exact ⟨i + 1, ⟨by omega, _, mkE_of ⟨rfl, rfl, rfl, trivial⟩, h⟩, by show k - (i + 1) < k - i; omega⟩
    · skip
      refine W.exit ?_
      refine W.seq ?_
      refine W.region ?_
      refine WL.val run_assign rfl rfl ?_
      refine WL.nil ?_
      refine W.ret ?_
      refine bodyQ.r1 (v := .int .i64 _) Try.results42 rfl ?_
      -- path LF
      have ob_ : i = k := by omega
      obtain rfl := ob_
      subst hG
      exact ⟨rfl, closeR (a := a) (c := c) hok hws hpl h⟩

theorem rread_ok {br b : Nat} {g : Rg} {k : Nat} {x : LB} (hx : g.l[k]? = some x) (h : On W0 (RingP 130 br b g :: L) w) : Calls Try.prog 38 #[.pointer (some ⟨br, 0, none⟩), .int .u64 ((g.first + k : Nat) : Int)] w (Ret fun v w' => ∃ a, v = .tuple #[.slice a x.2.length x.2.length, .int .i64 0] ∧ On W0 (OwnB (.slice a x.2.length x.2.length) x.2 :: RingP 130 br b g :: L) w') := by
  refine enter Try.func38 rfl Try.ntmps38 rfl ?_
  have hgok := ringOk h
  have hgf := hgok.first
  have hlt := (List.getElem?_eq_some_iff.1 hx).1
  have hxb := (hgok.recs x (List.mem_of_getElem? hx)).1
  have hnx : g.next = g.first + g.l.length := rfl
  have ob_ := openR h
  obtain ⟨a, c, ws, pool, hok, hws, hpl, h⟩ := ob_
  refine W.seq ?_
  refine W.region ?_
  refine WL.val run_assign rfl rfl ?_
  refine WL.val run_assign rfl rfl ?_
  refine WL.nil ?_
  refine W.seq ?_
  refine W.seq ?_
  refine W.region ?_
  refine WL.val run_move rfl rfl ?_
  refine WL.val run_move rfl rfl ?_
  refine WL.val (run_nilCheck rfl) rfl rfl ?_
  refine WL.val (run_fieldAddr 3 Try.underlying130 rfl Try.sizeOf40 rfl rfl) rfl rfl ?_
  refine WL.val (run_load1 Try.isAgg40 rfl (h.cellB rfl)) rfl rfl ?_
  refine WL.val (run_lssF rfl rfl (by omega)) rfl rfl ?_
  refine WL.val run_move rfl rfl ?_
  refine WL.val run_move rfl rfl ?_
  refine WL.val run_move rfl rfl ?_
  refine WL.eff (eff_call Try.call87 (rnext_ok (br := br) (b := b) (g := g) (closeR (g := g) (a := a) (c := c) hok hws hpl h))) rfl rfl ?_
  rintro _ w ⟨rfl, h⟩
  have ob_ := openR h
  obtain ⟨a, c, ws, pool, hok, hws, hpl, h⟩ := ob_
  refine WL.val (run_geqF rfl rfl (by omega)) rfl rfl ?_
  refine WL.val (run_pickF rfl) rfl rfl ?_
  refine WL.nil ?_
  refine W.condF rfl ?_
  refine W.skip ?_
  refine W.seq ?_
  have ob_ := rx_get hws hx
  obtain ⟨q, hq, hq1, hq2⟩ := ob_
  have ob_ := (h.cellsO (v := .slice a g.l.length c)).addr (by omega)
  obtain ⟨ba, oa, haa⟩ := ob_
  subst haa
  have ob_ := hpl q (List.mem_of_getElem? hq)
  obtain ⟨hq3, hq4⟩ := ob_
  have ob3_ := hq3.form (h.fetch (Pool pool))
  obtain ⟨aq, cq, hqv, hqc, hqm⟩ := ob3_
  rw [hq2] at hqv hqc
  have gB := hq3.gives (L := [])
  rw [hqv, hq2] at gB
  refine W.draw Try.follows h (fun w h => ?_)
  refine WT.pure 0 rfl (by kernel_rfl) (fun w' => run_move) rfl rfl ?_
  refine WT.pure 1 rfl (by kernel_rfl) (fun w' => (run_nilCheck rfl)) rfl rfl ?_
  refine WT.pure 2 rfl (by kernel_rfl) (fun w' => (run_fieldAddr 7 Try.underlying130 rfl Try.sizeOf128 rfl rfl)) rfl rfl ?_
  refine WT.load1 3 rfl (by kernel_rfl) Try.isAgg128 rfl (h.cellB rfl) rfl rfl ?_
  refine WT.pure 4 rfl (by kernel_rfl) (fun w' => run_move) rfl rfl ?_
  refine WT.pure 5 rfl (by kernel_rfl) (fun w' => run_move) rfl rfl ?_
  refine WT.pure 6 rfl (by kernel_rfl) (fun w' => (run_nilCheck rfl)) rfl rfl ?_
  refine WT.pure 7 rfl (by kernel_rfl) (fun w' => (run_fieldAddr 3 Try.underlying130 rfl Try.sizeOf40 rfl rfl)) rfl rfl ?_
  refine WT.load1 8 rfl (by kernel_rfl) Try.isAgg40 rfl (h.cellB rfl) rfl rfl ?_
  refine WT.pure 9 rfl (by kernel_rfl) (fun w' => (run_subK (k := .u64) (m := g.first + k) (n := g.first) rfl rfl (by omega) (Int.ofNat_le.2 (show _ ≤ 18446744073709551615 by omega)))) rfl rfl ?_
  refine WT.pure 10 rfl (by kernel_rfl) (fun w' => (run_indexAddr Try.underlying128 Try.sizeOf137 rfl rfl (by omega) (by omega))) rfl rfl ?_
  refine WT.pure 11 rfl (by kernel_rfl) (fun w' => (run_fieldAddr 1 Try.underlying137 rfl Try.sizeOf22 rfl rfl)) rfl rfl ?_
  refine WT.load1 12 rfl (by kernel_rfl) Try.isAgg22 rfl ((h.cellsO (v := .slice (some ⟨ba, oa, none⟩) g.l.length c)).elem (i := g.first + k - g.first) (vs := q.row) (by omega) (drop_flatMap RX.row 2 RX.row_length ws _ _ (by rw [Nat.add_sub_cancel_left]; exact hq)) 1 (.slice aq x.2.length cq) (by rw [← hqv]; rfl)) rfl rfl ?_
  refine WT.eff 13 [false, false, false] rfl (by kernel_rfl) (by kernel_rfl) (eff_call Try.call68 (clone_bytes h (Gives.to gB) (by omega))) rfl rfl ?_
  rintro _ w ⟨a31, c31, rfl, h⟩
  refine ⟨trivial, ?_⟩
  refine WT.eff 14 [] rfl (by kernel_rfl) (by kernel_rfl) (eff_call Try.call81 (clip_bytes h)) rfl rfl ?_
  rintro _ w ⟨rfl, h⟩
  refine ⟨trivial, ?_⟩
  refine WT.pure 15 rfl (by kernel_rfl) (fun w' => run_assign) rfl rfl ?_
  refine WT.pure 16 rfl (by kernel_rfl) (fun w' => run_assign) rfl rfl ?_
  refine WT.done (by kernel_rfl) ?_
  refine W.ret ?_
  refine bodyQ.r2 (v1 := .slice _ _ _) (v2 := .int .i64 _) Try.results38 rfl rfl ?_
  -- path 
  have h := closeR (TR := 130) (br := br) (b := b) (g := g) (a := some ⟨ba, oa, none⟩) (c := c) (ws := ws) (pool := pool) (L := OwnB (.slice a31 x.2.length x.2.length) x.2 :: L) hok hws hpl h.to
  exact ⟨a31, rfl, h.to⟩

end Go.Proofs.Ytlahgihjjabgmaa
