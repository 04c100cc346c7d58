/-
  A store's parts on the disk, kept from step to step; a function value of two variables. No program is named here.
-/
import Derived.Test.YtlahgihjjabgmaaStoreM
namespace Go.Sl
open Go
section
variable {P : Program} {w : World} {d : Option Nat} {ty : TypeId} {pos : String} {af : Array Edge} {g : Option (Nat × Bool)}
theorem eff_call1C2 {env : Env} {x x1 : Operand} {f : FuncId} {cap cap2 v1 : Value} {tys : Array TypeId} {R : Value → World → Prop} (hx : evo env x = .func (.func f) #[] #[cap, cap2]) (hf : ∀ args w, (callFunc f args).run P w = .ok (.enter f args) w)
    (h1 : evo env x1 = v1) (hc : Calls P f #[v1, cap, cap2] w (Ret R)) : Eff P (evo env) ⟨d, .call { callee := .value x, args := #[x1], argTypes := tys }, ty, pos, af, g⟩ w R := by
  subst h1
  exact eff_callV (xs := [x1]) hx hf hc
variable {ρ : Operand → Value}
theorem run_subKV {t yt : TypeId} {x y : Operand} {k : IntKind} {m n r : Nat} (hx : ρ x = .int k (m : Int)) (hy : ρ y = .int k (n : Int)) (h : n ≤ m) (hm : (m : Int) ≤ k.max) (hr : m - n = r) :
    (execOp ρ ⟨d, .binOp .sub t x y yt, ty, pos, af, g⟩).run P w = .ok (.value (.int k (r : Int))) w := by rw [← hr]; exact run_subK hx hy h hm
end
end Go.Sl
namespace Go.Sl.StM
open Go Go.Sl Go.Sl.ByM Go.Sl.DkM Go.Sl.TwM Go.Sl.RgM
set_option linter.unusedVariables false
set_option linter.unusedSimpArgs false
theorem twI_same {d d' : Dk} {n : Nat} {v : List UInt8} (T : TwI d 0 n v) (hl : Live d') (hn : d'.n = d.n) (h : ∀ k : Int, 0 ≤ k → k < 2 → readD d' k = readD d k) : TwI d' 0 n v := by
  refine ⟨hl, ?_, T.num, T.len, ?_, ?_⟩
  · have := T.at_in; unfold inT at this ⊢; rw [hn]; exact this
  · rw [h _ (by omega) (by omega)]; exact T.here
  · rw [h _ (by omega) (by omega)]; exact T.other
theorem snap_same {d d' : Dk} {w : Nat} {s : List UInt8} (S : SnapOn d w s) (hw : w ≤ 1) (hs : s.length ≤ 24576) (h : ∀ k : Nat, 2 ≤ k → k < 98 → readD d' ((k : Nat) : Int) = readD d ((k : Nat) : Int)) : SnapOn d' w s := fun i hi => by
  rw [h _ (by omega) (by omega)]
  exact S i hi
/-- A head is put. -/
theorem put_all {d : Dk} {n : Nat} {v v2 : List UInt8} (T : TwI d 0 n v) (hn : n + 1 < 256 ^ 8) (hv : v2.length ≤ 488) : (putT d 0 n v2).1 = 0 ∧ Live (putT d 0 n v2).2 ∧ Flat (putT d 0 n v2).2 ∧ (putT d 0 n v2).2.n = d.n ∧ (putT d 0 n v2).2.calls = d.calls + 2 ∧
    TwI (putT d 0 n v2).2 0 (n + 1) v2 ∧ ∀ k : Nat, 2 ≤ k → readD (putT d 0 n v2).2 ((k : Nat) : Int) = readD d ((k : Nat) : Int) := by
  obtain ⟨e, l, hnn, c, r⟩ := put_live (number := n) T.live T.at_in hv
  refine ⟨e, l, ?_, hnn, c, T.put hn hv, fun k hk => by rw [r, if_neg (by omega)]⟩
  obtain ⟨h1, h2⟩ := T.at_in
  obtain ⟨q, hq⟩ : ∃ q : Int, q = ((n + 1 : Nat) : Int) % 2 := ⟨_, rfl⟩
  have hq2 : q = 0 ∨ q = 1 := by omega
  have hs : (secT (n + 1) v2).length = 512 := secT_length hv
  obtain ⟨e1, l1, _⟩ := live_write (k := 0 + q) (bs := secT (n + 1) v2) T.live ⟨by omega, by omega⟩ (by omega)
  have ep : putT d 0 n v2 = flushD (writeD d (0 + q) (secT (n + 1) v2)).2 := by
    subst hq
    unfold putT
    rw [if_neg (by omega), if_neg (by rw [e1]; show ¬ ((0 : Int) ≠ 0); decide)]
  rw [ep]
  exact flat_flush l1
theorem format_all {d : Dk} {v : List UInt8} (h : Live d) (hn : d.n = 354) (hv : v.length ≤ 488) : (formatT d 0 v).1 = 0 ∧ Live (formatT d 0 v).2 ∧ (formatT d 0 v).2.n = 354 ∧ (formatT d 0 v).2.calls = d.calls + 3 ∧ TwI (formatT d 0 v).2 0 1 v ∧
    ∀ k : Nat, 2 ≤ k → readD (formatT d 0 v).2 ((k : Nat) : Int) = readD d ((k : Nat) : Int) := by
  have hi : inT d 0 := ⟨Int.le_refl 0, by rw [hn]; decide⟩
  obtain ⟨e, l, n, c, r⟩ := format_live h hi hv
  exact ⟨e, l, n.trans hn, c, TwI.format h hi hv, fun k hk => by rw [r, if_neg (by omega), if_neg (by omega)]⟩
/-- The journal's sectors lie behind the others. -/
theorem app_front {d : Dk} {place number lv : Nat} {b : List UInt8} (hl : Live d) (hn : d.n = 354) (i : Nat) {k : Int} (hk : k < 98) : readD (appD d 98 256 place number lv b i) k = readD d k := by
  refine app_else hl (by decide) (by rw [hn]; decide) i fun j hj e => ?_
  unfold posR at e
  omega
theorem SI.app {d : Dk} {h : Hd} {tn : Nat} {snap : List UInt8} {es : List En} {g : Rg} {e : En} (S : SI d h tn snap es g) (hi : e.idx = h.base + 1 + es.length) (hi2 : e.idx < 256 ^ 8) (hp : e.ep < 256 ^ 8) (hd : e.data.length ≤ 2048)
    (hroom : usedB (es.map enB) + needR (enB e).length ≤ 256) (hf : h.first + es.length < 256 ^ 8) {d2 : Dk} (h2 : d2 = (flushD (appD d 98 256 g.place g.next 2 (enB e) (needR (enB e).length))).2) : SI d2 h tn snap (es ++ [e]) (keepR g (enB e)) := by
  have hR := S.ri
  have hml : (es.map enB).length = es.length := List.length_map ..
  have hg1 : g.place = (h.place + usedB (es.map enB)) % 256 := hR.place
  have hg2 : g.next = h.first + (es.map enB).length := hR.next
  have hin : ((98 + 256 : Nat) : Int) ≤ d.n := by rw [S.n]; decide
  have hbl : (enB e).length ≤ 32768 := by rw [enB_length]; omega
  obtain ⟨l1, n1, c1⟩ := app_live (place := g.place) (number := g.next) (life := 2) (b := enB e) S.live (by decide) hin (needR (enB e).length)
  obtain ⟨f1, l2, r2⟩ := live_flush l1
  have rd : ∀ k : Int, k < 98 → readD d2 k = readD d k := fun k hk => by rw [h2, r2]; exact app_front S.live S.n _ hk
  have n2 : d2.n = 354 := by rw [h2, flushD_n, n1, S.n]
  have l2' : Live d2 := by rw [h2]; exact l2
  have J := S.ji.app (b := enB e) S.live S.n hbl hroom (by rw [hml]; exact hf) (by decide)
  rw [← hg1, ← hg2] at J
  refine ⟨l2', n2, S.hok, S.place, twI_same S.tw l2' (by rw [n2, S.n]) (fun k _ hk => rd k (by omega)), S.size, snap_same S.on S.hok.which (by rw [S.size]; exact S.hok.size) (fun k _ hk => rd _ (by omega)), ?_, ?_, ?_, ?_⟩
  · rw [List.map_append]; exact hR.app _
  · rw [List.map_append]
    exact J.same fun q hq => by rw [h2, r2]
  · intro j x hx
    by_cases hj : j < es.length
    · rw [List.getElem?_append_left hj] at hx; exact S.ens j x hx
    · have hj2 : j = es.length := by
        have := (List.getElem?_eq_some_iff.1 hx).1
        rw [List.length_append, List.length_singleton] at this
        omega
      subst hj2
      rw [List.getElem?_append_right (Nat.le_refl _), Nat.sub_self] at hx
      cases hx
      exact ⟨hi, hp, hd⟩
  · rw [h2]; exact flat_flush l1
def headC (h : Hd) (k : Nat) (sn : List UInt8) (es : List En) : Hd := { h with which := 1 - h.which, base := h.base + k, size := sn.length, first := h.first + k, place := (h.place + usedB ((es.map enB).take k)) % 256 }
theorem SI.saved {d : Dk} {h : Hd} {tn : Nat} {snap sn : List UInt8} {es : List En} {g : Rg} (S : SI d h tn snap es g) {K : Nat} (hK : K ≤ 48) : Live (flushD (saveW d (1 - h.which) sn K)).2 ∧ (flushD (saveW d (1 - h.which) sn K)).1 = 0 ∧ (flushD (saveW d (1 - h.which) sn K)).2.calls = d.calls + K + 1 ∧ TwI (flushD (saveW d (1 - h.which) sn K)).2 0 tn (headB h) := by
  have hw := S.hok.which
  obtain ⟨l1, n1, c1, r1, p1⟩ := save_live (d := d) (w := 1 - h.which) (s := sn) S.live S.n (by omega) K hK
  obtain ⟨f1, l2, r2⟩ := live_flush l1
  have n2 : (flushD (saveW d (1 - h.which) sn K)).2.n = 354 := (flushD_n _).trans n1
  refine ⟨l2, by rw [f1], ?_, twI_same S.tw l2 (by rw [n2, S.n]) fun q hq1 hq2 => by rw [r2]; exact r1 q fun j hj e => by omega⟩
  rw [f1]
  show (saveW d (1 - h.which) sn K).calls + 1 = _
  rw [c1]
def secN (n : Nat) : Nat := (n + 511) / 512
theorem secN_le {n : Nat} (h : n ≤ 24576) : secN n ≤ 48 := by unfold secN; omega
theorem secN_lt {n i : Nat} (h : i * 512 < n) : i < secN n := by unfold secN; omega
theorem secN_ge (n : Nat) : n ≤ secN n * 512 := by unfold secN; omega
theorem secN_end {n i : Nat} (h : n ≤ i * 512) (h2 : i ≤ secN n) : i = secN n := by unfold secN at h2 ⊢; omega
/-- A store that was opened first. -/
theorem SI.first {d : Dk} {h : Hd} {tn : Nat} {d2 : Dk} (hl : Live d) (hn : d.n = 354) (o : h.ok) (hp : h.place < 256) (hlf : h.life = 1) (hsz : h.size = 0) (T : TwI d 0 tn (headB h)) (htn : tn + 1 < 256 ^ 8) (hb : ∀ k : Nat, 2 ≤ k → readD d ((k : Nat) : Int) = List.replicate 512 0)
    (h2 : d2 = (putT d 0 tn (headB { h with life := h.life + 1 })).2) : SI d2 { h with life := h.life + 1 } (tn + 1) [] [] (g0R 98 256 h.first h.place (h.life + 1)) ∧ d2.calls = d.calls + 2 := by
  obtain ⟨e3, l3, f3, n3, c3, T3, r3⟩ := put_all (v2 := headB { h with life := h.life + 1 }) T htn (by rw [headB_length]; decide)
  have e2 : h.life + 1 = 2 := by omega
  refine ⟨⟨by rw [h2]; exact l3, by rw [h2, n3, hn], ⟨o.epoch, by show h.life + 1 < _; omega, o.which, o.base, o.size, o.first, o.place⟩, hp, by rw [h2]; exact T3, by show 0 = h.size; omega, fun i hi => by simp at hi, ?_, ?_, fun j e he => by simp at he, by rw [h2]; exact f3⟩, by rw [h2, c3]⟩
  · rw [e2]; exact RgAt.new h.first h.place 2 hp
  · exact JI.blank fun q hq => by rw [h2, r3 _ (by omega)]; exact hb _ (by omega)
/-- A snapshot is saved, entries are let go. -/
theorem SI.compact {d : Dk} {h : Hd} {tn : Nat} {snap sn : List UInt8} {es : List En} {g : Rg} (S : SI d h tn snap es g) (k : Nat) (hk : k ≤ es.length) (hs : sn.length ≤ 24576) (hb : h.base + k < 18446744073709551616) (hf : h.first + k < 18446744073709551616) (hn : tn + 1 < 256 ^ 8) {K : Nat} (hK : K ≤ 48) (hK2 : sn.length ≤ K * 512) {d2 : Dk}
    (h2 : d2 = (putT (flushD (saveW d (1 - h.which) sn K)).2 0 tn (headB (headC h k sn es))).2) : SI d2 (headC h k sn es) (tn + 1) sn (es.drop k) (trimN g k) ∧ d2.calls = d.calls + K + 3 := by
  have hw := S.hok.which
  obtain ⟨l1, n1, c1, r1, p1⟩ := save_live (d := d) (w := 1 - h.which) (s := sn) S.live S.n (by omega) K hK
  obtain ⟨f1, l2, r2⟩ := live_flush l1
  have n2 : (flushD (saveW d (1 - h.which) sn K)).2.n = 354 := (flushD_n _).trans n1
  have T2 : TwI (flushD (saveW d (1 - h.which) sn K)).2 0 tn (headB h) := twI_same S.tw l2 (by rw [n2, S.n]) fun q hq1 hq2 => by rw [r2]; exact r1 q fun j hj e => by omega
  obtain ⟨e3, l3, f3, n3, c3, T3, r3⟩ := put_all (v2 := headB (headC h k sn es)) T2 hn (by rw [headB_length]; decide)
  have hml : (es.map enB).length = es.length := List.length_map ..
  have rj : ∀ q : Nat, q < 256 → readD d2 ((98 + q : Nat) : Int) = readD d ((98 + q : Nat) : Int) := fun q hq => by
    rw [h2, r3 _ (by omega), r2, r1 _ fun j hj e => by omega]
  refine ⟨⟨by rw [h2]; exact l3, by rw [h2, n3]; exact n2, ⟨S.hok.epoch, S.hok.life, by show 1 - h.which ≤ 1; omega, hb, hs, hf, by show _ % 256 < _; omega⟩, Nat.mod_lt _ (by decide), by rw [h2]; exact T3, rfl, ?_, ?_, ?_, ?_, by rw [h2]; exact f3⟩, ?_⟩
  · intro i hi
    show readD d2 ((2 + (1 - h.which) * 48 + i : Nat) : Int) = _
    rw [h2, r3 _ (by omega), r2, p1 i (by omega)]
  · rw [List.map_drop]; exact S.ri.trim k (by omega)
  · rw [List.map_drop]
    exact (S.ji.drop k (by omega)).same rj
  · intro j x hx
    rw [List.getElem?_drop] at hx
    obtain ⟨a, b, c⟩ := S.ens (k + j) x hx
    exact ⟨by show _ = h.base + k + 1 + j; omega, b, c⟩
  · rw [h2, c3, f1]
    show (saveW d (1 - h.which) sn K).calls + 1 + 2 = _
    rw [c1]; omega
theorem SI.epoch {d : Dk} {h : Hd} {tn ep : Nat} {snap : List UInt8} {es : List En} {g : Rg} {d2 : Dk} (S : SI d h tn snap es g) (he : ep < 18446744073709551616) (htn : tn + 1 < 256 ^ 8) (h2 : d2 = (putT d 0 tn (headB { h with epoch := ep })).2) : SI d2 { h with epoch := ep } (tn + 1) snap es g ∧ d2.calls = d.calls + 2 := by
  obtain ⟨e3, l3, f3, n3, c3, T3, r3⟩ := put_all (v2 := headB { h with epoch := ep }) S.tw htn (by rw [headB_length]; decide)
  have o := S.hok
  refine ⟨⟨by rw [h2]; exact l3, by rw [h2, n3, S.n], ⟨he, o.life, o.which, o.base, o.size, o.first, o.place⟩, S.place, by rw [h2]; exact T3, S.size, ?_, S.ri, ?_, S.ens, by rw [h2]; exact f3⟩, by rw [h2, c3]⟩
  · exact snap_same S.on o.which (by rw [S.size]; exact o.size) fun k hk _ => by rw [h2, r3 k hk]
  · exact S.ji.same fun q hq => by rw [h2, r3 _ (by omega)]
def hd1 : Hd := ⟨0, 2, 0, 0, 0, 4294967296, 0⟩
/-! ### What the laws write -/
def byS (n k : Nat) : List UInt8 := (List.range n).map fun i => UInt8.ofNat (k + 3 * i)
theorem byS_length (n k : Nat) : (byS n k).length = n := by unfold byS; rw [List.length_map, List.length_range]
theorem byS_step {n k i : Nat} (h : i < n) : (byS i k ++ List.replicate (n - i) 0).set i (UInt8.ofNat (k + 3 * i)) = byS (i + 1) k ++ List.replicate (n - (i + 1)) 0 := by
  have e : byS (i + 1) k = byS i k ++ [UInt8.ofNat (k + 3 * i)] := by unfold byS; rw [List.range_succ, List.map_append]; rfl
  rw [e, List.set_append_right _ _ (by rw [byS_length]; exact Nat.le_refl _), byS_length, Nat.sub_self, show n - i = (n - (i + 1)) + 1 by omega, List.replicate_succ, List.set_cons_zero, List.append_assoc]
  rfl
def rowE (l : List (List UInt8)) (j : Nat) : En := ⟨j + 1, j * 3, l.getD j []⟩
def rowsE (l : List (List UInt8)) (i : Nat) : List En := (List.range i).map (rowE l)
theorem rowsE_length (l : List (List UInt8)) (i : Nat) : (rowsE l i).length = i := by unfold rowsE; rw [List.length_map, List.length_range]
theorem rowsE_succ {l : List (List UInt8)} {i : Nat} {b : List UInt8} (h : l[i]? = some b) : rowsE l (i + 1) = rowsE l i ++ [⟨i + 1, i * 3, b⟩] := by
  unfold rowsE
  rw [List.range_succ, List.map_append, List.map_singleton]
  unfold rowE
  rw [List.getD_eq_getElem?_getD, h]
  rfl
theorem rowsE_get {l : List (List UInt8)} {n k i : Nat} {b : List UInt8} (hb : l[k + i]? = some b) (hn : k + i < n) : ((rowsE l n).drop k)[i]? = some ⟨k + i + 1, (k + i) * 3, b⟩ := by
  unfold rowsE
  rw [List.getElem?_drop, List.getElem?_map, List.getElem?_range hn]
  show some (rowE l (k + i)) = _
  unfold rowE
  rw [List.getD_eq_getElem?_getD, hb]
  rfl
theorem used_app2 {es : List En} {e : En} {i : Nat} (h : usedB (es.map enB) ≤ 2 * i) (hd : e.data.length ≤ 944) : usedB (es.map enB) + needR (enB e).length ≤ 2 * (i + 1) ∧ usedB ((es ++ [e]).map enB) ≤ 2 * (i + 1) := by
  have := needR_bound (n := (enB e).length) (m := 2) (by rw [enB_length]; omega) (by decide)
  refine ⟨by omega, ?_⟩
  rw [List.map_append, List.map_singleton, usedB_app]
  omega
end Go.Sl.StM
