/-
  The document's unit as it lies: what it reads may be shared, nobody writes it. No program is named here.
-/
import Derived.Test.YtjbgiingimhnnaaGreatUnitTwinsFQ3
import Derived.Test.YtjbgiingimhnnaaGreatUnitTwinsFQ1
import Derived.Lib.AppendStr
namespace Go.Sl.UnM
open Go Go.Sl Go.Sl.BitM Go.Sl.SpM Go.Sl.RsM Go.Sl.ByM
set_option linter.unusedVariables false
set_option linter.unusedSimpArgs false
/-- Rows that nobody writes any more: size, slice, elements, cells. -/
abbrev PoolK := List (Nat × Value × Nat × List Value)
def PoolC (pc : PoolK) : HProp := fun h => ∀ p ∈ pc, Cells p.1 p.2.1 p.2.2.1 p.2.2.2 h
abbrev inB (pc : PoolK) (v : Value) (bs : List UInt8) : Prop := (1, v, bs.length, bytesV bs) ∈ pc
section
variable {W0 w : World} {L : List HProp} {pc pc' : PoolK}
theorem On.poolC0 (H : On W0 L w) : On W0 (PoolC [] :: L) w := H.new fun _ _ h => by cases h
theorem On.toPoolC {size n : Nat} {v : Value} {xs : List Value} (H : On W0 (Own size v n xs :: PoolC pc :: L) w) : On W0 (PoolC ((size, v, n, xs) :: pc) :: L) w :=
  H.merge fun h k l s1 s2 a b p hp => by
    rcases List.mem_cons.1 hp with rfl | hp
    · exact Cells_mono _ _ _ _ _ _ s1 a.cells
    · exact Cells_mono _ _ _ _ _ _ s2 (b p hp)
theorem Gives.poolC {size n : Nat} {v : Value} {xs : List Value} (h : (size, v, n, xs) ∈ pc) : Gives (PoolC pc :: L) (Cells size v n xs) := Gives.head (Cells_mono _ _ _ _) fun _ H => H _ h
end
def subK (pc pc' : PoolK) : Prop := ∀ p ∈ pc, p ∈ pc'
theorem subK_refl {pc : PoolK} : subK pc pc := fun p h => h
theorem subK_cons {pc : PoolK} {x : Nat × Value × Nat × List Value} : subK pc (x :: pc) := fun p h => List.mem_cons_of_mem _ h
theorem subK.trans {a b c : PoolK} (h1 : subK a b) (h2 : subK b c) : subK a c := fun p h => h2 p (h1 p h)
/-! ### Blocks -/
def RSpP (T b : Nat) (pc : PoolK) (s : Sp) : HProp := Ex fun (x : Value × Value × List UInt8) => Pack (wfS s ∧ inB pc x.1 s.d ∧ inB pc x.2.1 x.2.2 ∧ x.2.2.length ≤ 1000)
  [blk b [.int .i64 (s.N : Int), x.1, x.2.1] T]
section
variable {W0 w : World} {L : List HProp} {T b : Nat} {s : Sp} {pc pc' : PoolK}
theorem openR (H : On W0 (RSpP T b pc s :: L) w) : ∃ bv mv m, (wfS s ∧ inB pc bv s.d ∧ inB pc mv m ∧ m.length ≤ 1000) ∧ On W0 (blk b [.int .i64 (s.N : Int), bv, mv] T :: L) w := by
  obtain ⟨⟨bv, mv, m⟩, H⟩ := H.ex
  obtain ⟨h1, H⟩ := H.unpack
  exact ⟨bv, mv, m, h1, H⟩
theorem closeR {bv mv : Value} {m : List UInt8} (h1 : wfS s ∧ inB pc bv s.d ∧ inB pc mv m ∧ m.length ≤ 1000) (H : On W0 (blk b [.int .i64 (s.N : Int), bv, mv] T :: L) w) : On W0 (RSpP T b pc s :: L) w :=
  On.exI (bv, mv, m) (On.pack h1 H)
theorem RSpP_more (hs : subK pc pc') (H : On W0 (RSpP T b pc s :: L) w) : On W0 (RSpP T b pc' s :: L) w := by
  obtain ⟨bv, mv, m, ⟨h1, h2, h3, h4⟩, H⟩ := openR H
  exact closeR ⟨h1, hs _ h2, hs _ h3, h4⟩ H
/-- New bytes and a new map become what is only read. -/
theorem closeR2 {v1 v2 : Value} {n N : Nat} {mm : List UInt8} {xs : List Value} (hw : wfS s) (hN : s.N = N) (hx : xs = bytesV s.d) (hd : s.d.length = n) (hm : mm.length ≤ 1000) (H : On W0 (Own 1 v1 n xs :: Own 1 v2 mm.length (bytesV mm) :: PoolC pc :: blk b [.int .i64 (N : Int), v1, v2] T :: L) w) :
    ∃ pc', subK pc pc' ∧ On W0 (RSpP T b pc' s :: PoolC pc' :: L) w := by
  subst hd
  subst hN
  subst hx
  have H1 : On W0 (Own 1 v2 mm.length (bytesV mm) :: PoolC pc :: Own 1 v1 s.d.length (bytesV s.d) :: blk b [.int .i64 (s.N : Int), v1, v2] T :: L) w := H.to
  have H2 := On.toPoolC H1
  have H3 : On W0 (Own 1 v1 s.d.length (bytesV s.d) :: PoolC ((1, v2, mm.length, bytesV mm) :: pc) :: blk b [.int .i64 (s.N : Int), v1, v2] T :: L) w := H2.to
  have H4 := On.toPoolC H3
  have H5 : On W0 (blk b [.int .i64 (s.N : Int), v1, v2] T :: PoolC ((1, v1, s.d.length, bytesV s.d) :: (1, v2, mm.length, bytesV mm) :: pc) :: L) w := H4.to
  exact ⟨_, subK_cons.trans subK_cons, closeR ⟨hw, List.mem_cons_self .., List.mem_cons_of_mem _ (List.mem_cons_self ..), hm⟩ H5⟩
end
/-! ### The unit -/
/-- What was done: its number, what was told, where that lies. -/
structure DX where
  id : Int
  r : Rp
  v : Value
def DX.cells (d : DX) : List Value := .int .u64 d.id :: d.r.cells d.v
def DX.out (d : DX) : Int × Rp := (d.id, d.r)
structure RX where
  codes : List Int
  floor : Int
  D : List DX
  wv : Value
  dv : Value
def RX.s (x : RX) : Gs := ⟨x.codes, x.floor, x.D.map DX.out⟩
def zRX : RX := ⟨[], 0, [], .slice none 0 0, .slice none 0 0⟩
def okX (pc : PoolK) (x : RX) : Prop := (1, x.wv, x.codes.length, cV x.codes) ∈ pc ∧ (6, x.dv, x.D.length, x.D.flatMap DX.cells) ∈ pc ∧ ∀ d ∈ x.D, inB pc d.v d.r.data
abbrev rcells (bs bt : Nat) (xs : List RX) : List Value := .pointer (some ⟨bs, 0, none⟩) :: .pointer (some ⟨bt, 0, none⟩) :: (xs.map RX.wv ++ (xs.map (fun x => .int .u64 x.floor) ++ xs.map RX.dv))
def RefU (TU TS TT bu : Nat) (pc : PoolK) (u : Un) : HProp := Ex fun (x : Nat × Nat × List RX) => Pack (x.2.2.map RX.s = u.g ∧ u.g.length = 8 ∧ (∀ y ∈ x.2.2, okX pc y) ∧ inB pc (.slice none 0 0) [])
  [blk bu (rcells x.1 x.2.1 x.2.2) TU, RSpP TS x.1 pc u.s, blk x.2.1 u.t.cells TT]
theorem okX_more {pc pc' : PoolK} {x : RX} (hs : subK pc pc') (h : okX pc x) : okX pc' x := ⟨hs _ h.1, hs _ h.2.1, fun d hd => hs _ (h.2.2 d hd)⟩
section
variable {W0 w : World} {L : List HProp} {TU TS TT bu bs bt : Nat} {pc pc' : PoolK} {u : Un} {xs : List RX} {x x' : RX} {i : Nat}
theorem openF (H : On W0 (RefU TU TS TT bu pc u :: L) w) : ∃ bs bt xs, (xs.map RX.s = u.g ∧ u.g.length = 8 ∧ (∀ y ∈ xs, okX pc y) ∧ inB pc (.slice none 0 0) []) ∧ On W0 (blk bu (rcells bs bt xs) TU :: RSpP TS bs pc u.s :: blk bt u.t.cells TT :: L) w := by
  obtain ⟨⟨b1, b2, xs⟩, H⟩ := H.ex
  obtain ⟨h1, H⟩ := H.unpack
  exact ⟨b1, b2, xs, h1, H⟩
theorem closeF (h1 : xs.map RX.s = u.g ∧ u.g.length = 8 ∧ (∀ y ∈ xs, okX pc y) ∧ inB pc (.slice none 0 0) []) (H : On W0 (blk bu (rcells bs bt xs) TU :: RSpP TS bs pc u.s :: blk bt u.t.cells TT :: L) w) : On W0 (RefU TU TS TT bu pc u :: L) w :=
  On.exI (bs, bt, xs) (On.pack h1 H)
theorem RefU_more (hs : subK pc pc') (H : On W0 (RefU TU TS TT bu pc u :: L) w) : On W0 (RefU TU TS TT bu pc' u :: L) w := by
  obtain ⟨bs, bt, xs, ⟨h1, h2, h3, h4⟩, H⟩ := openF H
  have H1 : On W0 (RSpP TS bs pc u.s :: blk bu (rcells bs bt xs) TU :: blk bt u.t.cells TT :: L) w := H.to
  have H2 := RSpP_more hs H1
  have H3 : On W0 (blk bu (rcells bs bt xs) TU :: RSpP TS bs pc' u.s :: blk bt u.t.cells TT :: L) w := H2.to
  exact closeF ⟨h1, h2, fun y hy => okX_more hs (h3 y hy), hs _ h4⟩ H3
theorem xs_len (h : xs.map RX.s = u.g ∧ u.g.length = 8 ∧ (∀ y ∈ xs, okX pc y) ∧ inB pc (.slice none 0 0) []) : xs.length = 8 := by rw [← h.2.1, ← h.1, List.length_map]
theorem rx_of (h : xs.map RX.s = u.g ∧ u.g.length = 8 ∧ (∀ y ∈ xs, okX pc y) ∧ inB pc (.slice none 0 0) []) (hi : i < 8) : ∃ x, xs[i]? = some x ∧ x.s = u.guest i ∧ okX pc x := by
  have hl := xs_len h
  refine ⟨xs[i]'(by omega), by simp, ?_, h.2.2.1 _ (List.getElem_mem _)⟩
  unfold Un.guest
  rw [← h.1, List.getD_eq_getElem?_getD, List.getElem?_map, List.getElem?_eq_getElem (by omega)]
  rfl
theorem rx_put (h : xs.map RX.s = u.g ∧ u.g.length = 8 ∧ (∀ y ∈ xs, okX pc y) ∧ inB pc (.slice none 0 0) []) (hs : subK pc pc') (hx : okX pc' x') : (xs.set i x').map RX.s = (u.putG i x'.s).g ∧ (u.putG i x'.s).g.length = 8 ∧ (∀ y ∈ xs.set i x', okX pc' y) ∧ inB pc' (.slice none 0 0) [] := by
  refine ⟨by rw [List.map_set, h.1]; rfl, by show (u.g.set i _).length = _; rw [List.length_set, h.2.1], fun y hy => ?_, hs _ h.2.2.2⟩
  rcases List.mem_or_eq_of_mem_set hy with hy | rfl
  · exact okX_more hs (h.2.2.1 y hy)
  · exact hx
theorem rget_w (hl : xs.length = 8) (hx : xs[i]? = some x) : (rcells bs bt xs)[0 + 2 + ((i : Nat) : Int).toNat * 1]? = some x.wv := by
  have hi := (List.getElem?_eq_some_iff.1 hx).1
  rw [show 0 + 2 + ((i : Nat) : Int).toNat * 1 = i + 1 + 1 by simp; omega]
  show (xs.map RX.wv ++ _)[i]? = _
  rw [List.getElem?_append_left (by rw [List.length_map]; omega), List.getElem?_map, hx]; rfl
theorem rget_f (hl : xs.length = 8) (hx : xs[i]? = some x) : (rcells bs bt xs)[0 + 10 + ((i : Nat) : Int).toNat * 1]? = some (.int .u64 x.floor) := by
  have hi := (List.getElem?_eq_some_iff.1 hx).1
  rw [show 0 + 10 + ((i : Nat) : Int).toNat * 1 = (8 + i) + 1 + 1 by simp; omega]
  show (xs.map RX.wv ++ _)[8 + i]? = _
  rw [List.getElem?_append_right (by rw [List.length_map]; omega), List.length_map, hl, show 8 + i - 8 = i by omega, List.getElem?_append_left (by rw [List.length_map]; omega), List.getElem?_map, hx]; rfl
theorem rget_d (hl : xs.length = 8) (hx : xs[i]? = some x) : (rcells bs bt xs)[0 + 18 + ((i : Nat) : Int).toNat * 1]? = some x.dv := by
  have hi := (List.getElem?_eq_some_iff.1 hx).1
  rw [show 0 + 18 + ((i : Nat) : Int).toNat * 1 = (8 + (8 + i)) + 1 + 1 by simp; omega]
  show (xs.map RX.wv ++ _)[8 + (8 + i)]? = _
  rw [List.getElem?_append_right (by rw [List.length_map]; omega), List.length_map, hl, show 8 + (8 + i) - 8 = 8 + i by omega, List.getElem?_append_right (by rw [List.length_map]; omega), List.length_map, hl, show 8 + i - 8 = i by omega, List.getElem?_map, hx]; rfl
theorem rlt {k : Nat} (hl : xs.length = 8) (hk : k < 26) : Nat.ble (k + 1) (rcells bs bt xs).length = true := by
  rw [Nat.ble_eq]
  show _ ≤ (xs.map RX.wv ++ (xs.map (fun x => Value.int .u64 x.floor) ++ xs.map RX.dv)).length + 1 + 1
  rw [List.length_append, List.length_append, List.length_map, List.length_map, List.length_map]; omega
theorem rset_w (hl : xs.length = 8) (hx : xs[i]? = some x) (e : x'.floor = x.floor ∧ x'.dv = x.dv) : (rcells bs bt xs).set (0 + 2 + ((i : Nat) : Int).toNat * 1) x'.wv = rcells bs bt (xs.set i x') := by
  have hi := (List.getElem?_eq_some_iff.1 hx).1
  rw [show 0 + 2 + ((i : Nat) : Int).toNat * 1 = i + 1 + 1 by simp; omega]
  show _ :: _ :: (xs.map RX.wv ++ _).set i _ = _
  rw [List.set_append_left _ _ (by rw [List.length_map]; omega), ← List.map_set]
  have e1 : (xs.set i x').map (fun x => Value.int .u64 x.floor) = xs.map (fun x => Value.int .u64 x.floor) := by
    rw [List.map_set, e.1]; exact set_same (by rw [List.getElem?_map, hx]; rfl)
  have e2 : (xs.set i x').map RX.dv = xs.map RX.dv := by
    rw [List.map_set, e.2]; exact set_same (by rw [List.getElem?_map, hx]; rfl)
  show _ = _ :: _ :: ((xs.set i x').map RX.wv ++ ((xs.set i x').map (fun x => Value.int .u64 x.floor) ++ (xs.set i x').map RX.dv))
  rw [e1, e2]
where
  set_same {α : Type} {l : List α} {i : Nat} {v : α} (h : l[i]? = some v) : l.set i v = l := by
    apply List.ext_getElem?
    intro j
    rw [List.getElem?_set]
    split
    · rename_i e; subst e
      rw [if_pos (List.getElem?_eq_some_iff.1 h).1, h]
    · rfl
theorem rset_f (hl : xs.length = 8) (hx : xs[i]? = some x) (e : x'.wv = x.wv ∧ x'.dv = x.dv) : (rcells bs bt xs).set (0 + 10 + ((i : Nat) : Int).toNat * 1) (.int .u64 x'.floor) = rcells bs bt (xs.set i x') := by
  have hi := (List.getElem?_eq_some_iff.1 hx).1
  rw [show 0 + 10 + ((i : Nat) : Int).toNat * 1 = (8 + i) + 1 + 1 by simp; omega]
  show _ :: _ :: (xs.map RX.wv ++ _).set (8 + i) _ = _
  rw [List.set_append_right _ _ (by rw [List.length_map]; omega), List.length_map, hl, show 8 + i - 8 = i by omega, List.set_append_left _ _ (by rw [List.length_map]; omega)]
  have e1 : (xs.set i x').map RX.wv = xs.map RX.wv := by
    rw [List.map_set, e.1]; exact rset_w.set_same (by rw [List.getElem?_map, hx]; rfl)
  have e2 : (xs.set i x').map RX.dv = xs.map RX.dv := by
    rw [List.map_set, e.2]; exact rset_w.set_same (by rw [List.getElem?_map, hx]; rfl)
  have e3 : (xs.set i x').map (fun x => Value.int .u64 x.floor) = (xs.map (fun x => Value.int .u64 x.floor)).set i (.int .u64 x'.floor) := by rw [List.map_set]
  show _ = _ :: _ :: ((xs.set i x').map RX.wv ++ ((xs.set i x').map (fun x => Value.int .u64 x.floor) ++ (xs.set i x').map RX.dv))
  rw [e1, e2, e3]
theorem rset_d (hl : xs.length = 8) (hx : xs[i]? = some x) (e : x'.wv = x.wv ∧ x'.floor = x.floor) : (rcells bs bt xs).set (0 + 18 + ((i : Nat) : Int).toNat * 1) x'.dv = rcells bs bt (xs.set i x') := by
  have hi := (List.getElem?_eq_some_iff.1 hx).1
  rw [show 0 + 18 + ((i : Nat) : Int).toNat * 1 = (8 + (8 + i)) + 1 + 1 by simp; omega]
  show _ :: _ :: (xs.map RX.wv ++ _).set (8 + (8 + i)) _ = _
  rw [List.set_append_right _ _ (by rw [List.length_map]; omega), List.length_map, hl, show 8 + (8 + i) - 8 = 8 + i by omega, List.set_append_right _ _ (by rw [List.length_map]; omega), List.length_map, hl, show 8 + i - 8 = i by omega, ← List.map_set]
  have e1 : (xs.set i x').map RX.wv = xs.map RX.wv := by
    rw [List.map_set, e.1]; exact rset_w.set_same (by rw [List.getElem?_map, hx]; rfl)
  have e2 : (xs.set i x').map (fun x => Value.int .u64 x.floor) = xs.map (fun x => Value.int .u64 x.floor) := by
    rw [List.map_set, e.2]; exact rset_w.set_same (by rw [List.getElem?_map, hx]; rfl)
  show _ = _ :: _ :: ((xs.set i x').map RX.wv ++ ((xs.set i x').map (fun x => Value.int .u64 x.floor) ++ (xs.set i x').map RX.dv))
  rw [e1, e2]
/-- New attentions of a guest. -/
theorem setW {codes' : List Int} {v' : Value} {n : Nat} {ws : List Value} (hpk : xs.map RX.s = u.g ∧ u.g.length = 8 ∧ (∀ y ∈ xs, okX pc y) ∧ inB pc (.slice none 0 0) []) (hx : xs[i]? = some x) (hxs : x.s = u.guest i) (hok : okX pc x) (hn : codes'.length = n) (hw : ws = cV codes')
    (H : On W0 (Own 1 v' n ws :: blk bu ((rcells bs bt xs).set (0 + 2 + ((i : Nat) : Int).toNat * 1) v') TU :: RSpP TS bs pc u.s :: blk bt u.t.cells TT :: PoolC pc :: L) w) :
    ∃ pc', subK pc pc' ∧ On W0 (RefU TU TS TT bu pc' (u.putG i { u.guest i with codes := codes' }) :: PoolC pc' :: L) w := by
  subst hn
  subst hw
  have hl8 := xs_len hpk
  have H1 : On W0 (Own 1 v' codes'.length (cV codes') :: PoolC pc :: RSpP TS bs pc u.s :: blk bu ((rcells bs bt xs).set (0 + 2 + ((i : Nat) : Int).toNat * 1) v') TU :: blk bt u.t.cells TT :: L) w := H.to
  have H2 := On.toPoolC H1
  have H3 : On W0 (RSpP TS bs pc u.s :: blk bu ((rcells bs bt xs).set (0 + 2 + ((i : Nat) : Int).toNat * 1) v') TU :: blk bt u.t.cells TT :: PoolC ((1, v', codes'.length, cV codes') :: pc) :: L) w := H2.to
  have H4 := RSpP_more (pc' := (1, v', codes'.length, cV codes') :: pc) subK_cons H3
  have e : (rcells bs bt xs).set (0 + 2 + ((i : Nat) : Int).toNat * 1) v' = rcells bs bt (xs.set i { x with codes := codes', wv := v' }) := rset_w (x' := { x with codes := codes', wv := v' }) hl8 hx ⟨rfl, rfl⟩
  rw [e] at H4
  have H5 : On W0 (blk bu (rcells bs bt (xs.set i { x with codes := codes', wv := v' })) TU :: RSpP TS bs ((1, v', codes'.length, cV codes') :: pc) u.s :: blk bt u.t.cells TT :: PoolC ((1, v', codes'.length, cV codes') :: pc) :: L) w := H4.to
  have es : ({ x with codes := codes', wv := v' } : RX).s = { u.guest i with codes := codes' } := by rw [← hxs]; rfl
  have hp2 := rx_put (i := i) (x' := { x with codes := codes', wv := v' }) hpk (pc' := (1, v', codes'.length, cV codes') :: pc) subK_cons ⟨List.mem_cons_self .., List.mem_cons_of_mem _ hok.2.1, fun d hd => List.mem_cons_of_mem _ (hok.2.2 d hd)⟩
  rw [es] at hp2
  exact ⟨_, subK_cons, closeF (u := u.putG i { u.guest i with codes := codes' }) hp2 H5⟩
theorem setSp {s' : Sp} (hpk : xs.map RX.s = u.g ∧ u.g.length = 8 ∧ (∀ y ∈ xs, okX pc y) ∧ inB pc (.slice none 0 0) []) (hs : subK pc pc') (H : On W0 (blk bu (rcells bs bt xs) TU :: RSpP TS bs pc' s' :: blk bt u.t.cells TT :: L) w) : On W0 (RefU TU TS TT bu pc' (u.setS s') :: L) w :=
  closeF (u := u.setS s') ⟨hpk.1, hpk.2.1, fun y hy => okX_more hs (hpk.2.2.1 y hy), hs _ hpk.2.2.2⟩ H
theorem setTb {t' : Tb} (hpk : xs.map RX.s = u.g ∧ u.g.length = 8 ∧ (∀ y ∈ xs, okX pc y) ∧ inB pc (.slice none 0 0) []) (H : On W0 (blk bu (rcells bs bt xs) TU :: RSpP TS bs pc u.s :: blk bt t'.cells TT :: L) w) : On W0 (RefU TU TS TT bu pc (u.setT t') :: L) w :=
  closeF (u := u.setT t') hpk H
theorem finB {a : Option Addr} {c : Nat} {ys : List UInt8} (H : On W0 (OwnB (.slice a ys.length c) ys :: RefU TU TS TT bu pc u :: PoolC pc :: L) w) : ∃ pc', subK pc pc' ∧ inB pc' (.slice a ys.length c) ys ∧ On W0 (RefU TU TS TT bu pc' u :: PoolC pc' :: L) w := by
  have H1 : On W0 (Own 1 (.slice a ys.length c) ys.length (bytesV ys) :: PoolC pc :: RefU TU TS TT bu pc u :: L) w := H.to
  have H2 := On.toPoolC H1
  have H3 : On W0 (RefU TU TS TT bu pc u :: PoolC ((1, .slice a ys.length c, ys.length, bytesV ys) :: pc) :: L) w := H2.to
  exact ⟨_, subK_cons, List.mem_cons_self .., RefU_more subK_cons H3⟩
theorem RefU_nil (H : On W0 (RefU TU TS TT bu pc u :: L) w) : inB pc (.slice none 0 0) [] ∧ u.g.length = 8 ∧ wfS u.s := by
  obtain ⟨bs, bt, xs, hpk, H⟩ := openF H
  have H1 : On W0 (RSpP TS bs pc u.s :: blk bu (rcells bs bt xs) TU :: blk bt u.t.cells TT :: L) w := H.to
  obtain ⟨bv, mv, m, h1, _⟩ := openR H1
  exact ⟨hpk.2.2.2, hpk.2.1, h1.1⟩
end
end Go.Sl.UnM
/-
  The document's unit: numbers, maps, blocks: the contracts. Lines of walks printed by a program of the prover's.
-/
namespace Go.Proofs.YtjbgiingimhnnaaGreat
open Go.Proofs.Tryz
open Go Go.Sl Go.Sl.BitM Go.Sl.SpM Go.Sl.RsM Go.Sl.ByM Go.Sl.UnM
set_option linter.unusedVariables false
set_option linter.unusedSimpArgs false
set_option maxHeartbeats 1000000
set_option maxRecDepth 8000
variable {W0 w : World} {L F : List HProp}
theorem rput_ok {ax : Option Addr} {cx v n : Nat} {bs : List UInt8} (h : On W0 (OwnB (.slice ax bs.length cx) bs :: L) w) (hn1 : 1 ≤ n) (hn8 : n ≤ 8) (hv : v < 18446744073709551616) (hb : bs.length ≤ 100000000000) : Calls Tryz.prog 122 #[.slice ax bs.length cx, .int .u64 (v : Int), .int .i64 (n : Int)] (w) (Ret fun r w' => ∃ a c, r = .slice a (bs ++ be v n).length c ∧ On W0 (OwnB (.slice a (bs ++ be v n).length c) (bs ++ be v n) :: L) w') := by
  refine enter func122 rfl ntmps122 rfl ?_
  have hmx := maxLen_eq
  unfold be
  refine W.seq (W.region (WL.val run_assign rfl rfl (WL.nil (W.seq (W.seq (W.region (WL.val run_move rfl rfl ?_)))))))
  refine WL.val (run_lssF rfl rfl (by omega)) rfl rfl (WL.val run_move rfl rfl (WL.val run_move rfl rfl (WL.val (run_gtrF rfl rfl (by omega)) rfl rfl (WL.val (run_pickF rfl) rfl rfl (WL.nil (W.condF rfl (W.skip ?_)))))))
  refine W.seq (W.seq (W.region (WL.val run_move rfl rfl (WL.val (run_subN (m := n) (n := 1) rfl rfl (by omega) (by omega)) rfl rfl (WL.val run_assign rfl rfl (WL.nil (W.block ?_)))))))
  refine W.loop (fun (k : Nat) env w => ∃ (j : Env) (ao : Option Addr) (co : Nat) (z : Int), env = mkE j [(0, .slice ao (bs ++ putK v n k).length co), (1, .int .u64 (v : Int)), (7, .int .i64 z)] ∧ k ≤ n ∧ z = (n : Int) - 1 - k ∧ On W0 (OwnB (.slice ao (bs ++ putK v n k).length co) (bs ++ putK v n k) :: L) w) (fun k => n - k) (0) ?_ ?_
  · have e0 : bs ++ ByM.putK v n 0 = bs := by simp [ByM.putK]
    refine ⟨_, ax, cx, ((n - 1 : Nat) : Int), mkE_of ⟨(by rw [e0]; rfl), rfl, rfl, trivial⟩, Nat.zero_le _, by omega, (by rw [e0]; exact h)⟩
  rintro k env w ⟨j, ao, co, z, rfl, hk, hz, h⟩
  have hpl : (bs ++ putK v n k).length = bs.length + k := by rw [List.length_append, ByM.putK_length]
  refine W.seq (W.seq (W.region (WL.val run_move rfl rfl ?_)))
  refine WL.dec (run_geq rfl rfl) rfl rfl (fun c18 => ?_) (fun c18 => ?_)
  ·
   refine WL.nil (W.condT rfl (W.skip (W.seq (W.block ?_))))
   have ob_ := Int.eq_ofNat_of_zero_le (show 0 ≤ z by omega)
   obtain ⟨q, rfl⟩ := ob_
   have hq : n - 1 - k = q := by omega
   have e1 : bs ++ ByM.putK v n (k + 1) = (bs ++ putK v n k) ++ [UInt8.ofNat (v / 2 ^ (8 * q))] := by rw [ByM.putK_succ, hq, List.append_assoc]
   have el : (bs ++ ByM.putK v n (k + 1)).length = (bs ++ putK v n k).length + 1 := by rw [e1, List.length_append]; rfl
   refine W.region (WL.val run_move rfl rfl (WL.val run_move rfl rfl (WL.val run_move rfl rfl (WL.val (run_convIn underlying3 underlying154 rfl (by show (0 : Int) ≤ _; omega) (by show _ ≤ (18446744073709551615 : Int); omega)) rfl rfl (WL.val (run_mulK (m := 8) (n := q) rfl rfl (by show _ ≤ (18446744073709551615 : Int); omega)) rfl rfl (WL.val (run_shrN (m := v) (j := 8 * q) rfl rfl (by show 8 * q ≤ 64; omega)) rfl rfl (WL.val (run_convByte underlying23 underlying5 rfl) rfl rfl ?_)))))))
   refine WL.eff (eff_mkSlice (zl := [.int .u8 0]) (out := [.int .u8 _]) h underlying22 sizeOf5 zeroValue5 (by decide) (by kernel_rfl) rfl rfl (by simp) (⟨⟨_, _, rfl, rfl, by decide⟩, trivial⟩) rfl rfl (by simp [maxLen])) rfl rfl ?_
   rintro _ w ⟨b28, rfl, h⟩
   refine WL.eff (eff_app (c2 := 1) (bytes := 1) (h.fetch (OwnB (.slice ao (bs ++ putK v n k).length co) (bs ++ putK v n k))) rfl rfl (h.cellsO (v := .slice (some ⟨b28, 0, none⟩) 1 1)) underlying22 rfl rfl rfl rfl rfl (by omega) (by omega) (by simp [Value.oneCell'])) rfl rfl ?_
   rintro _ w ⟨a29, c29, rfl, h⟩
   have hbv : bytesV (bs ++ putK v n k) ++ [.int .u8 (((UInt8.ofNat (v / 2 ^ (8 * q))).toNat : Nat) : Int)] = bytesV ((bs ++ putK v n k) ++ [UInt8.ofNat (v / 2 ^ (8 * q))]) := by simp [bytesV, byteV]
   have h : On W0 (Own 1 (.slice a29 ((bs ++ putK v n k).length + 1) c29) ((bs ++ putK v n k).length + 1) (bytesV (bs ++ putK v n k) ++ [.int .u8 (((UInt8.ofNat (v / 2 ^ (8 * q))).toNat : Nat) : Int)]) :: _) w := h
   rw [hbv] at h
   refine WL.val run_assign rfl rfl (WL.nil (W.region (WL.val run_move rfl rfl (WL.val (run_sub rfl rfl (by omega) (by omega)) rfl rfl (WL.val run_assign rfl rfl (WL.nil ?_))))))
   exact ⟨k + 1, ⟨_, a29, c29, (q : Int) - 1, mkE_of ⟨(by rw [el]; rfl), rfl, rfl, trivial⟩, by omega, by omega, (by unfold OwnB; rw [el, e1]; exact h.to)⟩, by show n - (k + 1) < n - k; omega⟩
  refine WL.nil (W.condF rfl (W.exit (W.seq (W.region (WL.val run_move rfl rfl (WL.val run_assign rfl rfl (WL.nil ?_)))))))
  refine W.ret (bodyQ.r1 (v := .slice _ _ _) results122 rfl ?_)
  have ob_ : k = n := by omega
  obtain rfl := ob_
  exact ⟨ao, co, rfl, h⟩
theorem over_step {l bs : List UInt8} {o k : Nat} {x : UInt8} (hx : bs[k]? = some x) (h : o + bs.length ≤ l.length) : (over l o (bs.take k)).set (o + k) x = over l o (bs.take (k + 1)) := by
  have hk := (List.getElem?_eq_some_iff.1 hx).1
  have l1 : (bs.take k).length = k := by rw [List.length_take]; omega
  have l2 : (bs.take (k + 1)).length = k + 1 := by rw [List.length_take]; omega
  have h1 := over_length (l := l) (o := o) (bs := bs.take k) (by omega)
  apply List.ext_getElem?
  intro j
  rw [List.getElem?_set, over_get (by omega), over_get (by omega), l1, l2]
  by_cases e : o + k = j
  · subst e
    rw [if_pos rfl, if_pos (by omega), if_pos (by omega), List.getElem?_take, if_pos (by omega), show o + k - o = k by omega, hx]
  · rw [if_neg e]
    by_cases e2 : o ≤ j ∧ j < o + k
    · rw [if_pos e2, if_pos (by omega), List.getElem?_take, List.getElem?_take, if_pos (by omega), if_pos (by omega)]
    · rw [if_neg e2, if_neg (by omega)]
theorem bytesV_set {l : List UInt8} {i : Nat} {x : UInt8} : (bytesV l).set i (.int .u8 ((x.toNat : Nat) : Int)) = bytesV (l.set i x) := by
  unfold bytesV; rw [List.map_set]
theorem rnew13_ok {n : Nat} (hn1 : 1 ≤ n) (hn : n ≤ 1024) (h : On W0 L w) : Calls Tryz.prog 79 #[.int .i64 (n : Int)] w (Ret fun v w' => ∃ a c, v = .slice a (List.replicate ((n + 7) / 8) (0 : UInt8)).length c ∧ On W0 (OwnB (.slice a (List.replicate ((n + 7) / 8) (0 : UInt8)).length c) (List.replicate ((n + 7) / 8) 0) :: L) w') := by
  refine enter func79 rfl ntmps79 rfl ?_
  have hmx := maxLen_eq
  refine W.seq (W.region (WL.val run_assign rfl rfl (WL.nil (W.seq (W.seq (W.region (WL.val run_move rfl rfl ?_)))))))
  refine WL.val (run_lssF rfl rfl (by omega)) rfl rfl (WL.val run_move rfl rfl (WL.val run_move rfl rfl (WL.val (run_gtrF rfl rfl (by omega)) rfl rfl (WL.val (run_pickF rfl) rfl rfl (WL.nil (W.condF rfl (W.skip ?_)))))))
  refine W.seq (W.region (WL.val run_move rfl rfl (WL.val (run_addN (m := n) (n := 7) rfl rfl (by omega)) rfl rfl (WL.val (run_quoN (m := n + 7) (n := 8) rfl rfl (by omega) (by omega)) rfl rfl (WL.eff (eff_make (n := (n + 7) / 8) (bytes := 1) h (by rfl) (by rfl) underlying22 rfl rfl rfl rfl rfl (by omega) (by omega)) rfl rfl ?_)))))
  rintro _ w ⟨b12, rfl, h⟩
  refine WL.val run_assign rfl rfl (WL.nil (W.ret (bodyQ.r1 (v := .slice _ _ _) results79 rfl ?_)))
  have e1 : bytesV (List.replicate ((n + 7) / 8) 0) = List.replicate ((n + 7) / 8) (.int .u8 0) := by simp [bytesV, byteV]
  rw [List.length_replicate]
  refine ⟨_, _, rfl, ?_⟩
  unfold OwnB
  rw [e1, List.length_replicate]
  exact h.to
theorem rhas13_ok {ax : Option Addr} {cx : Nat} {bs : List UInt8} {i n : Nat} (h : On W0 L w) (C : Gives L (Cells 1 (.slice ax n cx) n (bytesV bs))) (hnl : bs.length = n) (hb : n ≤ 1000) (hi : i ≤ 100000) : Calls Tryz.prog 150 #[.slice ax n cx, .int .i64 (i : Int)] w (Ret fun v w' => (∃ b, v = .bool b) ∧ On W0 L w') := by
  refine enter func150 rfl ntmps150 rfl (W.seq (W.region (WL.val run_assign rfl rfl (WL.nil (W.seq (W.region (WL.val run_move rfl rfl ?_)))))))
  refine WL.val (run_geqT rfl rfl (by omega)) rfl rfl (WL.val run_move rfl rfl (WL.val run_move rfl rfl (WL.val (run_quoN (m := i) (n := 8) rfl rfl (by omega) (by omega)) rfl rfl (WL.val run_move rfl rfl (WL.val (run_lenSlice underlying22 rfl) rfl rfl ?_)))))
  refine WL.dec (run_lss rfl rfl) rfl rfl (fun c12 => ?_) (fun c12 => ?_)
  ·
   refine WL.val (run_pickT rfl) rfl rfl (WL.val run_move rfl rfl ?_)
   have CC := h.readsTo C
   have ha := CC.addr (by omega)
   obtain ⟨bq, oq, hal⟩ := ha
   subst hal
   have hx : ∃ x, bs[i / 8]? = some x := ⟨bs[i / 8]'(by omega), by simp⟩
   obtain ⟨x, hx⟩ := hx
   have hx256 := x.toNat_lt
   refine WL.val run_move rfl rfl (WL.val run_move rfl rfl (WL.val (run_quoN (m := i) (n := 8) rfl rfl (by omega) (by omega)) rfl rfl (WL.val (run_indexAddr underlying22 sizeOf5 rfl rfl (by omega) (by omega)) rfl rfl (WL.val (run_load1 isAgg5 rfl ((h.readsTo C).elem (i := i / 8) (vs := [.int .u8 x.toNat]) (by omega) (bytes_row hx) 0 _ rfl)) rfl rfl (WL.val run_move rfl rfl (WL.val (run_remN (m := i) (n := 8) rfl rfl (by omega)) rfl rfl (WL.val (run_convIn underlying3 underlying154 rfl (by show (0 : Int) ≤ _; omega) (by show _ ≤ (18446744073709551615 : Int); omega)) rfl rfl ?_)))))))
   refine WL.val (run_shrN (j := i % 8) rfl rfl (by show i % 8 ≤ 8; omega)) rfl rfl (WL.val (run_andMod (n := 1) 1 rfl rfl (by show ((x.toNat / 2 ^ (i % 8) : Nat) : Int) ≤ 255; have := Nat.div_le_self x.toNat (2 ^ (i % 8)); omega) (by decide) rfl) rfl rfl (WL.val (run_eql rfl rfl) rfl rfl (WL.val (run_pickT rfl) rfl rfl (WL.val run_assign rfl rfl (WL.nil (W.ret (bodyQ.r1 (v := .bool _) results150 rfl ?_)))))))
   exact ⟨⟨_, rfl⟩, h⟩
  refine WL.val (run_pickT rfl) rfl rfl (WL.val run_move rfl rfl (WL.skip rfl rfl (WL.skip rfl rfl (WL.skip rfl rfl (WL.skip rfl rfl (WL.skip rfl rfl (WL.skip rfl rfl ?_)))))))
  refine WL.skip rfl rfl (WL.skip rfl rfl (WL.skip rfl rfl (WL.skip rfl rfl (WL.skip rfl rfl (WL.val (run_pickF rfl) rfl rfl (WL.val run_assign rfl rfl (WL.nil ?_)))))))
  refine W.ret (bodyQ.r1 (v := .bool _) results150 rfl ?_)
  exact ⟨⟨_, rfl⟩, h⟩
theorem rput13_ok {ax : Option Addr} {cx : Nat} {bs : List UInt8} {p q : Nat} {s : Bool} (h : On W0 L w) (C : Gives L (Bytes (.slice ax bs.length cx) bs)) (hb : bs.length ≤ 1000) (hp : p ≤ 10000) (hq : q ≤ 10000) : Calls Tryz.prog 145 #[.slice ax bs.length cx, .int .i64 (p : Int), .int .i64 (q : Int), .bool s] w (Ret fun v w' => ∃ a c z, ∃ mm : List UInt8, mm.length = bs.length ∧ v = .tuple #[.slice a mm.length c, .int .i64 z] ∧ On W0 (OwnB (.slice a mm.length c) mm :: L) w') := by
  refine enter func145 rfl ntmps145 rfl ?_
  have hmx := maxLen_eq
  have hbb := Cells.bounds (h.readsTo C)
  obtain ⟨hbc, hbm⟩ := hbb
  refine W.seq (W.region (WL.val run_assign rfl rfl (WL.val run_assign rfl rfl (WL.nil (W.seq (W.region (WL.eff (eff_mkSlice (zl := []) (out := []) h underlying22 sizeOf5 zeroValue5 (by decide) (by simp) rfl rfl (by simp) (trivial) rfl rfl (by simp [maxLen])) rfl rfl ?_)))))))
  rintro _ w ⟨b13, rfl, h⟩
  refine WL.val run_move rfl rfl (WL.eff (eff_app0 (bytes := 1) h rfl rfl (h.readsTo (C)) underlying22 rfl rfl rfl rfl rfl (by omega) (by omega) bytes_one) rfl rfl ?_)
  rintro _ w ⟨a15, c15, rfl, h⟩
  refine WL.val run_assign rfl rfl (WL.nil (W.seq (W.seq (W.region (WL.val run_move rfl rfl (WL.val (run_lssF rfl rfl (by omega)) rfl rfl (WL.val run_move rfl rfl ?_)))))))
  refine WL.val run_move rfl rfl (WL.val (run_lss rfl rfl) rfl rfl (WL.val (run_pickF rfl) rfl rfl (WL.nil ?_)))
  refine W.condIf rfl (fun c3 => ?_) (fun c3 => ?_)
  ·
   refine W.seq (W.region (WL.val run_move rfl rfl (WL.val run_assign rfl rfl (WL.val run_assign rfl rfl (WL.nil (W.ret (bodyQ.r2 (v1 := .slice _ _ _) (v2 := .int .i64 _) results145 rfl rfl ?_)))))))
   exact ⟨a15, c15, 0, bs, rfl, rfl, h.to⟩
  refine W.skip (W.seq (W.region (WL.val run_assign rfl rfl (WL.nil (W.seq (W.seq (W.region ?_)))))))
  refine WL.val run_move rfl rfl (WL.val run_assign rfl rfl (WL.nil (W.block ?_)))
  refine W.loop (fun (k : Nat) env w => ∃ (j : Env) (mm : List UInt8) (z : Nat), env = mkE j [(1, .int .i64 (p : Int)), (2, .int .i64 (q : Int)), (3, .bool s), (10, .slice a15 bs.length c15), (11, .int .i64 (z : Int)), (12, .int .i64 ((p + k : Nat) : Int))] ∧ mm.length = bs.length ∧ z ≤ k ∧ On W0 (Own 1 (.slice a15 bs.length c15) bs.length (bytesV mm) :: L) w) (fun k => 8 * bs.length - (p + k)) (0) ?_ ?_
  · exact ⟨_, bs, 0, mkE_of ⟨rfl, rfl, rfl, rfl, rfl, rfl, trivial⟩, rfl, Nat.zero_le _, h.to⟩
  rintro k env w ⟨j, mm, z, rfl, hmm, hz, h⟩
  refine W.seq (W.seq (W.region (WL.val run_move rfl rfl (WL.val run_move rfl rfl (WL.val (run_lenSlice underlying22 rfl) rfl rfl (WL.val (run_mulN (m := 8) (n := bs.length) rfl rfl (by omega)) rfl rfl ?_))))))
  refine WL.dec (run_lss rfl rfl) rfl rfl (fun c28 => ?_) (fun c28 => ?_)
  ·
   refine WL.val run_move rfl rfl (WL.val run_move rfl rfl (WL.val run_move rfl rfl (WL.val (run_sub rfl rfl (by omega) (by omega)) rfl rfl (WL.val run_move rfl rfl (WL.val (run_lss rfl rfl) rfl rfl (WL.val (run_pickT rfl) rfl rfl (WL.nil ?_)))))))
   refine W.condIf rfl (fun c12 => ?_) (fun c12 => ?_)
   ·
    refine W.skip (W.seq (W.block (W.seq (W.region (WL.val run_move rfl rfl (WL.val run_move rfl rfl (WL.eff (eff_call call150 (rhas13_ok (bs := mm) (i := p + k) (n := bs.length) (ax := a15) (cx := c15) h (Gives.ownO (v := .slice a15 bs.length c15)) hmm (by omega) (by omega))) rfl rfl ?_)))))))
    rintro _ w ⟨⟨b40, rfl⟩, h⟩
    refine WL.val run_move rfl rfl (WL.val (run_neqBool underlying4 rfl rfl) rfl rfl (WL.nil ?_))
    refine W.condB rfl (fun c17 => ?_) (fun c17 => ?_)
    ·
     refine W.seq ?_
     have ha := Own.addr h (by omega)
     obtain ⟨bq, oq, hal⟩ := ha
     subst hal
     have hx : ∃ x, mm[(p + k) / 8]? = some x := ⟨mm[(p + k) / 8]'(by omega), by simp⟩
     obtain ⟨x, hx⟩ := hx
     have hx256 := x.toNat_lt
     have hp2 : 1 * 2 ^ ((p + k) % 8) ≤ 255 := by have := Nat.pow_le_pow_right (n := 2) (by omega) (show (p + k) % 8 ≤ 7 by omega); omega
     have hxr := xor_lt x (show (p + k) % 8 < 8 by omega)
     rw [← Nat.one_mul (2 ^ ((p + k) % 8))] at hxr
     refine W.region (WL.val run_move rfl rfl (WL.val run_move rfl rfl (WL.val (run_quoN (m := p + k) (n := 8) rfl rfl (by omega) (by omega)) rfl rfl (WL.val run_move rfl rfl (WL.val run_move rfl rfl (WL.val (run_quoN (m := p + k) (n := 8) rfl rfl (by omega) (by omega)) rfl rfl (WL.val (run_indexAddr underlying22 sizeOf5 rfl rfl (by omega) (by omega)) rfl rfl ?_)))))))
     refine WL.val (run_load1 isAgg5 rfl ((h.cellsO (v := .slice (some ⟨bq, oq, none⟩) bs.length c15)).elem (i := (p + k) / 8) (vs := [.int .u8 x.toNat]) (by omega) (bytes_row hx) 0 _ rfl)) rfl rfl (WL.val run_move rfl rfl (WL.val (run_remN (m := p + k) (n := 8) rfl rfl (by omega)) rfl rfl (WL.val (run_convIn underlying3 underlying154 rfl (by show (0 : Int) ≤ _; omega) (by show _ ≤ (18446744073709551615 : Int); omega)) rfl rfl (WL.val (run_shlN (m := 1) (j := (p + k) % 8) rfl rfl (by show (p + k) % 8 ≤ 8; omega) (by show _ ≤ (255 : Int); omega)) rfl rfl (WL.val (run_xorN rfl rfl (by show _ ≤ (255 : Int); omega) (by show _ ≤ (255 : Int); omega) (by show _ ≤ (255 : Int); omega)) rfl rfl (WL.val (run_indexAddr underlying22 sizeOf5 rfl rfl (by omega) (by omega)) rfl rfl (WL.eff (eff_storeOwn (k := (p + k) / 8 * 1) (v := .int .u8 _) h sizeOf5 rfl rfl rfl (by omega)) rfl rfl ?_)))))))
     rintro _ w h
     rw [Nat.mul_one, bytesV_flip hx] at h
     refine WL.nil (W.region (WL.val run_move rfl rfl (WL.val (run_incN rfl rfl (by omega)) rfl rfl (WL.val run_assign rfl rfl (WL.nil (W.region (WL.val run_move rfl rfl ?_)))))))
     refine WL.val (run_incN rfl rfl (by omega)) rfl rfl (WL.val run_assign rfl rfl (WL.nil ?_))
     exact ⟨k + 1, ⟨_, flip mm (p + k), z + 1, mkE_of ⟨rfl, rfl, rfl, rfl, rfl, rfl, trivial⟩, by rw [flip_length, hmm], by omega, h.to⟩, by show 8 * bs.length - (p + (k + 1)) < 8 * bs.length - (p + k); omega⟩
    refine W.skip (W.region (WL.val run_move rfl rfl (WL.val (run_incN rfl rfl (by omega)) rfl rfl (WL.val run_assign rfl rfl (WL.nil ?_)))))
    exact ⟨k + 1, ⟨_, mm, z, mkE_of ⟨rfl, rfl, rfl, rfl, rfl, rfl, trivial⟩, hmm, by omega, h.to⟩, by show 8 * bs.length - (p + (k + 1)) < 8 * bs.length - (p + k); omega⟩
   refine W.exit (W.seq (W.region (WL.val run_move rfl rfl (WL.val run_move rfl rfl (WL.val run_assign rfl rfl (WL.val run_assign rfl rfl (WL.nil ?_)))))))
   refine W.ret (bodyQ.r2 (v1 := .slice _ _ _) (v2 := .int .i64 _) results145 rfl rfl ?_)
   refine ⟨a15, c15, (z : Int), mm, hmm, ?_, ?_⟩
   · rw [hmm]
   · unfold OwnB; rw [hmm]; exact h.to
  refine WL.val run_move rfl rfl (WL.skip rfl rfl (WL.skip rfl rfl (WL.skip rfl rfl (WL.skip rfl rfl (WL.skip rfl rfl (WL.val (run_pickF rfl) rfl rfl (WL.nil ?_)))))))
  refine W.condF rfl (W.exit (W.seq (W.region (WL.val run_move rfl rfl (WL.val run_move rfl rfl (WL.val run_assign rfl rfl (WL.val run_assign rfl rfl ?_)))))))
  refine WL.nil (W.ret (bodyQ.r2 (v1 := .slice _ _ _) (v2 := .int .i64 _) results145 rfl rfl ?_))
  refine ⟨a15, c15, (z : Int), mm, hmm, ?_, ?_⟩
  · rw [hmm]
  · unfold OwnB; rw [hmm]; exact h.to
theorem rin14_ok {b : Nat} {N : Nat} {cs : List Value} {e : Nat} {fr : Nat × Nat} {at_ n : Int} (hN : N ≤ 1024) (h : On W0 L w) [HasBlk L b (.int .i64 (N : Int) :: cs) e fr] : Calls Tryz.prog 124 #[.pointer (some ⟨b, 0, none⟩), .int .i64 at_, .int .i64 n] w (Ret fun v w' => ((v = .bool true ∧ 0 ≤ n ∧ n ≤ 32 ∧ 0 ≤ at_ ∧ at_ ≤ N ∧ n ≤ N - at_) ∨ (v = .bool false ∧ ¬ (0 ≤ n ∧ n ≤ 32 ∧ 0 ≤ at_ ∧ at_ ≤ N ∧ n ≤ N - at_))) ∧ On W0 L w') := by
  refine enter func124 rfl ntmps124 rfl (W.seq (W.region (WL.val run_assign rfl rfl (WL.nil (W.seq (W.region (WL.val run_move rfl rfl ?_)))))))
  refine WL.dec (run_geq rfl rfl) rfl rfl (fun c8 => ?_) (fun c8 => ?_)
  ·
   refine WL.val run_move rfl rfl (WL.val run_move rfl rfl ?_)
   refine WL.dec (run_leq rfl rfl) rfl rfl (fun c11 => ?_) (fun c11 => ?_)
   ·
    refine WL.val (run_pickT rfl) rfl rfl (WL.val run_move rfl rfl (WL.val run_move rfl rfl ?_))
    refine WL.dec (run_geq rfl rfl) rfl rfl (fun c15 => ?_) (fun c15 => ?_)
    ·
     refine WL.val (run_pickT rfl) rfl rfl (WL.val run_move rfl rfl (WL.val run_move rfl rfl (WL.val run_move rfl rfl (WL.val (run_nilCheck rfl) rfl rfl (WL.val (run_fieldAddr 0 underlying94 rfl sizeOf3 rfl rfl) rfl rfl (WL.val (run_load1 isAgg3 rfl (h.cellB rfl)) rfl rfl ?_))))))
     refine WL.dec (run_leq rfl rfl) rfl rfl (fun c23 => ?_) (fun c23 => ?_)
     ·
      refine WL.val (run_pickT rfl) rfl rfl (WL.val run_move rfl rfl (WL.val run_move rfl rfl (WL.val run_move rfl rfl (WL.val (run_nilCheck rfl) rfl rfl (WL.val (run_fieldAddr 0 underlying94 rfl sizeOf3 rfl rfl) rfl rfl (WL.val (run_load1 isAgg3 rfl (h.cellB rfl)) rfl rfl (WL.val run_move rfl rfl ?_)))))))
      refine WL.val (run_sub rfl rfl (by omega) (by omega)) rfl rfl ?_
      refine WL.dec (run_leq rfl rfl) rfl rfl (fun c33 => ?_) (fun c33 => ?_)
      ·
       refine WL.val (run_pickT rfl) rfl rfl (WL.val run_assign rfl rfl (WL.nil (W.ret (bodyQ.r1 (v := .bool _) results124 rfl ?_))))
       exact ⟨.inl ⟨rfl, by omega, by omega, by omega, by omega, by omega⟩, h⟩
      refine WL.val (run_pickT rfl) rfl rfl (WL.val run_assign rfl rfl (WL.nil (W.ret (bodyQ.r1 (v := .bool _) results124 rfl ?_))))
      exact ⟨.inr ⟨rfl, by omega⟩, h⟩
     refine WL.val (run_pickT rfl) rfl rfl (WL.val run_move rfl rfl (WL.skip rfl rfl (WL.skip rfl rfl (WL.skip rfl rfl (WL.skip rfl rfl (WL.skip rfl rfl (WL.skip rfl rfl ?_)))))))
     refine WL.skip rfl rfl (WL.skip rfl rfl (WL.val (run_pickF rfl) rfl rfl (WL.val run_assign rfl rfl (WL.nil (W.ret (bodyQ.r1 (v := .bool _) results124 rfl ?_))))))
     exact ⟨.inr ⟨rfl, by omega⟩, h⟩
    refine WL.val (run_pickT rfl) rfl rfl (WL.val run_move rfl rfl (WL.skip rfl rfl (WL.skip rfl rfl (WL.skip rfl rfl (WL.skip rfl rfl (WL.skip rfl rfl (WL.skip rfl rfl ?_)))))))
    refine WL.val (run_pickF rfl) rfl rfl (WL.val run_move rfl rfl (WL.skip rfl rfl (WL.skip rfl rfl (WL.skip rfl rfl (WL.skip rfl rfl (WL.skip rfl rfl (WL.skip rfl rfl ?_)))))))
    refine WL.skip rfl rfl (WL.skip rfl rfl (WL.val (run_pickF rfl) rfl rfl (WL.val run_assign rfl rfl (WL.nil (W.ret (bodyQ.r1 (v := .bool _) results124 rfl ?_))))))
    exact ⟨.inr ⟨rfl, by omega⟩, h⟩
   refine WL.val (run_pickT rfl) rfl rfl (WL.val run_move rfl rfl (WL.skip rfl rfl (WL.skip rfl rfl (WL.val (run_pickF rfl) rfl rfl (WL.val run_move rfl rfl (WL.skip rfl rfl (WL.skip rfl rfl ?_)))))))
   refine WL.skip rfl rfl (WL.skip rfl rfl (WL.skip rfl rfl (WL.skip rfl rfl (WL.val (run_pickF rfl) rfl rfl (WL.val run_move rfl rfl (WL.skip rfl rfl (WL.skip rfl rfl ?_)))))))
   refine WL.skip rfl rfl (WL.skip rfl rfl (WL.skip rfl rfl (WL.skip rfl rfl (WL.skip rfl rfl (WL.skip rfl rfl (WL.val (run_pickF rfl) rfl rfl (WL.val run_assign rfl rfl ?_)))))))
   refine WL.nil (W.ret (bodyQ.r1 (v := .bool _) results124 rfl ?_))
   exact ⟨.inr ⟨rfl, by omega⟩, h⟩
  refine WL.val run_move rfl rfl (WL.skip rfl rfl (WL.skip rfl rfl (WL.val (run_pickF rfl) rfl rfl (WL.val run_move rfl rfl (WL.skip rfl rfl (WL.skip rfl rfl (WL.val (run_pickF rfl) rfl rfl ?_)))))))
  refine WL.val run_move rfl rfl (WL.skip rfl rfl (WL.skip rfl rfl (WL.skip rfl rfl (WL.skip rfl rfl (WL.skip rfl rfl (WL.skip rfl rfl (WL.val (run_pickF rfl) rfl rfl ?_)))))))
  refine WL.val run_move rfl rfl (WL.skip rfl rfl (WL.skip rfl rfl (WL.skip rfl rfl (WL.skip rfl rfl (WL.skip rfl rfl (WL.skip rfl rfl (WL.skip rfl rfl ?_)))))))
  refine WL.skip rfl rfl (WL.val (run_pickF rfl) rfl rfl (WL.val run_assign rfl rfl (WL.nil (W.ret (bodyQ.r1 (v := .bool _) results124 rfl ?_)))))
  exact ⟨.inr ⟨rfl, by omega⟩, h⟩
theorem rread14_ok {b p q : Nat} {s : Sp} {pc : PoolK} (hpq : p + q ≤ s.N) (hq : q ≤ 32) (h : On W0 (RSpP 94 b pc s :: PoolC pc :: L) w) : Calls Tryz.prog 125 #[.pointer (some ⟨b, 0, none⟩), .int .i64 (p : Int), .int .i64 (q : Int)] w (Ret fun v w' => ∃ a c, v = .tuple #[.slice a (partS s p q).length c, .int .i64 0] ∧ On W0 (OwnB (.slice a (partS s p q).length c) (partS s p q) :: RSpP 94 b pc s :: PoolC pc :: L) w') := by
  refine enter func125 rfl ntmps125 rfl ?_
  have hmx := maxLen_eq
  have ho := openR h
  obtain ⟨bv, mv, m, hpk, h⟩ := ho
  have hpk2 := hpk
  obtain ⟨hwf, hbv, hmv, hml⟩ := hpk2
  have hwf2 := hwf
  obtain ⟨hw1, hw2, hw3, hw4⟩ := hwf2
  have CB : Gives (PoolC pc :: L) (Bytes bv s.d) := Gives.poolC hbv
  have CM : Gives (PoolC pc :: L) (Bytes mv m) := Gives.poolC hmv
  have fB := (h.readsTo CB).form
  obtain ⟨ab, cb, hb1, hb2, hb3, _⟩ := fB
  have fM := (h.readsTo CM).form
  obtain ⟨am, cm, hm1, hm2, hm3, _⟩ := fM
  subst hb1
  subst hm1
  refine W.seq (W.region (WL.val run_assign rfl rfl (WL.val run_assign rfl rfl (WL.nil (W.seq (W.seq (W.region ?_)))))))
  refine WL.val run_move rfl rfl (WL.val run_move rfl rfl (WL.val run_move rfl rfl (WL.eff (eff_call call124 (rin14_ok (N := s.N) (at_ := p) (n := q) hw3 h)) rfl rfl ?_)))
  rintro _ w ⟨hv, h⟩
  rcases hv with ⟨hv, _⟩ | ⟨_, hno⟩
  rotate_left
  · exact absurd (show _ by omega) hno
  subst hv
  refine WL.val (run_not rfl) rfl rfl (WL.nil (W.condF rfl (W.skip (W.seq ?_))))
  have hcut := cut_bytes (l := p * 8) (h := (p + q) * 8) CB hb2 (by omega) (by omega)
  obtain ⟨a', c', hcut, gC⟩ := hcut
  have epq : (s.d.drop (p * 8)).take ((p + q) * 8 - p * 8) = partS s p q := by unfold partS; rw [Nat.mul_comm p 8, show (p + q) * 8 - 8 * p = 8 * q by omega]
  rw [epq] at hcut gC
  have hpl : (partS s p q).length = 8 * q := by unfold partS; rw [List.length_take, List.length_drop]; omega
  refine W.region (WL.eff (eff_mkSlice (zl := []) (out := []) h underlying22 sizeOf5 zeroValue5 (by decide) (by simp) rfl rfl (by simp) (trivial) rfl rfl (by simp [maxLen])) rfl rfl ?_)
  rintro _ w ⟨b13, rfl, h⟩
  refine WL.val run_move rfl rfl (WL.val (run_nilCheck rfl) rfl rfl (WL.val (run_fieldAddr 1 underlying94 rfl sizeOf22 rfl rfl) rfl rfl (WL.val (run_load1 isAgg22 rfl (h.cellB rfl)) rfl rfl (WL.val run_move rfl rfl (WL.val (run_mulN (m := p) (n := 8) rfl rfl (by omega)) rfl rfl (WL.val run_move rfl rfl (WL.val run_move rfl rfl ?_)))))))
  refine WL.val (run_addN (m := p) (n := q) rfl rfl (by omega)) rfl rfl (WL.val (run_mulN (m := p + q) (n := 8) rfl rfl (by omega)) rfl rfl (WL.val (run_cutLHV (l := p * 8) (h := (p + q) * 8) underlying22 sizeOf5 rfl rfl rfl (by omega) (by omega) hcut) rfl rfl (WL.eff (eff_app0 (bytes := 1) h rfl rfl (h.readsTo (gC)) underlying22 rfl rfl rfl rfl rfl (by omega) (by omega) bytes_one) rfl rfl ?_)))
  rintro _ w ⟨a25, c25, rfl, h⟩
  refine WL.val run_assign rfl rfl (WL.val run_assign rfl rfl (WL.nil (W.ret (bodyQ.r2 (v1 := .slice _ _ _) (v2 := .int .i64 _) results125 rfl rfl ?_))))
  exact ⟨a25, c25, rfl, (closeR (b := b) (s := s) hpk (h.fetch (blk b [.int .i64 (s.N : Int), .slice ab s.d.length cb, .slice am m.length cm] 94))).to⟩
theorem rwrite14_ok {b p : Nat} {s : Sp} {pc : PoolK} {ax : Option Addr} {cx : Nat} {bs : List UInt8} (h8 : bs.length % 8 = 0) (hpq : p + bs.length / 8 ≤ s.N) (hq : bs.length / 8 ≤ 32) (h : On W0 (RSpP 94 b pc s :: PoolC pc :: L) w) (C : Gives L (Bytes (.slice ax bs.length cx) bs)) : Calls Tryz.prog 126 #[.pointer (some ⟨b, 0, none⟩), .int .i64 (p : Int), .slice ax bs.length cx] w (Ret fun v w' => ∃ pc', subK pc pc' ∧ v = .int .i64 0 ∧ On W0 (RSpP 94 b pc' (writeS s p bs) :: PoolC pc' :: L) w') := by
  refine enter func126 rfl ntmps126 rfl ?_
  have hmx := maxLen_eq
  have ho := openR h
  obtain ⟨bv, mv, m, hpk, h⟩ := ho
  have hpk2 := hpk
  obtain ⟨hwf, hbv, hmv, hml⟩ := hpk2
  have hwf2 := hwf
  obtain ⟨hw1, hw2, hw3, hw4⟩ := hwf2
  have CB : Gives (PoolC pc :: L) (Bytes bv s.d) := Gives.poolC hbv
  have CM : Gives (PoolC pc :: L) (Bytes mv m) := Gives.poolC hmv
  have fB := (h.readsTo CB).form
  obtain ⟨ab, cb, hb1, hb2, hb3, _⟩ := fB
  have fM := (h.readsTo CM).form
  obtain ⟨am, cm, hm1, hm2, hm3, _⟩ := fM
  subst hb1
  subst hm1
  have hbb := Cells.bounds (h.readsTo C)
  obtain ⟨hbc, hbm⟩ := hbb
  refine W.seq (W.region (WL.val run_assign rfl rfl (WL.nil (W.seq (W.region (WL.val run_move rfl rfl (WL.val (run_lenSlice underlying22 rfl) rfl rfl ?_)))))))
  refine WL.val (run_quoN (m := bs.length) (n := 8) rfl rfl (by omega) (by omega)) rfl rfl (WL.val run_assign rfl rfl (WL.nil (W.seq (W.seq (W.region (WL.val run_move rfl rfl (WL.val (run_lenSlice underlying22 rfl) rfl rfl ?_)))))))
  refine WL.val (run_remN (m := bs.length) (n := 8) rfl rfl (by omega)) rfl rfl (WL.val (run_neqF rfl rfl (by omega)) rfl rfl (WL.val run_move rfl rfl (WL.val run_move rfl rfl (WL.val run_move rfl rfl (WL.val run_move rfl rfl (WL.eff (eff_call call124 (rin14_ok (N := s.N) (at_ := p) (n := ((bs.length / 8 : Nat) : Int)) hw3 h)) rfl rfl ?_))))))
  rintro _ w ⟨hv, h⟩
  rcases hv with ⟨hv, _⟩ | ⟨_, hno⟩
  rotate_left
  · exact absurd (show _ by omega) hno
  subst hv
  refine WL.val (run_not rfl) rfl rfl (WL.val (run_pickF rfl) rfl rfl (WL.nil (W.condF rfl (W.skip (W.seq (W.region (WL.eff (eff_mkSlice (zl := []) (out := []) h underlying22 sizeOf5 zeroValue5 (by decide) (by simp) rfl rfl (by simp) (trivial) rfl rfl (by simp [maxLen])) rfl rfl ?_)))))))
  rintro _ w ⟨b24, rfl, h⟩
  refine WL.val run_move rfl rfl (WL.val (run_nilCheck rfl) rfl rfl (WL.val (run_fieldAddr 1 underlying94 rfl sizeOf22 rfl rfl) rfl rfl (WL.val (run_load1 isAgg22 rfl (h.cellB rfl)) rfl rfl (WL.eff (eff_app0 (bytes := 1) h rfl rfl (h.readsTo (CB)) underlying22 rfl rfl rfl rfl rfl (by omega) (by omega) bytes_one) rfl rfl ?_))))
  rintro _ w ⟨ax0, cx0, rfl, h⟩
  refine WL.val run_assign rfl rfl (WL.nil (W.seq (W.seq (W.region (WL.val run_assign rfl rfl (WL.nil (W.block ?_)))))))
  refine W.loop (fun (k : Nat) env w => k ≤ bs.length ∧ ∃ j, env = mkE j [(0, .pointer (some ⟨b, 0, none⟩)), (1, .int .i64 (p : Int)), (2, .slice ax bs.length cx), (7, .int .i64 ((bs.length / 8 : Nat) : Int)), (8, .slice ax0 s.d.length cx0), (9, .int .i64 (k : Int))] ∧ On W0 (Own 1 (.slice ax0 s.d.length cx0) s.d.length (bytesV (over s.d (8 * p) (bs.take k))) :: blk b [.int .i64 (s.N : Int), .slice ab s.d.length cb, .slice am m.length cm] 94 :: PoolC pc :: L) w) (fun k => bs.length - k) (0) ?_ ?_
  · have e0 : over s.d (8 * p) (bs.take 0) = s.d := by rw [List.take_zero, over_nil]
    exact ⟨Nat.zero_le _, _, mkE_of ⟨rfl, rfl, rfl, rfl, rfl, rfl, trivial⟩, by rw [e0]; exact h.to⟩
  rintro k env w ⟨hk, j, rfl, h⟩
  refine W.seq (W.seq (W.region (WL.val run_move rfl rfl (WL.val run_move rfl rfl (WL.val (run_lenSlice underlying22 rfl) rfl rfl (WL.val (run_lss rfl rfl) rfl rfl (WL.nil ?_)))))))
  refine W.condIf rfl (fun c12 => ?_) (fun c12 => ?_)
  ·
   refine W.skip (W.seq ?_)
   have hkl : k < bs.length := by omega
   have hx : ∃ x, bs[k]? = some x := ⟨bs[k]'(by omega), by simp⟩
   obtain ⟨x, hx⟩ := hx
   have CC := h.readsTo C
   have ha := CC.addr (by omega)
   obtain ⟨bx, ox, hax⟩ := ha
   subst hax
   have ha := Own.addr h (by omega)
   obtain ⟨bq, oq, hal⟩ := ha
   subst hal
   refine W.block (W.region (WL.val run_move rfl rfl (WL.val run_move rfl rfl (WL.val (run_mulN (m := p) (n := 8) rfl rfl (by omega)) rfl rfl (WL.val run_move rfl rfl (WL.val (run_addN (m := p * 8) (n := k) rfl rfl (by omega)) rfl rfl (WL.val run_move rfl rfl ?_)))))))
   refine WL.val run_move rfl rfl (WL.val (run_indexAddr underlying22 sizeOf5 rfl rfl (by omega) (by omega)) rfl rfl (WL.val (run_load1 isAgg5 rfl ((h.readsTo C).elem (i := k) (vs := [.int .u8 x.toNat]) (by omega) (bytes_row hx) 0 _ rfl)) rfl rfl (WL.val (run_indexAddr underlying22 sizeOf5 rfl rfl (by omega) (by omega)) rfl rfl (WL.eff (eff_storeOwn (k := (p * 8 + k) * 1) (v := .int .u8 (x.toNat : Int)) h sizeOf5 rfl rfl rfl (by omega)) rfl rfl ?_))))
   rintro _ w h
   rw [Nat.mul_one, bytesV_set, Nat.mul_comm p 8, over_step hx (by omega)] at h
   refine WL.nil (W.region (WL.val run_move rfl rfl (WL.val (run_incN rfl rfl (by omega)) rfl rfl (WL.val run_assign rfl rfl (WL.nil ?_)))))
   exact ⟨k + 1, ⟨by omega, _, mkE_of ⟨rfl, rfl, rfl, rfl, rfl, rfl, trivial⟩, h.to⟩, by show bs.length - (k + 1) < bs.length - k; omega⟩
  refine W.exit (W.seq ?_)
  have hke : k = bs.length := by omega
  have eall : over s.d (8 * p) (bs.take k) = (writeS s p bs).d := by rw [hke, List.take_length]; rfl
  rw [eall] at h
  have hdd : (writeS s p bs).d.length = s.d.length := over_length (by omega)
  refine W.region (WL.val run_move rfl rfl (WL.val run_move rfl rfl (WL.val (run_nilCheck rfl) rfl rfl (WL.val (run_fieldAddr 1 underlying94 rfl sizeOf22 rfl rfl) rfl rfl (WL.eff (eff_store (v := .slice ax0 s.d.length cx0) (h.fetch (blk b [.int .i64 (s.N : Int), .slice ab s.d.length cb, .slice am m.length cm] 94)) sizeOf22 rfl rfl rfl rfl rfl) rfl rfl ?_)))))
  rintro _ w h
  have h : On W0 (blk b [.int .i64 (s.N : Int), .slice ax0 s.d.length cx0, .slice am m.length cm] 94 :: _) w := h
  refine WL.nil (W.seq (W.region (WL.val run_move rfl rfl (WL.val run_move rfl rfl (WL.val (run_nilCheck rfl) rfl rfl (WL.val (run_fieldAddr 2 underlying94 rfl sizeOf22 rfl rfl) rfl rfl (WL.val (run_load1 isAgg22 rfl (h.cellB rfl)) rfl rfl ?_)))))))
  refine WL.val run_move rfl rfl (WL.val run_move rfl rfl (WL.eff (eff_call call145 (rput13_ok (bs := m) (p := p) (q := bs.length / 8) (s := true) h (Gives.to CM) (by omega) (by omega) (by omega))) rfl rfl ?_))
  rintro _ w ⟨a58, c58, z58, mm, hmm, rfl, h⟩
  refine WL.val run_move rfl rfl (WL.val (run_extract rfl rfl) rfl rfl (WL.val (run_extract rfl rfl) rfl rfl (WL.val (run_nilCheck rfl) rfl rfl (WL.val (run_fieldAddr 2 underlying94 rfl sizeOf22 rfl rfl) rfl rfl (WL.eff (eff_store (v := .slice a58 mm.length c58) (h.fetch (blk b [.int .i64 (s.N : Int), .slice ax0 s.d.length cx0, .slice am m.length cm] 94)) sizeOf22 rfl rfl rfl rfl rfl) rfl rfl ?_)))))
  rintro _ w h
  have h : On W0 (blk b [.int .i64 (s.N : Int), .slice ax0 s.d.length cx0, .slice a58 mm.length c58] 94 :: _) w := h
  refine WL.nil (W.seq (W.region (WL.val run_assign rfl rfl (WL.nil (W.ret (bodyQ.r1 (v := .int .i64 _) results126 rfl ?_))))))
  have hx := closeR2 (L := L) (T := 94) (s := (writeS s p bs)) (b := b) (pc := pc) (v1 := .slice ax0 s.d.length cx0) (v2 := .slice a58 mm.length c58) (mm := mm) (N := s.N) (xs := bytesV (writeS s p bs).d) (writeS_wf hwf (by omega)) rfl rfl hdd (by omega) h.to
  obtain ⟨pc2, hs2, h⟩ := hx
  exact ⟨pc2, hs2, rfl, h⟩
theorem runmap14_ok {b p q : Nat} {s : Sp} {pc : PoolK} (hpq : p + q ≤ s.N) (hq : q ≤ 32) (h : On W0 (RSpP 94 b pc s :: PoolC pc :: L) w) : Calls Tryz.prog 127 #[.pointer (some ⟨b, 0, none⟩), .int .i64 (p : Int), .int .i64 (q : Int)] w (Ret fun v w' => ∃ pc', subK pc pc' ∧ v = .int .i64 0 ∧ On W0 (RSpP 94 b pc' (unmapS s p q) :: PoolC pc' :: L) w') := by
  refine enter func127 rfl ntmps127 rfl ?_
  have hmx := maxLen_eq
  have ho := openR h
  obtain ⟨bv, mv, m, hpk, h⟩ := ho
  have hpk2 := hpk
  obtain ⟨hwf, hbv, hmv, hml⟩ := hpk2
  have hwf2 := hwf
  obtain ⟨hw1, hw2, hw3, hw4⟩ := hwf2
  have CB : Gives (PoolC pc :: L) (Bytes bv s.d) := Gives.poolC hbv
  have CM : Gives (PoolC pc :: L) (Bytes mv m) := Gives.poolC hmv
  have fB := (h.readsTo CB).form
  obtain ⟨ab, cb, hb1, hb2, hb3, _⟩ := fB
  have fM := (h.readsTo CM).form
  obtain ⟨am, cm, hm1, hm2, hm3, _⟩ := fM
  subst hb1
  subst hm1
  refine W.seq (W.region (WL.val run_assign rfl rfl (WL.nil (W.seq (W.seq (W.region (WL.val run_move rfl rfl ?_)))))))
  refine WL.val run_move rfl rfl (WL.val run_move rfl rfl (WL.eff (eff_call call124 (rin14_ok (N := s.N) (at_ := p) (n := q) hw3 h)) rfl rfl ?_))
  rintro _ w ⟨hv, h⟩
  rcases hv with ⟨hv, _⟩ | ⟨_, hno⟩
  rotate_left
  · exact absurd (show _ by omega) hno
  subst hv
  refine WL.val (run_not rfl) rfl rfl (WL.nil (W.condF rfl (W.skip (W.seq (W.region (WL.eff (eff_mkSlice (zl := []) (out := []) h underlying22 sizeOf5 zeroValue5 (by decide) (by simp) rfl rfl (by simp) (trivial) rfl rfl (by simp [maxLen])) rfl rfl ?_))))))
  rintro _ w ⟨b14, rfl, h⟩
  refine WL.val run_move rfl rfl (WL.val (run_nilCheck rfl) rfl rfl (WL.val (run_fieldAddr 1 underlying94 rfl sizeOf22 rfl rfl) rfl rfl (WL.val (run_load1 isAgg22 rfl (h.cellB rfl)) rfl rfl (WL.eff (eff_app0 (bytes := 1) h rfl rfl (h.readsTo (CB)) underlying22 rfl rfl rfl rfl rfl (by omega) (by omega) bytes_one) rfl rfl ?_))))
  rintro _ w ⟨ax0, cx0, rfl, h⟩
  refine WL.val run_assign rfl rfl (WL.nil (W.seq (W.seq (W.region (WL.val run_move rfl rfl (WL.val (run_mulN (m := p) (n := 8) rfl rfl (by omega)) rfl rfl (WL.val run_assign rfl rfl ?_)))))))
  refine WL.nil (W.block ?_)
  refine W.loop (fun (k : Nat) env w => k ≤ 8 * q ∧ ∃ j, env = mkE j [(0, .pointer (some ⟨b, 0, none⟩)), (1, .int .i64 (p : Int)), (2, .int .i64 (q : Int)), (7, .slice ax0 s.d.length cx0), (8, .int .i64 ((p * 8 + k : Nat) : Int))] ∧ On W0 (Own 1 (.slice ax0 s.d.length cx0) s.d.length (bytesV (over s.d (8 * p) ((List.replicate (8 * q) (0 : UInt8)).take k))) :: blk b [.int .i64 (s.N : Int), .slice ab s.d.length cb, .slice am m.length cm] 94 :: PoolC pc :: L) w) (fun k => 8 * q - k) (0) ?_ ?_
  · have e0 : over s.d (8 * p) ((List.replicate (8 * q) (0 : UInt8)).take 0) = s.d := by rw [List.take_zero, over_nil]
    exact ⟨Nat.zero_le _, _, mkE_of ⟨rfl, rfl, rfl, rfl, rfl, trivial⟩, by rw [e0]; exact h.to⟩
  rintro k env w ⟨hk, j, rfl, h⟩
  refine W.seq (W.seq (W.region (WL.val run_move rfl rfl (WL.val run_move rfl rfl (WL.val run_move rfl rfl (WL.val (run_addN (m := p) (n := q) rfl rfl (by omega)) rfl rfl (WL.val (run_mulN (m := p + q) (n := 8) rfl rfl (by omega)) rfl rfl ?_)))))))
  refine WL.val (run_lss rfl rfl) rfl rfl (WL.nil ?_)
  refine W.condIf rfl (fun c11 => ?_) (fun c11 => ?_)
  ·
   refine W.skip (W.seq ?_)
   have hkl : k < 8 * q := by omega
   have hx : (List.replicate (8 * q) (0 : UInt8))[k]? = some 0 := by rw [List.getElem?_replicate, if_pos hkl]
   have ha := Own.addr h (by omega)
   obtain ⟨bq, oq, hal⟩ := ha
   subst hal
   refine W.block (W.region (WL.val run_move rfl rfl (WL.val run_move rfl rfl (WL.val (run_indexAddr underlying22 sizeOf5 rfl rfl (by omega) (by omega)) rfl rfl (WL.eff (eff_storeOwn (k := (p * 8 + k) * 1) (v := .int .u8 (((0 : UInt8).toNat : Nat) : Int)) h sizeOf5 rfl rfl rfl (by omega)) rfl rfl ?_)))))
   rintro _ w h
   rw [Nat.mul_one, bytesV_set, Nat.mul_comm p 8, over_step hx (by rw [List.length_replicate]; omega)] at h
   refine WL.nil (W.region (WL.val run_move rfl rfl (WL.val (run_incN rfl rfl (by omega)) rfl rfl (WL.val run_assign rfl rfl (WL.nil ?_)))))
   exact ⟨k + 1, ⟨by omega, _, mkE_of ⟨rfl, rfl, rfl, rfl, rfl, trivial⟩, h.to⟩, by show 8 * q - (k + 1) < 8 * q - k; omega⟩
  refine W.exit (W.seq ?_)
  have hke : k = 8 * q := by omega
  have eall : over s.d (8 * p) ((List.replicate (8 * q) (0 : UInt8)).take k) = (unmapS s p q).d := by rw [List.take_of_length_le (by rw [List.length_replicate]; omega)]; rfl
  rw [eall] at h
  have hdd : (unmapS s p q).d.length = s.d.length := over_length (by rw [List.length_replicate]; omega)
  refine W.region (WL.val run_move rfl rfl (WL.val run_move rfl rfl (WL.val (run_nilCheck rfl) rfl rfl (WL.val (run_fieldAddr 1 underlying94 rfl sizeOf22 rfl rfl) rfl rfl (WL.eff (eff_store (v := .slice ax0 s.d.length cx0) (h.fetch (blk b [.int .i64 (s.N : Int), .slice ab s.d.length cb, .slice am m.length cm] 94)) sizeOf22 rfl rfl rfl rfl rfl) rfl rfl ?_)))))
  rintro _ w h
  have h : On W0 (blk b [.int .i64 (s.N : Int), .slice ax0 s.d.length cx0, .slice am m.length cm] 94 :: _) w := h
  refine WL.nil (W.seq (W.region (WL.val run_move rfl rfl (WL.val run_move rfl rfl (WL.val (run_nilCheck rfl) rfl rfl (WL.val (run_fieldAddr 2 underlying94 rfl sizeOf22 rfl rfl) rfl rfl (WL.val (run_load1 isAgg22 rfl (h.cellB rfl)) rfl rfl ?_)))))))
  refine WL.val run_move rfl rfl (WL.val run_move rfl rfl (WL.eff (eff_call call145 (rput13_ok (bs := m) (p := p) (q := q) (s := false) h (Gives.to CM) (by omega) (by omega) (by omega))) rfl rfl ?_))
  rintro _ w ⟨a45, c45, z45, mm, hmm, rfl, h⟩
  refine WL.val run_move rfl rfl (WL.val (run_extract rfl rfl) rfl rfl (WL.val (run_extract rfl rfl) rfl rfl (WL.val (run_nilCheck rfl) rfl rfl (WL.val (run_fieldAddr 2 underlying94 rfl sizeOf22 rfl rfl) rfl rfl (WL.eff (eff_store (v := .slice a45 mm.length c45) (h.fetch (blk b [.int .i64 (s.N : Int), .slice ax0 s.d.length cx0, .slice am m.length cm] 94)) sizeOf22 rfl rfl rfl rfl rfl) rfl rfl ?_)))))
  rintro _ w h
  have h : On W0 (blk b [.int .i64 (s.N : Int), .slice ax0 s.d.length cx0, .slice a45 mm.length c45] 94 :: _) w := h
  refine WL.nil (W.seq (W.region (WL.val run_assign rfl rfl (WL.nil (W.ret (bodyQ.r1 (v := .int .i64 _) results127 rfl ?_))))))
  have hx := closeR2 (L := L) (T := 94) (s := (unmapS s p q)) (b := b) (pc := pc) (v1 := .slice ax0 s.d.length cx0) (v2 := .slice a45 mm.length c45) (mm := mm) (N := s.N) (xs := bytesV (unmapS s p q).d) (unmapS_wf hwf (by omega)) rfl rfl hdd (by omega) h.to
  obtain ⟨pc2, hs2, h⟩ := hx
  exact ⟨pc2, hs2, rfl, h⟩
theorem rcompare14_ok {b p q : Nat} {s : Sp} {pc : PoolK} {ax : Option Addr} {cx : Nat} {bs : List UInt8} (hlq : bs.length = 16 * q) (hpq : p + q ≤ s.N) (hq : q ≤ 32) (h : On W0 (RSpP 94 b pc s :: PoolC pc :: L) w) (C : Gives L (Bytes (.slice ax bs.length cx) bs)) : Calls Tryz.prog 128 #[.pointer (some ⟨b, 0, none⟩), .int .i64 (p : Int), .slice ax bs.length cx] w (Ret fun v w' => (∃ pc', subK pc pc' ∧ partS s p q = bs.take (8 * q) ∧ v = .tuple #[.int .i64 (-1), .int .i64 0] ∧ On W0 (RSpP 94 b pc' (writeS s p (bs.drop (8 * q))) :: PoolC pc' :: L) w') ∨ (∃ i : Nat, i < 8 * q ∧ (partS s p q)[i]? ≠ bs[i]? ∧ (∀ j, j < i → (partS s p q)[j]? = bs[j]?) ∧ v = .tuple #[.int .i64 (i : Int), .int .i64 0] ∧ On W0 (RSpP 94 b pc s :: PoolC pc :: L) w')) := by
  refine enter func128 rfl ntmps128 rfl ?_
  have hmx := maxLen_eq
  have ho := openR h
  obtain ⟨bv, mv, m, hpk, h⟩ := ho
  have hpk2 := hpk
  obtain ⟨hwf, hbv, hmv, hml⟩ := hpk2
  have hwf2 := hwf
  obtain ⟨hw1, hw2, hw3, hw4⟩ := hwf2
  have CB : Gives (PoolC pc :: L) (Bytes bv s.d) := Gives.poolC hbv
  have CM : Gives (PoolC pc :: L) (Bytes mv m) := Gives.poolC hmv
  have fB := (h.readsTo CB).form
  obtain ⟨ab, cb, hb1, hb2, hb3, _⟩ := fB
  have fM := (h.readsTo CM).form
  obtain ⟨am, cm, hm1, hm2, hm3, _⟩ := fM
  subst hb1
  subst hm1
  have hbb := Cells.bounds (h.readsTo C)
  obtain ⟨hbc, hbm⟩ := hbb
  have hq2 : bs.length / 8 / 2 = q := by omega
  have hpl : (partS s p q).length = 8 * q := by unfold partS; rw [List.length_take, List.length_drop]; omega
  refine W.seq (W.region (WL.val run_assign rfl rfl (WL.val run_assign rfl rfl (WL.nil (W.seq (W.region (WL.val run_move rfl rfl ?_)))))))
  refine WL.val (run_lenSlice underlying22 rfl) rfl rfl (WL.val (run_quoN (m := bs.length) (n := 8) rfl rfl (by omega) (by omega)) rfl rfl (WL.val (run_quoN (m := bs.length / 8) (n := 2) rfl rfl (by omega) (by omega)) rfl rfl (WL.val run_assign rfl rfl (WL.nil (W.seq (W.seq (W.region ?_)))))))
  refine WL.val run_move rfl rfl (WL.val (run_lenSlice underlying22 rfl) rfl rfl (WL.val (run_remN (m := bs.length) (n := 16) rfl rfl (by omega)) rfl rfl (WL.val (run_neqF rfl rfl (by omega)) rfl rfl (WL.val run_move rfl rfl (WL.val run_move rfl rfl (WL.val run_move rfl rfl (WL.val run_move rfl rfl ?_)))))))
  refine WL.eff (eff_call call124 (rin14_ok (N := s.N) (at_ := p) (n := ((bs.length / 8 / 2 : Nat) : Int)) hw3 h)) rfl rfl ?_
  rintro _ w ⟨hv, h⟩
  rcases hv with ⟨hv, _⟩ | ⟨_, hno⟩
  rotate_left
  · exact absurd (show _ by omega) hno
  subst hv
  refine WL.val (run_not rfl) rfl rfl (WL.val (run_pickF rfl) rfl rfl (WL.nil (W.condF rfl (W.skip (W.seq (W.seq (W.region ?_)))))))
  refine WL.val run_assign rfl rfl (WL.nil (W.block ?_))
  refine W.loop (fun (k : Nat) env w => k ≤ 8 * q ∧ ∃ j, env = mkE j [(0, .pointer (some ⟨b, 0, none⟩)), (1, .int .i64 (p : Int)), (2, .slice ax bs.length cx), (8, .int .i64 (q : Int)), (9, .int .i64 (k : Int))] ∧ (∀ j, j < k → (partS s p q)[j]? = bs[j]?) ∧ On W0 (blk b [.int .i64 (s.N : Int), .slice ab s.d.length cb, .slice am m.length cm] 94 :: PoolC pc :: L) w) (fun k => 8 * q - k) (0) ?_ ?_
  · exact ⟨Nat.zero_le _, _, mkE_of ⟨rfl, rfl, rfl, (by show Value.int .i64 ((bs.length / 8 / 2 : Nat) : Int) = _; rw [hq2]), rfl, trivial⟩, (fun j hj => by omega), h⟩
  rintro k env w ⟨hk, j, rfl, hsame, h⟩
  refine W.seq (W.seq (W.region (WL.val run_move rfl rfl (WL.val run_move rfl rfl (WL.val (run_mulN (m := q) (n := 8) rfl rfl (by omega)) rfl rfl (WL.val (run_lss rfl rfl) rfl rfl (WL.nil ?_)))))))
  refine W.condIf rfl (fun c11 => ?_) (fun c11 => ?_)
  ·
   refine W.skip (W.seq ?_)
   have hkl : k < 8 * q := by omega
   have hx : ∃ x, (partS s p q)[k]? = some x := ⟨(partS s p q)[k]'(by omega), by simp⟩
   obtain ⟨x, hx⟩ := hx
   have hx2 : s.d[p * 8 + k]? = some x := by
     have hx3 := hx
     unfold partS at hx3
     rw [List.getElem?_take, if_pos hkl, List.getElem?_drop, Nat.mul_comm 8 p] at hx3
     exact hx3
   have hy : ∃ y, bs[k]? = some y := ⟨bs[k]'(by omega), by simp⟩
   obtain ⟨y, hy⟩ := hy
   have CC := h.readsTo C
   have ha := CC.addr (by omega)
   obtain ⟨bx, ox, hax⟩ := ha
   subst hax
   have CC := h.readsTo CB
   have ha := CC.addr (by omega)
   obtain ⟨bq, oq, hal⟩ := ha
   subst hal
   refine W.block (W.seq ?_)
   refine W.draw Tryz.follows h (fun w h => ?_)
   refine WT.pure 0 rfl (by kernel_rfl) (fun w' => run_move) rfl rfl (WT.pure 1 rfl (by kernel_rfl) (fun w' => (run_nilCheck rfl)) rfl rfl (WT.pure 2 rfl (by kernel_rfl) (fun w' => (run_fieldAddr 1 underlying94 rfl sizeOf22 rfl rfl)) rfl rfl (WT.load1 3 rfl (by kernel_rfl) isAgg22 rfl (h.cellB rfl) rfl rfl (WT.pure 4 rfl (by kernel_rfl) (fun w' => run_move) rfl rfl (WT.pure 5 rfl (by kernel_rfl) (fun w' => (run_mulN (m := p) (n := 8) rfl rfl (by omega))) rfl rfl (WT.pure 6 rfl (by kernel_rfl) (fun w' => run_move) rfl rfl (WT.pure 7 rfl (by kernel_rfl) (fun w' => (run_addN (m := p * 8) (n := k) rfl rfl (by omega))) rfl rfl ?_)))))))
   refine WT.pure 8 rfl (by kernel_rfl) (fun w' => (run_indexAddr underlying22 sizeOf5 rfl rfl (by omega) (by omega))) rfl rfl (WT.load1 9 rfl (by kernel_rfl) isAgg5 rfl ((h.readsTo CB).elem (i := p * 8 + k) (vs := [.int .u8 x.toNat]) (by omega) (bytes_row hx2) 0 _ rfl) rfl rfl (WT.pure 10 rfl (by kernel_rfl) (fun w' => run_move) rfl rfl (WT.pure 11 rfl (by kernel_rfl) (fun w' => run_move) rfl rfl (WT.pure 12 rfl (by kernel_rfl) (fun w' => (run_indexAddr underlying22 sizeOf5 rfl rfl (by omega) (by omega))) rfl rfl (WT.load1 13 rfl (by kernel_rfl) isAgg5 rfl ((h.readsTo C).elem (i := k) (vs := [.int .u8 y.toNat]) (by omega) (bytes_row hy) 0 _ rfl) rfl rfl (WT.pure 14 rfl (by kernel_rfl) (fun w' => (run_neq rfl rfl)) rfl rfl (WT.done (by kernel_rfl) ?_)))))))
   refine W.condIf rfl (fun c16 => ?_) (fun c16 => ?_)
   ·
    refine W.seq (W.region (WL.val run_move rfl rfl (WL.val run_assign rfl rfl (WL.val run_assign rfl rfl (WL.nil (W.ret (bodyQ.r2 (v1 := .int .i64 _) (v2 := .int .i64 _) results128 rfl rfl ?_)))))))
    refine .inr ⟨k, hkl, ?_, hsame, rfl, (closeR (b := b) (s := s) hpk (h.fetch (blk b [.int .i64 (s.N : Int), .slice (some ⟨bq, oq, none⟩) s.d.length cb, .slice am m.length cm] 94))).to⟩
    rw [hx, hy]
    intro hh
    simp only [Option.some.injEq] at hh
    subst hh
    exact c16 rfl
   refine W.skip (W.region (WL.val run_move rfl rfl (WL.val (run_incN rfl rfl (by omega)) rfl rfl (WL.val run_assign rfl rfl (WL.nil ?_)))))
   exact ⟨k + 1, ⟨by omega, _, mkE_of ⟨rfl, rfl, rfl, rfl, rfl, trivial⟩, (fun j hj => by
     by_cases hjk : j = k
     · subst hjk; rw [hx, hy]; congr 1; exact UInt8.toNat_inj.1 (by omega)
     · exact hsame j (by omega)), h⟩, by show 8 * q - (k + 1) < 8 * q - k; omega⟩
  refine W.exit (W.seq ?_)
  have hke : k = 8 * q := by omega
  have hall : partS s p q = bs.take (8 * q) := by
    have := prefix_eq (k := 8 * q) (xs := partS s p q) (ys := bs) (fun j hj => hsame j (by omega)) (by omega)
    exact this
  have hcg := cut_gives (k := q * 8) C (by omega) hbc
  obtain ⟨a', c', hcut, CC⟩ := hcg
  rw [Nat.mul_comm q 8] at CC
  rw [show (bs.drop (q * 8)).length = (bs.drop (8 * q)).length by rw [Nat.mul_comm]] at hcut
  have hdl : (bs.drop (8 * q)).length = 8 * q := by rw [List.length_drop]; omega
  refine W.region (WL.val run_move rfl rfl (WL.val run_move rfl rfl (WL.val run_move rfl rfl (WL.val run_move rfl rfl (WL.val (run_mulN (m := q) (n := 8) rfl rfl (by omega)) rfl rfl (WL.val (run_cutLV underlying22 sizeOf5 rfl rfl (by omega) hcut) rfl rfl (WL.eff (eff_call call126 (rwrite14_ok (s := s) (p := p) (bs := bs.drop (8 * q)) (by omega) (by omega) (by omega) ((closeR (b := b) (s := s) hpk (h.fetch (blk b [.int .i64 (s.N : Int), .slice ab s.d.length cb, .slice am m.length cm] 94)))) CC)) rfl rfl ?_)))))))
  rintro _ w ⟨pc2, hs2, rfl, h⟩
  refine WL.nil (W.seq (W.region (WL.val run_assign rfl rfl (WL.val run_assign rfl rfl (WL.nil (W.ret (bodyQ.r2 (v1 := .int .i64 _) (v2 := .int .i64 _) results128 rfl rfl ?_)))))))
  exact .inl ⟨pc2, hs2, hall, rfl, h⟩
theorem rsnew_ok {n : Nat} {pc : PoolK} (hn1 : 1 ≤ n) (hn : n ≤ 1024) (h : On W0 (PoolC pc :: L) w) : Calls Tryz.prog 34 #[.int .i64 (n : Int)] w (Ret fun v w' => ∃ pc' b, subK pc pc' ∧ v = .tuple #[.pointer (some ⟨b, 0, none⟩), .int .i64 0] ∧ On W0 (RSpP 94 b pc' (newS n) :: PoolC pc' :: L) w') := by
  refine enter func34 rfl ntmps34 rfl ?_
  have hmx := maxLen_eq
  refine W.seq (W.region (WL.val run_assign rfl rfl (WL.val run_assign rfl rfl (WL.nil (W.seq (W.seq (W.region ?_)))))))
  refine WL.val run_move rfl rfl (WL.val (run_lssF rfl rfl (by omega)) rfl rfl (WL.val run_move rfl rfl (WL.val run_move rfl rfl (WL.val (run_gtrF rfl rfl (by omega)) rfl rfl (WL.val (run_pickF rfl) rfl rfl (WL.nil (W.condF rfl ?_)))))))
  refine W.skip (W.seq ?_)
  refine W.draw Tryz.follows h (fun w h => ?_)
  refine WT.pure 0 rfl (by kernel_rfl) (fun w' => run_move) rfl rfl (WT.pure 1 rfl (by kernel_rfl) (fun w' => run_move) rfl rfl (WT.pure 2 rfl (by kernel_rfl) (fun w' => (run_mulN (m := n) (n := 8) rfl rfl (by omega))) rfl rfl (WT.pure 4 rfl (by kernel_rfl) (fun w' => run_move) rfl rfl ?_)))
  -- SEVERAL MAY COME UP: [(3, 'make []uint8 t12 t12'), (5, ' gemel/gemelref13.New(t14)')]
  refine WT.two 3 5 (by kernel_rfl) ?_ ?_
  ·
   refine WT.opOf 3 [] rfl (by kernel_rfl) (eff_make (n := n * 8) (bytes := 1) h (by rfl) (by rfl) underlying22 rfl rfl rfl rfl rfl (by omega) (by omega)) rfl rfl ?_
   rintro _ w ⟨b13, rfl, h⟩
   refine ⟨trivial, ?_⟩
   refine WT.eff 5 [] rfl (by kernel_rfl) (by kernel_rfl) (eff_call call79 (rnew13_ok (n := n) (by omega) (by omega) h)) rfl rfl ?_
   rintro _ w ⟨a15, c15, rfl, h⟩
   refine ⟨trivial, ?_⟩
   refine WT.pure 6 rfl (by kernel_rfl) (fun w' => (run_buildS (pl := [(0, 1), (1, 1), (2, 1)]) (out := [.int .i64 _, .slice _ _ _, .slice _ _ _]) underlying94 zeroValue94 (fun w => by kernel_rfl) rfl (⟨⟨_, _, rfl, rfl, by decide⟩, ⟨⟨_, _, rfl, rfl, by decide⟩, ⟨⟨_, _, rfl, rfl, by decide⟩, trivial⟩⟩⟩) rfl)) rfl rfl (WT.eff 7 [] rfl (by kernel_rfl) (by kernel_rfl) (eff_box (v := .agg _) (l := [.int .i64 _, .slice _ _ _, .slice _ _ _]) h rfl rfl) rfl rfl ?_)
   rintro _ w ⟨b17, rfl, h⟩
   refine ⟨trivial, ?_⟩
   refine WT.pure 8 rfl (by kernel_rfl) (fun w' => run_assign) rfl rfl (WT.pure 9 rfl (by kernel_rfl) (fun w' => run_assign) rfl rfl (WT.done (by kernel_rfl) (W.ret (bodyQ.r2 (v1 := .pointer _) (v2 := .int .i64 _) results34 rfl rfl ?_))))
   have eB : List.replicate (n * 8) (Value.int .u8 0) = bytesV (List.replicate (8 * n) 0) := by rw [Nat.mul_comm]; simp [bytesV, byteV]
   have lB : (List.replicate (8 * n) (0 : UInt8)).length = n * 8 := by rw [List.length_replicate, Nat.mul_comm]
   have hx := closeR2 (L := L) (T := 94) (s := newS n) (b := b17) (pc := pc) (v1 := .slice (some ⟨b13, 0, none⟩) (n * 8) (n * 8)) (v2 := .slice a15 (List.replicate ((n + 7) / 8) (0 : UInt8)).length c15) (mm := List.replicate ((n + 7) / 8) 0) (N := n) (xs := List.replicate (n * 8) (Value.int .u8 0)) (newS_wf hn1 hn) rfl eB lB (by rw [List.length_replicate]; omega) h.to
   obtain ⟨pc2, hs2, h⟩ := hx
   exact ⟨pc2, b17, hs2, rfl, h⟩
  refine WT.opOf 5 [] rfl (by kernel_rfl) (eff_call call79 (rnew13_ok (n := n) (by omega) (by omega) h)) rfl rfl ?_
  rintro _ w ⟨a15, c15, rfl, h⟩
  refine ⟨trivial, ?_⟩
  refine WT.eff 3 [] rfl (by kernel_rfl) (by kernel_rfl) (eff_make (n := n * 8) (bytes := 1) h (by rfl) (by rfl) underlying22 rfl rfl rfl rfl rfl (by omega) (by omega)) rfl rfl ?_
  rintro _ w ⟨b13, rfl, h⟩
  refine ⟨trivial, ?_⟩
  refine WT.pure 6 rfl (by kernel_rfl) (fun w' => (run_buildS (pl := [(0, 1), (1, 1), (2, 1)]) (out := [.int .i64 _, .slice _ _ _, .slice _ _ _]) underlying94 zeroValue94 (fun w => by kernel_rfl) rfl (⟨⟨_, _, rfl, rfl, by decide⟩, ⟨⟨_, _, rfl, rfl, by decide⟩, ⟨⟨_, _, rfl, rfl, by decide⟩, trivial⟩⟩⟩) rfl)) rfl rfl (WT.eff 7 [] rfl (by kernel_rfl) (by kernel_rfl) (eff_box (v := .agg _) (l := [.int .i64 _, .slice _ _ _, .slice _ _ _]) h rfl rfl) rfl rfl ?_)
  rintro _ w ⟨b17, rfl, h⟩
  refine ⟨trivial, ?_⟩
  refine WT.pure 8 rfl (by kernel_rfl) (fun w' => run_assign) rfl rfl (WT.pure 9 rfl (by kernel_rfl) (fun w' => run_assign) rfl rfl (WT.done (by kernel_rfl) (W.ret (bodyQ.r2 (v1 := .pointer _) (v2 := .int .i64 _) results34 rfl rfl ?_))))
  have eB : List.replicate (n * 8) (Value.int .u8 0) = bytesV (List.replicate (8 * n) 0) := by rw [Nat.mul_comm]; simp [bytesV, byteV]
  have lB : (List.replicate (8 * n) (0 : UInt8)).length = n * 8 := by rw [List.length_replicate, Nat.mul_comm]
  have hx := closeR2 (L := L) (T := 94) (s := newS n) (b := b17) (pc := pc) (v1 := .slice (some ⟨b13, 0, none⟩) (n * 8) (n * 8)) (v2 := .slice a15 (List.replicate ((n + 7) / 8) (0 : UInt8)).length c15) (mm := List.replicate ((n + 7) / 8) 0) (N := n) (xs := List.replicate (n * 8) (Value.int .u8 0)) (newS_wf hn1 hn) rfl eB lB (by rw [List.length_replicate]; omega) h.to
  obtain ⟨pc2, hs2, h⟩ := hx
  exact ⟨pc2, b17, hs2, rfl, h⟩
end Go.Proofs.YtjbgiingimhnnaaGreat
/-
  The document's unit: reservations: the contracts. Lines of walks printed by a program of the prover's.
-/
namespace Go.Proofs.YtjbgiingimhnnaaGreat
open Go.Proofs.Tryz
open Go Go.Sl Go.Sl.BitM Go.Sl.SpM Go.Sl.RsM Go.Sl.ByM Go.Sl.UnM
set_option linter.unusedVariables false
set_option linter.unusedSimpArgs false
set_option maxHeartbeats 1000000
set_option maxRecDepth 8000
variable {W0 w : World} {L F : List HProp}
theorem told_put {t : Tb} {i : Nat} {x : Int} : (t.put i x).inc.told i = t.told i := by
  unfold Tb.told
  have e1 : (t.put i x).inc.regsB = t.regsB := rfl
  rw [e1]
  split
  · show hostsN (fun j => if j = i then x else t.K j) i (fun _ => true) 8 = _
    unfold hostsN
    refine List.filter_congr fun j hj => ?_
    by_cases e : j = i
    · subst e; simp
    · simp [e]
  · rfl
theorem regs5 {t : Tb} (hty : t.typ ≤ 6) : t.regsB = decide (5 ≤ t.typ) := by
  unfold Tb.regsB
  by_cases h : 5 ≤ t.typ
  · rw [decide_eq_true h]
    rcases (show t.typ = 5 ∨ t.typ = 6 by omega) with e | e <;> rw [e] <;> rfl
  · rw [decide_eq_false h, decide_eq_false (by omega), decide_eq_false (by omega)]; rfl
theorem On.zer0 {t : Tb} {b e : Nat} {l : List Nat} (h : On W0 (blk b t.cells e :: L) w) : On W0 (blk b (zer t (l.take 0)).cells e :: L) w := by rw [List.take_zero, zer_nil]; exact h
theorem goodT_le {t : Tb} (h : goodT t) : t.typ ≤ 6 := by
  rcases h.2 with ⟨_, h2⟩ | ⟨_, _, _, h2⟩
  · omega
  · have := typedB_iff.1 h2; omega
theorem rtnew_ok (h : On W0 L w) : Calls Tryz.prog 35 #[] w (Ret fun v w' => ∃ b, v = .pointer (some ⟨b, 0, none⟩) ∧ On W0 (blk b newT.cells 137 :: L) w') := by
  refine enter func35 rfl ntmps35 rfl (W.seq (W.region (WL.val run_assign rfl rfl (WL.nil (W.seq (W.region (WL.val (run_buildS (pl := [(0, 8), (8, 1), (9, 1), (10, 1)]) (out := [.int .u64 _, .int .u64 _, .int .u64 _, .int .u64 _, .int .u64 _, .int .u64 _, .int .u64 _, .int .u64 _, .int .i64 _, .int .i64 _, .int .u32 _]) underlying137 zeroValue137 (fun w => by kernel_rfl) rfl (⟨⟨_, _, rfl, rfl, by decide⟩, trivial⟩) rfl) rfl rfl ?_)))))))
  refine WL.eff (eff_box (v := .agg _) (l := [.int .u64 _, .int .u64 _, .int .u64 _, .int .u64 _, .int .u64 _, .int .u64 _, .int .u64 _, .int .u64 _, .int .i64 _, .int .i64 _, .int .u32 _]) h rfl rfl) rfl rfl ?_
  rintro _ w ⟨b2, rfl, h⟩
  refine WL.val run_assign rfl rfl (WL.nil (W.ret (bodyQ.r1 (v := .pointer _) results35 rfl ?_)))
  exact ⟨_, rfl, h⟩
theorem rconflict_ok (h : On W0 L w) : Calls Tryz.prog 130 #[] w (Ret fun v w' => v = rep 24 0 0 ∧ On W0 L w') := by
  refine enter func130 rfl ntmps130 rfl (W.seq (W.region (WL.eff (eff_alloc h zeroValue36 rfl) rfl rfl ?_)))
  rintro _ w ⟨b0, rfl, h⟩
  refine WL.nil (W.seq (W.region (WL.val (run_buildS (pl := [(0, 1), (1, 1), (2, 1), (3, 1), (4, 1)]) (out := [.int .i64 _, .int .i64 _, .int .i64 _, .slice _ _ _, .int .i64 _]) underlying36 zeroValue36 (fun w => by kernel_rfl) rfl (⟨⟨_, _, rfl, rfl, by decide⟩, trivial⟩) rfl) rfl rfl (WL.eff (eff_storeW (vs := [.int .i64 _, .int .i64 _, .int .i64 _, .slice _ _ _, .int .i64 _]) h sizeOf36 rfl rfl rfl rfl rfl) rfl rfl ?_))))
  rintro _ w h
  refine WL.nil (W.ret (bodyQ.rcB (vs := [.int .i64 _, .int .i64 _, .int .i64 _, .slice _ _ _, .int .i64 _]) h results130 isAgg36 sizeOf36 rfl rfl rfl ?_))
  exact ⟨rfl, h.tail⟩
theorem rgood_ok (h : On W0 L w) : Calls Tryz.prog 131 #[] w (Ret fun v w' => v = rep 0 0 0 ∧ On W0 L w') := by
  refine enter func131 rfl ntmps131 rfl (W.seq (W.region (WL.eff (eff_alloc h zeroValue36 rfl) rfl rfl ?_)))
  rintro _ w ⟨b0, rfl, h⟩
  refine WL.nil (W.seq (W.region (WL.val (run_buildS (pl := [(0, 1), (1, 1), (2, 1), (3, 1), (4, 1)]) (out := [.int .i64 _, .int .i64 _, .int .i64 _, .slice _ _ _, .int .i64 _]) underlying36 zeroValue36 (fun w => by kernel_rfl) rfl (trivial) rfl) rfl rfl (WL.eff (eff_storeW (vs := [.int .i64 _, .int .i64 _, .int .i64 _, .slice _ _ _, .int .i64 _]) h sizeOf36 rfl rfl rfl rfl rfl) rfl rfl ?_))))
  rintro _ w h
  refine WL.nil (W.ret (bodyQ.rcB (vs := [.int .i64 _, .int .i64 _, .int .i64 _, .slice _ _ _, .int .i64 _]) h results131 isAgg36 sizeOf36 rfl rfl rfl ?_))
  exact ⟨rfl, h.tail⟩
theorem rwrong_ok {y : Int} (h : On W0 L w) : Calls Tryz.prog 129 #[.int .i64 y] w (Ret fun v w' => v = rep 2 5 y ∧ On W0 L w') := by
  refine enter func129 rfl ntmps129 rfl (W.seq (W.region (WL.eff (eff_alloc h zeroValue36 rfl) rfl rfl ?_)))
  rintro _ w ⟨b2, rfl, h⟩
  refine WL.nil (W.seq (W.region (WL.val run_move rfl rfl (WL.val (run_buildS (pl := [(0, 1), (1, 1), (2, 1), (3, 1), (4, 1)]) (out := [.int .i64 _, .int .i64 _, .int .i64 _, .slice _ _ _, .int .i64 _]) underlying36 zeroValue36 (fun w => by kernel_rfl) rfl (⟨⟨_, _, rfl, rfl, by decide⟩, ⟨⟨_, _, rfl, rfl, by decide⟩, ⟨⟨_, _, rfl, rfl, by decide⟩, trivial⟩⟩⟩) rfl) rfl rfl (WL.eff (eff_storeW (vs := [.int .i64 _, .int .i64 _, .int .i64 _, .slice _ _ _, .int .i64 _]) h sizeOf36 rfl rfl rfl rfl rfl) rfl rfl ?_)))))
  rintro _ w h
  refine WL.nil (W.ret (bodyQ.rcB (vs := [.int .i64 _, .int .i64 _, .int .i64 _, .slice _ _ _, .int .i64 _]) h results129 isAgg36 sizeOf36 rfl rfl rfl ?_))
  exact ⟨rfl, h.tail⟩
theorem ris_ok {x : Int} (h : On W0 L w) : Calls Tryz.prog 134 #[.int .i64 x] w (Ret fun v w' => v = .bool (typedB x) ∧ On W0 L w') := by
  refine enter func134 rfl ntmps134 rfl (W.seq (W.region (WL.val run_assign rfl rfl (WL.nil (W.seq (W.region (WL.val run_move rfl rfl ?_)))))))
  refine WL.dec (run_eql rfl rfl) rfl rfl (fun c4 => ?_) (fun c4 => ?_)
  ·
   refine WL.val run_move rfl rfl (WL.skip rfl rfl (WL.skip rfl rfl (WL.val (run_pickT rfl) rfl rfl (WL.val run_move rfl rfl (WL.skip rfl rfl (WL.skip rfl rfl (WL.val (run_pickT rfl) rfl rfl ?_)))))))
   refine WL.val run_move rfl rfl (WL.skip rfl rfl (WL.skip rfl rfl (WL.val (run_pickT rfl) rfl rfl (WL.val run_assign rfl rfl (WL.nil (W.ret (bodyQ.r1 (v := .bool _) results134 rfl ?_)))))))
   exact ⟨by rw [typedB_iff.2 (by omega)], h⟩
  refine WL.val run_move rfl rfl (WL.val run_move rfl rfl ?_)
  refine WL.dec (run_eql rfl rfl) rfl rfl (fun c7 => ?_) (fun c7 => ?_)
  ·
   refine WL.val (run_pickF rfl) rfl rfl (WL.val run_move rfl rfl (WL.skip rfl rfl (WL.skip rfl rfl (WL.val (run_pickT rfl) rfl rfl (WL.val run_move rfl rfl (WL.skip rfl rfl (WL.skip rfl rfl ?_)))))))
   refine WL.val (run_pickT rfl) rfl rfl (WL.val run_assign rfl rfl (WL.nil (W.ret (bodyQ.r1 (v := .bool _) results134 rfl ?_))))
   exact ⟨by rw [typedB_iff.2 (by omega)], h⟩
  refine WL.val (run_pickF rfl) rfl rfl (WL.val run_move rfl rfl (WL.val run_move rfl rfl ?_))
  refine WL.dec (run_eql rfl rfl) rfl rfl (fun c11 => ?_) (fun c11 => ?_)
  ·
   refine WL.val (run_pickF rfl) rfl rfl (WL.val run_move rfl rfl (WL.skip rfl rfl (WL.skip rfl rfl (WL.val (run_pickT rfl) rfl rfl (WL.val run_assign rfl rfl (WL.nil (W.ret ?_)))))))
   refine bodyQ.r1 (v := .bool _) results134 rfl ?_
   exact ⟨by rw [typedB_iff.2 (by omega)], h⟩
  refine WL.val (run_pickF rfl) rfl rfl (WL.val run_move rfl rfl (WL.val run_move rfl rfl ?_))
  refine WL.dec (run_eql rfl rfl) rfl rfl (fun c15 => ?_) (fun c15 => ?_)
  ·
   refine WL.val (run_pickF rfl) rfl rfl (WL.val run_assign rfl rfl (WL.nil (W.ret (bodyQ.r1 (v := .bool _) results134 rfl ?_))))
   exact ⟨by rw [typedB_iff.2 (by omega)], h⟩
  refine WL.val (run_pickF rfl) rfl rfl (WL.val run_assign rfl rfl (WL.nil (W.ret (bodyQ.r1 (v := .bool _) results134 rfl ?_))))
  exact ⟨by rw [typedB_no.2 (by omega)], h⟩
theorem rno_ok {x : Int} (h : On W0 L w) : Calls Tryz.prog 123 #[.int .i64 x] w (Ret fun v w' => ((hostB x = false ∧ v = .bool true) ∨ (hostB x = true ∧ v = .bool false)) ∧ On W0 L w') := by
  refine enter func123 rfl ntmps123 rfl (W.seq (W.region (WL.val run_assign rfl rfl (WL.nil (W.seq (W.region (WL.val run_move rfl rfl ?_)))))))
  refine WL.dec (run_lss rfl rfl) rfl rfl (fun c4 => ?_) (fun c4 => ?_)
  ·
   refine WL.val run_move rfl rfl (WL.skip rfl rfl (WL.skip rfl rfl (WL.val (run_pickT rfl) rfl rfl (WL.val run_assign rfl rfl (WL.nil (W.ret (bodyQ.r1 (v := .bool _) results123 rfl ?_)))))))
   exact ⟨.inl ⟨hostB_no.2 (by omega), rfl⟩, h⟩
  refine WL.val run_move rfl rfl (WL.val run_move rfl rfl ?_)
  refine WL.dec (run_geq rfl rfl) rfl rfl (fun c7 => ?_) (fun c7 => ?_)
  ·
   refine WL.val (run_pickF rfl) rfl rfl (WL.val run_assign rfl rfl (WL.nil (W.ret (bodyQ.r1 (v := .bool _) results123 rfl ?_))))
   exact ⟨.inl ⟨hostB_no.2 (by omega), rfl⟩, h⟩
  refine WL.val (run_pickF rfl) rfl rfl (WL.val run_assign rfl rfl (WL.nil (W.ret (bodyQ.r1 (v := .bool _) results123 rfl ?_))))
  exact ⟨.inr ⟨hostB_iff.2 ⟨by omega, by omega⟩, rfl⟩, h⟩
theorem rothers_ok {b i : Nat} {t : Tb} {code : Int} (h : On W0 (blk b t.cells 137 :: L) w) : Calls Tryz.prog 135 #[.pointer (some ⟨b, 0, none⟩), .int .i64 (i : Int), .int .i64 code] w (Ret fun v w' => ∃ a c, v = .slice a (hostsN t.K i (fun _ => true) 8).length c ∧ On W0 (Own 2 (.slice a (hostsN t.K i (fun _ => true) 8).length c) (hostsN t.K i (fun _ => true) 8).length (notesV code ((hostsN t.K i (fun _ => true) 8))) :: blk b t.cells 137 :: L) w') := by
  refine enter func135 rfl ntmps135 rfl ?_
  have hmx := maxLen_eq
  refine W.seq (W.region (WL.val run_assign rfl rfl (WL.nil (W.seq (W.region (WL.val run_assign rfl rfl (WL.nil ?_)))))))
  refine W.seq (W.seq (W.region (WL.val run_assign rfl rfl (WL.nil (W.block ?_)))))
  refine W.loop (fun (k : Nat) env w => ∃ (j : Env) (a : Option Addr) (c : Nat), env = mkE j [(0, .pointer (some ⟨b, 0, none⟩)), (1, .int .i64 (i : Int)), (2, .int .i64 code), (7, .slice a (hostsN t.K i (fun _ => true) k).length c), (8, .int .i64 (k : Int))] ∧ k ≤ 8 ∧ On W0 (Own 2 (.slice a (hostsN t.K i (fun _ => true) k).length c) (hostsN t.K i (fun _ => true) k).length (notesV code ((hostsN t.K i (fun _ => true) k))) :: blk b t.cells 137 :: L) w) (fun k => 8 - k) (0) ?_ ?_
  · exact ⟨_, none, 0, mkE_of ⟨rfl, rfl, rfl, rfl, rfl, trivial⟩, Nat.zero_le _, h.ownEmpty 2 none⟩
  rintro k env w ⟨j, a, c, rfl, hk, h⟩
  have hlen := hostsN_len t.K i (fun _ => true) k
  refine W.seq (W.seq (W.region (WL.val run_move rfl rfl (WL.val (run_lss rfl rfl) rfl rfl (WL.nil ?_)))))
  refine W.condIf rfl (fun c6 => ?_) (fun c6 => ?_)
  ·
   refine W.skip (W.seq (W.block (W.seq (W.region (WL.val run_move rfl rfl (WL.val run_move rfl rfl ?_))))))
   refine WL.dec (run_neq rfl rfl) rfl rfl (fun c15 => ?_) (fun c15 => ?_)
   ·
    refine WL.val run_move rfl rfl (WL.val run_move rfl rfl (WL.val run_move rfl rfl (WL.val (run_nilCheck rfl) rfl rfl (WL.val (run_fieldAddr 0 underlying137 rfl sizeOf85 rfl rfl) rfl rfl (WL.val (run_indexAddrArr underlying85 sizeOf23 rfl rfl (by omega) (by omega)) rfl rfl (WL.val (run_load1 isAgg23 rfl (h.cellB (cells_at (i := k) (by omega)))) rfl rfl (WL.val (run_neq rfl rfl) rfl rfl ?_)))))))
    refine WL.val (run_pickT rfl) rfl rfl (WL.nil ?_)
    refine W.condIf rfl (fun c11 => ?_) (fun c11 => ?_)
    ·
     refine W.region (WL.val run_move rfl rfl (WL.val run_move rfl rfl (WL.val run_move rfl rfl (WL.val (run_buildS (pl := [(0, 1), (1, 1)]) (out := [.int .i64 _, .int .i64 _]) underlying179 zeroValue179 (fun w => by kernel_rfl) rfl (⟨⟨_, _, rfl, rfl, by decide⟩, ⟨⟨_, _, rfl, rfl, by decide⟩, trivial⟩⟩) rfl) rfl rfl (WL.eff (eff_mkSlice (zl := [.int .i64 0, .int .i64 0]) (out := [.int .i64 _, .int .i64 _]) h underlying141 sizeOf179 zeroValue179 (by decide) (by kernel_rfl) rfl rfl (by simp) (⟨⟨_, _, rfl, rfl, by decide⟩, trivial⟩) rfl rfl (by simp [maxLen])) rfl rfl ?_)))))
     rintro _ w ⟨b29, rfl, h⟩
     refine WL.eff (eff_app (c2 := 1) (bytes := 16) (h.fetch (Own 2 (.slice a (hostsN t.K i (fun _ => true) k).length c) (hostsN t.K i (fun _ => true) k).length (notesV code ((hostsN t.K i (fun _ => true) k))))) rfl rfl (h.cellsO (v := .slice (some ⟨b29, 0, none⟩) 1 1)) underlying141 rfl rfl rfl rfl rfl (by omega) (by omega) (by simp [Value.oneCell'])) rfl rfl ?_
     rintro _ w ⟨a30, c30, rfl, h⟩
     have h : On W0 (Own 2 (.slice a30 ((hostsN t.K i (fun _ => true) k).length + 1) c30) ((hostsN t.K i (fun _ => true) k).length + 1) (notesV code (hostsN t.K i (fun _ => true) k) ++ noteV code k) :: _) w := h
     refine WL.val run_assign rfl rfl (WL.nil (W.region (WL.val run_move rfl rfl (WL.val (run_incN rfl rfl (by omega)) rfl rfl (WL.val run_assign rfl rfl (WL.nil ?_))))))
     have e : (hostsN t.K i (fun _ => true) (k + 1)) = (hostsN t.K i (fun _ => true) k) ++ [k] := by rw [hostsN_succ, if_neg (by rintro (h1 | h1 | h1); exact c15 h1; exact c11 h1; cases h1)]
     have el : ((hostsN t.K i (fun _ => true) (k + 1))).length = ((hostsN t.K i (fun _ => true) k)).length + 1 := by rw [e, List.length_append]; rfl
     exact ⟨k + 1, ⟨_, a30, c30, mkE_of ⟨rfl, rfl, rfl, (by rw [el]; rfl), rfl, trivial⟩, by omega, (by rw [el, e, ← notesV_snoc]; exact h.to)⟩, by show 8 - (k + 1) < 8 - k; omega⟩
    refine W.skip (W.region (WL.val run_move rfl rfl (WL.val (run_incN rfl rfl (by omega)) rfl rfl (WL.val run_assign rfl rfl (WL.nil ?_)))))
    have e : (hostsN t.K i (fun _ => true) (k + 1)) = (hostsN t.K i (fun _ => true) k) := by rw [hostsN_succ, if_pos (.inr (.inl (by omega))), List.append_nil]
    exact ⟨k + 1, ⟨_, a, c, mkE_of ⟨rfl, rfl, rfl, (by rw [e]; rfl), rfl, trivial⟩, by omega, (by rw [e]; exact h.to)⟩, by show 8 - (k + 1) < 8 - k; omega⟩
   refine WL.val run_move rfl rfl (WL.skip rfl rfl (WL.skip rfl rfl (WL.skip rfl rfl (WL.skip rfl rfl (WL.skip rfl rfl (WL.skip rfl rfl (WL.skip rfl rfl ?_)))))))
   refine WL.val (run_pickF rfl) rfl rfl (WL.nil (W.condF rfl (W.skip (W.region (WL.val run_move rfl rfl (WL.val (run_incN rfl rfl (by omega)) rfl rfl (WL.val run_assign rfl rfl ?_)))))))
   refine WL.nil ?_
   have e : (hostsN t.K i (fun _ => true) (k + 1)) = (hostsN t.K i (fun _ => true) k) := by rw [hostsN_succ, if_pos (.inl (by omega)), List.append_nil]
   exact ⟨k + 1, ⟨_, a, c, mkE_of ⟨rfl, rfl, rfl, (by rw [e]; rfl), rfl, trivial⟩, by omega, (by rw [e]; exact h.to)⟩, by show 8 - (k + 1) < 8 - k; omega⟩
  refine W.exit (W.seq (W.region (WL.val run_move rfl rfl (WL.val run_assign rfl rfl (WL.nil (W.ret (bodyQ.r1 (v := .slice _ _ _) results135 rfl ?_)))))))
  have ob_ : k = 8 := by omega
  obtain rfl := ob_
  exact ⟨a, c, rfl, h⟩
theorem rfree_ok {b i : Nat} {t : Tb} (hty : t.typ ≤ 6) (h : On W0 (blk b t.cells 137 :: L) w) : Calls Tryz.prog 132 #[.pointer (some ⟨b, 0, none⟩), .int .i64 (i : Int)] w (Ret fun v w' => ∃ a c, v = .slice a (t.told i).length c ∧ On W0 (Own 2 (.slice a (t.told i).length c) (t.told i).length (notesV 10756 (t.told i)) :: blk b t.freed.cells 137 :: L) w') := by
  refine enter func132 rfl ntmps132 rfl (W.seq (W.region (WL.val run_assign rfl rfl (WL.nil (W.seq (W.region (WL.val run_assign rfl rfl ?_)))))))
  refine WL.nil (W.seq (W.seq (W.region (WL.val run_move rfl rfl (WL.val (run_nilCheck rfl) rfl rfl (WL.val (run_fieldAddr 9 underlying137 rfl sizeOf3 rfl rfl) rfl rfl (WL.val (run_load1 isAgg3 rfl (h.cellB rfl)) rfl rfl ?_)))))))
  refine WL.val (run_geq rfl rfl) rfl rfl (WL.nil ?_)
  refine W.condIf rfl (fun c3 => ?_) (fun c3 => ?_)
  ·
   refine W.region (WL.val run_move rfl rfl (WL.val run_move rfl rfl (WL.eff (eff_call call135 (rothers_ok (i := i) (code := 10756) h)) rfl rfl ?_)))
   rintro _ w ⟨a, c, rfl, h⟩
   have e : t.told i = hostsN t.K i (fun _ => true) 8 := by unfold Tb.told; rw [if_pos (by rw [regs5 hty]; exact decide_eq_true (by omega))]
   rw [← e] at h
   have h := h.fetch (blk b t.cells 137)
   refine WL.val run_assign rfl rfl (WL.nil (W.seq (W.region (WL.val run_move rfl rfl (WL.val (run_nilCheck rfl) rfl rfl (WL.val (run_fieldAddr 8 underlying137 rfl sizeOf3 rfl rfl) rfl rfl (WL.eff (eff_store (v := .int .i64 _) h sizeOf3 rfl rfl rfl rfl rfl) rfl rfl ?_)))))))
   rintro _ w h
   try simp only [Nat.zero_add, Nat.add_zero, List.set_cons_zero, List.set_cons_succ] at h
   refine WL.nil (W.seq (W.region (WL.val run_move rfl rfl (WL.val (run_nilCheck rfl) rfl rfl (WL.val (run_fieldAddr 9 underlying137 rfl sizeOf3 rfl rfl) rfl rfl (WL.eff (eff_store (v := .int .i64 _) h sizeOf3 rfl rfl rfl rfl rfl) rfl rfl ?_))))))
   rintro _ w h
   try simp only [Nat.zero_add, Nat.add_zero, List.set_cons_zero, List.set_cons_succ] at h
   refine WL.nil (W.seq ?_)
   have h : On W0 (blk b t.freed.cells 137 :: _) w := h
   refine W.region (WL.val run_move rfl rfl (WL.val run_assign rfl rfl (WL.nil (W.ret (bodyQ.r1 (v := .slice _ _ _) results132 rfl ?_)))))
   exact ⟨a, c, by rw [e], h.to⟩
  have e : t.told i = [] := by unfold Tb.told; rw [if_neg (by rw [regs5 hty]; simp; omega)]
  refine W.skip (W.seq (W.region (WL.val run_move rfl rfl (WL.val (run_nilCheck rfl) rfl rfl (WL.val (run_fieldAddr 8 underlying137 rfl sizeOf3 rfl rfl) rfl rfl (WL.eff (eff_store (v := .int .i64 _) h sizeOf3 rfl rfl rfl rfl rfl) rfl rfl ?_))))))
  rintro _ w h
  try simp only [Nat.zero_add, Nat.add_zero, List.set_cons_zero, List.set_cons_succ] at h
  refine WL.nil (W.seq (W.region (WL.val run_move rfl rfl (WL.val (run_nilCheck rfl) rfl rfl (WL.val (run_fieldAddr 9 underlying137 rfl sizeOf3 rfl rfl) rfl rfl (WL.eff (eff_store (v := .int .i64 _) h sizeOf3 rfl rfl rfl rfl rfl) rfl rfl ?_))))))
  rintro _ w h
  try simp only [Nat.zero_add, Nat.add_zero, List.set_cons_zero, List.set_cons_succ] at h
  refine WL.nil (W.seq ?_)
  have h : On W0 (blk b t.freed.cells 137 :: _) w := h
  refine W.region (WL.val run_move rfl rfl (WL.val run_assign rfl rfl (WL.nil (W.ret (bodyQ.r1 (v := .slice _ _ _) results132 rfl ?_)))))
  rw [e]
  have h : On W0 (Own 2 (.slice none ([] : List Nat).length 0) ([] : List Nat).length (notesV 10756 []) :: _) w := h.ownEmpty 2 none
  exact ⟨none, 0, rfl, h.to⟩
theorem rnot_ok {b i : Nat} {t : Tb} {key : Int} (hi : i < 8) (h : On W0 (blk b t.cells 137 :: L) w) : Calls Tryz.prog 133 #[.pointer (some ⟨b, 0, none⟩), .int .i64 (i : Int), .int .u64 key] w (Ret fun v w' => ((okKB t i key = false ∧ v = .bool true) ∨ (okKB t i key = true ∧ v = .bool false)) ∧ On W0 (blk b t.cells 137 :: L) w') := by
  refine enter func133 rfl ntmps133 rfl (W.seq (W.region (WL.val run_assign rfl rfl (WL.nil (W.seq (W.region (WL.val run_move rfl rfl ?_)))))))
  refine WL.val run_move rfl rfl (WL.val (run_nilCheck rfl) rfl rfl (WL.val (run_fieldAddr 0 underlying137 rfl sizeOf85 rfl rfl) rfl rfl (WL.val (run_indexAddrArr underlying85 sizeOf23 rfl rfl (by omega) (by omega)) rfl rfl (WL.val (run_load1 isAgg23 rfl (h.cellB (cells_at hi))) rfl rfl ?_))))
  refine WL.dec (run_eql rfl rfl) rfl rfl (fun c13 => ?_) (fun c13 => ?_)
  ·
   refine WL.val run_move rfl rfl (WL.skip rfl rfl (WL.skip rfl rfl (WL.skip rfl rfl (WL.skip rfl rfl (WL.skip rfl rfl (WL.skip rfl rfl (WL.skip rfl rfl ?_)))))))
   refine WL.skip rfl rfl (WL.val (run_pickT rfl) rfl rfl (WL.val run_assign rfl rfl (WL.nil (W.ret (bodyQ.r1 (v := .bool _) results133 rfl ?_)))))
   exact ⟨.inl ⟨by unfold okKB; simp only [decide_eq_true (show t.K i = 0 by omega)]; rfl, rfl⟩, h⟩
  refine WL.val run_move rfl rfl (WL.val run_move rfl rfl (WL.val run_move rfl rfl (WL.val (run_nilCheck rfl) rfl rfl (WL.val (run_fieldAddr 0 underlying137 rfl sizeOf85 rfl rfl) rfl rfl (WL.val (run_indexAddrArr underlying85 sizeOf23 rfl rfl (by omega) (by omega)) rfl rfl (WL.val (run_load1 isAgg23 rfl (h.cellB (cells_at hi))) rfl rfl (WL.val run_move rfl rfl ?_)))))))
  refine WL.dec (run_neq rfl rfl) rfl rfl (fun c22 => ?_) (fun c22 => ?_)
  ·
   refine WL.val (run_pickF rfl) rfl rfl (WL.val run_assign rfl rfl (WL.nil (W.ret (bodyQ.r1 (v := .bool _) results133 rfl ?_))))
   exact ⟨.inl ⟨by unfold okKB; rw [decide_eq_false (show ¬ t.K i = key by omega), Bool.and_false], rfl⟩, h⟩
  refine WL.val (run_pickF rfl) rfl rfl (WL.val run_assign rfl rfl (WL.nil (W.ret (bodyQ.r1 (v := .bool _) results133 rfl ?_))))
  exact ⟨.inr ⟨by unfold okKB; rw [decide_eq_false (show ¬ t.K i = 0 by omega), decide_eq_true (show t.K i = key by omega)]; rfl, rfl⟩, h⟩
theorem rregister_ok {b i : Nat} {t : Tb} {key fresh : Int} {ign : Bool} (hi : i < 8) (hty6 : t.typ ≤ 6) (h : On W0 (blk b t.cells 137 :: L) w) : Calls Tryz.prog 88 #[.pointer (some ⟨b, 0, none⟩), .int .i64 (i : Int), .int .u64 key, .int .u64 fresh, .bool ign] w (Ret fun v w' => ∃ a c, v = .tuple #[(regF t i key fresh ign).r.val (.slice none 0 0), .slice a (regF t i key fresh ign).l.length c] ∧ On W0 (Own 2 (.slice a (regF t i key fresh ign).l.length c) (regF t i key fresh ign).l.length (notesV (regF t i key fresh ign).code ((regF t i key fresh ign).l)) :: blk b (regF t i key fresh ign).t.cells 137 :: L) w') := by
  refine enter func88 rfl ntmps88 rfl (W.seq (W.region (WL.eff (eff_alloc h zeroValue36 rfl) rfl rfl ?_)))
  rintro _ w ⟨b10, rfl, h⟩
  refine WL.val run_assign rfl rfl (WL.nil (W.seq (W.seq (W.region (WL.val run_move rfl rfl (WL.eff (eff_call call123 (rno_ok h)) rfl rfl ?_))))))
  rintro _ w ⟨hv, h⟩
  rcases hv with ⟨hb_, _⟩ | ⟨_, hv⟩
  · rw [hostB_iff.2 ⟨by omega, by omega⟩] at hb_; cases hb_
  subst hv
  refine WL.nil (W.condF rfl (W.skip (W.seq (W.seq (W.region (WL.val run_move rfl rfl ?_))))))
  refine WL.boolB (run_not rfl) rfl rfl (fun c16 => ?_) (fun c16 => ?_)
  ·
   refine WL.val run_move rfl rfl (WL.val run_move rfl rfl (WL.val run_move rfl rfl (WL.val (run_nilCheck rfl) rfl rfl (WL.val (run_fieldAddr 0 underlying137 rfl sizeOf85 rfl rfl) rfl rfl (WL.val (run_indexAddrArr underlying85 sizeOf23 rfl rfl (by omega) (by omega)) rfl rfl (WL.val (run_load1 isAgg23 rfl (h.cellB (cells_at hi))) rfl rfl (WL.val run_move rfl rfl ?_)))))))
   refine WL.val (run_neq rfl rfl) rfl rfl (WL.val (run_pickT rfl) rfl rfl (WL.nil ?_))
   refine W.condIf rfl (fun c7 => ?_) (fun c7 => ?_)
   ·
    refine W.seq (W.region (WL.eff (eff_call call130 (rconflict_ok h)) rfl rfl ?_))
    rintro _ w ⟨rfl, h⟩
    refine WL.eff (eff_storeW (vs := [.int .i64 _, .int .i64 _, .int .i64 _, .slice _ _ _, .int .i64 _]) h sizeOf36 rfl rfl rfl rfl rfl) rfl rfl ?_
    rintro _ w h
    refine WL.val run_assign rfl rfl (WL.nil (W.ret (bodyQ.rctB (vs := [.int .i64 _, .int .i64 _, .int .i64 _, .slice _ _ _, .int .i64 _]) (v2 := .slice _ _ _) h results88 isAgg36 sizeOf36 rfl rfl rfl rfl ?_)))
    have h : On W0 (Own 2 (.slice none 0 0) 0 (notesV 0 []) :: _) w := h.ownEmpty 2 none
    have e : regF t i key fresh ign = ⟨t, plain 24 0 0, [], 0⟩ := by unfold regF; rw [if_neg (by rintro (hx | hx); rw [hx] at c16; cases c16; exact c7 hx.symm)]
    rw [e]
    dsimp only
    exact ⟨none, 0, rfl, h.to⟩
   refine W.skip (W.seq (W.region (WL.val run_move rfl rfl (WL.val run_move rfl rfl (WL.val run_move rfl rfl (WL.val (run_nilCheck rfl) rfl rfl (WL.val (run_fieldAddr 0 underlying137 rfl sizeOf85 rfl rfl) rfl rfl ?_)))))))
   refine WL.val (run_indexAddrArr underlying85 sizeOf23 rfl rfl (by omega) (by omega)) rfl rfl (WL.eff (eff_store (v := .int .u64 _) h sizeOf23 rfl rfl rfl (cells_lt hi) (free0 _)) rfl rfl ?_)
   rintro _ w h
   rw [cells_set hi] at h
   refine WL.nil (W.seq (W.region (WL.val run_move rfl rfl (WL.val (run_nilCheck rfl) rfl rfl (WL.val (run_fieldAddr 10 underlying137 rfl sizeOf111 rfl rfl) rfl rfl (WL.val (run_load1 isAgg111 rfl (h.cellB rfl)) rfl rfl (WL.val (run_addW rfl rfl) rfl rfl ?_)))))))
   refine WL.val (run_nilCheck rfl) rfl rfl (WL.val (run_fieldAddr 10 underlying137 rfl sizeOf111 rfl rfl) rfl rfl (WL.eff (eff_store (v := .int .u32 _) h sizeOf111 rfl rfl rfl rfl rfl) rfl rfl ?_))
   rintro _ w h
   try simp only [Nat.zero_add, Nat.add_zero, List.set_cons_zero, List.set_cons_succ] at h
   refine WL.nil (W.seq (W.seq ?_))
   have h := h.fetch (blk b ((t.put i fresh).cells.set (0 + 10) (.int .u32 (IntKind.u32.wrap ((t.put i fresh).gen + 1)))) 137)
   have h : On W0 (blk b (t.put i fresh).inc.cells 137 :: _) w := h
   refine W.region (WL.val run_move rfl rfl ?_)
   refine WL.dec (run_eql rfl rfl) rfl rfl (fun c42 => ?_) (fun c42 => ?_)
   ·
    refine WL.val run_move rfl rfl (WL.val run_move rfl rfl (WL.val (run_nilCheck rfl) rfl rfl (WL.val (run_fieldAddr 8 underlying137 rfl sizeOf3 rfl rfl) rfl rfl (WL.val (run_load1 isAgg3 rfl (h.cellB rfl)) rfl rfl (WL.val run_move rfl rfl (WL.val (run_eql rfl rfl) rfl rfl (WL.val (run_pickT rfl) rfl rfl ?_)))))))
    refine WL.nil ?_
    refine W.condIf rfl (fun c14 => ?_) (fun c14 => ?_)
    ·
     refine W.seq (W.region (WL.eff (eff_call call131 (rgood_ok h)) rfl rfl ?_))
     rintro _ w ⟨rfl, h⟩
     refine WL.val run_move rfl rfl (WL.val run_move rfl rfl (WL.eff (eff_call call132 (rfree_ok (i := i) (t := (t.put i fresh).inc) (show t.typ ≤ 6 from hty6) (h.fetch (blk b (t.put i fresh).inc.cells 137)))) rfl rfl ?_))
     rintro _ w ⟨ad, cd, hv, h⟩
     rw [told_put] at hv h
     subst hv
     have h : On W0 (Own 2 (.slice ad (t.told i).length cd) (t.told i).length (notesV 10756 (t.told i)) :: blk b (t.inc.freed.put i fresh).cells 137 :: _) w := h
     refine WL.eff (eff_storeW (vs := [.int .i64 _, .int .i64 _, .int .i64 _, .slice _ _ _, .int .i64 _]) h sizeOf36 rfl rfl rfl rfl rfl) rfl rfl ?_
     rintro _ w h
     refine WL.val run_assign rfl rfl (WL.nil (W.ret (bodyQ.rctB (vs := [.int .i64 _, .int .i64 _, .int .i64 _, .slice _ _ _, .int .i64 _]) (v2 := .slice _ _ _) h results88 isAgg36 sizeOf36 rfl rfl rfl rfl ?_)))
     have e1 : regO t i fresh = (t.told i, t.inc.freed.put i fresh) := by unfold regO; rw [if_pos ⟨by omega, c14⟩]
     have e : regF t i key fresh ign = ⟨t.inc.freed.put i fresh, plain 0 0 0, t.told i, 10756⟩ := by unfold regF; rw [if_pos (.inr (by omega)), e1]
     rw [e]
     dsimp only
     exact ⟨ad, cd, rfl, h.to⟩
    refine W.skip (W.seq (W.region (WL.eff (eff_call call131 (rgood_ok h)) rfl rfl ?_)))
    rintro _ w ⟨rfl, h⟩
    refine WL.eff (eff_storeW (vs := [.int .i64 _, .int .i64 _, .int .i64 _, .slice _ _ _, .int .i64 _]) h sizeOf36 rfl rfl rfl rfl rfl) rfl rfl ?_
    rintro _ w h
    refine WL.val run_assign rfl rfl (WL.nil (W.ret (bodyQ.rctB (vs := [.int .i64 _, .int .i64 _, .int .i64 _, .slice _ _ _, .int .i64 _]) (v2 := .slice _ _ _) h results88 isAgg36 sizeOf36 rfl rfl rfl rfl ?_)))
    have e1 : regO t i fresh = ([], t.inc.put i fresh) := by unfold regO; rw [if_neg (fun hh => c14 hh.2)]
    have h := h.fetch (blk b (t.put i fresh).inc.cells 137)
    have h : On W0 (blk b (t.inc.put i fresh).cells 137 :: _) w := h
    have h : On W0 (Own 2 (.slice none 0 0) 0 (notesV 10756 []) :: _) w := h.ownEmpty 2 none
    have e : regF t i key fresh ign = ⟨t.inc.put i fresh, plain 0 0 0, [], 10756⟩ := by unfold regF; rw [if_pos (.inr (by omega)), e1]
    rw [e]
    dsimp only
    exact ⟨none, 0, rfl, h.to⟩
   refine WL.val run_move rfl rfl (WL.skip rfl rfl (WL.skip rfl rfl (WL.skip rfl rfl (WL.skip rfl rfl (WL.skip rfl rfl (WL.skip rfl rfl (WL.val (run_pickF rfl) rfl rfl ?_)))))))
   refine WL.nil (W.condF rfl (W.skip (W.seq (W.region (WL.eff (eff_call call131 (rgood_ok h)) rfl rfl ?_)))))
   rintro _ w ⟨rfl, h⟩
   refine WL.eff (eff_storeW (vs := [.int .i64 _, .int .i64 _, .int .i64 _, .slice _ _ _, .int .i64 _]) h sizeOf36 rfl rfl rfl rfl rfl) rfl rfl ?_
   rintro _ w h
   refine WL.val run_assign rfl rfl (WL.nil (W.ret (bodyQ.rctB (vs := [.int .i64 _, .int .i64 _, .int .i64 _, .slice _ _ _, .int .i64 _]) (v2 := .slice _ _ _) h results88 isAgg36 sizeOf36 rfl rfl rfl rfl ?_)))
   have e1 : regO t i fresh = ([], t.inc.put i fresh) := by unfold regO; rw [if_neg (fun hh => c42 hh.1)]
   have h := h.fetch (blk b (t.put i fresh).inc.cells 137)
   have h : On W0 (blk b (t.inc.put i fresh).cells 137 :: _) w := h
   have h : On W0 (Own 2 (.slice none 0 0) 0 (notesV 10756 []) :: _) w := h.ownEmpty 2 none
   have e : regF t i key fresh ign = ⟨t.inc.put i fresh, plain 0 0 0, [], 10756⟩ := by unfold regF; rw [if_pos (.inr (by omega)), e1]
   rw [e]
   dsimp only
   exact ⟨none, 0, rfl, h.to⟩
  refine WL.val run_move rfl rfl (WL.skip rfl rfl (WL.skip rfl rfl (WL.skip rfl rfl (WL.skip rfl rfl (WL.skip rfl rfl (WL.skip rfl rfl (WL.skip rfl rfl ?_)))))))
  refine WL.skip rfl rfl (WL.val (run_pickF rfl) rfl rfl (WL.nil (W.condF rfl (W.skip (W.seq (W.region (WL.val run_move rfl rfl ?_)))))))
  refine WL.val run_move rfl rfl (WL.val run_move rfl rfl (WL.val (run_nilCheck rfl) rfl rfl (WL.val (run_fieldAddr 0 underlying137 rfl sizeOf85 rfl rfl) rfl rfl (WL.val (run_indexAddrArr underlying85 sizeOf23 rfl rfl (by omega) (by omega)) rfl rfl (WL.eff (eff_store (v := .int .u64 _) h sizeOf23 rfl rfl rfl (cells_lt hi) (free0 _)) rfl rfl ?_)))))
  rintro _ w h
  rw [cells_set hi] at h
  refine WL.nil (W.seq (W.region (WL.val run_move rfl rfl (WL.val (run_nilCheck rfl) rfl rfl (WL.val (run_fieldAddr 10 underlying137 rfl sizeOf111 rfl rfl) rfl rfl (WL.val (run_load1 isAgg111 rfl (h.cellB rfl)) rfl rfl (WL.val (run_addW rfl rfl) rfl rfl ?_)))))))
  refine WL.val (run_nilCheck rfl) rfl rfl (WL.val (run_fieldAddr 10 underlying137 rfl sizeOf111 rfl rfl) rfl rfl (WL.eff (eff_store (v := .int .u32 _) h sizeOf111 rfl rfl rfl rfl rfl) rfl rfl ?_))
  rintro _ w h
  try simp only [Nat.zero_add, Nat.add_zero, List.set_cons_zero, List.set_cons_succ] at h
  refine WL.nil (W.seq (W.seq ?_))
  have h := h.fetch (blk b ((t.put i fresh).cells.set (0 + 10) (.int .u32 (IntKind.u32.wrap ((t.put i fresh).gen + 1)))) 137)
  have h : On W0 (blk b (t.put i fresh).inc.cells 137 :: _) w := h
  refine W.region (WL.val run_move rfl rfl ?_)
  refine WL.dec (run_eql rfl rfl) rfl rfl (fun c42 => ?_) (fun c42 => ?_)
  ·
   refine WL.val run_move rfl rfl (WL.val run_move rfl rfl (WL.val (run_nilCheck rfl) rfl rfl (WL.val (run_fieldAddr 8 underlying137 rfl sizeOf3 rfl rfl) rfl rfl (WL.val (run_load1 isAgg3 rfl (h.cellB rfl)) rfl rfl (WL.val run_move rfl rfl (WL.val (run_eql rfl rfl) rfl rfl (WL.val (run_pickT rfl) rfl rfl ?_)))))))
   refine WL.nil ?_
   refine W.condIf rfl (fun c14 => ?_) (fun c14 => ?_)
   ·
    refine W.seq (W.region (WL.eff (eff_call call131 (rgood_ok h)) rfl rfl ?_))
    rintro _ w ⟨rfl, h⟩
    refine WL.val run_move rfl rfl (WL.val run_move rfl rfl (WL.eff (eff_call call132 (rfree_ok (i := i) (t := (t.put i fresh).inc) (show t.typ ≤ 6 from hty6) (h.fetch (blk b (t.put i fresh).inc.cells 137)))) rfl rfl ?_))
    rintro _ w ⟨ad, cd, hv, h⟩
    rw [told_put] at hv h
    subst hv
    have h : On W0 (Own 2 (.slice ad (t.told i).length cd) (t.told i).length (notesV 10756 (t.told i)) :: blk b (t.inc.freed.put i fresh).cells 137 :: _) w := h
    refine WL.eff (eff_storeW (vs := [.int .i64 _, .int .i64 _, .int .i64 _, .slice _ _ _, .int .i64 _]) h sizeOf36 rfl rfl rfl rfl rfl) rfl rfl ?_
    rintro _ w h
    refine WL.val run_assign rfl rfl (WL.nil (W.ret (bodyQ.rctB (vs := [.int .i64 _, .int .i64 _, .int .i64 _, .slice _ _ _, .int .i64 _]) (v2 := .slice _ _ _) h results88 isAgg36 sizeOf36 rfl rfl rfl rfl ?_)))
    have e1 : regO t i fresh = (t.told i, t.inc.freed.put i fresh) := by unfold regO; rw [if_pos ⟨by omega, c14⟩]
    have e : regF t i key fresh ign = ⟨t.inc.freed.put i fresh, plain 0 0 0, t.told i, 10756⟩ := by unfold regF; rw [if_pos (.inl (by simpa using c16)), e1]
    rw [e]
    dsimp only
    exact ⟨ad, cd, rfl, h.to⟩
   refine W.skip (W.seq (W.region (WL.eff (eff_call call131 (rgood_ok h)) rfl rfl ?_)))
   rintro _ w ⟨rfl, h⟩
   refine WL.eff (eff_storeW (vs := [.int .i64 _, .int .i64 _, .int .i64 _, .slice _ _ _, .int .i64 _]) h sizeOf36 rfl rfl rfl rfl rfl) rfl rfl ?_
   rintro _ w h
   refine WL.val run_assign rfl rfl (WL.nil (W.ret (bodyQ.rctB (vs := [.int .i64 _, .int .i64 _, .int .i64 _, .slice _ _ _, .int .i64 _]) (v2 := .slice _ _ _) h results88 isAgg36 sizeOf36 rfl rfl rfl rfl ?_)))
   have e1 : regO t i fresh = ([], t.inc.put i fresh) := by unfold regO; rw [if_neg (fun hh => c14 hh.2)]
   have h := h.fetch (blk b (t.put i fresh).inc.cells 137)
   have h : On W0 (blk b (t.inc.put i fresh).cells 137 :: _) w := h
   have h : On W0 (Own 2 (.slice none 0 0) 0 (notesV 10756 []) :: _) w := h.ownEmpty 2 none
   have e : regF t i key fresh ign = ⟨t.inc.put i fresh, plain 0 0 0, [], 10756⟩ := by unfold regF; rw [if_pos (.inl (by simpa using c16)), e1]
   rw [e]
   dsimp only
   exact ⟨none, 0, rfl, h.to⟩
  refine WL.val run_move rfl rfl (WL.skip rfl rfl (WL.skip rfl rfl (WL.skip rfl rfl (WL.skip rfl rfl (WL.skip rfl rfl (WL.skip rfl rfl (WL.val (run_pickF rfl) rfl rfl ?_)))))))
  refine WL.nil (W.condF rfl (W.skip (W.seq (W.region (WL.eff (eff_call call131 (rgood_ok h)) rfl rfl ?_)))))
  rintro _ w ⟨rfl, h⟩
  refine WL.eff (eff_storeW (vs := [.int .i64 _, .int .i64 _, .int .i64 _, .slice _ _ _, .int .i64 _]) h sizeOf36 rfl rfl rfl rfl rfl) rfl rfl ?_
  rintro _ w h
  refine WL.val run_assign rfl rfl (WL.nil (W.ret (bodyQ.rctB (vs := [.int .i64 _, .int .i64 _, .int .i64 _, .slice _ _ _, .int .i64 _]) (v2 := .slice _ _ _) h results88 isAgg36 sizeOf36 rfl rfl rfl rfl ?_)))
  have e1 : regO t i fresh = ([], t.inc.put i fresh) := by unfold regO; rw [if_neg (fun hh => c42 hh.1)]
  have h := h.fetch (blk b (t.put i fresh).inc.cells 137)
  have h : On W0 (blk b (t.inc.put i fresh).cells 137 :: _) w := h
  have h : On W0 (Own 2 (.slice none 0 0) 0 (notesV 10756 []) :: _) w := h.ownEmpty 2 none
  have e : regF t i key fresh ign = ⟨t.inc.put i fresh, plain 0 0 0, [], 10756⟩ := by unfold regF; rw [if_pos (.inl (by simpa using c16)), e1]
  rw [e]
  dsimp only
  exact ⟨none, 0, rfl, h.to⟩
theorem rreserve_ok {b i : Nat} {t : Tb} {key typ : Int} (hi : i < 8) (hI : t.hold = -1 ∨ (0 ≤ t.hold ∧ t.hold < 8)) (h : On W0 (blk b t.cells 137 :: L) w) : Calls Tryz.prog 90 #[.pointer (some ⟨b, 0, none⟩), .int .i64 (i : Int), .int .u64 key, .int .i64 typ] w (Ret fun v w' => v = (rsvF t i key typ).r.val (.slice none 0 0) ∧ On W0 (blk b (rsvF t i key typ).t.cells 137 :: L) w') := by
  refine enter func90 rfl ntmps90 rfl (W.seq (W.region (WL.eff (eff_alloc h zeroValue36 rfl) rfl rfl ?_)))
  rintro _ w ⟨b8, rfl, h⟩
  refine WL.nil (W.seq (W.block (W.seq (W.region (WL.val run_move rfl rfl (WL.eff (eff_call call123 (rno_ok h)) rfl rfl ?_))))))
  rintro _ w ⟨hv, h⟩
  rcases hv with ⟨hb_, _⟩ | ⟨_, hv⟩
  · rw [hostB_iff.2 ⟨by omega, by omega⟩] at hb_; cases hb_
  subst hv
  refine WL.val run_assign rfl rfl (WL.nil (W.condF rfl (W.seq (W.region (WL.val run_move rfl rfl (WL.val run_move rfl rfl (WL.val run_move rfl rfl ?_)))))))
  refine WL.eff (eff_call call133 (rnot_ok (key := key) hi (h.fetch (blk b t.cells 137)))) rfl rfl ?_
  rintro _ w ⟨hv, h⟩
  rcases hv with ⟨hok, hv⟩ | ⟨hok, hv⟩ <;> subst hv
  ·
   refine WL.val run_assign rfl rfl (WL.nil (W.condT rfl (W.seq (W.region (WL.eff (eff_call call130 (rconflict_ok h)) rfl rfl ?_)))))
   rintro _ w ⟨rfl, h⟩
   refine WL.eff (eff_storeW (vs := [.int .i64 _, .int .i64 _, .int .i64 _, .slice _ _ _, .int .i64 _]) h sizeOf36 rfl rfl rfl rfl rfl) rfl rfl ?_
   rintro _ w h
   refine WL.nil (W.ret (bodyQ.rcB (vs := [.int .i64 _, .int .i64 _, .int .i64 _, .slice _ _ _, .int .i64 _]) h results90 isAgg36 sizeOf36 rfl rfl rfl ?_))
   have e : rsvF t i key typ = ⟨t, plain 24 0 0, [], 0⟩ := by unfold rsvF; rw [if_pos hok]
   rw [e]
   dsimp only
   exact ⟨rfl, h.to⟩
  refine WL.val run_assign rfl rfl (WL.nil (W.condF rfl (W.seq (W.region (WL.val run_move rfl rfl (WL.eff (eff_call call134 (ris_ok h)) rfl rfl ?_))))))
  rintro _ w ⟨hv, h⟩
  have hcs := Bool.eq_false_or_eq_true (typedB typ)
  rcases hcs with hty | hty <;> (rw [hty] at hv; subst hv)
  ·
   refine WL.val (run_not rfl) rfl rfl (WL.val run_assign rfl rfl (WL.nil (W.condF rfl (W.seq (W.region (WL.val run_move rfl rfl (WL.val (run_nilCheck rfl) rfl rfl ?_)))))))
   refine WL.val (run_fieldAddr 8 underlying137 rfl sizeOf3 rfl rfl) rfl rfl (WL.val (run_load1 isAgg3 rfl (h.cellB rfl)) rfl rfl (WL.val (run_lss rfl rfl) rfl rfl (WL.val run_assign rfl rfl (WL.nil ?_))))
   refine W.condIf rfl (fun c15 => ?_) (fun c15 => ?_)
   ·
    refine W.seq (W.region (WL.val run_move rfl rfl (WL.val run_move rfl rfl (WL.val (run_nilCheck rfl) rfl rfl (WL.val (run_fieldAddr 8 underlying137 rfl sizeOf3 rfl rfl) rfl rfl (WL.eff (eff_store (v := .int .i64 _) h sizeOf3 rfl rfl rfl rfl rfl) rfl rfl ?_))))))
    rintro _ w h
    try simp only [Nat.zero_add, Nat.add_zero, List.set_cons_zero, List.set_cons_succ] at h
    refine WL.nil (W.seq (W.region (WL.val run_move rfl rfl (WL.val run_move rfl rfl (WL.val (run_nilCheck rfl) rfl rfl (WL.val (run_fieldAddr 9 underlying137 rfl sizeOf3 rfl rfl) rfl rfl (WL.eff (eff_store (v := .int .i64 _) h sizeOf3 rfl rfl rfl rfl rfl) rfl rfl ?_)))))))
    rintro _ w h
    try simp only [Nat.zero_add, Nat.add_zero, List.set_cons_zero, List.set_cons_succ] at h
    refine WL.nil (W.seq ?_)
    have h := h.fetch (blk b ((t.cells.set (0 + 8) (.int .i64 (i : Int))).set (0 + 9) (.int .i64 typ)) 137)
    have h : On W0 (blk b (t.take i typ).cells 137 :: _) w := h
    refine W.region (WL.eff (eff_call call131 (rgood_ok h)) rfl rfl ?_)
    rintro _ w ⟨rfl, h⟩
    refine WL.eff (eff_storeW (vs := [.int .i64 _, .int .i64 _, .int .i64 _, .slice _ _ _, .int .i64 _]) h sizeOf36 rfl rfl rfl rfl rfl) rfl rfl ?_
    rintro _ w h
    refine WL.nil (W.ret (bodyQ.rcB (vs := [.int .i64 _, .int .i64 _, .int .i64 _, .slice _ _ _, .int .i64 _]) h results90 isAgg36 sizeOf36 rfl rfl rfl ?_))
    have e : rsvF t i key typ = ⟨t.take i typ, plain 0 0 0, [], 0⟩ := by unfold rsvF; rw [if_neg (by rw [hok]; decide), if_neg (by rw [hty]; decide), if_pos (show t.hold = -1 by omega)]
    rw [e]
    dsimp only
    exact ⟨rfl, h.to⟩
   refine W.seq (W.region (WL.val run_move rfl rfl (WL.val (run_nilCheck rfl) rfl rfl (WL.val (run_fieldAddr 8 underlying137 rfl sizeOf3 rfl rfl) rfl rfl (WL.val (run_load1 isAgg3 rfl (h.cellB rfl)) rfl rfl (WL.val run_move rfl rfl ?_))))))
   refine WL.dec (run_neq rfl rfl) rfl rfl (fun c45 => ?_) (fun c45 => ?_)
   ·
    refine WL.val run_move rfl rfl (WL.skip rfl rfl (WL.skip rfl rfl (WL.skip rfl rfl (WL.skip rfl rfl (WL.skip rfl rfl (WL.skip rfl rfl (WL.val (run_pickT rfl) rfl rfl ?_)))))))
    refine WL.val run_assign rfl rfl (WL.nil (W.condT rfl (W.seq (W.region (WL.eff (eff_call call130 (rconflict_ok h)) rfl rfl ?_)))))
    rintro _ w ⟨rfl, h⟩
    refine WL.eff (eff_storeW (vs := [.int .i64 _, .int .i64 _, .int .i64 _, .slice _ _ _, .int .i64 _]) h sizeOf36 rfl rfl rfl rfl rfl) rfl rfl ?_
    rintro _ w h
    refine WL.nil (W.ret (bodyQ.rcB (vs := [.int .i64 _, .int .i64 _, .int .i64 _, .slice _ _ _, .int .i64 _]) h results90 isAgg36 sizeOf36 rfl rfl rfl ?_))
    have e : rsvF t i key typ = ⟨t, plain 24 0 0, [], 0⟩ := by unfold rsvF; rw [if_neg (by rw [hok]; decide), if_neg (by rw [hty]; decide), if_neg (show ¬ t.hold = -1 by omega), if_neg (by omega)]
    rw [e]
    dsimp only
    exact ⟨rfl, h.to⟩
   refine WL.val run_move rfl rfl (WL.val run_move rfl rfl (WL.val (run_nilCheck rfl) rfl rfl (WL.val (run_fieldAddr 9 underlying137 rfl sizeOf3 rfl rfl) rfl rfl (WL.val (run_load1 isAgg3 rfl (h.cellB rfl)) rfl rfl (WL.val run_move rfl rfl ?_)))))
   refine WL.dec (run_neq rfl rfl) rfl rfl (fun c52 => ?_) (fun c52 => ?_)
   ·
    refine WL.val (run_pickF rfl) rfl rfl (WL.val run_assign rfl rfl (WL.nil (W.condT rfl (W.seq (W.region (WL.eff (eff_call call130 (rconflict_ok h)) rfl rfl ?_))))))
    rintro _ w ⟨rfl, h⟩
    refine WL.eff (eff_storeW (vs := [.int .i64 _, .int .i64 _, .int .i64 _, .slice _ _ _, .int .i64 _]) h sizeOf36 rfl rfl rfl rfl rfl) rfl rfl ?_
    rintro _ w h
    refine WL.nil (W.ret (bodyQ.rcB (vs := [.int .i64 _, .int .i64 _, .int .i64 _, .slice _ _ _, .int .i64 _]) h results90 isAgg36 sizeOf36 rfl rfl rfl ?_))
    have e : rsvF t i key typ = ⟨t, plain 24 0 0, [], 0⟩ := by unfold rsvF; rw [if_neg (by rw [hok]; decide), if_neg (by rw [hty]; decide), if_neg (show ¬ t.hold = -1 by omega), if_neg (by omega)]
    rw [e]
    dsimp only
    exact ⟨rfl, h.to⟩
   refine WL.val (run_pickF rfl) rfl rfl (WL.val run_assign rfl rfl (WL.nil (W.condF rfl (W.skip (W.seq (W.region (WL.eff (eff_call call131 (rgood_ok h)) rfl rfl ?_)))))))
   rintro _ w ⟨rfl, h⟩
   refine WL.eff (eff_storeW (vs := [.int .i64 _, .int .i64 _, .int .i64 _, .slice _ _ _, .int .i64 _]) h sizeOf36 rfl rfl rfl rfl rfl) rfl rfl ?_
   rintro _ w h
   refine WL.nil (W.ret (bodyQ.rcB (vs := [.int .i64 _, .int .i64 _, .int .i64 _, .slice _ _ _, .int .i64 _]) h results90 isAgg36 sizeOf36 rfl rfl rfl ?_))
   have e : rsvF t i key typ = ⟨t, plain 0 0 0, [], 0⟩ := by unfold rsvF; rw [if_neg (by rw [hok]; decide), if_neg (by rw [hty]; decide), if_neg (show ¬ t.hold = -1 by omega), if_pos ⟨by omega, by omega⟩]
   rw [e]
   dsimp only
   exact ⟨rfl, h.to⟩
  refine WL.val (run_not rfl) rfl rfl (WL.val run_assign rfl rfl (WL.nil (W.condT rfl (W.seq (W.region (WL.eff (eff_call call129 (rwrong_ok h)) rfl rfl ?_))))))
  rintro _ w ⟨rfl, h⟩
  refine WL.eff (eff_storeW (vs := [.int .i64 _, .int .i64 _, .int .i64 _, .slice _ _ _, .int .i64 _]) h sizeOf36 rfl rfl rfl rfl rfl) rfl rfl ?_
  rintro _ w h
  refine WL.nil (W.ret (bodyQ.rcB (vs := [.int .i64 _, .int .i64 _, .int .i64 _, .slice _ _ _, .int .i64 _]) h results90 isAgg36 sizeOf36 rfl rfl rfl ?_))
  have e : rsvF t i key typ = ⟨t, plain 2 5 9216, [], 0⟩ := by unfold rsvF; rw [if_neg (by rw [hok]; decide), if_pos hty]
  rw [e]
  dsimp only
  exact ⟨rfl, h.to⟩
theorem rrelease_ok {b i : Nat} {t : Tb} {key typ : Int} (hi : i < 8) (hty6 : t.typ ≤ 6) (h : On W0 (blk b t.cells 137 :: L) w) : Calls Tryz.prog 91 #[.pointer (some ⟨b, 0, none⟩), .int .i64 (i : Int), .int .u64 key, .int .i64 typ] w (Ret fun v w' => ∃ a c, v = .tuple #[(relF t i key typ).r.val (.slice none 0 0), .slice a (relF t i key typ).l.length c] ∧ On W0 (Own 2 (.slice a (relF t i key typ).l.length c) (relF t i key typ).l.length (notesV (relF t i key typ).code ((relF t i key typ).l)) :: blk b (relF t i key typ).t.cells 137 :: L) w') := by
  refine enter func91 rfl ntmps91 rfl (W.seq (W.region (WL.eff (eff_alloc h zeroValue36 rfl) rfl rfl ?_)))
  rintro _ w ⟨b8, rfl, h⟩
  refine WL.val run_assign rfl rfl (WL.nil (W.seq (W.block (W.seq (W.region (WL.val run_move rfl rfl (WL.eff (eff_call call123 (rno_ok h)) rfl rfl ?_)))))))
  rintro _ w ⟨hv, h⟩
  rcases hv with ⟨hb_, _⟩ | ⟨_, hv⟩
  · rw [hostB_iff.2 ⟨by omega, by omega⟩] at hb_; cases hb_
  subst hv
  refine WL.val run_assign rfl rfl (WL.nil (W.condF rfl (W.seq (W.region (WL.val run_move rfl rfl (WL.val run_move rfl rfl (WL.val run_move rfl rfl ?_)))))))
  refine WL.eff (eff_call call133 (rnot_ok (key := key) hi (h.fetch (blk b t.cells 137)))) rfl rfl ?_
  rintro _ w ⟨hv, h⟩
  rcases hv with ⟨hok, hv⟩ | ⟨hok, hv⟩ <;> subst hv
  ·
   refine WL.val run_assign rfl rfl (WL.nil (W.condT rfl (W.seq (W.region (WL.eff (eff_call call130 (rconflict_ok h)) rfl rfl ?_)))))
   rintro _ w ⟨rfl, h⟩
   refine WL.eff (eff_storeW (vs := [.int .i64 _, .int .i64 _, .int .i64 _, .slice _ _ _, .int .i64 _]) h sizeOf36 rfl rfl rfl rfl rfl) rfl rfl ?_
   rintro _ w h
   refine WL.val run_assign rfl rfl (WL.nil (W.ret (bodyQ.rctB (vs := [.int .i64 _, .int .i64 _, .int .i64 _, .slice _ _ _, .int .i64 _]) (v2 := .slice _ _ _) h results91 isAgg36 sizeOf36 rfl rfl rfl rfl ?_)))
   have h : On W0 (Own 2 (.slice none 0 0) 0 (notesV 0 []) :: _) w := h.ownEmpty 2 none
   have e : relF t i key typ = ⟨t, plain 24 0 0, [], 0⟩ := by unfold relF; rw [if_pos hok]
   rw [e]
   dsimp only
   exact ⟨none, 0, rfl, h.to⟩
  refine WL.val run_assign rfl rfl (WL.nil (W.condF rfl (W.seq (W.region (WL.val run_move rfl rfl (WL.eff (eff_call call134 (ris_ok h)) rfl rfl ?_))))))
  rintro _ w ⟨hv, h⟩
  have hcs := Bool.eq_false_or_eq_true (typedB typ)
  rcases hcs with hty | hty <;> (rw [hty] at hv; subst hv)
  ·
   refine WL.val (run_not rfl) rfl rfl (WL.val run_assign rfl rfl (WL.nil (W.condF rfl (W.seq (W.region (WL.val run_move rfl rfl (WL.val (run_nilCheck rfl) rfl rfl ?_)))))))
   refine WL.val (run_fieldAddr 8 underlying137 rfl sizeOf3 rfl rfl) rfl rfl (WL.val (run_load1 isAgg3 rfl (h.cellB rfl)) rfl rfl (WL.val run_move rfl rfl (WL.val (run_neq rfl rfl) rfl rfl (WL.val run_assign rfl rfl (WL.nil ?_)))))
   refine W.condIf rfl (fun c15 => ?_) (fun c15 => ?_)
   ·
    refine W.seq (W.region (WL.eff (eff_call call131 (rgood_ok h)) rfl rfl ?_))
    rintro _ w ⟨rfl, h⟩
    refine WL.eff (eff_storeW (vs := [.int .i64 _, .int .i64 _, .int .i64 _, .slice _ _ _, .int .i64 _]) h sizeOf36 rfl rfl rfl rfl rfl) rfl rfl ?_
    rintro _ w h
    refine WL.val run_assign rfl rfl (WL.nil (W.ret (bodyQ.rctB (vs := [.int .i64 _, .int .i64 _, .int .i64 _, .slice _ _ _, .int .i64 _]) (v2 := .slice _ _ _) h results91 isAgg36 sizeOf36 rfl rfl rfl rfl ?_)))
    have h : On W0 (Own 2 (.slice none 0 0) 0 (notesV 0 []) :: _) w := h.ownEmpty 2 none
    have e : relF t i key typ = ⟨t, plain 0 0 0, [], 0⟩ := by unfold relF; rw [if_neg (by rw [hok]; decide), if_neg (by rw [hty]; decide), if_pos (show t.hold ≠ i from c15)]
    rw [e]
    dsimp only
    exact ⟨none, 0, rfl, h.to⟩
   refine W.seq (W.region (WL.val run_move rfl rfl (WL.val (run_nilCheck rfl) rfl rfl (WL.val (run_fieldAddr 9 underlying137 rfl sizeOf3 rfl rfl) rfl rfl (WL.val (run_load1 isAgg3 rfl (h.cellB rfl)) rfl rfl (WL.val run_move rfl rfl (WL.val (run_neq rfl rfl) rfl rfl ?_)))))))
   refine WL.val run_assign rfl rfl (WL.nil ?_)
   refine W.condIf rfl (fun c19 => ?_) (fun c19 => ?_)
   ·
    refine W.seq (W.region (WL.eff (eff_call call129 (rwrong_ok h)) rfl rfl ?_))
    rintro _ w ⟨rfl, h⟩
    refine WL.eff (eff_storeW (vs := [.int .i64 _, .int .i64 _, .int .i64 _, .slice _ _ _, .int .i64 _]) h sizeOf36 rfl rfl rfl rfl rfl) rfl rfl ?_
    rintro _ w h
    refine WL.val run_assign rfl rfl (WL.nil (W.ret (bodyQ.rctB (vs := [.int .i64 _, .int .i64 _, .int .i64 _, .slice _ _ _, .int .i64 _]) (v2 := .slice _ _ _) h results91 isAgg36 sizeOf36 rfl rfl rfl rfl ?_)))
    have h : On W0 (Own 2 (.slice none 0 0) 0 (notesV 0 []) :: _) w := h.ownEmpty 2 none
    have e : relF t i key typ = ⟨t, plain 2 5 9732, [], 0⟩ := by unfold relF; rw [if_neg (by rw [hok]; decide), if_neg (by rw [hty]; decide), if_neg (by omega), if_pos (show t.typ ≠ typ from c19)]
    rw [e]
    dsimp only
    exact ⟨none, 0, rfl, h.to⟩
   refine W.skip (W.seq (W.region (WL.eff (eff_call call131 (rgood_ok h)) rfl rfl ?_)))
   rintro _ w ⟨rfl, h⟩
   refine WL.val run_move rfl rfl (WL.val run_move rfl rfl (WL.eff (eff_call call132 (rfree_ok (i := i) hty6 (h.fetch (blk b t.cells 137)))) rfl rfl ?_))
   rintro _ w ⟨ad, cd, rfl, h⟩
   refine WL.eff (eff_storeW (vs := [.int .i64 _, .int .i64 _, .int .i64 _, .slice _ _ _, .int .i64 _]) h sizeOf36 rfl rfl rfl rfl rfl) rfl rfl ?_
   rintro _ w h
   refine WL.val run_assign rfl rfl (WL.nil (W.ret (bodyQ.rctB (vs := [.int .i64 _, .int .i64 _, .int .i64 _, .slice _ _ _, .int .i64 _]) (v2 := .slice _ _ _) h results91 isAgg36 sizeOf36 rfl rfl rfl rfl ?_)))
   have e : relF t i key typ = ⟨t.freed, plain 0 0 0, t.told i, 10756⟩ := by unfold relF; rw [if_neg (by rw [hok]; decide), if_neg (by rw [hty]; decide), if_neg (by omega), if_neg (by omega)]
   rw [e]
   dsimp only
   exact ⟨ad, cd, rfl, h.to⟩
  refine WL.val (run_not rfl) rfl rfl (WL.val run_assign rfl rfl (WL.nil (W.condT rfl (W.seq (W.region (WL.eff (eff_call call129 (rwrong_ok h)) rfl rfl ?_))))))
  rintro _ w ⟨rfl, h⟩
  refine WL.eff (eff_storeW (vs := [.int .i64 _, .int .i64 _, .int .i64 _, .slice _ _ _, .int .i64 _]) h sizeOf36 rfl rfl rfl rfl rfl) rfl rfl ?_
  rintro _ w h
  refine WL.val run_assign rfl rfl (WL.nil (W.ret (bodyQ.rctB (vs := [.int .i64 _, .int .i64 _, .int .i64 _, .slice _ _ _, .int .i64 _]) (v2 := .slice _ _ _) h results91 isAgg36 sizeOf36 rfl rfl rfl rfl ?_)))
  have h : On W0 (Own 2 (.slice none 0 0) 0 (notesV 0 []) :: _) w := h.ownEmpty 2 none
  have e : relF t i key typ = ⟨t, plain 2 5 9216, [], 0⟩ := by unfold relF; rw [if_neg (by rw [hok]; decide), if_pos hty]
  rw [e]
  dsimp only
  exact ⟨none, 0, rfl, h.to⟩
theorem rclear_ok {b i : Nat} {t : Tb} {key : Int} (hi : i < 8) (h : On W0 (blk b t.cells 137 :: L) w) : Calls Tryz.prog 92 #[.pointer (some ⟨b, 0, none⟩), .int .i64 (i : Int), .int .u64 key] w (Ret fun v w' => ∃ a c, v = .tuple #[(clrF t i key).r.val (.slice none 0 0), .slice a (clrF t i key).l.length c] ∧ On W0 (Own 2 (.slice a (clrF t i key).l.length c) (clrF t i key).l.length (notesV (clrF t i key).code ((clrF t i key).l)) :: blk b (clrF t i key).t.cells 137 :: L) w') := by
  refine enter func92 rfl ntmps92 rfl (W.seq (W.region (WL.eff (eff_alloc h zeroValue36 rfl) rfl rfl ?_)))
  rintro _ w ⟨b6, rfl, h⟩
  refine WL.val run_assign rfl rfl (WL.nil (W.seq (W.block (W.seq (W.region (WL.val run_move rfl rfl (WL.eff (eff_call call123 (rno_ok h)) rfl rfl ?_)))))))
  rintro _ w ⟨hv, h⟩
  rcases hv with ⟨hb_, _⟩ | ⟨_, hv⟩
  · rw [hostB_iff.2 ⟨by omega, by omega⟩] at hb_; cases hb_
  subst hv
  refine WL.val run_assign rfl rfl (WL.nil (W.condF rfl (W.seq (W.region (WL.val run_move rfl rfl (WL.val run_move rfl rfl (WL.val run_move rfl rfl ?_)))))))
  refine WL.eff (eff_call call133 (rnot_ok (key := key) hi (h.fetch (blk b t.cells 137)))) rfl rfl ?_
  rintro _ w ⟨hv, h⟩
  rcases hv with ⟨hok, hv⟩ | ⟨hok, hv⟩ <;> subst hv
  ·
   refine WL.val run_assign rfl rfl (WL.nil (W.condT rfl (W.seq (W.region (WL.eff (eff_call call130 (rconflict_ok h)) rfl rfl ?_)))))
   rintro _ w ⟨rfl, h⟩
   refine WL.eff (eff_storeW (vs := [.int .i64 _, .int .i64 _, .int .i64 _, .slice _ _ _, .int .i64 _]) h sizeOf36 rfl rfl rfl rfl rfl) rfl rfl ?_
   rintro _ w h
   refine WL.val run_assign rfl rfl (WL.nil (W.ret (bodyQ.rctB (vs := [.int .i64 _, .int .i64 _, .int .i64 _, .slice _ _ _, .int .i64 _]) (v2 := .slice _ _ _) h results92 isAgg36 sizeOf36 rfl rfl rfl rfl ?_)))
   have h : On W0 (Own 2 (.slice none 0 0) 0 (notesV 0 []) :: _) w := h.ownEmpty 2 none
   have e : clrF t i key = ⟨t, plain 24 0 0, [], 0⟩ := by unfold clrF; rw [if_pos hok]
   rw [e]
   dsimp only
   exact ⟨none, 0, rfl, h.to⟩
  refine WL.val run_assign rfl rfl (WL.nil (W.condF rfl (W.skip (W.seq (W.region (WL.val run_move rfl rfl (WL.val run_move rfl rfl ?_)))))))
  refine WL.eff (eff_call call135 (rothers_ok (i := i) (code := 10755) (h.fetch (blk b t.cells 137)))) rfl rfl ?_
  rintro _ w ⟨ad, cd, rfl, h⟩
  refine WL.val run_assign rfl rfl (WL.nil (W.seq (W.region (WL.val run_move rfl rfl (WL.val (run_buildA (out := [.int .u64 _, .int .u64 _, .int .u64 _, .int .u64 _, .int .u64 _, .int .u64 _, .int .u64 _, .int .u64 _]) underlying85 sizeOf23 zeroValue85 rfl rfl (by simp) (trivial) rfl) rfl rfl (WL.val (run_nilCheck rfl) rfl rfl (WL.val (run_fieldAddr 0 underlying137 rfl sizeOf85 rfl rfl) rfl rfl ?_)))))))
  refine WL.eff (eff_storeN (vs := keysV fun _ => 0) (h.fetch (blk b t.cells 137)) sizeOf85 rfl rfl rfl rfl rfl (fun k _ _ => free0 k)) rfl rfl ?_
  rintro _ w h
  refine WL.nil (W.seq (W.region (WL.val run_move rfl rfl (WL.val (run_nilCheck rfl) rfl rfl (WL.val (run_fieldAddr 8 underlying137 rfl sizeOf3 rfl rfl) rfl rfl (WL.eff (eff_store (v := .int .i64 _) h sizeOf3 rfl rfl rfl rfl rfl) rfl rfl ?_))))))
  rintro _ w h
  try simp only [Nat.zero_add, Nat.add_zero, List.set_cons_zero, List.set_cons_succ] at h
  refine WL.nil (W.seq (W.region (WL.val run_move rfl rfl (WL.val (run_nilCheck rfl) rfl rfl (WL.val (run_fieldAddr 9 underlying137 rfl sizeOf3 rfl rfl) rfl rfl (WL.eff (eff_store (v := .int .i64 _) h sizeOf3 rfl rfl rfl rfl rfl) rfl rfl ?_))))))
  rintro _ w h
  try simp only [Nat.zero_add, Nat.add_zero, List.set_cons_zero, List.set_cons_succ] at h
  refine WL.nil (W.seq (W.region (WL.val run_move rfl rfl (WL.val (run_nilCheck rfl) rfl rfl (WL.val (run_fieldAddr 10 underlying137 rfl sizeOf111 rfl rfl) rfl rfl (WL.val (run_load1 isAgg111 rfl (h.cellB rfl)) rfl rfl (WL.val (run_addW rfl rfl) rfl rfl ?_)))))))
  refine WL.val (run_nilCheck rfl) rfl rfl (WL.val (run_fieldAddr 10 underlying137 rfl sizeOf111 rfl rfl) rfl rfl (WL.eff (eff_store (v := .int .u32 _) h sizeOf111 rfl rfl rfl rfl rfl) rfl rfl ?_))
  rintro _ w h
  try simp only [Nat.zero_add, Nat.add_zero, List.set_cons_zero, List.set_cons_succ] at h
  refine WL.nil (W.seq ?_)
  have h := h.fetch (blk b ((((splice t.cells (0 + 0) (keysV fun _ => 0)).set (0 + 8) (.int .i64 (-1))).set (0 + 9) (.int .i64 0)).set (0 + 10) (.int .u32 (IntKind.u32.wrap (t.gen + 1)))) 137)
  have h : On W0 (blk b t.cleared.cells 137 :: _) w := h
  refine W.region (WL.eff (eff_call call131 (rgood_ok h)) rfl rfl ?_)
  rintro _ w ⟨rfl, h⟩
  refine WL.val run_move rfl rfl (WL.eff (eff_storeW (vs := [.int .i64 _, .int .i64 _, .int .i64 _, .slice _ _ _, .int .i64 _]) h sizeOf36 rfl rfl rfl rfl rfl) rfl rfl ?_)
  rintro _ w h
  refine WL.val run_assign rfl rfl (WL.nil (W.ret (bodyQ.rctB (vs := [.int .i64 _, .int .i64 _, .int .i64 _, .slice _ _ _, .int .i64 _]) (v2 := .slice _ _ _) h results92 isAgg36 sizeOf36 rfl rfl rfl rfl ?_)))
  have e : clrF t i key = ⟨t.cleared, plain 0 0 0, (hostsN t.K i (fun _ => true) 8), 10755⟩ := by unfold clrF; rw [if_neg (by rw [hok]; decide)]
  rw [e]
  dsimp only
  exact ⟨ad, cd, rfl, h.to⟩
theorem rpreempt_ok {b i : Nat} {t : Tb} {key other typ : Int} (hi : i < 8) (hI : t.hold = -1 ∨ (0 ≤ t.hold ∧ t.hold < 8)) (h : On W0 (blk b t.cells 137 :: L) w) : Calls Tryz.prog 93 #[.pointer (some ⟨b, 0, none⟩), .int .i64 (i : Int), .int .u64 key, .int .u64 other, .int .i64 typ] w (Ret fun v w' => ∃ a c, v = .tuple #[(preF t i key other typ).r.val (.slice none 0 0), .slice a (preF t i key other typ).l.length c] ∧ On W0 (Own 2 (.slice a (preF t i key other typ).l.length c) (preF t i key other typ).l.length (notesV (preF t i key other typ).code ((preF t i key other typ).l)) :: blk b (preF t i key other typ).t.cells 137 :: L) w') := by
  refine enter func93 rfl ntmps93 rfl ?_
  have hmx := maxLen_eq
  refine W.seq (W.region (WL.eff (eff_alloc h zeroValue36 rfl) rfl rfl ?_))
  rintro _ w ⟨b10, rfl, h⟩
  refine WL.val run_assign rfl rfl (WL.nil (W.seq (W.block (W.seq (W.region (WL.val run_move rfl rfl (WL.eff (eff_call call123 (rno_ok h)) rfl rfl ?_)))))))
  rintro _ w ⟨hv, h⟩
  rcases hv with ⟨hb_, _⟩ | ⟨_, hv⟩
  · rw [hostB_iff.2 ⟨by omega, by omega⟩] at hb_; cases hb_
  subst hv
  refine WL.val run_assign rfl rfl (WL.nil (W.condF rfl (W.seq (W.region (WL.val run_move rfl rfl (WL.val run_move rfl rfl (WL.val run_move rfl rfl ?_)))))))
  refine WL.eff (eff_call call133 (rnot_ok (key := key) hi (h.fetch (blk b t.cells 137)))) rfl rfl ?_
  rintro _ w ⟨hv, h⟩
  rcases hv with ⟨hok, hv⟩ | ⟨hok, hv⟩ <;> subst hv
  ·
   refine WL.val run_assign rfl rfl (WL.nil (W.condT rfl (W.seq (W.region (WL.eff (eff_call call130 (rconflict_ok h)) rfl rfl ?_)))))
   rintro _ w ⟨rfl, h⟩
   refine WL.eff (eff_storeW (vs := [.int .i64 _, .int .i64 _, .int .i64 _, .slice _ _ _, .int .i64 _]) h sizeOf36 rfl rfl rfl rfl rfl) rfl rfl ?_
   rintro _ w h
   refine WL.val run_assign rfl rfl (WL.nil (W.ret (bodyQ.rctB (vs := [.int .i64 _, .int .i64 _, .int .i64 _, .slice _ _ _, .int .i64 _]) (v2 := .slice _ _ _) h results93 isAgg36 sizeOf36 rfl rfl rfl rfl ?_)))
   have h : On W0 (Own 2 (.slice none 0 0) 0 (notesV 0 []) :: _) w := h.ownEmpty 2 none
   have e : preF t i key other typ = ⟨t, plain 24 0 0, [], 0⟩ := by unfold preF; rw [if_pos hok]
   rw [e]
   dsimp only
   exact ⟨none, 0, rfl, h.to⟩
  refine WL.val run_assign rfl rfl (WL.nil (W.condF rfl (W.seq (W.region (WL.val run_move rfl rfl (WL.val (run_eql rfl rfl) rfl rfl (WL.val run_assign rfl rfl ?_)))))))
  refine WL.nil ?_
  refine W.condIf rfl (fun c11 => ?_) (fun c11 => ?_)
  ·
   refine W.seq (W.region (WL.eff (eff_call call129 (rwrong_ok h)) rfl rfl ?_))
   rintro _ w ⟨rfl, h⟩
   refine WL.eff (eff_storeW (vs := [.int .i64 _, .int .i64 _, .int .i64 _, .slice _ _ _, .int .i64 _]) h sizeOf36 rfl rfl rfl rfl rfl) rfl rfl ?_
   rintro _ w h
   refine WL.val run_assign rfl rfl (WL.nil (W.ret (bodyQ.rctB (vs := [.int .i64 _, .int .i64 _, .int .i64 _, .slice _ _ _, .int .i64 _]) (v2 := .slice _ _ _) h results93 isAgg36 sizeOf36 rfl rfl rfl rfl ?_)))
   have h : On W0 (Own 2 (.slice none 0 0) 0 (notesV 0 []) :: _) w := h.ownEmpty 2 none
   have e : preF t i key other typ = ⟨t, plain 2 5 9728, [], 0⟩ := by unfold preF; rw [if_neg (by rw [hok]; decide), if_pos c11]
   rw [e]
   dsimp only
   exact ⟨none, 0, rfl, h.to⟩
  refine W.skip (W.seq (W.region (WL.val run_assign rfl rfl (WL.nil (W.seq (W.seq (W.region ?_)))))))
  refine WL.val run_assign rfl rfl (WL.nil (W.block ?_))
  refine W.loop (fun (k : Nat) env w => ∃ (j : Env) (a : Option Addr) (c : Nat), env = mkE j [(0, .pointer (some ⟨b, 0, none⟩)), (1, .int .i64 (i : Int)), (3, .int .u64 other), (4, .int .i64 typ), (10, .pointer (some ⟨b10, 0, none⟩)), (12, .slice a (hostsN t.K i (fun x => decide (x = other)) k).length c), (13, .int .i64 (k : Int))] ∧ k ≤ 8 ∧ On W0 (Own 2 (.slice a (hostsN t.K i (fun x => decide (x = other)) k).length c) (hostsN t.K i (fun x => decide (x = other)) k).length (notesV 10757 ((hostsN t.K i (fun x => decide (x = other)) k))) :: blk b t.cells 137 :: blk b10 [.int .i64 0, .int .i64 0, .int .i64 0, .slice none 0 0, .int .i64 0] 36 :: L) w) (fun k => 8 - k) (0) ?_ ?_
  · have h : On W0 (Own 2 (.slice none (hostsN t.K i (fun x => decide (x = other)) 0).length 0) (hostsN t.K i (fun x => decide (x = other)) 0).length (notesV 10757 (hostsN t.K i (fun x => decide (x = other)) 0)) :: _) w := h.ownEmpty 2 none
    exact ⟨_, none, 0, mkE_of ⟨rfl, rfl, rfl, rfl, rfl, rfl, rfl, trivial⟩, Nat.zero_le _, h.to⟩
  rintro k env w ⟨j, a, c, rfl, hk, h⟩
  have hlen := hostsN_len t.K i (fun x => decide (x = other)) k
  refine W.seq (W.seq (W.region (WL.val run_move rfl rfl (WL.val (run_lss rfl rfl) rfl rfl (WL.nil ?_)))))
  refine W.condIf rfl (fun c20 => ?_) (fun c20 => ?_)
  ·
   refine W.skip (W.seq (W.block (W.seq (W.region (WL.val run_move rfl rfl (WL.val run_move rfl rfl ?_))))))
   refine WL.dec (run_neq rfl rfl) rfl rfl (fun c35 => ?_) (fun c35 => ?_)
   ·
    refine WL.val run_move rfl rfl (WL.val run_move rfl rfl (WL.val run_move rfl rfl (WL.val (run_nilCheck rfl) rfl rfl (WL.val (run_fieldAddr 0 underlying137 rfl sizeOf85 rfl rfl) rfl rfl (WL.val (run_indexAddrArr underlying85 sizeOf23 rfl rfl (by omega) (by omega)) rfl rfl (WL.val (run_load1 isAgg23 rfl (h.cellB (cells_at (i := k) (by omega)))) rfl rfl (WL.val run_move rfl rfl ?_)))))))
    refine WL.val (run_eql rfl rfl) rfl rfl (WL.val (run_pickT rfl) rfl rfl (WL.nil ?_))
    refine W.condIf rfl (fun c25 => ?_) (fun c25 => ?_)
    ·
     refine W.region (WL.val run_move rfl rfl (WL.val run_move rfl rfl (WL.val (run_buildS (pl := [(0, 1), (1, 1)]) (out := [.int .i64 _, .int .i64 _]) underlying179 zeroValue179 (fun w => by kernel_rfl) rfl (⟨⟨_, _, rfl, rfl, by decide⟩, ⟨⟨_, _, rfl, rfl, by decide⟩, trivial⟩⟩) rfl) rfl rfl (WL.eff (eff_mkSlice (zl := [.int .i64 0, .int .i64 0]) (out := [.int .i64 _, .int .i64 _]) h underlying141 sizeOf179 zeroValue179 (by decide) (by kernel_rfl) rfl rfl (by simp) (⟨⟨_, _, rfl, rfl, by decide⟩, trivial⟩) rfl rfl (by simp [maxLen])) rfl rfl ?_))))
     rintro _ w ⟨b49, rfl, h⟩
     refine WL.eff (eff_app (c2 := 1) (bytes := 16) (h.fetch (Own 2 (.slice a (hostsN t.K i (fun x => decide (x = other)) k).length c) (hostsN t.K i (fun x => decide (x = other)) k).length (notesV 10757 ((hostsN t.K i (fun x => decide (x = other)) k))))) rfl rfl (h.cellsO (v := .slice (some ⟨b49, 0, none⟩) 1 1)) underlying141 rfl rfl rfl rfl rfl (by omega) (by omega) (by simp [Value.oneCell'])) rfl rfl ?_
     rintro _ w ⟨a50, c50, rfl, h⟩
     have h : On W0 (Own 2 (.slice a50 ((hostsN t.K i (fun x => decide (x = other)) k).length + 1) c50) ((hostsN t.K i (fun x => decide (x = other)) k).length + 1) (notesV 10757 (hostsN t.K i (fun x => decide (x = other)) k) ++ noteV 10757 k) :: _) w := h
     refine WL.val run_assign rfl rfl (WL.nil (W.region (WL.val run_move rfl rfl (WL.val (run_incN rfl rfl (by omega)) rfl rfl (WL.val run_assign rfl rfl (WL.nil ?_))))))
     have e : (hostsN t.K i (fun x => decide (x = other)) (k + 1)) = (hostsN t.K i (fun x => decide (x = other)) k) ++ [k] := by rw [hostsN_succ, if_neg (by rintro (h1 | h1 | h1); exact c35 h1; exact c11 (by omega); rw [decide_eq_false_iff_not] at h1; exact h1 c25)]
     have el : ((hostsN t.K i (fun x => decide (x = other)) (k + 1))).length = ((hostsN t.K i (fun x => decide (x = other)) k)).length + 1 := by rw [e, List.length_append]; rfl
     exact ⟨k + 1, ⟨_, a50, c50, mkE_of ⟨rfl, rfl, rfl, rfl, rfl, (by rw [el]; rfl), rfl, trivial⟩, by omega, (by rw [el, e, ← notesV_snoc]; exact h.to)⟩, by show 8 - (k + 1) < 8 - k; omega⟩
    refine W.skip (W.region (WL.val run_move rfl rfl (WL.val (run_incN rfl rfl (by omega)) rfl rfl (WL.val run_assign rfl rfl (WL.nil ?_)))))
    have e : (hostsN t.K i (fun x => decide (x = other)) (k + 1)) = (hostsN t.K i (fun x => decide (x = other)) k) := by rw [hostsN_succ, if_pos (.inr (.inr (decide_eq_false c25))), List.append_nil]
    exact ⟨k + 1, ⟨_, a, c, mkE_of ⟨rfl, rfl, rfl, rfl, rfl, (by rw [e]; rfl), rfl, trivial⟩, by omega, (by rw [e]; exact h.to)⟩, by show 8 - (k + 1) < 8 - k; omega⟩
   refine WL.val run_move rfl rfl (WL.skip rfl rfl (WL.skip rfl rfl (WL.skip rfl rfl (WL.skip rfl rfl (WL.skip rfl rfl (WL.skip rfl rfl (WL.skip rfl rfl ?_)))))))
   refine WL.skip rfl rfl (WL.val (run_pickF rfl) rfl rfl (WL.nil (W.condF rfl (W.skip (W.region (WL.val run_move rfl rfl (WL.val (run_incN rfl rfl (by omega)) rfl rfl ?_)))))))
   refine WL.val run_assign rfl rfl (WL.nil ?_)
   have e : (hostsN t.K i (fun x => decide (x = other)) (k + 1)) = (hostsN t.K i (fun x => decide (x = other)) k) := by rw [hostsN_succ, if_pos (.inl (by omega)), List.append_nil]
   exact ⟨k + 1, ⟨_, a, c, mkE_of ⟨rfl, rfl, rfl, rfl, rfl, (by rw [e]; rfl), rfl, trivial⟩, by omega, (by rw [e]; exact h.to)⟩, by show 8 - (k + 1) < 8 - k; omega⟩
  refine W.exit (W.seq (W.seq ?_))
  have ob_ : k = 8 := by omega
  obtain rfl := ob_
  have h : On W0 (Own 2 (.slice a (preL t i other).length c) (preL t i other).length (notesV 10757 ((preL t i other))) :: blk b t.cells 137 :: blk b10 [.int .i64 0, .int .i64 0, .int .i64 0, .slice none 0 0, .int .i64 0] 36 :: L) w := h
  have hlen : (preL t i other).length ≤ 8 := hostsN_len ..
  refine W.region (WL.val run_move rfl rfl (WL.val (run_lenSlice underlying141 rfl) rfl rfl (WL.val (run_eql rfl rfl) rfl rfl (WL.nil ?_))))
  refine W.condIf rfl (fun c30 => ?_) (fun c30 => ?_)
  ·
   refine W.seq (W.region (WL.eff (eff_call call130 (rconflict_ok h)) rfl rfl ?_))
   rintro _ w ⟨rfl, h⟩
   refine WL.eff (eff_storeW (vs := [.int .i64 _, .int .i64 _, .int .i64 _, .slice _ _ _, .int .i64 _]) h sizeOf36 rfl rfl rfl rfl rfl) rfl rfl ?_
   rintro _ w h
   refine WL.val run_assign rfl rfl (WL.nil (W.ret (bodyQ.rctB (vs := [.int .i64 _, .int .i64 _, .int .i64 _, .slice _ _ _, .int .i64 _]) (v2 := .slice _ _ _) h results93 isAgg36 sizeOf36 rfl rfl rfl rfl ?_)))
   have h : On W0 (Own 2 (.slice none 0 0) 0 (notesV 0 []) :: _) w := h.ownEmpty 2 none
   have e : preF t i key other typ = ⟨t, plain 24 0 0, [], 0⟩ := by unfold preF; rw [if_neg (by rw [hok]; decide), if_neg c11, if_pos (show (preL t i other) = [] from List.eq_nil_of_length_eq_zero (show (hostsN t.K i (fun x => decide (x = other)) 8).length = 0 by omega))]
   rw [e]
   dsimp only
   exact ⟨none, 0, rfl, h.to⟩
  refine W.skip (W.seq (W.seq ?_))
  refine W.draw Tryz.follows h (fun w h => ?_)
  refine WT.pure 0 rfl (by kernel_rfl) (fun w' => run_move) rfl rfl (WT.pure 1 rfl (by kernel_rfl) (fun w' => (run_nilCheck rfl)) rfl rfl (WT.pure 2 rfl (by kernel_rfl) (fun w' => (run_fieldAddr 8 underlying137 rfl sizeOf3 rfl rfl)) rfl rfl (WT.load1 3 rfl (by kernel_rfl) isAgg3 rfl (h.cellB rfl) rfl rfl ?_)))
  refine WT.dec 4 rfl (by kernel_rfl) (fun w' => (run_geq rfl rfl)) rfl rfl (fun c59 => ?_) (fun c59 => ?_)
  ·
   refine WT.pure 5 rfl (by kernel_rfl) (fun w' => run_move) rfl rfl (WT.pure 6 rfl (by kernel_rfl) (fun w' => run_move) rfl rfl (WT.pure 7 rfl (by kernel_rfl) (fun w' => (run_nilCheck rfl)) rfl rfl (WT.pure 8 rfl (by kernel_rfl) (fun w' => (run_fieldAddr 8 underlying137 rfl sizeOf3 rfl rfl)) rfl rfl (WT.load1 9 rfl (by kernel_rfl) isAgg3 rfl (h.cellB rfl) rfl rfl (WT.pure 10 rfl (by kernel_rfl) (fun w' => run_move) rfl rfl ?_)))))
   refine WT.dec 11 rfl (by kernel_rfl) (fun w' => (run_neq rfl rfl)) rfl rfl (fun c66 => ?_) (fun c66 => ?_)
   ·
    refine WT.pure 12 rfl (by kernel_rfl) (fun w' => (run_pickT rfl)) rfl rfl (WT.pure 13 rfl (by kernel_rfl) (fun w' => run_move) rfl rfl (WT.pure 14 rfl (by kernel_rfl) (fun w' => run_move) rfl rfl (WT.pure 15 rfl (by kernel_rfl) (fun w' => run_move) rfl rfl (WT.pure 16 rfl (by kernel_rfl) (fun w' => (run_nilCheck rfl)) rfl rfl (WT.pure 17 rfl (by kernel_rfl) (fun w' => (run_fieldAddr 8 underlying137 rfl sizeOf3 rfl rfl)) rfl rfl (WT.load1 18 rfl (by kernel_rfl) isAgg3 rfl (h.cellB rfl) rfl rfl (WT.pure 19 rfl (by kernel_rfl) (fun w' => (run_nilCheck rfl)) rfl rfl ?_)))))))
    refine WT.pure 20 rfl (by kernel_rfl) (fun w' => (run_fieldAddr 0 underlying137 rfl sizeOf85 rfl rfl)) rfl rfl (WT.pure 21 rfl (by kernel_rfl) (fun w' => (run_indexAddrArr underlying85 sizeOf23 rfl rfl (by omega) (by omega))) rfl rfl (WT.load1 22 rfl (by kernel_rfl) isAgg23 rfl (h.cellB (cells_atI (by omega) (by omega))) rfl rfl (WT.pure 23 rfl (by kernel_rfl) (fun w' => run_move) rfl rfl ?_)))
    refine WT.dec 24 rfl (by kernel_rfl) (fun w' => (run_eql rfl rfl)) rfl rfl (fun c79 => ?_) (fun c79 => ?_)
    ·
     refine WT.pure 25 rfl (by kernel_rfl) (fun w' => (run_pickT rfl)) rfl rfl (WT.done (by kernel_rfl) (W.condT rfl (W.seq (W.seq ?_))))
     have htk : takesP t i other := ⟨by omega, c66, c79⟩
     refine W.region (WL.val run_move rfl rfl (WL.eff (eff_call call134 (ris_ok h)) rfl rfl ?_))
     rintro _ w ⟨hv, h⟩
     have hcs := Bool.eq_false_or_eq_true (typedB typ)
     rcases hcs with hty | hty <;> (rw [hty] at hv; subst hv)
     ·
      refine WL.val (run_not rfl) rfl rfl (WL.nil (W.condF rfl (W.skip (W.seq (W.region (WL.val run_move rfl rfl (WL.val run_move rfl rfl ?_)))))))
      refine WL.val (run_nilCheck rfl) rfl rfl (WL.val (run_fieldAddr 8 underlying137 rfl sizeOf3 rfl rfl) rfl rfl (WL.eff (eff_store (v := .int .i64 _) h sizeOf3 rfl rfl rfl rfl rfl) rfl rfl ?_))
      rintro _ w h
      try simp only [Nat.zero_add, Nat.add_zero, List.set_cons_zero, List.set_cons_succ] at h
      refine WL.nil (W.region (WL.val run_move rfl rfl (WL.val run_move rfl rfl (WL.val (run_nilCheck rfl) rfl rfl (WL.val (run_fieldAddr 9 underlying137 rfl sizeOf3 rfl rfl) rfl rfl (WL.eff (eff_store (v := .int .i64 _) h sizeOf3 rfl rfl rfl rfl rfl) rfl rfl ?_))))))
      rintro _ w h
      try simp only [Nat.zero_add, Nat.add_zero, List.set_cons_zero, List.set_cons_succ] at h
      refine WL.nil (W.seq (W.seq ?_))
      have h := h.fetch (blk b ((t.cells.set (0 + 8) (.int .i64 (i : Int))).set (0 + 9) (.int .i64 typ)) 137)
      have h : On W0 (blk b (t.take i typ).cells 137 :: _) w := h
      have h := On.zer0 (l := (preL t i other)) (h.fetch (blk b (t.take i typ).cells 137))
      refine W.region (WL.val run_assign rfl rfl (WL.nil (W.block ?_)))
      refine W.loop (fun (q : Nat) env w => ∃ j, env = mkE j [(0, .pointer (some ⟨b, 0, none⟩)), (10, .pointer (some ⟨b10, 0, none⟩)), (12, .slice a (preL t i other).length c), (14, .int .i64 (q : Int))] ∧ q ≤ (preL t i other).length ∧ On W0 (Own 2 (.slice a (preL t i other).length c) (preL t i other).length (notesV 10757 ((preL t i other))) :: blk b (zer (t.take i typ) ((preL t i other).take q)).cells 137 :: blk b10 [.int .i64 0, .int .i64 0, .int .i64 0, .slice none 0 0, .int .i64 0] 36 :: L) w) (fun q => (preL t i other).length - q) (0) ?_ ?_
      · exact ⟨_, mkE_of ⟨rfl, rfl, rfl, rfl, trivial⟩, Nat.zero_le _, h.to⟩
      rintro q env w ⟨j, rfl, hq, h⟩
      refine W.seq (W.seq (W.region (WL.val run_move rfl rfl (WL.val run_move rfl rfl (WL.val (run_lenSlice underlying141 rfl) rfl rfl (WL.val (run_lss rfl rfl) rfl rfl (WL.nil ?_)))))))
      refine W.condIf rfl (fun c48 => ?_) (fun c48 => ?_)
      ·
       refine W.skip (W.seq ?_)
       have hql : q < (preL t i other).length := by omega
       have hn : ∃ n, (preL t i other)[q]? = some n := ⟨(preL t i other)[q], by simp⟩
       obtain ⟨n, hn⟩ := hn
       have hn8 : n < 8 := (hostsN_mem.1 (List.mem_of_getElem? hn)).1
       have ha := Own.addr h (by omega)
       obtain ⟨bn, on, hal⟩ := ha
       subst hal
       refine W.block ?_
       refine W.draw Tryz.follows h (fun w h => ?_)
       refine WT.pure 0 rfl (by kernel_rfl) (fun w' => run_move) rfl rfl (WT.pure 1 rfl (by kernel_rfl) (fun w' => run_move) rfl rfl (WT.pure 2 rfl (by kernel_rfl) (fun w' => run_move) rfl rfl (WT.pure 3 rfl (by kernel_rfl) (fun w' => (run_indexAddr underlying141 sizeOf179 rfl rfl (by omega) (by omega))) rfl rfl (WT.pure 4 rfl (by kernel_rfl) (fun w' => (run_fieldAddr 0 underlying179 rfl sizeOf3 rfl rfl)) rfl rfl (WT.load1 5 rfl (by kernel_rfl) isAgg3 rfl ((h.cellsO (v := .slice (some ⟨bn, on, none⟩) (preL t i other).length c)).elem (i := q) (vs := noteV 10757 n) hql (drop_flatMap (noteV 10757) 2 (noteV_length 10757) (preL t i other) _ _ hn) 0 _ rfl) rfl rfl (WT.pure 6 rfl (by kernel_rfl) (fun w' => (run_nilCheck rfl)) rfl rfl (WT.pure 7 rfl (by kernel_rfl) (fun w' => (run_fieldAddr 0 underlying137 rfl sizeOf85 rfl rfl)) rfl rfl ?_)))))))
       refine WT.pure 8 rfl (by kernel_rfl) (fun w' => (run_indexAddrArr underlying85 sizeOf23 rfl rfl (by omega) (by omega))) rfl rfl (WT.eff 9 [false] rfl (by kernel_rfl) (by kernel_rfl) (eff_store (v := .int .u64 _) h sizeOf23 rfl rfl rfl (cells_lt hn8) (free0 _)) rfl rfl ?_)
       rintro _ w h
       rw [cells_set hn8, ← zer_snoc, ← RsM.take_snoc hn] at h
       refine ⟨trivial, ?_⟩
       refine WT.done (by kernel_rfl) (W.region (WL.val run_move rfl rfl (WL.val (run_incN rfl rfl (by omega)) rfl rfl (WL.val run_assign rfl rfl (WL.nil ?_)))))
       exact ⟨q + 1, ⟨_, mkE_of ⟨rfl, rfl, rfl, rfl, trivial⟩, by omega, h.to⟩, by show (preL t i other).length - (q + 1) < (preL t i other).length - q; omega⟩
      refine W.exit (W.seq ?_)
      have ob_ : q = (preL t i other).length := by omega
      obtain rfl := ob_
      rw [List.take_length] at h
      have h := h.fetch (blk b (zer (t.take i typ) (preL t i other)).cells 137)
      refine W.region (WL.val run_move rfl rfl (WL.val (run_nilCheck rfl) rfl rfl (WL.val (run_fieldAddr 10 underlying137 rfl sizeOf111 rfl rfl) rfl rfl (WL.val (run_load1 isAgg111 rfl (h.cellB rfl)) rfl rfl (WL.val (run_addW rfl rfl) rfl rfl (WL.val (run_nilCheck rfl) rfl rfl (WL.val (run_fieldAddr 10 underlying137 rfl sizeOf111 rfl rfl) rfl rfl ?_)))))))
      refine WL.eff (eff_store (v := .int .u32 _) h sizeOf111 rfl rfl rfl rfl rfl) rfl rfl ?_
      rintro _ w h
      try simp only [Nat.zero_add, Nat.add_zero, List.set_cons_zero, List.set_cons_succ] at h
      refine WL.nil (W.seq ?_)
      have et0 : preT t i other typ = (zer (t.take i typ) (preL t i other)).inc := by unfold preT preT0; rw [if_pos htk]; rfl
      have h := h.fetch (blk b ((zer (t.take i typ) (preL t i other)).cells.set (0 + 10) (.int .u32 (IntKind.u32.wrap ((zer (t.take i typ) (preL t i other)).gen + 1)))) 137)
      have h : On W0 (blk b (zer (t.take i typ) (preL t i other)).inc.cells 137 :: _) w := h
      rw [← et0] at h
      refine W.region (WL.eff (eff_call call131 (rgood_ok h)) rfl rfl ?_)
      rintro _ w ⟨rfl, h⟩
      refine WL.val run_move rfl rfl (WL.eff (eff_storeW (vs := [.int .i64 _, .int .i64 _, .int .i64 _, .slice _ _ _, .int .i64 _]) h sizeOf36 rfl rfl rfl rfl rfl) rfl rfl ?_)
      rintro _ w h
      refine WL.val run_assign rfl rfl (WL.nil (W.ret (bodyQ.rctB (vs := [.int .i64 _, .int .i64 _, .int .i64 _, .slice _ _ _, .int .i64 _]) (v2 := .slice _ _ _) h results93 isAgg36 sizeOf36 rfl rfl rfl rfl ?_)))
      have e : preF t i key other typ = ⟨preT t i other typ, plain 0 0 0, preL t i other, 10757⟩ := by unfold preF; rw [if_neg (by rw [hok]; decide), if_neg c11, if_neg (fun e => c30 (by rw [show (hostsN t.K i (fun x => decide (x = other)) 8) = [] from e]; rfl)), if_neg (fun hx => by rw [hx.2] at hty; cases hty)]
      rw [e]
      dsimp only
      exact ⟨a, c, rfl, h.to⟩
     refine WL.val (run_not rfl) rfl rfl (WL.nil (W.condT rfl (W.seq (W.region (WL.eff (eff_call call129 (rwrong_ok h)) rfl rfl ?_)))))
     rintro _ w ⟨rfl, h⟩
     refine WL.eff (eff_storeW (vs := [.int .i64 _, .int .i64 _, .int .i64 _, .slice _ _ _, .int .i64 _]) h sizeOf36 rfl rfl rfl rfl rfl) rfl rfl ?_
     rintro _ w h
     refine WL.val run_assign rfl rfl (WL.nil (W.ret (bodyQ.rctB (vs := [.int .i64 _, .int .i64 _, .int .i64 _, .slice _ _ _, .int .i64 _]) (v2 := .slice _ _ _) h results93 isAgg36 sizeOf36 rfl rfl rfl rfl ?_)))
     have h : On W0 (Own 2 (.slice none 0 0) 0 (notesV 0 []) :: _) w := h.ownEmpty 2 none
     have e : preF t i key other typ = ⟨t, plain 2 5 9216, [], 0⟩ := by unfold preF; rw [if_neg (by rw [hok]; decide), if_neg c11, if_neg (fun e => c30 (by rw [show (hostsN t.K i (fun x => decide (x = other)) 8) = [] from e]; rfl)), if_pos ⟨htk, hty⟩]
     rw [e]
     dsimp only
     exact ⟨none, 0, rfl, h.to⟩
    refine WT.pure 25 rfl (by kernel_rfl) (fun w' => (run_pickT rfl)) rfl rfl (WT.done (by kernel_rfl) (W.condF rfl (W.skip (W.seq (W.seq ?_)))))
    have htk : ¬ takesP t i other := fun hx => c79 hx.2.2
    have h := On.zer0 (l := (preL t i other)) (h.fetch (blk b t.cells 137))
    refine W.region (WL.val run_assign rfl rfl (WL.nil (W.block ?_)))
    refine W.loop (fun (q : Nat) env w => ∃ j, env = mkE j [(0, .pointer (some ⟨b, 0, none⟩)), (10, .pointer (some ⟨b10, 0, none⟩)), (12, .slice a (preL t i other).length c), (14, .int .i64 (q : Int))] ∧ q ≤ (preL t i other).length ∧ On W0 (Own 2 (.slice a (preL t i other).length c) (preL t i other).length (notesV 10757 ((preL t i other))) :: blk b (zer t ((preL t i other).take q)).cells 137 :: blk b10 [.int .i64 0, .int .i64 0, .int .i64 0, .slice none 0 0, .int .i64 0] 36 :: L) w) (fun q => (preL t i other).length - q) (0) ?_ ?_
    · exact ⟨_, mkE_of ⟨rfl, rfl, rfl, rfl, trivial⟩, Nat.zero_le _, h.to⟩
    rintro q env w ⟨j, rfl, hq, h⟩
    refine W.seq (W.seq (W.region (WL.val run_move rfl rfl (WL.val run_move rfl rfl (WL.val (run_lenSlice underlying141 rfl) rfl rfl (WL.val (run_lss rfl rfl) rfl rfl (WL.nil ?_)))))))
    refine W.condIf rfl (fun c48 => ?_) (fun c48 => ?_)
    ·
     refine W.skip (W.seq ?_)
     have hql : q < (preL t i other).length := by omega
     have hn : ∃ n, (preL t i other)[q]? = some n := ⟨(preL t i other)[q], by simp⟩
     obtain ⟨n, hn⟩ := hn
     have hn8 : n < 8 := (hostsN_mem.1 (List.mem_of_getElem? hn)).1
     have ha := Own.addr h (by omega)
     obtain ⟨bn, on, hal⟩ := ha
     subst hal
     refine W.block ?_
     refine W.draw Tryz.follows h (fun w h => ?_)
     refine WT.pure 0 rfl (by kernel_rfl) (fun w' => run_move) rfl rfl (WT.pure 1 rfl (by kernel_rfl) (fun w' => run_move) rfl rfl (WT.pure 2 rfl (by kernel_rfl) (fun w' => run_move) rfl rfl (WT.pure 3 rfl (by kernel_rfl) (fun w' => (run_indexAddr underlying141 sizeOf179 rfl rfl (by omega) (by omega))) rfl rfl (WT.pure 4 rfl (by kernel_rfl) (fun w' => (run_fieldAddr 0 underlying179 rfl sizeOf3 rfl rfl)) rfl rfl (WT.load1 5 rfl (by kernel_rfl) isAgg3 rfl ((h.cellsO (v := .slice (some ⟨bn, on, none⟩) (preL t i other).length c)).elem (i := q) (vs := noteV 10757 n) hql (drop_flatMap (noteV 10757) 2 (noteV_length 10757) (preL t i other) _ _ hn) 0 _ rfl) rfl rfl (WT.pure 6 rfl (by kernel_rfl) (fun w' => (run_nilCheck rfl)) rfl rfl (WT.pure 7 rfl (by kernel_rfl) (fun w' => (run_fieldAddr 0 underlying137 rfl sizeOf85 rfl rfl)) rfl rfl ?_)))))))
     refine WT.pure 8 rfl (by kernel_rfl) (fun w' => (run_indexAddrArr underlying85 sizeOf23 rfl rfl (by omega) (by omega))) rfl rfl (WT.eff 9 [false] rfl (by kernel_rfl) (by kernel_rfl) (eff_store (v := .int .u64 _) h sizeOf23 rfl rfl rfl (cells_lt hn8) (free0 _)) rfl rfl ?_)
     rintro _ w h
     rw [cells_set hn8, ← zer_snoc, ← RsM.take_snoc hn] at h
     refine ⟨trivial, ?_⟩
     refine WT.done (by kernel_rfl) (W.region (WL.val run_move rfl rfl (WL.val (run_incN rfl rfl (by omega)) rfl rfl (WL.val run_assign rfl rfl (WL.nil ?_)))))
     exact ⟨q + 1, ⟨_, mkE_of ⟨rfl, rfl, rfl, rfl, trivial⟩, by omega, h.to⟩, by show (preL t i other).length - (q + 1) < (preL t i other).length - q; omega⟩
    refine W.exit (W.seq ?_)
    have ob_ : q = (preL t i other).length := by omega
    obtain rfl := ob_
    rw [List.take_length] at h
    have h := h.fetch (blk b (zer t (preL t i other)).cells 137)
    refine W.region (WL.val run_move rfl rfl (WL.val (run_nilCheck rfl) rfl rfl (WL.val (run_fieldAddr 10 underlying137 rfl sizeOf111 rfl rfl) rfl rfl (WL.val (run_load1 isAgg111 rfl (h.cellB rfl)) rfl rfl (WL.val (run_addW rfl rfl) rfl rfl (WL.val (run_nilCheck rfl) rfl rfl (WL.val (run_fieldAddr 10 underlying137 rfl sizeOf111 rfl rfl) rfl rfl ?_)))))))
    refine WL.eff (eff_store (v := .int .u32 _) h sizeOf111 rfl rfl rfl rfl rfl) rfl rfl ?_
    rintro _ w h
    try simp only [Nat.zero_add, Nat.add_zero, List.set_cons_zero, List.set_cons_succ] at h
    refine WL.nil (W.seq ?_)
    have et0 : preT t i other typ = (zer t (preL t i other)).inc := by unfold preT preT0; rw [if_neg htk]; rfl
    have h := h.fetch (blk b ((zer t (preL t i other)).cells.set (0 + 10) (.int .u32 (IntKind.u32.wrap ((zer t (preL t i other)).gen + 1)))) 137)
    have h : On W0 (blk b (zer t (preL t i other)).inc.cells 137 :: _) w := h
    rw [← et0] at h
    refine W.region (WL.eff (eff_call call131 (rgood_ok h)) rfl rfl ?_)
    rintro _ w ⟨rfl, h⟩
    refine WL.val run_move rfl rfl (WL.eff (eff_storeW (vs := [.int .i64 _, .int .i64 _, .int .i64 _, .slice _ _ _, .int .i64 _]) h sizeOf36 rfl rfl rfl rfl rfl) rfl rfl ?_)
    rintro _ w h
    refine WL.val run_assign rfl rfl (WL.nil (W.ret (bodyQ.rctB (vs := [.int .i64 _, .int .i64 _, .int .i64 _, .slice _ _ _, .int .i64 _]) (v2 := .slice _ _ _) h results93 isAgg36 sizeOf36 rfl rfl rfl rfl ?_)))
    have e : preF t i key other typ = ⟨preT t i other typ, plain 0 0 0, preL t i other, 10757⟩ := by unfold preF; rw [if_neg (by rw [hok]; decide), if_neg c11, if_neg (fun e => c30 (by rw [show (hostsN t.K i (fun x => decide (x = other)) 8) = [] from e]; rfl)), if_neg (fun hx => htk hx.1)]
    rw [e]
    dsimp only
    exact ⟨a, c, rfl, h.to⟩
   refine WT.pure 12 rfl (by kernel_rfl) (fun w' => (run_pickT rfl)) rfl rfl (WT.pure 13 rfl (by kernel_rfl) (fun w' => run_move) rfl rfl (WT.skip 14 rfl (by kernel_rfl) rfl rfl (WT.skip 15 rfl (by kernel_rfl) rfl rfl (WT.skip 16 rfl (by kernel_rfl) rfl rfl (WT.skip 17 rfl (by kernel_rfl) rfl rfl (WT.skip 18 rfl (by kernel_rfl) rfl rfl (WT.skip 19 rfl (by kernel_rfl) rfl rfl ?_)))))))
   refine WT.skip 20 rfl (by kernel_rfl) rfl rfl (WT.skip 21 rfl (by kernel_rfl) rfl rfl (WT.skip 22 rfl (by kernel_rfl) rfl rfl (WT.skip 23 rfl (by kernel_rfl) rfl rfl (WT.skip 24 rfl (by kernel_rfl) rfl rfl (WT.pure 25 rfl (by kernel_rfl) (fun w' => (run_pickF rfl)) rfl rfl (WT.done (by kernel_rfl) (W.condF rfl ?_)))))))
   refine W.skip (W.seq (W.seq ?_))
   have htk : ¬ takesP t i other := fun hx => c66 hx.2.1
   have h := On.zer0 (l := (preL t i other)) (h.fetch (blk b t.cells 137))
   refine W.region (WL.val run_assign rfl rfl (WL.nil (W.block ?_)))
   refine W.loop (fun (q : Nat) env w => ∃ j, env = mkE j [(0, .pointer (some ⟨b, 0, none⟩)), (10, .pointer (some ⟨b10, 0, none⟩)), (12, .slice a (preL t i other).length c), (14, .int .i64 (q : Int))] ∧ q ≤ (preL t i other).length ∧ On W0 (Own 2 (.slice a (preL t i other).length c) (preL t i other).length (notesV 10757 ((preL t i other))) :: blk b (zer t ((preL t i other).take q)).cells 137 :: blk b10 [.int .i64 0, .int .i64 0, .int .i64 0, .slice none 0 0, .int .i64 0] 36 :: L) w) (fun q => (preL t i other).length - q) (0) ?_ ?_
   · exact ⟨_, mkE_of ⟨rfl, rfl, rfl, rfl, trivial⟩, Nat.zero_le _, h.to⟩
   rintro q env w ⟨j, rfl, hq, h⟩
   refine W.seq (W.seq (W.region (WL.val run_move rfl rfl (WL.val run_move rfl rfl (WL.val (run_lenSlice underlying141 rfl) rfl rfl (WL.val (run_lss rfl rfl) rfl rfl (WL.nil ?_)))))))
   refine W.condIf rfl (fun c48 => ?_) (fun c48 => ?_)
   ·
    refine W.skip (W.seq ?_)
    have hql : q < (preL t i other).length := by omega
    have hn : ∃ n, (preL t i other)[q]? = some n := ⟨(preL t i other)[q], by simp⟩
    obtain ⟨n, hn⟩ := hn
    have hn8 : n < 8 := (hostsN_mem.1 (List.mem_of_getElem? hn)).1
    have ha := Own.addr h (by omega)
    obtain ⟨bn, on, hal⟩ := ha
    subst hal
    refine W.block ?_
    refine W.draw Tryz.follows h (fun w h => ?_)
    refine WT.pure 0 rfl (by kernel_rfl) (fun w' => run_move) rfl rfl (WT.pure 1 rfl (by kernel_rfl) (fun w' => run_move) rfl rfl (WT.pure 2 rfl (by kernel_rfl) (fun w' => run_move) rfl rfl (WT.pure 3 rfl (by kernel_rfl) (fun w' => (run_indexAddr underlying141 sizeOf179 rfl rfl (by omega) (by omega))) rfl rfl (WT.pure 4 rfl (by kernel_rfl) (fun w' => (run_fieldAddr 0 underlying179 rfl sizeOf3 rfl rfl)) rfl rfl (WT.load1 5 rfl (by kernel_rfl) isAgg3 rfl ((h.cellsO (v := .slice (some ⟨bn, on, none⟩) (preL t i other).length c)).elem (i := q) (vs := noteV 10757 n) hql (drop_flatMap (noteV 10757) 2 (noteV_length 10757) (preL t i other) _ _ hn) 0 _ rfl) rfl rfl (WT.pure 6 rfl (by kernel_rfl) (fun w' => (run_nilCheck rfl)) rfl rfl (WT.pure 7 rfl (by kernel_rfl) (fun w' => (run_fieldAddr 0 underlying137 rfl sizeOf85 rfl rfl)) rfl rfl ?_)))))))
    refine WT.pure 8 rfl (by kernel_rfl) (fun w' => (run_indexAddrArr underlying85 sizeOf23 rfl rfl (by omega) (by omega))) rfl rfl (WT.eff 9 [false] rfl (by kernel_rfl) (by kernel_rfl) (eff_store (v := .int .u64 _) h sizeOf23 rfl rfl rfl (cells_lt hn8) (free0 _)) rfl rfl ?_)
    rintro _ w h
    rw [cells_set hn8, ← zer_snoc, ← RsM.take_snoc hn] at h
    refine ⟨trivial, ?_⟩
    refine WT.done (by kernel_rfl) (W.region (WL.val run_move rfl rfl (WL.val (run_incN rfl rfl (by omega)) rfl rfl (WL.val run_assign rfl rfl (WL.nil ?_)))))
    exact ⟨q + 1, ⟨_, mkE_of ⟨rfl, rfl, rfl, rfl, trivial⟩, by omega, h.to⟩, by show (preL t i other).length - (q + 1) < (preL t i other).length - q; omega⟩
   refine W.exit (W.seq ?_)
   have ob_ : q = (preL t i other).length := by omega
   obtain rfl := ob_
   rw [List.take_length] at h
   have h := h.fetch (blk b (zer t (preL t i other)).cells 137)
   refine W.region (WL.val run_move rfl rfl (WL.val (run_nilCheck rfl) rfl rfl (WL.val (run_fieldAddr 10 underlying137 rfl sizeOf111 rfl rfl) rfl rfl (WL.val (run_load1 isAgg111 rfl (h.cellB rfl)) rfl rfl (WL.val (run_addW rfl rfl) rfl rfl (WL.val (run_nilCheck rfl) rfl rfl (WL.val (run_fieldAddr 10 underlying137 rfl sizeOf111 rfl rfl) rfl rfl ?_)))))))
   refine WL.eff (eff_store (v := .int .u32 _) h sizeOf111 rfl rfl rfl rfl rfl) rfl rfl ?_
   rintro _ w h
   try simp only [Nat.zero_add, Nat.add_zero, List.set_cons_zero, List.set_cons_succ] at h
   refine WL.nil (W.seq ?_)
   have et0 : preT t i other typ = (zer t (preL t i other)).inc := by unfold preT preT0; rw [if_neg htk]; rfl
   have h := h.fetch (blk b ((zer t (preL t i other)).cells.set (0 + 10) (.int .u32 (IntKind.u32.wrap ((zer t (preL t i other)).gen + 1)))) 137)
   have h : On W0 (blk b (zer t (preL t i other)).inc.cells 137 :: _) w := h
   rw [← et0] at h
   refine W.region (WL.eff (eff_call call131 (rgood_ok h)) rfl rfl ?_)
   rintro _ w ⟨rfl, h⟩
   refine WL.val run_move rfl rfl (WL.eff (eff_storeW (vs := [.int .i64 _, .int .i64 _, .int .i64 _, .slice _ _ _, .int .i64 _]) h sizeOf36 rfl rfl rfl rfl rfl) rfl rfl ?_)
   rintro _ w h
   refine WL.val run_assign rfl rfl (WL.nil (W.ret (bodyQ.rctB (vs := [.int .i64 _, .int .i64 _, .int .i64 _, .slice _ _ _, .int .i64 _]) (v2 := .slice _ _ _) h results93 isAgg36 sizeOf36 rfl rfl rfl rfl ?_)))
   have e : preF t i key other typ = ⟨preT t i other typ, plain 0 0 0, preL t i other, 10757⟩ := by unfold preF; rw [if_neg (by rw [hok]; decide), if_neg c11, if_neg (fun e => c30 (by rw [show (hostsN t.K i (fun x => decide (x = other)) 8) = [] from e]; rfl)), if_neg (fun hx => htk hx.1)]
   rw [e]
   dsimp only
   exact ⟨a, c, rfl, h.to⟩
  refine WT.pure 5 rfl (by kernel_rfl) (fun w' => run_move) rfl rfl (WT.skip 6 rfl (by kernel_rfl) rfl rfl (WT.skip 7 rfl (by kernel_rfl) rfl rfl (WT.skip 8 rfl (by kernel_rfl) rfl rfl (WT.skip 9 rfl (by kernel_rfl) rfl rfl (WT.skip 10 rfl (by kernel_rfl) rfl rfl (WT.skip 11 rfl (by kernel_rfl) rfl rfl (WT.pure 12 rfl (by kernel_rfl) (fun w' => (run_pickF rfl)) rfl rfl ?_)))))))
  refine WT.pure 13 rfl (by kernel_rfl) (fun w' => run_move) rfl rfl (WT.skip 14 rfl (by kernel_rfl) rfl rfl (WT.skip 15 rfl (by kernel_rfl) rfl rfl (WT.skip 16 rfl (by kernel_rfl) rfl rfl (WT.skip 17 rfl (by kernel_rfl) rfl rfl (WT.skip 18 rfl (by kernel_rfl) rfl rfl (WT.skip 19 rfl (by kernel_rfl) rfl rfl (WT.skip 20 rfl (by kernel_rfl) rfl rfl ?_)))))))
  refine WT.skip 21 rfl (by kernel_rfl) rfl rfl (WT.skip 22 rfl (by kernel_rfl) rfl rfl (WT.skip 23 rfl (by kernel_rfl) rfl rfl (WT.skip 24 rfl (by kernel_rfl) rfl rfl (WT.pure 25 rfl (by kernel_rfl) (fun w' => (run_pickF rfl)) rfl rfl (WT.done (by kernel_rfl) (W.condF rfl (W.skip ?_)))))))
  refine W.seq (W.seq ?_)
  have htk : ¬ takesP t i other := fun hx => c59 (by have := hx.1; omega)
  have h := On.zer0 (l := (preL t i other)) (h.fetch (blk b t.cells 137))
  refine W.region (WL.val run_assign rfl rfl (WL.nil (W.block ?_)))
  refine W.loop (fun (q : Nat) env w => ∃ j, env = mkE j [(0, .pointer (some ⟨b, 0, none⟩)), (10, .pointer (some ⟨b10, 0, none⟩)), (12, .slice a (preL t i other).length c), (14, .int .i64 (q : Int))] ∧ q ≤ (preL t i other).length ∧ On W0 (Own 2 (.slice a (preL t i other).length c) (preL t i other).length (notesV 10757 ((preL t i other))) :: blk b (zer t ((preL t i other).take q)).cells 137 :: blk b10 [.int .i64 0, .int .i64 0, .int .i64 0, .slice none 0 0, .int .i64 0] 36 :: L) w) (fun q => (preL t i other).length - q) (0) ?_ ?_
  · exact ⟨_, mkE_of ⟨rfl, rfl, rfl, rfl, trivial⟩, Nat.zero_le _, h.to⟩
  rintro q env w ⟨j, rfl, hq, h⟩
  refine W.seq (W.seq (W.region (WL.val run_move rfl rfl (WL.val run_move rfl rfl (WL.val (run_lenSlice underlying141 rfl) rfl rfl (WL.val (run_lss rfl rfl) rfl rfl (WL.nil ?_)))))))
  refine W.condIf rfl (fun c48 => ?_) (fun c48 => ?_)
  ·
   refine W.skip (W.seq ?_)
   have hql : q < (preL t i other).length := by omega
   have hn : ∃ n, (preL t i other)[q]? = some n := ⟨(preL t i other)[q], by simp⟩
   obtain ⟨n, hn⟩ := hn
   have hn8 : n < 8 := (hostsN_mem.1 (List.mem_of_getElem? hn)).1
   have ha := Own.addr h (by omega)
   obtain ⟨bn, on, hal⟩ := ha
   subst hal
   refine W.block ?_
   refine W.draw Tryz.follows h (fun w h => ?_)
   refine WT.pure 0 rfl (by kernel_rfl) (fun w' => run_move) rfl rfl (WT.pure 1 rfl (by kernel_rfl) (fun w' => run_move) rfl rfl (WT.pure 2 rfl (by kernel_rfl) (fun w' => run_move) rfl rfl (WT.pure 3 rfl (by kernel_rfl) (fun w' => (run_indexAddr underlying141 sizeOf179 rfl rfl (by omega) (by omega))) rfl rfl (WT.pure 4 rfl (by kernel_rfl) (fun w' => (run_fieldAddr 0 underlying179 rfl sizeOf3 rfl rfl)) rfl rfl (WT.load1 5 rfl (by kernel_rfl) isAgg3 rfl ((h.cellsO (v := .slice (some ⟨bn, on, none⟩) (preL t i other).length c)).elem (i := q) (vs := noteV 10757 n) hql (drop_flatMap (noteV 10757) 2 (noteV_length 10757) (preL t i other) _ _ hn) 0 _ rfl) rfl rfl (WT.pure 6 rfl (by kernel_rfl) (fun w' => (run_nilCheck rfl)) rfl rfl (WT.pure 7 rfl (by kernel_rfl) (fun w' => (run_fieldAddr 0 underlying137 rfl sizeOf85 rfl rfl)) rfl rfl ?_)))))))
   refine WT.pure 8 rfl (by kernel_rfl) (fun w' => (run_indexAddrArr underlying85 sizeOf23 rfl rfl (by omega) (by omega))) rfl rfl (WT.eff 9 [false] rfl (by kernel_rfl) (by kernel_rfl) (eff_store (v := .int .u64 _) h sizeOf23 rfl rfl rfl (cells_lt hn8) (free0 _)) rfl rfl ?_)
   rintro _ w h
   rw [cells_set hn8, ← zer_snoc, ← RsM.take_snoc hn] at h
   refine ⟨trivial, ?_⟩
   refine WT.done (by kernel_rfl) (W.region (WL.val run_move rfl rfl (WL.val (run_incN rfl rfl (by omega)) rfl rfl (WL.val run_assign rfl rfl (WL.nil ?_)))))
   exact ⟨q + 1, ⟨_, mkE_of ⟨rfl, rfl, rfl, rfl, trivial⟩, by omega, h.to⟩, by show (preL t i other).length - (q + 1) < (preL t i other).length - q; omega⟩
  refine W.exit (W.seq ?_)
  have ob_ : q = (preL t i other).length := by omega
  obtain rfl := ob_
  rw [List.take_length] at h
  have h := h.fetch (blk b (zer t (preL t i other)).cells 137)
  refine W.region (WL.val run_move rfl rfl (WL.val (run_nilCheck rfl) rfl rfl (WL.val (run_fieldAddr 10 underlying137 rfl sizeOf111 rfl rfl) rfl rfl (WL.val (run_load1 isAgg111 rfl (h.cellB rfl)) rfl rfl (WL.val (run_addW rfl rfl) rfl rfl (WL.val (run_nilCheck rfl) rfl rfl (WL.val (run_fieldAddr 10 underlying137 rfl sizeOf111 rfl rfl) rfl rfl ?_)))))))
  refine WL.eff (eff_store (v := .int .u32 _) h sizeOf111 rfl rfl rfl rfl rfl) rfl rfl ?_
  rintro _ w h
  try simp only [Nat.zero_add, Nat.add_zero, List.set_cons_zero, List.set_cons_succ] at h
  refine WL.nil (W.seq ?_)
  have et0 : preT t i other typ = (zer t (preL t i other)).inc := by unfold preT preT0; rw [if_neg htk]; rfl
  have h := h.fetch (blk b ((zer t (preL t i other)).cells.set (0 + 10) (.int .u32 (IntKind.u32.wrap ((zer t (preL t i other)).gen + 1)))) 137)
  have h : On W0 (blk b (zer t (preL t i other)).inc.cells 137 :: _) w := h
  rw [← et0] at h
  refine W.region (WL.eff (eff_call call131 (rgood_ok h)) rfl rfl ?_)
  rintro _ w ⟨rfl, h⟩
  refine WL.val run_move rfl rfl (WL.eff (eff_storeW (vs := [.int .i64 _, .int .i64 _, .int .i64 _, .slice _ _ _, .int .i64 _]) h sizeOf36 rfl rfl rfl rfl rfl) rfl rfl ?_)
  rintro _ w h
  refine WL.val run_assign rfl rfl (WL.nil (W.ret (bodyQ.rctB (vs := [.int .i64 _, .int .i64 _, .int .i64 _, .slice _ _ _, .int .i64 _]) (v2 := .slice _ _ _) h results93 isAgg36 sizeOf36 rfl rfl rfl rfl ?_)))
  have e : preF t i key other typ = ⟨preT t i other typ, plain 0 0 0, preL t i other, 10757⟩ := by unfold preF; rw [if_neg (by rw [hok]; decide), if_neg c11, if_neg (fun e => c30 (by rw [show (hostsN t.K i (fun x => decide (x = other)) 8) = [] from e]; rfl)), if_neg (fun hx => htk hx.1)]
  rw [e]
  dsimp only
  exact ⟨a, c, rfl, h.to⟩
theorem rallows_ok {b i : Nat} {t : Tb} {kind : Int} (hi : i < 8) (hty6 : t.typ ≤ 6) (hI : t.hold = -1 ∨ (0 ≤ t.hold ∧ t.hold < 8)) (h : On W0 (blk b t.cells 137 :: L) w) : Calls Tryz.prog 84 #[.pointer (some ⟨b, 0, none⟩), .int .i64 (i : Int), .int .i64 kind] w (Ret fun v w' => v = .bool (allowB t i kind) ∧ On W0 (blk b t.cells 137 :: L) w') := by
  refine enter func84 rfl ntmps84 rfl (W.seq (W.region (WL.val run_assign rfl rfl (WL.nil (W.seq (W.seq (W.region ?_)))))))
  refine WL.val run_move rfl rfl (WL.val (run_nilCheck rfl) rfl rfl (WL.val (run_fieldAddr 8 underlying137 rfl sizeOf3 rfl rfl) rfl rfl (WL.val (run_load1 isAgg3 rfl (h.cellB rfl)) rfl rfl ?_)))
  refine WL.dec (run_lss rfl rfl) rfl rfl (fun c11 => ?_) (fun c11 => ?_)
  ·
   refine WL.val run_move rfl rfl (WL.skip rfl rfl (WL.skip rfl rfl (WL.skip rfl rfl (WL.skip rfl rfl (WL.skip rfl rfl (WL.skip rfl rfl (WL.val (run_pickT rfl) rfl rfl ?_)))))))
   refine WL.nil (W.condT rfl (W.seq (W.region (WL.val run_assign rfl rfl (WL.nil (W.ret (bodyQ.r1 (v := .bool _) results84 rfl ?_)))))))
   exact ⟨by rw [allowB_iff.2 (.inl (.inl (by omega)))], h⟩
  refine WL.val run_move rfl rfl (WL.val run_move rfl rfl (WL.val (run_nilCheck rfl) rfl rfl (WL.val (run_fieldAddr 8 underlying137 rfl sizeOf3 rfl rfl) rfl rfl (WL.val (run_load1 isAgg3 rfl (h.cellB rfl)) rfl rfl (WL.val run_move rfl rfl (WL.val (run_eql rfl rfl) rfl rfl (WL.val (run_pickF rfl) rfl rfl ?_)))))))
  refine WL.nil ?_
  refine W.condIf rfl (fun c2 => ?_) (fun c2 => ?_)
  ·
   refine W.seq (W.region (WL.val run_assign rfl rfl (WL.nil (W.ret (bodyQ.r1 (v := .bool _) results84 rfl ?_)))))
   exact ⟨by rw [allowB_iff.2 (.inl (.inr (.inl c2)))], h⟩
  refine W.skip (W.seq (W.seq (W.region (WL.val run_move rfl rfl (WL.val (run_nilCheck rfl) rfl rfl (WL.val (run_fieldAddr 9 underlying137 rfl sizeOf3 rfl rfl) rfl rfl (WL.val (run_load1 isAgg3 rfl (h.cellB rfl)) rfl rfl ?_)))))))
  refine WL.dec (run_geq rfl rfl) rfl rfl (fun c24 => ?_) (fun c24 => ?_)
  ·
   refine WL.val run_move rfl rfl (WL.val run_move rfl rfl (WL.eff (eff_call call123 (rno_ok h)) rfl rfl ?_))
   rintro _ w ⟨hv, h⟩
   rcases hv with ⟨hb_, _⟩ | ⟨_, hv⟩
   · rw [hostB_iff.2 ⟨by omega, by omega⟩] at hb_; cases hb_
   subst hv
   refine WL.val (run_not rfl) rfl rfl (WL.val (run_pickT rfl) rfl rfl (WL.val run_move rfl rfl (WL.val run_move rfl rfl (WL.val run_move rfl rfl (WL.val (run_nilCheck rfl) rfl rfl (WL.val (run_fieldAddr 0 underlying137 rfl sizeOf85 rfl rfl) rfl rfl (WL.val (run_indexAddrArr underlying85 sizeOf23 rfl rfl (by omega) (by omega)) rfl rfl ?_)))))))
   refine WL.val (run_load1 isAgg23 rfl (h.cellB (cells_at hi))) rfl rfl ?_
   refine WL.dec (run_neq rfl rfl) rfl rfl (fun c37 => ?_) (fun c37 => ?_)
   ·
    refine WL.val (run_pickT rfl) rfl rfl (WL.nil (W.condT rfl (W.seq (W.region (WL.val run_assign rfl rfl (WL.nil (W.ret ?_)))))))
    refine bodyQ.r1 (v := .bool _) results84 rfl ?_
    exact ⟨by rw [allowB_iff.2 (.inl (.inr (.inr ⟨by rw [Tb.regsB_iff]; omega, i, rfl, hi, c37⟩)))], h⟩
   refine WL.val (run_pickT rfl) rfl rfl (WL.nil (W.condF rfl (W.skip (W.seq (W.seq (W.region (WL.val run_move rfl rfl ?_)))))))
   refine WL.nil (W.block (W.seq (W.seq (W.region (WL.val (run_eql rfl rfl) rfl rfl (WL.val run_assign rfl rfl (WL.nil ?_)))))))
   refine W.condIf rfl (fun c14 => ?_) (fun c14 => ?_)
   ·
    refine W.skip ?_
    refine W.condIf rfl (fun c17 => ?_) (fun c17 => ?_)
    ·
     refine W.seq (W.region (WL.val run_move rfl rfl (WL.val (run_nilCheck rfl) rfl rfl (WL.val (run_fieldAddr 9 underlying137 rfl sizeOf3 rfl rfl) rfl rfl (WL.val (run_load1 isAgg3 rfl (h.cellB rfl)) rfl rfl ?_)))))
     refine WL.dec (run_eql rfl rfl) rfl rfl (fun c47 => ?_) (fun c47 => ?_)
     ·
      refine WL.val run_move rfl rfl (WL.skip rfl rfl (WL.skip rfl rfl (WL.skip rfl rfl (WL.skip rfl rfl (WL.skip rfl rfl (WL.val (run_pickT rfl) rfl rfl (WL.val run_assign rfl rfl ?_)))))))
      refine WL.nil (W.ret (bodyQ.r1 (v := .bool _) results84 rfl ?_))
      exact ⟨by rw [allowB_iff.2 (.inr (.inl ⟨by omega, by omega⟩))], h⟩
     refine WL.val run_move rfl rfl (WL.val run_move rfl rfl (WL.val (run_nilCheck rfl) rfl rfl (WL.val (run_fieldAddr 9 underlying137 rfl sizeOf3 rfl rfl) rfl rfl (WL.val (run_load1 isAgg3 rfl (h.cellB rfl)) rfl rfl ?_))))
     refine WL.dec (run_eql rfl rfl) rfl rfl (fun c53 => ?_) (fun c53 => ?_)
     ·
      refine WL.val (run_pickF rfl) rfl rfl (WL.val run_assign rfl rfl (WL.nil (W.ret (bodyQ.r1 (v := .bool _) results84 rfl ?_))))
      exact ⟨by rw [allowB_iff.2 (.inr (.inl ⟨by omega, by omega⟩))], h⟩
     refine WL.val (run_pickF rfl) rfl rfl (WL.val run_assign rfl rfl (WL.nil (W.ret (bodyQ.r1 (v := .bool _) results84 rfl ?_))))
     have hal : ¬ alwP t i := by
       rintro (h1 | h1 | ⟨h1, j, hj, h2, h3⟩)
       · exact c11 (by omega)
       · exact c2 h1
       · have : i = j := Int.ofNat.inj hj; subst this; exact c37 h3
     exact ⟨by rw [show allowB t i kind = false by rw [← Bool.not_eq_true, allowB_iff]; rintro (h1 | h1 | h1); exact hal h1; omega; omega], h⟩
    exact absurd c14 c17
   refine W.region (WL.val (run_eql rfl rfl) rfl rfl (WL.val run_assign rfl rfl (WL.nil ?_)))
   refine W.condIf rfl (fun c17 => ?_) (fun c17 => ?_)
   ·
    refine W.seq (W.region (WL.val run_move rfl rfl (WL.val (run_nilCheck rfl) rfl rfl (WL.val (run_fieldAddr 9 underlying137 rfl sizeOf3 rfl rfl) rfl rfl (WL.val (run_load1 isAgg3 rfl (h.cellB rfl)) rfl rfl ?_)))))
    refine WL.dec (run_eql rfl rfl) rfl rfl (fun c47 => ?_) (fun c47 => ?_)
    ·
     refine WL.val run_move rfl rfl (WL.skip rfl rfl (WL.skip rfl rfl (WL.skip rfl rfl (WL.skip rfl rfl (WL.skip rfl rfl (WL.val (run_pickT rfl) rfl rfl (WL.val run_assign rfl rfl ?_)))))))
     refine WL.nil (W.ret (bodyQ.r1 (v := .bool _) results84 rfl ?_))
     exact ⟨by rw [allowB_iff.2 (.inr (.inl ⟨by omega, by omega⟩))], h⟩
    refine WL.val run_move rfl rfl (WL.val run_move rfl rfl (WL.val (run_nilCheck rfl) rfl rfl (WL.val (run_fieldAddr 9 underlying137 rfl sizeOf3 rfl rfl) rfl rfl (WL.val (run_load1 isAgg3 rfl (h.cellB rfl)) rfl rfl ?_))))
    refine WL.dec (run_eql rfl rfl) rfl rfl (fun c53 => ?_) (fun c53 => ?_)
    ·
     refine WL.val (run_pickF rfl) rfl rfl (WL.val run_assign rfl rfl (WL.nil (W.ret (bodyQ.r1 (v := .bool _) results84 rfl ?_))))
     exact ⟨by rw [allowB_iff.2 (.inr (.inl ⟨by omega, by omega⟩))], h⟩
    refine WL.val (run_pickF rfl) rfl rfl (WL.val run_assign rfl rfl (WL.nil (W.ret (bodyQ.r1 (v := .bool _) results84 rfl ?_))))
    have hal : ¬ alwP t i := by
      rintro (h1 | h1 | ⟨h1, j, hj, h2, h3⟩)
      · exact c11 (by omega)
      · exact c2 h1
      · have : i = j := Int.ofNat.inj hj; subst this; exact c37 h3
    exact ⟨by rw [show allowB t i kind = false by rw [← Bool.not_eq_true, allowB_iff]; rintro (h1 | h1 | h1); exact hal h1; omega; omega], h⟩
   refine W.seq (W.seq (W.region (WL.val (run_eql rfl rfl) rfl rfl (WL.val run_assign rfl rfl (WL.nil ?_)))))
   refine W.condIf rfl (fun c21 => ?_) (fun c21 => ?_)
   ·
    refine W.skip ?_
    refine W.condIf rfl (fun c30 => ?_) (fun c30 => ?_)
    ·
     refine W.seq (W.region (WL.val run_assign rfl rfl (WL.nil (W.ret (bodyQ.r1 (v := .bool _) results84 rfl ?_)))))
     have hal : ¬ alwP t i := by
       rintro (h1 | h1 | ⟨h1, j, hj, h2, h3⟩)
       · exact c11 (by omega)
       · exact c2 h1
       · have : i = j := Int.ofNat.inj hj; subst this; exact c37 h3
     exact ⟨by rw [show allowB t i kind = false by rw [← Bool.not_eq_true, allowB_iff]; rintro (h1 | h1 | h1); exact hal h1; omega; omega], h⟩
    exact absurd c21 c30
   refine W.seq (W.region (WL.val (run_eql rfl rfl) rfl rfl (WL.val run_assign rfl rfl (WL.nil ?_))))
   refine W.condIf rfl (fun c24 => ?_) (fun c24 => ?_)
   ·
    refine W.skip ?_
    refine W.condIf rfl (fun c30 => ?_) (fun c30 => ?_)
    ·
     refine W.seq (W.region (WL.val run_assign rfl rfl (WL.nil (W.ret (bodyQ.r1 (v := .bool _) results84 rfl ?_)))))
     have hal : ¬ alwP t i := by
       rintro (h1 | h1 | ⟨h1, j, hj, h2, h3⟩)
       · exact c11 (by omega)
       · exact c2 h1
       · have : i = j := Int.ofNat.inj hj; subst this; exact c37 h3
     exact ⟨by rw [show allowB t i kind = false by rw [← Bool.not_eq_true, allowB_iff]; rintro (h1 | h1 | h1); exact hal h1; omega; omega], h⟩
    exact absurd c24 c30
   refine W.seq (W.region (WL.val (run_eql rfl rfl) rfl rfl (WL.val run_assign rfl rfl (WL.nil ?_))))
   refine W.condIf rfl (fun c27 => ?_) (fun c27 => ?_)
   ·
    refine W.skip ?_
    refine W.condIf rfl (fun c30 => ?_) (fun c30 => ?_)
    ·
     refine W.seq (W.region (WL.val run_assign rfl rfl (WL.nil (W.ret (bodyQ.r1 (v := .bool _) results84 rfl ?_)))))
     have hal : ¬ alwP t i := by
       rintro (h1 | h1 | ⟨h1, j, hj, h2, h3⟩)
       · exact c11 (by omega)
       · exact c2 h1
       · have : i = j := Int.ofNat.inj hj; subst this; exact c37 h3
     exact ⟨by rw [show allowB t i kind = false by rw [← Bool.not_eq_true, allowB_iff]; rintro (h1 | h1 | h1); exact hal h1; omega; omega], h⟩
    exact absurd c27 c30
   refine W.region (WL.val (run_eql rfl rfl) rfl rfl (WL.val run_assign rfl rfl (WL.nil ?_)))
   refine W.condIf rfl (fun c30 => ?_) (fun c30 => ?_)
   ·
    refine W.seq (W.region (WL.val run_assign rfl rfl (WL.nil (W.ret (bodyQ.r1 (v := .bool _) results84 rfl ?_)))))
    have hal : ¬ alwP t i := by
      rintro (h1 | h1 | ⟨h1, j, hj, h2, h3⟩)
      · exact c11 (by omega)
      · exact c2 h1
      · have : i = j := Int.ofNat.inj hj; subst this; exact c37 h3
    exact ⟨by rw [show allowB t i kind = false by rw [← Bool.not_eq_true, allowB_iff]; rintro (h1 | h1 | h1); exact hal h1; omega; omega], h⟩
   refine W.skip (W.seq (W.region (WL.val run_assign rfl rfl (WL.nil (W.ret (bodyQ.r1 (v := .bool _) results84 rfl ?_))))))
   exact ⟨by rw [allowB_iff.2 (.inr (.inr (by omega)))], h⟩
  refine WL.val run_move rfl rfl (WL.skip rfl rfl (WL.skip rfl rfl (WL.skip rfl rfl (WL.val (run_pickF rfl) rfl rfl (WL.val run_move rfl rfl (WL.skip rfl rfl (WL.skip rfl rfl ?_)))))))
  refine WL.skip rfl rfl (WL.skip rfl rfl (WL.skip rfl rfl (WL.skip rfl rfl (WL.skip rfl rfl (WL.val (run_pickF rfl) rfl rfl (WL.nil (W.condF rfl ?_)))))))
  refine W.skip (W.seq (W.seq (W.region (WL.val run_move rfl rfl (WL.nil (W.block (W.seq ?_)))))))
  refine W.seq (W.region (WL.val (run_eql rfl rfl) rfl rfl (WL.val run_assign rfl rfl (WL.nil ?_))))
  refine W.condIf rfl (fun c14 => ?_) (fun c14 => ?_)
  ·
   refine W.skip ?_
   refine W.condIf rfl (fun c17 => ?_) (fun c17 => ?_)
   ·
    refine W.seq (W.region (WL.val run_move rfl rfl (WL.val (run_nilCheck rfl) rfl rfl (WL.val (run_fieldAddr 9 underlying137 rfl sizeOf3 rfl rfl) rfl rfl (WL.val (run_load1 isAgg3 rfl (h.cellB rfl)) rfl rfl ?_)))))
    refine WL.dec (run_eql rfl rfl) rfl rfl (fun c47 => ?_) (fun c47 => ?_)
    ·
     refine WL.val run_move rfl rfl (WL.skip rfl rfl (WL.skip rfl rfl (WL.skip rfl rfl (WL.skip rfl rfl (WL.skip rfl rfl (WL.val (run_pickT rfl) rfl rfl (WL.val run_assign rfl rfl ?_)))))))
     refine WL.nil (W.ret (bodyQ.r1 (v := .bool _) results84 rfl ?_))
     exact ⟨by rw [allowB_iff.2 (.inr (.inl ⟨by omega, by omega⟩))], h⟩
    refine WL.val run_move rfl rfl (WL.val run_move rfl rfl (WL.val (run_nilCheck rfl) rfl rfl (WL.val (run_fieldAddr 9 underlying137 rfl sizeOf3 rfl rfl) rfl rfl (WL.val (run_load1 isAgg3 rfl (h.cellB rfl)) rfl rfl ?_))))
    refine WL.dec (run_eql rfl rfl) rfl rfl (fun c53 => ?_) (fun c53 => ?_)
    ·
     refine WL.val (run_pickF rfl) rfl rfl (WL.val run_assign rfl rfl (WL.nil (W.ret (bodyQ.r1 (v := .bool _) results84 rfl ?_))))
     exact ⟨by rw [allowB_iff.2 (.inr (.inl ⟨by omega, by omega⟩))], h⟩
    refine WL.val (run_pickF rfl) rfl rfl (WL.val run_assign rfl rfl (WL.nil (W.ret (bodyQ.r1 (v := .bool _) results84 rfl ?_))))
    have hal : ¬ alwP t i := by
      rintro (h1 | h1 | ⟨h1, j, hj, h2, h3⟩)
      · exact c11 (by omega)
      · exact c2 h1
      · have := Tb.regsB_iff.1 h1; omega
    exact ⟨by rw [show allowB t i kind = false by rw [← Bool.not_eq_true, allowB_iff]; rintro (h1 | h1 | h1); exact hal h1; omega; omega], h⟩
   exact absurd c14 c17
  refine W.region (WL.val (run_eql rfl rfl) rfl rfl (WL.val run_assign rfl rfl (WL.nil ?_)))
  refine W.condIf rfl (fun c17 => ?_) (fun c17 => ?_)
  ·
   refine W.seq (W.region (WL.val run_move rfl rfl (WL.val (run_nilCheck rfl) rfl rfl (WL.val (run_fieldAddr 9 underlying137 rfl sizeOf3 rfl rfl) rfl rfl (WL.val (run_load1 isAgg3 rfl (h.cellB rfl)) rfl rfl ?_)))))
   refine WL.dec (run_eql rfl rfl) rfl rfl (fun c47 => ?_) (fun c47 => ?_)
   ·
    refine WL.val run_move rfl rfl (WL.skip rfl rfl (WL.skip rfl rfl (WL.skip rfl rfl (WL.skip rfl rfl (WL.skip rfl rfl (WL.val (run_pickT rfl) rfl rfl (WL.val run_assign rfl rfl ?_)))))))
    refine WL.nil (W.ret (bodyQ.r1 (v := .bool _) results84 rfl ?_))
    exact ⟨by rw [allowB_iff.2 (.inr (.inl ⟨by omega, by omega⟩))], h⟩
   refine WL.val run_move rfl rfl (WL.val run_move rfl rfl (WL.val (run_nilCheck rfl) rfl rfl (WL.val (run_fieldAddr 9 underlying137 rfl sizeOf3 rfl rfl) rfl rfl (WL.val (run_load1 isAgg3 rfl (h.cellB rfl)) rfl rfl ?_))))
   refine WL.dec (run_eql rfl rfl) rfl rfl (fun c53 => ?_) (fun c53 => ?_)
   ·
    refine WL.val (run_pickF rfl) rfl rfl (WL.val run_assign rfl rfl (WL.nil (W.ret (bodyQ.r1 (v := .bool _) results84 rfl ?_))))
    exact ⟨by rw [allowB_iff.2 (.inr (.inl ⟨by omega, by omega⟩))], h⟩
   refine WL.val (run_pickF rfl) rfl rfl (WL.val run_assign rfl rfl (WL.nil (W.ret (bodyQ.r1 (v := .bool _) results84 rfl ?_))))
   have hal : ¬ alwP t i := by
     rintro (h1 | h1 | ⟨h1, j, hj, h2, h3⟩)
     · exact c11 (by omega)
     · exact c2 h1
     · have := Tb.regsB_iff.1 h1; omega
   exact ⟨by rw [show allowB t i kind = false by rw [← Bool.not_eq_true, allowB_iff]; rintro (h1 | h1 | h1); exact hal h1; omega; omega], h⟩
  refine W.seq (W.seq (W.region (WL.val (run_eql rfl rfl) rfl rfl (WL.val run_assign rfl rfl (WL.nil ?_)))))
  refine W.condIf rfl (fun c21 => ?_) (fun c21 => ?_)
  ·
   refine W.skip ?_
   refine W.condIf rfl (fun c30 => ?_) (fun c30 => ?_)
   ·
    refine W.seq (W.region (WL.val run_assign rfl rfl (WL.nil (W.ret (bodyQ.r1 (v := .bool _) results84 rfl ?_)))))
    have hal : ¬ alwP t i := by
      rintro (h1 | h1 | ⟨h1, j, hj, h2, h3⟩)
      · exact c11 (by omega)
      · exact c2 h1
      · have := Tb.regsB_iff.1 h1; omega
    exact ⟨by rw [show allowB t i kind = false by rw [← Bool.not_eq_true, allowB_iff]; rintro (h1 | h1 | h1); exact hal h1; omega; omega], h⟩
   exact absurd c21 c30
  refine W.seq (W.region (WL.val (run_eql rfl rfl) rfl rfl (WL.val run_assign rfl rfl (WL.nil ?_))))
  refine W.condIf rfl (fun c24 => ?_) (fun c24 => ?_)
  ·
   refine W.skip ?_
   refine W.condIf rfl (fun c30 => ?_) (fun c30 => ?_)
   ·
    refine W.seq (W.region (WL.val run_assign rfl rfl (WL.nil (W.ret (bodyQ.r1 (v := .bool _) results84 rfl ?_)))))
    have hal : ¬ alwP t i := by
      rintro (h1 | h1 | ⟨h1, j, hj, h2, h3⟩)
      · exact c11 (by omega)
      · exact c2 h1
      · have := Tb.regsB_iff.1 h1; omega
    exact ⟨by rw [show allowB t i kind = false by rw [← Bool.not_eq_true, allowB_iff]; rintro (h1 | h1 | h1); exact hal h1; omega; omega], h⟩
   exact absurd c24 c30
  refine W.seq (W.region (WL.val (run_eql rfl rfl) rfl rfl (WL.val run_assign rfl rfl (WL.nil ?_))))
  refine W.condIf rfl (fun c27 => ?_) (fun c27 => ?_)
  ·
   refine W.skip ?_
   refine W.condIf rfl (fun c30 => ?_) (fun c30 => ?_)
   ·
    refine W.seq (W.region (WL.val run_assign rfl rfl (WL.nil (W.ret (bodyQ.r1 (v := .bool _) results84 rfl ?_)))))
    have hal : ¬ alwP t i := by
      rintro (h1 | h1 | ⟨h1, j, hj, h2, h3⟩)
      · exact c11 (by omega)
      · exact c2 h1
      · have := Tb.regsB_iff.1 h1; omega
    exact ⟨by rw [show allowB t i kind = false by rw [← Bool.not_eq_true, allowB_iff]; rintro (h1 | h1 | h1); exact hal h1; omega; omega], h⟩
   exact absurd c27 c30
  refine W.region (WL.val (run_eql rfl rfl) rfl rfl (WL.val run_assign rfl rfl (WL.nil ?_)))
  refine W.condIf rfl (fun c30 => ?_) (fun c30 => ?_)
  ·
   refine W.seq (W.region (WL.val run_assign rfl rfl (WL.nil (W.ret (bodyQ.r1 (v := .bool _) results84 rfl ?_)))))
   have hal : ¬ alwP t i := by
     rintro (h1 | h1 | ⟨h1, j, hj, h2, h3⟩)
     · exact c11 (by omega)
     · exact c2 h1
     · have := Tb.regsB_iff.1 h1; omega
   exact ⟨by rw [show allowB t i kind = false by rw [← Bool.not_eq_true, allowB_iff]; rintro (h1 | h1 | h1); exact hal h1; omega; omega], h⟩
  refine W.skip (W.seq (W.region (WL.val run_assign rfl rfl (WL.nil (W.ret (bodyQ.r1 (v := .bool _) results84 rfl ?_))))))
  exact ⟨by rw [allowB_iff.2 (.inr (.inr (by omega)))], h⟩
theorem rlist_ok {b : Nat} {t : Tb} (h : On W0 (blk b t.cells 137 :: L) w) : Calls Tryz.prog 95 #[.pointer (some ⟨b, 0, none⟩)] w (Ret fun v w' => ∃ a c, v = .slice a (keysN t.K 8).length c ∧ On W0 (Own 1 (.slice a (keysN t.K 8).length c) (keysN t.K 8).length (kV (keysN t.K 8)) :: blk b t.cells 137 :: L) w') := by
  refine enter func95 rfl ntmps95 rfl ?_
  have hmx := maxLen_eq
  refine W.seq (W.region (WL.val run_assign rfl rfl (WL.nil (W.seq (W.region (WL.val run_assign rfl rfl (WL.nil ?_)))))))
  refine W.seq (W.seq (W.region (WL.val run_assign rfl rfl (WL.nil (W.block ?_)))))
  refine W.loop (fun (k : Nat) env w => ∃ (j : Env) (a : Option Addr) (c : Nat), env = mkE j [(0, .pointer (some ⟨b, 0, none⟩)), (3, .slice a (keysN t.K k).length c), (4, .int .i64 (k : Int))] ∧ k ≤ 8 ∧ On W0 (Own 1 (.slice a (keysN t.K k).length c) (keysN t.K k).length (kV (keysN t.K k)) :: blk b t.cells 137 :: L) w) (fun k => 8 - k) (0) ?_ ?_
  · exact ⟨_, none, 0, mkE_of ⟨rfl, rfl, rfl, trivial⟩, Nat.zero_le _, h.ownEmpty 1 none⟩
  rintro k env w ⟨j, a, c, rfl, hk, h⟩
  have hlen := keysN_len t.K k
  refine W.seq (W.seq (W.region (WL.val run_move rfl rfl (WL.val (run_lss rfl rfl) rfl rfl (WL.nil ?_)))))
  refine W.condIf rfl (fun c6 => ?_) (fun c6 => ?_)
  ·
   refine W.skip (W.seq (W.block (W.seq (W.region (WL.val run_move rfl rfl (WL.val run_move rfl rfl (WL.val (run_nilCheck rfl) rfl rfl ?_)))))))
   refine WL.val (run_fieldAddr 0 underlying137 rfl sizeOf85 rfl rfl) rfl rfl (WL.val (run_indexAddrArr underlying85 sizeOf23 rfl rfl (by omega) (by omega)) rfl rfl (WL.val (run_load1 isAgg23 rfl (h.cellB (cells_at (i := k) (by omega)))) rfl rfl (WL.val (run_neq rfl rfl) rfl rfl (WL.nil ?_))))
   refine W.condIf rfl (fun c11 => ?_) (fun c11 => ?_)
   ·
    refine W.region (WL.val run_move rfl rfl (WL.val run_move rfl rfl (WL.val run_move rfl rfl (WL.val (run_nilCheck rfl) rfl rfl (WL.val (run_fieldAddr 0 underlying137 rfl sizeOf85 rfl rfl) rfl rfl (WL.val (run_indexAddrArr underlying85 sizeOf23 rfl rfl (by omega) (by omega)) rfl rfl (WL.val (run_load1 isAgg23 rfl (h.cellB (cells_at (i := k) (by omega)))) rfl rfl ?_)))))))
    refine WL.eff (eff_mkSlice (zl := [.int .u64 0]) (out := [.int .u64 _]) h underlying129 sizeOf23 zeroValue23 (by decide) (by kernel_rfl) rfl rfl (by simp) (⟨⟨_, _, rfl, rfl, by decide⟩, trivial⟩) rfl rfl (by simp [maxLen])) rfl rfl ?_
    rintro _ w ⟨b23, rfl, h⟩
    refine WL.eff (eff_app (c2 := 1) (bytes := 8) (h.fetch (Own 1 (.slice a (keysN t.K k).length c) (keysN t.K k).length (kV (keysN t.K k)))) rfl rfl (h.cellsO (v := .slice (some ⟨b23, 0, none⟩) 1 1)) underlying129 rfl rfl rfl rfl rfl (by omega) (by omega) (by simp [Value.oneCell'])) rfl rfl ?_
    rintro _ w ⟨a24, c24, rfl, h⟩
    have h : On W0 (Own 1 (.slice a24 ((keysN t.K k).length + 1) c24) ((keysN t.K k).length + 1) (kV (keysN t.K k) ++ kV [t.K k]) :: _) w := h
    refine WL.val run_assign rfl rfl (WL.nil (W.region (WL.val run_move rfl rfl (WL.val (run_incN rfl rfl (by omega)) rfl rfl (WL.val run_assign rfl rfl (WL.nil ?_))))))
    have e : (keysN t.K (k + 1)) = (keysN t.K k) ++ [t.K k] := by rw [keysN, if_neg c11]
    have el : (keysN t.K (k + 1)).length = (keysN t.K k).length + 1 := by rw [e, List.length_append]; rfl
    exact ⟨k + 1, ⟨_, a24, c24, mkE_of ⟨rfl, (by rw [el]; rfl), rfl, trivial⟩, by omega, (by rw [el, e, ← kV_app]; exact h.to)⟩, by show 8 - (k + 1) < 8 - k; omega⟩
   refine W.skip (W.region (WL.val run_move rfl rfl (WL.val (run_incN rfl rfl (by omega)) rfl rfl (WL.val run_assign rfl rfl (WL.nil ?_)))))
   have e : (keysN t.K (k + 1)) = (keysN t.K k) := by rw [keysN, if_pos (by omega), List.append_nil]
   exact ⟨k + 1, ⟨_, a, c, mkE_of ⟨rfl, (by rw [e]; rfl), rfl, trivial⟩, by omega, (by rw [e]; exact h.to)⟩, by show 8 - (k + 1) < 8 - k; omega⟩
  refine W.exit (W.seq (W.region (WL.val run_move rfl rfl (WL.val run_assign rfl rfl (WL.nil (W.ret (bodyQ.r1 (v := .slice _ _ _) results95 rfl ?_)))))))
  have ob_ : k = 8 := by omega
  obtain rfl := ob_
  exact ⟨a, c, rfl, h⟩
theorem rkey_ok {b : Nat} {t : Tb} {hh : Int} (h : On W0 (blk b t.cells 137 :: L) w) : Calls Tryz.prog 97 #[.pointer (some ⟨b, 0, none⟩), .int .i64 hh] w (Ret fun v w' => v = .int .u64 (if hostB hh = true then t.K hh.toNat else 0) ∧ On W0 (blk b t.cells 137 :: L) w') := by
  refine enter func97 rfl ntmps97 rfl (W.seq (W.region (WL.val run_assign rfl rfl (WL.nil (W.seq (W.seq (W.region ?_)))))))
  refine WL.val run_move rfl rfl (WL.eff (eff_call call123 (rno_ok h)) rfl rfl ?_)
  rintro _ w ⟨hv, h⟩
  rcases hv with ⟨hb, hv⟩ | ⟨hb, hv⟩ <;> subst hv
  ·
   refine WL.nil (W.condT rfl (W.seq (W.region (WL.val run_assign rfl rfl (WL.nil (W.ret (bodyQ.r1 (v := .int .u64 _) results97 rfl ?_)))))))
   exact ⟨by rw [hb]; rfl, h⟩
  refine WL.nil (W.condF rfl (W.skip (W.seq ?_)))
  have hb2 := hostB_iff.1 hb
  obtain ⟨hi0, hi8⟩ := hb2
  have hn := Int.eq_ofNat_of_zero_le hi0
  obtain ⟨i, hn⟩ := hn
  subst hn
  have hi : i < 8 := by omega
  refine W.region (WL.val run_move rfl rfl (WL.val run_move rfl rfl (WL.val (run_nilCheck rfl) rfl rfl (WL.val (run_fieldAddr 0 underlying137 rfl sizeOf85 rfl rfl) rfl rfl (WL.val (run_indexAddrArr underlying85 sizeOf23 rfl rfl (by omega) (by omega)) rfl rfl (WL.val (run_load1 isAgg23 rfl (h.cellB (cells_at hi))) rfl rfl (WL.val run_assign rfl rfl ?_)))))))
  refine WL.nil (W.ret (bodyQ.r1 (v := .int .u64 _) results97 rfl ?_))
  exact ⟨by rw [if_pos hb]; rfl, h⟩
end Go.Proofs.YtjbgiingimhnnaaGreat
/-
  append(s, text...): the row grows. No program is named here.
-/
namespace Go.Sl
open Go Go.Lib
set_option linter.unusedVariables false
section
variable {P : Program} {W0 w : World} {L L' : List HProp} {ρ : Operand → Value} {d : Option Nat} {ty : TypeId} {pos : String} {af : Array Edge} {g : Option (Nat × Bool)}
theorem eff_appStr {t u e n c bytes : Nat} {a : Option Addr} {z : Value} {xs : List Value} {s : ByteArray} {i : TypeInfo} {sx sy : Operand} (H : On W0 L w) (hs : ρ sx = .slice a n c) (hy : ρ sy = .string s) [p : OwnIn L (.slice a n c) 1 n xs L']
    (hU : P.underlying t = some (.slice e)) (hU2 : P.underlying u = some .string) (hI : P.info? e = some i) (hsz : i.size = 1) (hby : i.bytes = bytes) (hz : i.zero = some z) (hzs : z.cells.size = 1)
    (hcap : c < n + s.size) (h63 : n + s.size ≤ maxLen) (hb : (n + s.size) * bytes ≤ 140737488355328) :
    Eff P ρ ⟨d, .call { callee := .builtin .append, args := #[sx, sy], argTypes := #[t, u] }, ty, pos, af, g⟩ w (Grown 1 (n + s.size) (xs ++ strCells s) W0 L') := by
  subst hby
  have H' := H.imp p.out
  have hO := H'.get 0 rfl (Own_mono _ _ _ _)
  have Cx := hO.cells
  have hxlen : xs.length = n * 1 := hO.1
  have hylen : (strCells s).length = s.size * 1 := by rw [strCells_length, Nat.mul_one]
  have hne : ¬ (n + s.size ≤ c) := by omega
  have hm63 : ((n + s.size : Nat) : Int) ≤ 9223372036854775807 := by simp only [maxLen] at h63; omega
  have h63' : ¬ (9223372036854775807 < ((n : Int) + (s.size : Int))) := by omega
  have h48' : ¬ (281474976710656 < Builtin.nextslicecap (n + s.size) c * i.bytes) := by
    have := growslice_fits (old := c) (by omega) hb; omega
  have Cxd : Cells i.size (.slice a n c) n xs (hp w.drew) := by rw [hsz]; exact Cx
  have hfx := run_firstCells_C (P := P) Cxd
  have hfd := run_firstCells_string (P := P) w.drew i.size s
  have hge := grownCap_ge w (n + s.size) c e
  have hcm : grownCap w (n + s.size) c e ≤ maxLen := grownCap_le_maxLen w (n + s.size) c e h63
  refine .inl ⟨.slice (some ⟨w.heap.size, 0, none⟩) (n + s.size) (grownCap w (n + s.size) c e), w.drew.alloc (.cells (xs.toArray ++ (strCells s).toArray ++ Builtin.zeroCells z.cells (grownCap w (n + s.size) c e - (n + s.size))) e), ?_, ?_⟩
  · have hr : (Builtin.append_ #[t, u] ty #[.slice a n c, .string s]).run P w = .ok (.slice (some ⟨w.heap.size, 0, none⟩) (n + s.size) (grownCap w (n + s.size) c e)) (w.drew.alloc (.cells (xs.toArray ++ (strCells s).toArray ++ Builtin.zeroCells z.cells (grownCap w (n + s.size) c e - (n + s.size))) e)) := by
      simp [Builtin.append_, run_underlying hU, run_underlying hU2, sizeOf, typeInfo, zeroValue, hI, hz, Builtin.lenOf, hne, h63', h48', Question.forced, hfd, hfx, newRow, grownCap]
      congr 2
      apply Array.ext'
      simp [List.append_assoc]
    simp [execOp, resolve, invoke, builtin, hs, hy, hr]
  · refine ⟨_, _, rfl, ?_⟩
    have hA := (H'.tail.drew).alloc (.cells (xs.toArray ++ (strCells s).toArray ++ Builtin.zeroCells z.cells (grownCap w (n + s.size) c e - (n + s.size))) e)
    refine hA.head fun h hh => ⟨by simp [hxlen, hylen, Nat.add_mul], .inr ⟨w.heap.size, 0, grownCap w (n + s.size) c e, xs ++ strCells s ++ (Builtin.zeroCells z.cells (grownCap w (n + s.size) c e - (n + s.size))).toList, e, (0, 0), rfl, hge, hcm, ?_, ?_, ?_, ?_⟩⟩
    · simp only [List.length_append, hxlen, hylen, Array.length_toList, size_zeroCells, hzs, ← Nat.add_mul]
      rw [Nat.zero_add]
      apply Nat.le_of_eq; congr 1; omega
    · rw [List.drop_zero]
      have : (n + s.size) * 1 = (xs ++ strCells s).length := by simp [hxlen, hylen, Nat.add_mul]
      rw [this]
      exact List.take_left
    · exact .inl rfl
    · have hh' : h w.drew.heap.size = _ := hh
      rw [show w.drew.heap.size = w.heap.size from rfl] at hh'
      rw [hh']
      simp [obj]
end
end Go.Sl
/-
  The document's unit: what is told: the contracts. Lines of walks printed by a program of the prover's.
-/
namespace Go.Proofs.YtjbgiingimhnnaaGreat
open Go.Proofs.Tryz
open Go Go.Sl Go.Sl.BitM Go.Sl.SpM Go.Sl.RsM Go.Sl.ByM Go.Sl.UnM
set_option linter.unusedVariables false
set_option linter.unusedSimpArgs false
set_option maxHeartbeats 1000000
set_option maxRecDepth 8000
variable {W0 w : World} {L F : List HProp}
theorem be04 {k : Nat} (h : k < 4) : (be 0 4)[k]? = some 0 := by
  match k, h with
  | 0, _ | 1, _ | 2, _ | 3, _ => rfl
def e18 (x : UInt8) : List UInt8 := [112, 0, x, 0, 0, 0, 0, 0, 0, 0, 0, 0, 0, 0, 0, 0, 0, 0]
theorem e18_set {k : Nat} {x : UInt8} (h : k < 4) : (bytesV (e18 x)).set ((3 + k) * 1) (.int .u8 (((0 : UInt8).toNat : Nat) : Int)) = bytesV (e18 x) := by
  match k, h with
  | 0, _ | 1, _ | 2, _ | 3, _ => rfl
theorem senseB_eq (k c : Nat) : senseB k c = [112, 0, UInt8.ofNat k, 0, 0, 0, 0, 10, 0, 0, 0, 0, UInt8.ofNat (c / 2 ^ 8), UInt8.ofNat c, 0, 0, 0, 0] := by
  unfold senseB be putK; simp [List.range_succ]
theorem be_y {y : Nat} (h : y < 16) : be 0 4 ++ (be y 2 ++ be 0 2) = [0, 0, 0, 0, 0, UInt8.ofNat y, 0, 0] := by
  have e : y / 256 = 0 := by omega
  unfold be putK; simp [List.range_succ, e]
theorem rwrong5_ok {x y : Int} (h : On W0 L w) : Calls Tryz.prog 81 #[.int .i64 x, .int .i64 y] w (Ret fun v w' => v = rep 2 x y ∧ On W0 L w') := by
  refine enter func81 rfl ntmps81 rfl (W.seq (W.region (WL.eff (eff_alloc h zeroValue36 rfl) rfl rfl ?_)))
  rintro _ w ⟨b4, rfl, h⟩
  refine WL.nil (W.seq (W.region (WL.val run_move rfl rfl (WL.val run_move rfl rfl (WL.val (run_buildS (pl := [(0, 1), (1, 1), (2, 1), (3, 1), (4, 1)]) (out := [.int .i64 _, .int .i64 _, .int .i64 _, .slice _ _ _, .int .i64 _]) underlying36 zeroValue36 (fun w => by kernel_rfl) rfl (⟨⟨_, _, rfl, rfl, by decide⟩, ⟨⟨_, _, rfl, rfl, by decide⟩, ⟨⟨_, _, rfl, rfl, by decide⟩, trivial⟩⟩⟩) rfl) rfl rfl (WL.eff (eff_storeW (vs := [.int .i64 _, .int .i64 _, .int .i64 _, .slice _ _ _, .int .i64 _]) h sizeOf36 rfl rfl rfl rfl rfl) rfl rfl ?_))))))
  rintro _ w h
  refine WL.nil (W.ret (bodyQ.rcB (vs := [.int .i64 _, .int .i64 _, .int .i64 _, .slice _ _ _, .int .i64 _]) h results81 isAgg36 sizeOf36 rfl rfl rfl ?_))
  exact ⟨rfl, h.tail⟩
theorem renc5_ok {s : Int} {k c : Nat} (hk : k < 16) (hc : c < 65536) (h : On W0 L w) : Calls Tryz.prog 83 #[(plain s (k : Int) (c : Int)).val (.slice none 0 0)] w (Ret fun v w' => ∃ a, v = .slice a (senseB k c).length 18 ∧ On W0 (OwnB (.slice a (senseB k c).length 18) (senseB k c) :: L) w') := by
  refine enter func83 rfl ntmps83 rfl ?_
  have hmx := maxLen_eq
  refine W.seq (W.region (WL.eff (eff_box (v := .agg _) (l := (plain s (k : Int) (c : Int)).cells (.slice none 0 0)) h rfl rfl) rfl rfl ?_))
  rintro _ w ⟨b1, rfl, h⟩
  have h : On W0 (blk b1 [.int .i64 s, .int .i64 (k : Int), .int .i64 (c : Int), .slice none 0 0, .int .i64 0] 36 :: _) w := h
  refine WL.val run_assign rfl rfl (WL.nil (W.seq (W.region (WL.eff (eff_make (n := 18) (bytes := 1) h rfl rfl underlying22 rfl rfl rfl rfl rfl (by omega) (by omega)) rfl rfl ?_))))
  rintro _ w ⟨b6, rfl, h⟩
  have h : On W0 (Own 1 (.slice (some ⟨b6, 0, none⟩) 18 18) 18 (bytesV (List.replicate 18 (0 : UInt8))) :: _) w := h
  refine WL.val run_assign rfl rfl (WL.nil (W.seq (W.region (WL.val run_move rfl rfl (WL.val (run_indexAddr underlying22 sizeOf5 rfl rfl (by omega) (by omega)) rfl rfl (WL.eff (eff_storeOwn (k := 0 * 1) (v := .int .u8 _) (h.fetch (Own 1 (.slice (some ⟨b6, 0, none⟩) 18 18) 18 (bytesV (List.replicate 18 (0 : UInt8))))) sizeOf5 rfl rfl rfl (by omega)) rfl rfl ?_))))))
  rintro _ w h
  have h : On W0 (Own 1 (.slice (some ⟨b6, 0, none⟩) 18 18) 18 (bytesV (e18 0)) :: _) w := h
  refine WL.nil (W.seq (W.seq (W.region (WL.val (run_fieldAddr 4 underlying36 rfl sizeOf3 rfl rfl) rfl rfl (WL.val (run_load1 isAgg3 rfl (h.cellB rfl)) rfl rfl (WL.val (run_convIn underlying3 underlying111 rfl (by decide) (by decide)) rfl rfl (WL.val (run_neqF rfl rfl (by decide)) rfl rfl ?_)))))))
  refine WL.nil (W.condF rfl (W.skip (W.seq (W.region (WL.val run_move rfl rfl (WL.val (run_fieldAddr 1 underlying36 rfl sizeOf3 rfl rfl) rfl rfl (WL.val (run_load1 isAgg3 rfl (h.cellB rfl)) rfl rfl ?_)))))))
  refine WL.val (run_andN (k := .i64) (m := k) (n := 15) rfl rfl (by show _ ≤ (9223372036854775807 : Int); omega) (by decide)) rfl rfl (WL.val (run_convByte underlying3 underlying5 rfl) rfl rfl (WL.val (run_indexAddr underlying22 sizeOf5 rfl rfl (by omega) (by omega)) rfl rfl (WL.eff (eff_storeOwn (k := 2 * 1) (v := .int .u8 _) (h.fetch (Own 1 (.slice (some ⟨b6, 0, none⟩) 18 18) 18 (bytesV (e18 0)))) sizeOf5 rfl rfl rfl (by omega)) rfl rfl ?_)))
  rintro _ w h
  rw [show k &&& 15 = k by rw [show (15 : Nat) = 2 ^ 4 - 1 from rfl, Nat.and_two_pow_sub_one_eq_mod]; omega] at h
  have h : On W0 (Own 1 (.slice (some ⟨b6, 0, none⟩) 18 18) 18 (bytesV (e18 (UInt8.ofNat k))) :: _) w := h
  refine WL.nil (W.seq (W.region (WL.val (run_fieldAddr 4 underlying36 rfl sizeOf3 rfl rfl) rfl rfl (WL.val (run_load1 isAgg3 rfl (h.cellB rfl)) rfl rfl (WL.val (run_convIn underlying3 underlying23 rfl (by decide) (by decide)) rfl rfl (WL.eff (eff_call call122 (rput_ok (ax := none) (cx := 0) (bs := []) (v := 0) (n := 4) (h.ownEmpty 1 none) (by decide) (by decide) (by omega) (by decide))) rfl rfl ?_))))))
  rintro _ w ⟨a24, c24, rfl, h⟩
  have h : On W0 (OwnB (.slice a24 (be 0 4).length c24) (be 0 4) :: _) w := h
  refine WL.val run_assign rfl rfl (WL.nil (W.seq (W.seq (W.region (WL.val run_assign rfl rfl (WL.nil (W.block ?_)))))))
  refine W.loop (fun (q : Nat) env w => q ≤ 4 ∧ ∃ j, env = mkE j [(1, .pointer (some ⟨b1, 0, none⟩)), (3, .slice (some ⟨b6, 0, none⟩) 18 18), (4, .slice a24 (be 0 4).length c24), (5, .int .i64 (q : Int))] ∧ On W0 (Own 1 (.slice (some ⟨b6, 0, none⟩) 18 18) 18 (bytesV (e18 (UInt8.ofNat k))) :: OwnB (.slice a24 (be 0 4).length c24) (be 0 4) :: blk b1 [.int .i64 s, .int .i64 (k : Int), .int .i64 (c : Int), .slice none 0 0, .int .i64 0] 36 :: L) w) (fun q => 4 - q) (0) ?_ ?_
  · exact ⟨Nat.zero_le _, _, mkE_of ⟨rfl, rfl, rfl, rfl, trivial⟩, h.to⟩
  rintro q env w ⟨hq, j, rfl, h⟩
  refine W.seq (W.seq (W.region (WL.val run_move rfl rfl (WL.val (run_lss rfl rfl) rfl rfl (WL.nil ?_)))))
  refine W.condIf rfl (fun c13 => ?_) (fun c13 => ?_)
  ·
   refine W.skip (W.seq ?_)
   have hq4 : q < 4 := by omega
   have bl := be_length 0 4
   have h := h.fetch (OwnB (.slice a24 (be 0 4).length c24) (be 0 4))
   have ha := Own.addr h (by omega)
   obtain ⟨ba, oa, hal⟩ := ha
   subst hal
   refine W.block (W.region (WL.val run_move rfl rfl (WL.val run_move rfl rfl (WL.val (run_addN (m := 3) (n := q) rfl rfl (by omega)) rfl rfl (WL.val run_move rfl rfl (WL.val run_move rfl rfl (WL.val (run_indexAddr underlying22 sizeOf5 rfl rfl (by omega) (by omega)) rfl rfl ?_)))))))
   refine WL.val (run_load1 isAgg5 rfl ((h.cellsO (v := .slice (some ⟨ba, oa, none⟩) (be 0 4).length c24)).elem (i := q) (vs := [.int .u8 (((0 : UInt8).toNat : Nat) : Int)]) (by omega) (bytes_row (be04 hq4)) 0 _ rfl)) rfl rfl (WL.val (run_indexAddr underlying22 sizeOf5 rfl rfl (by omega) (by omega)) rfl rfl (WL.eff (eff_storeOwn (k := (3 + q) * 1) (v := .int .u8 (((0 : UInt8).toNat : Nat) : Int)) (h.fetch (Own 1 (.slice (some ⟨b6, 0, none⟩) 18 18) 18 (bytesV (e18 (UInt8.ofNat k))))) sizeOf5 rfl rfl rfl (by omega)) rfl rfl ?_))
   rintro _ w h
   rw [e18_set hq4] at h
   refine WL.nil (W.region (WL.val run_move rfl rfl (WL.val (run_incN rfl rfl (by omega)) rfl rfl (WL.val run_assign rfl rfl (WL.nil ?_)))))
   exact ⟨q + 1, ⟨by omega, _, mkE_of ⟨rfl, rfl, rfl, rfl, trivial⟩, h.to⟩, by show 4 - (q + 1) < 4 - q; omega⟩
  refine W.exit (W.seq (W.region (WL.val run_move rfl rfl (WL.val (run_indexAddr underlying22 sizeOf5 rfl rfl (by omega) (by omega)) rfl rfl (WL.eff (eff_storeOwn (k := 7 * 1) (v := .int .u8 _) (h.fetch (Own 1 (.slice (some ⟨b6, 0, none⟩) 18 18) 18 (bytesV (e18 (UInt8.ofNat k))))) sizeOf5 rfl rfl rfl (by omega)) rfl rfl ?_)))))
  rintro _ w h
  have h : On W0 (Own 1 (.slice (some ⟨b6, 0, none⟩) 18 18) 18 (bytesV [112, 0, UInt8.ofNat k, 0, 0, 0, 0, 10, 0, 0, 0, 0, 0, 0, 0, 0, 0, 0]) :: _) w := h
  refine WL.nil (W.seq (W.region (WL.val run_move rfl rfl (WL.val (run_fieldAddr 2 underlying36 rfl sizeOf3 rfl rfl) rfl rfl (WL.val (run_load1 isAgg3 rfl (h.cellB rfl)) rfl rfl (WL.val (run_shrN (m := c) (j := 8) rfl rfl (by decide)) rfl rfl (WL.val (run_convByte underlying3 underlying5 rfl) rfl rfl ?_)))))))
  refine WL.val (run_indexAddr underlying22 sizeOf5 rfl rfl (by omega) (by omega)) rfl rfl (WL.eff (eff_storeOwn (k := 12 * 1) (v := .int .u8 _) (h.fetch (Own 1 (.slice (some ⟨b6, 0, none⟩) 18 18) 18 (bytesV [112, 0, UInt8.ofNat k, 0, 0, 0, 0, 10, 0, 0, 0, 0, 0, 0, 0, 0, 0, 0]))) sizeOf5 rfl rfl rfl (by omega)) rfl rfl ?_)
  rintro _ w h
  have h : On W0 (Own 1 (.slice (some ⟨b6, 0, none⟩) 18 18) 18 (bytesV [112, 0, UInt8.ofNat k, 0, 0, 0, 0, 10, 0, 0, 0, 0, UInt8.ofNat (c / 2 ^ 8), 0, 0, 0, 0, 0]) :: _) w := h
  refine WL.nil (W.seq (W.region (WL.val run_move rfl rfl (WL.val (run_fieldAddr 2 underlying36 rfl sizeOf3 rfl rfl) rfl rfl (WL.val (run_load1 isAgg3 rfl (h.cellB rfl)) rfl rfl (WL.val (run_convByte underlying3 underlying5 rfl) rfl rfl (WL.val (run_indexAddr underlying22 sizeOf5 rfl rfl (by omega) (by omega)) rfl rfl ?_)))))))
  refine WL.eff (eff_storeOwn (k := 13 * 1) (v := .int .u8 _) (h.fetch (Own 1 (.slice (some ⟨b6, 0, none⟩) 18 18) 18 (bytesV [112, 0, UInt8.ofNat k, 0, 0, 0, 0, 10, 0, 0, 0, 0, UInt8.ofNat (c / 2 ^ 8), 0, 0, 0, 0, 0]))) sizeOf5 rfl rfl rfl (by omega)) rfl rfl ?_
  rintro _ w h
  have h : On W0 (Own 1 (.slice (some ⟨b6, 0, none⟩) 18 18) 18 (bytesV [112, 0, UInt8.ofNat k, 0, 0, 0, 0, 10, 0, 0, 0, 0, UInt8.ofNat (c / 2 ^ 8), UInt8.ofNat c, 0, 0, 0, 0]) :: _) w := h
  refine WL.nil (W.seq (W.region (WL.val run_move rfl rfl (WL.val run_assign rfl rfl (WL.nil (W.ret (bodyQ.r1 (v := .slice _ _ _) results83 rfl ?_)))))))
  rw [senseB_eq]
  exact ⟨_, rfl, h.to⟩
theorem rinq5_ok (h : On W0 L w) : Calls Tryz.prog 85 #[] w (Ret fun v w' => ∃ a c, v = .slice a inqB.length c ∧ On W0 (OwnB (.slice a inqB.length c) inqB :: L) w') := by
  refine enter func85 rfl ntmps85 rfl ?_
  have hmx := maxLen_eq
  refine W.seq (W.region (WL.val run_assign rfl rfl (WL.nil (W.seq (W.region (WL.eff (eff_make (n := 8) (bytes := 1) h rfl rfl underlying22 rfl rfl rfl rfl rfl (by omega) (by omega)) rfl rfl ?_))))))
  rintro _ w ⟨b2, rfl, h⟩
  have h : On W0 (Own 1 (.slice (some ⟨b2, 0, none⟩) 8 8) 8 (bytesV [0, 0, 0, 0, 0, 0, 0, 0]) :: _) w := h
  refine WL.val run_assign rfl rfl (WL.nil (W.seq (W.region (WL.val run_move rfl rfl (WL.val (run_indexAddr underlying22 sizeOf5 rfl rfl (by omega) (by omega)) rfl rfl (WL.eff (eff_storeOwn (k := 2 * 1) (v := .int .u8 _) h sizeOf5 rfl rfl rfl (by omega)) rfl rfl ?_))))))
  rintro _ w h
  have h : On W0 (Own 1 (.slice (some ⟨b2, 0, none⟩) 8 8) 8 (bytesV [0, 0, 5, 0, 0, 0, 0, 0]) :: _) w := h
  refine WL.nil (W.seq (W.region (WL.val run_move rfl rfl (WL.val (run_indexAddr underlying22 sizeOf5 rfl rfl (by omega) (by omega)) rfl rfl (WL.eff (eff_storeOwn (k := 3 * 1) (v := .int .u8 _) h sizeOf5 rfl rfl rfl (by omega)) rfl rfl ?_)))))
  rintro _ w h
  have h : On W0 (Own 1 (.slice (some ⟨b2, 0, none⟩) 8 8) 8 (bytesV [0, 0, 5, 2, 0, 0, 0, 0]) :: _) w := h
  refine WL.nil (W.seq (W.region (WL.val run_move rfl rfl (WL.val (run_indexAddr underlying22 sizeOf5 rfl rfl (by omega) (by omega)) rfl rfl (WL.eff (eff_storeOwn (k := 4 * 1) (v := .int .u8 _) h sizeOf5 rfl rfl rfl (by omega)) rfl rfl ?_)))))
  rintro _ w h
  have h : On W0 (Own 1 (.slice (some ⟨b2, 0, none⟩) 8 8) 8 (bytesV [0, 0, 5, 2, 31, 0, 0, 0]) :: _) w := h
  refine WL.nil (W.seq (W.region (WL.val run_move rfl rfl (WL.eff (eff_appStr (n := 8) (c := 8) (bytes := 1) h rfl rfl underlying22 underlying9 rfl rfl rfl rfl rfl (by decide) (by decide) (by decide)) rfl rfl ?_))))
  rintro _ w ⟨a10, c10, rfl, h⟩
  have h : On W0 (OwnB (.slice a10 inqB.length c10) inqB :: _) w := h
  refine WL.val run_assign rfl rfl (WL.nil (W.ret (bodyQ.r1 (v := .slice _ _ _) results85 rfl ?_)))
  exact ⟨_, _, rfl, h⟩
theorem rcap5_ok {n : Nat} (h1 : 1 ≤ n) (h2 : n ≤ 1024) (h : On W0 L w) : Calls Tryz.prog 86 #[.int .i64 (n : Int)] w (Ret fun v w' => ∃ a c, v = .slice a (capB n).length c ∧ On W0 (OwnB (.slice a (capB n).length c) (capB n) :: L) w') := by
  refine enter func86 rfl ntmps86 rfl (W.seq (W.region (WL.val run_assign rfl rfl (WL.nil (W.seq (W.seq (W.region ?_)))))))
  refine WL.val run_move rfl rfl (WL.val (run_lssF rfl rfl (by omega)) rfl rfl (WL.nil (W.condF rfl (W.skip (W.seq (W.region (WL.val run_move rfl rfl ?_)))))))
  refine WL.val (run_subN (m := n) (n := 1) rfl rfl (by omega) (by omega)) rfl rfl (WL.val (run_convIn underlying3 underlying23 rfl (by show (0 : Int) ≤ _; omega) (by show _ ≤ (18446744073709551615 : Int); omega)) rfl rfl (WL.eff (eff_call call122 (rput_ok (ax := none) (cx := 0) (bs := []) (v := n - 1) (n := 4) (h.ownEmpty 1 none) (by decide) (by decide) (by omega) (by decide))) rfl rfl ?_))
  rintro _ w ⟨a7, c7, rfl, h⟩
  refine WL.eff (eff_call call122 (rput_ok (v := 8) (n := 4) (bs := [] ++ be (n - 1) 4) h (by decide) (by decide) (by omega) (by rw [List.nil_append, be_length]; decide))) rfl rfl ?_
  rintro _ w ⟨a8, c8, rfl, h⟩
  refine WL.val run_assign rfl rfl (WL.nil (W.ret (bodyQ.r1 (v := .slice _ _ _) results86 rfl ?_)))
  have h2 : On W0 (OwnB (.slice a8 (capB n).length c8) (capB n) :: _) w := h
  exact ⟨a8, c8, rfl, h2.to⟩
theorem rkeys6_ok {g ck : Nat} {ak : Option Addr} {ks : List Int} (hg : g < 4294967296) (hk : ∀ x ∈ ks, 0 ≤ x ∧ x < 18446744073709551616) (hl : ks.length ≤ 8) (h : On W0 L w) (C : Gives L (Cells 1 (.slice ak ks.length ck) ks.length (kV ks))) : Calls Tryz.prog 94 #[.int .u32 (g : Int), .slice ak ks.length ck] w (Ret fun v w' => ∃ a c, v = .slice a (keysP g (8 * ks.length) ks ks.length).length c ∧ On W0 (OwnB (.slice a (keysP g (8 * ks.length) ks ks.length).length c) (keysP g (8 * ks.length) ks ks.length) :: L) w') := by
  refine enter func94 rfl ntmps94 rfl ?_
  have hmx := maxLen_eq
  have hbd := (h.reads C).bounds
  obtain ⟨hc1, hc2⟩ := hbd
  have e0 : ([] ++ be g 4) ++ be (8 * ks.length) 4 = (keysP g (8 * ks.length) ks 0) := by rw [keysP_zero, List.nil_append]
  refine W.seq (W.region (WL.val run_assign rfl rfl (WL.nil (W.seq (W.seq (W.region (WL.val run_move rfl rfl ?_)))))))
  refine WL.val (run_lenSlice underlying129 rfl) rfl rfl (WL.val (run_gtrF rfl rfl (by omega)) rfl rfl (WL.nil (W.condF rfl (W.skip (W.seq (W.region (WL.val run_move rfl rfl ?_)))))))
  refine WL.val (run_convIn underlying111 underlying23 rfl (by show (0 : Int) ≤ _; omega) (by show _ ≤ (18446744073709551615 : Int); omega)) rfl rfl (WL.eff (eff_call call122 (rput_ok (ax := none) (cx := 0) (bs := []) (v := g) (n := 4) (h.ownEmpty 1 none) (by decide) (by decide) (by omega) (by decide))) rfl rfl ?_)
  rintro _ w ⟨a15, c15, rfl, h⟩
  refine WL.val run_move rfl rfl (WL.val (run_lenSlice underlying129 rfl) rfl rfl (WL.val (run_mulN (m := 8) (n := ks.length) rfl rfl (by omega)) rfl rfl (WL.val (run_convIn underlying3 underlying23 rfl (by show (0 : Int) ≤ _; omega) (by show _ ≤ (18446744073709551615 : Int); omega)) rfl rfl (WL.eff (eff_call call122 (rput_ok (v := 8 * ks.length) (n := 4) h (by decide) (by decide) (by omega) (by rw [List.nil_append, be_length]; decide))) rfl rfl ?_))))
  rintro v20 w ⟨a20, c20, hv20, h⟩
  rw [e0] at hv20 h
  subst hv20
  refine WL.val run_assign rfl rfl (WL.nil (W.seq (W.seq (W.region (WL.val run_assign rfl rfl (WL.nil (W.block ?_)))))))
  refine W.loop (fun (k : Nat) env w => k ≤ ks.length ∧ ∃ (j : Env) (ao : Option Addr) (co : Nat), env = mkE j [(1, .slice ak ks.length ck), (5, .slice ao (keysP g (8 * ks.length) ks k).length co), (6, .int .i64 (k : Int))] ∧ On W0 (OwnB (.slice ao (keysP g (8 * ks.length) ks k).length co) (keysP g (8 * ks.length) ks k) :: L) w) (fun k => ks.length - k) (0) ?_ ?_
  · exact ⟨Nat.zero_le _, _, a20, c20, mkE_of ⟨rfl, rfl, rfl, trivial⟩, h.to⟩
  rintro k env w ⟨hk8, j, ao, co, rfl, h⟩
  have hlk := keysP_len (g := g) (n := 8 * ks.length) hk8
  refine W.seq (W.seq (W.region (WL.val run_move rfl rfl (WL.val run_move rfl rfl (WL.val (run_lenSlice underlying129 rfl) rfl rfl (WL.val (run_lss rfl rfl) rfl rfl (WL.nil ?_)))))))
  refine W.condIf rfl (fun c10 => ?_) (fun c10 => ?_)
  ·
   refine W.skip (W.seq ?_)
   have hkl : k < ks.length := by omega
   have ex_ : ∃ x, ks[k]? = some x := ⟨ks[k], by simp⟩
   obtain ⟨x, hx⟩ := ex_
   have hxk := hk x (List.mem_of_getElem? hx)
   have ekx : x = ((x.toNat : Nat) : Int) := by omega
   have adx := (h.readsTo C).addr (by omega)
   obtain ⟨bx, ox, hax⟩ := adx
   subst hax
   refine W.block (W.region (WL.val run_move rfl rfl (WL.val run_move rfl rfl (WL.val run_move rfl rfl (WL.val (run_indexAddr underlying129 sizeOf23 rfl rfl (by omega) (by omega)) rfl rfl (WL.val (run_load1 isAgg23 rfl ((h.readsTo C).elem (i := k) (vs := [.int .u64 ((x.toNat : Nat) : Int)]) hkl ((kV_get hx).trans (congrArg (fun q => [Value.int .u64 q]) ekx)) 0 _ rfl)) rfl rfl (WL.eff (eff_call call122 (rput_ok (v := x.toNat) (n := 8) (bs := (keysP g (8 * ks.length) ks k)) h (by decide) (by decide) (by omega) (by omega))) rfl rfl ?_)))))))
   rintro _ w ⟨a31, c31, rfl, h⟩
   refine WL.val run_assign rfl rfl (WL.nil (W.region (WL.val run_move rfl rfl (WL.val (run_incN rfl rfl (by omega)) rfl rfl (WL.val run_assign rfl rfl (WL.nil ?_))))))
   rw [keysP_succ hx] at h
   exact ⟨k + 1, ⟨by omega, _, a31, c31, mkE_of ⟨rfl, congrArg (fun q : List UInt8 => Value.slice a31 q.length c31) (keysP_succ hx), rfl, trivial⟩, h.to⟩, by show ks.length - (k + 1) < ks.length - k; omega⟩
  refine W.exit (W.seq (W.region (WL.val run_move rfl rfl (WL.val run_assign rfl rfl (WL.nil (W.ret (bodyQ.r1 (v := .slice _ _ _) results94 rfl ?_)))))))
  have ob_ : k = ks.length := by omega
  obtain rfl := ob_
  exact ⟨ao, co, rfl, h⟩
theorem rholder6_ok {g key y : Nat} (hg : g < 4294967296) (hk : key < 18446744073709551616) (hy : y < 16) (h : On W0 L w) : Calls Tryz.prog 96 #[.int .u32 (g : Int), .int .u64 (key : Int), .int .i64 (y : Int)] w (Ret fun v w' => ∃ a c, v = .slice a (holdP g key y).length c ∧ On W0 (OwnB (.slice a (holdP g key y).length c) (holdP g key y) :: L) w') := by
  refine enter func96 rfl ntmps96 rfl ?_
  have hmx := maxLen_eq
  refine W.seq (W.region (WL.val run_assign rfl rfl (WL.nil (W.seq (W.region (WL.val run_move rfl rfl (WL.val (run_convIn underlying111 underlying23 rfl (by show (0 : Int) ≤ _; omega) (by show _ ≤ (18446744073709551615 : Int); omega)) rfl rfl ?_)))))))
  refine WL.eff (eff_call call122 (rput_ok (ax := none) (cx := 0) (bs := []) (v := g) (n := 4) (h.ownEmpty 1 none) (by decide) (by decide) (by omega) (by decide))) rfl rfl ?_
  rintro _ w ⟨a10, c10, rfl, h⟩
  refine WL.val run_assign rfl rfl (WL.nil (W.seq (W.seq (W.region (WL.val run_move rfl rfl (WL.val (run_andV (m := y) (n := 15) (and15 hy) rfl rfl (by show _ ≤ (9223372036854775807 : Int); omega) (by decide)) rfl rfl (WL.val (run_eql rfl rfl) rfl rfl ?_)))))))
  refine WL.nil ?_
  refine W.condIf rfl (fun c3 => ?_) (fun c3 => ?_)
  ·
   refine W.seq (W.region (WL.val run_move rfl rfl (WL.eff (eff_call call122 (rput_ok (v := 0) (n := 4) (bs := [] ++ be g 4) h (by decide) (by decide) (by omega) (by simp only [List.length_append, List.length_nil, be_length]; omega))) rfl rfl ?_)))
   rintro _ w ⟨a15, c15, rfl, h⟩
   refine WL.val run_assign rfl rfl (WL.nil (W.ret (bodyQ.r1 (v := .slice _ _ _) results96 rfl ?_)))
   have e : holdP g key y = [] ++ be g 4 ++ be 0 4 := by unfold holdP; rw [if_pos (by omega), List.nil_append]
   rw [e]
   exact ⟨a15, c15, rfl, h.to⟩
  refine W.skip (W.seq (W.region (WL.val run_move rfl rfl (WL.eff (eff_call call122 (rput_ok (v := 16) (n := 4) (bs := [] ++ be g 4) h (by decide) (by decide) (by omega) (by simp only [List.length_append, List.length_nil, be_length]; omega))) rfl rfl ?_))))
  rintro _ w ⟨a17, c17, rfl, h⟩
  refine WL.val run_move rfl rfl (WL.eff (eff_call call122 (rput_ok (v := key) (n := 8) (bs := [] ++ be g 4 ++ be 16 4) h (by decide) (by decide) (by omega) (by simp only [List.length_append, List.length_nil, be_length]; omega))) rfl rfl ?_)
  rintro _ w ⟨a19, c19, rfl, h⟩
  refine WL.val run_assign rfl rfl (WL.nil (W.seq (W.region (WL.val run_move rfl rfl (WL.val run_move rfl rfl (WL.val (run_andV (m := y) (n := 15) (and15 hy) rfl rfl (by show _ ≤ (9223372036854775807 : Int); omega) (by decide)) rfl rfl (WL.val (run_convByte underlying3 underlying5 rfl) rfl rfl ?_)))))))
  refine WL.eff (eff_mkRow (out := [.int .u8 _, .int .u8 _, .int .u8 _, .int .u8 _, .int .u8 _, .int .u8 _, .int .u8 _, .int .u8 _]) h underlying22 sizeOf5 zeroValue5 rfl (by decide) rfl rfl rfl) rfl rfl ?_
  rintro _ w ⟨b24, rfl, h⟩
  refine WL.eff (eff_app (c2 := 8) (bytes := 1) (h.fetch (OwnB (.slice a19 ([] ++ be g 4 ++ be 16 4 ++ be key 8).length c19) ([] ++ be g 4 ++ be 16 4 ++ be key 8))) rfl rfl (h.cellsO (v := .slice (some ⟨b24, 0, none⟩) 8 8)) underlying22 rfl rfl rfl rfl rfl (by simp only [List.length_append, List.length_nil, be_length]; omega) (by simp only [List.length_append, List.length_nil, be_length]; omega) (by simp [Value.oneCell'])) rfl rfl ?_
  rintro v25 w ⟨a25, c25, hv25, h⟩
  have e : holdP g key y = ([] ++ be g 4 ++ be 16 4 ++ be key 8) ++ [0, 0, 0, 0, 0, UInt8.ofNat y, 0, 0] := by unfold holdP; rw [if_neg (by omega), ← be_y hy, List.nil_append]; simp only [List.append_assoc]
  have e1 : ([] ++ be g 4 ++ be 16 4 ++ be key 8).length + 8 = (holdP g key y).length := by rw [e, List.length_append]; rfl
  have e2 : bytesV ([] ++ be g 4 ++ be 16 4 ++ be key 8) ++ bytesV [0, 0, 0, 0, 0, UInt8.ofNat y, 0, 0] = bytesV (holdP g key y) := by rw [e]; unfold bytesV; rw [← List.map_append]
  rw [e1] at hv25
  subst hv25
  have h : On W0 (Own 1 (.slice a25 (([] ++ be g 4 ++ be 16 4 ++ be key 8).length + 8) c25) (([] ++ be g 4 ++ be 16 4 ++ be key 8).length + 8) (bytesV ([] ++ be g 4 ++ be 16 4 ++ be key 8) ++ bytesV [0, 0, 0, 0, 0, UInt8.ofNat y, 0, 0]) :: _) w := h
  rw [e1, e2] at h
  refine WL.val run_assign rfl rfl (WL.nil (W.ret (bodyQ.r1 (v := .slice _ _ _) results96 rfl ?_)))
  exact ⟨a25, c25, rfl, h.to⟩
end Go.Proofs.YtjbgiingimhnnaaGreat
