/-
  The document's unit as it lies: what it reads may be shared, nobody writes it. No program is named here.
-/
import Derived.Test.YtdpakoefdpmebaaGreatUnitFull
namespace Go.Sl.UnM
open Go Go.Sl Go.Sl.BitM Go.Sl.SpM Go.Sl.RsM Go.Sl.ByM
set_option linter.unusedVariables false
set_option linter.unusedSimpArgs false
/-- Rows that nobody writes any more: size, slice, elements, cells. -/
abbrev PoolK := List (Nat × Value × Nat × List Value)
def PoolC (pc : PoolK) : HProp := fun h => ∀ p ∈ pc, Cells p.1 p.2.1 p.2.2.1 p.2.2.2 h
theorem PoolC_mono (pc : PoolK) : Mono (PoolC pc) := fun h k s H p hp => Cells_mono _ _ _ _ h k s (H p hp)
abbrev inB (pc : PoolK) (v : Value) (bs : List UInt8) : Prop := (1, v, bs.length, bytesV bs) ∈ pc
section
variable {W0 w : World} {L : List HProp} {pc pc' : PoolK}
theorem On.poolC0 (H : On W0 L w) : On W0 (PoolC [] :: L) w := H.new fun _ _ h => by cases h
theorem On.toPoolC {size n : Nat} {v : Value} {xs : List Value} (H : On W0 (Own size v n xs :: PoolC pc :: L) w) : On W0 (PoolC ((size, v, n, xs) :: pc) :: L) w :=
  H.merge fun h k l s1 s2 a b p hp => by
    rcases List.mem_cons.1 hp with rfl | hp
    · exact Cells_mono _ _ _ _ _ _ s1 a.cells
    · exact Cells_mono _ _ _ _ _ _ s2 (b p hp)
theorem Gives.poolC {size n : Nat} {v : Value} {xs : List Value} (h : (size, v, n, xs) ∈ pc) : Gives (PoolC pc :: L) (Cells size v n xs) := Gives.head (Cells_mono _ _ _ _) fun _ H => H _ h
end
def subK (pc pc' : PoolK) : Prop := ∀ p ∈ pc, p ∈ pc'
theorem subK_refl {pc : PoolK} : subK pc pc := fun p h => h
theorem subK_cons {pc : PoolK} {x : Nat × Value × Nat × List Value} : subK pc (x :: pc) := fun p h => List.mem_cons_of_mem _ h
theorem subK.trans {a b c : PoolK} (h1 : subK a b) (h2 : subK b c) : subK a c := fun p h => h2 p (h1 p h)
/-! ### Blocks -/
def RSpP (T b : Nat) (pc : PoolK) (s : Sp) : HProp := Ex fun (x : Value × Value × List UInt8) => Pack (wfS s ∧ inB pc x.1 s.d ∧ inB pc x.2.1 x.2.2 ∧ x.2.2.length ≤ 1000)
  [blk b [.int .i64 (s.N : Int), x.1, x.2.1] T]
section
variable {W0 w : World} {L : List HProp} {T b : Nat} {s : Sp} {pc pc' : PoolK}
theorem openR (H : On W0 (RSpP T b pc s :: L) w) : ∃ bv mv m, (wfS s ∧ inB pc bv s.d ∧ inB pc mv m ∧ m.length ≤ 1000) ∧ On W0 (blk b [.int .i64 (s.N : Int), bv, mv] T :: L) w := by
  obtain ⟨⟨bv, mv, m⟩, H⟩ := H.ex
  obtain ⟨h1, H⟩ := H.unpack
  exact ⟨bv, mv, m, h1, H⟩
theorem closeR {bv mv : Value} {m : List UInt8} (h1 : wfS s ∧ inB pc bv s.d ∧ inB pc mv m ∧ m.length ≤ 1000) (H : On W0 (blk b [.int .i64 (s.N : Int), bv, mv] T :: L) w) : On W0 (RSpP T b pc s :: L) w :=
  On.exI (bv, mv, m) (On.pack h1 H)
theorem RSpP_more (hs : subK pc pc') (H : On W0 (RSpP T b pc s :: L) w) : On W0 (RSpP T b pc' s :: L) w := by
  obtain ⟨bv, mv, m, ⟨h1, h2, h3, h4⟩, H⟩ := openR H
  exact closeR ⟨h1, hs _ h2, hs _ h3, h4⟩ H
/-- New bytes and a new map become what is only read. -/
theorem closeR2 {v1 v2 : Value} {n N : Nat} {mm : List UInt8} {xs : List Value} (hw : wfS s) (hN : s.N = N) (hx : xs = bytesV s.d) (hd : s.d.length = n) (hm : mm.length ≤ 1000) (H : On W0 (Own 1 v1 n xs :: Own 1 v2 mm.length (bytesV mm) :: PoolC pc :: blk b [.int .i64 (N : Int), v1, v2] T :: L) w) :
    ∃ pc', subK pc pc' ∧ On W0 (RSpP T b pc' s :: PoolC pc' :: L) w := by
  subst hd
  subst hN
  subst hx
  have H1 : On W0 (Own 1 v2 mm.length (bytesV mm) :: PoolC pc :: Own 1 v1 s.d.length (bytesV s.d) :: blk b [.int .i64 (s.N : Int), v1, v2] T :: L) w := H.to
  have H2 := On.toPoolC H1
  have H3 : On W0 (Own 1 v1 s.d.length (bytesV s.d) :: PoolC ((1, v2, mm.length, bytesV mm) :: pc) :: blk b [.int .i64 (s.N : Int), v1, v2] T :: L) w := H2.to
  have H4 := On.toPoolC H3
  have H5 : On W0 (blk b [.int .i64 (s.N : Int), v1, v2] T :: PoolC ((1, v1, s.d.length, bytesV s.d) :: (1, v2, mm.length, bytesV mm) :: pc) :: L) w := H4.to
  exact ⟨_, subK_cons.trans subK_cons, closeR ⟨hw, List.mem_cons_self .., List.mem_cons_of_mem _ (List.mem_cons_self ..), hm⟩ H5⟩
end
/-! ### The unit -/
/-- What was done: its number, what was told, where that lies. -/
structure DX where
  id : Int
  r : Rp
  v : Value
def DX.cells (d : DX) : List Value := .int .u64 d.id :: d.r.cells d.v
def DX.out (d : DX) : Int × Rp := (d.id, d.r)
structure RX where
  codes : List Int
  floor : Int
  D : List DX
  wv : Value
  dv : Value
def RX.s (x : RX) : Gs := ⟨x.codes, x.floor, x.D.map DX.out⟩
def zRX : RX := ⟨[], 0, [], .slice none 0 0, .slice none 0 0⟩
def okX (pc : PoolK) (x : RX) : Prop := (1, x.wv, x.codes.length, cV x.codes) ∈ pc ∧ (6, x.dv, x.D.length, x.D.flatMap DX.cells) ∈ pc ∧ ∀ d ∈ x.D, inB pc d.v d.r.data
abbrev rcells (bs bt : Nat) (xs : List RX) : List Value := .pointer (some ⟨bs, 0, none⟩) :: .pointer (some ⟨bt, 0, none⟩) :: (xs.map RX.wv ++ (xs.map (fun x => .int .u64 x.floor) ++ xs.map RX.dv))
def RefU (TU TS TT bu : Nat) (pc : PoolK) (u : Un) : HProp := Ex fun (x : Nat × Nat × List RX) => Pack (x.2.2.map RX.s = u.g ∧ u.g.length = 8 ∧ (∀ y ∈ x.2.2, okX pc y) ∧ inB pc (.slice none 0 0) [])
  [blk bu (rcells x.1 x.2.1 x.2.2) TU, RSpP TS x.1 pc u.s, blk x.2.1 u.t.cells TT]
theorem okX_more {pc pc' : PoolK} {x : RX} (hs : subK pc pc') (h : okX pc x) : okX pc' x := ⟨hs _ h.1, hs _ h.2.1, fun d hd => hs _ (h.2.2 d hd)⟩
section
variable {W0 w : World} {L : List HProp} {TU TS TT bu bs bt : Nat} {pc pc' : PoolK} {u : Un} {xs : List RX} {x x' : RX} {i : Nat}
theorem openF (H : On W0 (RefU TU TS TT bu pc u :: L) w) : ∃ bs bt xs, (xs.map RX.s = u.g ∧ u.g.length = 8 ∧ (∀ y ∈ xs, okX pc y) ∧ inB pc (.slice none 0 0) []) ∧ On W0 (blk bu (rcells bs bt xs) TU :: RSpP TS bs pc u.s :: blk bt u.t.cells TT :: L) w := by
  obtain ⟨⟨b1, b2, xs⟩, H⟩ := H.ex
  obtain ⟨h1, H⟩ := H.unpack
  exact ⟨b1, b2, xs, h1, H⟩
theorem closeF (h1 : xs.map RX.s = u.g ∧ u.g.length = 8 ∧ (∀ y ∈ xs, okX pc y) ∧ inB pc (.slice none 0 0) []) (H : On W0 (blk bu (rcells bs bt xs) TU :: RSpP TS bs pc u.s :: blk bt u.t.cells TT :: L) w) : On W0 (RefU TU TS TT bu pc u :: L) w :=
  On.exI (bs, bt, xs) (On.pack h1 H)
theorem RefU_more (hs : subK pc pc') (H : On W0 (RefU TU TS TT bu pc u :: L) w) : On W0 (RefU TU TS TT bu pc' u :: L) w := by
  obtain ⟨bs, bt, xs, ⟨h1, h2, h3, h4⟩, H⟩ := openF H
  have H1 : On W0 (RSpP TS bs pc u.s :: blk bu (rcells bs bt xs) TU :: blk bt u.t.cells TT :: L) w := H.to
  have H2 := RSpP_more hs H1
  have H3 : On W0 (blk bu (rcells bs bt xs) TU :: RSpP TS bs pc' u.s :: blk bt u.t.cells TT :: L) w := H2.to
  exact closeF ⟨h1, h2, fun y hy => okX_more hs (h3 y hy), hs _ h4⟩ H3
theorem xs_len (h : xs.map RX.s = u.g ∧ u.g.length = 8 ∧ (∀ y ∈ xs, okX pc y) ∧ inB pc (.slice none 0 0) []) : xs.length = 8 := by rw [← h.2.1, ← h.1, List.length_map]
theorem rx_of (h : xs.map RX.s = u.g ∧ u.g.length = 8 ∧ (∀ y ∈ xs, okX pc y) ∧ inB pc (.slice none 0 0) []) (hi : i < 8) : ∃ x, xs[i]? = some x ∧ x.s = u.guest i ∧ okX pc x := by
  have hl := xs_len h
  refine ⟨xs[i]'(by omega), by simp, ?_, h.2.2.1 _ (List.getElem_mem _)⟩
  unfold Un.guest
  rw [← h.1, List.getD_eq_getElem?_getD, List.getElem?_map, List.getElem?_eq_getElem (by omega)]
  rfl
theorem rx_put (h : xs.map RX.s = u.g ∧ u.g.length = 8 ∧ (∀ y ∈ xs, okX pc y) ∧ inB pc (.slice none 0 0) []) (hs : subK pc pc') (hx : okX pc' x') : (xs.set i x').map RX.s = (u.putG i x'.s).g ∧ (u.putG i x'.s).g.length = 8 ∧ (∀ y ∈ xs.set i x', okX pc' y) ∧ inB pc' (.slice none 0 0) [] := by
  refine ⟨by rw [List.map_set, h.1]; rfl, by show (u.g.set i _).length = _; rw [List.length_set, h.2.1], fun y hy => ?_, hs _ h.2.2.2⟩
  rcases List.mem_or_eq_of_mem_set hy with hy | rfl
  · exact okX_more hs (h.2.2.1 y hy)
  · exact hx
theorem set_append3 {α : Type} {A B C : List α} {k : Nat} {v : α} (hA : k < A.length) : (A ++ (B ++ C)).set k v = A.set k v ++ (B ++ C) := List.set_append_left _ _ hA
theorem rget_w (hl : xs.length = 8) (hx : xs[i]? = some x) : (rcells bs bt xs)[0 + 2 + ((i : Nat) : Int).toNat * 1]? = some x.wv := by
  have hi := (List.getElem?_eq_some_iff.1 hx).1
  rw [show 0 + 2 + ((i : Nat) : Int).toNat * 1 = i + 1 + 1 by simp; omega]
  show (xs.map RX.wv ++ _)[i]? = _
  rw [List.getElem?_append_left (by rw [List.length_map]; omega), List.getElem?_map, hx]; rfl
theorem rget_f (hl : xs.length = 8) (hx : xs[i]? = some x) : (rcells bs bt xs)[0 + 10 + ((i : Nat) : Int).toNat * 1]? = some (.int .u64 x.floor) := by
  have hi := (List.getElem?_eq_some_iff.1 hx).1
  rw [show 0 + 10 + ((i : Nat) : Int).toNat * 1 = (8 + i) + 1 + 1 by simp; omega]
  show (xs.map RX.wv ++ _)[8 + i]? = _
  rw [List.getElem?_append_right (by rw [List.length_map]; omega), List.length_map, hl, show 8 + i - 8 = i by omega, List.getElem?_append_left (by rw [List.length_map]; omega), List.getElem?_map, hx]; rfl
theorem rget_d (hl : xs.length = 8) (hx : xs[i]? = some x) : (rcells bs bt xs)[0 + 18 + ((i : Nat) : Int).toNat * 1]? = some x.dv := by
  have hi := (List.getElem?_eq_some_iff.1 hx).1
  rw [show 0 + 18 + ((i : Nat) : Int).toNat * 1 = (8 + (8 + i)) + 1 + 1 by simp; omega]
  show (xs.map RX.wv ++ _)[8 + (8 + i)]? = _
  rw [List.getElem?_append_right (by rw [List.length_map]; omega), List.length_map, hl, show 8 + (8 + i) - 8 = 8 + i by omega, List.getElem?_append_right (by rw [List.length_map]; omega), List.length_map, hl, show 8 + i - 8 = i by omega, List.getElem?_map, hx]; rfl
theorem rlt {k : Nat} (hl : xs.length = 8) (hk : k < 26) : Nat.ble (k + 1) (rcells bs bt xs).length = true := by
  rw [Nat.ble_eq]
  show _ ≤ (xs.map RX.wv ++ (xs.map (fun x => Value.int .u64 x.floor) ++ xs.map RX.dv)).length + 1 + 1
  rw [List.length_append, List.length_append, List.length_map, List.length_map, List.length_map]; omega
theorem rset_w (hl : xs.length = 8) (hx : xs[i]? = some x) (e : x'.floor = x.floor ∧ x'.dv = x.dv) : (rcells bs bt xs).set (0 + 2 + ((i : Nat) : Int).toNat * 1) x'.wv = rcells bs bt (xs.set i x') := by
  have hi := (List.getElem?_eq_some_iff.1 hx).1
  rw [show 0 + 2 + ((i : Nat) : Int).toNat * 1 = i + 1 + 1 by simp; omega]
  show _ :: _ :: (xs.map RX.wv ++ _).set i _ = _
  rw [List.set_append_left _ _ (by rw [List.length_map]; omega), ← List.map_set]
  have e1 : (xs.set i x').map (fun x => Value.int .u64 x.floor) = xs.map (fun x => Value.int .u64 x.floor) := by
    rw [List.map_set, e.1]; exact set_same (by rw [List.getElem?_map, hx]; rfl)
  have e2 : (xs.set i x').map RX.dv = xs.map RX.dv := by
    rw [List.map_set, e.2]; exact set_same (by rw [List.getElem?_map, hx]; rfl)
  show _ = _ :: _ :: ((xs.set i x').map RX.wv ++ ((xs.set i x').map (fun x => Value.int .u64 x.floor) ++ (xs.set i x').map RX.dv))
  rw [e1, e2]
where
  set_same {α : Type} {l : List α} {i : Nat} {v : α} (h : l[i]? = some v) : l.set i v = l := by
    apply List.ext_getElem?
    intro j
    rw [List.getElem?_set]
    split
    · rename_i e; subst e
      rw [if_pos (List.getElem?_eq_some_iff.1 h).1, h]
    · rfl
theorem rset_f (hl : xs.length = 8) (hx : xs[i]? = some x) (e : x'.wv = x.wv ∧ x'.dv = x.dv) : (rcells bs bt xs).set (0 + 10 + ((i : Nat) : Int).toNat * 1) (.int .u64 x'.floor) = rcells bs bt (xs.set i x') := by
  have hi := (List.getElem?_eq_some_iff.1 hx).1
  rw [show 0 + 10 + ((i : Nat) : Int).toNat * 1 = (8 + i) + 1 + 1 by simp; omega]
  show _ :: _ :: (xs.map RX.wv ++ _).set (8 + i) _ = _
  rw [List.set_append_right _ _ (by rw [List.length_map]; omega), List.length_map, hl, show 8 + i - 8 = i by omega, List.set_append_left _ _ (by rw [List.length_map]; omega)]
  have e1 : (xs.set i x').map RX.wv = xs.map RX.wv := by
    rw [List.map_set, e.1]; exact rset_w.set_same (by rw [List.getElem?_map, hx]; rfl)
  have e2 : (xs.set i x').map RX.dv = xs.map RX.dv := by
    rw [List.map_set, e.2]; exact rset_w.set_same (by rw [List.getElem?_map, hx]; rfl)
  have e3 : (xs.set i x').map (fun x => Value.int .u64 x.floor) = (xs.map (fun x => Value.int .u64 x.floor)).set i (.int .u64 x'.floor) := by rw [List.map_set]
  show _ = _ :: _ :: ((xs.set i x').map RX.wv ++ ((xs.set i x').map (fun x => Value.int .u64 x.floor) ++ (xs.set i x').map RX.dv))
  rw [e1, e2, e3]
theorem rset_d (hl : xs.length = 8) (hx : xs[i]? = some x) (e : x'.wv = x.wv ∧ x'.floor = x.floor) : (rcells bs bt xs).set (0 + 18 + ((i : Nat) : Int).toNat * 1) x'.dv = rcells bs bt (xs.set i x') := by
  have hi := (List.getElem?_eq_some_iff.1 hx).1
  rw [show 0 + 18 + ((i : Nat) : Int).toNat * 1 = (8 + (8 + i)) + 1 + 1 by simp; omega]
  show _ :: _ :: (xs.map RX.wv ++ _).set (8 + (8 + i)) _ = _
  rw [List.set_append_right _ _ (by rw [List.length_map]; omega), List.length_map, hl, show 8 + (8 + i) - 8 = 8 + i by omega, List.set_append_right _ _ (by rw [List.length_map]; omega), List.length_map, hl, show 8 + i - 8 = i by omega, ← List.map_set]
  have e1 : (xs.set i x').map RX.wv = xs.map RX.wv := by
    rw [List.map_set, e.1]; exact rset_w.set_same (by rw [List.getElem?_map, hx]; rfl)
  have e2 : (xs.set i x').map (fun x => Value.int .u64 x.floor) = xs.map (fun x => Value.int .u64 x.floor) := by
    rw [List.map_set, e.2]; exact rset_w.set_same (by rw [List.getElem?_map, hx]; rfl)
  show _ = _ :: _ :: ((xs.set i x').map RX.wv ++ ((xs.set i x').map (fun x => Value.int .u64 x.floor) ++ (xs.set i x').map RX.dv))
  rw [e1, e2]
/-- New attentions of a guest. -/
theorem setW {codes' : List Int} {v' : Value} {n : Nat} {ws : List Value} (hpk : xs.map RX.s = u.g ∧ u.g.length = 8 ∧ (∀ y ∈ xs, okX pc y) ∧ inB pc (.slice none 0 0) []) (hx : xs[i]? = some x) (hxs : x.s = u.guest i) (hok : okX pc x) (hn : codes'.length = n) (hw : ws = cV codes')
    (H : On W0 (Own 1 v' n ws :: blk bu ((rcells bs bt xs).set (0 + 2 + ((i : Nat) : Int).toNat * 1) v') TU :: RSpP TS bs pc u.s :: blk bt u.t.cells TT :: PoolC pc :: L) w) :
    ∃ pc', subK pc pc' ∧ On W0 (RefU TU TS TT bu pc' (u.putG i { u.guest i with codes := codes' }) :: PoolC pc' :: L) w := by
  subst hn
  subst hw
  have hl8 := xs_len hpk
  have H1 : On W0 (Own 1 v' codes'.length (cV codes') :: PoolC pc :: RSpP TS bs pc u.s :: blk bu ((rcells bs bt xs).set (0 + 2 + ((i : Nat) : Int).toNat * 1) v') TU :: blk bt u.t.cells TT :: L) w := H.to
  have H2 := On.toPoolC H1
  have H3 : On W0 (RSpP TS bs pc u.s :: blk bu ((rcells bs bt xs).set (0 + 2 + ((i : Nat) : Int).toNat * 1) v') TU :: blk bt u.t.cells TT :: PoolC ((1, v', codes'.length, cV codes') :: pc) :: L) w := H2.to
  have H4 := RSpP_more (pc' := (1, v', codes'.length, cV codes') :: pc) subK_cons H3
  have e : (rcells bs bt xs).set (0 + 2 + ((i : Nat) : Int).toNat * 1) v' = rcells bs bt (xs.set i { x with codes := codes', wv := v' }) := rset_w (x' := { x with codes := codes', wv := v' }) hl8 hx ⟨rfl, rfl⟩
  rw [e] at H4
  have H5 : On W0 (blk bu (rcells bs bt (xs.set i { x with codes := codes', wv := v' })) TU :: RSpP TS bs ((1, v', codes'.length, cV codes') :: pc) u.s :: blk bt u.t.cells TT :: PoolC ((1, v', codes'.length, cV codes') :: pc) :: L) w := H4.to
  have es : ({ x with codes := codes', wv := v' } : RX).s = { u.guest i with codes := codes' } := by rw [← hxs]; rfl
  have hp2 := rx_put (i := i) (x' := { x with codes := codes', wv := v' }) hpk (pc' := (1, v', codes'.length, cV codes') :: pc) subK_cons ⟨List.mem_cons_self .., List.mem_cons_of_mem _ hok.2.1, fun d hd => List.mem_cons_of_mem _ (hok.2.2 d hd)⟩
  rw [es] at hp2
  exact ⟨_, subK_cons, closeF (u := u.putG i { u.guest i with codes := codes' }) hp2 H5⟩
theorem setSp {s' : Sp} (hpk : xs.map RX.s = u.g ∧ u.g.length = 8 ∧ (∀ y ∈ xs, okX pc y) ∧ inB pc (.slice none 0 0) []) (hs : subK pc pc') (H : On W0 (blk bu (rcells bs bt xs) TU :: RSpP TS bs pc' s' :: blk bt u.t.cells TT :: L) w) : On W0 (RefU TU TS TT bu pc' (u.setS s') :: L) w :=
  closeF (u := u.setS s') ⟨hpk.1, hpk.2.1, fun y hy => okX_more hs (hpk.2.2.1 y hy), hs _ hpk.2.2.2⟩ H
theorem setTb {t' : Tb} (hpk : xs.map RX.s = u.g ∧ u.g.length = 8 ∧ (∀ y ∈ xs, okX pc y) ∧ inB pc (.slice none 0 0) []) (H : On W0 (blk bu (rcells bs bt xs) TU :: RSpP TS bs pc u.s :: blk bt t'.cells TT :: L) w) : On W0 (RefU TU TS TT bu pc (u.setT t') :: L) w :=
  closeF (u := u.setT t') hpk H
theorem finB {a : Option Addr} {c : Nat} {ys : List UInt8} (H : On W0 (OwnB (.slice a ys.length c) ys :: RefU TU TS TT bu pc u :: PoolC pc :: L) w) : ∃ pc', subK pc pc' ∧ inB pc' (.slice a ys.length c) ys ∧ On W0 (RefU TU TS TT bu pc' u :: PoolC pc' :: L) w := by
  have H1 : On W0 (Own 1 (.slice a ys.length c) ys.length (bytesV ys) :: PoolC pc :: RefU TU TS TT bu pc u :: L) w := H.to
  have H2 := On.toPoolC H1
  have H3 : On W0 (RefU TU TS TT bu pc u :: PoolC ((1, .slice a ys.length c, ys.length, bytesV ys) :: pc) :: L) w := H2.to
  exact ⟨_, subK_cons, List.mem_cons_self .., RefU_more subK_cons H3⟩
theorem RefU_nil (H : On W0 (RefU TU TS TT bu pc u :: L) w) : inB pc (.slice none 0 0) [] ∧ u.g.length = 8 ∧ wfS u.s := by
  obtain ⟨bs, bt, xs, hpk, H⟩ := openF H
  have H1 : On W0 (RSpP TS bs pc u.s :: blk bu (rcells bs bt xs) TU :: blk bt u.t.cells TT :: L) w := H.to
  obtain ⟨bv, mv, m, h1, _⟩ := openR H1
  exact ⟨hpk.2.2.2, hpk.2.1, h1.1⟩
end
end Go.Sl.UnM
