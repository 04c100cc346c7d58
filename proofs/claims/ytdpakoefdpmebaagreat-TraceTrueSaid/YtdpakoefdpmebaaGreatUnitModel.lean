/-
  A unit as plain data, and as it lies: blocks, reservations, what is kept of the hosts. No program is named here.
-/
import Derived.Test.YtdpakoefdpmebaaGreatSlB
import Derived.Test.YtdpakoefdpmebaaGreatByteM
import Derived.Test.YtdpakoefdpmebaaGreatSpaceMore
import Derived.Test.YtdpakoefdpmebaaGreatResvModel
namespace Go.Sl.UnM
open Go Go.Sl Go.Sl.BitM Go.Sl.SpM Go.Sl.RsM Go.Sl.ByM
set_option linter.unusedVariables false
set_option linter.unusedSimpArgs false
/-- What a command is told. -/
structure Rp where
  st : Int
  key : Int
  code : Int
  data : List UInt8
  info : Int
deriving DecidableEq
def Rp.val (r : Rp) (dv : Value) : Value := .agg #[.int .i64 r.st, .int .i64 r.key, .int .i64 r.code, dv, .int .i64 r.info]
def Rp.cells (r : Rp) (dv : Value) : List Value := [.int .i64 r.st, .int .i64 r.key, .int .i64 r.code, dv, .int .i64 r.info]
def plain (s k c : Int) : Rp := ⟨s, k, c, [], 0⟩
def gave (bs : List UInt8) : Rp := ⟨0, 0, 0, bs, 0⟩
/-- A command. -/
structure Cm where
  kind : Int
  at_ : Int
  n : Int
  data : List UInt8
  key : Int
  new : Int
  typ : Int
  force : Bool
def Cm.cells (c : Cm) (dv : Value) : List Value := [.int .i64 c.kind, .int .i64 c.at_, .int .i64 c.n, dv, .int .u64 c.key, .int .u64 c.new, .int .i64 c.typ, .bool c.force]
def Cm.val (c : Cm) (dv : Value) : Value := .agg #[.int .i64 c.kind, .int .i64 c.at_, .int .i64 c.n, dv, .int .u64 c.key, .int .u64 c.new, .int .i64 c.typ, .bool c.force]
/-- What is kept of a host. -/
structure Gs where
  codes : List Int
  floor : Int
  done : List (Int × Rp)
structure Un where
  s : Sp
  t : Tb
  g : List Gs
def newU (n : Nat) : Un := ⟨newS n, newT, List.replicate 8 ⟨[], 0, []⟩⟩
/-! ### What it computes -/
def diffAt : List UInt8 → List UInt8 → Nat
  | x :: xs, y :: ys => if x = y then diffAt xs ys + 1 else 0
  | _, _ => 0
theorem diffAt_eq : ∀ (xs ys : List UInt8) (i : Nat), xs[i]? ≠ ys[i]? → i < xs.length → i < ys.length → (∀ j, j < i → xs[j]? = ys[j]?) → diffAt xs ys = i
  | [], _, i, _, h, _, _ => by cases h
  | x :: xs, [], i, _, _, h, _ => by cases h
  | x :: xs, y :: ys, 0, h, _, _, _ => by
    have : x ≠ y := fun e => h (by simp [e])
    simp [diffAt, this]
  | x :: xs, y :: ys, i + 1, h, h1, h2, hj => by
    have h0 := hj 0 (by omega)
    simp at h0
    have := diffAt_eq xs ys i (by simpa using h) (by simpa using h1) (by simpa using h2) (fun j hji => by have := hj (j + 1) (by omega); simpa using this)
    simp [diffAt, h0, this]
def cmpM (s : Sp) (p q : Nat) (bs : List UInt8) : Sp × Rp :=
  if partS s p q = bs.take (8 * q) then (writeS s p (bs.drop (8 * q)), plain 0 0 0) else (s, ⟨2, 14, 7424, [], (diffAt (partS s p q) bs : Nat)⟩)
def runM (s : Sp) (c : Cm) : Sp × Rp :=
  if inS s c.at_ c.n then
    if c.kind = 2 then (s, gave (partS s c.at_.toNat c.n.toNat))
    else if c.kind = 3 then if (c.data.length : Int) = c.n * 8 then (writeS s c.at_.toNat c.data, plain 0 0 0) else (s, plain 2 5 9216)
    else if c.kind = 5 then (unmapS s c.at_.toNat c.n.toNat, plain 0 0 0)
    else if c.kind = 6 then if (c.data.length : Int) = 2 * (c.n * 8) then cmpM s c.at_.toNat c.n.toNat c.data else (s, plain 2 5 9216)
    else (s, plain 0 0 0)
  else (s, plain 2 5 8448)
def senseB (k c : Nat) : List UInt8 := [112, 0, UInt8.ofNat k, 0, 0, 0, 0, 10, 0, 0, 0, 0] ++ be c 2 ++ [0, 0, 0, 0]
theorem senseB_len (k c : Nat) : (senseB k c).length = 18 := by simp only [senseB, List.length_append, be_length, List.length_cons, List.length_nil]
def inqB : List UInt8 := [0, 0, 5, 2, 31, 0, 0, 0, 71, 69, 77, 69, 76, 32, 32, 32, 84, 87, 73, 78, 32, 68, 73, 83, 75, 32, 32, 32, 32, 32, 32, 32, 48, 48, 48, 49]
def capB (n : Nat) : List UInt8 := be (n - 1) 4 ++ be 8 4
def tellM (l : List Int) (c : Int) : List Int := if c ∈ l then l else l ++ [c]
def Gs.tell (g : Gs) (c : Int) : Gs := { g with codes := tellM g.codes c }
def Gs.pop (g : Gs) : Gs := { g with codes := g.codes.drop 1 }
def Un.guest (u : Un) (i : Nat) : Gs := u.g.getD i ⟨[], 0, []⟩
def Un.putG (u : Un) (i : Nat) (g : Gs) : Un := { u with g := u.g.set i g }
def Un.tell (u : Un) (i : Nat) (c : Int) : Un := u.putG i ((u.guest i).tell c)
def small (k : Nat) (u : Un) : Prop := ∀ i, i < 8 → (u.guest i).codes.length ≤ k
def okC (u : Un) : Prop := ∀ i, i < 8 → ∀ c ∈ (u.guest i).codes, 0 ≤ c ∧ c < 65536
def Un.setS (u : Un) (s : Sp) : Un := { u with s := s }
def resetN (u : Un) : Nat → Un
  | 0 => u
  | n + 1 => (resetN u n).tell n 10499
/-! Reservations, as they are told. -/
def okKB (t : Tb) (i : Nat) (key : Int) : Bool := !decide (t.K i = 0) && decide (t.K i = key)
def Un.setT (u : Un) (t : Tb) : Un := { u with t := t }
def notM (u : Un) (code : Int) (l : List Nat) : Un := l.foldl (fun u n => u.tell n code) u
/-- What becomes of the table, what is told, of whom and of what. -/
structure Rv where
  t : Tb
  r : Rp
  l : List Nat
  code : Int
def regF (t : Tb) (i : Nat) (key fresh : Int) (ign : Bool) : Rv := if ign = true ∨ key = t.K i then ⟨(regO t i fresh).2, plain 0 0 0, (regO t i fresh).1, 10756⟩ else ⟨t, plain 24 0 0, [], 0⟩
def rsvF (t : Tb) (i : Nat) (key typ : Int) : Rv :=
  if okKB t i key = false then ⟨t, plain 24 0 0, [], 0⟩
  else if typedB typ = false then ⟨t, plain 2 5 9216, [], 0⟩
  else if t.hold = -1 then ⟨t.take i typ, plain 0 0 0, [], 0⟩
  else if t.hold = i ∧ t.typ = typ then ⟨t, plain 0 0 0, [], 0⟩
  else ⟨t, plain 24 0 0, [], 0⟩
def relF (t : Tb) (i : Nat) (key typ : Int) : Rv :=
  if okKB t i key = false then ⟨t, plain 24 0 0, [], 0⟩
  else if typedB typ = false then ⟨t, plain 2 5 9216, [], 0⟩
  else if t.hold ≠ i then ⟨t, plain 0 0 0, [], 0⟩
  else if t.typ ≠ typ then ⟨t, plain 2 5 9732, [], 0⟩
  else ⟨t.freed, plain 0 0 0, t.told i, 10756⟩
def clrF (t : Tb) (i : Nat) (key : Int) : Rv :=
  if okKB t i key = false then ⟨t, plain 24 0 0, [], 0⟩
  else ⟨t.cleared, plain 0 0 0, hostsN t.K i (fun _ => true) 8, 10755⟩
def preF (t : Tb) (i : Nat) (key other typ : Int) : Rv :=
  if okKB t i key = false then ⟨t, plain 24 0 0, [], 0⟩
  else if other = 0 then ⟨t, plain 2 5 9728, [], 0⟩
  else if preL t i other = [] then ⟨t, plain 24 0 0, [], 0⟩
  else if takesP t i other ∧ typedB typ = false then ⟨t, plain 2 5 9216, [], 0⟩
  else ⟨preT t i other typ, plain 0 0 0, preL t i other, 10757⟩
def rvM (t : Tb) (i : Nat) (c : Cm) : Rv :=
  if c.kind = 10 then regF t i c.key c.new false
  else if c.kind = 11 then regF t i c.key c.new true
  else if c.kind = 12 then rsvF t i c.key c.typ
  else if c.kind = 13 then relF t i c.key c.typ
  else if c.kind = 14 then clrF t i c.key
  else preF t i c.key c.new c.typ
def keysN (K : Nat → Int) : Nat → List Int
  | 0 => []
  | n + 1 => keysN K n ++ if K n = 0 then [] else [K n]
def keysB (t : Tb) : List UInt8 := be t.gen.toNat 4 ++ be (8 * (keysN t.K 8).length) 4 ++ (keysN t.K 8).flatMap fun k => be k.toNat 8
def holdK (t : Tb) : Int := if hostB t.hold = true then t.K t.hold.toNat else 0
def holdB (t : Tb) : List UInt8 := if t.typ = 0 then be t.gen.toNat 4 ++ be 0 4 else be t.gen.toNat 4 ++ be 16 4 ++ be (holdK t).toNat 8 ++ be 0 4 ++ be t.typ.toNat 2 ++ be 0 2
def resM (u : Un) (i : Nat) (c : Cm) : Un × Rp :=
  if c.kind = 16 then (u, gave (keysB u.t))
  else if c.kind = 17 then (u, gave (holdB u.t))
  else (notM (u.setT (rvM u.t i c).t) (rvM u.t i c).code (rvM u.t i c).l, (rvM u.t i c).r)
def actM (u : Un) (i : Nat) (c : Cm) : Un × Rp :=
  if c.kind = 1 then (u, plain 0 0 0)
  else if c.kind = 8 then (u, gave inqB)
  else if c.kind = 7 then (u, gave (capB u.s.N))
  else if c.kind ≤ 6 then (u.setS (runM u.s c).1, (runM u.s c).2)
  else if c.kind = 18 then (resetN u 8, plain 0 0 0)
  else resM u i c
def allowB (t : Tb) (h kind : Int) : Bool := decide (t.hold = -1) || decide (t.hold = h) || (t.regsB && hostB h && !decide (t.K h.toNat = 0)) || ((decide (kind = 1) || decide (kind = 2)) && (decide (t.typ = 1) || decide (t.typ = 5))) || !(decide (1 ≤ kind) && decide (kind ≤ 6))
theorem allowB_iff {t : Tb} {h kind : Int} : allowB t h kind = true ↔ allowP t h kind := by
  unfold allowB allowP alwP
  simp only [Bool.or_eq_true, Bool.and_eq_true, decide_eq_true_eq, Bool.not_eq_true', decide_eq_false_iff_not, hostB_iff, Bool.and_eq_false_iff]
  constructor
  · rintro ((((h1 | h1) | h1) | h1) | h1)
    · exact .inl (.inl h1)
    · exact .inl (.inr (.inl h1))
    · obtain ⟨⟨h1, h2, h3⟩, h4⟩ := h1
      exact .inl (.inr (.inr ⟨h1, h.toNat, by omega, by omega, h4⟩))
    · exact .inr (.inl h1)
    · exact .inr (.inr (by omega))
  · rintro ((h1 | h1 | ⟨h1, i, rfl, hi, hk⟩) | h1 | h1)
    · exact .inl (.inl (.inl (.inl h1)))
    · exact .inl (.inl (.inl (.inr h1)))
    · exact .inl (.inl (.inr ⟨⟨h1, by omega, by omega⟩, by simpa using hk⟩))
    · exact .inl (.inr h1)
    · exact .inr (by omega)
/-! ### As it lies -/
abbrev PoolL := List (Value × List UInt8)
def cV (l : List Int) : List Value := l.map (Value.int .i64)
structure GX where
  s : Gs
  a : Option Addr
  c : Nat
  mb : Nat
  ck : Nat
  kvs : List KV
def GX.row (g : GX) : List Value := [.slice g.a g.s.codes.length g.c, .int .u64 g.s.floor, .map (some g.mb)]
def okD (pool : PoolL) (D : List (Int × Rp)) (kvs : List KV) : Prop := (kvs.map (·.1)).Perm (D.map (·.1)) ∧ (D.map (·.1)).Nodup ∧ ∀ x ∈ kvs, ∃ r dv, (x.1, r) ∈ D ∧ x.2.1 = r.val dv ∧ (dv, r.data) ∈ pool
abbrev CodesO (g : GX) : HProp := Own 1 (.slice g.a g.s.codes.length g.c) g.s.codes.length (cV g.s.codes)
def GOwn (pool : PoolL) (g : GX) : HProp := Pack (okD pool g.s.done g.kvs) [CodesO g, MapC g.mb .u64 g.kvs g.ck]
abbrev ucells (bs bt : Nat) (gs : List GX) : List Value := .pointer (some ⟨bs, 0, none⟩) :: .pointer (some ⟨bt, 0, none⟩) :: gs.flatMap GX.row
/-- ms: where the maps of what was done lie. -/
def UnP (TU TS TT bu : Nat) (pool : PoolL) (ms : List Nat) (u : Un) : HProp := Ex fun (x : Nat × Nat × List GX) => Pack ((x.2.2.map (·.s) = u.g ∧ x.2.2.map (·.mb) = ms) ∧ u.g.length = 8)
  [blk bu (ucells x.1 x.2.1 x.2.2) TU, SpP TS x.1 u.s, blk x.2.1 u.t.cells TT, Big (GOwn pool) x.2.2]
section
variable {W0 w : World} {L : List HProp} {TU TS TT bu bs bt : Nat} {pool : PoolL} {ms : List Nat} {u : Un} {gs : List GX} {g g' : GX} {i : Nat}
theorem openU (H : On W0 (UnP TU TS TT bu pool ms u :: L) w) : ∃ bs bt gs, (gs.map (·.s) = u.g ∧ gs.map (·.mb) = ms) ∧ u.g.length = 8 ∧ On W0 (blk bu (ucells bs bt gs) TU :: SpP TS bs u.s :: blk bt u.t.cells TT :: Big (GOwn pool) gs :: L) w := by
  obtain ⟨⟨b1, b2, gs⟩, H⟩ := H.ex
  obtain ⟨⟨h1, h2⟩, H⟩ := H.unpack
  exact ⟨b1, b2, gs, h1, h2, H⟩
theorem closeU (h1 : gs.map (·.s) = u.g ∧ gs.map (·.mb) = ms) (h2 : u.g.length = 8) (H : On W0 (blk bu (ucells bs bt gs) TU :: SpP TS bs u.s :: blk bt u.t.cells TT :: Big (GOwn pool) gs :: L) w) : On W0 (UnP TU TS TT bu pool ms u :: L) w :=
  On.exI (bs, bt, gs) (On.pack ⟨h1, h2⟩ H)
theorem openG (H : On W0 (GOwn pool g :: L) w) : okD pool g.s.done g.kvs ∧ On W0 (CodesO g :: MapC g.mb .u64 g.kvs g.ck :: L) w := H.unpack
theorem closeG (h1 : okD pool g.s.done g.kvs) (H : On W0 (CodesO g :: MapC g.mb .u64 g.kvs g.ck :: L) w) : On W0 (GOwn pool g :: L) w := On.pack h1 H
theorem row_of (h1' : gs.map (·.s) = u.g ∧ gs.map (·.mb) = ms) (h2 : u.g.length = 8) (hi : i < 8) : ∃ g, gs[i]? = some g ∧ g.s = u.guest i := by
  have h1 := h1'.1
  have hl : gs.length = 8 := by rw [← h2, ← h1, List.length_map]
  refine ⟨gs[i]'(by omega), by simp, ?_⟩
  unfold Un.guest
  rw [← h1, List.getD_eq_getElem?_getD, List.getElem?_map, List.getElem?_eq_getElem (by omega)]
  rfl
theorem put_map (h1 : gs.map (·.s) = u.g ∧ gs.map (·.mb) = ms) (hg : gs[i]? = some g) (e : g'.mb = g.mb) : (gs.set i g').map (·.s) = (u.putG i g'.s).g ∧ (gs.set i g').map (·.mb) = ms := by
  refine ⟨by rw [List.map_set, h1.1]; rfl, ?_⟩
  rw [List.map_set, h1.2, e]
  apply List.ext_getElem?
  intro j
  rw [List.getElem?_set]
  split
  · rename_i ej; subst ej
    have hlt := (List.getElem?_eq_some_iff.1 hg).1
    rw [if_pos (by rw [← h1.2, List.length_map]; exact hlt), ← h1.2, List.getElem?_map, hg]; rfl
  · rfl
theorem put_map2 (h1 : gs.map (·.s) = u.g ∧ gs.map (·.mb) = ms) : (gs.set i g').map (·.s) = (u.putG i g'.s).g ∧ (gs.set i g').map (·.mb) = ms.set i g'.mb :=
  ⟨by rw [List.map_set, h1.1]; rfl, by rw [List.map_set, h1.2]⟩
theorem put_len (h2 : u.g.length = 8) {x : Gs} : (u.putG i x).g.length = 8 := by show (u.g.set i x).length = 8; rw [List.length_set, h2]
theorem rows_get : ∀ {gs : List GX} {i k : Nat}, gs[i]? = some g → k < 3 → (gs.flatMap GX.row)[i * 3 + k]? = g.row[k]?
  | [], i, k, h, _ => by simp at h
  | x :: gs, 0, k, h, hk => by
    simp at h
    subst h
    rw [List.flatMap_cons, List.getElem?_append_left (by show _ < 3; omega), Nat.zero_mul, Nat.zero_add]
  | x :: gs, i + 1, k, h, hk => by
    rw [List.flatMap_cons, List.getElem?_append_right (by show 3 ≤ _; omega), show (i + 1) * 3 + k - x.row.length = i * 3 + k by show _ - 3 = _; omega]
    exact rows_get (by simpa using h) hk
theorem rows_set {v : Value} : ∀ {gs : List GX} {i k : Nat}, gs[i]? = some g → k < 3 → g'.row = g.row.set k v → (gs.flatMap GX.row).set (i * 3 + k) v = (gs.set i g').flatMap GX.row
  | [], i, k, h, _, _ => by simp at h
  | x :: gs, 0, k, h, hk, e => by
    simp at h
    subst h
    rw [List.flatMap_cons, List.set_append_left _ _ (by show _ < 3; omega), Nat.zero_mul, Nat.zero_add, ← e, List.set_cons_zero, List.flatMap_cons]
  | x :: gs, i + 1, k, h, hk, e => by
    rw [List.flatMap_cons, List.set_append_right _ _ (by show 3 ≤ _; omega), show (i + 1) * 3 + k - x.row.length = i * 3 + k by show _ - 3 = _; omega, rows_set (by simpa using h) hk e, List.set_cons_succ, List.flatMap_cons]
theorem ucell {k : Nat} {x : Value} (h : gs[i]? = some g) (hk : k < 3) (hx : g.row[k]? = some x) : (ucells bs bt gs)[0 + 2 + ((i : Nat) : Int).toNat * 3 + k]? = some x := by
  rw [show 0 + 2 + ((i : Nat) : Int).toNat * 3 + k = i * 3 + k + 1 + 1 by simp; omega]
  show (gs.flatMap GX.row)[i * 3 + k]? = _
  rw [rows_get h hk, hx]
theorem uset {k : Nat} {v : Value} (h : gs[i]? = some g) (hk : k < 3) (e : g'.row = g.row.set k v) : (ucells bs bt gs).set (0 + 2 + ((i : Nat) : Int).toNat * 3 + k) v = ucells bs bt (gs.set i g') := by
  rw [show 0 + 2 + ((i : Nat) : Int).toNat * 3 + k = i * 3 + k + 1 + 1 by simp; omega]
  show _ :: _ :: (gs.flatMap GX.row).set (i * 3 + k) v = _
  rw [rows_set h hk e]
theorem rows_len : ∀ {gs : List GX}, (gs.flatMap GX.row).length = 3 * gs.length
  | [] => rfl
  | x :: gs => by rw [List.flatMap_cons, List.length_append, rows_len, List.length_cons]; show 3 + _ = _; omega
theorem ult {k : Nat} (h : gs[i]? = some g) (hk : k < 3) : Nat.ble (0 + 2 + ((i : Nat) : Int).toNat * 3 + k + 1) (ucells bs bt gs).length = true := by
  have hi := (List.getElem?_eq_some_iff.1 h).1
  rw [Nat.ble_eq]
  show _ ≤ (gs.flatMap GX.row).length + 1 + 1
  rw [rows_len]; simp; omega
theorem guest_put (h2 : u.g.length = 8) (hi : i < 8) {x : Gs} : (u.putG i x).guest i = x := by
  show (u.g.set i x).getD i _ = x
  rw [List.getD_eq_getElem?_getD, List.getElem?_set, if_pos rfl, if_pos (by omega)]; rfl
theorem guest_other {j : Nat} (h : i ≠ j) {x : Gs} : (u.putG i x).guest j = u.guest j := by
  show (u.g.set i x).getD j _ = u.g.getD j _
  rw [List.getD_eq_getElem?_getD, List.getD_eq_getElem?_getD, List.getElem?_set, if_neg h]
theorem setS_put {s : Sp} {x : Gs} : (u.putG i x).setS s = (u.setS s).putG i x := rfl
theorem cV_one {l : List Int} : ∀ x ∈ cV l, x.oneCell' = true := fun x hx => by obtain ⟨y, _, rfl⟩ := List.mem_map.1 hx; rfl
theorem cut_codes {a : Option Addr} {c k : Nat} {l : List Int} (C : Gives L (Cells 1 (.slice a l.length c) l.length (cV l))) (hk : k ≤ l.length) (hc : l.length ≤ c) :
    ∃ a' c', sliced a k l.length c 1 = .slice a' (l.drop k).length c' ∧ Gives L (Cells 1 (.slice a' (l.drop k).length c') (l.drop k).length (cV (l.drop k))) := by
  refine ⟨if c = k then a else a.map (·.add (k * 1)), c - k, by rw [List.length_drop]; rfl, fun h H => ?_⟩
  have c1 := (C h H).cut (l := k) (h := l.length) (m := c) hk (Nat.le_refl _) hc (Nat.le_refl _)
  have e1 : ((cV l).drop (k * 1)).take ((l.length - k) * 1) = cV (l.drop k) := by
    rw [Nat.mul_one, Nat.mul_one, List.take_of_length_le (by simp [cV])]
    simp [cV, List.map_drop]
  rw [e1] at c1
  have e2 : sliced a k l.length c 1 = .slice (if c = k then a else a.map (·.add (k * 1))) (l.drop k).length (c - k) := by rw [List.length_drop]; rfl
  rw [e2] at c1
  rw [← List.length_drop] at c1
  exact c1
theorem cV_get {l : List Int} {k : Nat} {x : Int} (h : l[k]? = some x) : ((cV l).drop (k * 1)).take 1 = [.int .i64 x] := by
  have hlt := (List.getElem?_eq_some_iff.1 h).1
  have he := (List.getElem?_eq_some_iff.1 h).2
  unfold cV
  rw [Nat.mul_one, ← List.map_drop, ← List.map_take, List.drop_eq_getElem_cons hlt, List.take_succ_cons, List.take_zero, he]
  rfl
theorem set_same (h : gs[i]? = some g) : gs.set i g = gs := by
  apply List.ext_getElem?
  intro j
  rw [List.getElem?_set]
  split
  · rename_i e; subst e
    have := (List.getElem?_eq_some_iff.1 h).1
    rw [if_pos this, h]
  · rfl
theorem putG_same (h2 : u.g.length = 8) (hi : i < 8) : u.putG i (u.guest i) = u := by
  have e : u.g.set i (u.guest i) = u.g := by
    apply List.ext_getElem?
    intro j
    rw [List.getElem?_set]
    split
    · rename_i e; subst e
      rw [if_pos (by omega)]
      unfold Un.guest
      rw [List.getD_eq_getElem?_getD, List.getElem?_eq_getElem (by omega)]; rfl
    · rfl
  show ({ u with g := u.g.set i (u.guest i) } : Un) = u
  rw [e]
theorem tell_same {x : Int} (h2 : u.g.length = 8) (hi : i < 8) (h : x ∈ (u.guest i).codes) : u.tell i x = u := by
  have e0 : (u.guest i).tell x = u.guest i := by
    show ({ u.guest i with codes := if x ∈ (u.guest i).codes then (u.guest i).codes else (u.guest i).codes ++ [x] } : Gs) = _
    rw [if_pos h]
  unfold Un.tell
  rw [e0, putG_same h2 hi]
theorem tell_len {j : Nat} {x : Int} (h2 : u.g.length = 8) : (u.tell j x).g.length = 8 := put_len h2
theorem resetN_len (h2 : u.g.length = 8) : ∀ n, (resetN u n).g.length = 8
  | 0 => h2
  | n + 1 => tell_len (resetN_len h2 n)
theorem resetN_guest {j : Nat} : ∀ n, n ≤ j → (resetN u n).guest j = u.guest j
  | 0, _ => rfl
  | n + 1, h => by
    show ((resetN u n).putG n _).guest j = _
    rw [guest_other (by omega), resetN_guest n (by omega)]
theorem resetN_done {j : Nat} (h2 : u.g.length = 8) : ∀ n, j < n → n ≤ 8 → (resetN u n).guest j = (u.guest j).tell 10499
  | 0, h, _ => by omega
  | n + 1, h, h8 => by
    show ((resetN u n).putG n _).guest j = _
    by_cases e : n = j
    · subst e
      rw [guest_put (resetN_len h2 n) (by omega), resetN_guest n (Nat.le_refl _)]
    · rw [guest_other e, resetN_done h2 n (by omega) (by omega)]
def doM (u : Un) (h : Int) (c : Cm) : Un × Rp :=
  if hostB h = false ∨ c.kind < 1 ∨ 18 < c.kind then (u, plain 2 5 8192)
  else if c.kind = 9 then
    match (u.guest h.toNat).codes with
    | [] => (u, gave (senseB 0 0))
    | x :: l => (u.putG h.toNat (u.guest h.toNat).pop, gave (senseB 6 x.toNat))
  else if c.kind ≠ 8 ∧ (u.guest h.toNat).codes ≠ [] then (u.putG h.toNat (u.guest h.toNat).pop, plain 2 6 ((u.guest h.toNat).codes.headD 0))
  else if allowB u.t h c.kind = false then (u, plain 24 0 0)
  else actM u h.toNat c
theorem doM_bad {hh : Int} {c : Cm} (h : hostB hh = false ∨ c.kind < 1 ∨ 18 < c.kind) : doM u hh c = (u, plain 2 5 8192) := by unfold doM; rw [if_pos h]
theorem host_nat (hi : i < 8) : hostB (i : Int) = true := hostB_iff.2 ⟨by omega, by omega⟩
theorem doM_in {c : Cm} (hi : i < 8) (h1 : 1 ≤ c.kind) (h18 : c.kind ≤ 18) : ¬ (hostB (i : Int) = false ∨ c.kind < 1 ∨ 18 < c.kind) := by
  rw [host_nat hi]; rintro (h | h | h); cases h; omega; omega
theorem doM_sense0 {c : Cm} (hi : i < 8) (hk : c.kind = 9) (hc : (u.guest i).codes = []) : doM u i c = (u, gave (senseB 0 0)) := by
  unfold doM; rw [if_neg (doM_in hi (by omega) (by omega)), if_pos hk, Int.toNat_natCast, hc]
theorem doM_sense1 {c : Cm} {x : Int} {l : List Int} (hi : i < 8) (hk : c.kind = 9) (hc : (u.guest i).codes = x :: l) : doM u i c = (u.putG i (u.guest i).pop, gave (senseB 6 x.toNat)) := by
  unfold doM; rw [if_neg (doM_in hi (by omega) (by omega)), if_pos hk, Int.toNat_natCast, hc]
theorem doM_pop {c : Cm} {x : Int} {l : List Int} (hi : i < 8) (h1 : 1 ≤ c.kind) (h18 : c.kind ≤ 18) (h9 : c.kind ≠ 9) (h8 : c.kind ≠ 8) (hc : (u.guest i).codes = x :: l) : doM u i c = (u.putG i (u.guest i).pop, plain 2 6 x) := by
  unfold doM; rw [if_neg (doM_in hi h1 h18), if_neg h9, Int.toNat_natCast, if_pos ⟨h8, by rw [hc]; simp⟩, hc]; rfl
theorem doM_free {c : Cm} (h : c.kind = 8 ∨ (u.guest i).codes = []) : ¬ (c.kind ≠ 8 ∧ (u.guest i).codes ≠ []) := by
  rintro ⟨h1, h2⟩; rcases h with h | h; exact h1 h; exact h2 h
theorem doM_no {c : Cm} (hi : i < 8) (h1 : 1 ≤ c.kind) (h18 : c.kind ≤ 18) (h9 : c.kind ≠ 9) (h : c.kind = 8 ∨ (u.guest i).codes = []) (ha : ¬ allowP u.t i c.kind) : doM u i c = (u, plain 24 0 0) := by
  unfold doM; rw [if_neg (doM_in hi h1 h18), if_neg h9, Int.toNat_natCast, if_neg (doM_free h), if_pos (by rw [← Bool.not_eq_true, allowB_iff]; exact ha)]
theorem doM_go {c : Cm} (hi : i < 8) (h1 : 1 ≤ c.kind) (h18 : c.kind ≤ 18) (h9 : c.kind ≠ 9) (h : c.kind = 8 ∨ (u.guest i).codes = []) (ha : allowP u.t i c.kind) : doM u i c = actM u i c := by
  unfold doM; rw [if_neg (doM_in hi h1 h18), if_neg h9, Int.toNat_natCast, if_neg (doM_free h), if_neg (by rw [allowB_iff.2 ha]; decide)]
/-! ### A new one -/
def zrow : List Value := [.slice none 0 0, .int .u64 0, .map none]
def zG (mb : Nat) : GX := ⟨⟨[], 0, []⟩, none, 0, mb, 0, []⟩
abbrev ncells (bs bt : Nat) (gs : List GX) (k : Nat) : List Value := .pointer (some ⟨bs, 0, none⟩) :: .pointer (some ⟨bt, 0, none⟩) :: (gs.flatMap GX.row ++ (List.replicate k zrow).flatten)
theorem nset {mb k : Nat} (hk : gs.length = i) : (ncells bs bt gs (k + 1)).set (0 + 2 + ((i : Nat) : Int).toNat * 3 + 2) (.map (some mb)) = ncells bs bt (gs ++ [zG mb]) k := by
  rw [show 0 + 2 + ((i : Nat) : Int).toNat * 3 + 2 = i * 3 + 2 + 1 + 1 by simp; omega]
  show _ :: _ :: (gs.flatMap GX.row ++ (List.replicate (k + 1) zrow).flatten).set (i * 3 + 2) _ = _ :: _ :: ((gs ++ [zG mb]).flatMap GX.row ++ (List.replicate k zrow).flatten)
  rw [List.set_append_right _ _ (by rw [rows_len]; omega), rows_len, hk, show i * 3 + 2 - 3 * i = 2 by omega, List.replicate_succ, List.flatten_cons, List.flatMap_append, List.append_assoc]
  rfl
theorem nlt {k : Nat} (hk : gs.length = i) : Nat.ble (0 + 2 + ((i : Nat) : Int).toNat * 3 + 2 + 1) (ncells bs bt gs (k + 1)).length = true := by
  rw [Nat.ble_eq]
  show _ ≤ (gs.flatMap GX.row ++ (List.replicate (k + 1) zrow).flatten).length + 1 + 1
  rw [List.length_append, rows_len, List.replicate_succ, List.flatten_cons, List.length_append]
  show _ ≤ 3 * gs.length + (3 + _) + 1 + 1
  simp; omega
theorem zG_own {mb : Nat} (H : On W0 (MapC mb .u64 [] 0 :: L) w) : On W0 (GOwn pool (zG mb) :: L) w :=
  closeG ⟨List.Perm.refl _, List.nodup_nil, fun x hx => by cases hx⟩ (H.ownEmpty 1 none)
theorem nmap (h : gs.map (·.s) = List.replicate i ⟨[], 0, []⟩) {mb : Nat} : (gs ++ [zG mb]).map (·.s) = List.replicate (i + 1) ⟨[], 0, []⟩ := by
  rw [List.map_append, h, List.replicate_succ']; rfl
end
end Go.Sl.UnM
