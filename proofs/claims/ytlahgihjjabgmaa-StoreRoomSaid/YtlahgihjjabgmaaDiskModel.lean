/-
  Sectors and the writes that wait, as plain data, and as they lie. No program is named here.
-/
import Derived.Test.YtlahgihjjabgmaaSlB
namespace Go.Sl.DkM
open Go Go.Sl
set_option linter.unusedVariables false
structure Sec where
  kept : List UInt8
  wait : List (List UInt8)
def Sec.now (s : Sec) : List UInt8 := s.wait.getLast?.getD s.kept
/-- A disk: how many sectors, those that were written (the eldest first), whether it is off, dead; armed, its picks; how many calls were done. -/
structure Dk where
  n : Int
  m : List (Int × Sec)
  off : Bool
  dead : Bool
  armed : Int
  picks : List Int
  calls : Int
def lookM' (m : List (Int × Sec)) (k : Int) : Option Sec := (m.find? fun x => x.1 == k).map (·.2)
def lookD (d : Dk) (k : Int) : Option Sec := lookM' d.m k
def Dk.ok (d : Dk) : Prop := d.n ≤ 4096 ∧ 0 ≤ d.calls ∧ (d.m.map (·.1)).Nodup ∧ ∀ x ∈ d.m, 0 ≤ x.1 ∧ x.1 < d.n ∧ (x.2.wait.length : Int) ≤ d.calls
def addW (m : List (Int × Sec)) (k : Int) (bs : List UInt8) : List (Int × Sec) :=
  if m.any (fun x => x.1 == k) then m.map fun x => if x.1 = k then (x.1, ⟨x.2.kept, x.2.wait ++ [bs]⟩) else x else m ++ [(k, ⟨[], [bs]⟩)]
def flushM (m : List (Int × Sec)) : List (Int × Sec) := m.map fun x => (x.1, ⟨x.2.now, []⟩)
def waitD (d : Dk) : Nat := (d.m.map fun x => x.2.wait.length).sum
/-- The power goes. -/
def pickP (picks : List Int) (i len : Nat) : Nat := match picks[i]? with | some p => (p % ((len : Int) + 1)).toNat | none => 0
def settle (s : Sec) (p : Nat) : Sec := ⟨if p = 0 then s.kept else (s.wait[p - 1]?).getD s.kept, []⟩
def rank (m : List (Int × Sec)) (k : Int) : Nat := (m.filter fun x => decide (x.1 < k) && !x.2.wait.isEmpty).length
def crash1 (m : List (Int × Sec)) (picks : List Int) (k : Int) (s : Sec) : Sec := settle s (if s.wait = [] then 0 else pickP picks (rank m k) s.wait.length)
def crashM (m : List (Int × Sec)) (picks : List Int) : List (Int × Sec) := m.map fun x => (x.1, crash1 m picks x.1 x.2)
def crashD (d : Dk) (picks : List Int) : Dk := if d.off then d else { d with off := true, armed := 0, m := if d.dead then d.m else crashM d.m picks }
/-- What calls tell. -/
def stE (d : Dk) : Int := if d.dead then 9 else if d.off then 8 else 0
def callD (d : Dk) : Int × Dk := if 0 < d.armed then (if d.armed = 1 then (8, crashD { d with armed := 0 } d.picks) else (0, { d with armed := d.armed - 1, calls := d.calls + 1 })) else (0, { d with calls := d.calls + 1 })
def writeD (d : Dk) (k : Int) (bs : List UInt8) : Int × Dk :=
  if stE d ≠ 0 then (stE d, d) else if ¬ (0 ≤ k ∧ k < d.n ∧ bs.length ≤ 512) then (1, d) else
  if (callD d).1 ≠ 0 then callD d else (0, { (callD d).2 with m := addW (callD d).2.m k bs })
def flushD (d : Dk) : Int × Dk := if stE d ≠ 0 then (stE d, d) else if (callD d).1 ≠ 0 then callD d else (0, { (callD d).2 with m := flushM (callD d).2.m })
def full (bs : List UInt8) : List UInt8 := bs.take 512 ++ List.replicate (512 - bs.length) 0
def readD (d : Dk) (k : Int) : List UInt8 := ((lookD d k).map fun s => full s.now).getD (List.replicate 512 0)
def rdE (d : Dk) (k : Int) : Int := if stE d ≠ 0 then stE d else if 0 ≤ k ∧ k < d.n then 0 else 1
/-- Where a row of the map lies. -/
structure Rw where
  k : Int
  p : Nat
  born : Nat
  s : Sec
def Rw.kv (r : Rw) : KV := (r.k, .pointer (some ⟨r.p, 0, none⟩), r.born)
def Rw.ks (r : Rw) : Int × Sec := (r.k, r.s)
abbrev PoolL := List (Value × List UInt8)
/-- Bytes that are shared, or none. -/
def InP (pool : PoolL) (v : Value) (bs : List UInt8) : Prop := (v, bs) ∈ pool ∨ (v = .slice none 0 0 ∧ bs = [])
theorem InP.mono {pool pool' : PoolL} {v : Value} {bs : List UInt8} (h : ∀ p ∈ pool, p ∈ pool') (H : InP pool v bs) : InP pool' v bs := H.imp (h _) id
theorem InP.gives {L : List HProp} {pool : PoolL} {v : Value} {bs : List UInt8} (H : InP pool v bs) : Gives (Pool pool :: L) (Bytes v bs) := by
  rcases H with h | ⟨rfl, rfl⟩
  · exact Gives.pool h
  · exact Gives.nilB
/-- The waiting writes' values. -/
def waitsP (pool : PoolL) (vs : List Value) (ws : List (List UInt8)) : Prop := vs.length = ws.length ∧ ∀ (i : Nat) (v : Value) (bs : List UInt8), vs[i]? = some v → ws[i]? = some bs → InP pool v bs ∧ v.oneCell' = true
theorem waitsP_nil {pool : PoolL} : waitsP pool [] [] := ⟨rfl, fun i v bs h => by simp at h⟩
theorem waitsP_snoc {pool : PoolL} {vs : List Value} {ws : List (List UInt8)} {v : Value} {bs : List UInt8} (H : waitsP pool vs ws) (h : InP pool v bs) (h1 : v.oneCell' = true) : waitsP pool (vs ++ [v]) (ws ++ [bs]) := by
  refine ⟨by simp [H.1], fun i u cs hu hc => ?_⟩
  rw [List.getElem?_append] at hu hc
  split at hu
  · rename_i hlt
    rw [if_pos (by rw [← H.1]; exact hlt)] at hc
    exact H.2 i u cs hu hc
  · rename_i hge
    rw [if_neg (by rw [← H.1]; exact hge)] at hc
    rw [H.1] at hu
    generalize i - ws.length = j at hu hc
    cases j with
    | zero => simp at hu hc; subst hu; subst hc; exact ⟨h, h1⟩
    | succ j => simp at hu
theorem waitsP.mono {pool pool' : PoolL} {vs : List Value} {ws : List (List UInt8)} (h : ∀ p ∈ pool, p ∈ pool') (H : waitsP pool vs ws) : waitsP pool' vs ws := ⟨H.1, fun i v bs h1 h2 => ⟨(H.2 i v bs h1 h2).1.mono h, (H.2 i v bs h1 h2).2⟩⟩
/-- A sector as it lies. -/
def SecA (TS : Nat) (pool : PoolL) (r : Rw) : HProp := Ex fun (y : Value × Option Addr × Nat × List Value) => Pack ((InP pool y.1 r.s.kept ∧ y.1.oneCell' = true) ∧ waitsP pool y.2.2.2 r.s.wait)
  [blk r.p [y.1, .slice y.2.1 r.s.wait.length y.2.2.1] TS, Own 1 (.slice y.2.1 r.s.wait.length y.2.2.1) r.s.wait.length y.2.2.2]
def intsV (l : List Int) : List Value := l.map (.int .i64)
@[simp] theorem intsV_length (l : List Int) : (intsV l).length = l.length := by simp [intsV]
/-- A disk as it lies, its picks elsewhere. -/
def DiskQ (T TS b : Nat) (d : Dk) (pa : Option Addr) (pn pc : Nat) : HProp := Ex fun (y : Nat × Nat × List Rw × PoolL) => Pack (d.ok ∧ d.m = y.2.2.1.map Rw.ks)
  [blk b [.int .i64 d.n, .map (some y.1), .bool d.off, .bool d.dead, .int .i64 d.armed, .slice pa pn pc, .int .i64 d.calls] T, MapC y.1 .i64 (y.2.2.1.map Rw.kv) y.2.1, Big (SecA TS y.2.2.2) y.2.2.1, Pool y.2.2.2]
/-- A disk as it lies. -/
def DiskP (T TS b : Nat) (d : Dk) : HProp := Ex fun (y : Option Addr × Nat) => Pack True [DiskQ T TS b d y.1 d.picks.length y.2, Own 1 (.slice y.1 d.picks.length y.2) d.picks.length (intsV d.picks)]
section
variable {W0 w : World} {L : List HProp} {T TS b : Nat} {d : Dk} {pool pool' : PoolL} {pa : Option Addr} {pn pc : Nat}
theorem openQ (H : On W0 (DiskQ T TS b d pa pn pc :: L) w) : ∃ (mb ck : Nat) (rows : List Rw) (pool : PoolL), d.ok ∧ d.m = rows.map Rw.ks ∧
    On W0 (blk b [.int .i64 d.n, .map (some mb), .bool d.off, .bool d.dead, .int .i64 d.armed, .slice pa pn pc, .int .i64 d.calls] T :: MapC mb .i64 (rows.map Rw.kv) ck :: Big (SecA TS pool) rows :: Pool pool :: L) w := by
  obtain ⟨⟨mb, ck, rows, pool⟩, H⟩ := H.ex
  obtain ⟨⟨h0, h1⟩, H⟩ := H.unpack
  exact ⟨mb, ck, rows, pool, h0, h1, H⟩
theorem closeQ {mb ck : Nat} {rows : List Rw} (h0 : d.ok) (h1 : d.m = rows.map Rw.ks)
    (H : On W0 (blk b [.int .i64 d.n, .map (some mb), .bool d.off, .bool d.dead, .int .i64 d.armed, .slice pa pn pc, .int .i64 d.calls] T :: MapC mb .i64 (rows.map Rw.kv) ck :: Big (SecA TS pool) rows :: Pool pool :: L) w) : On W0 (DiskQ T TS b d pa pn pc :: L) w :=
  On.exI (mb, ck, rows, pool) (On.pack ⟨h0, h1⟩ H)
theorem openP (H : On W0 (DiskP T TS b d :: L) w) : ∃ (pa : Option Addr) (pc : Nat), On W0 (DiskQ T TS b d pa d.picks.length pc :: Own 1 (.slice pa d.picks.length pc) d.picks.length (intsV d.picks) :: L) w := by
  obtain ⟨⟨pa, pc⟩, H⟩ := H.ex
  obtain ⟨_, H⟩ := H.unpack
  exact ⟨pa, pc, H⟩
theorem closeP {pa : Option Addr} {pc : Nat} (H : On W0 (DiskQ T TS b d pa d.picks.length pc :: Own 1 (.slice pa d.picks.length pc) d.picks.length (intsV d.picks) :: L) w) : On W0 (DiskP T TS b d :: L) w :=
  On.exI (pa, pc) (On.pack trivial H)
theorem openS {r : Rw} (H : On W0 (SecA TS pool r :: L) w) : ∃ (vk : Value) (a : Option Addr) (c : Nat) (vs : List Value), InP pool vk r.s.kept ∧ vk.oneCell' = true ∧ waitsP pool vs r.s.wait ∧
    On W0 (blk r.p [vk, .slice a r.s.wait.length c] TS :: Own 1 (.slice a r.s.wait.length c) r.s.wait.length vs :: L) w := by
  obtain ⟨⟨vk, a, c, vs⟩, H⟩ := H.ex
  obtain ⟨⟨⟨h1, h2⟩, h3⟩, H⟩ := H.unpack
  exact ⟨vk, a, c, vs, h1, h2, h3, H⟩
theorem closeS {r : Rw} {vk : Value} {a : Option Addr} {c : Nat} {vs : List Value} (h1 : InP pool vk r.s.kept) (h2 : vk.oneCell' = true) (h3 : waitsP pool vs r.s.wait)
    (H : On W0 (blk r.p [vk, .slice a r.s.wait.length c] TS :: Own 1 (.slice a r.s.wait.length c) r.s.wait.length vs :: L) w) : On W0 (SecA TS pool r :: L) w :=
  On.exI (vk, a, c, vs) (On.pack ⟨⟨h1, h2⟩, h3⟩ H)
theorem SecA_mono {r : Rw} (h : ∀ p ∈ pool, p ∈ pool') (hh : Hp) (H : SecA TS pool r hh) : SecA TS pool' r hh := by
  obtain ⟨y, ⟨⟨h1, h2⟩, h3⟩, s⟩ := H
  exact ⟨y, ⟨⟨h1.mono h, h2⟩, h3.mono h⟩, s⟩
theorem Big_mono {α : Type} {A B : α → HProp} (h : ∀ x hh, A x hh → B x hh) : ∀ (l : List α) (hh : Hp), Big A l hh → Big B l hh
  | [], _, _ => trivial
  | x :: l, hh, H => by
    have H' : Sat (A x :: l.map A) hh := H
    show Sat (B x :: l.map B) hh
    obtain ⟨h1, h2, dd, s1, s2, a, r⟩ := H'
    exact ⟨h1, h2, dd, s1, s2, h x _ a, Big_mono h l h2 r⟩
theorem look_rows {rows : List Rw} {k : Int} : lookM (rows.map Rw.kv) k = (rows.find? fun r => r.k == k).map fun r => .pointer (some ⟨r.p, 0, none⟩) := by
  unfold lookM
  rw [List.find?_map]
  have e : ((fun x : KV => x.1 == k) ∘ Rw.kv) = fun r : Rw => r.k == k := rfl
  rw [e]
  cases rows.find? fun r => r.k == k <;> rfl
theorem lookD_rows {d : Dk} {rows : List Rw} {k : Int} (h : d.m = rows.map Rw.ks) : lookD d k = (rows.find? fun r => r.k == k).map (·.s) := by
  unfold lookD lookM'
  rw [h, List.find?_map]
  have e : ((fun x : Int × Sec => x.1 == k) ∘ Rw.ks) = fun r : Rw => r.k == k := rfl
  rw [e]
  cases rows.find? fun r => r.k == k <;> rfl
end
end Go.Sl.DkM
namespace Go.Sl.DkM
open Go Go.Sl
theorem rows_cases (rows : List Rw) (k : Int) : (lookM (rows.map Rw.kv) k = none ∧ ∀ r ∈ rows, r.k ≠ k) ∨ ∃ (i : Nat) (r : Rw), rows[i]? = some r ∧ r.k = k ∧ lookM (rows.map Rw.kv) k = some (.pointer (some ⟨r.p, 0, none⟩)) := by
  rw [look_rows]
  rcases h : rows.find? fun r => r.k == k with _ | r
  · exact .inl ⟨by rw [h]; rfl, fun r hr => by have := List.find?_eq_none.1 h r hr; simpa using this⟩
  · obtain ⟨i, hi⟩ := List.getElem?_of_mem (List.mem_of_find?_eq_some h)
    have hk := List.find?_some h
    exact .inr ⟨i, r, hi, by simpa using hk, by rw [h]; rfl⟩
theorem put_rows_new {rows : List Rw} {k : Int} {p ck : Nat} (h : ∀ r ∈ rows, r.k ≠ k) : putM (rows.map Rw.kv) k (.pointer (some ⟨p, 0, none⟩)) ck = (rows ++ [(⟨k, p, ck, ⟨[], []⟩⟩ : Rw)]).map Rw.kv ∧ clockM (rows.map Rw.kv) k ck = ck + 1 := by
  have ha : ¬ (rows.map Rw.kv).any (fun x => x.1 == k) = true := by
    intro hh
    obtain ⟨x, hx, he⟩ := List.any_eq_true.1 hh
    obtain ⟨r, hr, rfl⟩ := List.mem_map.1 hx
    exact h r hr (by simpa [Rw.kv] using he)
  unfold putM clockM
  rw [if_neg ha, if_neg ha]
  exact ⟨by simp [Rw.kv], rfl⟩
theorem look_new {rows : List Rw} {k : Int} {p ck : Nat} {s : Sec} (h : ∀ r ∈ rows, r.k ≠ k) : lookM ((rows ++ [(⟨k, p, ck, s⟩ : Rw)]).map Rw.kv) k = some (.pointer (some ⟨p, 0, none⟩)) := by
  rw [look_rows, List.find?_append, List.find?_eq_none.2 (fun r hr => by simpa using h r hr)]
  simp
/-- A write at a row that is there. -/
theorem addW_rows {rows : List Rw} {k : Int} {i : Nat} {r : Rw} {bs : List UInt8} (hn : (rows.map (·.k)).Nodup) (hi : rows[i]? = some r) (hk : r.k = k) :
    addW (rows.map Rw.ks) k bs = (rows.set i { r with s := ⟨r.s.kept, r.s.wait ++ [bs]⟩ }).map Rw.ks := by
  have hlt := (List.getElem?_eq_some_iff.1 hi).1
  have hri : rows[i] = r := (List.getElem?_eq_some_iff.1 hi).2
  have ha : (rows.map Rw.ks).any (fun x => x.1 == k) = true := List.any_eq_true.2 ⟨r.ks, List.mem_map.2 ⟨r, List.mem_of_getElem? hi, rfl⟩, by simp [Rw.ks, hk]⟩
  unfold addW
  rw [if_pos ha]
  apply List.ext_getElem
  · simp
  · intro j h1 h2
    simp at h1
    by_cases hj : i = j
    · subst hj
      simp [hri, Rw.ks, hk]
    · have hne : rows[j].k ≠ k := by
        intro he
        have h3 : (rows.map (·.k))[i]'(by simpa using hlt) = (rows.map (·.k))[j]'(by simpa using h1) := by simp [he, hri, hk]
        exact hj ((List.getElem_inj hn).1 h3)
      simp [List.getElem_set, hj, Rw.ks, hne]
theorem addW_new {rows : List Rw} {k : Int} {bs : List UInt8} (h : ∀ r ∈ rows, r.k ≠ k) : addW (rows.map Rw.ks) k bs = rows.map Rw.ks ++ [(k, ⟨[], [bs]⟩)] := by
  unfold addW
  rw [if_neg]
  intro hh
  obtain ⟨x, hx, he⟩ := List.any_eq_true.1 hh
  obtain ⟨r, hr, rfl⟩ := List.mem_map.1 hx
  exact h r hr (by simpa [Rw.ks] using he)
theorem kv_set {rows : List Rw} {i : Nat} {r : Rw} {s : Sec} (hi : rows[i]? = some r) : (rows.set i { r with s := s }).map Rw.kv = rows.map Rw.kv := by
  have hlt := (List.getElem?_eq_some_iff.1 hi).1
  have hri : rows[i] = r := (List.getElem?_eq_some_iff.1 hi).2
  apply List.ext_getElem
  · simp
  · intro j h1 h2
    simp at h1
    by_cases hj : i = j
    · subst hj; simp [Rw.kv, hri]
    · simp [List.getElem_set, hj]
/-- A write's end. -/
theorem closeW {W0 w : World} {L : List HProp} {T TS b : Nat} {d : Dk} {pool : PoolL} {k : Int} {bs : List UInt8} {v vk : Value} {rows : List Rw} {i mb ck : Nat} {r : Rw} {a : Option Addr} {c : Nat} {vs : List Value} {pa : Option Addr} {pn pc : Nat}
    (hok : Dk.ok { d with m := addW d.m k bs })
    (hi : rows[i]? = some r) (hadd : addW d.m k bs = (rows.set i { r with s := ⟨r.s.kept, r.s.wait ++ [bs]⟩ }).map Rw.ks) (hvk : InP pool vk r.s.kept) (hv1 : vk.oneCell' = true) (hws : waitsP pool vs r.s.wait) (hv : v.oneCell' = true)
    (h : On W0 (blk r.p [vk, .slice a (r.s.wait.length + 1) c] TS :: Own 1 (.slice a (r.s.wait.length + 1) c) (r.s.wait.length + 1) (vs ++ [v]) :: Big (SecA TS pool) (rows.eraseIdx i) ::
      blk b [.int .i64 d.n, .map (some mb), .bool d.off, .bool d.dead, .int .i64 d.armed, .slice pa pn pc, .int .i64 d.calls] T :: MapC mb .i64 (rows.map Rw.kv) ck :: Pool ((v, bs) :: pool) :: L) w) :
    On W0 (DiskQ T TS b { d with m := addW d.m k bs } pa pn pc :: L) w := by
  have hgr : ∀ p ∈ pool, p ∈ ((v, bs) :: pool : PoolL) := fun p hp => List.mem_cons_of_mem _ hp
  have hb := (h.p2).head (B := Big (SecA TS ((v, bs) :: pool)) (rows.eraseIdx i)) (Big_mono (fun x hh => SecA_mono hgr hh) _)
  have h2 := hb.q2
  have e : r.s.wait.length + 1 = (r.s.wait ++ [bs]).length := by simp
  rw [e] at h2
  have h3 := closeS (pool := (v, bs) :: pool) (r := { r with s := ⟨r.s.kept, r.s.wait ++ [bs]⟩ }) (hvk.mono hgr) hv1 (waitsP_snoc (hws.mono hgr) (.inl (List.mem_cons_self ..)) hv) h2
  have h4 := Big.close (List.getElem?_eq_some_iff.1 hi).1 h3
  rw [← kv_set (s := ⟨r.s.kept, r.s.wait ++ [bs]⟩) hi] at h4
  exact closeQ (d := { d with m := addW d.m k bs }) hok hadd h4.q2
end Go.Sl.DkM
