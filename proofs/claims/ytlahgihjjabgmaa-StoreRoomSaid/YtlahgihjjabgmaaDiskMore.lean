/-
  Sectors: what calls tell; rows that a range over the map has come to. No program is named here.
-/
import Derived.Test.YtlahgihjjabgmaaDiskModel
namespace Go.Sl.DkM
open Go Go.Sl
set_option linter.unusedVariables false
theorem rdE_st {d : Dk} {k : Int} {e : Int} (h : stE d = e) (h0 : e ≠ 0) : rdE d k = e := by unfold rdE; rw [if_pos (by rw [h]; exact h0), h]
theorem rdE_arg {d : Dk} {k : Int} (h : stE d = 0) (h0 : ¬ (0 ≤ k ∧ k < d.n)) : rdE d k = 1 := by unfold rdE; rw [if_neg (by rw [h]; decide), if_neg h0]
theorem rdE_ok {d : Dk} {k : Int} (h : stE d = 0) (h0 : 0 ≤ k ∧ k < d.n) : rdE d k = 0 := by unfold rdE; rw [if_neg (by rw [h]; decide), if_pos h0]
theorem writeD_st {d : Dk} {k : Int} {bs : List UInt8} {e : Int} (h : stE d = e) (h0 : e ≠ 0) : writeD d k bs = (e, d) := by unfold writeD; rw [if_pos (by rw [h]; exact h0), h]
theorem writeD_arg {d : Dk} {k : Int} {bs : List UInt8} (h : stE d = 0) (h0 : ¬ (0 ≤ k ∧ k < d.n ∧ bs.length ≤ 512)) : writeD d k bs = (1, d) := by unfold writeD; rw [if_neg (by rw [h]; decide), if_pos h0]
theorem writeD_call {d : Dk} {k : Int} {bs : List UInt8} (h : stE d = 0) (h0 : 0 ≤ k ∧ k < d.n ∧ bs.length ≤ 512) (hc : (callD d).1 ≠ 0) : writeD d k bs = callD d := by
  unfold writeD; rw [if_neg (by rw [h]; decide), if_neg (fun hh => hh h0), if_pos hc]
theorem writeD_ok {d : Dk} {k : Int} {bs : List UInt8} (h : stE d = 0) (h0 : 0 ≤ k ∧ k < d.n ∧ bs.length ≤ 512) (hc : (callD d).1 = 0) : writeD d k bs = (0, { (callD d).2 with m := addW (callD d).2.m k bs }) := by
  unfold writeD; rw [if_neg (by rw [h]; decide), if_neg (fun hh => hh h0), if_neg (by rw [hc]; decide)]
theorem flushD_st {d : Dk} {e : Int} (h : stE d = e) (h0 : e ≠ 0) : flushD d = (e, d) := by unfold flushD; rw [if_pos (by rw [h]; exact h0), h]
theorem flushD_call {d : Dk} (h : stE d = 0) (hc : (callD d).1 ≠ 0) : flushD d = callD d := by unfold flushD; rw [if_neg (by rw [h]; decide), if_pos hc]
theorem flushD_ok {d : Dk} (h : stE d = 0) (hc : (callD d).1 = 0) : flushD d = (0, { (callD d).2 with m := flushM (callD d).2.m }) := by unfold flushD; rw [if_neg (by rw [h]; decide), if_neg (by rw [hc]; decide)]
/-- Room for one more. -/
def Dk.ok1 (d : Dk) : Prop := d.ok ∧ ∀ x ∈ d.m, (x.2.wait.length : Int) + 1 ≤ d.calls
theorem Dk.ok.call0 {d : Dk} (h : d.ok) (a : Int) : Dk.ok1 { d with armed := a, calls := d.calls + 1 } := by
  obtain ⟨h1, h2, h3, h4⟩ := h
  refine ⟨⟨h1, by show 0 ≤ d.calls + 1; omega, h3, fun x hx => ?_⟩, fun x hx => ?_⟩
  · obtain ⟨a1, a2, a3⟩ := h4 x hx
    exact ⟨a1, a2, by show (x.2.wait.length : Int) ≤ d.calls + 1; omega⟩
  · obtain ⟨a1, a2, a3⟩ := h4 x hx
    show (x.2.wait.length : Int) + 1 ≤ d.calls + 1; omega
theorem map_keys {f : Int → Sec → Sec} (m : List (Int × Sec)) : (m.map fun x => (x.1, f x.1 x.2)).map (·.1) = m.map (·.1) := by rw [List.map_map]; rfl
theorem Dk.ok.maps {d : Dk} (h : d.ok) (f : Int → Sec → Sec) (hf : ∀ k s, (f k s).wait.length ≤ s.wait.length) : Dk.ok { d with m := d.m.map fun x => (x.1, f x.1 x.2) } := by
  obtain ⟨h1, h2, h3, h4⟩ := h
  refine ⟨h1, h2, (map_keys (f := f) d.m).symm ▸ h3, fun x hx => ?_⟩
  obtain ⟨y, hy, rfl⟩ := List.mem_map.1 hx
  obtain ⟨a1, a2, a3⟩ := h4 y hy
  have := hf y.1 y.2
  exact ⟨a1, a2, by show ((f y.1 y.2).wait.length : Int) ≤ d.calls; omega⟩
theorem Dk.ok.flush {d : Dk} (h : d.ok) : Dk.ok { d with m := flushM d.m } := h.maps (fun _ s => ⟨s.now, []⟩) (fun _ _ => Nat.zero_le _)
theorem Dk.ok.crashM {d : Dk} (h : d.ok) (picks : List Int) : Dk.ok { d with m := crashM d.m picks } := h.maps (fun k s => crash1 d.m picks k s) (fun _ _ => Nat.zero_le _)
theorem Dk.ok.flags {d : Dk} (h : d.ok) (o e : Bool) (a : Int) (p : List Int) : Dk.ok { d with off := o, dead := e, armed := a, picks := p } := h
theorem Dk.ok.crash {d : Dk} (h : d.ok) (picks : List Int) : (crashD d picks).ok := by
  unfold crashD
  split
  · exact h
  · by_cases hd : d.dead = true
    · rw [hd]; exact h
    · have := h.crashM picks
      have hd' : d.dead = false := by simpa using hd
      rw [hd']
      exact ⟨this.1, this.2.1, this.2.2.1, this.2.2.2⟩
theorem mem_addW {m : List (Int × Sec)} {k : Int} {bs : List UInt8} {x : Int × Sec} (h : x ∈ addW m k bs) : (∃ y ∈ m, x.1 = y.1 ∧ x.2.wait.length ≤ y.2.wait.length + 1) ∨ (x.1 = k ∧ x.2.wait.length = 1) := by
  unfold addW at h
  split at h
  · obtain ⟨y, hy, rfl⟩ := List.mem_map.1 h
    refine .inl ⟨y, hy, ?_⟩
    split
    · exact ⟨rfl, by simp⟩
    · exact ⟨rfl, by omega⟩
  · rcases List.mem_append.1 h with h | h
    · exact .inl ⟨x, h, rfl, by omega⟩
    · simp at h; subst h; exact .inr ⟨rfl, rfl⟩
theorem addW_keys (m : List (Int × Sec)) (k : Int) (bs : List UInt8) (h : (m.map (·.1)).Nodup) : ((addW m k bs).map (·.1)).Nodup := by
  unfold addW
  split
  · have e : (m.map fun x => if x.1 = k then (x.1, (⟨x.2.kept, x.2.wait ++ [bs]⟩ : Sec)) else x).map (·.1) = m.map (·.1) := by
      rw [List.map_map]
      refine List.map_congr_left fun x _ => ?_
      show (if x.1 = k then (x.1, (⟨x.2.kept, x.2.wait ++ [bs]⟩ : Sec)) else x).1 = x.1
      split <;> rfl
    rw [e]; exact h
  · rename_i ha
    rw [List.map_append]
    refine List.nodup_append.2 ⟨h, by simp, ?_⟩
    intro a ha1 b hb1
    simp at hb1
    subst hb1
    rintro rfl
    obtain ⟨y, hy, he⟩ := List.mem_map.1 ha1
    exact ha (List.any_eq_true.2 ⟨y, hy, by simpa using he⟩)
theorem Dk.ok1.add {d : Dk} (h : d.ok1) {k : Int} (hk : 0 ≤ k ∧ k < d.n) (hc : 1 ≤ d.calls) (bs : List UInt8) : Dk.ok { d with m := addW d.m k bs } := by
  obtain ⟨⟨h1, h2, h3, h4⟩, h5⟩ := h
  refine ⟨h1, h2, addW_keys _ _ _ h3, fun x hx => ?_⟩
  rcases mem_addW hx with ⟨y, hy, e1, e2⟩ | ⟨e1, e2⟩
  · have a := h4 y hy
    have b := h5 y hy
    show 0 ≤ x.1 ∧ x.1 < d.n ∧ (x.2.wait.length : Int) ≤ d.calls
    omega
  · show 0 ≤ x.1 ∧ x.1 < d.n ∧ (x.2.wait.length : Int) ≤ d.calls
    omega
theorem callD_cases {d : Dk} : ((callD d).1 = 0 ∧ ∃ a, (callD d).2 = { d with armed := a, calls := d.calls + 1 } ∧ (0 < d.armed → d.armed ≠ 1 ∧ a = d.armed - 1) ∧ (¬ 0 < d.armed → a = d.armed)) ∨ (d.armed = 1 ∧ callD d = (8, crashD { d with armed := 0 } d.picks)) := by
  unfold callD
  split
  · split
    · exact .inr ⟨by assumption, rfl⟩
    · exact .inl ⟨rfl, _, rfl, fun _ => ⟨by assumption, rfl⟩, fun h => absurd (by assumption) h⟩
  · exact .inl ⟨rfl, d.armed, rfl, fun h => absurd h (by assumption), fun _ => rfl⟩
theorem Dk.ok.call {d : Dk} (h : d.ok) : (callD d).2.ok := by
  rcases callD_cases (d := d) with ⟨_, a, e, _⟩ | ⟨_, e⟩
  · rw [e]; exact (h.call0 a).1
  · rw [e]; exact Dk.ok.crash (d := { d with armed := 0 }) h _
theorem Dk.ok.call1 {d : Dk} (h : d.ok) (h0 : (callD d).1 = 0) : (callD d).2.ok1 ∧ 1 ≤ (callD d).2.calls ∧ (callD d).2.n = d.n := by
  rcases callD_cases (d := d) with ⟨_, a, e, _⟩ | ⟨_, e⟩
  · rw [e]; exact ⟨h.call0 a, by have := h.2.1; show 1 ≤ d.calls + 1; omega, rfl⟩
  · rw [e] at h0; cases h0
theorem Dk.ok.write {d : Dk} (h : d.ok) (k : Int) (bs : List UInt8) : (writeD d k bs).2.ok := by
  unfold writeD
  split
  · exact h
  · split
    · exact h
    · split
      · exact h.call
      · rename_i hk hc
        obtain ⟨a, b, c⟩ := h.call1 (by simpa using hc)
        exact a.add (by rw [c]; have := Decidable.not_not.1 hk; exact ⟨this.1, this.2.1⟩) b bs
theorem Dk.ok.flushd {d : Dk} (h : d.ok) : (flushD d).2.ok := by
  unfold flushD
  split
  · exact h
  · split
    · exact h.call
    · exact h.call.flush
/-- How many there may be. -/
theorem nodup_range_length : ∀ (n : Nat) (l : List Int), l.Nodup → (∀ x ∈ l, 0 ≤ x ∧ x < (n : Int)) → l.length ≤ n
  | 0, l, _, h => by cases l with
    | nil => simp
    | cons x l => have := h x (by simp); omega
  | n + 1, l, hn, h => by
    have hf : (l.filter (fun x => decide (x ≠ (n : Int)))).length ≤ n := nodup_range_length n _ (hn.filter _) (fun x hx => by
      obtain ⟨a, b⟩ := List.mem_filter.1 hx
      have := h x a
      have : x ≠ (n : Int) := by simpa using b
      omega)
    have : l.length ≤ (l.filter (fun x => decide (x ≠ (n : Int)))).length + 1 := by
      clear hf h
      induction l with
      | nil => simp
      | cons y l ih =>
        rw [List.nodup_cons] at hn
        by_cases hy : y = (n : Int)
        · subst hy
          have e : l.filter (fun x => decide (x ≠ (n : Int))) = l := List.filter_eq_self.2 (fun x hx => by
            simp only [ne_eq, decide_eq_true_eq]
            rintro rfl
            exact hn.1 hx)
          rw [List.filter_cons, if_neg (by simp), e]
          simp
        · rw [List.filter_cons, if_pos (by simpa using hy)]
          have := ih hn.2
          simp only [List.length_cons]
          omega
    omega
theorem Dk.ok.size {d : Dk} (h : d.ok) : d.m.length ≤ 4096 := by
  obtain ⟨h1, h2, h3, h4⟩ := h
  have := nodup_range_length 4096 (d.m.map (·.1)) h3 (fun x hx => by
    obtain ⟨y, hy, rfl⟩ := List.mem_map.1 hx
    have := h4 y hy
    omega)
  simpa using this
/-- Look-ups. -/
theorem look_add (m : List (Int × Sec)) (k : Int) (bs : List UInt8) (k' : Int) : lookM' (addW m k bs) k' = if k' = k then some ⟨((lookM' m k).map (·.kept)).getD [], ((lookM' m k).map (·.wait)).getD [] ++ [bs]⟩ else lookM' m k' := by
  unfold addW lookM'
  split
  · rename_i ha
    rw [List.find?_map]
    have e : ((fun x : Int × Sec => x.1 == k') ∘ fun x => if x.1 = k then (x.1, (⟨x.2.kept, x.2.wait ++ [bs]⟩ : Sec)) else x) = fun x => x.1 == k' := by
      funext x
      show ((if x.1 = k then (x.1, (⟨x.2.kept, x.2.wait ++ [bs]⟩ : Sec)) else x).1 == k') = (x.1 == k')
      split <;> rfl
    rw [e]
    by_cases hk : k' = k
    · subst hk
      rw [if_pos rfl]
      cases hf : m.find? fun x => x.1 == k' with
      | none =>
        obtain ⟨x, hx, hx2⟩ := List.any_eq_true.1 ha
        exact absurd hx2 (by simpa using List.find?_eq_none.1 hf x hx)
      | some x =>
        have hx := List.find?_some hf
        have hx : x.1 = k' := by simpa using hx
        simp [hx]
    · rw [if_neg hk]
      cases hf : m.find? fun x => x.1 == k' with
      | none => rfl
      | some x =>
        have hx := List.find?_some hf
        have hx : x.1 = k' := by simpa using hx
        have : ¬ x.1 = k := by rw [hx]; exact hk
        simp [this]
  · rename_i ha
    have hn : m.find? (fun x => x.1 == k) = none := by
      rw [List.find?_eq_none]
      intro x hx hh
      exact ha (List.any_eq_true.2 ⟨x, hx, hh⟩)
    rw [List.find?_append]
    by_cases hk : k' = k
    · subst hk
      rw [if_pos rfl, hn]
      simp
    · rw [if_neg hk]
      have : (k == k') = false := by simpa using fun e => hk e.symm
      simp [List.find?_cons, this]
theorem look_maps (m : List (Int × Sec)) (f : Int → Sec → Sec) (k : Int) : lookM' (m.map fun x => (x.1, f x.1 x.2)) k = (lookM' m k).map (f k) := by
  unfold lookM'
  rw [List.find?_map]
  have e : ((fun x : Int × Sec => x.1 == k) ∘ fun x : Int × Sec => (x.1, f x.1 x.2)) = fun x => x.1 == k := rfl
  rw [e]
  cases hf : m.find? fun x => x.1 == k with
  | none => rfl
  | some x =>
    have hx := List.find?_some hf
    have hx : x.1 = k := by simpa using hx
    simp [hx]
theorem look_flush (m : List (Int × Sec)) (k : Int) : lookM' (flushM m) k = (lookM' m k).map fun s => ⟨s.now, []⟩ := look_maps m (fun _ s => ⟨s.now, []⟩) k
theorem look_crash (m : List (Int × Sec)) (picks : List Int) (k : Int) : lookM' (crashM m picks) k = (lookM' m k).map (crash1 m picks k) := look_maps m (crash1 m picks) k
/-- The order of a crash. -/
def someW (m : List (Int × Sec)) (k : Int) : Bool := ((lookM' m k).map fun s => !s.wait.isEmpty).getD false
theorem look_mem {m : List (Int × Sec)} (hn : (m.map (·.1)).Nodup) {x : Int × Sec} (hx : x ∈ m) : lookM' m x.1 = some x.2 := by
  unfold lookM'
  induction m with
  | nil => cases hx
  | cons y m ih =>
    rw [List.map_cons, List.nodup_cons] at hn
    rw [List.find?_cons]
    rcases List.mem_cons.1 hx with rfl | hx
    · simp
    · have : (y.1 == x.1) = false := by
        simp only [beq_eq_false_iff_ne, ne_eq]
        intro e
        exact hn.1 (e ▸ List.mem_map.2 ⟨x, hx, rfl⟩)
      rw [this]
      exact ih hn.2 hx
theorem rank_keys {m : List (Int × Sec)} (hn : (m.map (·.1)).Nodup) (k : Int) : rank m k = ((m.map (·.1)).filter fun k' => decide (k' < k) && someW m k').length := by
  unfold rank
  rw [List.filter_map, List.length_map]
  congr 1
  refine List.filter_congr fun x hx => ?_
  show _ = (decide (x.1 < k) && someW m x.1)
  unfold someW
  rw [look_mem hn hx]
  rfl
theorem pairwise_lt {ks : List Int} (hs : ks.Pairwise (· ≤ ·)) (hn : ks.Nodup) : ks.Pairwise (· < ·) := by
  refine (List.Pairwise.and hs hn).imp fun {a b} h => ?_
  have := h.1
  have := h.2
  omega
theorem rank_take {m : List (Int × Sec)} {ks : List Int} (hn : (m.map (·.1)).Nodup) (hp : ks.Perm (m.map (·.1))) (hs : ks.Pairwise (· ≤ ·)) {j : Nat} {k : Int} (hj : ks[j]? = some k) :
    ((ks.take j).filter (someW m)).length = rank m k := by
  have hlt := pairwise_lt hs (hp.nodup_iff.2 hn)
  rw [rank_keys hn, ← (hp.filter _).length_eq]
  have hjl := (List.getElem?_eq_some_iff.1 hj).1
  have e : ks = ks.take j ++ k :: ks.drop (j + 1) := by
    have h1 : ks.drop j = k :: ks.drop (j + 1) := by
      rw [List.drop_eq_getElem_cons hjl, (List.getElem?_eq_some_iff.1 hj).2]
    rw [← h1, List.take_append_drop]
  rw [e] at hlt
  rw [List.pairwise_append] at hlt
  obtain ⟨h1, h2, h3⟩ := hlt
  rw [List.pairwise_cons] at h2
  conv => rhs; rw [e]
  rw [List.filter_append, List.filter_cons]
  have e1 : (ks.take j).filter (fun k' => decide (k' < k) && someW m k') = (ks.take j).filter (someW m) := List.filter_congr fun x hx => by
    have := h3 x hx k (by simp)
    simp [this]
  have e2 : (ks.drop (j + 1)).filter (fun k' => decide (k' < k) && someW m k') = [] := List.filter_eq_nil_iff.2 fun x hx => by
    have := h2.1 x hx
    have : ¬ x < k := by omega
    simp [this]
  rw [e1, e2]
  simp
theorem full_length (bs : List UInt8) : (full bs).length = 512 := by
  unfold full
  rw [List.length_append, List.length_take, List.length_replicate]
  omega
theorem readD_length (d : Dk) (k : Int) : (readD d k).length = 512 := by
  unfold readD
  cases lookD d k with
  | none => exact List.length_replicate
  | some s => exact full_length _
/-- Rows of the map, those that were come to turned. -/
def updR (f : Sec → Sec) (seen : Array Nat) (rows : List Rw) : List Rw := rows.map fun r => if seen.contains r.born then { r with s := f r.s } else r
section
variable {f : Sec → Sec} {seen : Array Nat} {rows : List Rw} {kvs : List KV} {i : Nat} {r : Rw}
theorem readD_none {d : Dk} {rows : List Rw} {k : Int} (h : d.m = rows.map Rw.ks) (hl : lookM (rows.map Rw.kv) k = none) : readD d k = List.replicate 512 0 := by
  rw [look_rows] at hl
  unfold readD
  rw [lookD_rows h]
  cases hf : rows.find? fun r => r.k == k with
  | none => rfl
  | some r => rw [hf] at hl; cases hl
theorem readD_some {d : Dk} {rows : List Rw} {k : Int} {r : Rw} (h : d.m = rows.map Rw.ks) (hn : (rows.map (·.k)).Nodup) (hr : r ∈ rows) (hk : r.k = k) : readD d k = full r.s.now := by
  unfold readD
  rw [lookD_rows h]
  cases hf : rows.find? fun r => r.k == k with
  | none => exact absurd (List.find?_eq_none.1 hf r hr) (by simp [hk])
  | some q =>
    have hq := List.mem_of_find?_eq_some hf
    have hqk : q.k = k := by have := List.find?_some hf; simpa using this
    have : q = r := by
      obtain ⟨i, hi⟩ := List.getElem?_of_mem hq
      obtain ⟨j, hj⟩ := List.getElem?_of_mem hr
      have h1 : (rows.map (·.k))[i]? = some k := by rw [List.getElem?_map, hi]; simp [hqk]
      have h2 : (rows.map (·.k))[j]? = some k := by rw [List.getElem?_map, hj]; simp [hk]
      have hij : i = j := (List.getElem?_inj (List.getElem?_eq_some_iff.1 h1).1 hn).1 (h1.trans h2.symm)
      subst hij
      exact Option.some.inj (hi.symm.trans hj)
    rw [this]; rfl
theorem updR_none : updR f #[] rows = rows := by
  unfold updR
  simp
theorem updR_all (h : remM (rows.map Rw.kv) seen = []) : updR f seen rows = rows.map fun r => { r with s := f r.s } := by
  unfold updR
  refine List.map_congr_left fun r hr => ?_
  rw [if_pos]
  have := List.filter_eq_nil_iff.1 h r.kv (List.mem_map.2 ⟨r, hr, rfl⟩)
  simpa [Rw.kv] using this
theorem rem_row {e : KV} (h : e ∈ remM (rows.map Rw.kv) seen) : ∃ (i : Nat) (r : Rw), rows[i]? = some r ∧ e = r.kv ∧ seen.contains r.born = false := by
  obtain ⟨h1, h2⟩ := List.mem_filter.1 h
  obtain ⟨r, hr, rfl⟩ := List.mem_map.1 h1
  obtain ⟨i, hi⟩ := List.getElem?_of_mem hr
  exact ⟨i, r, hi, rfl, by simpa [Rw.kv] using h2⟩
theorem rem_mem {e : KV} (h : e ∈ remM kvs seen) : e ∈ kvs := (List.mem_filter.1 h).1
theorem updR_get (hi : rows[i]? = some r) (hs : seen.contains r.born = false) : (updR f seen rows)[i]? = some r := by
  unfold updR
  rw [List.getElem?_map, hi]
  simp only [Option.map_some, hs]
  rfl
theorem contains_push (a b : Nat) : (seen.push a).contains b = (seen.contains b || (b == a)) := by
  rw [Bool.eq_iff_iff]
  simp [Array.contains_iff_mem, Array.mem_push]
theorem updR_set (hn : (rows.map (·.born)).Nodup) (hi : rows[i]? = some r) (hs : seen.contains r.born = false) : (updR f seen rows).set i { r with s := f r.s } = updR f (seen.push r.born) rows := by
  have hlt := (List.getElem?_eq_some_iff.1 hi).1
  have hri : rows[i] = r := (List.getElem?_eq_some_iff.1 hi).2
  unfold updR
  apply List.ext_getElem
  · simp
  · intro j h1 h2
    simp at h1
    have h1' : j < rows.length := by simpa using h1
    by_cases hj : i = j
    · subst hj
      simp only [List.getElem_set_self, List.getElem_map, hri, contains_push, hs, beq_self_eq_true]
      rfl
    · have hne : ¬ rows[j].born = r.born := by
        intro he
        have h3 : (rows.map (·.born))[i]'(by simpa using hlt) = (rows.map (·.born))[j]'(by simpa using h1') := by simp [he, hri]
        exact hj ((List.getElem_inj hn).1 h3)
      have hb : (rows[j].born == r.born) = false := by simpa using hne
      simp only [List.getElem_set, hj, List.getElem_map, contains_push, hb, Bool.or_false, if_false]
theorem updR_len : (updR f seen rows).length = rows.length := by unfold updR; simp
theorem remM_push {e : KV} (h : e ∈ remM kvs seen) : (remM kvs (seen.push e.2.2)).length < (remM kvs seen).length := by
  have e1 : remM kvs (seen.push e.2.2) = (remM kvs seen).filter fun x => !(x.2.2 == e.2.2) := by
    unfold remM
    rw [List.filter_filter]
    refine List.filter_congr fun x _ => ?_
    rw [contains_push, Bool.not_or, Bool.and_comm]
  rw [e1]
  exact List.length_filter_lt_length_iff_exists.2 ⟨e, h, by simp⟩
/-- The sum over rows that were not come to. -/
def sumR (seen : Array Nat) (rows : List Rw) : Nat := ((rows.filter fun r => !seen.contains r.born).map fun r => r.s.wait.length).sum
theorem sumR_none : sumR #[] rows = (rows.map fun r => r.s.wait.length).sum := by
  unfold sumR
  rw [List.filter_eq_self.2 (by simp)]
theorem sumR_all (h : remM (rows.map Rw.kv) seen = []) : sumR seen rows = 0 := by
  unfold sumR
  have : rows.filter (fun r => !seen.contains r.born) = [] := by
    rw [List.filter_eq_nil_iff]
    intro r hr
    have := List.filter_eq_nil_iff.1 h r.kv (List.mem_map.2 ⟨r, hr, rfl⟩)
    simpa [Rw.kv] using this
  rw [this]
  rfl
theorem sumR_push (hn : (rows.map (·.born)).Nodup) (hr : r ∈ rows) (hs : seen.contains r.born = false) : sumR seen rows = r.s.wait.length + sumR (seen.push r.born) rows := by
  unfold sumR
  induction rows with
  | nil => cases hr
  | cons x l ih =>
    rw [List.map_cons, List.nodup_cons] at hn
    rcases List.mem_cons.1 hr with rfl | hr
    · have e : l.filter (fun r' => !(seen.push r.born).contains r'.born) = l.filter (fun r' => !seen.contains r'.born) := by
        refine List.filter_congr fun y hy => ?_
        have hne : (y.born == r.born) = false := by
          simp only [beq_eq_false_iff_ne, ne_eq]
          intro he
          exact hn.1 (he ▸ List.mem_map.2 ⟨y, hy, rfl⟩)
        rw [contains_push, hne, Bool.or_false]
      simp only [List.filter_cons, contains_push, hs, beq_self_eq_true, Bool.or_true, Bool.not_true, Bool.not_false, if_true, Bool.false_eq_true, if_false, List.map_cons, List.sum_cons]
      simp only [contains_push] at e
      rw [e]
    · have := ih hn.2 hr
      have hne : (x.born == r.born) = false := by
        simp only [beq_eq_false_iff_ne, ne_eq]
        intro he
        exact hn.1 (he ▸ List.mem_map.2 ⟨r, hr, rfl⟩)
      simp only [List.filter_cons, contains_push, hne, Bool.or_false] at this ⊢
      cases seen.contains x.born <;> simp at this ⊢ <;> omega
end
theorem copy_full (bs : List UInt8) : splice (List.replicate 512 (.int .u8 0)) 0 ((bytesV bs).take (min bs.length 512)) = bytesV (full bs) := by
  unfold splice full
  have e : (bytesV bs).take (min bs.length 512) = bytesV (bs.take 512) := by
    unfold bytesV
    rw [← List.map_take]
    congr 1
    rcases Nat.le_total bs.length 512 with h | h
    · rw [Nat.min_eq_left h, List.take_of_length_le (Nat.le_refl _), List.take_of_length_le h]
    · rw [Nat.min_eq_right h]
  rw [e, List.take_zero, List.nil_append, Nat.zero_add, List.drop_replicate]
  unfold bytesV
  rw [List.map_append, List.map_replicate, List.length_map, List.length_take]
  congr 2
  omega
theorem InP.form {W0 w : World} {L : List HProp} {pool : PoolL} {v : Value} {bs : List UInt8} (H : InP pool v bs) (h : On W0 (Pool pool :: L) w) : ∃ a c, v = .slice a bs.length c ∧ bs.length ≤ c ∧ c ≤ maxLen := by
  obtain ⟨a, c, h1, h2, h3, _⟩ := (h.reads (H.gives)).form
  exact ⟨a, c, h1, h2, h3⟩
theorem set_same {α : Type} {l : List α} {i : Nat} {x : α} (h : l[i]? = some x) : l.set i x = l := by
  have hlt := (List.getElem?_eq_some_iff.1 h).1
  have hx : l[i] = x := (List.getElem?_eq_some_iff.1 h).2
  rw [← hx]
  exact List.set_getElem_self hlt
theorem fitM_born {rows : List Rw} {ck : Nat} (h : fitM (rows.map Rw.kv) ck) : (rows.map (·.born)).Nodup := by
  have := h.2.1
  rw [List.map_map] at this
  exact this
theorem fitM_key {rows : List Rw} {ck : Nat} (h : fitM (rows.map Rw.kv) ck) : (rows.map (·.k)).Nodup := by
  have := h.1
  rw [List.map_map] at this
  exact this
theorem kv_map {rows : List Rw} {f : Sec → Sec} : (rows.map fun r => { r with s := f r.s }).map Rw.kv = rows.map Rw.kv := by
  rw [List.map_map]
  rfl
theorem waitD_rows {d : Dk} {rows : List Rw} (h : d.m = rows.map Rw.ks) : waitD d = (rows.map fun r => r.s.wait.length).sum := by
  unfold waitD
  rw [h, List.map_map]
  rfl
end Go.Sl.DkM
