/-
  A register on two sectors, and the power that goes: plain. No program is named here.
-/
import Derived.Test.YtlahgihjjabgmaaTwinL
namespace Go.Sl.WtM
open Go Go.Sl Go.Sl.ByM Go.Sl.DkM Go.Sl.TwM
set_option linter.unusedVariables false
set_option linter.unusedSimpArgs false
/-! ### A register's bytes -/
def RightW (p m : Int) : Prop := (p = 0 ∧ (m = 1 ∨ m = 3)) ∨ (p = 1 ∧ (m = 2 ∨ m = 3))
instance (p m : Int) : Decidable (RightW p m) := inferInstanceAs (Decidable ((p = 0 ∧ (m = 1 ∨ m = 3)) ∨ (p = 1 ∧ (m = 2 ∨ m = 3))))
def encW (e p m : Nat) : List UInt8 := be e 8 ++ be p 1 ++ be m 1
theorem encW_length (e p m : Nat) : (encW e p m).length = 10 := by unfold encW; simp only [List.length_append, be_length]
def oneW (s : List UInt8) (k : Nat) : Nat := beV ((s.drop k).take 1)
def epoW (s : List UInt8) : Nat := beV ((s.drop 0).take 8)
theorem enc_epo {e p m : Nat} (h : e < 256 ^ 8) : epoW (encW e p m) = e := by
  unfold epoW encW
  have := take_mid (a := []) (b := be e 8) (c := be p 1 ++ be m 1) (n := 0) rfl (be_length e 8)
  rw [List.append_assoc]
  rw [show ([] : List UInt8) ++ (be e 8 ++ (be p 1 ++ be m 1)) = be e 8 ++ (be p 1 ++ be m 1) from rfl] at this
  rw [this, beV_be h]
theorem enc_p {e p m : Nat} (h : p < 256) : oneW (encW e p m) 8 = p := by
  unfold oneW encW
  have := take_mid (a := be e 8) (b := be p 1) (c := be m 1) (n := 8) (be_length e 8) (be_length p 1)
  rw [List.append_assoc, this, beV_be (by omega)]
theorem enc_m {e p m : Nat} (h : m < 256) : oneW (encW e p m) 9 = m := by
  unfold oneW encW
  have := take_mid (a := be e 8 ++ be p 1) (b := be m 1) (c := []) (n := 9) (by rw [List.length_append, be_length, be_length]) (be_length m 1)
  rw [List.append_nil] at this
  rw [this, beV_be (by omega)]
theorem beV_inj : ∀ (n : Nat) (a b : List UInt8), a.length = n → b.length = n → beV a = beV b → a = b
  | 0, a, b, ha, hb, _ => by rw [List.length_eq_zero_iff.1 ha, List.length_eq_zero_iff.1 hb]
  | n + 1, a, b, ha, hb, h => by
    have na : a ≠ [] := by intro e; subst e; simp at ha
    have nb : b ≠ [] := by intro e; subst e; simp at hb
    rw [← List.dropLast_concat_getLast na, ← List.dropLast_concat_getLast nb] at h ⊢
    rw [beV_snoc, beV_snoc] at h
    have h1 := (a.getLast na).toNat_lt
    have h2 := (b.getLast nb).toNat_lt
    have e1 : beV a.dropLast = beV b.dropLast := by omega
    have e2 : a.getLast na = b.getLast nb := UInt8.toNat_inj.1 (by omega)
    rw [beV_inj n _ _ (by rw [List.length_dropLast]; omega) (by rw [List.length_dropLast]; omega) e1, e2]
theorem be_beV {s : List UInt8} {n : Nat} (h : s.length = n) : be (beV s) n = s :=
  beV_inj n _ _ (be_length _ _) h (beV_be (by rw [← h]; exact beV_lt s))
theorem enc_dec {s : List UInt8} (h : s.length = 10) : encW (epoW s) (oneW s 8) (oneW s 9) = s := by
  have e1 : be (epoW s) 8 = s.take 8 := be_beV (s := (s.drop 0).take 8) (by rw [List.drop_zero, List.length_take]; omega)
  have e2 : be (oneW s 8) 1 = (s.drop 8).take 1 := be_beV (by rw [List.length_take, List.length_drop]; omega)
  have e3 : be (oneW s 9) 1 = (s.drop 9).take 1 := be_beV (by rw [List.length_take, List.length_drop]; omega)
  unfold encW
  rw [e1, e2, e3]
  have h1 : (s.drop 9).take 1 = s.drop 9 := List.take_of_length_le (by rw [List.length_drop]; omega)
  have h2 : s.drop 8 = (s.drop 8).take 1 ++ (s.drop 8).drop 1 := (List.take_append_drop 1 _).symm
  rw [h1]
  have h3 : (s.drop 8).drop 1 = s.drop 9 := by rw [List.drop_drop]
  rw [h3] at h2
  rw [List.append_assoc, ← h2, List.take_append_drop]
theorem oneW_get {s : List UInt8} {k : Nat} {c : UInt8} (h : s[k]? = some c) : oneW s k = c.toNat := by
  unfold oneW
  have hlt := (List.getElem?_eq_some_iff.1 h).1
  have e : (s.drop k).take 1 = [c] := by
    rw [List.drop_eq_getElem_cons hlt, (List.getElem?_eq_some_iff.1 h).2]; rfl
  rw [e]
  show 0 * 256 + c.toNat = _
  omega
theorem oneW_lt (s : List UInt8) (k : Nat) : oneW s k < 256 := by
  have h := beV_lt ((s.drop k).take 1)
  have h2 : 256 ^ ((s.drop k).take 1).length ≤ 256 ^ 1 := Nat.pow_le_pow_right (by decide) (by rw [List.length_take]; omega)
  unfold oneW
  omega
theorem epoW_lt (s : List UInt8) : epoW s < 18446744073709551616 := by
  have h := beV_lt ((s.drop 0).take 8)
  have h2 : 256 ^ ((s.drop 0).take 8).length ≤ 256 ^ 8 := Nat.pow_le_pow_right (by decide) (by rw [List.length_take]; omega)
  unfold epoW
  omega
/-! ### The power goes -/
theorem eight_ne : (8 : Int) ≠ 0 := by decide
theorem zero_nn : ¬ ((0 : Int) ≠ 0) := by decide
def twD (s0 s1 : List UInt8) (off : Bool) (a : Int) (ps : List Int) (c : Int) : Dk := ⟨2, [(0, ⟨s0, []⟩), (1, ⟨s1, []⟩)], off, false, a, ps, c⟩
/-- Two sectors in which a value is found. -/
structure TwS (s0 s1 : List UInt8) (n : Nat) (v : List UInt8) : Prop where
  num : n < 256 ^ 8
  len : v.length ≤ 488
  here : (n % 2 = 0 ∧ s0 = secT n v ∧ ((unpackT (full s1)).2.2 ≠ 0 ∨ (unpackT (full s1)).1 < n)) ∨ (n % 2 = 1 ∧ s1 = secT n v ∧ ((unpackT (full s0)).2.2 ≠ 0 ∨ (unpackT (full s0)).1 < n))
section
variable {s0 s1 x v v2 : List UInt8} {a c : Int} {ps p : List Int} {n : Nat} {off : Bool}
theorem twCrash : crashD (twD s0 s1 false a p c) ps = twD s0 s1 true 0 p c := by
  rw [crashD_on rfl rfl]; rfl
theorem settle_two {k x : List UInt8} {q : Nat} (h : q ≤ 1) : DkM.settle ⟨k, [x]⟩ q = ⟨k, []⟩ ∨ DkM.settle ⟨k, [x]⟩ q = ⟨x, []⟩ := by
  have : q = 0 ∨ q = 1 := by omega
  rcases this with rfl | rfl
  · exact .inl rfl
  · exact .inr rfl
theorem twCrash0 : ∃ t, (t = s0 ∨ t = x) ∧ crashD ⟨2, [(0, ⟨s0, [x]⟩), (1, ⟨s1, []⟩)], false, false, a, p, c⟩ ps = twD t s1 true 0 p c := by
  rw [crashD_on rfl rfl]
  have h1 : crashM [((0 : Int), (⟨s0, [x]⟩ : Sec)), (1, ⟨s1, []⟩)] ps = [(0, DkM.settle ⟨s0, [x]⟩ (pickP ps (rank [((0 : Int), (⟨s0, [x]⟩ : Sec)), (1, ⟨s1, []⟩)] 0) 1)), (1, ⟨s1, []⟩)] := rfl
  show ∃ t, _ ∧ (⟨2, crashM [((0 : Int), (⟨s0, [x]⟩ : Sec)), (1, ⟨s1, []⟩)] ps, true, false, 0, p, c⟩ : Dk) = _
  rw [h1]
  rcases settle_two (k := s0) (x := x) (pickP_le ps (rank [((0 : Int), (⟨s0, [x]⟩ : Sec)), (1, ⟨s1, []⟩)] 0) 1) with e | e
  · exact ⟨s0, .inl rfl, by rw [e]; rfl⟩
  · exact ⟨x, .inr rfl, by rw [e]; rfl⟩
theorem twCrash1 : ∃ t, (t = s1 ∨ t = x) ∧ crashD ⟨2, [(0, ⟨s0, []⟩), (1, ⟨s1, [x]⟩)], false, false, a, p, c⟩ ps = twD s0 t true 0 p c := by
  rw [crashD_on rfl rfl]
  have h1 : crashM [((0 : Int), (⟨s0, []⟩ : Sec)), (1, ⟨s1, [x]⟩)] ps = [(0, ⟨s0, []⟩), (1, DkM.settle ⟨s1, [x]⟩ (pickP ps (rank [((0 : Int), (⟨s0, []⟩ : Sec)), (1, ⟨s1, [x]⟩)] 1) 1))] := rfl
  show ∃ t, _ ∧ (⟨2, crashM [((0 : Int), (⟨s0, []⟩ : Sec)), (1, ⟨s1, [x]⟩)] ps, true, false, 0, p, c⟩ : Dk) = _
  rw [h1]
  rcases settle_two (k := s1) (x := x) (pickP_le ps (rank [((0 : Int), (⟨s0, []⟩ : Sec)), (1, ⟨s1, [x]⟩)] 1) 1) with e | e
  · exact ⟨s1, .inl rfl, by rw [e]; rfl⟩
  · exact ⟨x, .inr rfl, by rw [e]; rfl⟩
def wt0 (s0 s1 x : List UInt8) (a : Int) (p : List Int) (c : Int) : Dk := ⟨2, [(0, ⟨s0, [x]⟩), (1, ⟨s1, []⟩)], false, false, a, p, c⟩
def wt1 (s0 s1 x : List UInt8) (a : Int) (p : List Int) (c : Int) : Dk := ⟨2, [(0, ⟨s0, []⟩), (1, ⟨s1, [x]⟩)], false, false, a, p, c⟩
/-- A call's three ends. -/
theorem call_st (ha : 0 ≤ a) (m : List (Int × Sec)) : (∃ a', 0 ≤ a' ∧ a' ≤ a ∧ callD ⟨2, m, false, false, a, p, c⟩ = (0, ⟨2, m, false, false, a', p, c + 1⟩)) ∨ callD ⟨2, m, false, false, a, p, c⟩ = (8, crashD ⟨2, m, false, false, 0, p, c⟩ p) := by
  by_cases h1 : 0 < a
  · by_cases h2 : a = 1
    · subst h2; exact .inr rfl
    · exact .inl ⟨a - 1, by omega, by omega, by rw [callD_more (by exact h1) (by exact h2)]⟩
  · exact .inl ⟨a, ha, Int.le_refl _, by rw [callD_none (by exact h1)]⟩
theorem wr0 (ha : 0 ≤ a) (hx : x.length ≤ 512) : (∃ a', 0 ≤ a' ∧ a' ≤ a ∧ writeD (twD s0 s1 false a p c) 0 x = (0, wt0 s0 s1 x a' p (c + 1))) ∨ writeD (twD s0 s1 false a p c) 0 x = (8, twD s0 s1 true 0 p c) := by
  have hin : (0 : Int) ≤ 0 ∧ (0 : Int) < (twD s0 s1 false a p c).n ∧ x.length ≤ 512 := ⟨Int.le_refl 0, by show (0 : Int) < 2; decide, hx⟩
  rcases call_st (p := p) (c := c) ha [(0, ⟨s0, []⟩), (1, ⟨s1, []⟩)] with ⟨a', h1, h2, e⟩ | e
  · have e' : callD (twD s0 s1 false a p c) = (0, twD s0 s1 false a' p (c + 1)) := e
    exact .inl ⟨a', h1, h2, by rw [writeD_ok rfl hin (by rw [e']), e']; rfl⟩
  · have e' : callD (twD s0 s1 false a p c) = (8, twD s0 s1 true 0 p c) := e.trans (by rw [show crashD ⟨2, [(0, ⟨s0, []⟩), (1, ⟨s1, []⟩)], false, false, 0, p, c⟩ p = twD s0 s1 true 0 p c from twCrash])
    exact .inr (by rw [writeD_call rfl hin (by rw [e']; exact eight_ne), e'])
theorem wr1 (ha : 0 ≤ a) (hx : x.length ≤ 512) : (∃ a', 0 ≤ a' ∧ a' ≤ a ∧ writeD (twD s0 s1 false a p c) 1 x = (0, wt1 s0 s1 x a' p (c + 1))) ∨ writeD (twD s0 s1 false a p c) 1 x = (8, twD s0 s1 true 0 p c) := by
  have hin : (0 : Int) ≤ 1 ∧ (1 : Int) < (twD s0 s1 false a p c).n ∧ x.length ≤ 512 := ⟨by decide, by show (1 : Int) < 2; decide, hx⟩
  rcases call_st (p := p) (c := c) ha [(0, ⟨s0, []⟩), (1, ⟨s1, []⟩)] with ⟨a', h1, h2, e⟩ | e
  · have e' : callD (twD s0 s1 false a p c) = (0, twD s0 s1 false a' p (c + 1)) := e
    exact .inl ⟨a', h1, h2, by rw [writeD_ok rfl hin (by rw [e']), e']; rfl⟩
  · have e' : callD (twD s0 s1 false a p c) = (8, twD s0 s1 true 0 p c) := e.trans (by rw [show crashD ⟨2, [(0, ⟨s0, []⟩), (1, ⟨s1, []⟩)], false, false, 0, p, c⟩ p = twD s0 s1 true 0 p c from twCrash])
    exact .inr (by rw [writeD_call rfl hin (by rw [e']; exact eight_ne), e'])
theorem fl0 (ha : 0 ≤ a) : (∃ a', 0 ≤ a' ∧ a' ≤ a ∧ flushD (wt0 s0 s1 x a p c) = (0, twD x s1 false a' p (c + 1))) ∨ ∃ t, (t = s0 ∨ t = x) ∧ flushD (wt0 s0 s1 x a p c) = (8, twD t s1 true 0 p c) := by
  rcases call_st (p := p) (c := c) ha [(0, ⟨s0, [x]⟩), (1, ⟨s1, []⟩)] with ⟨a', h1, h2, e⟩ | e
  · have e' : callD (wt0 s0 s1 x a p c) = (0, wt0 s0 s1 x a' p (c + 1)) := e
    exact .inl ⟨a', h1, h2, by rw [flushD_ok rfl (by rw [e']), e']; rfl⟩
  · obtain ⟨t, ht, et⟩ := twCrash0 (s0 := s0) (s1 := s1) (x := x) (a := 0) (c := c) (ps := p) (p := p)
    have e' : callD (wt0 s0 s1 x a p c) = (8, twD t s1 true 0 p c) := e.trans (by rw [et])
    exact .inr ⟨t, ht, by rw [flushD_call rfl (by rw [e']; exact eight_ne), e']⟩
theorem fl1 (ha : 0 ≤ a) : (∃ a', 0 ≤ a' ∧ a' ≤ a ∧ flushD (wt1 s0 s1 x a p c) = (0, twD s0 x false a' p (c + 1))) ∨ ∃ t, (t = s1 ∨ t = x) ∧ flushD (wt1 s0 s1 x a p c) = (8, twD s0 t true 0 p c) := by
  rcases call_st (p := p) (c := c) ha [(0, ⟨s0, []⟩), (1, ⟨s1, [x]⟩)] with ⟨a', h1, h2, e⟩ | e
  · have e' : callD (wt1 s0 s1 x a p c) = (0, wt1 s0 s1 x a' p (c + 1)) := e
    exact .inl ⟨a', h1, h2, by rw [flushD_ok rfl (by rw [e']), e']; rfl⟩
  · obtain ⟨t, ht, et⟩ := twCrash1 (s0 := s0) (s1 := s1) (x := x) (a := 0) (c := c) (ps := p) (p := p)
    have e' : callD (wt1 s0 s1 x a p c) = (8, twD s0 t true 0 p c) := e.trans (by rw [et])
    exact .inr ⟨t, ht, by rw [flushD_call rfl (by rw [e']; exact eight_ne), e']⟩
theorem TwS.after (I : TwS s0 s1 n v) (hn : n + 1 < 256 ^ 8) (hv : v2.length ≤ 488) : (n % 2 = 0 → TwS s0 (secT (n + 1) v2) (n + 1) v2) ∧ (n % 2 = 1 → TwS (secT (n + 1) v2) s1 (n + 1) v2) := by
  have hl := secT_length (number := n) I.len
  have hu := unpack_sec I.num I.len
  refine ⟨fun h0 => ⟨hn, hv, .inr ⟨by omega, rfl, ?_⟩⟩, fun h0 => ⟨hn, hv, .inl ⟨by omega, rfl, ?_⟩⟩⟩
  · rcases I.here with ⟨_, e, _⟩ | ⟨e, _⟩
    · rw [e, full_id hl, hu]; exact .inr (Nat.lt_succ_self n)
    · omega
  · rcases I.here with ⟨e, _⟩ | ⟨_, e, _⟩
    · omega
    · rw [e, full_id hl, hu]; exact .inr (Nat.lt_succ_self n)
/-- A value is put: whole, or the power went. -/
theorem twPut (I : TwS s0 s1 n v) (hn : n + 1 < 256 ^ 8) (hv : v2.length ≤ 488) (ha : 0 ≤ a) :
    ((putT (twD s0 s1 false a p c) 0 n v2).1 = 0 ∧ ∃ t0 t1 a', (putT (twD s0 s1 false a p c) 0 n v2).2 = twD t0 t1 false a' p (c + 2) ∧ 0 ≤ a' ∧ a' ≤ a ∧ TwS t0 t1 (n + 1) v2) ∨
    ((putT (twD s0 s1 false a p c) 0 n v2).1 = 8 ∧ ∃ t0 t1 c', (putT (twD s0 s1 false a p c) 0 n v2).2 = twD t0 t1 true 0 p c' ∧ c ≤ c' ∧ c' ≤ c + 2 ∧ (TwS t0 t1 n v ∨ TwS t0 t1 (n + 1) v2)) := by
  have hx : (secT (n + 1) v2).length ≤ 512 := by rw [secT_length hv]; omega
  obtain ⟨A0, A1⟩ := I.after hn hv
  by_cases h0 : n % 2 = 0
  · have hq : (0 : Int) + ((n + 1 : Nat) : Int) % 2 = 1 := by omega
    unfold putT
    rw [if_neg (by omega), hq]
    rcases wr1 (s0 := s0) (s1 := s1) (p := p) (c := c) ha hx with ⟨a1, h1, h2, e⟩ | e
    · rw [e, if_neg zero_nn]
      rcases fl1 (s0 := s0) (s1 := s1) (x := secT (n + 1) v2) (p := p) (c := c + 1) h1 with ⟨a2, h3, h4, e2⟩ | ⟨t, ht, e2⟩
      · exact .inl ⟨by rw [e2], s0, _, a2, by rw [e2, show c + 2 = c + 1 + 1 by omega], h3, by omega, A0 h0⟩
      · refine .inr ⟨by rw [e2], s0, t, c + 1, by rw [e2], by omega, by omega, ?_⟩
        rcases ht with rfl | rfl
        · exact .inl I
        · exact .inr (A0 h0)
    · rw [e, if_pos eight_ne]
      exact .inr ⟨rfl, s0, s1, c, rfl, by omega, by omega, .inl I⟩
  · have h1' : n % 2 = 1 := by omega
    have hq : (0 : Int) + ((n + 1 : Nat) : Int) % 2 = 0 := by omega
    unfold putT
    rw [if_neg (by omega), hq]
    rcases wr0 (s0 := s0) (s1 := s1) (p := p) (c := c) ha hx with ⟨a1, h1, h2, e⟩ | e
    · rw [e, if_neg zero_nn]
      rcases fl0 (s0 := s0) (s1 := s1) (x := secT (n + 1) v2) (p := p) (c := c + 1) h1 with ⟨a2, h3, h4, e2⟩ | ⟨t, ht, e2⟩
      · exact .inl ⟨by rw [e2], _, s1, a2, by rw [e2, show c + 2 = c + 1 + 1 by omega], h3, by omega, A1 h1'⟩
      · refine .inr ⟨by rw [e2], t, s1, c + 1, by rw [e2], by omega, by omega, ?_⟩
        rcases ht with rfl | rfl
        · exact .inl I
        · exact .inr (A1 h1')
    · rw [e, if_pos eight_ne]
      exact .inr ⟨rfl, s0, s1, c, rfl, by omega, by omega, .inl I⟩
theorem tw_read0 : readD (twD s0 s1 off a p c) 0 = full s0 := rfl
theorem tw_read1 : readD (twD s0 s1 off a p c) 1 = full s1 := rfl
theorem TwS.opens (I : TwS s0 s1 n v) : openT (twD s0 s1 false a p c) 0 = (some (n, v), 0) := by
  have hl := secT_length (number := n) I.len
  have hi : inT (twD s0 s1 false a p c) 0 := ⟨Int.le_refl 0, by show (0 : Int) < 2 - 1; decide⟩
  rcases I.here with ⟨e, e1, h⟩ | ⟨e, e1, h⟩
  · exact open_pick rfl hi I.num I.len e (by show full s0 = _; rw [e1, full_id hl]) rfl h
  · exact open_pick rfl hi I.num I.len e (by show full s1 = _; rw [e1, full_id hl]) rfl h
theorem twFormat (hv : v.length ≤ 488) : formatT (newD 2) 0 v = (0, twD [] (secT 1 v) false 0 [] 3) ∧ TwS [] (secT 1 v) 1 v := by
  have hx : (secT 1 v).length ≤ 512 := by rw [secT_length hv]; omega
  refine ⟨?_, ⟨by decide, hv, .inr ⟨rfl, rfl, .inl ?_⟩⟩⟩
  · generalize hs : secT 1 v = s at hx ⊢
    have e1 : writeD (newD 2) 0 [] = (0, ⟨2, [(0, ⟨[], [[]]⟩)], false, false, 0, [], 1⟩) := rfl
    have e2 : writeD ⟨2, [(0, ⟨[], [[]]⟩)], false, false, 0, [], 1⟩ 1 s = (0, ⟨2, [(0, ⟨[], [[]]⟩), (1, ⟨[], [s]⟩)], false, false, 0, [], 2⟩) := by
      rw [writeD_ok rfl ⟨by decide, by show (1 : Int) < 2; decide, hx⟩ rfl]; rfl
    have e3 : flushD ⟨2, [(0, ⟨[], [[]]⟩), (1, ⟨[], [s]⟩)], false, false, 0, [], 2⟩ = (0, twD [] s false 0 [] 3) := by
      rw [flushD_ok rfl rfl]; rfl
    unfold formatT
    have f0 : fmtS (newD 2) 0 s 0 = writeD (newD 2) 0 [] := rfl
    have f1 : fmtS (newD 2) 0 s 1 = writeD (writeD (newD 2) 0 []).2 (0 + 1) s := rfl
    have f2 : fmtS (newD 2) 0 s 2 = flushD (writeD (writeD (newD 2) 0 []).2 (0 + 1) s).2 := rfl
    rw [e1] at f0 f1 f2
    have f1' : fmtS (newD 2) 0 s 1 = writeD ⟨2, [(0, ⟨[], [[]]⟩)], false, false, 0, [], 1⟩ 1 s := f1
    have f2' : fmtS (newD 2) 0 s 2 = flushD (writeD ⟨2, [(0, ⟨[], [[]]⟩)], false, false, 0, [], 1⟩ 1 s).2 := f2
    rw [e2] at f1' f2'
    have f2'' : fmtS (newD 2) 0 s 2 = flushD ⟨2, [(0, ⟨[], [[]]⟩), (1, ⟨[], [s]⟩)], false, false, 0, [], 2⟩ := f2'
    rw [e3] at f2''
    rw [hs, if_neg (by decide), if_neg (by omega), f0, if_neg zero_nn, f1', if_neg zero_nn, f2'']
  · rw [full_nil]; exact zero_bad
end
end Go.Sl.WtM
