/-
  Guests of whom some are read already. No program is named here.
-/
import Derived.Test.YtdpakoefdpmebaaUnitRead
namespace Go.Sl.UnM
open Go Go.Sl Go.Sl.BitM Go.Sl.SpM Go.Sl.RsM Go.Sl.ByM
set_option linter.unusedVariables false
abbrev mix (gd : List GX) (mbs : List Nat) (k : Nat) : List GX := gd ++ (mbs.drop k).map zG
theorem mix_drop {mbs : List Nat} {k mb : Nat} (hm : mbs[k]? = some mb) : mbs.drop k = mb :: mbs.drop (k + 1) := by
  have hlt := (List.getElem?_eq_some_iff.1 hm).1
  have he := (List.getElem?_eq_some_iff.1 hm).2
  rw [List.drop_eq_getElem_cons hlt, he]
theorem mix_get {gd : List GX} {mbs : List Nat} {k mb : Nat} (hk : gd.length = k) (hm : mbs[k]? = some mb) : (mix gd mbs k)[k]? = some (zG mb) := by
  show (gd ++ (mbs.drop k).map zG)[k]? = _
  rw [List.getElem?_append_right (by omega), mix_drop hm, hk, Nat.sub_self]; rfl
theorem mix_set {gd : List GX} {mbs : List Nat} {k mb : Nat} {g : GX} (hk : gd.length = k) (hm : mbs[k]? = some mb) : (mix gd mbs k).set k g = mix (gd ++ [g]) mbs (k + 1) := by
  show (gd ++ (mbs.drop k).map zG).set k g = (gd ++ [g]) ++ (mbs.drop (k + 1)).map zG
  rw [List.set_append_right _ _ (by omega), mix_drop hm, hk, Nat.sub_self, List.append_assoc]; rfl
theorem GOwn_sub {pool pool2 : PoolL} {g : GX} {hh : Hp} (hs : ∀ p ∈ pool, p ∈ pool2) (h : GOwn pool g hh) : GOwn pool2 g hh := by
  obtain ⟨⟨h1, h2, h3⟩, h4⟩ := h
  refine ⟨⟨h1, h2, fun x hx => ?_⟩, h4⟩
  obtain ⟨r, dv, a, b, c⟩ := h3 x hx
  exact ⟨r, dv, a, b, hs _ c⟩
theorem rdGs_step {n : Nat} {s : RS} {l : List Gs} (h : (readG (rdP s).1).1 = true) : rdGs (n + 1) s l = rdGs n (rdP s).2 (l ++ [(readG (rdP s).1).2]) := by
  rw [rdGs, if_pos h]
theorem rdGs_stop {n : Nat} {s : RS} {l : List Gs} (h : ¬ (readG (rdP s).1).1 = true) : rdGs (n + 1) s l = none := by
  rw [rdGs, if_neg h]
theorem decU0_none {b : List UInt8} {s : Sp} {t : Tb} (hds : decS (rdP (b, false)).1 = some s) (hdt : decT (rdP (rdP (b, false)).2).1 = some t) (hX : none = rdGs 8 (rdP (rdP (b, false)).2).2 []) : decU0 b = none := by
  unfold decU0
  simp only [hds, hdt, ← hX, Option.bind_some, Option.bind_none]
theorem decU0_some {b : List UInt8} {s : Sp} {t : Tb} {st : RS} {gl : List Gs} (hds : decS (rdP (b, false)).1 = some s) (hdt : decT (rdP (rdP (b, false)).2).1 = some t) (hX : some (st, gl) = rdGs 8 (rdP (rdP (b, false)).2).2 []) : decU0 b = if st.2 = true then none else some ⟨s, t, gl⟩ := by
  unfold decU0
  simp only [hds, hdt, ← hX, Option.bind_some]
theorem decT_ok {b : List UInt8} {t : Tb} (h : decT b = some t) : okT t := by
  unfold decT at h
  split at h
  · cases h; exact decT0_ok b
  · cases h
theorem decS_enc {b : List UInt8} {s : Sp} (h : decS b = some s) : SpM.encS s = b := by
  unfold decS at h
  cases h0 : decS0 b with
  | none => rw [h0] at h; cases h
  | some s0 =>
    rw [h0] at h
    have h : (if SpM.encS s0 = b then some s0 else none) = some s := h
    split at h
    · rename_i e; cases h; exact e
    · cases h
theorem decU_of {b : List UInt8} {u : Un} (hd : decU0 b = some u) (he : encU u (SpM.encS u.s) = b) : decU b = some u := by
  unfold decU; rw [hd]; simp only [Option.bind_some]; rw [if_pos he]
theorem decU_no {b : List UInt8} {u : Un} (hd : decU0 b = some u) (he : ¬ encU u (SpM.encS u.s) = b) : decU b = none := by
  unfold decU; rw [hd]; simp only [Option.bind_some]; rw [if_neg he]
theorem decU_no0 {b : List UInt8} (hd : decU0 b = none) : decU b = none := by
  unfold decU; rw [hd]; simp only [Option.bind_none]
theorem decU_ofE {b E : List UInt8} {u : Un} (hd : decU0 b = some u) (hE : E = encU u (SpM.encS u.s)) (he : E = b) : decU b = some u := decU_of hd (hE ▸ he)
theorem decU_noE {b E : List UInt8} {u : Un} (hd : decU0 b = some u) (hE : E = encU u (SpM.encS u.s)) (he : ¬ E = b) : decU b = none := decU_no hd (hE ▸ he)
end Go.Sl.UnM
