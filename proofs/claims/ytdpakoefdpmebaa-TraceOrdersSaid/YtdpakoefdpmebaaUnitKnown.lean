/-
  What a small unit tells, by the plain models. No program is named here.
-/
import Derived.Test.YtdpakoefdpmebaaUnitMix
import Derived.KernelRfl
namespace Go.Sl.UnM
open Go Go.Sl Go.Sl.BitM Go.Sl.SpM Go.Sl.RsM Go.Sl.ByM
set_option linter.unusedVariables false
def abc : List UInt8 := [97, 98, 99, 100, 101, 102, 103, 104]
def cmW : Cm := ⟨3, 1, 1, abc, 0, 0, 0, false⟩
def cmR : Cm := ⟨2, 1, 1, [], 0, 0, 0, false⟩
def cmR0 : Cm := ⟨2, 0, 0, [], 0, 0, 0, false⟩
def kn1 : Un := (onceM (newU 4) 0 1 0 cmW).1
def kn2 : Un := (doM kn1 1 cmR).1
def kn3 : Un := (onceM kn2 0 1 0 cmR).1
def kn4 : Un := (doM kn3 9 cmR0).1
theorem kn1_eq : onceM (newU 4) 0 1 0 cmW = (kn1, plain 0 0 0, true) := by
  have h : (onceM (newU 4) 0 1 0 cmW).2 = (plain 0 0 0, true) := by decide +kernel
  unfold kn1; rw [← h]
theorem kn2_eq : doM kn1 1 cmR = (kn2, gave abc) := by
  have h : (doM kn1 1 cmR).2 = gave abc := by decide +kernel
  unfold kn2; rw [← h]
theorem kn3_eq : onceM kn2 0 1 0 cmR = (kn3, plain 0 0 0, false) := by
  have h : (onceM kn2 0 1 0 cmR).2 = (plain 0 0 0, false) := by decide +kernel
  unfold kn3; rw [← h]
theorem kn4_eq : doM kn3 9 cmR0 = (kn4, plain 2 5 8192) := by
  have h : (doM kn3 9 cmR0).2 = plain 2 5 8192 := by decide +kernel
  unfold kn4; rw [← h]
/-- What a unit's parts have to be, decided. -/
def okCb (u : Un) : Bool := (List.range 8).all fun i => (u.guest i).codes.all fun c => decide (0 ≤ c ∧ c < 65536)
def smallb (u : Un) : Bool := (List.range 8).all fun i => decide ((u.guest i).codes.length ≤ 1000)
theorem okCb_ok {u : Un} (h : okCb u = true) : okC u := fun i hi c hc => by
  unfold okCb at h
  have h1 := List.all_eq_true.1 h i (List.mem_range.2 hi)
  have h2 := List.all_eq_true.1 h1 c hc
  simpa using h2
theorem smallb_ok {u : Un} (h : smallb u = true) : small 1000000 u := fun i hi => by
  unfold smallb at h
  have h1 := List.all_eq_true.1 h i (List.mem_range.2 hi)
  have h2 : (u.guest i).codes.length ≤ 1000 := by simpa using h1
  omega
def okRb (r : Rp) : Bool := decide (0 ≤ r.st ∧ r.st < 256 ∧ 0 ≤ r.key ∧ r.key < 256 ∧ 0 ≤ r.code ∧ r.code < 65536 ∧ 0 ≤ r.info ∧ r.info < 4294967296 ∧ r.data.length ≤ 10000)
def okGb (g : Gs) : Bool := (decide (g.codes.length ≤ 10000) && g.codes.all (fun c => decide (0 ≤ c ∧ c < 65536))) && (decide (0 ≤ g.floor ∧ g.floor < 18446744073709551616) && g.done.all fun x => decide (0 ≤ x.1 ∧ x.1 < 18446744073709551616) && okRb x.2)
def okUb (u : Un) : Bool := (List.range 8).all fun i => okGb (u.guest i) && decide ((u.guest i).done.length ≤ 1)
theorem okGb_ok {g : Gs} (h : okGb g = true) : okG g := by
  unfold okGb at h
  rw [Bool.and_eq_true, Bool.and_eq_true, Bool.and_eq_true, List.all_eq_true, List.all_eq_true] at h
  obtain ⟨⟨h1, h2⟩, h3, h4⟩ := h
  have h3 := of_decide_eq_true h3
  refine ⟨of_decide_eq_true h1, fun c hc => of_decide_eq_true (h2 c hc), h3.1, h3.2, fun x hx => ?_⟩
  have h5 := h4 x hx
  rw [Bool.and_eq_true] at h5
  have h6 := h5.2
  unfold okRb at h6
  have h6 := of_decide_eq_true h6
  exact ⟨of_decide_eq_true h5.1, h6⟩
theorem okUb_ok {u : Un} (h : okUb u = true) : ∀ i, i < 8 → okG (u.guest i) ∧ (u.guest i).done.length ≤ 1 := fun i hi => by
  unfold okUb at h
  have h1 := List.all_eq_true.1 h i (List.mem_range.2 hi)
  rw [Bool.and_eq_true] at h1
  exact ⟨okGb_ok h1.1, of_decide_eq_true h1.2⟩
theorem kn1_ok : okC kn1 ∧ small 1000000 kn1 := ⟨okCb_ok (by decide +kernel), smallb_ok (by decide +kernel)⟩
theorem kn2_ok : okC kn2 ∧ small 1000000 kn2 := ⟨okCb_ok (by decide +kernel), smallb_ok (by decide +kernel)⟩
theorem kn3_ok : okC kn3 ∧ small 1000000 kn3 := ⟨okCb_ok (by decide +kernel), smallb_ok (by decide +kernel)⟩
theorem kn2_d : ∀ x ∈ (kn2.guest 0).done, x.2.data.length ≤ 1000000 := fun x hx => by
  have h : (kn2.guest 0).done.all (fun x => decide (x.2.data.length ≤ 1000000)) = true := by decide +kernel
  exact of_decide_eq_true (List.all_eq_true.1 h x hx)
theorem kn4_s : kn4.s = writeS (newS 4) 1 abc := by kernel_rfl
theorem kn4_t : kn4.t = newT := by kernel_rfl
theorem kn4_cap : capS kn4.s := by
  rw [kn4_s]
  exact cap_write (newS_wf (by decide) (by decide)) cap_new (by decide)
theorem newT_ok : okT newT := ⟨fun i hi => ⟨Int.le_refl 0, by show (0 : Int) < _; decide⟩, by decide, by decide⟩
theorem kn4_okT : okT kn4.t := by rw [kn4_t]; exact newT_ok
theorem kn4_g : ∀ i, i < 8 → okG (kn4.guest i) ∧ (kn4.guest i).done.length ≤ 1 := okUb_ok (by decide +kernel)
theorem kn4_N : kn4.s.N = 4 := by decide +kernel
def knB : List UInt8 := encU kn4 (SpM.encS kn4.s)
theorem knB_s : (SpM.encS kn4.s).length ≤ 10000000000 := by decide +kernel
theorem knB_len : knB.length ≤ 100000 := by decide +kernel
theorem knB_0 : ∀ u, decU0 knB = some u → ∀ i, i < 8 → okG (u.guest i) ∧ (u.guest i).done.length ≤ 1 := fun u hu => by
  have h : (match decU0 knB with | some u => okUb u | none => true) = true := by decide +kernel
  rw [hu] at h
  exact okUb_ok h
theorem knB_1 : ∃ u, decU knB = some u := by
  have h : (decU knB).isSome = true := by decide +kernel
  exact Option.isSome_iff_exists.1 h
theorem knB_2 {u : Un} (hu : decU knB = some u) : okC u ∧ small 1000000 u ∧ ∃ u', doM u 0 cmR = (u', gave abc) := by
  have h : (match decU knB with | some u => okCb u && smallb u && decide ((doM u 0 cmR).2 = gave abc) | none => true) = true := by decide +kernel
  rw [hu] at h
  simp only [Bool.and_eq_true] at h
  exact ⟨okCb_ok h.1.1, smallb_ok h.1.2, (doM u 0 cmR).1, by rw [← of_decide_eq_true h.2]⟩
end Go.Sl.UnM
