/-
  The contracts of disks. Lines of walks printed by a program of the prover's.
-/
import Derived.Test.YtlahgihjjabgmaaDisk
import Derived.Test.YtlahgihjjabgmaaSlKeys
import Derived.Test.YtlahgihjjabgmaaLays
import Derived.Test.YtlahgihjjabgmaaDiskCrash
namespace Go.Proofs.Ytlahgihjjabgmaa
open Go Go.Sl Go.Sl.DkM Go.RowKit Go.Maps Go.Sort Go.Shelf
set_option linter.unusedVariables false
set_option linter.unusedSimpArgs false
set_option maxHeartbeats 1000000
set_option maxRecDepth 8000
variable {W0 w : World} {L F : List HProp}

theorem keys_ok {mb ck : Nat} {kvs : List KV} (h : On W0 (MapC mb .i64 kvs ck :: L) w) : Calls Try.prog 71 #[.map (some mb)] w (Ret fun v w' => ∃ bb, v = .func (.func 107) #[] #[.pointer (some ⟨bb, 0, none⟩)] ∧ On W0 (blk bb [.map (some mb)] 104 :: MapC mb .i64 kvs ck :: L) w') := by
  refine enter Try.func71 rfl Try.ntmps71 rfl ?_
  refine W.seq ?_
  refine W.region ?_
  refine WL.eff (eff_box (v := .map _) (l := [.map _]) h rfl rfl) rfl rfl ?_
  rintro _ w ⟨b1, rfl, h⟩
  refine WL.val run_assign rfl rfl ?_
  refine WL.nil ?_
  refine W.seq ?_
  refine W.region ?_
  refine WL.val run_makeFunc rfl rfl ?_
  refine WL.val run_assign rfl rfl ?_
  refine WL.nil ?_
  refine W.ret ?_
  refine bodyQ.r1  Try.results71 rfl ?_
  -- path 
  exact ⟨b1, rfl, h⟩


theorem sorted_ok {bb mb ck : Nat} {kvs : List KV} (hr : ∀ x ∈ kvs, (Lit.int .i64 x.1).wf = true) (hl : kvs.length ≤ 1000000) (h : On W0 (blk bb [.map (some mb)] 104 :: MapC mb .i64 kvs ck :: L) w) : Calls Try.prog 70 #[.func (.func 107) #[] #[.pointer (some ⟨bb, 0, none⟩)]] w (Ret fun v w' => ∃ (a : Option Addr) (c : Nat) (ks : List Int), v = .slice a ks.length c ∧ ks.Perm (kvs.map (·.1)) ∧ ks.Pairwise (· ≤ ·) ∧ On W0 (Own 1 (.slice a ks.length c) ks.length (intsV ks) :: MapC mb .i64 kvs ck :: L) w') := by
  have hb := h.block 0 rfl
  obtain ⟨hfit, hmb⟩ := On.mapC h.p1
  have hmx := maxLen_eq
  obtain ⟨D0, hown, hperm, hsize⟩ := ownsMap_ints (P := Try.prog) (kT := 3) Try.underlying3 hfit hr (by omega) hmb
  have hseq : SeqGives Fence.wide 2 Try.prog 107 #[.pointer (some ⟨bb, 0, none⟩)] encZ (fun ss => ss.Perm (intKeys D0)) (Maps.size D0) w :=
    AnyZI.keys_gives (ρ := Try.keysA_ren) { Try.keysA with } Fence.wide _ trivial rfl (by omega) bb mb kvs.length D0 w (Array.getElem?_eq_some_iff.1 hb).1 (by rw [cell_of_row w bb 0 _ _ _ hb]; rfl) hown
  have hsort : ∀ m, AnyZI.SortsIn Try.prog Try.sortedA_ren Fence.wide m := fun m =>
    ⟨fun blk off cap ss W hH hblk hsz => callsIn_wide.2 (AnyM.slices_Sort_int Try.sortA blk off cap ss W hH hblk hsz),
     fun p cap W => callsIn_wide.2 (AnyM.slices_Sort_int_none Try.sortA p cap W)⟩
  have cS := AnyZI.sorted_in Try.sortedA Fence.wide 5 trivial trivial trivial trivial rfl (by omega) (hsort _) (enters_of Try.func106 (by kernel_rfl) rfl) 107 #[.pointer (some ⟨bb, 0, none⟩)] trivial (enters_of Try.func107 (by kernel_rfl) rfl) _ _ (by omega) (by omega) _ hseq
  change CallsIn _ _ Try.prog 70 _ _ _ at cS
  refine ((callsIn_wide (n := 5)).1 cS).mono ?_
  rintro e w' ⟨v, ss, rfl, hS, hrow, _, hbel⟩
  have hform : ∃ a c, v = .slice a ss.length c := by
    rcases hrow.2 with ⟨rfl, h0⟩ | ⟨g, cap, cur, rfl, _⟩
    · exact ⟨none, 0, by rw [h0]⟩
    · exact ⟨_, _, rfl⟩
  obtain ⟨a, c, rfl⟩ := hform
  have hlen : (ss.mergeSort (fun x y => decide (x ≤ y))).length = ss.length := List.length_mergeSort ..
  have h2 := On.newRow h hbel hrow
  refine ⟨_, rfl, a, c, ss.mergeSort (fun x y => decide (x ≤ y)), by rw [hlen], ((List.mergeSort_perm _ _).trans hS).trans hperm, ?_, ?_⟩
  · have := List.pairwise_mergeSort (le := fun x y : Int => decide (x ≤ y)) (fun a b c h1 h2 => by simp only [decide_eq_true_eq] at *; omega) (fun a b => by simp only [Bool.or_eq_true, decide_eq_true_eq]; omega) ss
    exact this.imp fun h => by simpa using h
  · rw [hlen]
    exact h2.p1.tail

end Go.Proofs.Ytlahgihjjabgmaa
