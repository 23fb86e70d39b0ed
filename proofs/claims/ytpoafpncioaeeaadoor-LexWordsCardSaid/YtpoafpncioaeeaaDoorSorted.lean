/- rowlock/lex.Words: all words, sorted. -/
import Derived.Test.YtpoafpncioaeeaaDoorWords
import Derived.Sort.OwnSorted
import Derived.Shelf.SlIter.Collect
set_option linter.unusedVariables false
set_option linter.unusedSimpArgs false
namespace Go.Proofs.YtpoafpncioaeeaaDoor
open Go.RowKit Go.Shelf Go.Proofs

attribute [local go_sem] Oper.semAt_some

/-- All words, rising. -/
def lexSorted : List (List UInt8) := [[65, 78, 68], [65, 83], [65, 83, 67], [66, 69, 84, 87, 69, 69, 78], [66, 89], [67, 79, 85, 78, 84], [68, 69, 83, 67], [68, 73, 83, 84, 73, 78, 67, 84], [70, 65, 76, 83, 69], [70, 82, 79, 77], [71, 82, 79, 85, 80], [73, 78], [73, 83], [76, 73, 77, 73, 84], [77, 65, 88], [77, 73, 78], [78, 79, 84], [78, 85, 76, 76], [79, 82], [79, 82, 68, 69, 82], [83, 69, 76, 69, 67, 84], [83, 85, 77], [84, 82, 85, 69], [87, 72, 69, 82, 69]]

theorem encW_eq : encW = encStr := rfl

set_option maxRecDepth 100000 in
theorem lexSorted_perm : lexSorted.Perm lexWs := by decide
set_option maxRecDepth 100000 in
theorem lexSorted_up : lexSorted.Pairwise (fun x y => x ≤ y) := by decide

theorem sorted_eq : (lexWs.mergeSort fun x y => decide (x ≤ y)) = lexSorted := by
  have h1 : (lexWs.mergeSort fun x y => decide (x ≤ y)).Pairwise (fun x y => x ≤ y) := by
    have := List.pairwise_mergeSort (le := fun x y : List UInt8 => decide (x ≤ y)) (fun a b c hab hbc => by
      simp only [decide_eq_true_eq] at *; exact List.le_trans hab hbc) (fun a b => by
      simp only [Bool.or_eq_true, decide_eq_true_eq]; exact List.le_total a b) lexWs
    exact this.imp (fun h => by simpa using h)
  exact List.Perm.eq_of_pairwise (fun a b _ _ h h' => List.le_antisymm h h') h1 lexSorted_up ((List.mergeSort_perm _ _).trans lexSorted_perm.symm)

set_option maxHeartbeats 2000000 in
theorem Collect_calls (B : Nat) (w : World) (hB : B + 3 ≤ w.heap.size) (c0 : w.cell? ⟨B, 0, none⟩ = some (.string ⟨(jn lexWs).toArray⟩)) (f0 : w.frozen? ⟨B, 0, none⟩ = false) (c1 : w.cell? ⟨B + 1, 0, none⟩ = some (.string ⟨#[32]⟩)) (c2 : w.cell? ⟨B + 2, 0, none⟩ = some (.int .i64 0)) :
    Calls Tryd.prog 12 #[.func (.func 20) #[] #[.pointer (some ⟨B + 1, 0, none⟩), .pointer (some ⟨B, 0, none⟩), .pointer (some ⟨B + 2, 0, none⟩)]] w fun e w' => ∃ v, e = .returned v ∧ w'.ownsRow w.heap.size 9 1 v lexWs.length (lexWs.map encW) ∧ Below B w w' := by
  go_enter Tryd.func12, Tryd.ntmps12
  go_wp2_with (go_at_call 17; refine (AppendSeq_calls B _ hB c0 f0 c1 c2).mono ?_; rintro e w' ⟨v, rfl, ho, hb⟩)
  go_ret
  exact ⟨v, rfl, ho, hb⟩

set_option maxHeartbeats 2000000 in
theorem Sorted_calls (B : Nat) (w : World) (hB : B + 3 ≤ w.heap.size) (c0 : w.cell? ⟨B, 0, none⟩ = some (.string ⟨(jn lexWs).toArray⟩)) (f0 : w.frozen? ⟨B, 0, none⟩ = false) (c1 : w.cell? ⟨B + 1, 0, none⟩ = some (.string ⟨#[32]⟩)) (c2 : w.cell? ⟨B + 2, 0, none⟩ = some (.int .i64 0)) :
    Calls Tryd.prog 9 #[.func (.func 20) #[] #[.pointer (some ⟨B + 1, 0, none⟩), .pointer (some ⟨B, 0, none⟩), .pointer (some ⟨B + 2, 0, none⟩)]] w fun e w' => ∃ v, e = .returned v ∧ w'.ownsRow w.heap.size 9 1 v lexSorted.length (lexSorted.map encW) ∧ Below B w w' := by
  go_enter Tryd.func9, Tryd.ntmps9
  go_wp2_with (go_at_call 12; refine (Collect_calls B _ hB c0 f0 c1 c2).mono ?_; rintro e w1 ⟨v, rfl, hrow, hbB⟩)
  rcases hrow.2 with ⟨_, hnil⟩ | ⟨g, cap, cur, rfl, hbase, hb, h1, h2, h3, h4⟩
  · exact absurd hnil (by decide)
  have h4' : cur.toList.take lexWs.length = lexWs.map encStr := by simpa [encW_eq] using h4
  have hc := Tryd.slices_Sort_string g 0 cap lexWs w1 (holds_of_block hb h4') (Array.getElem?_eq_some_iff.1 hb).1 (by decide)
  rw [sorted_eq] at hc
  refine hc.mono ?_
  rintro e w' ⟨rfl, nn, os, rfl⟩
  go_wp2
  go_ret
  refine ⟨_, rfl, ?_, ?_⟩
  · have := ownsRow_sorted (os := os) (n := nn) (ss := lexWs) (ts := lexSorted) (by decide) hbase hb h1 h2 h3
    exact this
  · exact hbB.grown (grownBy_sorted _) (by have := hbB.size; omega) (fun j hj => by cases hj; omega)

set_option maxHeartbeats 2000000 in
theorem lex_Words_calls (w : World) :
    Calls Tryd.prog 4 #[] w fun e w' => ∃ v, e = .returned v ∧ w'.ownsRow w.heap.size 9 1 v lexSorted.length (lexSorted.map encW) ∧ Below w.heap.size w w' := by
  go_enter Tryd.func4, Tryd.ntmps4
  go_wp2_with (go_at_call 10; refine (SplitSeq_calls _ _ _).mono ?_; rintro e w' ⟨rfl, rfl⟩)
  refine (Sorted_calls w.heap.size _ (by simp) (by go_simp; rfl) (by go_simp) (by go_simp) (by go_simp)).mono ?_
  rintro e w' ⟨v, rfl, hrow, hb⟩
  go_wp2
  go_ret
  refine ⟨v, rfl, ?_, ?_⟩
  · exact ownsRow_base_a hrow (by simp; omega)
  · exact (((Below.refl _ w).alloc (Nat.le_refl _) _).alloc (by simp) _ |>.alloc (by simp; omega) _).trans hb

theorem infoStrR : (Tryd.prog.info? 9).map (fun i => (i.zero, i.size, i.bytes)) = some (some (.string ⟨#[]⟩), 1, 16) := by kernel_rfl

set_option maxHeartbeats 2000000 in
set_option maxRecDepth 100000 in
theorem ref_Words_calls (w : World) :
    Calls Tryd.prog 5 #[] w fun e w' => ∃ v, e = .returned v ∧ w'.ownsRow w.heap.size 9 1 v lexSorted.length (lexSorted.map encW) ∧ Below w.heap.size w w' := by
  go_enter Tryd.func5, Tryd.ntmps5
  go_wp2
  go_ret
  exact ⟨_, rfl, ⟨by decide, .inr ⟨w.heap.size, 24, _, rfl, Nat.le_refl _, World.alloc_heap_new _ _, by decide, by decide, by decide, rfl⟩⟩, (Below.refl _ w).alloc (Nat.le_refl _) _⟩
end Go.Proofs.YtpoafpncioaeeaaDoor
