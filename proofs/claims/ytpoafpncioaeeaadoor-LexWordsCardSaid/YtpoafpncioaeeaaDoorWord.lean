/- rowlock/lex.Word: whether a text is one of the words. -/
import Derived.Test.YtpoafpncioaeeaaDoorSplit
set_option linter.unusedVariables false
set_option linter.unusedSimpArgs false
namespace Go.Proofs.YtpoafpncioaeeaaDoor
open Go.RowKit Go.Shelf Go.Proofs

attribute [local go_sem] Oper.semAt_some

/-- The words, as the program's constant has them. -/
def lexWs : List (List UInt8) := [[83, 69, 76, 69, 67, 84], [68, 73, 83, 84, 73, 78, 67, 84], [70, 82, 79, 77], [87, 72, 69, 82, 69], [71, 82, 79, 85, 80], [66, 89], [79, 82, 68, 69, 82], [76, 73, 77, 73, 84], [65, 83], [65, 78, 68], [79, 82], [78, 79, 84], [73, 83], [78, 85, 76, 76], [73, 78], [66, 69, 84, 87, 69, 69, 78], [84, 82, 85, 69], [70, 65, 76, 83, 69], [65, 83, 67], [68, 69, 83, 67], [67, 79, 85, 78, 84], [83, 85, 77], [77, 73, 78], [77, 65, 88]]

set_option maxRecDepth 100000 in
theorem lexWs_no : ∀ x ∈ lexWs, (32 : UInt8) ∉ x := by decide

theorem jn_append_le : ∀ (pre : List (List UInt8)) (x : List UInt8) (rest : List (List UInt8)), (jn (x :: rest)).length ≤ (jn (pre ++ x :: rest)).length
  | [], _, _ => Nat.le_refl _
  | [p], x, rest => by simp [jn]; omega
  | p :: q :: pre, x, rest => by
    have ih := jn_append_le (q :: pre) x rest
    simp only [List.cons_append] at ih ⊢
    rw [jn_two]
    simp only [List.length_append, List.length_cons]
    omega

set_option maxRecDepth 100000 in
theorem lexWs_len : (jn lexWs).length = 118 := by decide

theorem lexWs_sz : ∀ pre x rest, lexWs = pre ++ x :: rest → (jn (x :: rest)).length < 1000000 := by
  intro pre x rest h
  have h1 := jn_append_le pre x rest
  rw [← h, lexWs_len] at h1
  omega

/-- strings.splitSeq: three boxes, and the closure over them. -/
theorem splitSeq_calls (s sep : ByteArray) (w : World) :
    Calls Tryd.prog 14 #[.string s, .string sep, .int .i64 0] w fun e w' => e = .returned (.func (.func 20) #[] #[.pointer (some ⟨w.heap.size + 1, 0, none⟩), .pointer (some ⟨w.heap.size, 0, none⟩), .pointer (some ⟨w.heap.size + 2, 0, none⟩)]) ∧
      w' = ((w.alloc (.cells #[.string s] 9)).alloc (.cells #[.string sep] 9)).alloc (.cells #[.int .i64 0] 3) := by
  go_enter Tryd.func14, Tryd.ntmps14
  go_wp2
  go_ret
  exact ⟨rfl, rfl⟩

theorem SplitSeq_calls (s sep : ByteArray) (w : World) :
    Calls Tryd.prog 10 #[.string s, .string sep] w fun e w' => e = .returned (.func (.func 20) #[] #[.pointer (some ⟨w.heap.size + 1, 0, none⟩), .pointer (some ⟨w.heap.size, 0, none⟩), .pointer (some ⟨w.heap.size + 2, 0, none⟩)]) ∧
      w' = ((w.alloc (.cells #[.string s] 9)).alloc (.cells #[.string sep] 9)).alloc (.cells #[.int .i64 0] 3) := by
  go_enter Tryd.func10, Tryd.ntmps10
  go_wp2_with (go_at_call 14; refine (splitSeq_calls _ _ _).mono ?_; rintro e w' ⟨rfl, rfl⟩)
  go_ret
  exact ⟨rfl, rfl⟩

/-- What the Go function answers. -/
def lex_Word.f (a0 : ByteArray) : Option Bool := some (decide (a0.toList ∈ lexWs))

set_option maxHeartbeats 2000000 in
set_option maxRecDepth 100000 in
theorem lex_Word.calls (a0 : ByteArray) (r : Bool) (w : World) (h : lex_Word.f a0 = some r) :
    Calls Tryd.prog 6 #[.string a0] w fun e w' => e = .returned (.bool r) ∧ Below w.heap.size w w' := by
  obtain rfl := Option.some.inj h
  refine callsIn_wide.1 (?_ : CallsIn Fence.wide 10 _ _ _ _ _)
  refine callsIn_of_wp_marks Tryd.func6 rfl trivial ?_ rfl
  simp only [Tryd.ntmps6, List.size_toArray, List.length_cons, List.length_nil, Nat.reduceAdd, Nat.reduceSub, Array.replicate_succ, Array.replicate_zero, List.push_toArray, List.append_toArray, List.nil_append, List.cons_append]
  gi_wp2_with (refine ⟨trivial, ?_⟩; gi_at_call 10; refine (callsIn_wide.2 (SplitSeq_calls _ _ _)).mono ?_; rintro e w' ⟨rfl, rfl⟩)
  refine wpIn_rangeFunc_box rfl (by decide) (gf := 20) (lb := #[.pointer (some ⟨w.heap.size + 2 + 1, 0, none⟩), .pointer (some ⟨w.heap.size + 2, 0, none⟩), .pointer (some ⟨w.heap.size + 2 + 2, 0, none⟩)]) rfl trivial (enters_of Tryd.func20 (by kernel_rfl) rfl)
    (split_stops (w.heap.size + 2) lexWs (by decide) lexWs_no lexWs_sz _ (by simp) ?c0 ?f0 ?c1 ?c2 9 (by decide)) (by simp) belowK_t (belowK_b (by simp)) (Below.refl _ _) (fun _ => rfl)
    (fun pre W => (a0.toList ∉ pre ∧ W.cell? ⟨w.heap.size, 0, none⟩ = some (.string a0) ∧ W.cell? ⟨w.heap.size + 1, 0, none⟩ = some (.bool false) ∧ W.frozen? ⟨w.heap.size + 1, 0, none⟩ = false) ∧ Below w.heap.size w W)
    (fun c pre W => (c = .ret ∧ a0.toList ∈ pre ∧ W.cell? ⟨w.heap.size + 1, 0, none⟩ = some (.bool true)) ∧ Below w.heap.size w W)
    (OwnFrom.and (Own.from (fun s A B row hs hg hr => ⟨hs.1, cell_kept hs.2.1 hg hr, cell_kept hs.2.2.1 hg hr, (frozen_kept hs.2.2.1 hg hr).trans hs.2.2.2⟩) _) (ownFrom_below (Nat.le_refl _) (by simp; omega)))
    (fun c => OwnFrom.and (Own.from (fun s A B row hs hg hr => ⟨hs.1, hs.2.1, cell_kept hs.2.2 hg hr⟩) _) (ownFrom_below (Nat.le_refl _) (by simp; omega)))
    (fun s W v hs => ⟨⟨hs.1.1, (World.cell?_setCell_far _ _ _ _ (by simp)).trans hs.1.2.1, (World.cell?_setCell_far _ _ _ _ (by simp)).trans hs.1.2.2.1, by rw [World.frozen?_setCell]; exact hs.1.2.2.2⟩, hs.2.setCell (p := ⟨w.heap.size + 2, 0, none⟩) (by simp) _⟩)
    (fun c s W v hs => ⟨⟨hs.1.1, hs.1.2.1, (World.cell?_setCell_far _ _ _ _ (by simp)).trans hs.1.2.2⟩, hs.2.setCell (p := ⟨w.heap.size + 2, 0, none⟩) (by simp) _⟩)
    ?h0
    (fun x => { tmps := #[.string a0, .pointer (some ⟨w.heap.size, 0, none⟩), .pointer (some ⟨w.heap.size + 1, 0, none⟩), .string ⟨x.toArray⟩, .func (.func 20) #[] #[.pointer (some ⟨w.heap.size + 2 + 1, 0, none⟩), .pointer (some ⟨w.heap.size + 2, 0, none⟩), .pointer (some ⟨w.heap.size + 2 + 2, 0, none⟩)], .string ⟨x.toArray⟩, undef, undef, undef], defers := [] }) ?assign ?body ?done ?stop
  case c0 => go_simp; rfl
  case f0 => go_simp
  case c1 => go_simp
  case c2 => go_simp
  case h0 => exact ⟨⟨by simp, by go_simp, by go_simp, by go_simp⟩, ((((Below.refl _ w).alloc (Nat.le_refl _) _).alloc (by simp) _).alloc (by simp; omega) _ |>.alloc (by simp; omega) _).alloc (by simp; omega) _⟩
  case assign =>
    intro l x W K hK
    gi_wp2
    exact hK
  case body =>
    rintro l pre x W ⟨⟨hnot, hc0, hc1, hf1⟩, hbW⟩ _
    by_cases hxa : x = a0.toList
    · have hb : (x == a0.toList) = true := beq_iff_eq.2 hxa
      gi_wp2
      exact ⟨KeepsOthers.setCell _ _ _, ⟨rfl, by rw [hxa]; simp, World.cell?_setCell_same' _ _ _ (by rw [hc1]; rfl)⟩, hbW.setCell (p := ⟨w.heap.size + 1, 0, none⟩) (by simp) _⟩
    · have hb : (x == a0.toList) = false := beq_eq_false_iff_ne.2 hxa
      gi_wp2
      exact ⟨KeepsOthers.refl _, Below.refl _ _, ⟨by simp only [List.mem_append, List.mem_singleton, not_or]; exact ⟨hnot, fun e => hxa e.symm⟩, hc0, hc1, hf1⟩, hbW⟩
  case done =>
    rintro D ys W hD rfl ⟨⟨hnot, hc0, hc1, hf1⟩, hbW⟩ hK
    have hK' : (W.setCell ⟨w.heap.size + 1, 0, none⟩ (.bool false)).heap[D]? = some (.deferred (some [])) := (KeepsOthers.setCell _ _ _).same D _ hK rfl
    gi_wp2
    refine ⟨by simp, .inl ⟨_, _, rfl, run_takeDeferred hK', ?_⟩⟩
    have hc5 := cell_kept (World.cell?_setCell_same' W ⟨w.heap.size + 1, 0, none⟩ (.bool false) (by rw [hc1]; rfl)) (grownBy_putObj' _ D (.deferred none)) (fun r e => by cases e; exact ⟨_, hK', rfl⟩)
    refine ⟨.bool false, ?_, by rw [decide_eq_false hnot], ?_⟩
    · simp [results, Tryd.f6, go_sem, hc5]
    · exact (hbW.setCell (p := ⟨w.heap.size + 1, 0, none⟩) (by simp) _).trans (belowK_b (w := w) (Nat.le_refl _) _ D _ _ (by simp at hD; omega) hK' rfl rfl)
  case stop =>
    rintro D c pre W hD hpre ⟨⟨rfl, hin, hc1⟩, hbW⟩ hK
    gi_wp2
    refine ⟨by simp, .inl ⟨_, _, rfl, run_takeDeferred hK, ?_⟩⟩
    have hc5 := cell_kept hc1 (grownBy_putObj' _ D (.deferred none)) (fun r e => by cases e; exact ⟨_, hK, rfl⟩)
    refine ⟨.bool true, ?_, by rw [decide_eq_true (hpre.subset hin)], ?_⟩
    · simp [results, Tryd.f6, go_sem, hc5]
    · exact hbW.trans (belowK_b (w := w) (Nat.le_refl _) W D _ _ (by simp at hD; omega) hK rfl rfl)
end Go.Proofs.YtpoafpncioaeeaaDoor
