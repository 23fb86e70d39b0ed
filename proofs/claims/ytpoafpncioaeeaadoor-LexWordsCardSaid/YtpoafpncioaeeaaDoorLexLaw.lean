/- The walk of the law LexWords. -/
import Derived.Test.YtpoafpncioaeeaaDoorPHLexx2
import Derived.Test.YtpoafpncioaeeaaDoorRefWord
import Derived.Deep.RegionHeld3
import Derived.Laws.CopyRow
set_option linter.unusedVariables false
set_option linter.unusedSimpArgs false
namespace Go.Proofs.YtpoafpncioaeeaaDoor
open Go.RowKit Go.Shelf Go.Proofs

set_option maxRecDepth 100000 in
theorem fixed_true : PHLex.rowlocklaw15_fixed.f 40 = some true := by decide +kernel

theorem fixed_calls (w : World) : Calls Tryd.prog 7 #[] w fun e w' => e = .returned (.bool true) ∧ Below w.heap.size w w' :=
  PHLex.rowlocklaw15_fixed.calls 40 true w fixed_true

/-- What stands between two rounds: both rows, and what lay before. -/
def LawRel (w : World) (b1 g1 cap1 b2 g2 cap2 : Nat) (W : World) : Prop :=
  (W.ownsRow b1 9 1 (.slice (some ⟨g1, 0, none⟩) 24 cap1) lexSorted.length (lexSorted.map encW) ∧ W.ownsRow b2 9 1 (.slice (some ⟨g2, 0, none⟩) 24 cap2) lexSorted.length (lexSorted.map encW)) ∧ Below w.heap.size w W

theorem LawRel.below {w : World} {b1 g1 cap1 b2 g2 cap2 : Nat} {W W' : World} (h : LawRel w b1 g1 cap1 b2 g2 cap2 W) (hb : Below W.heap.size W W') : LawRel w b1 g1 cap1 b2 g2 cap2 W' :=
  ⟨⟨h.1.1.kept ⟨hb.os, hb.tape, hb.output, hb.size, fun i hi _ => hb.block i hi⟩ (by cases (Value.ownBlock _) <;> simp : _ ∨ _ ≠ none), h.1.2.kept ⟨hb.os, hb.tape, hb.output, hb.size, fun i hi _ => hb.block i hi⟩ (by cases (Value.ownBlock _) <;> simp : _ ∨ _ ≠ none)⟩, h.2.trans (hb.mono h.2.size)⟩
theorem LawRel.drew {w : World} {b1 g1 cap1 b2 g2 cap2 : Nat} {W : World} (h : LawRel w b1 g1 cap1 b2 g2 cap2 W) : LawRel w b1 g1 cap1 b2 g2 cap2 W.drew :=
  h.below ⟨rfl, rfl, rfl, Nat.le_refl _, fun _ _ => rfl⟩
theorem LawRel.at1 {w : World} {b1 g1 cap1 b2 g2 cap2 : Nat} {W : World} (h : LawRel w b1 g1 cap1 b2 g2 cap2 W) : WordsAt W g1 := by
  obtain ⟨g, cap, e, hw⟩ := wordsAt_of h.1.1
  cases e; exact hw
theorem LawRel.at2 {w : World} {b1 g1 cap1 b2 g2 cap2 : Nat} {W : World} (h : LawRel w b1 g1 cap1 b2 g2 cap2 W) : WordsAt W g2 := by
  obtain ⟨g, cap, e, hw⟩ := wordsAt_of h.1.2
  cases e; exact hw

theorem keepC {W W' : World} {p : Addr} {v : Value} (hb : Below W.heap.size W W') (h : W.cell? p = some v) : W'.cell? p = some v := (hb.cell (World.block_lt_of_cell? W _ h)).trans h
theorem keepB {w W W' : World} (hb : Below W.heap.size W W') (h : Below w.heap.size w W) : Below w.heap.size w W' := h.trans (hb.mono h.size)

theorem run_clear_words (W : World) (g cap : Nat) (cur : Array Value) (hg : W.heap[g]? = some (.cells cur 9 (0, 0))) (hsz : 24 ≤ cur.size) :
    ∃ W', (Builtin.clear_ #[22] 0 #[.slice (some ⟨g, 0, none⟩) 24 cap]).run Tryd.prog W = .ok (.tuple #[]) W' ∧ W.grownBy W' (some g) := by
  have hu := run_underlying Tryd.underlying22 W
  have hz : (zeroValue 9).run Tryd.prog W = .ok (.string ⟨#[]⟩) W := by kernel_rfl
  have hzc : (Builtin.zeroCells (Value.cells (.string ⟨#[]⟩)) 24).toList = List.replicate 24 (.string ⟨#[]⟩) := by kernel_rfl
  have hs := run_storeCells_at (P := Tryd.prog) g 0 9 (List.replicate 24 (.string ⟨#[]⟩)) 0 cur W hg (by simpa using hsz) (by intro v hv; rw [List.eq_of_mem_replicate hv]; rfl)
  rw [← hzc] at hs
  obtain ⟨C, hC⟩ : ∃ C, C = (List.take (0 + 0) cur.toList ++ (Builtin.zeroCells (Value.cells (.string ⟨#[]⟩)) 24).toList ++ List.drop (0 + 0 + (Builtin.zeroCells (Value.cells (.string ⟨#[]⟩)) 24).toList.length) cur.toList).toArray := ⟨_, rfl⟩
  rw [← hC] at hs
  refine ⟨W.setRow g C, ?_, ?_⟩
  · simp [Builtin.clear_, Sem.run_bind, hu, hz, Result.andThen_ok, hs]
  · exact ⟨rfl, rfl, rfl, by simp, fun k _ hk => setRow_other _ _ _ _ (fun e => hk (by rw [e]))⟩

set_option maxHeartbeats 4000000 in
set_option maxRecDepth 100000 in
theorem LexWords_calls (s : ByteArray) (w : World) :
    Calls Tryd.prog 3 #[.string s] w fun e w' => e = .returned (.bool true) ∧ Below w.heap.size w w' := by
  go_enter Tryd.func3, Tryd.ntmps3
  go_wp2_with (first
    | (go_at_call 4; refine (lex_Words_calls _).mono ?_; rintro e w1 ⟨v1, rfl, hrow1, hb1⟩)
    | (go_at_call 5; refine (ref_Words_calls _).mono ?_; rintro e w2 ⟨v2, rfl, hrow2, hb2⟩; obtain ⟨g1, cap1, rfl, hc1⟩ := wordsAt_of hrow1; obtain ⟨g2, cap2, rfl, hc2⟩ := wordsAt_of hrow2))
  have hR : LawRel w _ g1 cap1 _ g2 cap2 w2 := ⟨⟨hrow1.kept ⟨hb2.os, hb2.tape, hb2.output, hb2.size, fun i hi _ => hb2.block i hi⟩ (by cases (Value.ownBlock _) <;> simp : _ ∨ _ ≠ none), hrow2⟩, hb1.trans (hb2.mono hb1.size)⟩
  have hg1lt : g1 < w1.heap.size := World.block_lt_of_cell? w1 _ (hc1 0 (by decide))
  clear hrow1 hrow2 hb1 hb2 hc1 hc2
  go_loopw [5, 15] (fun v5 v15 wr => ∃ k : Nat, k ≤ 24 ∧ v15 = .int .i64 k ∧ LawRel w w.heap.size g1 cap1 w1.heap.size g2 cap2 wr) (fun _ v15 _ => 24 - (intOf v15).toNat)
  case atStart => exact ⟨0, by omega, rfl, hR⟩
  case round =>
    obtain ⟨k, hk, rfl, hRk⟩ := hrel
    by_cases hlt : k < 24
    · have hA := hRk.at1 k hlt
      have hB := hRk.at2 k hlt
      unfold encW at hA hB
      obtain ⟨x, hx⟩ : ∃ x, x = lexSorted.getD k [] := ⟨_, rfl⟩
      rw [← hx] at hA hB
      have hxm : (⟨x.toArray⟩ : ByteArray).toList ∈ lexWs := mem_getD.2 ⟨k, hlt, by rw [← hx]; simp⟩
      have hW : ∀ W, Calls Tryd.prog 6 #[.string ⟨x.toArray⟩] W fun e w' => e = .returned (.bool true) ∧ Below W.heap.size W w' := fun W => lex_Word.calls _ true W (by unfold lex_Word.f; rw [decide_eq_true hxm])
      clear hx hxm
      have HW := Lib.hid hW
      clear hW
      go_wp2
      go_region_held3 (fun W => (W.cell? ⟨g1, k, none⟩ = some (.string ⟨x.toArray⟩) ∧ W.cell? ⟨g2, k, none⟩ = some (.string ⟨x.toArray⟩)) ∧ LawRel w w.heap.size g1 cap1 w1.heap.size g2 cap2 W) ((first | exact ⟨⟨hA, hB⟩, hRk.drew⟩ | exact ⟨⟨(hb.cell (World.block_lt_of_cell? wr.drew _ hA)).trans hA, (hb.cell (World.block_lt_of_cell? wr.drew _ hB)).trans hB⟩, hRk.drew.below hb⟩))
        (first | (go_at_call 6; refine (HW.out _).mono ?_; rintro e w' ⟨rfl, hb⟩))
      have hR' := hRk.drew.below hb
      go_wp2
      go_roundw
      case rel => exact ⟨k + 1, by omega, by go_num, hR'⟩
      case measure => simp [intOf]; omega
    · obtain ⟨cur, hcur, hcs⟩ : ∃ cur, wr.heap[g1]? = some (.cells cur 9 (0, 0)) ∧ 24 ≤ cur.size := by
        rcases hRk.1.1.2 with ⟨_, hnil⟩ | ⟨g, cap, cur, e, hbase, hb, h1, h2, h3, h4⟩
        · exact absurd hnil (by decide)
        · cases e
          exact ⟨cur, hb, by rw [h3, Nat.mul_one]; exact h1⟩
      have hg1b : w.heap.size ≤ g1 ∧ g1 < w1.heap.size := ⟨by
        rcases hRk.1.1.2 with ⟨_, hnil⟩ | ⟨g, cap, cur, e, hbase, hb, _⟩
        · exact absurd hnil (by decide)
        · cases e; exact hbase, hg1lt⟩
      obtain ⟨W2, hclr, hgrow⟩ := run_clear_words wr g1 cap1 cur hcur hcs
      have hne : g2 ≠ g1 := fun e => by
        have l1 : w1.heap.size ≤ g2 := by
          rcases hRk.1.2.2 with ⟨_, hnil⟩ | ⟨g, cap, cur, e, hbase, hb, _⟩
          · exact absurd hnil (by decide)
          · cases e; exact hbase
        omega
      have hA2 : W2.cell? ⟨g2, 0, none⟩ = some (.string ⟨#[65, 78, 68]⟩) := by
        have h0 := hRk.at2 0 (by decide)
        rw [show encW (lexSorted.getD 0 []) = .string ⟨#[65, 78, 68]⟩ from rfl] at h0
        have hlt2 := World.block_lt_of_cell? wr _ h0
        unfold World.cell? at h0 ⊢
        rw [hgrow.block g2 hlt2 (fun e => hne (by cases e; rfl))]
        exact h0
      have hbW2 : Below w.heap.size w W2 := hRk.2.grown hgrow hRk.2.size (fun j e => by cases e; exact hg1b.1)
      clear hcur hcs hgrow
      obtain ⟨b, hb⟩ : ∃ b, b = decide (s.toList ∈ lexWs) := ⟨_, rfl⟩
      have C1 := fixed_calls
      have C2 : ∀ W, Calls Tryd.prog 6 #[.string s] W fun e w' => e = .returned (.bool b) ∧ Below W.heap.size W w' := fun W => lex_Word.calls s b W (by rw [hb]; rfl)
      have C3 : ∀ W, Calls Tryd.prog 8 #[.string s] W fun e w' => e = .returned (.bool b) ∧ Below W.heap.size W w' := fun W => by rw [hb]; exact ref_Word_calls s W
      have C4 : ∀ W, Calls Tryd.prog 4 #[] W fun e w' => ∃ g cap, (e = .returned (.slice (some ⟨g, 0, none⟩) 24 cap) ∧ w'.cell? ⟨g, 0, none⟩ = some (.string ⟨#[65, 78, 68]⟩)) ∧ Below W.heap.size W w' := fun W => (lex_Words_calls W).mono (by
        rintro e w' ⟨v, rfl, hrow, hb⟩
        obtain ⟨g, cap, rfl, hw⟩ := wordsAt_of hrow
        exact ⟨g, cap, ⟨rfl, hw 0 (by decide)⟩, hb⟩)
      have H1 := Lib.hid C1
      have H2 := Lib.hid C2
      have H3 := Lib.hid C3
      have H4 := Lib.hid C4
      clear C1 C2 C3 C4 hb
      go_wp2
      have hA3 : W2.drew.cell? ⟨g2, 0, none⟩ = some (.string ⟨#[65, 78, 68]⟩) := hA2
      have hbW3 : Below w.heap.size w W2.drew := hbW2.drew
      go_region_with (first
          | (go_at_call 7; refine (H1.out _).mono ?_; rintro e w3 ⟨rfl, hb3⟩; have hA4 := keepC hb3 (by assumption); have hB4 := keepB hb3 (by assumption); clear hb3)
          | (go_at_call 6; refine (H2.out _).mono ?_; rintro e w4 ⟨rfl, hb4⟩; have hA5 := keepC hb4 (by assumption); have hB5 := keepB hb4 (by assumption); clear hb4)
          | (go_at_call 8; refine (H3.out _).mono ?_; rintro e w5 ⟨rfl, hb5⟩; have hA6 := keepC hb5 (by assumption); have hB6 := keepB hb5 (by assumption); clear hb5)
          | (go_at_call 4; refine (H4.out _).mono ?_; rintro e w6 ⟨g6, cap6, ⟨rfl, hc6⟩, hb6⟩; have hA7 := keepC hb6 (by assumption); have hB7 := keepB hb6 (by assumption); clear hb6))
      all_goals
        go_wp2
        go_ret
        refine ⟨?_, by assumption⟩
        cases b <;> rfl
end Go.Proofs.YtpoafpncioaeeaaDoor
