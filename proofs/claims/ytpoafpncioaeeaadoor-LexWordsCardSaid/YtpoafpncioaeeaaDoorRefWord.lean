/- rowlockref15.Word: whether a text is one of the words. -/
import Derived.Test.YtpoafpncioaeeaaDoorSorted
import Derived.LoopTactic
import Derived.Tactics2
set_option linter.unusedVariables false
set_option linter.unusedSimpArgs false
namespace Go.Proofs.YtpoafpncioaeeaaDoor
open Go.RowKit Go.Shelf Go.Proofs

/-- What is known of a row of the words: each of its cells. -/
def WordsAt (W : World) (g : Nat) : Prop := ∀ i, i < 24 → W.cell? ⟨g, i, none⟩ = some (encW (lexSorted.getD i []))

theorem add0 (g j : Nat) : (⟨g, 0, none⟩ : Addr).add j = ⟨g, j, none⟩ := by unfold Addr.add; split <;> simp_all

theorem wordsAt_of {W : World} {b : Nat} {v : Value} (h : W.ownsRow b 9 1 v lexSorted.length (lexSorted.map encW)) : ∃ g cap, v = .slice (some ⟨g, 0, none⟩) 24 cap ∧ WordsAt W g := by
  rcases h.2 with ⟨_, hnil⟩ | ⟨g, cap, cur, rfl, hbase, hb, h1, h2, h3, h4⟩
  · exact absurd hnil (by decide)
  · refine ⟨g, cap, rfl, fun i hi => ?_⟩
    have := h.cells (g := g) rfl i (encW (lexSorted.getD i [])) (by
      rw [List.getElem?_map, List.getD_eq_getElem?_getD, List.getElem?_eq_getElem (show i < lexSorted.length from hi)]; rfl)
    rw [← this, add0]

theorem mem_getD {s : List UInt8} : s ∈ lexWs ↔ ∃ i, i < 24 ∧ lexSorted.getD i [] = s := by
  rw [← lexSorted_perm.mem_iff, List.mem_iff_getElem]
  constructor
  · rintro ⟨i, hi, rfl⟩
    exact ⟨i, hi, by rw [List.getD_eq_getElem?_getD, List.getElem?_eq_getElem hi]; rfl⟩
  · rintro ⟨i, hi, rfl⟩
    exact ⟨i, hi, by rw [List.getD_eq_getElem?_getD, List.getElem?_eq_getElem (show i < lexSorted.length from hi)]; rfl⟩

set_option maxHeartbeats 2000000 in
theorem ref_Word_calls (s : ByteArray) (w : World) :
    Calls Tryd.prog 8 #[.string s] w fun e w' => e = .returned (.bool (decide (s.toList ∈ lexWs))) ∧ Below w.heap.size w w' := by
  go_enter Tryd.func8, Tryd.ntmps8
  go_wp2_with (go_at_call 5; refine (ref_Words_calls _).mono ?_; rintro e w' ⟨v, rfl, hrow, hb⟩; obtain ⟨g, cap, rfl, hcells⟩ := wordsAt_of hrow)
  go_loop [8] (fun i => ∃ k : Nat, k ≤ 24 ∧ i = .int .i64 k ∧ ∀ j, j < k → lexSorted.getD j [] ≠ s.toList) (fun i => 24 - (intOf i).toNat)
  case atStart => exact ⟨0, by omega, rfl, by simp⟩
  case round =>
    obtain ⟨k, hk, rfl, hno⟩ := hrel
    by_cases hlt : k < 24
    · have hc := hcells k hlt
      unfold encW at hc
      obtain ⟨x, hx⟩ : ∃ x, x = lexSorted.getD k [] := ⟨_, rfl⟩
      rw [← hx] at hc
      have HX := Lib.hid hx
      clear hx
      have HN := Lib.hid hno
      clear hno
      by_cases hs : x = s.toList
      · have hb1 : (x == s.toList) = true := beq_iff_eq.2 hs
        have HS := Lib.hid hs
        clear hs
        go_wp2
        go_ret
        have hin : s.toList ∈ lexWs := mem_getD.2 ⟨k, hlt, by rw [← HX.out]; exact HS.out⟩
        exact ⟨by rw [decide_eq_true hin]; rfl, hb⟩
      · have hb1 : (x == s.toList) = false := beq_eq_false_iff_ne.2 hs
        go_wp2
        go_round
        case rel =>
          refine ⟨k + 1, by omega, by go_num, fun j hj => ?_⟩
          by_cases e : j = k
          · subst e; rw [← HX.out]; exact hs
          · exact HN.out j (by omega)
        case measure => simp [intOf]; omega
    · have HN := Lib.hid hno
      clear hno
      go_wp2
      go_ret
      have hin : ¬ s.toList ∈ lexWs := fun h => by
        obtain ⟨i, hi, e⟩ := mem_getD.1 h
        exact HN.out i (by omega) e
      exact ⟨by rw [decide_eq_false hin]; rfl, hb⟩
end Go.Proofs.YtpoafpncioaeeaaDoor
