/- The plain law PathsSame: what the printed functions compute. -/
import Derived.Test.YtilkoiilednekaaGreatDoorPHPathx5
import Derived.Test.YtilkoiilednekaaGreatDoorPHPathx4
import Derived.Test.YtilkoiilednekaaGreatDoorPHPathx2
set_option linter.unusedVariables false
set_option linter.unusedSimpArgs false
namespace Go.Proofs.YtilkoiilednekaaGreatDoor
namespace PathsPure
open Go.RowKit Go.Proofs.YtilkoiilednekaaGreatDoorW.PrintWords Go.Proofs.YtilkoiilednekaaGreatDoor.PHPath

theorem wrapS {j n : Nat} (h : j < n) (hn : n ≤ 140737488351232) : wrap64 ((j : Int) + 1) = ((j + 1 : Nat) : Int) := by
  unfold wrap64; omega
theorem getD_at {α : Type} (l : List α) (j : Nat) (z : α) (h : j < l.length) : l.getD ((j : Int).toNat) z = l[j] := by
  simp [h]

/-! ### equal? -/
def ne59 (x y : S59) : Bool := (!((x.f0.toList) == (y.f0.toList)) || (!((x.f1.toList) == (y.f1.toList)) || (!(x.f2 == y.f2))))
theorem ne59_self (x : S59) : ne59 x x = false := by simp [ne59]
def scan {α : Type} (ne : α → α → Bool) : List α → List α → Bool
  | x :: r, y :: s => !ne x y && scan ne r s
  | _, _ => true
theorem scan_self {α : Type} (ne : α → α → Bool) (h : ∀ x, ne x x = false) : ∀ l, scan ne l l = true
  | [] => rfl
  | x :: r => by simp [scan, h, scan_self ne h r]
def eqR (l m : List (S59)) : Bool := decide (l.length = m.length) && scan ne59 l m
def neI (x y : Int) : Bool := !(x == y)
def eqI (l m : List Int) : Bool := decide (l.length = m.length) && scan neI l m
theorem eqR_self (l) : eqR l l = true := by simp [eqR, scan_self ne59 ne59_self]
theorem eqI_self (l) : eqI l l = true := by simp [eqI, scan_self neI (fun x => by simp [neI])]

theorem range_l0 (x y : List (S59)) (hxy : x.length = y.length) (hn : x.length ≤ 140737488351232) : ∀ (d j : Nat), x.length - j = d → j ≤ x.length → ∀ k, d < k → api_Range.l0 k x y (x.length : Int) (j : Int) = some (scan ne59 (x.drop j) (y.drop j)) := by
  intro d
  induction d with
  | zero =>
    intro j hd hj k hk
    obtain ⟨k, rfl⟩ : ∃ k', k = k' + 1 := ⟨k - 1, by omega⟩
    rw [show j = x.length by omega]
    unfold api_Range.l0
    rw [if_neg (by omega), List.drop_length]
    simp [scan]
  | succ d ih =>
    intro j hd hj k hk
    obtain ⟨k, rfl⟩ : ∃ k', k = k' + 1 := ⟨k - 1, by omega⟩
    have h1 : j < x.length := by omega
    have h2 : j < y.length := by omega
    unfold api_Range.l0
    rw [if_pos (by omega), if_pos (by omega), if_pos (by omega), if_pos (by omega)]
    unfold rd_T59
    rw [getD_at x j _ h1, getD_at y j _ h2, List.drop_eq_getElem_cons h1, List.drop_eq_getElem_cons h2]
    show (if ne59 x[j] y[j] = true then some false else _) = _
    by_cases c : ne59 x[j] y[j] = true
    · rw [if_pos c]; simp [scan, c]
    · rw [if_neg c, wrapS h1 hn, ih (j + 1) (by omega) (by omega) k (by omega)]; simp [scan, c]
theorem range_f (x y : List (S59)) (hn : x.length ≤ 140737488351232) (k : Nat) (hk : x.length < k) : api_Range.f k x y = some (eqR x y) := by
  unfold api_Range.f eqR
  by_cases c : x.length = y.length
  · rw [if_pos (by omega)]
    have := range_l0 x y c hn x.length 0 (by omega) (by omega) k hk
    simp only [List.drop_zero] at this
    rw [show (0 : Int) = ((0 : Nat) : Int) from rfl, this]; simp [c]
  · rw [if_neg (by omega)]; simp [c]

theorem int_l0 (x y : List Int) (hxy : x.length = y.length) (hn : x.length ≤ 140737488351232) : ∀ (d j : Nat), x.length - j = d → j ≤ x.length → ∀ k, d < k → slices_Equal_int_int.l0 k x y (x.length : Int) (j : Int) = some (scan neI (x.drop j) (y.drop j)) := by
  intro d
  induction d with
  | zero =>
    intro j hd hj k hk
    obtain ⟨k, rfl⟩ : ∃ k', k = k' + 1 := ⟨k - 1, by omega⟩
    rw [show j = x.length by omega]
    unfold slices_Equal_int_int.l0
    rw [if_neg (by omega), List.drop_length]
    simp [scan]
  | succ d ih =>
    intro j hd hj k hk
    obtain ⟨k, rfl⟩ : ∃ k', k = k' + 1 := ⟨k - 1, by omega⟩
    have h1 : j < x.length := by omega
    have h2 : j < y.length := by omega
    unfold slices_Equal_int_int.l0
    rw [if_pos (by omega), if_pos (by omega), if_pos (by omega), if_pos (by omega)]
    unfold rd
    rw [getD_at x j _ h1, getD_at y j _ h2, List.drop_eq_getElem_cons h1, List.drop_eq_getElem_cons h2]
    by_cases c : x[j] = y[j]
    · rw [if_pos c, wrapS h1 hn, ih (j + 1) (by omega) (by omega) k (by omega)]; simp [scan, neI, c]
    · rw [if_neg c]; simp [scan, neI, c]
theorem int_f (x y : List Int) (hn : x.length ≤ 140737488351232) (k : Nat) (hk : x.length < k) : slices_Equal_int_int.f k x y = some (eqI x y) := by
  unfold slices_Equal_int_int.f eqI
  by_cases c : x.length = y.length
  · rw [if_pos (by omega)]
    have := int_l0 x y c hn x.length 0 (by omega) (by omega) k hk
    simp only [List.drop_zero] at this
    rw [show (0 : Int) = ((0 : Nat) : Int) from rfl, this]; simp [c]
  · rw [if_neg (by omega)]; simp [c]

theorem ref_l0 (x y : List Int) (hxy : x.length = y.length) (hn : x.length ≤ 140737488351232) : ∀ (d j : Nat), x.length - j = d → j ≤ x.length → ∀ k, d < k → rowlockref19_Same.l0 k x y (x.length : Int) (j : Int) = some (scan neI (x.drop j) (y.drop j)) := by
  intro d
  induction d with
  | zero =>
    intro j hd hj k hk
    obtain ⟨k, rfl⟩ : ∃ k', k = k' + 1 := ⟨k - 1, by omega⟩
    rw [show j = x.length by omega]
    unfold rowlockref19_Same.l0
    rw [if_neg (by omega), List.drop_length]
    simp [scan]
  | succ d ih =>
    intro j hd hj k hk
    obtain ⟨k, rfl⟩ : ∃ k', k = k' + 1 := ⟨k - 1, by omega⟩
    have h1 : j < x.length := by omega
    have h2 : j < y.length := by omega
    unfold rowlockref19_Same.l0
    rw [if_pos (by omega), if_pos (by omega), if_pos (by omega), if_pos (by omega)]
    unfold rd
    rw [getD_at x j _ h1, getD_at y j _ h2, List.drop_eq_getElem_cons h1, List.drop_eq_getElem_cons h2]
    by_cases c : x[j] = y[j]
    · rw [if_pos c, wrapS h1 hn, ih (j + 1) (by omega) (by omega) k (by omega)]; simp [scan, neI, c]
    · rw [if_neg c]; simp [scan, neI, c]
theorem ref_f (x y : List Int) (hn : x.length ≤ 140737488351232) (k : Nat) (hk : x.length < k) : rowlockref19_Same.f k x y = some (eqI x y) := by
  unfold rowlockref19_Same.f eqI
  by_cases c : x.length = y.length
  · rw [if_pos (by omega)]
    have := ref_l0 x y c hn x.length 0 (by omega) (by omega) k hk
    simp only [List.drop_zero] at this
    rw [show (0 : Int) = ((0 : Nat) : Int) from rfl, this]; simp [c]
  · rw [if_neg (by omega)]; simp [c]

/-! ### the same path? -/
def sameB (a0 a1 : Int) (l2 : List (S59)) (l3 : List Int) (a4 : Int) (l5 : List (S59)) (l6 : List Int) (b0 b1 : Int) (m2 : List (S59)) (m3 : List Int) (b4 : Int) (m5 : List (S59)) (m6 : List Int) : Bool :=
  decide (a0 = b0) && decide (a1 = b1) && decide (a4 = b4) && eqR l2 m2 && eqR l5 m5 && eqI l3 m3 && eqI l6 m6
section
variable (a0 a1 : Int) (l2 : List (S59)) (l3 : List Int) (a4 : Int) (l5 : List (S59)) (l6 : List Int) (b0 b1 : Int) (m2 : List (S59)) (m3 : List Int) (b4 : Int) (m5 : List (S59)) (m6 : List Int)
  (hn : l2.length ≤ 300 ∧ l3.length ≤ 300 ∧ l5.length ≤ 300 ∧ l6.length ≤ 300)
include hn
theorem same_f : paths_Same.f 400 a0 a1 l2 l3 a4 l5 l6 b0 b1 m2 m3 b4 m5 m6 = some (sameB a0 a1 l2 l3 a4 l5 l6 b0 b1 m2 m3 b4 m5 m6) := by
  obtain ⟨h2, h3, h5, h6⟩ := hn
  unfold paths_Same.f sameB
  rw [range_f l2 m2 (by omega) 400 (by omega), range_f l5 m5 (by omega) 400 (by omega), int_f l3 m3 (by omega) 400 (by omega), int_f l6 m6 (by omega) 400 (by omega)]
  simp only [Option.bind_some]
  by_cases c0 : a0 = b0 <;> by_cases c1 : a1 = b1 <;> by_cases c4 : a4 = b4 <;> cases eqR l2 m2 <;> cases eqR l5 m5 <;> cases eqI l3 m3 <;> cases eqI l6 m6 <;> simp [c0, c1, c4]
theorem like_f : rowlockref22_Like.f 1000 a0 a1 l2 l3 a4 l5 l6 b0 b1 m2 m3 b4 m5 m6 = some (decide (a0 = b0) && decide (a1 = b1) && decide (a4 = b4) && eqI l3 m3 && eqI l6 m6) := by
  obtain ⟨h2, h3, h5, h6⟩ := hn
  unfold rowlockref22_Like.f
  rw [ref_f l3 m3 (by omega) 1000 (by omega), ref_f l6 m6 (by omega) 1000 (by omega)]
  simp only [Option.bind_some]
  by_cases c0 : a0 = b0 <;> by_cases c1 : a1 = b1 <;> by_cases c4 : a4 = b4 <;> cases eqI l3 m3 <;> cases eqI l6 m6 <;> simp [c0, c1, c4]
theorem refSame_l1 (h : l5.length = m5.length) : ∀ (d j : Nat), l5.length - j = d → j ≤ l5.length → ∀ k, d < k → rowlockref22_Same.l1 k (l5.length : Int) (j : Int) a0 a1 l2 l3 a4 l5 l6 b0 b1 m2 m3 b4 m5 m6 = some (scan ne59 (l5.drop j) (m5.drop j)) := by
  intro d
  induction d with
  | zero =>
    intro j hd hj k hk
    obtain ⟨k, rfl⟩ : ∃ k', k = k' + 1 := ⟨k - 1, by omega⟩
    rw [show j = l5.length by omega]
    unfold rowlockref22_Same.l1
    rw [if_neg (by omega), List.drop_length]
    simp [scan]
  | succ d ih =>
    intro j hd hj k hk
    obtain ⟨k, rfl⟩ : ∃ k', k = k' + 1 := ⟨k - 1, by omega⟩
    have h1 : j < l5.length := by omega
    have h2 : j < m5.length := by omega
    unfold rowlockref22_Same.l1
    rw [if_pos (by omega), if_pos (by omega), if_pos (by omega), if_pos (by omega)]
    unfold rd_T59
    rw [getD_at l5 j _ h1, getD_at m5 j _ h2, List.drop_eq_getElem_cons h1, List.drop_eq_getElem_cons h2]
    show (if ne59 l5[j] m5[j] = true then some false else _) = _
    by_cases c : ne59 l5[j] m5[j] = true
    · rw [if_pos c]; simp [scan, c]
    · rw [if_neg c, wrapS h1 (by omega), ih (j + 1) (by omega) (by omega) k (by omega)]; simp [scan, c]
theorem refSame_l0 (h' : l2.length = m2.length) (h : l5.length = m5.length) : ∀ (d j : Nat), l2.length - j = d → j ≤ l2.length → ∀ k, d + 302 < k → rowlockref22_Same.l0 k (l2.length : Int) (j : Int) a0 a1 l2 l3 a4 l5 l6 b0 b1 m2 m3 b4 m5 m6 = some (scan ne59 (l2.drop j) (m2.drop j) && scan ne59 l5 m5) := by
  intro d
  induction d with
  | zero =>
    intro j hd hj k hk
    obtain ⟨k, rfl⟩ : ∃ k', k = k' + 1 := ⟨k - 1, by omega⟩
    rw [show j = l2.length by omega]
    unfold rowlockref22_Same.l0
    rw [if_neg (by omega), List.drop_length]
    have := refSame_l1 a0 a1 l2 l3 a4 l5 l6 b0 b1 m2 m3 b4 m5 m6 hn h l5.length 0 (by omega) (by omega) k (by omega)
    simp only [List.drop_zero] at this
    rw [show (0 : Int) = ((0 : Nat) : Int) from rfl, this]
    simp [scan]
  | succ d ih =>
    intro j hd hj k hk
    obtain ⟨k, rfl⟩ : ∃ k', k = k' + 1 := ⟨k - 1, by omega⟩
    have h1 : j < l2.length := by omega
    have h2 : j < m2.length := by omega
    unfold rowlockref22_Same.l0
    rw [if_pos (by omega), if_pos (by omega), if_pos (by omega), if_pos (by omega)]
    unfold rd_T59
    rw [getD_at l2 j _ h1, getD_at m2 j _ h2, List.drop_eq_getElem_cons h1, List.drop_eq_getElem_cons h2]
    show (if ne59 l2[j] m2[j] = true then some false else _) = _
    by_cases c : ne59 l2[j] m2[j] = true
    · rw [if_pos c]; simp [scan, c]
    · rw [if_neg c, wrapS h1 (by omega), ih (j + 1) (by omega) (by omega) k (by omega)]; simp [scan, c]
theorem refSame_f : rowlockref22_Same.f 1000 a0 a1 l2 l3 a4 l5 l6 b0 b1 m2 m3 b4 m5 m6 = some (sameB a0 a1 l2 l3 a4 l5 l6 b0 b1 m2 m3 b4 m5 m6) := by
  have hL := like_f a0 a1 l2 l3 a4 l5 l6 b0 b1 m2 m3 b4 m5 m6 hn
  unfold rowlockref22_Same.f
  rw [hL]
  simp only [Option.bind_some]
  have j1 : ∀ b : Bool, rowlockref22_Same.j0 1000 true a0 a1 l2 l3 a4 l5 l6 b0 b1 m2 m3 b4 m5 m6 = some false := fun _ => by
    unfold rowlockref22_Same.j0; simp
  unfold sameB eqR
  by_cases h2 : l2.length = m2.length
  · by_cases h5 : l5.length = m5.length
    · have h0 := refSame_l0 a0 a1 l2 l3 a4 l5 l6 b0 b1 m2 m3 b4 m5 m6 hn h2 h5 l2.length 0 (by omega) (by omega) 999 (by omega)
      have j0 : rowlockref22_Same.j0 1000 ((l5.length : Int) != (m5.length : Int)) a0 a1 l2 l3 a4 l5 l6 b0 b1 m2 m3 b4 m5 m6 = some (scan ne59 l2 m2 && scan ne59 l5 m5) := by
        unfold rowlockref22_Same.j0
        rw [h5]
        simp only [List.drop_zero] at h0
        simp only [bne_self_eq_false, Bool.false_eq_true, if_false]
        rw [show (0 : Int) = ((0 : Nat) : Int) from rfl, h0]
      rw [if_pos (by omega : (l2.length : Int) = (m2.length : Int)), j0, j1 true]
      by_cases c0 : a0 = b0 <;> by_cases c1 : a1 = b1 <;> by_cases c4 : a4 = b4 <;> cases scan ne59 l2 m2 <;> cases scan ne59 l5 m5 <;> cases eqI l3 m3 <;> cases eqI l6 m6 <;> simp [c0, c1, c4, h2, h5]
    · rw [if_pos (by omega : (l2.length : Int) = (m2.length : Int)), show ((l5.length : Int) != (m5.length : Int)) = true from bne_iff_ne.2 (by omega), j1 true]
      simp [h5]
  · rw [if_neg (by omega : ¬ (l2.length : Int) = (m2.length : Int)), j1 true]
    simp [h2]
omit hn in
theorem same_self : sameB a0 a1 l2 l3 a4 l5 l6 a0 a1 l2 l3 a4 l5 l6 = true := by simp [sameB, eqR_self, eqI_self]
end

/-! ### among -/
theorem has_nil (k : Nat) (a0 a1 : Int) (l2 : List (S59)) (l3 : List Int) (a4 : Int) (l5 : List (S59)) (l6 : List Int) : paths_Has.f k [] a0 a1 l2 l3 a4 l5 l6 = some false := rfl
theorem has_two (q p : S40) (hp : p.f2.length ≤ 300 ∧ p.f3.length ≤ 300 ∧ p.f5.length ≤ 300 ∧ p.f6.length ≤ 300) : paths_Has.f 400 [q, p] p.f0 p.f1 p.f2 p.f3 p.f4 p.f5 p.f6 = some true := by
  unfold paths_Has.f anyO anyO anyO
  simp only [same_f _ _ _ _ _ _ _ _ _ _ _ _ _ _ hp, same_self, Option.bind_some]
  simp

/-! ### how great a book is: an answer comes -/
theorem great_l2 (b0 : List (S91)) (b1 : List (S71)) (hn : b1.length ≤ 140737488351232) : ∀ (d j : Nat), b1.length - j = d → j ≤ b1.length → ∀ x3, ∃ k g, rowlockref12_Great.l2 k x3 (b1.length : Int) (j : Int) b0 b1 = some g := by
  intro d
  induction d with
  | zero =>
    intro j hd hj x3
    refine ⟨1, ?_⟩
    unfold rowlockref12_Great.l2
    rw [if_neg (by omega)]
    exact ⟨_, rfl⟩
  | succ d ih =>
    intro j hd hj x3
    obtain ⟨k, g, h⟩ := ih (j + 1) (by omega) (by omega) (wrap64 (x3 + (((1 + (mn (((rd_T71 b1 j).f0).size : Int) 3000)) + (mn (((rd_T71 b1 j).f2).length : Int) 3000)) + (mn (((rd_T71 b1 j).f6).length : Int) 3000))))
    refine ⟨k + 1, ?_⟩
    unfold rowlockref12_Great.l2
    rw [if_pos (by omega), if_pos (by omega), if_pos (by omega), wrapS (n := b1.length) (by omega) hn, h]
    split
    · exact ⟨_, rfl⟩
    · exact ⟨_, rfl⟩
theorem great_l1 (b0 : List (S91)) (b1 : List (S71)) (i : Nat) (hi : i < b0.length) (hn : ((rd_T91 b0 i).f1).length ≤ 140737488351232)
    (H : ∀ x3, ∃ k g, rowlockref12_Great.l0 k x3 (b0.length : Int) (wrap64 ((i : Int) + 1)) b0 b1 = some g) :
    ∀ (d j : Nat), ((rd_T91 b0 i).f1).length - j = d → j ≤ ((rd_T91 b0 i).f1).length → ∀ x3, ∃ k g, rowlockref12_Great.l1 k x3 (i : Int) (b0.length : Int) (i : Int) (((rd_T91 b0 i).f1).length : Int) (j : Int) b0 b1 = some g := by
  intro d
  induction d with
  | zero =>
    intro j hd hj x3
    obtain ⟨k, g, h⟩ := H x3
    refine ⟨k + 1, g, ?_⟩
    unfold rowlockref12_Great.l1
    rw [if_neg (by omega)]
    exact h
  | succ d ih =>
    intro j hd hj x3
    obtain ⟨k, g, h⟩ := ih (j + 1) (by omega) (by omega) (wrap64 (x3 + (1 + (mn (((rd_T88 ((rd_T91 b0 i).f1) j).f0).size : Int) 3000))))
    refine ⟨k + 1, ?_⟩
    unfold rowlockref12_Great.l1
    rw [if_pos (by omega), if_pos (by omega), if_pos (by omega), if_pos (by omega), if_pos (by omega), wrapS (n := ((rd_T91 b0 i).f1).length) (by omega) hn, h]
    split
    · exact ⟨_, rfl⟩
    · exact ⟨_, rfl⟩
theorem great_l0 (b0 : List (S91)) (b1 : List (S71)) (hn : b0.length ≤ 140737488351232) (hn1 : b1.length ≤ 140737488351232) (hc : ∀ i : Nat, i < b0.length → ((rd_T91 b0 i).f1).length ≤ 140737488351232) :
    ∀ (d i : Nat), b0.length - i = d → i ≤ b0.length → ∀ x3, ∃ k g, rowlockref12_Great.l0 k x3 (b0.length : Int) (i : Int) b0 b1 = some g := by
  intro d
  induction d with
  | zero =>
    intro i hd hi x3
    obtain ⟨k, g, h⟩ := great_l2 b0 b1 hn1 b1.length 0 (by omega) (by omega) x3
    refine ⟨k + 1, g, ?_⟩
    unfold rowlockref12_Great.l0
    rw [if_neg (by omega)]
    exact h
  | succ d ih =>
    intro i hd hi x3
    have H : ∀ x3, ∃ k g, rowlockref12_Great.l0 k x3 (b0.length : Int) (wrap64 ((i : Int) + 1)) b0 b1 = some g := fun x3 => by
      rw [wrapS (n := b0.length) (by omega) hn]
      exact ih (i + 1) (by omega) (by omega) x3
    obtain ⟨k, g, h⟩ := great_l1 b0 b1 i (by omega) (hc i (by omega)) H _ 0 rfl (by omega) (wrap64 (x3 + (1 + (mn (((rd_T91 b0 i).f0).size : Int) 3000))))
    refine ⟨k + 1, g, ?_⟩
    unfold rowlockref12_Great.l0
    rw [if_pos (by omega), if_pos (by omega), if_pos (by omega)]
    exact h
theorem great_f (b0 : List (S91)) (b1 : List (S71)) (hn : b0.length ≤ 140737488351232) (hn1 : b1.length ≤ 140737488351232) (hc : ∀ i : Nat, i < b0.length → ((rd_T91 b0 i).f1).length ≤ 140737488351232) :
    ∃ k g, rowlockref12_Great.f k b0 b1 = some g := by
  obtain ⟨k, g, h⟩ := great_l0 b0 b1 hn hn1 hc _ 0 rfl (by omega) 0
  exact ⟨k, g, h⟩
end PathsPure
end Go.Proofs.YtilkoiilednekaaGreatDoor
