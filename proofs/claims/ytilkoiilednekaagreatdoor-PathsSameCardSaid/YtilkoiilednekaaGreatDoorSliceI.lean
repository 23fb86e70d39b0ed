/- slices.Clone, Sort and Compact at whole numbers, as the print wants them. -/
import Derived.Test.YtilkoiilednekaaGreatDoorShelfI
import Derived.Test.YtilkoiilednekaaGreatDoorWMore
import Derived.Sort.OwnSortedInts
set_option linter.unusedVariables false
set_option linter.unusedSimpArgs false
namespace Go.Proofs.YtilkoiilednekaaGreatDoor
namespace SliceI
open Go.RowKit Go.Proofs.YtilkoiilednekaaGreatDoorW.PrintWords

theorem at_plain {W : World} {ad : Addr} {j : Nat} {v : Value} (h : W.cell? (ad.add j) = some v) : ad.spot = none ∨ j ≠ 0 := by
  by_cases hj : j = 0
  · left
    subst hj
    have : ad.add 0 = ad := by simp [Addr.add]
    rw [this] at h
    unfold World.cell? at h
    cases hs : ad.spot with
    | none => rfl
    | some x =>
      rw [hs] at h
      split at h <;> simp at h
  · exact .inr hj

theorem Clone_calls (A0 : Option Addr) (c0 : Nat) (l0 : List Int) (w : World) (hr0 : Kd.C (Kd.int .i64) w A0 l0.length l0) (hb : l0.length * 8 ≤ 140737488355328) :
    Calls Tryz.prog 72 #[.slice A0 l0.length c0] w fun e w' => ∃ v0_ : Value, e = .returned (v0_) ∧ Kd.R (Kd.int .i64) 3 w' w.heap.size (fun _ => True) v0_ l0 ∧ Below w.heap.size w w' := by
  obtain ⟨_, hm, hcell⟩ := hr0
  cases A0 with
  | none =>
    obtain rfl : l0 = [] := by
      cases l0 with
      | nil => rfl
      | cons x l => obtain ⟨ad, e, _⟩ := hcell (by simp); cases e
    refine (Tryz.slices_Clone_int_nil _ c0 w).mono ?_
    rintro e w' ⟨rfl, rfl⟩
    exact ⟨_, rfl, Kd.R_nil _ _ _ _ _, Below.refl _ _⟩
  | some a =>
    by_cases h0 : l0 = []
    · subst h0
      refine (Tryz.slices_Clone_int_zero a c0 w).mono ?_
      rintro e w' ⟨v, rfl, ho, _, hbw⟩
      exact ⟨v, rfl, Kd.R_of_own (by simpa [encs] using ho) (fun _ _ => trivial), hbw⟩
    · have hl : 0 < l0.length := by cases l0 with | nil => exact absurd rfl h0 | cons _ _ => simp
      obtain ⟨ad, e, hc⟩ := hcell hl
      cases e
      have hcc : ∀ j, j < l0.length → w.cell? (a.add j) = some (.int .i64 (l0.getD j 0)) := fun j hj => by
        obtain ⟨c, hcl, hk, hcu⟩ := hc j (l0.getD j 0) (by rw [List.getD_eq_getElem?_getD, List.getElem?_eq_getElem hj]; rfl)
        have hk' : c = [.int .i64 (l0.getD j 0)] := hk
        have := hcu 0 (.int .i64 (l0.getD j 0)) (by rw [hk']; rfl)
        have hz : (Kd.int .i64).sz = 1 := rfl
        rw [hz, Nat.mul_one, Nat.add_zero] at this
        exact this
      have hs : a.spot = none := (at_plain (hcc 0 hl)).resolve_right (fun h => h rfl)
      obtain ⟨b, off, sp⟩ := a
      obtain rfl : sp = none := hs
      refine (Tryz.slices_Clone_int b off l0.length c0 l0 w (Nat.le_refl _) hb (fun j hj => by
        have := hcc j hj
        rw [← this]
        congr 1
        unfold Addr.add; split <;> simp_all)).mono ?_
      rintro e w' ⟨v, rfl, ho, _, hbw⟩
      exact ⟨v, rfl, Kd.R_of_own (by simpa [encs] using ho) (fun _ _ => trivial), hbw⟩

theorem compact_len : ∀ l : List Int, (Lib.compact l).length ≤ l.length := by
  intro l
  unfold Lib.compact Lib.compactUpTo
  rw [List.length_map]
  exact Nat.le_trans (List.length_filter_le _ _) (by simp)

/-- A row of whole numbers, put back into its block: its list is another, nothing else has turned. -/
theorem Sort_calls (P0_ : Nat → Prop) (u : Value) (l0 : List Int) (w0 w : World) (hB : Below w0.heap.size w0 w) (ho0 : Kd.R (Kd.int .i64) 3 w w0.heap.size P0_ u l0) (hsz : l0.length < 4611686018427387904) :
    Calls Tryz.prog 73 #[u] w fun e w' => e = .returned (.tuple #[]) ∧ Kd.R (Kd.int .i64) 3 w' w0.heap.size (fun k_ => (P0_ k_ ∨ w.heap.size ≤ k_)) u (l0.mergeSort fun x y => decide (x ≤ y)) ∧ Below w0.heap.size w0 w' ∧ Kept w w' (fun k_ => P0_ k_) := by
  have hown : w.ownsRow w0.heap.size 3 1 u l0.length (l0.map (Value.int .i64)) := by simpa [encs] using Kd.own_of_R ho0
  rcases hown.2 with ⟨rfl, hnil⟩ | ⟨g, cap, cur, rfl, hbase, hb, h1, h2, h3, h4⟩
  · obtain rfl : l0 = [] := List.eq_nil_of_length_eq_zero hnil
    refine (Tryz.slices_Sort_int_none _ _ w).mono ?_
    rintro e w' ⟨rfl, rfl⟩
    exact ⟨rfl, by rw [List.mergeSort_nil]; exact Kd.R_nil _ _ _ _ _, hB, Kept.refl _ _⟩
  · have hP : P0_ g := ho0.1 g rfl
    have h4' : cur.toList.take l0.length = l0.map (Value.int .i64) := by simpa using h4
    have hlen : (l0.mergeSort fun x y => decide (x ≤ y)).length = l0.length := List.length_mergeSort _
    refine (Tryz.slices_Sort_int g 0 cap l0 w (holds_of_blockI hb h4') (Array.getElem?_eq_some_iff.1 hb).1 hsz).mono ?_
    rintro e w' ⟨rfl, nn, os, rfl⟩
    have hg := grownBy_sortedI (w := w) (g := g) (n := nn) (os := os) (l0.mergeSort fun x y => decide (x ≤ y)).toArray
    refine ⟨rfl, ?_, hB.grown hg hB.size (fun j hj => by cases hj; exact hbase), Kept.of_grown hg (Kept.refl _ _) (fun k hk => by cases hk; exact .inl hP)⟩
    refine Kd.R_of_own ?_ (fun k hk => ?_)
    · have := ownsRow_sortedI (os := os) (n := nn) hlen hbase hb h1 h2 h3
      simpa [encs, hlen] using this
    · have : g = k := by simpa [Value.ownBlock] using hk
      subst this; exact .inl hP

theorem Compact_calls (P0_ : Nat → Prop) (u : Value) (l0 : List Int) (w0 w : World) (hB : Below w0.heap.size w0 w) (ho0 : Kd.R (Kd.int .i64) 3 w w0.heap.size P0_ u l0) :
    Calls Tryz.prog 74 #[u] w fun e w' => ∃ v0_ : Value, e = .returned (v0_) ∧ Kd.R (Kd.int .i64) 3 w' w0.heap.size (fun k_ => (P0_ k_ ∨ w.heap.size ≤ k_)) v0_ (Lib.compact l0) ∧ Below w0.heap.size w0 w' ∧ Kept w w' (fun k_ => P0_ k_) := by
  have hown : w.ownsRow w0.heap.size 3 1 u l0.length (l0.map (Value.int .i64)) := by simpa [encs] using Kd.own_of_R ho0
  rcases hown.2 with ⟨rfl, hnil⟩ | ⟨g, cap, cur, rfl, hbase, hb, h1, h2, h3, h4⟩
  · obtain rfl : l0 = [] := List.eq_nil_of_length_eq_zero hnil
    refine (Tryz.slices_Compact_int_empty _ _ w).mono ?_
    rintro e w' ⟨rfl, rfl⟩
    exact ⟨_, rfl, Kd.R_nil _ _ _ _ _, hB, Kept.refl _ _⟩
  · have hP : P0_ g := ho0.1 g rfl
    have h4' : cur.toList.take l0.length = l0.map (Value.int .i64) := by simpa using h4
    have hcl : (Lib.compact l0).length ≤ l0.length := compact_len l0
    refine (Tryz.slices_Compact_int g 0 cap l0 w (holds_of_blockI hb h4') (by unfold maxLen at h2; omega) h1).mono ?_
    rintro e w' ⟨rfl, q, rfl⟩
    obtain ⟨ts, hts⟩ : ∃ ts, ts = Lib.compact l0 ++ List.replicate (l0.length - (Lib.compact l0).length) 0 := ⟨_, rfl⟩
    rw [← hts]
    have htl : ts.length = l0.length := by rw [hts]; simp; omega
    have hg := grownBy_sortedI (w := w) (g := g) (n := q) (os := #[]) ts.toArray
    have ho := ownsRow_sortedI (os := #[]) (n := q) htl hbase hb h1 h2 h3
    rw [Go.Sort.grow_empty] at hg ho
    refine ⟨_, rfl, ?_, hB.grown hg hB.size (fun j hj => by cases hj; exact hbase), Kept.of_grown hg (Kept.refl _ _) (fun k hk => by cases hk; exact .inl hP)⟩
    refine Kd.R_of_own ?_ (fun k hk => ?_)
    · have := own_take ho hcl
      have htake : ts.take (Lib.compact l0).length = Lib.compact l0 := by rw [hts]; exact List.take_left' rfl
      rw [Nat.mul_one, ← List.map_take, htake] at this
      simpa [encs] using this
    · have : g = k := by simpa [Value.ownBlock] using hk
      subst this; exact .inl hP
end SliceI
end Go.Proofs.YtilkoiilednekaaGreatDoor
