-- Written by a program of this session (hyb.py) over the translation.
import Derived.Test.YtilkoiilednekaaGreatDoorPHPathx0
namespace Go.Proofs.YtilkoiilednekaaGreatDoor.PHPath
open Go.RowKit Go.Proofs.YtilkoiilednekaaGreatDoorW.PrintWords Go.Proofs.YtilkoiilednekaaGreatDoorW.PrintLast Go.Proofs.YtilkoiilednekaaGreatDoorW.PrintMore
attribute [local go_sem] max2_int min2_int max_two min_two max_three min_three max_four min_four   -- for this text's walks alone
attribute [local go_sem] Go.Proofs.YtilkoiilednekaaGreatDoor.isSome_setCell
set_option linter.unusedVariables false
set_option linter.unusedSimpArgs false

/-! ### rowlockref12_Great: function 25 -/
mutual
def rowlockref12_Great.l0 : Nat → Int → Int → Int → List (S91) → List (S71) → Option (Bool)
  | 0, _, _, _, _, _ => none
  | k + 1, x3, x9, x10, x102000, x102001 => if x10 < x9 then (if 0 ≤ x10 then (if x10 < (x102000.length : Int) then (rowlockref12_Great.l1 k (wrap64 (x3 + (1 + (mn (((rd_T91 x102000 x10).f0).size : Int) 3000)))) x10 x9 x10 (((rd_T91 x102000 x10).f1).length : Int) 0 x102000 x102001) else (none)) else (none)) else (rowlockref12_Great.l2 k x3 (x102001.length : Int) 0 x102000 x102001)
def rowlockref12_Great.l1 : Nat → Int → Int → Int → Int → Int → Int → List (S91) → List (S71) → Option (Bool)
  | 0, _, _, _, _, _, _, _, _ => none
  | k + 1, x3, x4, x9, x10, x30, x31, x102000, x102001 => if x31 < x30 then (if 0 ≤ x4 then (if x4 < (x102000.length : Int) then (if 0 ≤ x31 then (if x31 < (((rd_T91 x102000 x4).f1).length : Int) then (if (wrap64 (x3 + (1 + (mn (((rd_T88 ((rd_T91 x102000 x4).f1) x31).f0).size : Int) 3000)))) > 3000 then (some true) else (rowlockref12_Great.l1 k (wrap64 (x3 + (1 + (mn (((rd_T88 ((rd_T91 x102000 x4).f1) x31).f0).size : Int) 3000)))) x4 x9 x10 x30 (wrap64 (x31 + 1)) x102000 x102001)) else (none)) else (none)) else (none)) else (none)) else (rowlockref12_Great.l0 k x3 x9 (wrap64 (x10 + 1)) x102000 x102001)
def rowlockref12_Great.l2 : Nat → Int → Int → Int → List (S91) → List (S71) → Option (Bool)
  | 0, _, _, _, _, _ => none
  | k + 1, x3, x55, x56, x102000, x102001 => if x56 < x55 then (if 0 ≤ x56 then (if x56 < (x102001.length : Int) then (if (wrap64 (x3 + (((1 + (mn (((rd_T71 x102001 x56).f0).size : Int) 3000)) + (mn (((rd_T71 x102001 x56).f2).length : Int) 3000)) + (mn (((rd_T71 x102001 x56).f6).length : Int) 3000)))) > 6000 then (some true) else (rowlockref12_Great.l2 k (wrap64 (x3 + (((1 + (mn (((rd_T71 x102001 x56).f0).size : Int) 3000)) + (mn (((rd_T71 x102001 x56).f2).length : Int) 3000)) + (mn (((rd_T71 x102001 x56).f6).length : Int) 3000)))) x55 (wrap64 (x56 + 1)) x102000 x102001)) else (none)) else (none)) else (some (decide (x3 > 6000)))
end
def rowlockref12_Great.f (k : Nat) (l0_0 : List (S91)) (l0_1 : List (S71)) : Option (Bool) := rowlockref12_Great.l0 k 0 (l0_0.length : Int) 0 l0_0 l0_1
theorem rowlockref12_Great.mono_l : ∀ k, (∀ y0 y1 y2 y3 y4, LeO (rowlockref12_Great.l0 k y0 y1 y2 y3 y4) (rowlockref12_Great.l0 (k + 1) y0 y1 y2 y3 y4)) ∧ (∀ y0 y1 y2 y3 y4 y5 y6 y7, LeO (rowlockref12_Great.l1 k y0 y1 y2 y3 y4 y5 y6 y7) (rowlockref12_Great.l1 (k + 1) y0 y1 y2 y3 y4 y5 y6 y7)) ∧ (∀ y0 y1 y2 y3 y4, LeO (rowlockref12_Great.l2 k y0 y1 y2 y3 y4) (rowlockref12_Great.l2 (k + 1) y0 y1 y2 y3 y4))
  | 0 => ⟨fun _ _ _ _ _ r h => by simp [rowlockref12_Great.l0] at h, fun _ _ _ _ _ _ _ _ r h => by simp [rowlockref12_Great.l1] at h, fun _ _ _ _ _ r h => by simp [rowlockref12_Great.l2] at h⟩
  | k + 1 => by
    obtain ⟨ih0, ih1, ih2⟩ := rowlockref12_Great.mono_l k
    refine ⟨?_, ?_, ?_⟩
    · intro y0 y1 y2 y3 y4
      unfold rowlockref12_Great.l0
      repeat' first
      | (with_reducible exact ih0 _ _ _ _ _)
      | (with_reducible exact ih1 _ _ _ _ _ _ _ _)
      | (with_reducible exact ih2 _ _ _ _ _)
      | (with_reducible exact LeO.refl _)
      | (with_reducible exact LeO.none _)
      | (with_reducible refine LeO.ite ?_ ?_)
      | (with_reducible refine LeO.bind ?_ (fun _ => ?_))
      | exact ih0 _ _ _ _ _
      | exact ih1 _ _ _ _ _ _ _ _
      | exact ih2 _ _ _ _ _
      | exact LeO.none _
      | refine LeO.ite ?_ ?_
      | refine LeO.bind ?_ (fun _ => ?_)
    · intro y0 y1 y2 y3 y4 y5 y6 y7
      unfold rowlockref12_Great.l1
      repeat' first
      | (with_reducible exact ih0 _ _ _ _ _)
      | (with_reducible exact ih1 _ _ _ _ _ _ _ _)
      | (with_reducible exact ih2 _ _ _ _ _)
      | (with_reducible exact LeO.refl _)
      | (with_reducible exact LeO.none _)
      | (with_reducible refine LeO.ite ?_ ?_)
      | (with_reducible refine LeO.bind ?_ (fun _ => ?_))
      | exact ih0 _ _ _ _ _
      | exact ih1 _ _ _ _ _ _ _ _
      | exact ih2 _ _ _ _ _
      | exact LeO.none _
      | refine LeO.ite ?_ ?_
      | refine LeO.bind ?_ (fun _ => ?_)
    · intro y0 y1 y2 y3 y4
      unfold rowlockref12_Great.l2
      repeat' first
      | (with_reducible exact ih0 _ _ _ _ _)
      | (with_reducible exact ih1 _ _ _ _ _ _ _ _)
      | (with_reducible exact ih2 _ _ _ _ _)
      | (with_reducible exact LeO.refl _)
      | (with_reducible exact LeO.none _)
      | (with_reducible refine LeO.ite ?_ ?_)
      | (with_reducible refine LeO.bind ?_ (fun _ => ?_))
      | exact ih0 _ _ _ _ _
      | exact ih1 _ _ _ _ _ _ _ _
      | exact ih2 _ _ _ _ _
      | exact LeO.none _
      | refine LeO.ite ?_ ?_
      | refine LeO.bind ?_ (fun _ => ?_)
theorem rowlockref12_Great.mono : ∀ a0 a1 k, LeO (rowlockref12_Great.f k a0 a1) (rowlockref12_Great.f (k + 1) a0 a1) := by
  intro a0 a1 k
  obtain ⟨ih0, ih1, ih2⟩ := rowlockref12_Great.mono_l k
  unfold rowlockref12_Great.f
  repeat' first
      | (with_reducible exact ih0 _ _ _ _ _)
      | (with_reducible exact ih1 _ _ _ _ _ _ _ _)
      | (with_reducible exact ih2 _ _ _ _ _)
      | (with_reducible exact LeO.refl _)
      | (with_reducible exact LeO.none _)
      | (with_reducible refine LeO.ite ?_ ?_)
      | (with_reducible refine LeO.bind ?_ (fun _ => ?_))
      | exact ih0 _ _ _ _ _
      | exact ih1 _ _ _ _ _ _ _ _
      | exact ih2 _ _ _ _ _
      | exact LeO.none _
      | refine LeO.ite ?_ ?_
      | refine LeO.bind ?_ (fun _ => ?_)
set_option maxHeartbeats 8000000 in
set_option maxRecDepth 100000 in
theorem rowlockref12_Great.calls (k : Nat) (A0_0 : Option Addr) (c0_0 : Nat) (l0_0 : List (S91)) (A0_1 : Option Addr) (c0_1 : Nat) (l0_1 : List (S71)) (r : Bool) (w : World) (hr0_0 : Kd.C k91 w A0_0 l0_0.length l0_0) (hc0_0 : l0_0.length ≤ c0_0) (hr0_1 : Kd.C k71 w A0_1 l0_1.length l0_1) (hc0_1 : l0_1.length ≤ c0_1) (h : rowlockref12_Great.f k l0_0 l0_1 = some r) :
    Calls Tryz.prog 25 #[.agg #[.slice A0_0 l0_0.length c0_0, .slice A0_1 l0_1.length c0_1]] w fun e w' => e = .returned (.bool r) ∧ Below w.heap.size w w' := by
  have hu25 := Tryz.underlying25
  have HR0_0 := Aside0.mk hr0_0
  have HC0_0 := Aside0.mk hc0_0
  clear hr0_0 hc0_0
  have HR0_1 := Aside0.mk hr0_1
  have HC0_1 := Aside0.mk hc0_1
  clear hr0_1 hc0_1
  have HB := Aside0.mk (Below.refl w.heap.size w)
  have H : (rowlockref12_Great.l0 k 0 (l0_0.length : Int) 0 l0_0 l0_1) = some r := h
  clear h
  have H' := Aside0.mk H
  clear H
  go_enter Tryz.func25, Tryz.ntmps25
  go_wp2_with (first | ((with_reducible refine gate_dst (N := 1) rfl ?_); refine box_event ?hg (N := 1) ?hd (cs := #[.slice A0_0 l0_0.length c0_0, .slice A0_1 l0_1.length c0_1]) (t := 25) ?hr ?_; (case hd => rfl); (case hg => rfl); (case hr => first | (go_simp; done) | (go_simp; rfl)); intro gb101 hg w2 hbox hb; have n0_ := Aside0.mk (below_step (by repeat (first | (with_reducible first | exact HB.out | apply below_alloc | apply pw_below_drewN | apply below_drew1) | exact HB.out)) hb); have n1_ := Aside0.mk (hbox); have n2_ := Aside0.mk ((by rw [hg]; exact (below_size (by repeat (first | (with_reducible first | exact HB.out | apply below_alloc | apply pw_below_drewN | apply below_drew1) | exact HB.out))) : w.heap.size ≤ gb101)); have n3_ := Aside0.mk ((by rw [hg]; exact (below_size (by repeat (first | (with_reducible first | exact HB.out | apply below_alloc | apply pw_below_drewN | apply below_drew1) | exact HB.out))) : w.heap.size ≤ gb101)); clear HB; have HB := n0_; have BK101 := n1_; have GW101 := n2_; have GE101 := n3_; clear n0_ n1_ n2_ n3_; clear hb hbox hg; have hcz3_0 : w2.cell? ⟨gb101, 0, none⟩ = some (.slice A0_0 l0_0.length c0_0) := (blk_cell BK101.out 0).trans rfl; have hcz3_1 : w2.cell? ⟨gb101, 1, none⟩ = some (.slice A0_1 l0_1.length c0_1) := (blk_cell BK101.out 1).trans rfl; have hfz3_0 := blk_frozen BK101.out 0; have hfz3_1 := blk_frozen BK101.out 1))
  repeat (go_quiet (first | ((with_reducible refine gate_dst (N := 1) rfl ?_); refine box_event ?hg (N := 1) ?hd (cs := #[.slice A0_0 l0_0.length c0_0, .slice A0_1 l0_1.length c0_1]) (t := 25) ?hr ?_; (case hd => rfl); (case hg => rfl); (case hr => first | (go_simp; done) | (go_simp; rfl)); intro gb101 hg w2 hbox hb; have n0_ := Aside0.mk (below_step (by repeat (first | (with_reducible first | exact HB.out | apply below_alloc | apply pw_below_drewN | apply below_drew1) | exact HB.out)) hb); have n1_ := Aside0.mk (hbox); have n2_ := Aside0.mk ((by rw [hg]; exact (below_size (by repeat (first | (with_reducible first | exact HB.out | apply below_alloc | apply pw_below_drewN | apply below_drew1) | exact HB.out))) : w.heap.size ≤ gb101)); have n3_ := Aside0.mk ((by rw [hg]; exact (below_size (by repeat (first | (with_reducible first | exact HB.out | apply below_alloc | apply pw_below_drewN | apply below_drew1) | exact HB.out))) : w.heap.size ≤ gb101)); clear HB; have HB := n0_; have BK101 := n1_; have GW101 := n2_; have GE101 := n3_; clear n0_ n1_ n2_ n3_; clear hb hbox hg; have hcz3_0 : w2.cell? ⟨gb101, 0, none⟩ = some (.slice A0_0 l0_0.length c0_0) := (blk_cell BK101.out 0).trans rfl; have hcz3_1 : w2.cell? ⟨gb101, 1, none⟩ = some (.slice A0_1 l0_1.length c0_1) := (blk_cell BK101.out 1).trans rfl; have hfz3_0 := blk_frozen BK101.out 0; have hfz3_1 := blk_frozen BK101.out 1)); try go_wp2_with (first | ((with_reducible refine gate_dst (N := 1) rfl ?_); refine box_event ?hg (N := 1) ?hd (cs := #[.slice A0_0 l0_0.length c0_0, .slice A0_1 l0_1.length c0_1]) (t := 25) ?hr ?_; (case hd => rfl); (case hg => rfl); (case hr => first | (go_simp; done) | (go_simp; rfl)); intro gb101 hg w2 hbox hb; have n0_ := Aside0.mk (below_step (by repeat (first | (with_reducible first | exact HB.out | apply below_alloc | apply pw_below_drewN | apply below_drew1) | exact HB.out)) hb); have n1_ := Aside0.mk (hbox); have n2_ := Aside0.mk ((by rw [hg]; exact (below_size (by repeat (first | (with_reducible first | exact HB.out | apply below_alloc | apply pw_below_drewN | apply below_drew1) | exact HB.out))) : w.heap.size ≤ gb101)); have n3_ := Aside0.mk ((by rw [hg]; exact (below_size (by repeat (first | (with_reducible first | exact HB.out | apply below_alloc | apply pw_below_drewN | apply below_drew1) | exact HB.out))) : w.heap.size ≤ gb101)); clear HB; have HB := n0_; have BK101 := n1_; have GW101 := n2_; have GE101 := n3_; clear n0_ n1_ n2_ n3_; clear hb hbox hg; have hcz3_0 : w2.cell? ⟨gb101, 0, none⟩ = some (.slice A0_0 l0_0.length c0_0) := (blk_cell BK101.out 0).trans rfl; have hcz3_1 : w2.cell? ⟨gb101, 1, none⟩ = some (.slice A0_1 l0_1.length c0_1) := (blk_cell BK101.out 1).trans rfl; have hfz3_0 := blk_frozen BK101.out 0; have hfz3_1 := blk_frozen BK101.out 1)))
  go_loopg [3, 10] k (fun kq v3 v10 w' => ∃ (x3_1 : Int) (x10_1 : Int), v3 = .int .i64 x3_1 ∧ v10 = .int .i64 x10_1 ∧ Aside0 (rowlockref12_Great.l0 kq x3_1 (l0_0.length : Int) x10_1 l0_0 l0_1 = some r) ∧ Aside0 (kq ≤ k) ∧ Aside0 (w'.heap[gb101]? = some (.cells #[(.slice A0_0 l0_0.length c0_0), (.slice A0_1 l0_1.length c0_1)] 25 (0, 0))) ∧ Aside0 (Below w.heap.size w w'))
  case atStart => exact ⟨(0), (0), (by first | rfl | (simp; done) | (simp [*]; done)), (by first | rfl | (simp; done) | (simp [*]; done)), H', ⟨Nat.le_refl _⟩, ⟨by (with_reducible repeat (first | refine blk_drewN ?_ _ | refine blk_drew ?_ | refine blk_alloc ?_ _)); exact BK101.out⟩, ⟨by repeat (first | (with_reducible first | exact HB.out | apply below_alloc | apply pw_below_drewN | apply below_drew1 | refine below_set ?_ GE101.out) | exact HB.out)⟩⟩
  case round =>
    clear H'
    try clear c2
    try clear p2
    try clear hcz3_0
    try clear hcz3_1
    try clear hfz3_0
    try clear hfz3_1
    obtain ⟨x3_1, x10_1, rfl, rfl, HA, HK1, BK101, HB⟩ := hrel
    cases gk with
    | zero => exact absurd HA.out (by simp [rowlockref12_Great.l0])
    | succ k1 =>
      have H := HA.out
      clear HA
      simp only [rowlockref12_Great.l0] at H
      by_cases c4 : x10_1 < (l0_0.length : Int)
      · rw [if_pos c4] at H
        have c4b0 : decide (x10_1 < (l0_0.length : Int)) = true := decide_eq_true c4
        clear c4
        by_cases c5 : 0 ≤ x10_1
        · rw [if_pos c5] at H
          have c5b0 : decide (0 ≤ x10_1) = true := decide_eq_true c5
          clear c5
          by_cases c6 : x10_1 < (l0_0.length : Int)
          · rw [if_pos c6] at H
            have c6b0 : decide (x10_1 < (l0_0.length : Int)) = true := decide_eq_true c6
            clear c6
            obtain ⟨ji7, hji7⟩ : ∃ j_ : Int, (mn (((rd_T91 l0_0 x10_1).f0).size : Int) 3000) = j_ := ⟨_, rfl⟩
            replace H : (rowlockref12_Great.l1 k1 (wrap64 (x3_1 + (1 + (ji7)))) x10_1 (l0_0.length : Int) x10_1 (((rd_T91 l0_0 x10_1).f1).length : Int) 0 l0_0 l0_1) = some r := by first | (rw [hji7] at H; exact H) | (simp only [hji7] at H ⊢; exact H)
            have hji7_ : (if 3000 < (((rd_T91 l0_0 x10_1).f0).size : Int) then 3000 else (((rd_T91 l0_0 x10_1).f0).size : Int)) = ji7 := hji7
            have H' := Aside0.mk H
            clear H
            have hcz8_0 : wr.cell? ⟨gb101, 0, none⟩ = some (.slice A0_0 l0_0.length c0_0) := (blk_cell BK101.out 0).trans rfl
            have hcz8_1 : wr.cell? ⟨gb101, 1, none⟩ = some (.slice A0_1 l0_1.length c0_1) := (blk_cell BK101.out 1).trans rfl
            have hfz8_0 := blk_frozen BK101.out 0
            have hfz8_1 := blk_frozen BK101.out 1
            have p102 : 0 ≤ (x10_1 : Int) := of_decide_eq_true (by first | (with_reducible assumption) | assumption)
            have q102 : x10_1 < (l0_0.length : Int) := of_decide_eq_true (by first | (with_reducible assumption) | assumption)
            obtain ⟨ad102, A102_1, c102_1, e102, hx102_0, hx102_1, hx102_2, hx102_3, hx102_4, hl102_1, hi102_1⟩ := at_T91 HR0_0.out x10_1 p102 q102
            cases e102
            replace hx102_0 := (HB.out.cell (World.block_lt_of_cell? w _ hx102_0)).trans hx102_0
            replace hx102_1 := (HB.out.cell (World.block_lt_of_cell? w _ hx102_1)).trans hx102_1
            replace hx102_2 := (HB.out.cell (World.block_lt_of_cell? w _ hx102_2)).trans hx102_2
            replace hx102_3 := (HB.out.cell (World.block_lt_of_cell? w _ hx102_3)).trans hx102_3
            replace hx102_4 := (HB.out.cell (World.block_lt_of_cell? w _ hx102_4)).trans hx102_4
            have HR102_1 := Aside0.mk hi102_1
            have HC102_1 := Aside0.mk hl102_1
            clear hi102_1 hl102_1
            replace p102 := eq_true p102
            replace q102 := eq_true q102
            have p103 : 0 ≤ (x10_1 : Int) := of_decide_eq_true (by first | (with_reducible assumption) | assumption)
            have q103 : x10_1 < (l0_0.length : Int) := of_decide_eq_true (by first | (with_reducible assumption) | assumption)
            obtain ⟨ad103, A103_1, c103_1, e103, hx103_0, hx103_1, hx103_2, hx103_3, hx103_4, hl103_1, hi103_1⟩ := at_T91 HR0_0.out x10_1 p103 q103
            obtain rfl : ad102 = ad103 := (by injection e103)
            replace hx103_0 := (HB.out.cell (World.block_lt_of_cell? w _ hx103_0)).trans hx103_0
            replace hx103_1 := (HB.out.cell (World.block_lt_of_cell? w _ hx103_1)).trans hx103_1
            replace hx103_2 := (HB.out.cell (World.block_lt_of_cell? w _ hx103_2)).trans hx103_2
            replace hx103_3 := (HB.out.cell (World.block_lt_of_cell? w _ hx103_3)).trans hx103_3
            replace hx103_4 := (HB.out.cell (World.block_lt_of_cell? w _ hx103_4)).trans hx103_4
            have HR103_1 := Aside0.mk hi103_1
            have HC103_1 := Aside0.mk hl103_1
            clear hi103_1 hl103_1
            replace p103 := eq_true p103
            replace q103 := eq_true q103
            have ea_ := Option.some.inj (hx102_1.symm.trans hx103_1)
            injection ea_ with ea_ en_ ec_
            subst ea_
            subst ec_
            clear en_
            go_wp2
            repeat (go_quiet (fail); try go_wp2)
            go_loopg [3, 31] k1 (fun kq v3 v31 w' => ∃ (x3_2 : Int) (x31_2 : Int), v3 = .int .i64 x3_2 ∧ v31 = .int .i64 x31_2 ∧ Aside0 (rowlockref12_Great.l1 kq x3_2 x10_1 (l0_0.length : Int) x10_1 (((rd_T91 l0_0 x10_1).f1).length : Int) x31_2 l0_0 l0_1 = some r) ∧ Aside0 (kq ≤ k1) ∧ Aside0 (w'.heap[gb101]? = some (.cells #[(.slice (some ad102) l0_0.length c0_0), (.slice A0_1 l0_1.length c0_1)] 25 (0, 0))) ∧ Aside0 (Below w.heap.size w w'))
            case atStart => exact ⟨(wrap64 (x3_1 + (1 + (ji7)))), (0), (by first | rfl | (simp; done) | (simp only [← hji7] <;> (first | rfl | simp)) | (simp [*]; done)), (by first | rfl | (simp; done) | (simp [*]; done)), H', ⟨Nat.le_refl _⟩, ⟨by (with_reducible repeat (first | refine blk_drewN ?_ _ | refine blk_drew ?_ | refine blk_alloc ?_ _)); exact BK101.out⟩, ⟨by repeat (first | (with_reducible first | exact HB.out | apply below_alloc | apply pw_below_drewN | apply below_drew1 | refine below_set ?_ GE101.out) | exact HB.out)⟩⟩
            case round =>
              clear H'
              try clear c1
              try clear p1
              try clear q1
              try clear hx1
              try clear c2
              try clear p2
              try clear c4
              try clear c4b0
              try clear c5
              try clear c5b0
              try clear c6
              try clear c6b0
              try clear p6
              try clear hcz3_0
              try clear hcz3_1
              try clear hcz8_0
              try clear hcz8_1
              try clear hfz3_0
              try clear hfz3_1
              try clear hfz8_0
              try clear hfz8_1
              try clear hx102_0
              try clear hx102_1
              try clear hx102_2
              try clear hx102_3
              try clear hx102_4
              try clear hx103_0
              try clear hx103_1
              try clear hx103_2
              try clear hx103_3
              try clear hx103_4
              try clear p102
              try clear p103
              try clear p2
              try clear q102
              try clear q103
              obtain ⟨x3_2, x31_2, rfl, rfl, HA, HK2, BK101, HB⟩ := hrel
              cases gk with
              | zero => exact absurd HA.out (by simp [rowlockref12_Great.l1])
              | succ k2 =>
                have H := HA.out
                clear HA
                simp only [rowlockref12_Great.l1] at H
                by_cases c9 : x31_2 < (((rd_T91 l0_0 x10_1).f1).length : Int)
                · rw [if_pos c9] at H
                  have c9b0 : decide (x31_2 < (((rd_T91 l0_0 x10_1).f1).length : Int)) = true := decide_eq_true c9
                  clear c9
                  by_cases c10 : 0 ≤ x10_1
                  · rw [if_pos c10] at H
                    have c10b0 : decide (0 ≤ x10_1) = true := decide_eq_true c10
                    clear c10
                    by_cases c11 : x10_1 < (l0_0.length : Int)
                    · rw [if_pos c11] at H
                      have c11b0 : decide (x10_1 < (l0_0.length : Int)) = true := decide_eq_true c11
                      clear c11
                      by_cases c12 : 0 ≤ x31_2
                      · rw [if_pos c12] at H
                        have c12b0 : decide (0 ≤ x31_2) = true := decide_eq_true c12
                        clear c12
                        by_cases c13 : x31_2 < (((rd_T91 l0_0 x10_1).f1).length : Int)
                        · rw [if_pos c13] at H
                          have c13b0 : decide (x31_2 < (((rd_T91 l0_0 x10_1).f1).length : Int)) = true := decide_eq_true c13
                          clear c13
                          obtain ⟨ji14, hji14⟩ : ∃ j_ : Int, (mn (((rd_T88 ((rd_T91 l0_0 x10_1).f1) x31_2).f0).size : Int) 3000) = j_ := ⟨_, rfl⟩
                          replace H : (if (wrap64 (x3_2 + (1 + (ji14)))) > 3000 then (some true) else (rowlockref12_Great.l1 k2 (wrap64 (x3_2 + (1 + (ji14)))) x10_1 (l0_0.length : Int) x10_1 (((rd_T91 l0_0 x10_1).f1).length : Int) (wrap64 (x31_2 + 1)) l0_0 l0_1)) = some r := by first | (rw [hji14] at H; exact H) | (simp only [hji14] at H ⊢; exact H)
                          have hji14_ : (if 3000 < (((rd_T88 ((rd_T91 l0_0 x10_1).f1) x31_2).f0).size : Int) then 3000 else (((rd_T88 ((rd_T91 l0_0 x10_1).f1) x31_2).f0).size : Int)) = ji14 := hji14
                          by_cases c15 : (wrap64 (x3_2 + (1 + (ji14)))) > 3000
                          · rw [if_pos c15] at H
                            have c15b0 : decide (3000 < (wrap64 (x3_2 + (1 + (ji14))))) = true := decide_eq_true c15
                            clear c15
                            obtain rfl := Option.some.inj H
                            have hcz16_0 : wr.cell? ⟨gb101, 0, none⟩ = some (.slice (some ad102) l0_0.length c0_0) := (blk_cell BK101.out 0).trans rfl
                            have hcz16_1 : wr.cell? ⟨gb101, 1, none⟩ = some (.slice A0_1 l0_1.length c0_1) := (blk_cell BK101.out 1).trans rfl
                            have hfz16_0 := blk_frozen BK101.out 0
                            have hfz16_1 := blk_frozen BK101.out 1
                            have p104 : 0 ≤ (x10_1 : Int) := of_decide_eq_true (by first | (with_reducible assumption) | assumption)
                            have q104 : x10_1 < (l0_0.length : Int) := of_decide_eq_true (by first | (with_reducible assumption) | assumption)
                            obtain ⟨ad104, A104_1, c104_1, e104, hx104_0, hx104_1, hx104_2, hx104_3, hx104_4, hl104_1, hi104_1⟩ := at_T91 HR0_0.out x10_1 p104 q104
                            obtain rfl : ad102 = ad104 := (by injection e104)
                            replace hx104_0 := (HB.out.cell (World.block_lt_of_cell? w _ hx104_0)).trans hx104_0
                            replace hx104_1 := (HB.out.cell (World.block_lt_of_cell? w _ hx104_1)).trans hx104_1
                            replace hx104_2 := (HB.out.cell (World.block_lt_of_cell? w _ hx104_2)).trans hx104_2
                            replace hx104_3 := (HB.out.cell (World.block_lt_of_cell? w _ hx104_3)).trans hx104_3
                            replace hx104_4 := (HB.out.cell (World.block_lt_of_cell? w _ hx104_4)).trans hx104_4
                            have HR104_1 := Aside0.mk hi104_1
                            have HC104_1 := Aside0.mk hl104_1
                            clear hi104_1 hl104_1
                            replace p104 := eq_true p104
                            replace q104 := eq_true q104
                            have p105 : 0 ≤ (x31_2 : Int) := of_decide_eq_true (by first | (with_reducible assumption) | assumption)
                            have q105 : x31_2 < (((rd_T91 l0_0 x10_1).f1).length : Int) := of_decide_eq_true (by first | (with_reducible assumption) | assumption)
                            obtain ⟨ad105, e105, hx105_0, hx105_1, hx105_2, hx105_3⟩ := at_T88 HR104_1.out x31_2 p105 q105
                            cases e105
                            replace hx105_0 := (HB.out.cell (World.block_lt_of_cell? w _ hx105_0)).trans hx105_0
                            replace hx105_1 := (HB.out.cell (World.block_lt_of_cell? w _ hx105_1)).trans hx105_1
                            replace hx105_2 := (HB.out.cell (World.block_lt_of_cell? w _ hx105_2)).trans hx105_2
                            replace hx105_3 := (HB.out.cell (World.block_lt_of_cell? w _ hx105_3)).trans hx105_3
                            replace p105 := eq_true p105
                            replace q105 := eq_true q105
                            go_wp2
                            repeat (go_quiet (fail); try go_wp2)
                            go_ret
                            exact ⟨by first | rfl | (simp [errW_none, errW_some] <;> rfl) | (simp only [← hji7, ← hji14]; first | rfl | (simp [errW_none, errW_some] <;> rfl)) | (simp [*, errW_none, errW_some] <;> rfl), by repeat (first | (with_reducible first | exact HB.out | apply below_alloc | apply pw_below_drewN | apply below_drew1 | refine below_set ?_ GE101.out) | exact HB.out)⟩
                          · rw [if_neg c15] at H
                            have c15b0 : decide (3000 < (wrap64 (x3_2 + (1 + (ji14))))) = false := decide_eq_false c15
                            clear c15
                            have H' := Aside0.mk H
                            clear H
                            have hcz17_0 : wr.cell? ⟨gb101, 0, none⟩ = some (.slice (some ad102) l0_0.length c0_0) := (blk_cell BK101.out 0).trans rfl
                            have hcz17_1 : wr.cell? ⟨gb101, 1, none⟩ = some (.slice A0_1 l0_1.length c0_1) := (blk_cell BK101.out 1).trans rfl
                            have hfz17_0 := blk_frozen BK101.out 0
                            have hfz17_1 := blk_frozen BK101.out 1
                            have p104 : 0 ≤ (x10_1 : Int) := of_decide_eq_true (by first | (with_reducible assumption) | assumption)
                            have q104 : x10_1 < (l0_0.length : Int) := of_decide_eq_true (by first | (with_reducible assumption) | assumption)
                            obtain ⟨ad104, A104_1, c104_1, e104, hx104_0, hx104_1, hx104_2, hx104_3, hx104_4, hl104_1, hi104_1⟩ := at_T91 HR0_0.out x10_1 p104 q104
                            obtain rfl : ad102 = ad104 := (by injection e104)
                            replace hx104_0 := (HB.out.cell (World.block_lt_of_cell? w _ hx104_0)).trans hx104_0
                            replace hx104_1 := (HB.out.cell (World.block_lt_of_cell? w _ hx104_1)).trans hx104_1
                            replace hx104_2 := (HB.out.cell (World.block_lt_of_cell? w _ hx104_2)).trans hx104_2
                            replace hx104_3 := (HB.out.cell (World.block_lt_of_cell? w _ hx104_3)).trans hx104_3
                            replace hx104_4 := (HB.out.cell (World.block_lt_of_cell? w _ hx104_4)).trans hx104_4
                            have HR104_1 := Aside0.mk hi104_1
                            have HC104_1 := Aside0.mk hl104_1
                            clear hi104_1 hl104_1
                            replace p104 := eq_true p104
                            replace q104 := eq_true q104
                            have p105 : 0 ≤ (x31_2 : Int) := of_decide_eq_true (by first | (with_reducible assumption) | assumption)
                            have q105 : x31_2 < (((rd_T91 l0_0 x10_1).f1).length : Int) := of_decide_eq_true (by first | (with_reducible assumption) | assumption)
                            obtain ⟨ad105, e105, hx105_0, hx105_1, hx105_2, hx105_3⟩ := at_T88 HR104_1.out x31_2 p105 q105
                            cases e105
                            replace hx105_0 := (HB.out.cell (World.block_lt_of_cell? w _ hx105_0)).trans hx105_0
                            replace hx105_1 := (HB.out.cell (World.block_lt_of_cell? w _ hx105_1)).trans hx105_1
                            replace hx105_2 := (HB.out.cell (World.block_lt_of_cell? w _ hx105_2)).trans hx105_2
                            replace hx105_3 := (HB.out.cell (World.block_lt_of_cell? w _ hx105_3)).trans hx105_3
                            replace p105 := eq_true p105
                            replace q105 := eq_true q105
                            go_wp2
                            repeat (go_quiet (fail); try go_wp2)
                            go_roundg k2
                            case measure => have := HK1.out; have := HK2.out; omega
                            case rel => exact ⟨(wrap64 (x3_2 + (1 + (ji14)))), (wrap64 (x31_2 + 1)), (by first | rfl | (simp; done) | (simp only [← hji14] <;> (first | rfl | simp)) | (simp [*]; done)), (by first | rfl | (simp; done) | (simp [*]; done)), H', ⟨by have := HK1.out; have := HK2.out; omega⟩, ⟨by (with_reducible repeat (first | refine blk_drewN ?_ _ | refine blk_drew ?_ | refine blk_alloc ?_ _)); exact BK101.out⟩, ⟨by repeat (first | (with_reducible first | exact HB.out | apply below_alloc | apply pw_below_drewN | apply below_drew1 | refine below_set ?_ GE101.out) | exact HB.out)⟩⟩
                        · rw [if_neg c13] at H
                          exact absurd H (by simp)
                      · rw [if_neg c12] at H
                        exact absurd H (by simp)
                    · rw [if_neg c11] at H
                      exact absurd H (by simp)
                  · rw [if_neg c10] at H
                    exact absurd H (by simp)
                · rw [if_neg c9] at H
                  have c9b0 : decide (x31_2 < (((rd_T91 l0_0 x10_1).f1).length : Int)) = false := decide_eq_false c9
                  clear c9
                  have H' := Aside0.mk H
                  clear H
                  go_wp2
                  repeat (go_quiet (fail); try go_wp2)
                  go_roundg k2
                  case measure => have := HK1.out; have := HK2.out; omega
                  case rel => exact ⟨(x3_2), (wrap64 (x10_1 + 1)), (by first | rfl | (simp; done) | (simp [*]; done)), (by first | rfl | (simp; done) | (simp [*]; done)), H', ⟨by have := HK1.out; have := HK2.out; omega⟩, ⟨by (with_reducible repeat (first | refine blk_drewN ?_ _ | refine blk_drew ?_ | refine blk_alloc ?_ _)); exact BK101.out⟩, ⟨by repeat (first | (with_reducible first | exact HB.out | apply below_alloc | apply pw_below_drewN | apply below_drew1 | refine below_set ?_ GE101.out) | exact HB.out)⟩⟩
          · rw [if_neg c6] at H
            exact absurd H (by simp)
        · rw [if_neg c5] at H
          exact absurd H (by simp)
      · rw [if_neg c4] at H
        have c4b0 : decide (x10_1 < (l0_0.length : Int)) = false := decide_eq_false c4
        clear c4
        have H' := Aside0.mk H
        clear H
        have hcz18_0 : wr.cell? ⟨gb101, 0, none⟩ = some (.slice A0_0 l0_0.length c0_0) := (blk_cell BK101.out 0).trans rfl
        have hcz18_1 : wr.cell? ⟨gb101, 1, none⟩ = some (.slice A0_1 l0_1.length c0_1) := (blk_cell BK101.out 1).trans rfl
        have hfz18_0 := blk_frozen BK101.out 0
        have hfz18_1 := blk_frozen BK101.out 1
        go_wp2
        repeat (go_quiet (fail); try go_wp2)
        go_loopg [3, 56] k1 (fun kq v3 v56 w' => ∃ (x3_2 : Int) (x56_2 : Int), v3 = .int .i64 x3_2 ∧ v56 = .int .i64 x56_2 ∧ Aside0 (rowlockref12_Great.l2 kq x3_2 (l0_1.length : Int) x56_2 l0_0 l0_1 = some r) ∧ Aside0 (kq ≤ k1) ∧ Aside0 (w'.heap[gb101]? = some (.cells #[(.slice A0_0 l0_0.length c0_0), (.slice A0_1 l0_1.length c0_1)] 25 (0, 0))) ∧ Aside0 (Below w.heap.size w w'))
        case atStart => exact ⟨(x3_1), (0), (by first | rfl | (simp; done) | (simp [*]; done)), (by first | rfl | (simp; done) | (simp [*]; done)), H', ⟨Nat.le_refl _⟩, ⟨by (with_reducible repeat (first | refine blk_drewN ?_ _ | refine blk_drew ?_ | refine blk_alloc ?_ _)); exact BK101.out⟩, ⟨by repeat (first | (with_reducible first | exact HB.out | apply below_alloc | apply pw_below_drewN | apply below_drew1 | refine below_set ?_ GE101.out) | exact HB.out)⟩⟩
        case round =>
          clear H'
          try clear c1
          try clear p1
          try clear q1
          try clear hx1
          try clear c2
          try clear p2
          try clear c4
          try clear c4b0
          try clear c5
          try clear c5b0
          try clear c6
          try clear c6b0
          try clear p6
          try clear c9
          try clear c9b0
          try clear c10
          try clear c10b0
          try clear p10
          try clear q10
          try clear hx10
          try clear c11
          try clear c11b0
          try clear c12
          try clear c12b0
          try clear c13
          try clear c13b0
          try clear c15
          try clear c15b0
          try clear hcz16_0
          try clear hcz16_1
          try clear hcz17_0
          try clear hcz17_1
          try clear hcz18_0
          try clear hcz18_1
          try clear hcz3_0
          try clear hcz3_1
          try clear hcz8_0
          try clear hcz8_1
          try clear hfz16_0
          try clear hfz16_1
          try clear hfz17_0
          try clear hfz17_1
          try clear hfz18_0
          try clear hfz18_1
          try clear hfz3_0
          try clear hfz3_1
          try clear hfz8_0
          try clear hfz8_1
          try clear hx102_0
          try clear hx102_1
          try clear hx102_2
          try clear hx102_3
          try clear hx102_4
          try clear hx103_0
          try clear hx103_1
          try clear hx103_2
          try clear hx103_3
          try clear hx103_4
          try clear hx104_0
          try clear hx104_1
          try clear hx104_2
          try clear hx104_3
          try clear hx104_4
          try clear hx105_0
          try clear hx105_1
          try clear hx105_2
          try clear hx105_3
          try clear p1
          try clear p102
          try clear p103
          try clear p104
          try clear p105
          try clear p2
          try clear p6
          try clear q1
          try clear q102
          try clear q103
          try clear q104
          try clear q105
          obtain ⟨x3_2, x56_2, rfl, rfl, HA, HK2, BK101, HB⟩ := hrel
          cases gk with
          | zero => exact absurd HA.out (by simp [rowlockref12_Great.l2])
          | succ k2 =>
            have H := HA.out
            clear HA
            simp only [rowlockref12_Great.l2] at H
            by_cases c19 : x56_2 < (l0_1.length : Int)
            · rw [if_pos c19] at H
              have c19b0 : decide (x56_2 < (l0_1.length : Int)) = true := decide_eq_true c19
              clear c19
              by_cases c20 : 0 ≤ x56_2
              · rw [if_pos c20] at H
                have c20b0 : decide (0 ≤ x56_2) = true := decide_eq_true c20
                clear c20
                by_cases c21 : x56_2 < (l0_1.length : Int)
                · rw [if_pos c21] at H
                  have c21b0 : decide (x56_2 < (l0_1.length : Int)) = true := decide_eq_true c21
                  clear c21
                  obtain ⟨ji22, hji22⟩ : ∃ j_ : Int, (mn (((rd_T71 l0_1 x56_2).f0).size : Int) 3000) = j_ := ⟨_, rfl⟩
                  replace H : (if (wrap64 (x3_2 + (((1 + (ji22)) + (mn (((rd_T71 l0_1 x56_2).f2).length : Int) 3000)) + (mn (((rd_T71 l0_1 x56_2).f6).length : Int) 3000)))) > 6000 then (some true) else (rowlockref12_Great.l2 k2 (wrap64 (x3_2 + (((1 + (ji22)) + (mn (((rd_T71 l0_1 x56_2).f2).length : Int) 3000)) + (mn (((rd_T71 l0_1 x56_2).f6).length : Int) 3000)))) (l0_1.length : Int) (wrap64 (x56_2 + 1)) l0_0 l0_1)) = some r := by first | (rw [hji22] at H; exact H) | (simp only [hji22] at H ⊢; exact H)
                  have hji22_ : (if 3000 < (((rd_T71 l0_1 x56_2).f0).size : Int) then 3000 else (((rd_T71 l0_1 x56_2).f0).size : Int)) = ji22 := hji22
                  obtain ⟨ji23, hji23⟩ : ∃ j_ : Int, (mn (((rd_T71 l0_1 x56_2).f2).length : Int) 3000) = j_ := ⟨_, rfl⟩
                  replace H : (if (wrap64 (x3_2 + (((1 + (ji22)) + (ji23)) + (mn (((rd_T71 l0_1 x56_2).f6).length : Int) 3000)))) > 6000 then (some true) else (rowlockref12_Great.l2 k2 (wrap64 (x3_2 + (((1 + (ji22)) + (ji23)) + (mn (((rd_T71 l0_1 x56_2).f6).length : Int) 3000)))) (l0_1.length : Int) (wrap64 (x56_2 + 1)) l0_0 l0_1)) = some r := by first | (rw [hji23] at H; exact H) | (simp only [hji23] at H ⊢; exact H)
                  have hji23_ : (if 3000 < (((rd_T71 l0_1 x56_2).f2).length : Int) then 3000 else (((rd_T71 l0_1 x56_2).f2).length : Int)) = ji23 := hji23
                  obtain ⟨ji24, hji24⟩ : ∃ j_ : Int, (mn (((rd_T71 l0_1 x56_2).f6).length : Int) 3000) = j_ := ⟨_, rfl⟩
                  replace H : (if (wrap64 (x3_2 + (((1 + (ji22)) + (ji23)) + (ji24)))) > 6000 then (some true) else (rowlockref12_Great.l2 k2 (wrap64 (x3_2 + (((1 + (ji22)) + (ji23)) + (ji24)))) (l0_1.length : Int) (wrap64 (x56_2 + 1)) l0_0 l0_1)) = some r := by first | (rw [hji24] at H; exact H) | (simp only [hji24] at H ⊢; exact H)
                  have hji24_ : (if 3000 < (((rd_T71 l0_1 x56_2).f6).length : Int) then 3000 else (((rd_T71 l0_1 x56_2).f6).length : Int)) = ji24 := hji24
                  by_cases c25 : (wrap64 (x3_2 + (((1 + (ji22)) + (ji23)) + (ji24)))) > 6000
                  · rw [if_pos c25] at H
                    have c25b0 : decide (6000 < (wrap64 (x3_2 + (((1 + (ji22)) + (ji23)) + (ji24))))) = true := decide_eq_true c25
                    clear c25
                    obtain rfl := Option.some.inj H
                    have hcz26_0 : wr.cell? ⟨gb101, 0, none⟩ = some (.slice A0_0 l0_0.length c0_0) := (blk_cell BK101.out 0).trans rfl
                    have hcz26_1 : wr.cell? ⟨gb101, 1, none⟩ = some (.slice A0_1 l0_1.length c0_1) := (blk_cell BK101.out 1).trans rfl
                    have hfz26_0 := blk_frozen BK101.out 0
                    have hfz26_1 := blk_frozen BK101.out 1
                    have p106 : 0 ≤ (x56_2 : Int) := of_decide_eq_true (by first | (with_reducible assumption) | assumption)
                    have q106 : x56_2 < (l0_1.length : Int) := of_decide_eq_true (by first | (with_reducible assumption) | assumption)
                    obtain ⟨ad106, A106_2, c106_2, A106_6, c106_6, e106, hx106_0, hx106_1, hx106_2, hx106_3, hx106_4, hx106_5, hx106_6, hl106_2, hi106_2, hl106_6, hi106_6⟩ := at_T71 HR0_1.out x56_2 p106 q106
                    cases e106
                    replace hx106_0 := (HB.out.cell (World.block_lt_of_cell? w _ hx106_0)).trans hx106_0
                    replace hx106_1 := (HB.out.cell (World.block_lt_of_cell? w _ hx106_1)).trans hx106_1
                    replace hx106_2 := (HB.out.cell (World.block_lt_of_cell? w _ hx106_2)).trans hx106_2
                    replace hx106_3 := (HB.out.cell (World.block_lt_of_cell? w _ hx106_3)).trans hx106_3
                    replace hx106_4 := (HB.out.cell (World.block_lt_of_cell? w _ hx106_4)).trans hx106_4
                    replace hx106_5 := (HB.out.cell (World.block_lt_of_cell? w _ hx106_5)).trans hx106_5
                    replace hx106_6 := (HB.out.cell (World.block_lt_of_cell? w _ hx106_6)).trans hx106_6
                    have HR106_2 := Aside0.mk hi106_2
                    have HC106_2 := Aside0.mk hl106_2
                    clear hi106_2 hl106_2
                    have HR106_6 := Aside0.mk hi106_6
                    have HC106_6 := Aside0.mk hl106_6
                    clear hi106_6 hl106_6
                    replace p106 := eq_true p106
                    replace q106 := eq_true q106
                    have p107 : 0 ≤ (x56_2 : Int) := of_decide_eq_true (by first | (with_reducible assumption) | assumption)
                    have q107 : x56_2 < (l0_1.length : Int) := of_decide_eq_true (by first | (with_reducible assumption) | assumption)
                    obtain ⟨ad107, A107_2, c107_2, A107_6, c107_6, e107, hx107_0, hx107_1, hx107_2, hx107_3, hx107_4, hx107_5, hx107_6, hl107_2, hi107_2, hl107_6, hi107_6⟩ := at_T71 HR0_1.out x56_2 p107 q107
                    obtain rfl : ad106 = ad107 := (by injection e107)
                    replace hx107_0 := (HB.out.cell (World.block_lt_of_cell? w _ hx107_0)).trans hx107_0
                    replace hx107_1 := (HB.out.cell (World.block_lt_of_cell? w _ hx107_1)).trans hx107_1
                    replace hx107_2 := (HB.out.cell (World.block_lt_of_cell? w _ hx107_2)).trans hx107_2
                    replace hx107_3 := (HB.out.cell (World.block_lt_of_cell? w _ hx107_3)).trans hx107_3
                    replace hx107_4 := (HB.out.cell (World.block_lt_of_cell? w _ hx107_4)).trans hx107_4
                    replace hx107_5 := (HB.out.cell (World.block_lt_of_cell? w _ hx107_5)).trans hx107_5
                    replace hx107_6 := (HB.out.cell (World.block_lt_of_cell? w _ hx107_6)).trans hx107_6
                    have HR107_2 := Aside0.mk hi107_2
                    have HC107_2 := Aside0.mk hl107_2
                    clear hi107_2 hl107_2
                    have HR107_6 := Aside0.mk hi107_6
                    have HC107_6 := Aside0.mk hl107_6
                    clear hi107_6 hl107_6
                    replace p107 := eq_true p107
                    replace q107 := eq_true q107
                    have ea_ := Option.some.inj (hx106_2.symm.trans hx107_2)
                    injection ea_ with ea_ en_ ec_
                    subst ea_
                    subst ec_
                    clear en_
                    have ea_ := Option.some.inj (hx106_6.symm.trans hx107_6)
                    injection ea_ with ea_ en_ ec_
                    subst ea_
                    subst ec_
                    clear en_
                    have p108 : 0 ≤ (x56_2 : Int) := of_decide_eq_true (by first | (with_reducible assumption) | assumption)
                    have q108 : x56_2 < (l0_1.length : Int) := of_decide_eq_true (by first | (with_reducible assumption) | assumption)
                    obtain ⟨ad108, A108_2, c108_2, A108_6, c108_6, e108, hx108_0, hx108_1, hx108_2, hx108_3, hx108_4, hx108_5, hx108_6, hl108_2, hi108_2, hl108_6, hi108_6⟩ := at_T71 HR0_1.out x56_2 p108 q108
                    obtain rfl : ad106 = ad108 := (by injection e108)
                    replace hx108_0 := (HB.out.cell (World.block_lt_of_cell? w _ hx108_0)).trans hx108_0
                    replace hx108_1 := (HB.out.cell (World.block_lt_of_cell? w _ hx108_1)).trans hx108_1
                    replace hx108_2 := (HB.out.cell (World.block_lt_of_cell? w _ hx108_2)).trans hx108_2
                    replace hx108_3 := (HB.out.cell (World.block_lt_of_cell? w _ hx108_3)).trans hx108_3
                    replace hx108_4 := (HB.out.cell (World.block_lt_of_cell? w _ hx108_4)).trans hx108_4
                    replace hx108_5 := (HB.out.cell (World.block_lt_of_cell? w _ hx108_5)).trans hx108_5
                    replace hx108_6 := (HB.out.cell (World.block_lt_of_cell? w _ hx108_6)).trans hx108_6
                    have HR108_2 := Aside0.mk hi108_2
                    have HC108_2 := Aside0.mk hl108_2
                    clear hi108_2 hl108_2
                    have HR108_6 := Aside0.mk hi108_6
                    have HC108_6 := Aside0.mk hl108_6
                    clear hi108_6 hl108_6
                    replace p108 := eq_true p108
                    replace q108 := eq_true q108
                    have ea_ := Option.some.inj (hx106_2.symm.trans hx108_2)
                    injection ea_ with ea_ en_ ec_
                    subst ea_
                    subst ec_
                    clear en_
                    have ea_ := Option.some.inj (hx106_6.symm.trans hx108_6)
                    injection ea_ with ea_ en_ ec_
                    subst ea_
                    subst ec_
                    clear en_
                    go_wp2
                    repeat (go_quiet (fail); try go_wp2)
                    go_ret
                    exact ⟨by first | rfl | (simp [errW_none, errW_some] <;> rfl) | (simp only [← hji22, ← hji23, ← hji24]; first | rfl | (simp [errW_none, errW_some] <;> rfl)) | (simp [*, errW_none, errW_some] <;> rfl), by repeat (first | (with_reducible first | exact HB.out | apply below_alloc | apply pw_below_drewN | apply below_drew1 | refine below_set ?_ GE101.out) | exact HB.out)⟩
                  · rw [if_neg c25] at H
                    have c25b0 : decide (6000 < (wrap64 (x3_2 + (((1 + (ji22)) + (ji23)) + (ji24))))) = false := decide_eq_false c25
                    clear c25
                    have H' := Aside0.mk H
                    clear H
                    have hcz27_0 : wr.cell? ⟨gb101, 0, none⟩ = some (.slice A0_0 l0_0.length c0_0) := (blk_cell BK101.out 0).trans rfl
                    have hcz27_1 : wr.cell? ⟨gb101, 1, none⟩ = some (.slice A0_1 l0_1.length c0_1) := (blk_cell BK101.out 1).trans rfl
                    have hfz27_0 := blk_frozen BK101.out 0
                    have hfz27_1 := blk_frozen BK101.out 1
                    have p106 : 0 ≤ (x56_2 : Int) := of_decide_eq_true (by first | (with_reducible assumption) | assumption)
                    have q106 : x56_2 < (l0_1.length : Int) := of_decide_eq_true (by first | (with_reducible assumption) | assumption)
                    obtain ⟨ad106, A106_2, c106_2, A106_6, c106_6, e106, hx106_0, hx106_1, hx106_2, hx106_3, hx106_4, hx106_5, hx106_6, hl106_2, hi106_2, hl106_6, hi106_6⟩ := at_T71 HR0_1.out x56_2 p106 q106
                    cases e106
                    replace hx106_0 := (HB.out.cell (World.block_lt_of_cell? w _ hx106_0)).trans hx106_0
                    replace hx106_1 := (HB.out.cell (World.block_lt_of_cell? w _ hx106_1)).trans hx106_1
                    replace hx106_2 := (HB.out.cell (World.block_lt_of_cell? w _ hx106_2)).trans hx106_2
                    replace hx106_3 := (HB.out.cell (World.block_lt_of_cell? w _ hx106_3)).trans hx106_3
                    replace hx106_4 := (HB.out.cell (World.block_lt_of_cell? w _ hx106_4)).trans hx106_4
                    replace hx106_5 := (HB.out.cell (World.block_lt_of_cell? w _ hx106_5)).trans hx106_5
                    replace hx106_6 := (HB.out.cell (World.block_lt_of_cell? w _ hx106_6)).trans hx106_6
                    have HR106_2 := Aside0.mk hi106_2
                    have HC106_2 := Aside0.mk hl106_2
                    clear hi106_2 hl106_2
                    have HR106_6 := Aside0.mk hi106_6
                    have HC106_6 := Aside0.mk hl106_6
                    clear hi106_6 hl106_6
                    replace p106 := eq_true p106
                    replace q106 := eq_true q106
                    have p107 : 0 ≤ (x56_2 : Int) := of_decide_eq_true (by first | (with_reducible assumption) | assumption)
                    have q107 : x56_2 < (l0_1.length : Int) := of_decide_eq_true (by first | (with_reducible assumption) | assumption)
                    obtain ⟨ad107, A107_2, c107_2, A107_6, c107_6, e107, hx107_0, hx107_1, hx107_2, hx107_3, hx107_4, hx107_5, hx107_6, hl107_2, hi107_2, hl107_6, hi107_6⟩ := at_T71 HR0_1.out x56_2 p107 q107
                    obtain rfl : ad106 = ad107 := (by injection e107)
                    replace hx107_0 := (HB.out.cell (World.block_lt_of_cell? w _ hx107_0)).trans hx107_0
                    replace hx107_1 := (HB.out.cell (World.block_lt_of_cell? w _ hx107_1)).trans hx107_1
                    replace hx107_2 := (HB.out.cell (World.block_lt_of_cell? w _ hx107_2)).trans hx107_2
                    replace hx107_3 := (HB.out.cell (World.block_lt_of_cell? w _ hx107_3)).trans hx107_3
                    replace hx107_4 := (HB.out.cell (World.block_lt_of_cell? w _ hx107_4)).trans hx107_4
                    replace hx107_5 := (HB.out.cell (World.block_lt_of_cell? w _ hx107_5)).trans hx107_5
                    replace hx107_6 := (HB.out.cell (World.block_lt_of_cell? w _ hx107_6)).trans hx107_6
                    have HR107_2 := Aside0.mk hi107_2
                    have HC107_2 := Aside0.mk hl107_2
                    clear hi107_2 hl107_2
                    have HR107_6 := Aside0.mk hi107_6
                    have HC107_6 := Aside0.mk hl107_6
                    clear hi107_6 hl107_6
                    replace p107 := eq_true p107
                    replace q107 := eq_true q107
                    have ea_ := Option.some.inj (hx106_2.symm.trans hx107_2)
                    injection ea_ with ea_ en_ ec_
                    subst ea_
                    subst ec_
                    clear en_
                    have ea_ := Option.some.inj (hx106_6.symm.trans hx107_6)
                    injection ea_ with ea_ en_ ec_
                    subst ea_
                    subst ec_
                    clear en_
                    have p108 : 0 ≤ (x56_2 : Int) := of_decide_eq_true (by first | (with_reducible assumption) | assumption)
                    have q108 : x56_2 < (l0_1.length : Int) := of_decide_eq_true (by first | (with_reducible assumption) | assumption)
                    obtain ⟨ad108, A108_2, c108_2, A108_6, c108_6, e108, hx108_0, hx108_1, hx108_2, hx108_3, hx108_4, hx108_5, hx108_6, hl108_2, hi108_2, hl108_6, hi108_6⟩ := at_T71 HR0_1.out x56_2 p108 q108
                    obtain rfl : ad106 = ad108 := (by injection e108)
                    replace hx108_0 := (HB.out.cell (World.block_lt_of_cell? w _ hx108_0)).trans hx108_0
                    replace hx108_1 := (HB.out.cell (World.block_lt_of_cell? w _ hx108_1)).trans hx108_1
                    replace hx108_2 := (HB.out.cell (World.block_lt_of_cell? w _ hx108_2)).trans hx108_2
                    replace hx108_3 := (HB.out.cell (World.block_lt_of_cell? w _ hx108_3)).trans hx108_3
                    replace hx108_4 := (HB.out.cell (World.block_lt_of_cell? w _ hx108_4)).trans hx108_4
                    replace hx108_5 := (HB.out.cell (World.block_lt_of_cell? w _ hx108_5)).trans hx108_5
                    replace hx108_6 := (HB.out.cell (World.block_lt_of_cell? w _ hx108_6)).trans hx108_6
                    have HR108_2 := Aside0.mk hi108_2
                    have HC108_2 := Aside0.mk hl108_2
                    clear hi108_2 hl108_2
                    have HR108_6 := Aside0.mk hi108_6
                    have HC108_6 := Aside0.mk hl108_6
                    clear hi108_6 hl108_6
                    replace p108 := eq_true p108
                    replace q108 := eq_true q108
                    have ea_ := Option.some.inj (hx106_2.symm.trans hx108_2)
                    injection ea_ with ea_ en_ ec_
                    subst ea_
                    subst ec_
                    clear en_
                    have ea_ := Option.some.inj (hx106_6.symm.trans hx108_6)
                    injection ea_ with ea_ en_ ec_
                    subst ea_
                    subst ec_
                    clear en_
                    go_wp2
                    repeat (go_quiet (fail); try go_wp2)
                    go_roundg k2
                    case measure => have := HK1.out; have := HK2.out; omega
                    case rel => exact ⟨(wrap64 (x3_2 + (((1 + (ji22)) + (ji23)) + (ji24)))), (wrap64 (x56_2 + 1)), (by first | rfl | (simp; done) | (simp only [← hji22, ← hji23, ← hji24] <;> (first | rfl | simp)) | (simp [*]; done)), (by first | rfl | (simp; done) | (simp [*]; done)), H', ⟨by have := HK1.out; have := HK2.out; omega⟩, ⟨by (with_reducible repeat (first | refine blk_drewN ?_ _ | refine blk_drew ?_ | refine blk_alloc ?_ _)); exact BK101.out⟩, ⟨by repeat (first | (with_reducible first | exact HB.out | apply below_alloc | apply pw_below_drewN | apply below_drew1 | refine below_set ?_ GE101.out) | exact HB.out)⟩⟩
                · rw [if_neg c21] at H
                  exact absurd H (by simp)
              · rw [if_neg c20] at H
                exact absurd H (by simp)
            · rw [if_neg c19] at H
              have c19b0 : decide (x56_2 < (l0_1.length : Int)) = false := decide_eq_false c19
              clear c19
              obtain rfl := Option.some.inj H
              go_wp2
              repeat (go_quiet (fail); try go_wp2)
              go_ret
              exact ⟨by first | rfl | (simp [errW_none, errW_some] <;> rfl) | (simp [*, errW_none, errW_some] <;> rfl), by repeat (first | (with_reducible first | exact HB.out | apply below_alloc | apply pw_below_drewN | apply below_drew1 | refine below_set ?_ GE101.out) | exact HB.out)⟩

/-! ### rowlocklaw22_fixed: function 26, by hand -/
def rowlocklaw22_fixed.f : Option (Bool) := some true
theorem rowlocklaw22_fixed.calls (r : Bool) (w : World) (h : rowlocklaw22_fixed.f = some r) :
    Calls Tryz.prog 26 #[] w fun e w' => e = .returned (.bool r) ∧ Below w.heap.size w w' := by
  cases h; exact PathsFix.fixed_calls w

/-! ### paths_Order: function 27 -/
def paths_Order.f (l0_0 : List (S91)) (l0_1 : List (S71)) (a1_0 : Int) (a1_1 : Int) (l1_2 : List (S59)) (l1_3 : List Int) (a1_4 : Int) (l1_5 : List (S59)) (l1_6 : List Int) : Option (Int) := if a1_0 = 1 then (if a1_1 < 0 then (some (-1)) else (if a1_1 ≥ (l0_1.length : Int) then (some (-1)) else (if 0 ≤ a1_1 then (if a1_1 < (l0_1.length : Int) then (if (((rd_T71 l0_1 a1_1).f2).length : Int) = 0 then (some (-1)) else (if 0 < (((rd_T71 l0_1 a1_1).f2).length : Int) then (some (rd ((rd_T71 l0_1 a1_1).f2) 0)) else (none))) else (none)) else (none)))) else (if a1_0 = 2 then (if a1_1 < 0 then (some (-1)) else (if a1_1 ≥ (l0_1.length : Int) then (some (-1)) else (if 0 ≤ a1_1 then (if a1_1 < (l0_1.length : Int) then (if (((rd_T71 l0_1 a1_1).f2).length : Int) = 0 then (some (-1)) else (if 0 < (((rd_T71 l0_1 a1_1).f2).length : Int) then (some (rd ((rd_T71 l0_1 a1_1).f2) 0)) else (none))) else (none)) else (none)))) else (some (-1)))
set_option maxHeartbeats 8000000 in
set_option maxRecDepth 100000 in
theorem paths_Order.calls (A0_0 : Option Addr) (c0_0 : Nat) (l0_0 : List (S91)) (A0_1 : Option Addr) (c0_1 : Nat) (l0_1 : List (S71)) (a1_0 : Int) (a1_1 : Int) (A1_2 : Option Addr) (c1_2 : Nat) (l1_2 : List (S59)) (A1_3 : Option Addr) (c1_3 : Nat) (l1_3 : List Int) (a1_4 : Int) (A1_5 : Option Addr) (c1_5 : Nat) (l1_5 : List (S59)) (A1_6 : Option Addr) (c1_6 : Nat) (l1_6 : List Int) (r : Int) (w : World) (hr0_0 : Kd.C k91 w A0_0 l0_0.length l0_0) (hc0_0 : l0_0.length ≤ c0_0) (hr0_1 : Kd.C k71 w A0_1 l0_1.length l0_1) (hc0_1 : l0_1.length ≤ c0_1) (hr1_2 : Kd.C k59 w A1_2 l1_2.length l1_2) (hc1_2 : l1_2.length ≤ c1_2) (hr1_3 : Kd.C (Kd.int .i64) w A1_3 l1_3.length l1_3) (hc1_3 : l1_3.length ≤ c1_3) (hr1_5 : Kd.C k59 w A1_5 l1_5.length l1_5) (hc1_5 : l1_5.length ≤ c1_5) (hr1_6 : Kd.C (Kd.int .i64) w A1_6 l1_6.length l1_6) (hc1_6 : l1_6.length ≤ c1_6) (h : paths_Order.f l0_0 l0_1 a1_0 a1_1 l1_2 l1_3 a1_4 l1_5 l1_6 = some r) :
    Calls Tryz.prog 27 #[.agg #[.slice A0_0 l0_0.length c0_0, .slice A0_1 l0_1.length c0_1], .agg #[.int .u8 a1_0, .int .i64 a1_1, .slice A1_2 l1_2.length c1_2, .slice A1_3 l1_3.length c1_3, .int .i64 a1_4, .slice A1_5 l1_5.length c1_5, .slice A1_6 l1_6.length c1_6]] w fun e w' => e = .returned (.int .i64 r) ∧ Below w.heap.size w w' := by
  have hu25 := Tryz.underlying25
  have hu40 := Tryz.underlying40
  have HR0_0 := Aside0.mk hr0_0
  have HC0_0 := Aside0.mk hc0_0
  clear hr0_0 hc0_0
  have HR0_1 := Aside0.mk hr0_1
  have HC0_1 := Aside0.mk hc0_1
  clear hr0_1 hc0_1
  have HR1_2 := Aside0.mk hr1_2
  have HC1_2 := Aside0.mk hc1_2
  clear hr1_2 hc1_2
  have HR1_3 := Aside0.mk hr1_3
  have HC1_3 := Aside0.mk hc1_3
  clear hr1_3 hc1_3
  have HR1_5 := Aside0.mk hr1_5
  have HC1_5 := Aside0.mk hc1_5
  clear hr1_5 hc1_5
  have HR1_6 := Aside0.mk hr1_6
  have HC1_6 := Aside0.mk hc1_6
  clear hr1_6 hc1_6
  have HB := Aside0.mk (Below.refl w.heap.size w)
  have H : (if a1_0 = 1 then (if a1_1 < 0 then (some (-1)) else (if a1_1 ≥ (l0_1.length : Int) then (some (-1)) else (if 0 ≤ a1_1 then (if a1_1 < (l0_1.length : Int) then (if (((rd_T71 l0_1 a1_1).f2).length : Int) = 0 then (some (-1)) else (if 0 < (((rd_T71 l0_1 a1_1).f2).length : Int) then (some (rd ((rd_T71 l0_1 a1_1).f2) 0)) else (none))) else (none)) else (none)))) else (if a1_0 = 2 then (if a1_1 < 0 then (some (-1)) else (if a1_1 ≥ (l0_1.length : Int) then (some (-1)) else (if 0 ≤ a1_1 then (if a1_1 < (l0_1.length : Int) then (if (((rd_T71 l0_1 a1_1).f2).length : Int) = 0 then (some (-1)) else (if 0 < (((rd_T71 l0_1 a1_1).f2).length : Int) then (some (rd ((rd_T71 l0_1 a1_1).f2) 0)) else (none))) else (none)) else (none)))) else (some (-1)))) = some r := h
  clear h
  by_cases c3 : a1_0 = 1
  · rw [if_pos c3] at H
    have c3b0 : (a1_0 == 1) = true := beq_iff_eq.mpr c3
    have c3b1 : (a1_0 != 1) = false := bne_eq_false_iff_eq.mpr c3
    clear c3
    by_cases c4 : a1_1 < 0
    · rw [if_pos c4] at H
      have c4b0 : decide (a1_1 < 0) = true := decide_eq_true c4
      clear c4
      obtain rfl := Option.some.inj H
      go_enter Tryz.func27, Tryz.ntmps27
      go_wp2_with (first | ((with_reducible refine gate_dst (N := 2) rfl ?_); (try (refine gate_guard (by rfl) ?_; dsimp only)); refine box_event ?hg (N := 2) ?hd (cs := #[.slice A0_0 l0_0.length c0_0, .slice A0_1 l0_1.length c0_1]) (t := 25) ?hr ?_; (case hd => rfl); (case hg => rfl); (case hr => first | (go_simp; done) | (go_simp; rfl)); intro gb109 hg w5 hbox hb; have n0_ := Aside0.mk (below_step (by repeat (first | (with_reducible first | exact HB.out | apply below_alloc | apply pw_below_drewN | apply below_drew1) | exact HB.out)) hb); have n1_ := Aside0.mk (hbox); have n2_ := Aside0.mk ((by rw [hg]; exact (below_size (by repeat (first | (with_reducible first | exact HB.out | apply below_alloc | apply pw_below_drewN | apply below_drew1) | exact HB.out))) : w.heap.size ≤ gb109)); have n3_ := Aside0.mk ((by rw [hg]; exact (below_size (by repeat (first | (with_reducible first | exact HB.out | apply below_alloc | apply pw_below_drewN | apply below_drew1) | exact HB.out))) : w.heap.size ≤ gb109)); clear HB; have HB := n0_; have BK109 := n1_; have GW109 := n2_; have GE109 := n3_; clear n0_ n1_ n2_ n3_; clear hb hbox hg) | ((with_reducible refine gate_dst (N := 3) rfl ?_); (try (refine gate_guard (by rfl) ?_; dsimp only)); refine box_event ?hg (N := 3) ?hd (cs := #[.int .u8 a1_0, .int .i64 a1_1, .slice A1_2 l1_2.length c1_2, .slice A1_3 l1_3.length c1_3, .int .i64 a1_4, .slice A1_5 l1_5.length c1_5, .slice A1_6 l1_6.length c1_6]) (t := 40) ?hr ?_; (case hd => rfl); (case hg => rfl); (case hr => first | (go_simp; done) | (go_simp; rfl)); intro gb110 hg w6 hbox hb; have n0_ := Aside0.mk (blk_below (g := gb109) (o := .cells #[.slice A0_0 l0_0.length c0_0, .slice A0_1 l0_1.length c0_1] 25 (0, 0)) (by (with_reducible repeat (first | refine blk_drewN ?_ _ | refine blk_drew ?_ | refine blk_alloc ?_ _)); exact BK109.out) hb); have n1_ := Aside0.mk (below_step (by repeat (first | (with_reducible first | exact HB.out | apply below_alloc | apply pw_below_drewN | apply below_drew1 | refine below_set ?_ GE109.out) | exact HB.out)) hb); have n2_ := Aside0.mk (hbox); have n3_ := Aside0.mk ((by rw [hg]; exact (below_size (by repeat (first | (with_reducible first | exact HB.out | apply below_alloc | apply pw_below_drewN | apply below_drew1 | refine below_set ?_ GE109.out) | exact HB.out))) : w.heap.size ≤ gb110)); have n4_ := Aside0.mk ((by rw [hg]; exact (below_size (by repeat (first | (with_reducible first | exact HB.out | apply below_alloc | apply pw_below_drewN | apply below_drew1 | refine below_set ?_ GE109.out) | exact HB.out))) : w.heap.size ≤ gb110)); have n5_ := Aside0.mk ((by rw [hg]; exact Nat.ne_of_lt (blk_lt (g := gb109) (o := .cells #[.slice A0_0 l0_0.length c0_0, .slice A0_1 l0_1.length c0_1] 25 (0, 0)) (by (with_reducible repeat (first | refine blk_drewN ?_ _ | refine blk_drew ?_ | refine blk_alloc ?_ _)); exact BK109.out)) : gb109 ≠ gb110)); have n6_ := Aside0.mk ((by rw [hg]; exact Nat.ne_of_gt (blk_lt (g := gb109) (o := .cells #[.slice A0_0 l0_0.length c0_0, .slice A0_1 l0_1.length c0_1] 25 (0, 0)) (by (with_reducible repeat (first | refine blk_drewN ?_ _ | refine blk_drew ?_ | refine blk_alloc ?_ _)); exact BK109.out)) : gb110 ≠ gb109)); clear BK109; clear HB; have BK109 := n0_; have HB := n1_; have BK110 := n2_; have GW110 := n3_; have GE110 := n4_; have NB109_110 := n5_; have NB110_109 := n6_; clear n0_ n1_ n2_ n3_ n4_ n5_ n6_; clear hb hbox hg; have hnb7 := NB110_109.out; have hnc7 := NB109_110.out; have hcz8_0 : w6.cell? ⟨gb110, 0, none⟩ = some (.int .u8 a1_0) := (blk_cell BK110.out 0).trans rfl; have hcz8_1 : w6.cell? ⟨gb110, 1, none⟩ = some (.int .i64 a1_1) := (blk_cell BK110.out 1).trans rfl; have hcz8_2 : w6.cell? ⟨gb110, 2, none⟩ = some (.slice A1_2 l1_2.length c1_2) := (blk_cell BK110.out 2).trans rfl; have hcz8_3 : w6.cell? ⟨gb110, 3, none⟩ = some (.slice A1_3 l1_3.length c1_3) := (blk_cell BK110.out 3).trans rfl; have hcz8_4 : w6.cell? ⟨gb110, 4, none⟩ = some (.int .i64 a1_4) := (blk_cell BK110.out 4).trans rfl; have hcz8_5 : w6.cell? ⟨gb110, 5, none⟩ = some (.slice A1_5 l1_5.length c1_5) := (blk_cell BK110.out 5).trans rfl; have hcz8_6 : w6.cell? ⟨gb110, 6, none⟩ = some (.slice A1_6 l1_6.length c1_6) := (blk_cell BK110.out 6).trans rfl; have hfz8_0 := blk_frozen BK110.out 0; have hfz8_1 := blk_frozen BK110.out 1; have hfz8_2 := blk_frozen BK110.out 2; have hfz8_3 := blk_frozen BK110.out 3; have hfz8_4 := blk_frozen BK110.out 4; have hfz8_5 := blk_frozen BK110.out 5; have hfz8_6 := blk_frozen BK110.out 6))
      go_ret
      exact ⟨by first | rfl | (simp [errW_none, errW_some] <;> rfl) | (simp [*, errW_none, errW_some] <;> rfl), by repeat (first | (with_reducible first | exact HB.out | apply below_alloc | apply pw_below_drewN | apply below_drew1 | refine below_set ?_ GE109.out | refine below_set ?_ GE110.out) | exact HB.out)⟩
    · rw [if_neg c4] at H
      have c4b0 : decide (a1_1 < 0) = false := decide_eq_false c4
      clear c4
      by_cases c9 : a1_1 ≥ (l0_1.length : Int)
      · rw [if_pos c9] at H
        have c9b0 : decide ((l0_1.length : Int) ≤ a1_1) = true := decide_eq_true c9
        clear c9
        obtain rfl := Option.some.inj H
        go_enter Tryz.func27, Tryz.ntmps27
        go_wp2_with (first | ((with_reducible refine gate_dst (N := 2) rfl ?_); (try (refine gate_guard (by rfl) ?_; dsimp only)); refine box_event ?hg (N := 2) ?hd (cs := #[.slice A0_0 l0_0.length c0_0, .slice A0_1 l0_1.length c0_1]) (t := 25) ?hr ?_; (case hd => rfl); (case hg => rfl); (case hr => first | (go_simp; done) | (go_simp; rfl)); intro gb109 hg w10 hbox hb; have n0_ := Aside0.mk (below_step (by repeat (first | (with_reducible first | exact HB.out | apply below_alloc | apply pw_below_drewN | apply below_drew1) | exact HB.out)) hb); have n1_ := Aside0.mk (hbox); have n2_ := Aside0.mk ((by rw [hg]; exact (below_size (by repeat (first | (with_reducible first | exact HB.out | apply below_alloc | apply pw_below_drewN | apply below_drew1) | exact HB.out))) : w.heap.size ≤ gb109)); have n3_ := Aside0.mk ((by rw [hg]; exact (below_size (by repeat (first | (with_reducible first | exact HB.out | apply below_alloc | apply pw_below_drewN | apply below_drew1) | exact HB.out))) : w.heap.size ≤ gb109)); clear HB; have HB := n0_; have BK109 := n1_; have GW109 := n2_; have GE109 := n3_; clear n0_ n1_ n2_ n3_; clear hb hbox hg) | ((with_reducible refine gate_dst (N := 3) rfl ?_); (try (refine gate_guard (by rfl) ?_; dsimp only)); refine box_event ?hg (N := 3) ?hd (cs := #[.int .u8 a1_0, .int .i64 a1_1, .slice A1_2 l1_2.length c1_2, .slice A1_3 l1_3.length c1_3, .int .i64 a1_4, .slice A1_5 l1_5.length c1_5, .slice A1_6 l1_6.length c1_6]) (t := 40) ?hr ?_; (case hd => rfl); (case hg => rfl); (case hr => first | (go_simp; done) | (go_simp; rfl)); intro gb110 hg w11 hbox hb; have n0_ := Aside0.mk (blk_below (g := gb109) (o := .cells #[.slice A0_0 l0_0.length c0_0, .slice A0_1 l0_1.length c0_1] 25 (0, 0)) (by (with_reducible repeat (first | refine blk_drewN ?_ _ | refine blk_drew ?_ | refine blk_alloc ?_ _)); exact BK109.out) hb); have n1_ := Aside0.mk (below_step (by repeat (first | (with_reducible first | exact HB.out | apply below_alloc | apply pw_below_drewN | apply below_drew1 | refine below_set ?_ GE109.out) | exact HB.out)) hb); have n2_ := Aside0.mk (hbox); have n3_ := Aside0.mk ((by rw [hg]; exact (below_size (by repeat (first | (with_reducible first | exact HB.out | apply below_alloc | apply pw_below_drewN | apply below_drew1 | refine below_set ?_ GE109.out) | exact HB.out))) : w.heap.size ≤ gb110)); have n4_ := Aside0.mk ((by rw [hg]; exact (below_size (by repeat (first | (with_reducible first | exact HB.out | apply below_alloc | apply pw_below_drewN | apply below_drew1 | refine below_set ?_ GE109.out) | exact HB.out))) : w.heap.size ≤ gb110)); have n5_ := Aside0.mk ((by rw [hg]; exact Nat.ne_of_lt (blk_lt (g := gb109) (o := .cells #[.slice A0_0 l0_0.length c0_0, .slice A0_1 l0_1.length c0_1] 25 (0, 0)) (by (with_reducible repeat (first | refine blk_drewN ?_ _ | refine blk_drew ?_ | refine blk_alloc ?_ _)); exact BK109.out)) : gb109 ≠ gb110)); have n6_ := Aside0.mk ((by rw [hg]; exact Nat.ne_of_gt (blk_lt (g := gb109) (o := .cells #[.slice A0_0 l0_0.length c0_0, .slice A0_1 l0_1.length c0_1] 25 (0, 0)) (by (with_reducible repeat (first | refine blk_drewN ?_ _ | refine blk_drew ?_ | refine blk_alloc ?_ _)); exact BK109.out)) : gb110 ≠ gb109)); clear BK109; clear HB; have BK109 := n0_; have HB := n1_; have BK110 := n2_; have GW110 := n3_; have GE110 := n4_; have NB109_110 := n5_; have NB110_109 := n6_; clear n0_ n1_ n2_ n3_ n4_ n5_ n6_; clear hb hbox hg; have hnb12 := NB110_109.out; have hnc12 := NB109_110.out; have hcz13_0 : w11.cell? ⟨gb110, 0, none⟩ = some (.int .u8 a1_0) := (blk_cell BK110.out 0).trans rfl; have hcz13_1 : w11.cell? ⟨gb110, 1, none⟩ = some (.int .i64 a1_1) := (blk_cell BK110.out 1).trans rfl; have hcz13_2 : w11.cell? ⟨gb110, 2, none⟩ = some (.slice A1_2 l1_2.length c1_2) := (blk_cell BK110.out 2).trans rfl; have hcz13_3 : w11.cell? ⟨gb110, 3, none⟩ = some (.slice A1_3 l1_3.length c1_3) := (blk_cell BK110.out 3).trans rfl; have hcz13_4 : w11.cell? ⟨gb110, 4, none⟩ = some (.int .i64 a1_4) := (blk_cell BK110.out 4).trans rfl; have hcz13_5 : w11.cell? ⟨gb110, 5, none⟩ = some (.slice A1_5 l1_5.length c1_5) := (blk_cell BK110.out 5).trans rfl; have hcz13_6 : w11.cell? ⟨gb110, 6, none⟩ = some (.slice A1_6 l1_6.length c1_6) := (blk_cell BK110.out 6).trans rfl; have hfz13_0 := blk_frozen BK110.out 0; have hfz13_1 := blk_frozen BK110.out 1; have hfz13_2 := blk_frozen BK110.out 2; have hfz13_3 := blk_frozen BK110.out 3; have hfz13_4 := blk_frozen BK110.out 4; have hfz13_5 := blk_frozen BK110.out 5; have hfz13_6 := blk_frozen BK110.out 6; have hcz14_0 : w11.cell? ⟨gb109, 0, none⟩ = some (.slice A0_0 l0_0.length c0_0) := (blk_cell BK109.out 0).trans rfl; have hcz14_1 : w11.cell? ⟨gb109, 1, none⟩ = some (.slice A0_1 l0_1.length c0_1) := (blk_cell BK109.out 1).trans rfl; have hfz14_0 := blk_frozen BK109.out 0; have hfz14_1 := blk_frozen BK109.out 1))
        go_ret
        exact ⟨by first | rfl | (simp [errW_none, errW_some] <;> rfl) | (simp [*, errW_none, errW_some] <;> rfl), by repeat (first | (with_reducible first | exact HB.out | apply below_alloc | apply pw_below_drewN | apply below_drew1 | refine below_set ?_ GE109.out | refine below_set ?_ GE110.out) | exact HB.out)⟩
      · rw [if_neg c9] at H
        have c9b0 : decide ((l0_1.length : Int) ≤ a1_1) = false := decide_eq_false c9
        clear c9
        by_cases c15 : 0 ≤ a1_1
        · rw [if_pos c15] at H
          have c15b0 : decide (0 ≤ a1_1) = true := decide_eq_true c15
          clear c15
          by_cases c16 : a1_1 < (l0_1.length : Int)
          · rw [if_pos c16] at H
            have c16b0 : decide (a1_1 < (l0_1.length : Int)) = true := decide_eq_true c16
            clear c16
            by_cases c17 : (((rd_T71 l0_1 a1_1).f2).length : Int) = 0
            · rw [if_pos c17] at H
              have c17b0 : ((((rd_T71 l0_1 a1_1).f2).length : Int) == 0) = true := beq_iff_eq.mpr c17
              have c17b1 : ((((rd_T71 l0_1 a1_1).f2).length : Int) != 0) = false := bne_eq_false_iff_eq.mpr c17
              clear c17
              obtain rfl := Option.some.inj H
              go_enter Tryz.func27, Tryz.ntmps27
              go_wp2_with (first | ((with_reducible refine gate_dst (N := 2) rfl ?_); (try (refine gate_guard (by rfl) ?_; dsimp only)); refine box_event ?hg (N := 2) ?hd (cs := #[.slice A0_0 l0_0.length c0_0, .slice A0_1 l0_1.length c0_1]) (t := 25) ?hr ?_; (case hd => rfl); (case hg => rfl); (case hr => first | (go_simp; done) | (go_simp; rfl)); intro gb109 hg w18 hbox hb; have n0_ := Aside0.mk (below_step (by repeat (first | (with_reducible first | exact HB.out | apply below_alloc | apply pw_below_drewN | apply below_drew1) | exact HB.out)) hb); have n1_ := Aside0.mk (hbox); have n2_ := Aside0.mk ((by rw [hg]; exact (below_size (by repeat (first | (with_reducible first | exact HB.out | apply below_alloc | apply pw_below_drewN | apply below_drew1) | exact HB.out))) : w.heap.size ≤ gb109)); have n3_ := Aside0.mk ((by rw [hg]; exact (below_size (by repeat (first | (with_reducible first | exact HB.out | apply below_alloc | apply pw_below_drewN | apply below_drew1) | exact HB.out))) : w.heap.size ≤ gb109)); clear HB; have HB := n0_; have BK109 := n1_; have GW109 := n2_; have GE109 := n3_; clear n0_ n1_ n2_ n3_; clear hb hbox hg) | ((with_reducible refine gate_dst (N := 3) rfl ?_); (try (refine gate_guard (by rfl) ?_; dsimp only)); refine box_event ?hg (N := 3) ?hd (cs := #[.int .u8 a1_0, .int .i64 a1_1, .slice A1_2 l1_2.length c1_2, .slice A1_3 l1_3.length c1_3, .int .i64 a1_4, .slice A1_5 l1_5.length c1_5, .slice A1_6 l1_6.length c1_6]) (t := 40) ?hr ?_; (case hd => rfl); (case hg => rfl); (case hr => first | (go_simp; done) | (go_simp; rfl)); intro gb110 hg w19 hbox hb; have n0_ := Aside0.mk (blk_below (g := gb109) (o := .cells #[.slice A0_0 l0_0.length c0_0, .slice A0_1 l0_1.length c0_1] 25 (0, 0)) (by (with_reducible repeat (first | refine blk_drewN ?_ _ | refine blk_drew ?_ | refine blk_alloc ?_ _)); exact BK109.out) hb); have n1_ := Aside0.mk (below_step (by repeat (first | (with_reducible first | exact HB.out | apply below_alloc | apply pw_below_drewN | apply below_drew1 | refine below_set ?_ GE109.out) | exact HB.out)) hb); have n2_ := Aside0.mk (hbox); have n3_ := Aside0.mk ((by rw [hg]; exact (below_size (by repeat (first | (with_reducible first | exact HB.out | apply below_alloc | apply pw_below_drewN | apply below_drew1 | refine below_set ?_ GE109.out) | exact HB.out))) : w.heap.size ≤ gb110)); have n4_ := Aside0.mk ((by rw [hg]; exact (below_size (by repeat (first | (with_reducible first | exact HB.out | apply below_alloc | apply pw_below_drewN | apply below_drew1 | refine below_set ?_ GE109.out) | exact HB.out))) : w.heap.size ≤ gb110)); have n5_ := Aside0.mk ((by rw [hg]; exact Nat.ne_of_lt (blk_lt (g := gb109) (o := .cells #[.slice A0_0 l0_0.length c0_0, .slice A0_1 l0_1.length c0_1] 25 (0, 0)) (by (with_reducible repeat (first | refine blk_drewN ?_ _ | refine blk_drew ?_ | refine blk_alloc ?_ _)); exact BK109.out)) : gb109 ≠ gb110)); have n6_ := Aside0.mk ((by rw [hg]; exact Nat.ne_of_gt (blk_lt (g := gb109) (o := .cells #[.slice A0_0 l0_0.length c0_0, .slice A0_1 l0_1.length c0_1] 25 (0, 0)) (by (with_reducible repeat (first | refine blk_drewN ?_ _ | refine blk_drew ?_ | refine blk_alloc ?_ _)); exact BK109.out)) : gb110 ≠ gb109)); clear BK109; clear HB; have BK109 := n0_; have HB := n1_; have BK110 := n2_; have GW110 := n3_; have GE110 := n4_; have NB109_110 := n5_; have NB110_109 := n6_; clear n0_ n1_ n2_ n3_ n4_ n5_ n6_; clear hb hbox hg; have hnb20 := NB110_109.out; have hnc20 := NB109_110.out; have hcz21_0 : w19.cell? ⟨gb110, 0, none⟩ = some (.int .u8 a1_0) := (blk_cell BK110.out 0).trans rfl; have hcz21_1 : w19.cell? ⟨gb110, 1, none⟩ = some (.int .i64 a1_1) := (blk_cell BK110.out 1).trans rfl; have hcz21_2 : w19.cell? ⟨gb110, 2, none⟩ = some (.slice A1_2 l1_2.length c1_2) := (blk_cell BK110.out 2).trans rfl; have hcz21_3 : w19.cell? ⟨gb110, 3, none⟩ = some (.slice A1_3 l1_3.length c1_3) := (blk_cell BK110.out 3).trans rfl; have hcz21_4 : w19.cell? ⟨gb110, 4, none⟩ = some (.int .i64 a1_4) := (blk_cell BK110.out 4).trans rfl; have hcz21_5 : w19.cell? ⟨gb110, 5, none⟩ = some (.slice A1_5 l1_5.length c1_5) := (blk_cell BK110.out 5).trans rfl; have hcz21_6 : w19.cell? ⟨gb110, 6, none⟩ = some (.slice A1_6 l1_6.length c1_6) := (blk_cell BK110.out 6).trans rfl; have hfz21_0 := blk_frozen BK110.out 0; have hfz21_1 := blk_frozen BK110.out 1; have hfz21_2 := blk_frozen BK110.out 2; have hfz21_3 := blk_frozen BK110.out 3; have hfz21_4 := blk_frozen BK110.out 4; have hfz21_5 := blk_frozen BK110.out 5; have hfz21_6 := blk_frozen BK110.out 6; have hcz22_0 : w19.cell? ⟨gb109, 0, none⟩ = some (.slice A0_0 l0_0.length c0_0) := (blk_cell BK109.out 0).trans rfl; have hcz22_1 : w19.cell? ⟨gb109, 1, none⟩ = some (.slice A0_1 l0_1.length c0_1) := (blk_cell BK109.out 1).trans rfl; have hfz22_0 := blk_frozen BK109.out 0; have hfz22_1 := blk_frozen BK109.out 1; have p111 : 0 ≤ (a1_1 : Int) := of_decide_eq_true (by first | (with_reducible assumption) | assumption); have q111 : a1_1 < (l0_1.length : Int) := of_decide_eq_true (by first | (with_reducible assumption) | assumption); obtain ⟨ad111, A111_2, c111_2, A111_6, c111_6, e111, hx111_0, hx111_1, hx111_2, hx111_3, hx111_4, hx111_5, hx111_6, hl111_2, hi111_2, hl111_6, hi111_6⟩ := at_T71 HR0_1.out a1_1 p111 q111; cases e111; replace hx111_0 := (HB.out.cell (World.block_lt_of_cell? w _ hx111_0)).trans hx111_0; replace hx111_1 := (HB.out.cell (World.block_lt_of_cell? w _ hx111_1)).trans hx111_1; replace hx111_2 := (HB.out.cell (World.block_lt_of_cell? w _ hx111_2)).trans hx111_2; replace hx111_3 := (HB.out.cell (World.block_lt_of_cell? w _ hx111_3)).trans hx111_3; replace hx111_4 := (HB.out.cell (World.block_lt_of_cell? w _ hx111_4)).trans hx111_4; replace hx111_5 := (HB.out.cell (World.block_lt_of_cell? w _ hx111_5)).trans hx111_5; replace hx111_6 := (HB.out.cell (World.block_lt_of_cell? w _ hx111_6)).trans hx111_6; have HR111_2 := Aside0.mk hi111_2; have HC111_2 := Aside0.mk hl111_2; clear hi111_2 hl111_2; have HR111_6 := Aside0.mk hi111_6; have HC111_6 := Aside0.mk hl111_6; clear hi111_6 hl111_6; replace p111 := eq_true p111; replace q111 := eq_true q111))
              go_ret
              exact ⟨by first | rfl | (simp [errW_none, errW_some] <;> rfl) | (simp [*, errW_none, errW_some] <;> rfl), by repeat (first | (with_reducible first | exact HB.out | apply below_alloc | apply pw_below_drewN | apply below_drew1 | refine below_set ?_ GE109.out | refine below_set ?_ GE110.out) | exact HB.out)⟩
            · rw [if_neg c17] at H
              have c17b0 : ((((rd_T71 l0_1 a1_1).f2).length : Int) == 0) = false := beq_eq_false_iff_ne.mpr c17
              have c17b1 : ((((rd_T71 l0_1 a1_1).f2).length : Int) != 0) = true := bne_iff_ne.mpr c17
              have c17b2 : ¬ (((rd_T71 l0_1 a1_1).f2) = []) := fun h_ => c17 (by rw [h_]; rfl)
              by_cases c23 : 0 < (((rd_T71 l0_1 a1_1).f2).length : Int)
              · rw [if_pos c23] at H
                have c23b0 : decide (0 < (((rd_T71 l0_1 a1_1).f2).length : Int)) = true := decide_eq_true c23
                have c23b1 : decide (0 < ((rd_T71 l0_1 a1_1).f2).length) = true := decide_eq_true (by omega)
                clear c23
                obtain rfl := Option.some.inj H
                go_enter Tryz.func27, Tryz.ntmps27
                go_wp2_with (first | ((with_reducible refine gate_dst (N := 2) rfl ?_); (try (refine gate_guard (by rfl) ?_; dsimp only)); refine box_event ?hg (N := 2) ?hd (cs := #[.slice A0_0 l0_0.length c0_0, .slice A0_1 l0_1.length c0_1]) (t := 25) ?hr ?_; (case hd => rfl); (case hg => rfl); (case hr => first | (go_simp; done) | (go_simp; rfl)); intro gb109 hg w24 hbox hb; have n0_ := Aside0.mk (below_step (by repeat (first | (with_reducible first | exact HB.out | apply below_alloc | apply pw_below_drewN | apply below_drew1) | exact HB.out)) hb); have n1_ := Aside0.mk (hbox); have n2_ := Aside0.mk ((by rw [hg]; exact (below_size (by repeat (first | (with_reducible first | exact HB.out | apply below_alloc | apply pw_below_drewN | apply below_drew1) | exact HB.out))) : w.heap.size ≤ gb109)); have n3_ := Aside0.mk ((by rw [hg]; exact (below_size (by repeat (first | (with_reducible first | exact HB.out | apply below_alloc | apply pw_below_drewN | apply below_drew1) | exact HB.out))) : w.heap.size ≤ gb109)); clear HB; have HB := n0_; have BK109 := n1_; have GW109 := n2_; have GE109 := n3_; clear n0_ n1_ n2_ n3_; clear hb hbox hg) | ((with_reducible refine gate_dst (N := 3) rfl ?_); (try (refine gate_guard (by rfl) ?_; dsimp only)); refine box_event ?hg (N := 3) ?hd (cs := #[.int .u8 a1_0, .int .i64 a1_1, .slice A1_2 l1_2.length c1_2, .slice A1_3 l1_3.length c1_3, .int .i64 a1_4, .slice A1_5 l1_5.length c1_5, .slice A1_6 l1_6.length c1_6]) (t := 40) ?hr ?_; (case hd => rfl); (case hg => rfl); (case hr => first | (go_simp; done) | (go_simp; rfl)); intro gb110 hg w25 hbox hb; have n0_ := Aside0.mk (blk_below (g := gb109) (o := .cells #[.slice A0_0 l0_0.length c0_0, .slice A0_1 l0_1.length c0_1] 25 (0, 0)) (by (with_reducible repeat (first | refine blk_drewN ?_ _ | refine blk_drew ?_ | refine blk_alloc ?_ _)); exact BK109.out) hb); have n1_ := Aside0.mk (below_step (by repeat (first | (with_reducible first | exact HB.out | apply below_alloc | apply pw_below_drewN | apply below_drew1 | refine below_set ?_ GE109.out) | exact HB.out)) hb); have n2_ := Aside0.mk (hbox); have n3_ := Aside0.mk ((by rw [hg]; exact (below_size (by repeat (first | (with_reducible first | exact HB.out | apply below_alloc | apply pw_below_drewN | apply below_drew1 | refine below_set ?_ GE109.out) | exact HB.out))) : w.heap.size ≤ gb110)); have n4_ := Aside0.mk ((by rw [hg]; exact (below_size (by repeat (first | (with_reducible first | exact HB.out | apply below_alloc | apply pw_below_drewN | apply below_drew1 | refine below_set ?_ GE109.out) | exact HB.out))) : w.heap.size ≤ gb110)); have n5_ := Aside0.mk ((by rw [hg]; exact Nat.ne_of_lt (blk_lt (g := gb109) (o := .cells #[.slice A0_0 l0_0.length c0_0, .slice A0_1 l0_1.length c0_1] 25 (0, 0)) (by (with_reducible repeat (first | refine blk_drewN ?_ _ | refine blk_drew ?_ | refine blk_alloc ?_ _)); exact BK109.out)) : gb109 ≠ gb110)); have n6_ := Aside0.mk ((by rw [hg]; exact Nat.ne_of_gt (blk_lt (g := gb109) (o := .cells #[.slice A0_0 l0_0.length c0_0, .slice A0_1 l0_1.length c0_1] 25 (0, 0)) (by (with_reducible repeat (first | refine blk_drewN ?_ _ | refine blk_drew ?_ | refine blk_alloc ?_ _)); exact BK109.out)) : gb110 ≠ gb109)); clear BK109; clear HB; have BK109 := n0_; have HB := n1_; have BK110 := n2_; have GW110 := n3_; have GE110 := n4_; have NB109_110 := n5_; have NB110_109 := n6_; clear n0_ n1_ n2_ n3_ n4_ n5_ n6_; clear hb hbox hg; have hnb26 := NB110_109.out; have hnc26 := NB109_110.out; have hcz27_0 : w25.cell? ⟨gb110, 0, none⟩ = some (.int .u8 a1_0) := (blk_cell BK110.out 0).trans rfl; have hcz27_1 : w25.cell? ⟨gb110, 1, none⟩ = some (.int .i64 a1_1) := (blk_cell BK110.out 1).trans rfl; have hcz27_2 : w25.cell? ⟨gb110, 2, none⟩ = some (.slice A1_2 l1_2.length c1_2) := (blk_cell BK110.out 2).trans rfl; have hcz27_3 : w25.cell? ⟨gb110, 3, none⟩ = some (.slice A1_3 l1_3.length c1_3) := (blk_cell BK110.out 3).trans rfl; have hcz27_4 : w25.cell? ⟨gb110, 4, none⟩ = some (.int .i64 a1_4) := (blk_cell BK110.out 4).trans rfl; have hcz27_5 : w25.cell? ⟨gb110, 5, none⟩ = some (.slice A1_5 l1_5.length c1_5) := (blk_cell BK110.out 5).trans rfl; have hcz27_6 : w25.cell? ⟨gb110, 6, none⟩ = some (.slice A1_6 l1_6.length c1_6) := (blk_cell BK110.out 6).trans rfl; have hfz27_0 := blk_frozen BK110.out 0; have hfz27_1 := blk_frozen BK110.out 1; have hfz27_2 := blk_frozen BK110.out 2; have hfz27_3 := blk_frozen BK110.out 3; have hfz27_4 := blk_frozen BK110.out 4; have hfz27_5 := blk_frozen BK110.out 5; have hfz27_6 := blk_frozen BK110.out 6; have hcz28_0 : w25.cell? ⟨gb109, 0, none⟩ = some (.slice A0_0 l0_0.length c0_0) := (blk_cell BK109.out 0).trans rfl; have hcz28_1 : w25.cell? ⟨gb109, 1, none⟩ = some (.slice A0_1 l0_1.length c0_1) := (blk_cell BK109.out 1).trans rfl; have hfz28_0 := blk_frozen BK109.out 0; have hfz28_1 := blk_frozen BK109.out 1; have p111 : 0 ≤ (a1_1 : Int) := of_decide_eq_true (by first | (with_reducible assumption) | assumption); have q111 : a1_1 < (l0_1.length : Int) := of_decide_eq_true (by first | (with_reducible assumption) | assumption); obtain ⟨ad111, A111_2, c111_2, A111_6, c111_6, e111, hx111_0, hx111_1, hx111_2, hx111_3, hx111_4, hx111_5, hx111_6, hl111_2, hi111_2, hl111_6, hi111_6⟩ := at_T71 HR0_1.out a1_1 p111 q111; cases e111; replace hx111_0 := (HB.out.cell (World.block_lt_of_cell? w _ hx111_0)).trans hx111_0; replace hx111_1 := (HB.out.cell (World.block_lt_of_cell? w _ hx111_1)).trans hx111_1; replace hx111_2 := (HB.out.cell (World.block_lt_of_cell? w _ hx111_2)).trans hx111_2; replace hx111_3 := (HB.out.cell (World.block_lt_of_cell? w _ hx111_3)).trans hx111_3; replace hx111_4 := (HB.out.cell (World.block_lt_of_cell? w _ hx111_4)).trans hx111_4; replace hx111_5 := (HB.out.cell (World.block_lt_of_cell? w _ hx111_5)).trans hx111_5; replace hx111_6 := (HB.out.cell (World.block_lt_of_cell? w _ hx111_6)).trans hx111_6; have HR111_2 := Aside0.mk hi111_2; have HC111_2 := Aside0.mk hl111_2; clear hi111_2 hl111_2; have HR111_6 := Aside0.mk hi111_6; have HC111_6 := Aside0.mk hl111_6; clear hi111_6 hl111_6; replace p111 := eq_true p111; replace q111 := eq_true q111; have p112 : 0 ≤ (a1_1 : Int) := of_decide_eq_true (by first | (with_reducible assumption) | assumption); have q112 : a1_1 < (l0_1.length : Int) := of_decide_eq_true (by first | (with_reducible assumption) | assumption); obtain ⟨ad112, A112_2, c112_2, A112_6, c112_6, e112, hx112_0, hx112_1, hx112_2, hx112_3, hx112_4, hx112_5, hx112_6, hl112_2, hi112_2, hl112_6, hi112_6⟩ := at_T71 HR0_1.out a1_1 p112 q112; obtain rfl : ad111 = ad112 := (by injection e112); replace hx112_0 := (HB.out.cell (World.block_lt_of_cell? w _ hx112_0)).trans hx112_0; replace hx112_1 := (HB.out.cell (World.block_lt_of_cell? w _ hx112_1)).trans hx112_1; replace hx112_2 := (HB.out.cell (World.block_lt_of_cell? w _ hx112_2)).trans hx112_2; replace hx112_3 := (HB.out.cell (World.block_lt_of_cell? w _ hx112_3)).trans hx112_3; replace hx112_4 := (HB.out.cell (World.block_lt_of_cell? w _ hx112_4)).trans hx112_4; replace hx112_5 := (HB.out.cell (World.block_lt_of_cell? w _ hx112_5)).trans hx112_5; replace hx112_6 := (HB.out.cell (World.block_lt_of_cell? w _ hx112_6)).trans hx112_6; have HR112_2 := Aside0.mk hi112_2; have HC112_2 := Aside0.mk hl112_2; clear hi112_2 hl112_2; have HR112_6 := Aside0.mk hi112_6; have HC112_6 := Aside0.mk hl112_6; clear hi112_6 hl112_6; replace p112 := eq_true p112; replace q112 := eq_true q112; have ea_ := Option.some.inj (hx111_2.symm.trans hx112_2); injection ea_ with ea_ en_ ec_; subst ea_; subst ec_; clear en_; have ea_ := Option.some.inj (hx111_6.symm.trans hx112_6); injection ea_ with ea_ en_ ec_; subst ea_; subst ec_; clear en_; have p113 : 0 ≤ (0 : Int) := (by omega); have q113 : 0 < (((rd_T71 l0_1 a1_1).f2).length : Int) := of_decide_eq_true (by first | (with_reducible assumption) | assumption); obtain ⟨ad113, e113, hx113_0⟩ := Kd.at_int HR112_2.out 0 p113 q113; cases e113; have qi113 : (0 < ((rd_T71 l0_1 a1_1).f2).length) = True := eq_true (by omega); (try rw [show ((0 : Int)).toNat = 0 from rfl] at hx113_0); (try rw [Addr.add_zero'] at hx113_0); replace hx113_0 := (HB.out.cell (World.block_lt_of_cell? w _ hx113_0)).trans hx113_0; replace p113 := eq_true p113; replace q113 := eq_true q113))
                go_ret
                exact ⟨by first | rfl | (simp [errW_none, errW_some] <;> rfl) | (simp [*, errW_none, errW_some] <;> rfl), by repeat (first | (with_reducible first | exact HB.out | apply below_alloc | apply pw_below_drewN | apply below_drew1 | refine below_set ?_ GE109.out | refine below_set ?_ GE110.out) | exact HB.out)⟩
              · rw [if_neg c23] at H
                exact absurd H (by simp)
          · rw [if_neg c16] at H
            exact absurd H (by simp)
        · rw [if_neg c15] at H
          exact absurd H (by simp)
  · rw [if_neg c3] at H
    have c3b0 : (a1_0 == 1) = false := beq_eq_false_iff_ne.mpr c3
    have c3b1 : (a1_0 != 1) = true := bne_iff_ne.mpr c3
    by_cases c29 : a1_0 = 2
    · rw [if_pos c29] at H
      have c29b0 : (a1_0 == 2) = true := beq_iff_eq.mpr c29
      have c29b1 : (a1_0 != 2) = false := bne_eq_false_iff_eq.mpr c29
      clear c29
      by_cases c30 : a1_1 < 0
      · rw [if_pos c30] at H
        have c30b0 : decide (a1_1 < 0) = true := decide_eq_true c30
        clear c30
        obtain rfl := Option.some.inj H
        go_enter Tryz.func27, Tryz.ntmps27
        go_wp2_with (first | ((with_reducible refine gate_dst (N := 2) rfl ?_); (try (refine gate_guard (by rfl) ?_; dsimp only)); refine box_event ?hg (N := 2) ?hd (cs := #[.slice A0_0 l0_0.length c0_0, .slice A0_1 l0_1.length c0_1]) (t := 25) ?hr ?_; (case hd => rfl); (case hg => rfl); (case hr => first | (go_simp; done) | (go_simp; rfl)); intro gb109 hg w31 hbox hb; have n0_ := Aside0.mk (below_step (by repeat (first | (with_reducible first | exact HB.out | apply below_alloc | apply pw_below_drewN | apply below_drew1) | exact HB.out)) hb); have n1_ := Aside0.mk (hbox); have n2_ := Aside0.mk ((by rw [hg]; exact (below_size (by repeat (first | (with_reducible first | exact HB.out | apply below_alloc | apply pw_below_drewN | apply below_drew1) | exact HB.out))) : w.heap.size ≤ gb109)); have n3_ := Aside0.mk ((by rw [hg]; exact (below_size (by repeat (first | (with_reducible first | exact HB.out | apply below_alloc | apply pw_below_drewN | apply below_drew1) | exact HB.out))) : w.heap.size ≤ gb109)); clear HB; have HB := n0_; have BK109 := n1_; have GW109 := n2_; have GE109 := n3_; clear n0_ n1_ n2_ n3_; clear hb hbox hg) | ((with_reducible refine gate_dst (N := 3) rfl ?_); (try (refine gate_guard (by rfl) ?_; dsimp only)); refine box_event ?hg (N := 3) ?hd (cs := #[.int .u8 a1_0, .int .i64 a1_1, .slice A1_2 l1_2.length c1_2, .slice A1_3 l1_3.length c1_3, .int .i64 a1_4, .slice A1_5 l1_5.length c1_5, .slice A1_6 l1_6.length c1_6]) (t := 40) ?hr ?_; (case hd => rfl); (case hg => rfl); (case hr => first | (go_simp; done) | (go_simp; rfl)); intro gb110 hg w32 hbox hb; have n0_ := Aside0.mk (blk_below (g := gb109) (o := .cells #[.slice A0_0 l0_0.length c0_0, .slice A0_1 l0_1.length c0_1] 25 (0, 0)) (by (with_reducible repeat (first | refine blk_drewN ?_ _ | refine blk_drew ?_ | refine blk_alloc ?_ _)); exact BK109.out) hb); have n1_ := Aside0.mk (below_step (by repeat (first | (with_reducible first | exact HB.out | apply below_alloc | apply pw_below_drewN | apply below_drew1 | refine below_set ?_ GE109.out) | exact HB.out)) hb); have n2_ := Aside0.mk (hbox); have n3_ := Aside0.mk ((by rw [hg]; exact (below_size (by repeat (first | (with_reducible first | exact HB.out | apply below_alloc | apply pw_below_drewN | apply below_drew1 | refine below_set ?_ GE109.out) | exact HB.out))) : w.heap.size ≤ gb110)); have n4_ := Aside0.mk ((by rw [hg]; exact (below_size (by repeat (first | (with_reducible first | exact HB.out | apply below_alloc | apply pw_below_drewN | apply below_drew1 | refine below_set ?_ GE109.out) | exact HB.out))) : w.heap.size ≤ gb110)); have n5_ := Aside0.mk ((by rw [hg]; exact Nat.ne_of_lt (blk_lt (g := gb109) (o := .cells #[.slice A0_0 l0_0.length c0_0, .slice A0_1 l0_1.length c0_1] 25 (0, 0)) (by (with_reducible repeat (first | refine blk_drewN ?_ _ | refine blk_drew ?_ | refine blk_alloc ?_ _)); exact BK109.out)) : gb109 ≠ gb110)); have n6_ := Aside0.mk ((by rw [hg]; exact Nat.ne_of_gt (blk_lt (g := gb109) (o := .cells #[.slice A0_0 l0_0.length c0_0, .slice A0_1 l0_1.length c0_1] 25 (0, 0)) (by (with_reducible repeat (first | refine blk_drewN ?_ _ | refine blk_drew ?_ | refine blk_alloc ?_ _)); exact BK109.out)) : gb110 ≠ gb109)); clear BK109; clear HB; have BK109 := n0_; have HB := n1_; have BK110 := n2_; have GW110 := n3_; have GE110 := n4_; have NB109_110 := n5_; have NB110_109 := n6_; clear n0_ n1_ n2_ n3_ n4_ n5_ n6_; clear hb hbox hg; have hnb33 := NB110_109.out; have hnc33 := NB109_110.out; have hcz34_0 : w32.cell? ⟨gb110, 0, none⟩ = some (.int .u8 a1_0) := (blk_cell BK110.out 0).trans rfl; have hcz34_1 : w32.cell? ⟨gb110, 1, none⟩ = some (.int .i64 a1_1) := (blk_cell BK110.out 1).trans rfl; have hcz34_2 : w32.cell? ⟨gb110, 2, none⟩ = some (.slice A1_2 l1_2.length c1_2) := (blk_cell BK110.out 2).trans rfl; have hcz34_3 : w32.cell? ⟨gb110, 3, none⟩ = some (.slice A1_3 l1_3.length c1_3) := (blk_cell BK110.out 3).trans rfl; have hcz34_4 : w32.cell? ⟨gb110, 4, none⟩ = some (.int .i64 a1_4) := (blk_cell BK110.out 4).trans rfl; have hcz34_5 : w32.cell? ⟨gb110, 5, none⟩ = some (.slice A1_5 l1_5.length c1_5) := (blk_cell BK110.out 5).trans rfl; have hcz34_6 : w32.cell? ⟨gb110, 6, none⟩ = some (.slice A1_6 l1_6.length c1_6) := (blk_cell BK110.out 6).trans rfl; have hfz34_0 := blk_frozen BK110.out 0; have hfz34_1 := blk_frozen BK110.out 1; have hfz34_2 := blk_frozen BK110.out 2; have hfz34_3 := blk_frozen BK110.out 3; have hfz34_4 := blk_frozen BK110.out 4; have hfz34_5 := blk_frozen BK110.out 5; have hfz34_6 := blk_frozen BK110.out 6))
        go_ret
        exact ⟨by first | rfl | (simp [errW_none, errW_some] <;> rfl) | (simp [*, errW_none, errW_some] <;> rfl), by repeat (first | (with_reducible first | exact HB.out | apply below_alloc | apply pw_below_drewN | apply below_drew1 | refine below_set ?_ GE109.out | refine below_set ?_ GE110.out) | exact HB.out)⟩
      · rw [if_neg c30] at H
        have c30b0 : decide (a1_1 < 0) = false := decide_eq_false c30
        clear c30
        by_cases c35 : a1_1 ≥ (l0_1.length : Int)
        · rw [if_pos c35] at H
          have c35b0 : decide ((l0_1.length : Int) ≤ a1_1) = true := decide_eq_true c35
          clear c35
          obtain rfl := Option.some.inj H
          go_enter Tryz.func27, Tryz.ntmps27
          go_wp2_with (first | ((with_reducible refine gate_dst (N := 2) rfl ?_); (try (refine gate_guard (by rfl) ?_; dsimp only)); refine box_event ?hg (N := 2) ?hd (cs := #[.slice A0_0 l0_0.length c0_0, .slice A0_1 l0_1.length c0_1]) (t := 25) ?hr ?_; (case hd => rfl); (case hg => rfl); (case hr => first | (go_simp; done) | (go_simp; rfl)); intro gb109 hg w36 hbox hb; have n0_ := Aside0.mk (below_step (by repeat (first | (with_reducible first | exact HB.out | apply below_alloc | apply pw_below_drewN | apply below_drew1) | exact HB.out)) hb); have n1_ := Aside0.mk (hbox); have n2_ := Aside0.mk ((by rw [hg]; exact (below_size (by repeat (first | (with_reducible first | exact HB.out | apply below_alloc | apply pw_below_drewN | apply below_drew1) | exact HB.out))) : w.heap.size ≤ gb109)); have n3_ := Aside0.mk ((by rw [hg]; exact (below_size (by repeat (first | (with_reducible first | exact HB.out | apply below_alloc | apply pw_below_drewN | apply below_drew1) | exact HB.out))) : w.heap.size ≤ gb109)); clear HB; have HB := n0_; have BK109 := n1_; have GW109 := n2_; have GE109 := n3_; clear n0_ n1_ n2_ n3_; clear hb hbox hg) | ((with_reducible refine gate_dst (N := 3) rfl ?_); (try (refine gate_guard (by rfl) ?_; dsimp only)); refine box_event ?hg (N := 3) ?hd (cs := #[.int .u8 a1_0, .int .i64 a1_1, .slice A1_2 l1_2.length c1_2, .slice A1_3 l1_3.length c1_3, .int .i64 a1_4, .slice A1_5 l1_5.length c1_5, .slice A1_6 l1_6.length c1_6]) (t := 40) ?hr ?_; (case hd => rfl); (case hg => rfl); (case hr => first | (go_simp; done) | (go_simp; rfl)); intro gb110 hg w37 hbox hb; have n0_ := Aside0.mk (blk_below (g := gb109) (o := .cells #[.slice A0_0 l0_0.length c0_0, .slice A0_1 l0_1.length c0_1] 25 (0, 0)) (by (with_reducible repeat (first | refine blk_drewN ?_ _ | refine blk_drew ?_ | refine blk_alloc ?_ _)); exact BK109.out) hb); have n1_ := Aside0.mk (below_step (by repeat (first | (with_reducible first | exact HB.out | apply below_alloc | apply pw_below_drewN | apply below_drew1 | refine below_set ?_ GE109.out) | exact HB.out)) hb); have n2_ := Aside0.mk (hbox); have n3_ := Aside0.mk ((by rw [hg]; exact (below_size (by repeat (first | (with_reducible first | exact HB.out | apply below_alloc | apply pw_below_drewN | apply below_drew1 | refine below_set ?_ GE109.out) | exact HB.out))) : w.heap.size ≤ gb110)); have n4_ := Aside0.mk ((by rw [hg]; exact (below_size (by repeat (first | (with_reducible first | exact HB.out | apply below_alloc | apply pw_below_drewN | apply below_drew1 | refine below_set ?_ GE109.out) | exact HB.out))) : w.heap.size ≤ gb110)); have n5_ := Aside0.mk ((by rw [hg]; exact Nat.ne_of_lt (blk_lt (g := gb109) (o := .cells #[.slice A0_0 l0_0.length c0_0, .slice A0_1 l0_1.length c0_1] 25 (0, 0)) (by (with_reducible repeat (first | refine blk_drewN ?_ _ | refine blk_drew ?_ | refine blk_alloc ?_ _)); exact BK109.out)) : gb109 ≠ gb110)); have n6_ := Aside0.mk ((by rw [hg]; exact Nat.ne_of_gt (blk_lt (g := gb109) (o := .cells #[.slice A0_0 l0_0.length c0_0, .slice A0_1 l0_1.length c0_1] 25 (0, 0)) (by (with_reducible repeat (first | refine blk_drewN ?_ _ | refine blk_drew ?_ | refine blk_alloc ?_ _)); exact BK109.out)) : gb110 ≠ gb109)); clear BK109; clear HB; have BK109 := n0_; have HB := n1_; have BK110 := n2_; have GW110 := n3_; have GE110 := n4_; have NB109_110 := n5_; have NB110_109 := n6_; clear n0_ n1_ n2_ n3_ n4_ n5_ n6_; clear hb hbox hg; have hnb38 := NB110_109.out; have hnc38 := NB109_110.out; have hcz39_0 : w37.cell? ⟨gb110, 0, none⟩ = some (.int .u8 a1_0) := (blk_cell BK110.out 0).trans rfl; have hcz39_1 : w37.cell? ⟨gb110, 1, none⟩ = some (.int .i64 a1_1) := (blk_cell BK110.out 1).trans rfl; have hcz39_2 : w37.cell? ⟨gb110, 2, none⟩ = some (.slice A1_2 l1_2.length c1_2) := (blk_cell BK110.out 2).trans rfl; have hcz39_3 : w37.cell? ⟨gb110, 3, none⟩ = some (.slice A1_3 l1_3.length c1_3) := (blk_cell BK110.out 3).trans rfl; have hcz39_4 : w37.cell? ⟨gb110, 4, none⟩ = some (.int .i64 a1_4) := (blk_cell BK110.out 4).trans rfl; have hcz39_5 : w37.cell? ⟨gb110, 5, none⟩ = some (.slice A1_5 l1_5.length c1_5) := (blk_cell BK110.out 5).trans rfl; have hcz39_6 : w37.cell? ⟨gb110, 6, none⟩ = some (.slice A1_6 l1_6.length c1_6) := (blk_cell BK110.out 6).trans rfl; have hfz39_0 := blk_frozen BK110.out 0; have hfz39_1 := blk_frozen BK110.out 1; have hfz39_2 := blk_frozen BK110.out 2; have hfz39_3 := blk_frozen BK110.out 3; have hfz39_4 := blk_frozen BK110.out 4; have hfz39_5 := blk_frozen BK110.out 5; have hfz39_6 := blk_frozen BK110.out 6; have hcz40_0 : w37.cell? ⟨gb109, 0, none⟩ = some (.slice A0_0 l0_0.length c0_0) := (blk_cell BK109.out 0).trans rfl; have hcz40_1 : w37.cell? ⟨gb109, 1, none⟩ = some (.slice A0_1 l0_1.length c0_1) := (blk_cell BK109.out 1).trans rfl; have hfz40_0 := blk_frozen BK109.out 0; have hfz40_1 := blk_frozen BK109.out 1))
          go_ret
          exact ⟨by first | rfl | (simp [errW_none, errW_some] <;> rfl) | (simp [*, errW_none, errW_some] <;> rfl), by repeat (first | (with_reducible first | exact HB.out | apply below_alloc | apply pw_below_drewN | apply below_drew1 | refine below_set ?_ GE109.out | refine below_set ?_ GE110.out) | exact HB.out)⟩
        · rw [if_neg c35] at H
          have c35b0 : decide ((l0_1.length : Int) ≤ a1_1) = false := decide_eq_false c35
          clear c35
          by_cases c41 : 0 ≤ a1_1
          · rw [if_pos c41] at H
            have c41b0 : decide (0 ≤ a1_1) = true := decide_eq_true c41
            clear c41
            by_cases c42 : a1_1 < (l0_1.length : Int)
            · rw [if_pos c42] at H
              have c42b0 : decide (a1_1 < (l0_1.length : Int)) = true := decide_eq_true c42
              clear c42
              by_cases c43 : (((rd_T71 l0_1 a1_1).f2).length : Int) = 0
              · rw [if_pos c43] at H
                have c43b0 : ((((rd_T71 l0_1 a1_1).f2).length : Int) == 0) = true := beq_iff_eq.mpr c43
                have c43b1 : ((((rd_T71 l0_1 a1_1).f2).length : Int) != 0) = false := bne_eq_false_iff_eq.mpr c43
                clear c43
                obtain rfl := Option.some.inj H
                go_enter Tryz.func27, Tryz.ntmps27
                go_wp2_with (first | ((with_reducible refine gate_dst (N := 2) rfl ?_); (try (refine gate_guard (by rfl) ?_; dsimp only)); refine box_event ?hg (N := 2) ?hd (cs := #[.slice A0_0 l0_0.length c0_0, .slice A0_1 l0_1.length c0_1]) (t := 25) ?hr ?_; (case hd => rfl); (case hg => rfl); (case hr => first | (go_simp; done) | (go_simp; rfl)); intro gb109 hg w44 hbox hb; have n0_ := Aside0.mk (below_step (by repeat (first | (with_reducible first | exact HB.out | apply below_alloc | apply pw_below_drewN | apply below_drew1) | exact HB.out)) hb); have n1_ := Aside0.mk (hbox); have n2_ := Aside0.mk ((by rw [hg]; exact (below_size (by repeat (first | (with_reducible first | exact HB.out | apply below_alloc | apply pw_below_drewN | apply below_drew1) | exact HB.out))) : w.heap.size ≤ gb109)); have n3_ := Aside0.mk ((by rw [hg]; exact (below_size (by repeat (first | (with_reducible first | exact HB.out | apply below_alloc | apply pw_below_drewN | apply below_drew1) | exact HB.out))) : w.heap.size ≤ gb109)); clear HB; have HB := n0_; have BK109 := n1_; have GW109 := n2_; have GE109 := n3_; clear n0_ n1_ n2_ n3_; clear hb hbox hg) | ((with_reducible refine gate_dst (N := 3) rfl ?_); (try (refine gate_guard (by rfl) ?_; dsimp only)); refine box_event ?hg (N := 3) ?hd (cs := #[.int .u8 a1_0, .int .i64 a1_1, .slice A1_2 l1_2.length c1_2, .slice A1_3 l1_3.length c1_3, .int .i64 a1_4, .slice A1_5 l1_5.length c1_5, .slice A1_6 l1_6.length c1_6]) (t := 40) ?hr ?_; (case hd => rfl); (case hg => rfl); (case hr => first | (go_simp; done) | (go_simp; rfl)); intro gb110 hg w45 hbox hb; have n0_ := Aside0.mk (blk_below (g := gb109) (o := .cells #[.slice A0_0 l0_0.length c0_0, .slice A0_1 l0_1.length c0_1] 25 (0, 0)) (by (with_reducible repeat (first | refine blk_drewN ?_ _ | refine blk_drew ?_ | refine blk_alloc ?_ _)); exact BK109.out) hb); have n1_ := Aside0.mk (below_step (by repeat (first | (with_reducible first | exact HB.out | apply below_alloc | apply pw_below_drewN | apply below_drew1 | refine below_set ?_ GE109.out) | exact HB.out)) hb); have n2_ := Aside0.mk (hbox); have n3_ := Aside0.mk ((by rw [hg]; exact (below_size (by repeat (first | (with_reducible first | exact HB.out | apply below_alloc | apply pw_below_drewN | apply below_drew1 | refine below_set ?_ GE109.out) | exact HB.out))) : w.heap.size ≤ gb110)); have n4_ := Aside0.mk ((by rw [hg]; exact (below_size (by repeat (first | (with_reducible first | exact HB.out | apply below_alloc | apply pw_below_drewN | apply below_drew1 | refine below_set ?_ GE109.out) | exact HB.out))) : w.heap.size ≤ gb110)); have n5_ := Aside0.mk ((by rw [hg]; exact Nat.ne_of_lt (blk_lt (g := gb109) (o := .cells #[.slice A0_0 l0_0.length c0_0, .slice A0_1 l0_1.length c0_1] 25 (0, 0)) (by (with_reducible repeat (first | refine blk_drewN ?_ _ | refine blk_drew ?_ | refine blk_alloc ?_ _)); exact BK109.out)) : gb109 ≠ gb110)); have n6_ := Aside0.mk ((by rw [hg]; exact Nat.ne_of_gt (blk_lt (g := gb109) (o := .cells #[.slice A0_0 l0_0.length c0_0, .slice A0_1 l0_1.length c0_1] 25 (0, 0)) (by (with_reducible repeat (first | refine blk_drewN ?_ _ | refine blk_drew ?_ | refine blk_alloc ?_ _)); exact BK109.out)) : gb110 ≠ gb109)); clear BK109; clear HB; have BK109 := n0_; have HB := n1_; have BK110 := n2_; have GW110 := n3_; have GE110 := n4_; have NB109_110 := n5_; have NB110_109 := n6_; clear n0_ n1_ n2_ n3_ n4_ n5_ n6_; clear hb hbox hg; have hnb46 := NB110_109.out; have hnc46 := NB109_110.out; have hcz47_0 : w45.cell? ⟨gb110, 0, none⟩ = some (.int .u8 a1_0) := (blk_cell BK110.out 0).trans rfl; have hcz47_1 : w45.cell? ⟨gb110, 1, none⟩ = some (.int .i64 a1_1) := (blk_cell BK110.out 1).trans rfl; have hcz47_2 : w45.cell? ⟨gb110, 2, none⟩ = some (.slice A1_2 l1_2.length c1_2) := (blk_cell BK110.out 2).trans rfl; have hcz47_3 : w45.cell? ⟨gb110, 3, none⟩ = some (.slice A1_3 l1_3.length c1_3) := (blk_cell BK110.out 3).trans rfl; have hcz47_4 : w45.cell? ⟨gb110, 4, none⟩ = some (.int .i64 a1_4) := (blk_cell BK110.out 4).trans rfl; have hcz47_5 : w45.cell? ⟨gb110, 5, none⟩ = some (.slice A1_5 l1_5.length c1_5) := (blk_cell BK110.out 5).trans rfl; have hcz47_6 : w45.cell? ⟨gb110, 6, none⟩ = some (.slice A1_6 l1_6.length c1_6) := (blk_cell BK110.out 6).trans rfl; have hfz47_0 := blk_frozen BK110.out 0; have hfz47_1 := blk_frozen BK110.out 1; have hfz47_2 := blk_frozen BK110.out 2; have hfz47_3 := blk_frozen BK110.out 3; have hfz47_4 := blk_frozen BK110.out 4; have hfz47_5 := blk_frozen BK110.out 5; have hfz47_6 := blk_frozen BK110.out 6; have hcz48_0 : w45.cell? ⟨gb109, 0, none⟩ = some (.slice A0_0 l0_0.length c0_0) := (blk_cell BK109.out 0).trans rfl; have hcz48_1 : w45.cell? ⟨gb109, 1, none⟩ = some (.slice A0_1 l0_1.length c0_1) := (blk_cell BK109.out 1).trans rfl; have hfz48_0 := blk_frozen BK109.out 0; have hfz48_1 := blk_frozen BK109.out 1; have p114 : 0 ≤ (a1_1 : Int) := of_decide_eq_true (by first | (with_reducible assumption) | assumption); have q114 : a1_1 < (l0_1.length : Int) := of_decide_eq_true (by first | (with_reducible assumption) | assumption); obtain ⟨ad114, A114_2, c114_2, A114_6, c114_6, e114, hx114_0, hx114_1, hx114_2, hx114_3, hx114_4, hx114_5, hx114_6, hl114_2, hi114_2, hl114_6, hi114_6⟩ := at_T71 HR0_1.out a1_1 p114 q114; cases e114; replace hx114_0 := (HB.out.cell (World.block_lt_of_cell? w _ hx114_0)).trans hx114_0; replace hx114_1 := (HB.out.cell (World.block_lt_of_cell? w _ hx114_1)).trans hx114_1; replace hx114_2 := (HB.out.cell (World.block_lt_of_cell? w _ hx114_2)).trans hx114_2; replace hx114_3 := (HB.out.cell (World.block_lt_of_cell? w _ hx114_3)).trans hx114_3; replace hx114_4 := (HB.out.cell (World.block_lt_of_cell? w _ hx114_4)).trans hx114_4; replace hx114_5 := (HB.out.cell (World.block_lt_of_cell? w _ hx114_5)).trans hx114_5; replace hx114_6 := (HB.out.cell (World.block_lt_of_cell? w _ hx114_6)).trans hx114_6; have HR114_2 := Aside0.mk hi114_2; have HC114_2 := Aside0.mk hl114_2; clear hi114_2 hl114_2; have HR114_6 := Aside0.mk hi114_6; have HC114_6 := Aside0.mk hl114_6; clear hi114_6 hl114_6; replace p114 := eq_true p114; replace q114 := eq_true q114))
                go_ret
                exact ⟨by first | rfl | (simp [errW_none, errW_some] <;> rfl) | (simp [*, errW_none, errW_some] <;> rfl), by repeat (first | (with_reducible first | exact HB.out | apply below_alloc | apply pw_below_drewN | apply below_drew1 | refine below_set ?_ GE109.out | refine below_set ?_ GE110.out) | exact HB.out)⟩
              · rw [if_neg c43] at H
                have c43b0 : ((((rd_T71 l0_1 a1_1).f2).length : Int) == 0) = false := beq_eq_false_iff_ne.mpr c43
                have c43b1 : ((((rd_T71 l0_1 a1_1).f2).length : Int) != 0) = true := bne_iff_ne.mpr c43
                have c43b2 : ¬ (((rd_T71 l0_1 a1_1).f2) = []) := fun h_ => c43 (by rw [h_]; rfl)
                by_cases c49 : 0 < (((rd_T71 l0_1 a1_1).f2).length : Int)
                · rw [if_pos c49] at H
                  have c49b0 : decide (0 < (((rd_T71 l0_1 a1_1).f2).length : Int)) = true := decide_eq_true c49
                  have c49b1 : decide (0 < ((rd_T71 l0_1 a1_1).f2).length) = true := decide_eq_true (by omega)
                  clear c49
                  obtain rfl := Option.some.inj H
                  go_enter Tryz.func27, Tryz.ntmps27
                  go_wp2_with (first | ((with_reducible refine gate_dst (N := 2) rfl ?_); (try (refine gate_guard (by rfl) ?_; dsimp only)); refine box_event ?hg (N := 2) ?hd (cs := #[.slice A0_0 l0_0.length c0_0, .slice A0_1 l0_1.length c0_1]) (t := 25) ?hr ?_; (case hd => rfl); (case hg => rfl); (case hr => first | (go_simp; done) | (go_simp; rfl)); intro gb109 hg w50 hbox hb; have n0_ := Aside0.mk (below_step (by repeat (first | (with_reducible first | exact HB.out | apply below_alloc | apply pw_below_drewN | apply below_drew1) | exact HB.out)) hb); have n1_ := Aside0.mk (hbox); have n2_ := Aside0.mk ((by rw [hg]; exact (below_size (by repeat (first | (with_reducible first | exact HB.out | apply below_alloc | apply pw_below_drewN | apply below_drew1) | exact HB.out))) : w.heap.size ≤ gb109)); have n3_ := Aside0.mk ((by rw [hg]; exact (below_size (by repeat (first | (with_reducible first | exact HB.out | apply below_alloc | apply pw_below_drewN | apply below_drew1) | exact HB.out))) : w.heap.size ≤ gb109)); clear HB; have HB := n0_; have BK109 := n1_; have GW109 := n2_; have GE109 := n3_; clear n0_ n1_ n2_ n3_; clear hb hbox hg) | ((with_reducible refine gate_dst (N := 3) rfl ?_); (try (refine gate_guard (by rfl) ?_; dsimp only)); refine box_event ?hg (N := 3) ?hd (cs := #[.int .u8 a1_0, .int .i64 a1_1, .slice A1_2 l1_2.length c1_2, .slice A1_3 l1_3.length c1_3, .int .i64 a1_4, .slice A1_5 l1_5.length c1_5, .slice A1_6 l1_6.length c1_6]) (t := 40) ?hr ?_; (case hd => rfl); (case hg => rfl); (case hr => first | (go_simp; done) | (go_simp; rfl)); intro gb110 hg w51 hbox hb; have n0_ := Aside0.mk (blk_below (g := gb109) (o := .cells #[.slice A0_0 l0_0.length c0_0, .slice A0_1 l0_1.length c0_1] 25 (0, 0)) (by (with_reducible repeat (first | refine blk_drewN ?_ _ | refine blk_drew ?_ | refine blk_alloc ?_ _)); exact BK109.out) hb); have n1_ := Aside0.mk (below_step (by repeat (first | (with_reducible first | exact HB.out | apply below_alloc | apply pw_below_drewN | apply below_drew1 | refine below_set ?_ GE109.out) | exact HB.out)) hb); have n2_ := Aside0.mk (hbox); have n3_ := Aside0.mk ((by rw [hg]; exact (below_size (by repeat (first | (with_reducible first | exact HB.out | apply below_alloc | apply pw_below_drewN | apply below_drew1 | refine below_set ?_ GE109.out) | exact HB.out))) : w.heap.size ≤ gb110)); have n4_ := Aside0.mk ((by rw [hg]; exact (below_size (by repeat (first | (with_reducible first | exact HB.out | apply below_alloc | apply pw_below_drewN | apply below_drew1 | refine below_set ?_ GE109.out) | exact HB.out))) : w.heap.size ≤ gb110)); have n5_ := Aside0.mk ((by rw [hg]; exact Nat.ne_of_lt (blk_lt (g := gb109) (o := .cells #[.slice A0_0 l0_0.length c0_0, .slice A0_1 l0_1.length c0_1] 25 (0, 0)) (by (with_reducible repeat (first | refine blk_drewN ?_ _ | refine blk_drew ?_ | refine blk_alloc ?_ _)); exact BK109.out)) : gb109 ≠ gb110)); have n6_ := Aside0.mk ((by rw [hg]; exact Nat.ne_of_gt (blk_lt (g := gb109) (o := .cells #[.slice A0_0 l0_0.length c0_0, .slice A0_1 l0_1.length c0_1] 25 (0, 0)) (by (with_reducible repeat (first | refine blk_drewN ?_ _ | refine blk_drew ?_ | refine blk_alloc ?_ _)); exact BK109.out)) : gb110 ≠ gb109)); clear BK109; clear HB; have BK109 := n0_; have HB := n1_; have BK110 := n2_; have GW110 := n3_; have GE110 := n4_; have NB109_110 := n5_; have NB110_109 := n6_; clear n0_ n1_ n2_ n3_ n4_ n5_ n6_; clear hb hbox hg; have hnb52 := NB110_109.out; have hnc52 := NB109_110.out; have hcz53_0 : w51.cell? ⟨gb110, 0, none⟩ = some (.int .u8 a1_0) := (blk_cell BK110.out 0).trans rfl; have hcz53_1 : w51.cell? ⟨gb110, 1, none⟩ = some (.int .i64 a1_1) := (blk_cell BK110.out 1).trans rfl; have hcz53_2 : w51.cell? ⟨gb110, 2, none⟩ = some (.slice A1_2 l1_2.length c1_2) := (blk_cell BK110.out 2).trans rfl; have hcz53_3 : w51.cell? ⟨gb110, 3, none⟩ = some (.slice A1_3 l1_3.length c1_3) := (blk_cell BK110.out 3).trans rfl; have hcz53_4 : w51.cell? ⟨gb110, 4, none⟩ = some (.int .i64 a1_4) := (blk_cell BK110.out 4).trans rfl; have hcz53_5 : w51.cell? ⟨gb110, 5, none⟩ = some (.slice A1_5 l1_5.length c1_5) := (blk_cell BK110.out 5).trans rfl; have hcz53_6 : w51.cell? ⟨gb110, 6, none⟩ = some (.slice A1_6 l1_6.length c1_6) := (blk_cell BK110.out 6).trans rfl; have hfz53_0 := blk_frozen BK110.out 0; have hfz53_1 := blk_frozen BK110.out 1; have hfz53_2 := blk_frozen BK110.out 2; have hfz53_3 := blk_frozen BK110.out 3; have hfz53_4 := blk_frozen BK110.out 4; have hfz53_5 := blk_frozen BK110.out 5; have hfz53_6 := blk_frozen BK110.out 6; have hcz54_0 : w51.cell? ⟨gb109, 0, none⟩ = some (.slice A0_0 l0_0.length c0_0) := (blk_cell BK109.out 0).trans rfl; have hcz54_1 : w51.cell? ⟨gb109, 1, none⟩ = some (.slice A0_1 l0_1.length c0_1) := (blk_cell BK109.out 1).trans rfl; have hfz54_0 := blk_frozen BK109.out 0; have hfz54_1 := blk_frozen BK109.out 1; have p114 : 0 ≤ (a1_1 : Int) := of_decide_eq_true (by first | (with_reducible assumption) | assumption); have q114 : a1_1 < (l0_1.length : Int) := of_decide_eq_true (by first | (with_reducible assumption) | assumption); obtain ⟨ad114, A114_2, c114_2, A114_6, c114_6, e114, hx114_0, hx114_1, hx114_2, hx114_3, hx114_4, hx114_5, hx114_6, hl114_2, hi114_2, hl114_6, hi114_6⟩ := at_T71 HR0_1.out a1_1 p114 q114; cases e114; replace hx114_0 := (HB.out.cell (World.block_lt_of_cell? w _ hx114_0)).trans hx114_0; replace hx114_1 := (HB.out.cell (World.block_lt_of_cell? w _ hx114_1)).trans hx114_1; replace hx114_2 := (HB.out.cell (World.block_lt_of_cell? w _ hx114_2)).trans hx114_2; replace hx114_3 := (HB.out.cell (World.block_lt_of_cell? w _ hx114_3)).trans hx114_3; replace hx114_4 := (HB.out.cell (World.block_lt_of_cell? w _ hx114_4)).trans hx114_4; replace hx114_5 := (HB.out.cell (World.block_lt_of_cell? w _ hx114_5)).trans hx114_5; replace hx114_6 := (HB.out.cell (World.block_lt_of_cell? w _ hx114_6)).trans hx114_6; have HR114_2 := Aside0.mk hi114_2; have HC114_2 := Aside0.mk hl114_2; clear hi114_2 hl114_2; have HR114_6 := Aside0.mk hi114_6; have HC114_6 := Aside0.mk hl114_6; clear hi114_6 hl114_6; replace p114 := eq_true p114; replace q114 := eq_true q114; have p115 : 0 ≤ (a1_1 : Int) := of_decide_eq_true (by first | (with_reducible assumption) | assumption); have q115 : a1_1 < (l0_1.length : Int) := of_decide_eq_true (by first | (with_reducible assumption) | assumption); obtain ⟨ad115, A115_2, c115_2, A115_6, c115_6, e115, hx115_0, hx115_1, hx115_2, hx115_3, hx115_4, hx115_5, hx115_6, hl115_2, hi115_2, hl115_6, hi115_6⟩ := at_T71 HR0_1.out a1_1 p115 q115; obtain rfl : ad114 = ad115 := (by injection e115); replace hx115_0 := (HB.out.cell (World.block_lt_of_cell? w _ hx115_0)).trans hx115_0; replace hx115_1 := (HB.out.cell (World.block_lt_of_cell? w _ hx115_1)).trans hx115_1; replace hx115_2 := (HB.out.cell (World.block_lt_of_cell? w _ hx115_2)).trans hx115_2; replace hx115_3 := (HB.out.cell (World.block_lt_of_cell? w _ hx115_3)).trans hx115_3; replace hx115_4 := (HB.out.cell (World.block_lt_of_cell? w _ hx115_4)).trans hx115_4; replace hx115_5 := (HB.out.cell (World.block_lt_of_cell? w _ hx115_5)).trans hx115_5; replace hx115_6 := (HB.out.cell (World.block_lt_of_cell? w _ hx115_6)).trans hx115_6; have HR115_2 := Aside0.mk hi115_2; have HC115_2 := Aside0.mk hl115_2; clear hi115_2 hl115_2; have HR115_6 := Aside0.mk hi115_6; have HC115_6 := Aside0.mk hl115_6; clear hi115_6 hl115_6; replace p115 := eq_true p115; replace q115 := eq_true q115; have ea_ := Option.some.inj (hx114_2.symm.trans hx115_2); injection ea_ with ea_ en_ ec_; subst ea_; subst ec_; clear en_; have ea_ := Option.some.inj (hx114_6.symm.trans hx115_6); injection ea_ with ea_ en_ ec_; subst ea_; subst ec_; clear en_; have p116 : 0 ≤ (0 : Int) := (by omega); have q116 : 0 < (((rd_T71 l0_1 a1_1).f2).length : Int) := of_decide_eq_true (by first | (with_reducible assumption) | assumption); obtain ⟨ad116, e116, hx116_0⟩ := Kd.at_int HR115_2.out 0 p116 q116; cases e116; have qi116 : (0 < ((rd_T71 l0_1 a1_1).f2).length) = True := eq_true (by omega); (try rw [show ((0 : Int)).toNat = 0 from rfl] at hx116_0); (try rw [Addr.add_zero'] at hx116_0); replace hx116_0 := (HB.out.cell (World.block_lt_of_cell? w _ hx116_0)).trans hx116_0; replace p116 := eq_true p116; replace q116 := eq_true q116))
                  go_ret
                  exact ⟨by first | rfl | (simp [errW_none, errW_some] <;> rfl) | (simp [*, errW_none, errW_some] <;> rfl), by repeat (first | (with_reducible first | exact HB.out | apply below_alloc | apply pw_below_drewN | apply below_drew1 | refine below_set ?_ GE109.out | refine below_set ?_ GE110.out) | exact HB.out)⟩
                · rw [if_neg c49] at H
                  exact absurd H (by simp)
            · rw [if_neg c42] at H
              exact absurd H (by simp)
          · rw [if_neg c41] at H
            exact absurd H (by simp)
    · rw [if_neg c29] at H
      have c29b0 : (a1_0 == 2) = false := beq_eq_false_iff_ne.mpr c29
      have c29b1 : (a1_0 != 2) = true := bne_iff_ne.mpr c29
      obtain rfl := Option.some.inj H
      go_enter Tryz.func27, Tryz.ntmps27
      go_wp2_with (first | ((with_reducible refine gate_dst (N := 2) rfl ?_); (try (refine gate_guard (by rfl) ?_; dsimp only)); refine box_event ?hg (N := 2) ?hd (cs := #[.slice A0_0 l0_0.length c0_0, .slice A0_1 l0_1.length c0_1]) (t := 25) ?hr ?_; (case hd => rfl); (case hg => rfl); (case hr => first | (go_simp; done) | (go_simp; rfl)); intro gb109 hg w55 hbox hb; have n0_ := Aside0.mk (below_step (by repeat (first | (with_reducible first | exact HB.out | apply below_alloc | apply pw_below_drewN | apply below_drew1) | exact HB.out)) hb); have n1_ := Aside0.mk (hbox); have n2_ := Aside0.mk ((by rw [hg]; exact (below_size (by repeat (first | (with_reducible first | exact HB.out | apply below_alloc | apply pw_below_drewN | apply below_drew1) | exact HB.out))) : w.heap.size ≤ gb109)); have n3_ := Aside0.mk ((by rw [hg]; exact (below_size (by repeat (first | (with_reducible first | exact HB.out | apply below_alloc | apply pw_below_drewN | apply below_drew1) | exact HB.out))) : w.heap.size ≤ gb109)); clear HB; have HB := n0_; have BK109 := n1_; have GW109 := n2_; have GE109 := n3_; clear n0_ n1_ n2_ n3_; clear hb hbox hg) | ((with_reducible refine gate_dst (N := 3) rfl ?_); (try (refine gate_guard (by rfl) ?_; dsimp only)); refine box_event ?hg (N := 3) ?hd (cs := #[.int .u8 a1_0, .int .i64 a1_1, .slice A1_2 l1_2.length c1_2, .slice A1_3 l1_3.length c1_3, .int .i64 a1_4, .slice A1_5 l1_5.length c1_5, .slice A1_6 l1_6.length c1_6]) (t := 40) ?hr ?_; (case hd => rfl); (case hg => rfl); (case hr => first | (go_simp; done) | (go_simp; rfl)); intro gb110 hg w56 hbox hb; have n0_ := Aside0.mk (blk_below (g := gb109) (o := .cells #[.slice A0_0 l0_0.length c0_0, .slice A0_1 l0_1.length c0_1] 25 (0, 0)) (by (with_reducible repeat (first | refine blk_drewN ?_ _ | refine blk_drew ?_ | refine blk_alloc ?_ _)); exact BK109.out) hb); have n1_ := Aside0.mk (below_step (by repeat (first | (with_reducible first | exact HB.out | apply below_alloc | apply pw_below_drewN | apply below_drew1 | refine below_set ?_ GE109.out) | exact HB.out)) hb); have n2_ := Aside0.mk (hbox); have n3_ := Aside0.mk ((by rw [hg]; exact (below_size (by repeat (first | (with_reducible first | exact HB.out | apply below_alloc | apply pw_below_drewN | apply below_drew1 | refine below_set ?_ GE109.out) | exact HB.out))) : w.heap.size ≤ gb110)); have n4_ := Aside0.mk ((by rw [hg]; exact (below_size (by repeat (first | (with_reducible first | exact HB.out | apply below_alloc | apply pw_below_drewN | apply below_drew1 | refine below_set ?_ GE109.out) | exact HB.out))) : w.heap.size ≤ gb110)); have n5_ := Aside0.mk ((by rw [hg]; exact Nat.ne_of_lt (blk_lt (g := gb109) (o := .cells #[.slice A0_0 l0_0.length c0_0, .slice A0_1 l0_1.length c0_1] 25 (0, 0)) (by (with_reducible repeat (first | refine blk_drewN ?_ _ | refine blk_drew ?_ | refine blk_alloc ?_ _)); exact BK109.out)) : gb109 ≠ gb110)); have n6_ := Aside0.mk ((by rw [hg]; exact Nat.ne_of_gt (blk_lt (g := gb109) (o := .cells #[.slice A0_0 l0_0.length c0_0, .slice A0_1 l0_1.length c0_1] 25 (0, 0)) (by (with_reducible repeat (first | refine blk_drewN ?_ _ | refine blk_drew ?_ | refine blk_alloc ?_ _)); exact BK109.out)) : gb110 ≠ gb109)); clear BK109; clear HB; have BK109 := n0_; have HB := n1_; have BK110 := n2_; have GW110 := n3_; have GE110 := n4_; have NB109_110 := n5_; have NB110_109 := n6_; clear n0_ n1_ n2_ n3_ n4_ n5_ n6_; clear hb hbox hg; have hnb57 := NB110_109.out; have hnc57 := NB109_110.out; have hcz58_0 : w56.cell? ⟨gb110, 0, none⟩ = some (.int .u8 a1_0) := (blk_cell BK110.out 0).trans rfl; have hcz58_1 : w56.cell? ⟨gb110, 1, none⟩ = some (.int .i64 a1_1) := (blk_cell BK110.out 1).trans rfl; have hcz58_2 : w56.cell? ⟨gb110, 2, none⟩ = some (.slice A1_2 l1_2.length c1_2) := (blk_cell BK110.out 2).trans rfl; have hcz58_3 : w56.cell? ⟨gb110, 3, none⟩ = some (.slice A1_3 l1_3.length c1_3) := (blk_cell BK110.out 3).trans rfl; have hcz58_4 : w56.cell? ⟨gb110, 4, none⟩ = some (.int .i64 a1_4) := (blk_cell BK110.out 4).trans rfl; have hcz58_5 : w56.cell? ⟨gb110, 5, none⟩ = some (.slice A1_5 l1_5.length c1_5) := (blk_cell BK110.out 5).trans rfl; have hcz58_6 : w56.cell? ⟨gb110, 6, none⟩ = some (.slice A1_6 l1_6.length c1_6) := (blk_cell BK110.out 6).trans rfl; have hfz58_0 := blk_frozen BK110.out 0; have hfz58_1 := blk_frozen BK110.out 1; have hfz58_2 := blk_frozen BK110.out 2; have hfz58_3 := blk_frozen BK110.out 3; have hfz58_4 := blk_frozen BK110.out 4; have hfz58_5 := blk_frozen BK110.out 5; have hfz58_6 := blk_frozen BK110.out 6))
      go_ret
      exact ⟨by first | rfl | (simp [errW_none, errW_some] <;> rfl) | (simp [*, errW_none, errW_some] <;> rfl), by repeat (first | (with_reducible first | exact HB.out | apply below_alloc | apply pw_below_drewN | apply below_drew1 | refine below_set ?_ GE109.out | refine below_set ?_ GE110.out) | exact HB.out)⟩

end Go.Proofs.YtilkoiilednekaaGreatDoor.PHPath
