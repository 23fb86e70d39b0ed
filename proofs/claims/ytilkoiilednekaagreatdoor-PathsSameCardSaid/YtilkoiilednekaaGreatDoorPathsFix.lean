/- The chapter's example of layer 22: one path where there is no index. -/
import Derived.Test.YtilkoiilednekaaGreatDoorSliceI
import Derived.Test.YtilkoiilednekaaGreatDoorHyb
import Derived.Deep.QuietTactic
import Derived.BigQuiet
import Derived.WalkKit
import Derived.WalkSmall
set_option linter.unusedVariables false
set_option linter.unusedSimpArgs false
namespace Go.Proofs.YtilkoiilednekaaGreatDoor
namespace PathsFix
open Go.RowKit Go.Proofs.YtilkoiilednekaaGreatDoorW.PrintWords

theorem keepC {W W' : World} {p : Addr} {v : Value} (hb : Below W.heap.size W W') (h : W.cell? p = some v) : W'.cell? p = some v := (hb.cell (World.block_lt_of_cell? W _ h)).trans h
theorem keepB {w W W' : World} (hb : Below W.heap.size W W') (h : Below w.heap.size w W) : Below w.heap.size w W' := h.trans (hb.mono h.size)

theorem belowN {B : Nat} {a w : World} (h : Below B a w) (n : Nat) : Below B a (w.drewN n) := ⟨h.os, h.tape, h.output, h.size, h.block⟩
/-- The example's block. -/
def blkV (bk : Nat) : Value := .agg #[.bool false, .slice (some ⟨bk, 0, none⟩) 1 1, .slice none 0 0, .slice none 0 0, .slice none 0 0, .slice none 0 0, .bool false, .slice none 0 0, .slice none 0 0, .slice none 0 0, .int .i64 0]

set_option maxHeartbeats 4000000 in
set_option maxRecDepth 100000 in
theorem Needed_calls (bk : Nat) (w : World) : Calls Tryz.prog 121 #[blkV bk, .int .i64 0] w fun e w' => ∃ v, e = .returned v ∧ Below w.heap.size w w' := by
  have i0 : ∀ W, (Instr.index 278 (.agg #[.slice none 0 0, .slice none 0 0, .slice none 0 0, .slice none 0 0]) (.int .i64 0)).run Tryz.prog W = .ok (.slice none 0 0) W := fun _ => by kernel_rfl
  have i1 : ∀ W, (Instr.index 278 (.agg #[.slice none 0 0, .slice none 0 0, .slice none 0 0, .slice none 0 0]) (.int .i64 1)).run Tryz.prog W = .ok (.slice none 0 0) W := fun _ => by kernel_rfl
  have i2 : ∀ W, (Instr.index 278 (.agg #[.slice none 0 0, .slice none 0 0, .slice none 0 0, .slice none 0 0]) (.int .i64 2)).run Tryz.prog W = .ok (.slice none 0 0) W := fun _ => by kernel_rfl
  have i3 : ∀ W, (Instr.index 278 (.agg #[.slice none 0 0, .slice none 0 0, .slice none 0 0, .slice none 0 0]) (.int .i64 3)).run Tryz.prog W = .ok (.slice none 0 0) W := fun _ => by kernel_rfl
  unfold blkV
  go_enter Tryz.func121, Tryz.ntmps121
  go_wp2
  go_loop [5, 21] (fun v5 v21 => ∃ k : Nat, k ≤ 4 ∧ v21 = .int .i64 k ∧ v5 = .slice none 0 0) (fun _ v21 => 4 - (intOf v21).toNat)
  case atStart => exact ⟨0, by omega, rfl, rfl⟩
  case round =>
    obtain ⟨k, hk, rfl, rfl⟩ := hrel
    have hk5 : k = 0 ∨ k = 1 ∨ k = 2 ∨ k = 3 ∨ k = 4 := by omega
    rcases hk5 with rfl | rfl | rfl | rfl | rfl
    · go_wp2
      go_loop [5, 26] (fun v5 v26 => v5 = .slice none 0 0 ∧ v26 = .int .i64 0) (fun _ _ => 0)
      case atStart => exact ⟨rfl, rfl⟩
      case round =>
        obtain ⟨rfl, rfl⟩ := hrel
        go_wp2
        go_round
        case rel => exact ⟨1, by omega, rfl, rfl⟩
        case measure => decide
    · go_wp2
      go_loop [5, 26] (fun v5 v26 => v5 = .slice none 0 0 ∧ v26 = .int .i64 0) (fun _ _ => 0)
      case atStart => exact ⟨rfl, rfl⟩
      case round =>
        obtain ⟨rfl, rfl⟩ := hrel
        go_wp2
        go_round
        case rel => exact ⟨2, by omega, rfl, rfl⟩
        case measure => decide
    · go_wp2
      go_loop [5, 26] (fun v5 v26 => v5 = .slice none 0 0 ∧ v26 = .int .i64 0) (fun _ _ => 0)
      case atStart => exact ⟨rfl, rfl⟩
      case round =>
        obtain ⟨rfl, rfl⟩ := hrel
        go_wp2
        go_round
        case rel => exact ⟨3, by omega, rfl, rfl⟩
        case measure => decide
    · go_wp2
      go_loop [5, 26] (fun v5 v26 => v5 = .slice none 0 0 ∧ v26 = .int .i64 0) (fun _ _ => 0)
      case atStart => exact ⟨rfl, rfl⟩
      case round =>
        obtain ⟨rfl, rfl⟩ := hrel
        go_wp2
        go_round
        case rel => exact ⟨4, by omega, rfl, rfl⟩
        case measure => decide
    · go_wp2_with (first | (go_at_call 73; refine (Tryz.slices_Sort_int_none _ _ _).mono ?_; rintro e w1 ⟨rfl, rfl⟩) | (go_at_call 74; refine (Tryz.slices_Compact_int_empty _ _ _).mono ?_; rintro e w2 ⟨rfl, rfl⟩))
      go_ret
      exact ⟨_, rfl, (Below.refl _ w).alloc (Nat.le_refl _) _⟩
set_option maxHeartbeats 8000000 in
set_option maxRecDepth 100000 in
theorem All_calls (bt bk : Nat) (w : World) (hc : w.cell? ⟨bk, 0, none⟩ = some (.int .i64 0)) : Calls Tryz.prog 66 #[.agg #[.slice (some ⟨bt, 0, none⟩) 1 1, .slice none 0 0], blkV bk, .int .i64 0] w fun e w' => ∃ v, e = .returned (.slice (some v) 1 1) ∧ Below w.heap.size w w' := by
  unfold blkV
  go_enter Tryz.func66, Tryz.ntmps66
  go_wp2
  have hlt := World.block_lt_of_cell? _ _ hc
  have hB1 : Below w.heap.size w ((w.alloc (Obj.cells #[Value.slice (some { block := bt, off := 0 }) 1 1, Value.slice none 0 0] 25)).alloc
      (Obj.cells
        #[Value.bool false, Value.slice (some { block := bk, off := 0 }) 1 1, Value.slice none 0 0,
          Value.slice none 0 0, Value.slice none 0 0, Value.slice none 0 0, Value.bool false, Value.slice none 0 0,
          Value.slice none 0 0, Value.slice none 0 0, Value.int IntKind.i64 0]
        32)) := ((Below.refl _ w).alloc (Nat.le_refl _) _).alloc (by simp) _
  have hc1 := (hB1.cell hlt).trans hc
  go_quiet (fail)
  go_wp2_with (go_at_call 121; refine (Needed_calls bk _).mono ?_; rintro e w1 ⟨v1, rfl, hB2⟩; have hc2 : w1.cell? ⟨w.heap.size, 1, none⟩ = some (.slice none 0 0) := keepC hB2 (by rw [World.cell?_alloc_past _ _ _ (by simp; omega), World.cell?_drewN, World.cell?_alloc_past _ _ _ (by simp), World.cell?_alloc_at _ _ _ _ rfl]; rfl); have hB3 : Below w.heap.size w w1 := keepB hB2 ((belowN hB1 _).alloc (by simp; omega) _); clear hB2)
  go_wp2
  go_loop [7, 9, 55] (fun v7 v9 v55 => v7 = .slice (some ⟨w.heap.size + 1 + 1, 0, none⟩) 1 1 ∧ v9 = .slice none 0 0 ∧ v55 = .int .i64 0) (fun _ _ _ => 0)
  case atStart => exact ⟨rfl, rfl, rfl⟩
  case round =>
    obtain ⟨rfl, rfl, rfl⟩ := hrel
    go_wp2
    go_loop [7, 104] (fun v7 v104 => v7 = .slice (some ⟨w.heap.size + 1 + 1, 0, none⟩) 1 1 ∧ v104 = .int .i64 0) (fun _ _ => 0)
    case atStart => exact ⟨rfl, rfl⟩
    case round =>
      obtain ⟨rfl, rfl⟩ := hrel
      go_wp2
      go_ret
      exact ⟨⟨_, rfl⟩, hB3⟩

set_option maxHeartbeats 8000000 in
set_option maxRecDepth 100000 in
theorem fixed_calls (w : World) : Calls Tryz.prog 26 #[] w fun e w' => e = .returned (.bool true) ∧ Below w.heap.size w w' := by
  go_enter Tryz.func26, Tryz.ntmps26
  go_wp2_with fail
  (go_at_call 66; refine (All_calls (w.heap.size + 1) (w.heap.size + 3) _ (by rw [World.cell?_alloc_at _ _ _ _ (by simp)]; rfl)).mono ?_; rintro e w1 ⟨v1, rfl, hB2⟩; have hB3 : Below w.heap.size w w1 := keepB hB2 ((((Below.refl _ w).alloc (Nat.le_refl _) _).alloc (by simp) _ |>.alloc (by simp; omega) _) |>.alloc (by simp; omega) _); clear hB2)
  go_wp2
  go_ret
  exact ⟨rfl, hB3⟩
end PathsFix
end Go.Proofs.YtilkoiilednekaaGreatDoor
