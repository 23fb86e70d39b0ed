/- Ways of the law PathsSame behind its guards (3). -/
import Derived.Test.YtilkoiilednekaaGreatDoorPathsWalk
set_option linter.unusedVariables false
set_option linter.unusedSimpArgs false
namespace Go.Proofs.YtilkoiilednekaaGreatDoor
namespace PathsWalk
open Go.RowKit Go.Proofs.YtilkoiilednekaaGreatDoorW.PrintWords

set_option maxHeartbeats 8000000 in
set_option maxRecDepth 100000 in
/-- The index has no columns. -/
theorem Law_none1 (w : World) (B0 : Option Addr) (nB0 cB0 : Nat) (B1 : Addr) (nB1 cB1 : Nat)
    (a1 : Int) (A2 : Option Addr) (n2 c2 : Nat) (A3 : Option Addr) (n3 c3 : Nat) (a4 : Int) (A5 : Option Addr) (n5 c5 : Nat) (A6 : Option Addr) (n6 c6 : Nat)
    (b0 b1 : Int) (D2 : Option Addr) (m2 d2 : Nat) (D3 : Option Addr) (m3 d3 : Nat) (b4 : Int) (D5 : Option Addr) (m5 d5 : Nat) (D6 : Option Addr) (m6 d6 : Nat)
    (hp : n3 + n6 + n2 + n5 ≤ 300) (hq : m3 + m6 + m2 + m5 ≤ 300) (h0 : 0 ≤ a1) (h1 : a1 < nB1) (AC : Option Addr) (cC : Nat) (hcell : w.cell? ⟨(B1.add (a1.toNat * 7)).block, (B1.add (a1.toNat * 7)).off + 2, none⟩ = some (.slice AC 0 cC)) (o : Int) (ho : o = -1) (hN : n3 ≤ 140737488351232 ∧ n6 ≤ 140737488351232 ∧ n2 ≤ 140737488351232 ∧ n5 ≤ 140737488351232 ∧ m3 ≤ 140737488351232 ∧ m6 ≤ 140737488351232 ∧ m2 ≤ 140737488351232 ∧ m5 ≤ 140737488351232)
    (C25 : ∀ W, Gives 25 #[.agg #[.slice B0 nB0 cB0, .slice (some B1) nB1 cB1]] w W (.bool false)) (C27 : ∀ W, Gives 27 #[.agg #[.slice B0 nB0 cB0, .slice (some B1) nB1 cB1], pv 1 a1 A2 n2 c2 A3 n3 c3 a4 A5 n5 c5 A6 n6 c6] w W (.int .i64 o))
    (b : Bool) (C28 : ∀ W v r, IsSame (pv 1 a1 A2 n2 c2 A3 n3 c3 a4 A5 n5 c5 A6 n6 c6) (pv b0 b1 D2 m2 d2 D3 m3 d3 b4 D5 m5 d5 D6 m6 d6) b v r → Gives 28 #[pv 1 a1 A2 n2 c2 A3 n3 c3 a4 A5 n5 c5 A6 n6 c6, v] w W (.bool r)) (C29 : ∀ W, Gives 29 #[pv 1 a1 A2 n2 c2 A3 n3 c3 a4 A5 n5 c5 A6 n6 c6, pv b0 b1 D2 m2 d2 D3 m3 d3 b4 D5 m5 d5 D6 m6 d6] w W (.bool b))
    (C30 : ∀ W v r, IsHas #[.int .u8 b0, .int .i64 b1, .slice D2 m2 d2, .slice D3 m3 d3, .int .i64 b4, .slice D5 m5 d5, .slice D6 m6 d6, .int .u8 1, .int .i64 a1, .slice A2 n2 c2, .slice A3 n3 c3, .int .i64 a4, .slice A5 n5 c5, .slice A6 n6 c6] v r W → Gives 30 #[v, pv 1 a1 A2 n2 c2 A3 n3 c3 a4 A5 n5 c5 A6 n6 c6] w W (.bool r))
    (V : Value → World → Prop) (hV : ∀ v W W', V v W → Below W.heap.size W W' → V v W') (C32 : ∀ W, Below w.heap.size w W → Calls Tryz.prog 32 #[pv 1 a1 A2 n2 c2 A3 n3 c3 a4 A5 n5 c5 A6 n6 c6] W fun e w' => ∃ v, e = .returned v ∧ V v w' ∧ Below W.heap.size W w') (C33 : ∀ W, Below w.heap.size w W → Calls Tryz.prog 33 #[pv 1 a1 A2 n2 c2 A3 n3 c3 a4 A5 n5 c5 A6 n6 c6] W fun e w' => ∃ v, e = .returned v ∧ V v w' ∧ Below W.heap.size W w')
    (C31 : ∀ v v' W, V v W → V v' W → Gives 31 #[v, v'] w W (.bool true))
    (C26 : ∀ W, Gives 26 #[] w W (.bool true)) :
    Calls Tryz.prog 6 #[.agg #[.slice B0 nB0 cB0, .slice (some B1) nB1 cB1], pv 1 a1 A2 n2 c2 A3 n3 c3 a4 A5 n5 c5 A6 n6 c6, pv b0 b1 D2 m2 d2 D3 m3 d3 b4 D5 m5 d5 D6 m6 d6] w fun e w' => e = .returned (.bool true) ∧ Below w.heap.size w w' := by
  have hp' : decide ((300 : Int) < ↑n3 + ↑n6 + ↑n2 + ↑n5) = false := decide_eq_false (by omega)
  have hq' : decide ((300 : Int) < ↑m3 + ↑m6 + ↑m2 + ↑m5) = false := decide_eq_false (by omega)
  unfold pv at C27 C28 C29 C30 C32 C33 ⊢
  have hn : decide (0 ≤ a1) = true := decide_eq_true (by omega)
  have hm : decide (a1 < (nB1 : Int)) = true := decide_eq_true (by omega)
  have H32 := Aside0.mk C32
  have H33 := Aside0.mk C33
  have HV := Aside0.mk hV
  clear C32 C33 hV
  go_enter Tryz.func6, Tryz.ntmps6
  go_wp2_with (first
    | (go_at_call 25; have L0 := @Lies.init w B0 nB0 cB0 (some B1) nB1 cB1 1 a1 A2 n2 c2 A3 n3 c3 a4 A5 n5 c5 A6 n6 c6 b0 b1 D2 m2 d2 D3 m3 d3 b4 D5 m5 d5 D6 m6 d6; refine (C25 _ L0.below).mono ?_; rintro e w1 ⟨rfl, hb1⟩; have L1 := L0.keep hb1; obtain ⟨e0, e1, e2, e3, e4, e5, e6, e7, e8, e9, e10, e11, e12, e13, e14, e15⟩ := L1.eqs; clear L0 hb1)
    | (go_at_call 27; refine (C27 _ L1.below).mono ?_; rintro e w2 ⟨rfl, hb2⟩; clear e0 e1 e2 e3 e4 e5 e6 e7 e8 e9 e10 e11 e12 e13 e14 e15; have L2 := L1.keep hb2; obtain ⟨e0, e1, e2, e3, e4, e5, e6, e7, e8, e9, e10, e11, e12, e13, e14, e15⟩ := L2.eqs; have f1 := (L2.below.cell (World.block_lt_of_cell? w _ hcell)).trans hcell; clear L1 hb2))
  have L2' := L2.drew
  go_region_held3 (fun W => (W.cell? ⟨w.heap.size, 0, none⟩ = some (.slice B0 nB0 cB0) ∧ W.cell? ⟨w.heap.size, 1, none⟩ = some (.slice (some B1) nB1 cB1) ∧ W.cell? ⟨w.heap.size + 1, 0, none⟩ = some (.int .u8 1) ∧ W.cell? ⟨w.heap.size + 1, 1, none⟩ = some (.int .i64 a1) ∧ W.cell? ⟨w.heap.size + 1, 2, none⟩ = some (.slice A2 n2 c2) ∧ W.cell? ⟨w.heap.size + 1, 3, none⟩ = some (.slice A3 n3 c3) ∧ W.cell? ⟨w.heap.size + 1, 4, none⟩ = some (.int .i64 a4) ∧ W.cell? ⟨w.heap.size + 1, 5, none⟩ = some (.slice A5 n5 c5) ∧ W.cell? ⟨w.heap.size + 1, 6, none⟩ = some (.slice A6 n6 c6) ∧ W.cell? ⟨w.heap.size + 1 + 1, 0, none⟩ = some (.int .u8 b0) ∧ W.cell? ⟨w.heap.size + 1 + 1, 1, none⟩ = some (.int .i64 b1) ∧ W.cell? ⟨w.heap.size + 1 + 1, 2, none⟩ = some (.slice D2 m2 d2) ∧ W.cell? ⟨w.heap.size + 1 + 1, 3, none⟩ = some (.slice D3 m3 d3) ∧ W.cell? ⟨w.heap.size + 1 + 1, 4, none⟩ = some (.int .i64 b4) ∧ W.cell? ⟨w.heap.size + 1 + 1, 5, none⟩ = some (.slice D5 m5 d5) ∧ W.cell? ⟨w.heap.size + 1 + 1, 6, none⟩ = some (.slice D6 m6 d6)) ∧ Lies w B0 nB0 cB0 (some B1) nB1 cB1 1 a1 A2 n2 c2 A3 n3 c3 a4 A5 n5 c5 A6 n6 c6 b0 b1 D2 m2 d2 D3 m3 d3 b4 D5 m5 d5 D6 m6 d6 W) ((refine Lies.pack ?_; with_reducible first | assumption | exact Lies.keep hb (by first | assumption | exact Lies.ofS (by assumption)) | exact Lies.alloc (by first | assumption | exact Lies.ofS (by assumption)) _))
    (first
      | (go_at_call 26; refine (C26 _ (Lies.below (by with_reducible first | assumption | exact Lies.ofS (by assumption)))).mono ?_; rintro e w3 ⟨rfl, hb⟩)
      | (go_at_call 28; refine (C28 _ _ ?_ ?_ ?_).mono ?_; rotate_left; (first | exact IsSame.pp | exact IsSame.pq); (exact (Lies.below (by with_reducible first | assumption | exact Lies.ofS (by assumption)))); rintro e w3 ⟨rfl, hb⟩)
      | (go_at_call 29; refine (C29 _ (Lies.below (by with_reducible first | assumption | exact Lies.ofS (by assumption)))).mono ?_; rintro e w3 ⟨rfl, hb⟩)
      | (go_at_call 30; refine (C30 _ _ ?_ ?_ ?_).mono ?_; rotate_left; (first | exact IsHas.none | exact IsHas.two (newBlock _ _)); (exact (Lies.below (by with_reducible first | assumption | exact Lies.ofS (by assumption)))); rintro e w3 ⟨rfl, hb⟩)
      | (go_at_call 32; refine (H32.out _ (Lies.below (by with_reducible first | assumption | exact Lies.ofS (by assumption)))).mono ?_; rintro e w3 ⟨v, rfl, hv, hb⟩)
      | (go_at_call 33; refine (H33.out _ (Lies.below (by with_reducible first | assumption | exact Lies.ofS (by assumption)))).mono ?_; rintro e w3 ⟨v, rfl, hv, hb⟩)
      | (go_at_call 31; refine (C31 _ _ _ (by with_reducible first | assumption | exact HV.out _ _ _ (by assumption) (by assumption)) (by with_reducible first | assumption | exact HV.out _ _ _ (by assumption) (by assumption)) (Lies.below (by with_reducible first | assumption | exact Lies.ofS (by assumption)))).mono ?_; rintro e w3 ⟨rfl, hb⟩))
  all_goals
    go_wp2
    go_ret
    refine ⟨?_, Lies.below (by with_reducible first | assumption | exact Lies.ofS (by assumption))⟩
    cases b <;> rfl

set_option maxHeartbeats 8000000 in
set_option maxRecDepth 100000 in
/-- The index has columns. -/
theorem Law_first1 (w : World) (B0 : Option Addr) (nB0 cB0 : Nat) (B1 : Addr) (nB1 cB1 : Nat)
    (a1 : Int) (A2 : Option Addr) (n2 c2 : Nat) (A3 : Option Addr) (n3 c3 : Nat) (a4 : Int) (A5 : Option Addr) (n5 c5 : Nat) (A6 : Option Addr) (n6 c6 : Nat)
    (b0 b1 : Int) (D2 : Option Addr) (m2 d2 : Nat) (D3 : Option Addr) (m3 d3 : Nat) (b4 : Int) (D5 : Option Addr) (m5 d5 : Nat) (D6 : Option Addr) (m6 d6 : Nat)
    (hp : n3 + n6 + n2 + n5 ≤ 300) (hq : m3 + m6 + m2 + m5 ≤ 300) (h0 : 0 ≤ a1) (h1 : a1 < nB1) (AC : Addr) (nC cC : Nat) (hcell : w.cell? ⟨(B1.add (a1.toNat * 7)).block, (B1.add (a1.toNat * 7)).off + 2, none⟩ = some (.slice (some AC) nC cC)) (hnC : 0 < nC) (o : Int) (hel : w.cell? AC = some (.int .i64 o)) (hN : n3 ≤ 140737488351232 ∧ n6 ≤ 140737488351232 ∧ n2 ≤ 140737488351232 ∧ n5 ≤ 140737488351232 ∧ m3 ≤ 140737488351232 ∧ m6 ≤ 140737488351232 ∧ m2 ≤ 140737488351232 ∧ m5 ≤ 140737488351232)
    (C25 : ∀ W, Gives 25 #[.agg #[.slice B0 nB0 cB0, .slice (some B1) nB1 cB1]] w W (.bool false)) (C27 : ∀ W, Gives 27 #[.agg #[.slice B0 nB0 cB0, .slice (some B1) nB1 cB1], pv 1 a1 A2 n2 c2 A3 n3 c3 a4 A5 n5 c5 A6 n6 c6] w W (.int .i64 o))
    (b : Bool) (C28 : ∀ W v r, IsSame (pv 1 a1 A2 n2 c2 A3 n3 c3 a4 A5 n5 c5 A6 n6 c6) (pv b0 b1 D2 m2 d2 D3 m3 d3 b4 D5 m5 d5 D6 m6 d6) b v r → Gives 28 #[pv 1 a1 A2 n2 c2 A3 n3 c3 a4 A5 n5 c5 A6 n6 c6, v] w W (.bool r)) (C29 : ∀ W, Gives 29 #[pv 1 a1 A2 n2 c2 A3 n3 c3 a4 A5 n5 c5 A6 n6 c6, pv b0 b1 D2 m2 d2 D3 m3 d3 b4 D5 m5 d5 D6 m6 d6] w W (.bool b))
    (C30 : ∀ W v r, IsHas #[.int .u8 b0, .int .i64 b1, .slice D2 m2 d2, .slice D3 m3 d3, .int .i64 b4, .slice D5 m5 d5, .slice D6 m6 d6, .int .u8 1, .int .i64 a1, .slice A2 n2 c2, .slice A3 n3 c3, .int .i64 a4, .slice A5 n5 c5, .slice A6 n6 c6] v r W → Gives 30 #[v, pv 1 a1 A2 n2 c2 A3 n3 c3 a4 A5 n5 c5 A6 n6 c6] w W (.bool r))
    (V : Value → World → Prop) (hV : ∀ v W W', V v W → Below W.heap.size W W' → V v W') (C32 : ∀ W, Below w.heap.size w W → Calls Tryz.prog 32 #[pv 1 a1 A2 n2 c2 A3 n3 c3 a4 A5 n5 c5 A6 n6 c6] W fun e w' => ∃ v, e = .returned v ∧ V v w' ∧ Below W.heap.size W w') (C33 : ∀ W, Below w.heap.size w W → Calls Tryz.prog 33 #[pv 1 a1 A2 n2 c2 A3 n3 c3 a4 A5 n5 c5 A6 n6 c6] W fun e w' => ∃ v, e = .returned v ∧ V v w' ∧ Below W.heap.size W w')
    (C31 : ∀ v v' W, V v W → V v' W → Gives 31 #[v, v'] w W (.bool true))
    (C26 : ∀ W, Gives 26 #[] w W (.bool true)) :
    Calls Tryz.prog 6 #[.agg #[.slice B0 nB0 cB0, .slice (some B1) nB1 cB1], pv 1 a1 A2 n2 c2 A3 n3 c3 a4 A5 n5 c5 A6 n6 c6, pv b0 b1 D2 m2 d2 D3 m3 d3 b4 D5 m5 d5 D6 m6 d6] w fun e w' => e = .returned (.bool true) ∧ Below w.heap.size w w' := by
  have hp' : decide ((300 : Int) < ↑n3 + ↑n6 + ↑n2 + ↑n5) = false := decide_eq_false (by omega)
  have hq' : decide ((300 : Int) < ↑m3 + ↑m6 + ↑m2 + ↑m5) = false := decide_eq_false (by omega)
  unfold pv at C27 C28 C29 C30 C32 C33 ⊢
  have hn : decide (0 ≤ a1) = true := decide_eq_true (by omega)
  have hm : decide (a1 < (nB1 : Int)) = true := decide_eq_true (by omega)
  have hc' : decide ((0 : Int) < (nC : Int)) = true := decide_eq_true (by omega)
  have H32 := Aside0.mk C32
  have H33 := Aside0.mk C33
  have HV := Aside0.mk hV
  clear C32 C33 hV
  go_enter Tryz.func6, Tryz.ntmps6
  go_wp2_with (first
    | (go_at_call 25; have L0 := @Lies.init w B0 nB0 cB0 (some B1) nB1 cB1 1 a1 A2 n2 c2 A3 n3 c3 a4 A5 n5 c5 A6 n6 c6 b0 b1 D2 m2 d2 D3 m3 d3 b4 D5 m5 d5 D6 m6 d6; refine (C25 _ L0.below).mono ?_; rintro e w1 ⟨rfl, hb1⟩; have L1 := L0.keep hb1; obtain ⟨e0, e1, e2, e3, e4, e5, e6, e7, e8, e9, e10, e11, e12, e13, e14, e15⟩ := L1.eqs; clear L0 hb1)
    | (go_at_call 27; refine (C27 _ L1.below).mono ?_; rintro e w2 ⟨rfl, hb2⟩; clear e0 e1 e2 e3 e4 e5 e6 e7 e8 e9 e10 e11 e12 e13 e14 e15; have L2 := L1.keep hb2; obtain ⟨e0, e1, e2, e3, e4, e5, e6, e7, e8, e9, e10, e11, e12, e13, e14, e15⟩ := L2.eqs; have f1 := (L2.below.cell (World.block_lt_of_cell? w _ hcell)).trans hcell; have f2 := (L2.below.cell (World.block_lt_of_cell? w _ hel)).trans hel; clear L1 hb2))
  have L2' := L2.drew
  go_region_held3 (fun W => (W.cell? ⟨w.heap.size, 0, none⟩ = some (.slice B0 nB0 cB0) ∧ W.cell? ⟨w.heap.size, 1, none⟩ = some (.slice (some B1) nB1 cB1) ∧ W.cell? ⟨w.heap.size + 1, 0, none⟩ = some (.int .u8 1) ∧ W.cell? ⟨w.heap.size + 1, 1, none⟩ = some (.int .i64 a1) ∧ W.cell? ⟨w.heap.size + 1, 2, none⟩ = some (.slice A2 n2 c2) ∧ W.cell? ⟨w.heap.size + 1, 3, none⟩ = some (.slice A3 n3 c3) ∧ W.cell? ⟨w.heap.size + 1, 4, none⟩ = some (.int .i64 a4) ∧ W.cell? ⟨w.heap.size + 1, 5, none⟩ = some (.slice A5 n5 c5) ∧ W.cell? ⟨w.heap.size + 1, 6, none⟩ = some (.slice A6 n6 c6) ∧ W.cell? ⟨w.heap.size + 1 + 1, 0, none⟩ = some (.int .u8 b0) ∧ W.cell? ⟨w.heap.size + 1 + 1, 1, none⟩ = some (.int .i64 b1) ∧ W.cell? ⟨w.heap.size + 1 + 1, 2, none⟩ = some (.slice D2 m2 d2) ∧ W.cell? ⟨w.heap.size + 1 + 1, 3, none⟩ = some (.slice D3 m3 d3) ∧ W.cell? ⟨w.heap.size + 1 + 1, 4, none⟩ = some (.int .i64 b4) ∧ W.cell? ⟨w.heap.size + 1 + 1, 5, none⟩ = some (.slice D5 m5 d5) ∧ W.cell? ⟨w.heap.size + 1 + 1, 6, none⟩ = some (.slice D6 m6 d6)) ∧ Lies w B0 nB0 cB0 (some B1) nB1 cB1 1 a1 A2 n2 c2 A3 n3 c3 a4 A5 n5 c5 A6 n6 c6 b0 b1 D2 m2 d2 D3 m3 d3 b4 D5 m5 d5 D6 m6 d6 W) ((refine Lies.pack ?_; with_reducible first | assumption | exact Lies.keep hb (by first | assumption | exact Lies.ofS (by assumption)) | exact Lies.alloc (by first | assumption | exact Lies.ofS (by assumption)) _))
    (first
      | (go_at_call 26; refine (C26 _ (Lies.below (by with_reducible first | assumption | exact Lies.ofS (by assumption)))).mono ?_; rintro e w3 ⟨rfl, hb⟩)
      | (go_at_call 28; refine (C28 _ _ ?_ ?_ ?_).mono ?_; rotate_left; (first | exact IsSame.pp | exact IsSame.pq); (exact (Lies.below (by with_reducible first | assumption | exact Lies.ofS (by assumption)))); rintro e w3 ⟨rfl, hb⟩)
      | (go_at_call 29; refine (C29 _ (Lies.below (by with_reducible first | assumption | exact Lies.ofS (by assumption)))).mono ?_; rintro e w3 ⟨rfl, hb⟩)
      | (go_at_call 30; refine (C30 _ _ ?_ ?_ ?_).mono ?_; rotate_left; (first | exact IsHas.none | exact IsHas.two (newBlock _ _)); (exact (Lies.below (by with_reducible first | assumption | exact Lies.ofS (by assumption)))); rintro e w3 ⟨rfl, hb⟩)
      | (go_at_call 32; refine (H32.out _ (Lies.below (by with_reducible first | assumption | exact Lies.ofS (by assumption)))).mono ?_; rintro e w3 ⟨v, rfl, hv, hb⟩)
      | (go_at_call 33; refine (H33.out _ (Lies.below (by with_reducible first | assumption | exact Lies.ofS (by assumption)))).mono ?_; rintro e w3 ⟨v, rfl, hv, hb⟩)
      | (go_at_call 31; refine (C31 _ _ _ (by with_reducible first | assumption | exact HV.out _ _ _ (by assumption) (by assumption)) (by with_reducible first | assumption | exact HV.out _ _ _ (by assumption) (by assumption)) (Lies.below (by with_reducible first | assumption | exact Lies.ofS (by assumption)))).mono ?_; rintro e w3 ⟨rfl, hb⟩))
  all_goals
    go_wp2
    go_ret
    refine ⟨?_, Lies.below (by with_reducible first | assumption | exact Lies.ofS (by assumption))⟩
    cases b <;> rfl
end PathsWalk
end Go.Proofs.YtilkoiilednekaaGreatDoor
