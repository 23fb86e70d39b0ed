/- The walk of the law PathsSame, over contracts that are given. -/
import Derived.Test.YtilkoiilednekaaGreatDoorPHPathx5
import Derived.Test.YtilkoiilednekaaGreatDoorPHPathx4
import Derived.Test.YtilkoiilednekaaGreatDoorPHPathx2
import Derived.Deep.RegionHeld3
set_option linter.unusedVariables false
set_option linter.unusedSimpArgs false
namespace Go.Proofs.YtilkoiilednekaaGreatDoor
namespace PathsWalk
open Go.RowKit Go.Proofs.YtilkoiilednekaaGreatDoorW.PrintWords

/-- A path's value. -/
def pv (a0 a1 : Int) (A2 : Option Addr) (n2 c2 : Nat) (A3 : Option Addr) (n3 c3 : Nat) (a4 : Int) (A5 : Option Addr) (n5 c5 : Nat) (A6 : Option Addr) (n6 c6 : Nat) : Value :=
  .agg #[.int .u8 a0, .int .i64 a1, .slice A2 n2 c2, .slice A3 n3 c3, .int .i64 a4, .slice A5 n5 c5, .slice A6 n6 c6]
inductive IsSame (p q : Value) (b : Bool) : Value → Bool → Prop
  | pq : IsSame p q b q b
  | pp : IsSame p q b p true
inductive IsHas (cs : Array Value) : Value → Bool → World → Prop
  | none {W : World} : IsHas cs (.slice none 0 0) false W
  | two {W : World} {h : Nat} (hh : W.heap[h]? = some (.cells cs 40 (0, 0))) : IsHas cs (.slice (some ⟨h, 0, none⟩) 2 2) true W
/-- The callee answers v, and writes nothing that lay. -/
def Gives (f : Nat) (args : Array Value) (w W : World) (v : Value) : Prop := Below w.heap.size w W → Calls Tryz.prog f args W fun e w' => e = .returned v ∧ Below W.heap.size W w'

theorem newBlock (w : World) (o : Obj) : (w.alloc o).heap[w.heap.size]? = some o := by show (w.heap.push o)[w.heap.size]? = some o; exact Array.getElem?_push_size
theorem keepC {W W' : World} {p : Addr} {v : Value} (hb : Below W.heap.size W W') (h : W.cell? p = some v) : W'.cell? p = some v := (hb.cell (World.block_lt_of_cell? W _ h)).trans h
theorem keepB {w W W' : World} (hb : Below W.heap.size W W') (h : Below w.heap.size w W) : Below w.heap.size w W' := h.trans (hb.mono h.size)

/-- The law's three boxes lie, and what lay before. -/
def Lies (w : World) (B0 : Option Addr) (nB0 cB0 : Nat) (B1 : Option Addr) (nB1 cB1 : Nat)
    (a0 a1 : Int) (A2 : Option Addr) (n2 c2 : Nat) (A3 : Option Addr) (n3 c3 : Nat) (a4 : Int) (A5 : Option Addr) (n5 c5 : Nat) (A6 : Option Addr) (n6 c6 : Nat)
    (b0 b1 : Int) (D2 : Option Addr) (m2 d2 : Nat) (D3 : Option Addr) (m3 d3 : Nat) (b4 : Int) (D5 : Option Addr) (m5 d5 : Nat) (D6 : Option Addr) (m6 d6 : Nat) (W : World) : Prop :=
  (W.cell? ⟨w.heap.size, 0, none⟩ = some (.slice B0 nB0 cB0) ∧ W.cell? ⟨w.heap.size, 1, none⟩ = some (.slice B1 nB1 cB1) ∧ W.cell? ⟨w.heap.size + 1, 0, none⟩ = some (.int .u8 a0) ∧ W.cell? ⟨w.heap.size + 1, 1, none⟩ = some (.int .i64 a1) ∧ W.cell? ⟨w.heap.size + 1, 2, none⟩ = some (.slice A2 n2 c2) ∧ W.cell? ⟨w.heap.size + 1, 3, none⟩ = some (.slice A3 n3 c3) ∧ W.cell? ⟨w.heap.size + 1, 4, none⟩ = some (.int .i64 a4) ∧ W.cell? ⟨w.heap.size + 1, 5, none⟩ = some (.slice A5 n5 c5) ∧ W.cell? ⟨w.heap.size + 1, 6, none⟩ = some (.slice A6 n6 c6) ∧ W.cell? ⟨w.heap.size + 1 + 1, 0, none⟩ = some (.int .u8 b0) ∧ W.cell? ⟨w.heap.size + 1 + 1, 1, none⟩ = some (.int .i64 b1) ∧ W.cell? ⟨w.heap.size + 1 + 1, 2, none⟩ = some (.slice D2 m2 d2) ∧ W.cell? ⟨w.heap.size + 1 + 1, 3, none⟩ = some (.slice D3 m3 d3) ∧ W.cell? ⟨w.heap.size + 1 + 1, 4, none⟩ = some (.int .i64 b4) ∧ W.cell? ⟨w.heap.size + 1 + 1, 5, none⟩ = some (.slice D5 m5 d5) ∧ W.cell? ⟨w.heap.size + 1 + 1, 6, none⟩ = some (.slice D6 m6 d6)) ∧ Below w.heap.size w W
section
variable {w : World} {B0 : Option Addr} {nB0 cB0 : Nat} {B1 : Option Addr} {nB1 cB1 : Nat}
    {a0 a1 : Int} {A2 : Option Addr} {n2 c2 : Nat} {A3 : Option Addr} {n3 c3 : Nat} {a4 : Int} {A5 : Option Addr} {n5 c5 : Nat} {A6 : Option Addr} {n6 c6 : Nat}
    {b0 b1 : Int} {D2 : Option Addr} {m2 d2 : Nat} {D3 : Option Addr} {m3 d3 : Nat} {b4 : Int} {D5 : Option Addr} {m5 d5 : Nat} {D6 : Option Addr} {m6 d6 : Nat} {W W' : World}
theorem Lies.keep (hb : Below W.heap.size W W') (h : Lies w B0 nB0 cB0 B1 nB1 cB1 a0 a1 A2 n2 c2 A3 n3 c3 a4 A5 n5 c5 A6 n6 c6 b0 b1 D2 m2 d2 D3 m3 d3 b4 D5 m5 d5 D6 m6 d6 W) : Lies w B0 nB0 cB0 B1 nB1 cB1 a0 a1 A2 n2 c2 A3 n3 c3 a4 A5 n5 c5 A6 n6 c6 b0 b1 D2 m2 d2 D3 m3 d3 b4 D5 m5 d5 D6 m6 d6 W' := by
  obtain ⟨⟨e0, e1, e2, e3, e4, e5, e6, e7, e8, e9, e10, e11, e12, e13, e14, e15⟩, hB⟩ := h
  exact ⟨⟨keepC hb e0, keepC hb e1, keepC hb e2, keepC hb e3, keepC hb e4, keepC hb e5, keepC hb e6, keepC hb e7, keepC hb e8, keepC hb e9, keepC hb e10, keepC hb e11, keepC hb e12, keepC hb e13, keepC hb e14, keepC hb e15⟩, keepB hb hB⟩
theorem Lies.drew (h : Lies w B0 nB0 cB0 B1 nB1 cB1 a0 a1 A2 n2 c2 A3 n3 c3 a4 A5 n5 c5 A6 n6 c6 b0 b1 D2 m2 d2 D3 m3 d3 b4 D5 m5 d5 D6 m6 d6 W) : Lies w B0 nB0 cB0 B1 nB1 cB1 a0 a1 A2 n2 c2 A3 n3 c3 a4 A5 n5 c5 A6 n6 c6 b0 b1 D2 m2 d2 D3 m3 d3 b4 D5 m5 d5 D6 m6 d6 W.drew := h.keep (Below.refl _ W).drew
theorem Lies.alloc (h : Lies w B0 nB0 cB0 B1 nB1 cB1 a0 a1 A2 n2 c2 A3 n3 c3 a4 A5 n5 c5 A6 n6 c6 b0 b1 D2 m2 d2 D3 m3 d3 b4 D5 m5 d5 D6 m6 d6 W) (o : Obj) : Lies w B0 nB0 cB0 B1 nB1 cB1 a0 a1 A2 n2 c2 A3 n3 c3 a4 A5 n5 c5 A6 n6 c6 b0 b1 D2 m2 d2 D3 m3 d3 b4 D5 m5 d5 D6 m6 d6 (W.alloc o) := h.keep ((Below.refl _ W).alloc (Nat.le_refl _) _)
theorem Lies.below (h : Lies w B0 nB0 cB0 B1 nB1 cB1 a0 a1 A2 n2 c2 A3 n3 c3 a4 A5 n5 c5 A6 n6 c6 b0 b1 D2 m2 d2 D3 m3 d3 b4 D5 m5 d5 D6 m6 d6 W) : Below w.heap.size w W := h.2
theorem Lies.pack (h : Lies w B0 nB0 cB0 B1 nB1 cB1 a0 a1 A2 n2 c2 A3 n3 c3 a4 A5 n5 c5 A6 n6 c6 b0 b1 D2 m2 d2 D3 m3 d3 b4 D5 m5 d5 D6 m6 d6 W) : (W.cell? ⟨w.heap.size, 0, none⟩ = some (.slice B0 nB0 cB0) ∧ W.cell? ⟨w.heap.size, 1, none⟩ = some (.slice B1 nB1 cB1) ∧ W.cell? ⟨w.heap.size + 1, 0, none⟩ = some (.int .u8 a0) ∧ W.cell? ⟨w.heap.size + 1, 1, none⟩ = some (.int .i64 a1) ∧ W.cell? ⟨w.heap.size + 1, 2, none⟩ = some (.slice A2 n2 c2) ∧ W.cell? ⟨w.heap.size + 1, 3, none⟩ = some (.slice A3 n3 c3) ∧ W.cell? ⟨w.heap.size + 1, 4, none⟩ = some (.int .i64 a4) ∧ W.cell? ⟨w.heap.size + 1, 5, none⟩ = some (.slice A5 n5 c5) ∧ W.cell? ⟨w.heap.size + 1, 6, none⟩ = some (.slice A6 n6 c6) ∧ W.cell? ⟨w.heap.size + 1 + 1, 0, none⟩ = some (.int .u8 b0) ∧ W.cell? ⟨w.heap.size + 1 + 1, 1, none⟩ = some (.int .i64 b1) ∧ W.cell? ⟨w.heap.size + 1 + 1, 2, none⟩ = some (.slice D2 m2 d2) ∧ W.cell? ⟨w.heap.size + 1 + 1, 3, none⟩ = some (.slice D3 m3 d3) ∧ W.cell? ⟨w.heap.size + 1 + 1, 4, none⟩ = some (.int .i64 b4) ∧ W.cell? ⟨w.heap.size + 1 + 1, 5, none⟩ = some (.slice D5 m5 d5) ∧ W.cell? ⟨w.heap.size + 1 + 1, 6, none⟩ = some (.slice D6 m6 d6)) ∧ Lies w B0 nB0 cB0 B1 nB1 cB1 a0 a1 A2 n2 c2 A3 n3 c3 a4 A5 n5 c5 A6 n6 c6 b0 b1 D2 m2 d2 D3 m3 d3 b4 D5 m5 d5 D6 m6 d6 W := ⟨h.1, h⟩
theorem Lies.ofS (h : (W.cell? ⟨w.heap.size, 0, none⟩ = some (.slice B0 nB0 cB0) ∧ W.cell? ⟨w.heap.size, 1, none⟩ = some (.slice B1 nB1 cB1) ∧ W.cell? ⟨w.heap.size + 1, 0, none⟩ = some (.int .u8 a0) ∧ W.cell? ⟨w.heap.size + 1, 1, none⟩ = some (.int .i64 a1) ∧ W.cell? ⟨w.heap.size + 1, 2, none⟩ = some (.slice A2 n2 c2) ∧ W.cell? ⟨w.heap.size + 1, 3, none⟩ = some (.slice A3 n3 c3) ∧ W.cell? ⟨w.heap.size + 1, 4, none⟩ = some (.int .i64 a4) ∧ W.cell? ⟨w.heap.size + 1, 5, none⟩ = some (.slice A5 n5 c5) ∧ W.cell? ⟨w.heap.size + 1, 6, none⟩ = some (.slice A6 n6 c6) ∧ W.cell? ⟨w.heap.size + 1 + 1, 0, none⟩ = some (.int .u8 b0) ∧ W.cell? ⟨w.heap.size + 1 + 1, 1, none⟩ = some (.int .i64 b1) ∧ W.cell? ⟨w.heap.size + 1 + 1, 2, none⟩ = some (.slice D2 m2 d2) ∧ W.cell? ⟨w.heap.size + 1 + 1, 3, none⟩ = some (.slice D3 m3 d3) ∧ W.cell? ⟨w.heap.size + 1 + 1, 4, none⟩ = some (.int .i64 b4) ∧ W.cell? ⟨w.heap.size + 1 + 1, 5, none⟩ = some (.slice D5 m5 d5) ∧ W.cell? ⟨w.heap.size + 1 + 1, 6, none⟩ = some (.slice D6 m6 d6)) ∧ Lies w B0 nB0 cB0 B1 nB1 cB1 a0 a1 A2 n2 c2 A3 n3 c3 a4 A5 n5 c5 A6 n6 c6 b0 b1 D2 m2 d2 D3 m3 d3 b4 D5 m5 d5 D6 m6 d6 W) : Lies w B0 nB0 cB0 B1 nB1 cB1 a0 a1 A2 n2 c2 A3 n3 c3 a4 A5 n5 c5 A6 n6 c6 b0 b1 D2 m2 d2 D3 m3 d3 b4 D5 m5 d5 D6 m6 d6 W := h.2
theorem Lies.init : Lies w B0 nB0 cB0 B1 nB1 cB1 a0 a1 A2 n2 c2 A3 n3 c3 a4 A5 n5 c5 A6 n6 c6 b0 b1 D2 m2 d2 D3 m3 d3 b4 D5 m5 d5 D6 m6 d6 (((w.alloc (.cells #[.slice B0 nB0 cB0, .slice B1 nB1 cB1] 25)).alloc (.cells #[.int .u8 a0, .int .i64 a1, .slice A2 n2 c2, .slice A3 n3 c3, .int .i64 a4, .slice A5 n5 c5, .slice A6 n6 c6] 40)).alloc (.cells #[.int .u8 b0, .int .i64 b1, .slice D2 m2 d2, .slice D3 m3 d3, .int .i64 b4, .slice D5 m5 d5, .slice D6 m6 d6] 40)) := by
  refine ⟨⟨?_, ?_, ?_, ?_, ?_, ?_, ?_, ?_, ?_, ?_, ?_, ?_, ?_, ?_, ?_, ?_⟩, ?_⟩
  rotate_right
  · exact (((Below.refl _ w).alloc (Nat.le_refl _) _).alloc (by simp) _ |>.alloc (by simp; omega) _)
  all_goals first
    | (rw [World.cell?_alloc_at _ _ _ _ (by simp)]; rfl)
    | (rw [World.cell?_alloc_past _ _ _ (by simp), World.cell?_alloc_at _ _ _ _ (by simp)]; rfl)
    | (rw [World.cell?_alloc_past _ _ _ (by simp; omega), World.cell?_alloc_past _ _ _ (by simp), World.cell?_alloc_at _ _ _ _ (by simp)]; rfl)
theorem Lies.eqs (h : Lies w B0 nB0 cB0 B1 nB1 cB1 a0 a1 A2 n2 c2 A3 n3 c3 a4 A5 n5 c5 A6 n6 c6 b0 b1 D2 m2 d2 D3 m3 d3 b4 D5 m5 d5 D6 m6 d6 W) : (W.cell? ⟨w.heap.size, 0, none⟩ = some (.slice B0 nB0 cB0) ∧ W.cell? ⟨w.heap.size, 1, none⟩ = some (.slice B1 nB1 cB1) ∧ W.cell? ⟨w.heap.size + 1, 0, none⟩ = some (.int .u8 a0) ∧ W.cell? ⟨w.heap.size + 1, 1, none⟩ = some (.int .i64 a1) ∧ W.cell? ⟨w.heap.size + 1, 2, none⟩ = some (.slice A2 n2 c2) ∧ W.cell? ⟨w.heap.size + 1, 3, none⟩ = some (.slice A3 n3 c3) ∧ W.cell? ⟨w.heap.size + 1, 4, none⟩ = some (.int .i64 a4) ∧ W.cell? ⟨w.heap.size + 1, 5, none⟩ = some (.slice A5 n5 c5) ∧ W.cell? ⟨w.heap.size + 1, 6, none⟩ = some (.slice A6 n6 c6) ∧ W.cell? ⟨w.heap.size + 1 + 1, 0, none⟩ = some (.int .u8 b0) ∧ W.cell? ⟨w.heap.size + 1 + 1, 1, none⟩ = some (.int .i64 b1) ∧ W.cell? ⟨w.heap.size + 1 + 1, 2, none⟩ = some (.slice D2 m2 d2) ∧ W.cell? ⟨w.heap.size + 1 + 1, 3, none⟩ = some (.slice D3 m3 d3) ∧ W.cell? ⟨w.heap.size + 1 + 1, 4, none⟩ = some (.int .i64 b4) ∧ W.cell? ⟨w.heap.size + 1 + 1, 5, none⟩ = some (.slice D5 m5 d5) ∧ W.cell? ⟨w.heap.size + 1 + 1, 6, none⟩ = some (.slice D6 m6 d6)) := h.1
attribute [irreducible] Lies
end

set_option maxHeartbeats 8000000 in
set_option maxRecDepth 100000 in
/-- The first guard holds. -/
theorem Law_guard (w : World) (B0 : Option Addr) (nB0 cB0 : Nat) (B1 : Option Addr) (nB1 cB1 : Nat)
    (a0 a1 : Int) (A2 : Option Addr) (n2 c2 : Nat) (A3 : Option Addr) (n3 c3 : Nat) (a4 : Int) (A5 : Option Addr) (n5 c5 : Nat) (A6 : Option Addr) (n6 c6 : Nat)
    (b0 b1 : Int) (D2 : Option Addr) (m2 d2 : Nat) (D3 : Option Addr) (m3 d3 : Nat) (b4 : Int) (D5 : Option Addr) (m5 d5 : Nat) (D6 : Option Addr) (m6 d6 : Nat) (g : Bool)
    (hG : g = true ∨ 300 < n3 + n6 + n2 + n5 ∨ 300 < m3 + m6 + m2 + m5) (hN : n3 ≤ 140737488351232 ∧ n6 ≤ 140737488351232 ∧ n2 ≤ 140737488351232 ∧ n5 ≤ 140737488351232 ∧ m3 ≤ 140737488351232 ∧ m6 ≤ 140737488351232 ∧ m2 ≤ 140737488351232 ∧ m5 ≤ 140737488351232)
    (C25 : ∀ W, Gives 25 #[.agg #[.slice B0 nB0 cB0, .slice B1 nB1 cB1]] w W (.bool g)) (C26 : ∀ W, Gives 26 #[] w W (.bool true)) :
    Calls Tryz.prog 6 #[.agg #[.slice B0 nB0 cB0, .slice B1 nB1 cB1], pv a0 a1 A2 n2 c2 A3 n3 c3 a4 A5 n5 c5 A6 n6 c6, pv b0 b1 D2 m2 d2 D3 m3 d3 b4 D5 m5 d5 D6 m6 d6] w fun e w' => e = .returned (.bool true) ∧ Below w.heap.size w w' := by
  unfold pv
  go_enter Tryz.func6, Tryz.ntmps6
  go_wp2_with (first
    | (go_at_call 25; have L0 := @Lies.init w B0 nB0 cB0 B1 nB1 cB1 a0 a1 A2 n2 c2 A3 n3 c3 a4 A5 n5 c5 A6 n6 c6 b0 b1 D2 m2 d2 D3 m3 d3 b4 D5 m5 d5 D6 m6 d6; refine (C25 _ L0.below).mono ?_; rintro e w1 ⟨rfl, hb1⟩; have L1 := L0.keep hb1; obtain ⟨e0, e1, e2, e3, e4, e5, e6, e7, e8, e9, e10, e11, e12, e13, e14, e15⟩ := L1.eqs; clear L0 hb1)
    | (go_at_call 26; refine (C26 _ L1.below).mono ?_; rintro e w2 ⟨rfl, hb2⟩; have hB2 := keepB hb2 L1.below; clear hb2)
    | (go_at_call 27; exfalso; rcases hG with h | h | h <;> first | omega | simp_all))
  all_goals
    go_ret
    exact ⟨rfl, by assumption⟩

end PathsWalk
end Go.Proofs.YtilkoiilednekaaGreatDoor
