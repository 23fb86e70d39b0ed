/- A small rule for the walk: a store leaves which cells there are as it was. -/
import Derived.Test.YtilkoiilednekaaGreatDoorProg
import Derived.WalkKit
import Derived.Laws.World
set_option linter.unusedVariables false
set_option linter.unusedSimpArgs false
namespace Go.Proofs.YtilkoiilednekaaGreatDoor
open Go.RowKit

theorem isSome_setCell (w : World) (a : Addr) (v : Value) (b : Addr) : ((w.setCell a v).cell? b).isSome = (w.cell? b).isSome := by
  simp only [World.setCell, World.cell?, Array.getElem?_modify]
  by_cases hb : a.block = b.block
  · simp only [hb, if_true]
    cases hh : w.heap[b.block]? with
    | none => simp
    | some x =>
      cases x <;> simp
      cases hsa : a.spot.isSome <;> cases hsb : b.spot.isSome <;> simp [hsa, hsb]
      rename_i c e f
      by_cases h : b.off < c.size
      · simp [h]
      · simp [Array.getElem?_eq_none (by omega : c.size ≤ b.off), Array.getElem?_eq_none (by simp; omega : (c.setIfInBounds a.off v).size ≤ b.off)]
  · simp only [hb, if_false]
end Go.Proofs.YtilkoiilednekaaGreatDoor
