/- What the row of PathsSame asks of the translation. -/
import Derived.Test.YtilkoiilednekaaGreatDoorRows
import Derived.Test.YtilkoiilednekaaGreatDoorCards
import Derived.Test.YtilkoiilednekaaGreatDoorTie
import Derived.WalkKit
import Derived.ProofKit
namespace Go.Proofs.YtilkoiilednekaaGreatDoor
namespace PathsRow
theorem p_fn : Tryz.pinned.checked.prog.funcNamed Rows.pathsSameRow.func = some 6 := by kernel_rfl
theorem p_closed : joinedFacts Tryz.pinned.checked.prog 6 Tryz.f6 Rows.pathsSameSpec Rows.pathsSameRow = true := by kernel_rfl
theorem p_inst : Tryz.f6.isInstance Tryz.pinned.checked.prog Rows.pathsSameRow.origin Rows.pathsSameRow.targs := of_decide_eq_true (by kernel_rfl)
theorem p_wrap : Tryz.f6.isWrapper Tryz.pinned.checked.prog Rows.pathsSameRow.wrapper Rows.pathsSameRow.mainSum := by unfold Func.isWrapper; first | (rw [if_pos (by decide +kernel)]; kernel_rfl) | (rw [if_neg (by decide +kernel)]; exact ⟨rfl, rfl⟩)
end PathsRow
end Go.Proofs.YtilkoiilednekaaGreatDoor
