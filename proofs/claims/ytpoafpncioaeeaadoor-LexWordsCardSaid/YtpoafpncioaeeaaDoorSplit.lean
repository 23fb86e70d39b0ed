/- strings.SplitSeq at a separator of one blank: the iterator's contract. -/
import Derived.Test.YtpoafpncioaeeaaDoorRangeBox
import Derived.Test.YtpoafpncioaeeaaDoorShelf
import Derived.Shelf.Abstract
import Derived.WalkKit
import Derived.OwnWalkIn
import Derived.TacticsInMore
import Derived.LoopNIn
import Derived.LoopIn
import Derived.Lib.IndexLaws
import Derived.Lib.Hide
import Derived.Deep.RegionHeld
import Derived.WalkSpells
set_option linter.unusedVariables false
set_option linter.unusedSimpArgs false
namespace Go.Proofs.YtpoafpncioaeeaaDoor
open Go.RowKit Go.Shelf Go.Proofs

attribute [local go_sem] Oper.semAt_some

/-- Words with blanks between. -/
def jn : List (List UInt8) → List UInt8
  | [] => []
  | [a] => a
  | a :: b :: r => a ++ 32 :: jn (b :: r)

theorem jn_two (a b : List UInt8) (r : List (List UInt8)) : jn (a :: b :: r) = a ++ 32 :: jn (b :: r) := rfl

theorem ib_not : ∀ (a : List UInt8), (32 : UInt8) ∉ a → Lib.indexByte a 32 = -1
  | [], _ => rfl
  | c :: a, h => by
    have h1 : (32 : UInt8) ∉ a := fun hm => h (List.mem_cons_of_mem _ hm)
    have h2 : (c == (32 : UInt8)) = false := by
      rw [beq_eq_false_iff_ne]; rintro rfl; exact h (List.mem_cons_self ..)
    simp [Lib.indexByte, h2, ib_not a h1]

theorem ib_at : ∀ (a r : List UInt8), (32 : UInt8) ∉ a → Lib.indexByte (a ++ 32 :: r) 32 = (a.length : Int)
  | [], r, _ => by simp [Lib.indexByte]
  | c :: a, r, h => by
    have h1 : (32 : UInt8) ∉ a := fun hm => h (List.mem_cons_of_mem _ hm)
    have h2 : (c == (32 : UInt8)) = false := by
      rw [beq_eq_false_iff_ne]; rintro rfl; exact h (List.mem_cons_self ..)
    have ih := ib_at a r h1
    simp only [List.cons_append, Lib.indexByte, h2, ih, List.length_cons, Bool.false_eq_true, if_false]
    have h3 : ((a.length : Int) == -1) = false := by rw [beq_eq_false_iff_ne]; omega
    rw [h3]; simp

theorem ex_head (x t : List UInt8) : (⟨(x ++ 32 :: t).toArray⟩ : ByteArray).extract 0 x.length = ⟨x.toArray⟩ := by
  apply ByteArray.ext
  apply Array.toList_inj.1
  rw [Lib.extract_data]
  simp
theorem ex_tail (x t : List UInt8) : (⟨(x ++ 32 :: t).toArray⟩ : ByteArray).extract (x.length + 1) (x.length + (t.length + 1)) = ⟨t.toArray⟩ := by
  apply ByteArray.ext
  apply Array.toList_inj.1
  rw [Lib.extract_data]
  simp
  exact List.take_of_length_le (by omega)

/-- What is left of the text, read off the world. -/
def leftAt (B : Nat) (w : World) : Nat :=
  match w.cell? ⟨B, 0, none⟩ with
  | some (.string s) => s.size
  | _ => 0

theorem leftAt_eq {B : Nat} {w : World} {s : ByteArray} (h : w.cell? ⟨B, 0, none⟩ = some (.string s)) : leftAt B w = s.size := by
  unfold leftAt; rw [h]

set_option maxHeartbeats 2000000 in
theorem split_stops (B : Nat) (ws : List (List UInt8)) (hne : ws ≠ []) (hno : ∀ x ∈ ws, (32 : UInt8) ∉ x) (hsz : ∀ pre x rest, ws = pre ++ x :: rest → (jn (x :: rest)).length < 1000000) (w : World) (hB : B + 3 ≤ w.heap.size)
    (c0 : w.cell? ⟨B, 0, none⟩ = some (.string ⟨(jn ws).toArray⟩)) (f0 : w.frozen? ⟨B, 0, none⟩ = false) (c1 : w.cell? ⟨B + 1, 0, none⟩ = some (.string ⟨#[32]⟩)) (c2 : w.cell? ⟨B + 2, 0, none⟩ = some (.int .i64 0)) (n : Nat) (hn : 1 ≤ n) :
    SeqBox Fence.wide n Tryd.prog 20 #[.pointer (some ⟨B + 1, 0, none⟩), .pointer (some ⟨B, 0, none⟩), .pointer (some ⟨B + 2, 0, none⟩)] (fun x : List UInt8 => #[.string ⟨x.toArray⟩]) (Below (B + 3)) B (fun xs => xs = ws) (fun pre => pre <+: ws) ws.length w := by
  intro l J Jx W hW hJ hJx hs hsx hY h0
  have d0 : W.cell? ⟨B, 0, none⟩ = some (.string ⟨(jn ws).toArray⟩) := (hW.cell (p := ⟨B, 0, none⟩) (by show B < _; omega)).trans c0
  have g0 : W.frozen? ⟨B, 0, none⟩ = false := (hW.frozen (p := ⟨B, 0, none⟩) (by show B < _; omega)).trans f0
  have d1 : W.cell? ⟨B + 1, 0, none⟩ = some (.string ⟨#[32]⟩) := (hW.cell (p := ⟨B + 1, 0, none⟩) (by show B + 1 < _; omega)).trans c1
  have d2 : W.cell? ⟨B + 2, 0, none⟩ = some (.int .i64 0) := (hW.cell (p := ⟨B + 2, 0, none⟩) (by show B + 2 < _; omega)).trans c2
  refine callsIn_of_wp Tryd.func20 rfl trivial ?_ rfl
  simp only [Tryd.ntmps20, List.size_toArray, List.length_cons, List.length_nil, Nat.reduceAdd, Nat.reduceSub, Array.replicate_succ, Array.replicate_zero, List.push_toArray, List.append_toArray, List.nil_append, List.cons_append]
  gi_wp2
  gi_loopw [7] (fun p wr => ∃ (pre rest : List (List UInt8)) (x : List UInt8), ws = pre ++ x :: rest ∧ wr.cell? ⟨B, 0, none⟩ = some (.string ⟨(jn (x :: rest)).toArray⟩) ∧ wr.frozen? ⟨B, 0, none⟩ = false ∧ wr.cell? ⟨B + 1, 0, none⟩ = some (.string ⟨#[32]⟩) ∧ wr.cell? ⟨B + 2, 0, none⟩ = some (.int .i64 0) ∧ J pre wr)
    (fun p wr => leftAt B wr)
  case atStart =>
    cases ws with
    | nil => exact absurd rfl hne
    | cons x rest => exact ⟨[], rest, x, rfl, d0, g0, d1, d2, h0⟩
  case round =>
    obtain ⟨pre, rest, x, hws, e0, e1, e2, e3, hJs⟩ := hrel
    have hx : (32 : UInt8) ∉ x := hno x (by rw [hws]; simp)
    have hsx0 := hsz pre x rest hws
    have hlen : pre.length < ws.length := by rw [hws]; simp
    obtain ⟨fn, tmps, assign, body, hy, hR⟩ := hY pre x wr hJs hlen
    cases rest with
    | nil =>
      replace e0 : wr.cell? ⟨B, 0, none⟩ = some (.string ⟨x.toArray⟩) := e0
      have hI : ∀ W1, CallsIn Fence.wide (n - 1) Tryd.prog 22 #[.string ⟨x.toArray⟩, .string ⟨#[32]⟩] W1 fun e w' => e = .returned (.int .i64 (-1)) ∧ w' = W1 := by
        intro W1
        refine callsIn_wide.2 ((Tryd.strings_Index_one _ _ W1).mono ?_)
        rintro e w' ⟨rfl, rfl⟩
        refine ⟨?_, rfl⟩
        rw [show Lib.indexByte (⟨x.toArray⟩ : ByteArray).data.toList 32 = -1 from ib_not x hx]
      gi_wp2_with (refine ⟨trivial, ?_⟩; gi_at_call 22; refine (hI _).mono ?_; rintro e w' ⟨rfl, rfl⟩)
      refine hR.mono ?_
      rintro e W' (⟨rfl, hJ', hk⟩ | ⟨rfl, hJx'⟩)
      · gi_wp2
        refine bodyPost_end (results_none rfl _ _ _) rfl ?_
        exact ⟨⟨_, rfl⟩, .inl ⟨_, hws.symm, hJ'⟩⟩
      · gi_wp2
        refine bodyPost_end (results_none rfl _ _ _) rfl ?_
        exact ⟨⟨_, rfl⟩, .inr ⟨_, ⟨[], by rw [hws]; simp⟩, hJx'⟩⟩
    | cons y r =>
      rw [jn_two] at e0
      have hlt : x.length + 1 + (jn (y :: r)).length < 1000000 := by rw [jn_two] at hsx0; simp at hsx0; omega
      have hI : ∀ W1, CallsIn Fence.wide (n - 1) Tryd.prog 22 #[.string ⟨(x ++ 32 :: jn (y :: r)).toArray⟩, .string ⟨#[32]⟩] W1 fun e w' => e = .returned (.int .i64 x.length) ∧ w' = W1 := by
        intro W1
        refine callsIn_wide.2 ((Tryd.strings_Index_one _ _ W1).mono ?_)
        rintro e w' ⟨rfl, rfl⟩
        refine ⟨?_, rfl⟩
        rw [show Lib.indexByte (⟨(x ++ 32 :: jn (y :: r)).toArray⟩ : ByteArray).data.toList 32 = x.length from ib_at x _ hx]
      have hE1 := ex_head x (jn (y :: r))
      have hE2 := ex_tail x (jn (y :: r))
      have hng : decide ((x.length : Int) < 0) = false := by simp
      gi_wp2_with (refine ⟨trivial, ?_⟩; gi_at_call 22; refine (hI _).mono ?_; rintro e w' ⟨rfl, rfl⟩)
      refine hR.mono ?_
      rintro e W' (⟨rfl, hJ', hk⟩ | ⟨rfl, hJx'⟩)
      · have e0' := (hk.cell (p := ⟨B, 0, none⟩) (by show B < _; omega)).trans e0
        have e1' := (hk.frozen (p := ⟨B, 0, none⟩) (by show B < _; omega)).trans e1
        have e2' := (hk.cell (p := ⟨B + 1, 0, none⟩) (by show B + 1 < _; omega)).trans e2
        have e3' := (hk.cell (p := ⟨B + 2, 0, none⟩) (by show B + 2 < _; omega)).trans e3
        gi_wp2
        go_roundw
        case rel =>
          have q0 : (W'.setCell ⟨B, 0, none⟩ (.string ⟨(jn (y :: r)).toArray⟩)).cell? ⟨B, 0, none⟩ = some (.string ⟨(jn (y :: r)).toArray⟩) := World.cell?_setCell_same' _ _ _ (by rw [e0']; rfl)
          refine ⟨pre ++ [x], r, y, by rw [hws]; simp, ?_, ?_, ?_, ?_, hs _ _ _ hJ'⟩
          · first | exact q0 | (rw [hE2]; exact q0)
          · rw [World.frozen?_setCell]; exact e1'
          · exact (World.cell?_setCell_far _ _ _ _ (by simp)).trans e2'
          · exact (World.cell?_setCell_far _ _ _ _ (by simp)).trans e3'
        case measure =>
          rw [leftAt_eq (World.cell?_setCell_same' _ _ _ (by rw [e0']; rfl)), leftAt_eq e0]
          show (jn (y :: r)).toArray.size < (x ++ 32 :: jn (y :: r)).toArray.size
          simp
          omega
      · gi_wp2
        refine bodyPost_ret (results_none rfl _ _ _) rfl ?_
        exact ⟨⟨_, rfl⟩, .inr ⟨_, ⟨y :: r, by rw [hws]; simp⟩, hJx'⟩⟩
end Go.Proofs.YtpoafpncioaeeaaDoor
