/- rowlock/lex.Words: all words, sorted. -/
import Derived.Test.YtpoafpncioaeeaaDoorWord
import Derived.RangeFuncBox
import Derived.Maps.AppendAt
set_option linter.unusedVariables false
set_option linter.unusedSimpArgs false
namespace Go.Proofs.YtpoafpncioaeeaaDoor
open Go.RowKit Go.Shelf Go.Proofs

attribute [local go_sem] Oper.semAt_some

theorem Tryd.infoStr : (Tryd.prog.info? 9).map (fun i => (i.zero, i.size, i.bytes)) = some (some (.string ⟨#[]⟩), 1, 16) := by kernel_rfl

theorem PrintOwn.base {w : World} {base : Nat} {e : TypeId} {size n : Nat} {v : Value} {xs : List Value} (h : w.ownsRow base e size v n xs) (k : Nat) (hk : v.ownBlock = some k) : base ≤ k := by
  rcases h.2 with ⟨rfl, _⟩ | ⟨g, cap, cur, rfl, hb, _⟩
  · simp [Value.ownBlock] at hk
  · have : g = k := by simpa [Value.ownBlock] using hk
    omega

def encW (x : List UInt8) : Value := .string ⟨x.toArray⟩

set_option maxHeartbeats 2000000 in
theorem AppendSeq_calls (B : Nat) (w : World) (hB : B + 3 ≤ w.heap.size) (c0 : w.cell? ⟨B, 0, none⟩ = some (.string ⟨(jn lexWs).toArray⟩)) (f0 : w.frozen? ⟨B, 0, none⟩ = false) (c1 : w.cell? ⟨B + 1, 0, none⟩ = some (.string ⟨#[32]⟩)) (c2 : w.cell? ⟨B + 2, 0, none⟩ = some (.int .i64 0)) :
    Calls Tryd.prog 17 #[.slice none 0 0, .func (.func 20) #[] #[.pointer (some ⟨B + 1, 0, none⟩), .pointer (some ⟨B, 0, none⟩), .pointer (some ⟨B + 2, 0, none⟩)]] w fun e w' => ∃ v, e = .returned v ∧ w'.ownsRow w.heap.size 9 1 v lexWs.length (lexWs.map encW) ∧ Below B w w' := by
  obtain ⟨i0, hi, hz0, hz1, hz2⟩ := info_parts Tryd.infoStr
  refine callsIn_wide.1 (?_ : CallsIn Fence.wide 10 _ _ _ _ _)
  refine callsIn_of_wp_marks Tryd.func17 rfl trivial ?_ rfl
  simp only [Tryd.ntmps17, List.size_toArray, List.length_cons, List.length_nil, Nat.reduceAdd, Nat.reduceSub, Array.replicate_succ, Array.replicate_zero, List.push_toArray, List.append_toArray, List.nil_append, List.cons_append]
  gi_wp2
  have bO := Boxed.new w 22 (.slice none 0 0)
  have hB0 : Below B w (w.alloc (.cells #[.slice none 0 0] 22)) := (Below.refl _ w).alloc (by omega) _
  have hA : Below w.heap.size w (w.alloc (.cells #[.slice none 0 0] 22)) := (Below.refl _ w).alloc (Nat.le_refl _) _
  refine wpIn_rangeFunc_box rfl (by decide) (gf := 20) (lb := #[.pointer (some ⟨B + 1, 0, none⟩), .pointer (some ⟨B, 0, none⟩), .pointer (some ⟨B + 2, 0, none⟩)]) rfl trivial (enters_of Tryd.func20 (by kernel_rfl) rfl)
    (split_stops B lexWs (by decide) lexWs_no lexWs_sz _ (by simp; omega) ((hA.cell (p := ⟨B, 0, none⟩) (by show B < _; omega)).trans c0) ((hA.frozen (p := ⟨B, 0, none⟩) (by show B < _; omega)).trans f0) ((hA.cell (p := ⟨B + 1, 0, none⟩) (by show B + 1 < _; omega)).trans c1) ((hA.cell (p := ⟨B + 2, 0, none⟩) (by show B + 2 < _; omega)).trans c2) 9 (by decide)) (by simp; omega) belowK_t (belowK_b (by simp; omega)) (Below.refl _ _) (fun _ => rfl)
    (fun pre W => (∃ v, Boxed W w.heap.size 22 v ∧ W.ownsRow w.heap.size 9 1 v pre.length (pre.map encW) ∧ (v = .slice none 0 0 ↔ pre = [])) ∧ Below B w W)
    (fun _ _ _ => False)
    (OwnFrom.and (Own.from (holdsRow_own w.heap.size w.heap.size 22 9 1 (fun pre => pre.length) (fun pre => pre.map encW) (fun pre v => v = .slice none 0 0 ↔ pre = [])) _) (ownFrom_below (by omega) (by simp; omega)))
    (fun _ _ _ _ _ hs _ _ => hs) ?hS (fun _ _ _ _ hs => hs)
    ⟨⟨_, bO, World.ownsRow_nil _ _ _ _, by simp⟩, hB0⟩
    (fun x => { tmps := #[.slice none 0 0, .func (.func 20) #[] #[.pointer (some ⟨B + 1, 0, none⟩), .pointer (some ⟨B, 0, none⟩), .pointer (some ⟨B + 2, 0, none⟩)], .pointer (some ⟨w.heap.size, 0, none⟩), undef, .slice none 0 0, .string ⟨x.toArray⟩, .func (.func 20) #[] #[.pointer (some ⟨B + 1, 0, none⟩), .pointer (some ⟨B, 0, none⟩), .pointer (some ⟨B + 2, 0, none⟩)], .string ⟨x.toArray⟩, undef, undef, undef, undef, undef], defers := [] }) ?assign ?body ?done ?stop
  case hS =>
    rintro s W u ⟨⟨v, hv, hrow, hnil⟩, hBW⟩
    refine ⟨⟨v, hv.other (by omega) u, hrow.kept (grownBy_setCell' W B u) ?_, hnil⟩, hBW.setCell (p := ⟨B, 0, none⟩) (Nat.le_refl _) _⟩
    cases e : v.ownBlock with
    | none => exact .inl rfl
    | some k =>
      refine .inr (fun h => ?_)
      cases h
      have := PrintOwn.base hrow B e
      omega
  case assign =>
    intro l x W K hK
    gi_wp2
    exact hK
  case body =>
    rintro l pre x W ⟨⟨v, hv, hrow, hnil⟩, hBW⟩ hlt
    have hc := hv.cell
    have hpl : pre.length < 24 := hlt
    gi_wp2_with (gi_at_builtin; refine wpListIn_append_own _ rfl _ _ 22 rfl w.heap.size 9 i0 (.string ⟨#[]⟩) 1 16 Tryd.underlying22 hi hz0 hz1 hz2 rfl (by decide) _ _ _ rfl (hrow.alloc _) ⟨W.heap.size, 0, none⟩ 1 1 [.string ⟨x.toArray⟩] rfl rfl (cell_one_new _ _ _) (by simp [Value.oneCell']) (by unfold maxLen; omega) (by omega) (by have := hBW.size; simp; omega) ?_; intro v' w1 hown' hgrow _; obtain ⟨g', cap', rfl⟩ := ownsRow_succ hown'; obtain ⟨hv1, hv2, hr2, hk2, hb2⟩ := hv.appended (by decide) hrow (by have := hBW.size; have := hv.lt; omega) (Nat.le_refl _) hown' hgrow; have hc1 := hv1.cell; have hf1 := hv1.frozen)
    exact ⟨hk2, hb2.mono (by omega), ⟨_, hv2, by simpa [encW] using hr2, by simp⟩, hBW.trans (hb2.mono (by omega))⟩
  case done =>
    rintro D ys W hD rfl ⟨⟨v, hv, hrow, hnil⟩, hBW⟩ hK
    have hc := hv.cell
    gi_wp2
    refine ⟨by simp, .inl ⟨_, _, rfl, run_takeDeferred hK, ?_⟩⟩
    exact ⟨_, results_tmp rfl _ _ _, v, rfl, ownsRow_putObj hrow _ hK rfl, hBW.trans (belowK_b (w := w) (by omega) W D _ _ (by simp at hD; omega) hK rfl rfl)⟩
  case stop =>
    rintro D c pre W _ _ h _
    exact h.elim
end Go.Proofs.YtpoafpncioaeeaaDoor
