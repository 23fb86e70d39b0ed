/- For every book and two paths the law PathsSame answers true and leaves them as they were. -/
import Derived.Test.YtilkoiilednekaaGreatDoorTie
import Derived.Test.YtilkoiilednekaaGreatDoorCards
import Derived.Test.YtilkoiilednekaaGreatDoorOpen
import Derived.Test.YtilkoiilednekaaGreatDoorPathsFacts
import Derived.Test.YtilkoiilednekaaGreatDoorPathsLaw
import Derived.WalkKit
import Derived.ProofKit
import Derived.OpenShut
import Derived.ShutString
import Derived.ChangeOld
import Derived.Below
import Derived.Carry
import Derived.SizedLaws
import Derived.Lay
import Derived.LaidMore
import Derived.LaidOnce
import Derived.SevenTiedAt
import Derived.Stop.Joined
set_option linter.unusedVariables false
set_option linter.unusedSimpArgs false
namespace Go.Proofs.YtilkoiilednekaaGreatDoor
namespace PathsRow
open Go.ChangeShapes Go.WideShapes Go.ChangeAt Go.RowKit Go.Proofs.YtilkoiilednekaaGreatDoorW.PrintWords Go.Proofs.YtilkoiilednekaaGreatDoor.PHPath
open Go.ChangeMaps (open_string shut_string)

/-! ### the arguments opened -/
section
variable {H : Type} {enc : TypeId × Value → H}
open Go.Proofs.YtilkoiilednekaaGreatDoor.Open
theorem slc {α : Type} {d : Kd α} {e t : TypeId} {Q : α → Prop} (ht : Tryz.prog.underlying t = some (.slice e)) (hz : Tryz.prog.cellsOf e = d.sz) (hp : 0 < Tryz.prog.bytesOf e) (h : ∀ n, At enc Tryz.prog n d e Q) :
    ∀ n, At enc Tryz.prog n (Kd.slice e d) t (fun l => l.length ≤ 140737488351232 ∧ ∀ a ∈ l, Q a)
  | 0 => At.zero _ _ _
  | n + 1 => (At.slice ht hz rfl (h n)).weak fun l ⟨h1, h2⟩ => ⟨Nat.le_trans (Nat.le_mul_of_pos_right _ hp) h1, h2⟩
theorem atStr (n : Nat) {t : TypeId} (ht : Tryz.prog.underlying t = some .string) : At enc Tryz.prog n Kd.string t (fun _ => True) := (At.string ht n).weak fun _ _ => trivial
theorem atInt (n : Nat) {k : IntKind} {t : TypeId} (ht : Tryz.prog.underlying t = some (.int k)) : At enc Tryz.prog n (Kd.int k) t (fun _ => True) := (At.int ht n).weak fun _ _ => trivial
theorem at_ints (n : Nat) : At enc Tryz.prog n (Kd.slice 3 (Kd.int .i64)) 26 (fun l => l.length ≤ 140737488351232 ∧ ∀ a ∈ l, True) :=
  slc (by kernel_rfl) (by kernel_rfl) (of_decide_eq_true (by kernel_rfl)) (fun n => atInt n (by kernel_rfl)) n
theorem at_range : ∀ n, At enc Tryz.prog n k59 59 (fun _ => True)
  | 0 => At.zero _ _ _
  | n + 1 => (At.struct Tryz.underlying59 (by kernel_rfl) (FAt.cons rfl (by kernel_rfl) (atStr n (by kernel_rfl)) (FAt.cons rfl (by kernel_rfl) (atStr n (by kernel_rfl)) (FAt.one rfl (by kernel_rfl) (At.bool (by kernel_rfl) n)))) _ (fun a => ⟨a.1, a.2.1, a.2.2⟩) (fun _ => rfl)).weak fun _ _ => trivial
theorem at_ranges (n : Nat) : At enc Tryz.prog n (Kd.slice 59 k59) 38 (fun l => l.length ≤ 140737488351232 ∧ ∀ a ∈ l, True) :=
  slc (by kernel_rfl) (by kernel_rfl) (of_decide_eq_true (by kernel_rfl)) at_range n
theorem at_path : ∀ n, At enc Tryz.prog n k40 40 (fun p => p.f2.length ≤ 140737488351232 ∧ p.f3.length ≤ 140737488351232 ∧ p.f5.length ≤ 140737488351232 ∧ p.f6.length ≤ 140737488351232)
  | 0 => At.zero _ _ _
  | n + 1 => (At.struct Tryz.underlying40 (by kernel_rfl) (FAt.cons rfl (by kernel_rfl) (atInt n (by kernel_rfl)) (FAt.cons rfl (by kernel_rfl) (atInt n (by kernel_rfl)) (FAt.cons rfl (by kernel_rfl) (at_ranges n) (FAt.cons rfl (by kernel_rfl) (at_ints n) (FAt.cons rfl (by kernel_rfl) (atInt n (by kernel_rfl)) (FAt.cons rfl (by kernel_rfl) (at_ranges n) (FAt.one rfl (by kernel_rfl) (at_ints n)))))))) _ (fun a => ⟨a.1, a.2.1, a.2.2.1, a.2.2.2.1, a.2.2.2.2.1, a.2.2.2.2.2.1, a.2.2.2.2.2.2⟩) (fun _ => rfl)).weak
      fun p h => ⟨h.2.2.1.1, h.2.2.2.1.1, h.2.2.2.2.2.1.1, h.2.2.2.2.2.2.1⟩
theorem at_column : ∀ n, At enc Tryz.prog n k88 88 (fun _ => True)
  | 0 => At.zero _ _ _
  | n + 1 => (At.struct Tryz.underlying88 (by kernel_rfl) (FAt.cons rfl (by kernel_rfl) (atStr n (by kernel_rfl)) (FAt.cons rfl (by kernel_rfl) (atInt n (by kernel_rfl)) (FAt.cons rfl (by kernel_rfl) (atInt n (by kernel_rfl)) (FAt.one rfl (by kernel_rfl) (atInt n (by kernel_rfl)))))) _ (fun a => ⟨a.1, a.2.1, a.2.2.1, a.2.2.2⟩) (fun _ => rfl)).weak fun _ _ => trivial
theorem at_columns (n : Nat) : At enc Tryz.prog n (Kd.slice 88 k88) 89 (fun l => l.length ≤ 140737488351232 ∧ ∀ a ∈ l, True) :=
  slc (by kernel_rfl) (by kernel_rfl) (of_decide_eq_true (by kernel_rfl)) at_column n
theorem at_table : ∀ n, At enc Tryz.prog n k91 91 (fun t => t.f1.length ≤ 140737488351232)
  | 0 => At.zero _ _ _
  | n + 1 => (At.struct Tryz.underlying91 (by kernel_rfl) (FAt.cons rfl (by kernel_rfl) (atStr n (by kernel_rfl)) (FAt.cons rfl (by kernel_rfl) (at_columns n) (FAt.cons rfl (by kernel_rfl) (atInt n (by kernel_rfl)) (FAt.cons rfl (by kernel_rfl) (atInt n (by kernel_rfl)) (FAt.one rfl (by kernel_rfl) (atInt n (by kernel_rfl))))))) _ (fun a => ⟨a.1, a.2.1, a.2.2.1, a.2.2.2.1, a.2.2.2.2⟩) (fun _ => rfl)).weak fun _ h => h.2.1.1
theorem at_tables (n : Nat) : At enc Tryz.prog n (Kd.slice 91 k91) 22 (fun l => l.length ≤ 140737488351232 ∧ ∀ a ∈ l, a.f1.length ≤ 140737488351232) :=
  slc (by kernel_rfl) (by kernel_rfl) (of_decide_eq_true (by kernel_rfl)) at_table n
theorem at_index : ∀ n, At enc Tryz.prog n k71 71 (fun _ => True)
  | 0 => At.zero _ _ _
  | n + 1 => (At.struct Tryz.underlying71 (by kernel_rfl) (FAt.cons rfl (by kernel_rfl) (atStr n (by kernel_rfl)) (FAt.cons rfl (by kernel_rfl) (atInt n (by kernel_rfl)) (FAt.cons rfl (by kernel_rfl) (at_ints n) (FAt.cons rfl (by kernel_rfl) (atInt n (by kernel_rfl)) (FAt.cons rfl (by kernel_rfl) (atInt n (by kernel_rfl)) (FAt.cons rfl (by kernel_rfl) (atInt n (by kernel_rfl)) (FAt.one rfl (by kernel_rfl) (at_ints n)))))))) _ (fun a => ⟨a.1, a.2.1, a.2.2.1, a.2.2.2.1, a.2.2.2.2.1, a.2.2.2.2.2.1, a.2.2.2.2.2.2⟩) (fun _ => rfl)).weak fun _ _ => trivial
theorem at_indexes (n : Nat) : At enc Tryz.prog n (Kd.slice 71 k71) 23 (fun l => l.length ≤ 140737488351232 ∧ ∀ a ∈ l, True) :=
  slc (by kernel_rfl) (by kernel_rfl) (of_decide_eq_true (by kernel_rfl)) at_index n
def kBook : Kd (List (S91) × List (S71)) := Kd.iso (Kd.pair (Kd.slice 91 k91) (Kd.slice 71 k71)) id
theorem at_book : ∀ n, At enc Tryz.prog n kBook 25 (fun b => (b.1.length ≤ 140737488351232 ∧ ∀ a ∈ b.1, a.f1.length ≤ 140737488351232) ∧ b.2.length ≤ 140737488351232)
  | 0 => At.zero _ _ _
  | n + 1 => (At.struct Tryz.underlying25 (by kernel_rfl) (FAt.cons rfl (by kernel_rfl) (at_tables n) (FAt.one rfl (by kernel_rfl) (at_indexes n))) id id (fun _ => rfl)).weak fun _ h => ⟨h.1, h.2.1⟩

set_option maxRecDepth 100000 in
theorem open_book {W : World} {base : Nat} {v : Value} {d : DataW H} {ps : List MemPlace} (hv : Value.okWide Tryz.prog W .any base 25 v) (h : DataW.Trod enc Tryz.prog W 0 (fun _ => true) true 25 v d ps) (hk : Ok Tryz.prog 25 d) :
    ∃ A0 c0 l0 A1 c1 l1, v = .agg #[.slice A0 l0.length c0, .slice A1 l1.length c1] ∧ Kd.C k91 W A0 l0.length l0 ∧ l0.length ≤ c0 ∧ Kd.C k71 W A1 l1.length l1 ∧ l1.length ≤ c1 ∧ l0.length ≤ 140737488351232 ∧ (∀ a ∈ l0, a.f1.length ≤ 140737488351232) ∧ l1.length ≤ 140737488351232 := by
  obtain ⟨cs, rfl, _⟩ := okWide_struct Tryz.underlying25 hv
  obtain ⟨fuel, hf⟩ := h
  obtain ⟨⟨l0, l1⟩, hK, ⟨q1, q2⟩, q3⟩ := at_book fuel W _ _ hf hk
  obtain ⟨x0, x1, e, ⟨A0, c0, rfl, g0, h0⟩, ⟨A1, c1, rfl, g1, h1⟩⟩ := hK
  refine ⟨A0, c0, l0, A1, c1, l1, ?_, h0, g0, h1, g1, q1, q2, q3⟩
  have e' : cs.toList = [.slice A0 l0.length c0, .slice A1 l1.length c1] := e
  rw [← e']
set_option maxRecDepth 100000 in
theorem open_path {W : World} {base : Nat} {v : Value} {d : DataW H} {ps : List MemPlace} (hv : Value.okWide Tryz.prog W .any base 40 v) (h : DataW.Trod enc Tryz.prog W 0 (fun _ => true) true 40 v d ps) (hk : Ok Tryz.prog 40 d) :
    ∃ (p : S40) (A2 : Option Addr) (c2 : Nat) (A3 : Option Addr) (c3 : Nat) (A5 : Option Addr) (c5 : Nat) (A6 : Option Addr) (c6 : Nat), v = PathsWalk.pv p.f0 p.f1 A2 p.f2.length c2 A3 p.f3.length c3 p.f4 A5 p.f5.length c5 A6 p.f6.length c6 ∧
      Kd.C k59 W A2 p.f2.length p.f2 ∧ p.f2.length ≤ c2 ∧ Kd.C (Kd.int .i64) W A3 p.f3.length p.f3 ∧ p.f3.length ≤ c3 ∧ Kd.C k59 W A5 p.f5.length p.f5 ∧ p.f5.length ≤ c5 ∧ Kd.C (Kd.int .i64) W A6 p.f6.length p.f6 ∧ p.f6.length ≤ c6 ∧
      (p.f2.length ≤ 140737488351232 ∧ p.f3.length ≤ 140737488351232 ∧ p.f5.length ≤ 140737488351232 ∧ p.f6.length ≤ 140737488351232) := by
  obtain ⟨cs, rfl, _⟩ := okWide_struct Tryz.underlying40 hv
  obtain ⟨fuel, hf⟩ := h
  obtain ⟨p, hK, hq⟩ := at_path fuel W _ _ hf hk
  obtain ⟨x0, r0, e, rfl, x1, r1, rfl, rfl, x2, r2, rfl, ⟨A2, c2, rfl, g2, h2⟩, x3, r3, rfl, ⟨A3, c3, rfl, g3, h3⟩, x4, r4, rfl, rfl, x5, r5, rfl, ⟨A5, c5, rfl, g5, h5⟩, ⟨A6, c6, rfl, g6, h6⟩⟩ := hK
  refine ⟨p, A2, c2, A3, c3, A5, c5, A6, c6, ?_, h2, g2, h3, g3, h5, g5, h6, g6, hq⟩
  have e' : cs.toList = [.int .u8 p.f0, .int .i64 p.f1, .slice A2 p.f2.length c2, .slice A3 p.f3.length c3, .int .i64 p.f4, .slice A5 p.f5.length c5, .slice A6 p.f6.length c6] := e
  unfold PathsWalk.pv
  rw [← e']
end

theorem own : ownKnob Tryz.prog.godebug = none := by kernel_rfl
theorem laidOut : laidOutB Tryz.prog = true := by kernel_rfl
def laid : List (String × DataW Unit) := [("math/bits.deBruijn32tab", Rows.laid_math_bits_deBruijn32tab), ("unicode/utf8.acceptRanges", Rows.laid_unicode_utf8_acceptRanges), ("unicode/utf8.first", Rows.laid_unicode_utf8_first)]

set_option maxRecDepth 100000 in
theorem lifted (os : Os) (started : os.Started) (H : Type) (enc : TypeId × Value → H) :
    ReturnsInHanded {} Tryz.checked os 6 .any (fun w args => (Rows.pathsSameSpec.pre enc Tryz.prog Tryz.f6 [] false w args ∧ laidMetH Tryz.prog laid w) ∧ sizedMet enc Tryz.prog Tryz.f6 (OpenSpec.ofChange Rows.pathsSameSpec) false w args)
      (Rows.pathsSameSpec.post enc Tryz.prog Tryz.f6 false true false false) := by
  refine returnsInHanded_of_change_and (C := Tryz.checked) (X := fun w _ => laidMetH Tryz.prog laid w) (fun _ _ _ hh h => h.of_heap hh) own started (by kernel_rfl) Tryz.func6
    (ChangeSpec.witness_shaped (enc := enc) (C := Tryz.checked) (os := os) (X := fun w _ => laidMetH Tryz.prog laid w) false (World.laidAll Tryz.prog os laid) #[.agg #[.slice none 0 0, .slice none 0 0], .agg #[.int .u8 0, .int .i64 0, .slice none 0 0, .slice none 0 0, .int .i64 0, .slice none 0 0, .slice none 0 0], .agg #[.int .u8 0, .int .i64 0, .slice none 0 0, .slice none 0 0, .int .i64 0, .slice none 0 0, .slice none 0 0]] 8 (World.laidAll_os _ _ _)
      (World.shaped_of_ZipB (by kernel_rfl) (by kernel_rfl)) (by kernel_rfl) (by kernel_rfl) (by kernel_rfl)
      (by rw [MakeChecks.laidMetH_plain _ _ _ (by kernel_rfl)]; exact laidMet_laidAll _ (by kernel_rfl) (by kernel_rfl))) ?_
  intro W base args ds gs before hval0 hW hcnd hsz0 hL _
  have hsz : (DataW.weightsEach Tryz.prog (Tryz.f6.params.toList ++ Rows.pathsSameSpec.plain.varTypes Tryz.prog) (ds ++ gs)).all (· ≤ reachBytes) = true := hsz0
  have hval : ∀ (j : Nat) t v, Tryz.f6.params[j]? = some t → args[j]? = some v → Value.okWide Tryz.prog W .any base t v := hval0
  have hW' := hW
  obtain ⟨p, q, hA0, hV, rfl, _, _⟩ := hW
  have hA : DataW.TrodAll enc Tryz.prog W 0 (fun _ => true) true Tryz.f6.params.toList args.toList ds p := hA0
  rw [Tryz.params6] at hA hval hsz
  obtain ⟨v0, vs0, d0, ds0, p0, q0, hargs, rfl, rfl, h0, r0⟩ := trodAll_cons hA
  obtain ⟨v1, vs1, d1, ds1, p1, q1, rfl, rfl, rfl, h1, r1⟩ := trodAll_cons r0
  obtain ⟨v2, vs2, d2, ds2, p2, q2, rfl, rfl, rfl, h2, r2⟩ := trodAll_cons r1
  obtain ⟨rfl, rfl, rfl⟩ := trodAll_nil r2
  obtain rfl : args = #[v0, v1, v2] := by cases args; simp_all
  obtain ⟨rfl, rfl⟩ := trodVars_none hV
  have ok0 : Open.Ok Tryz.prog 25 d0 := fun n hn => by simpa using List.all_eq_true.1 hsz _ (DataW.weights_mem_each (j := 0) rfl rfl n hn)
  have ok1 : Open.Ok Tryz.prog 40 d1 := fun n hn => by simpa using List.all_eq_true.1 hsz _ (DataW.weights_mem_each (j := 1) rfl rfl n hn)
  have ok2 : Open.Ok Tryz.prog 40 d2 := fun n hn => by simpa using List.all_eq_true.1 hsz _ (DataW.weights_mem_each (j := 2) rfl rfl n hn)
  have k0 := h0
  have k1 := h1
  have k2 := h2
  have lt0 : ∀ x ∈ p0, x.block < W.heap.size := by obtain ⟨m, hm⟩ := k0; exact DataW.trod_lt m _ _ _ hm
  have lt1 : ∀ x ∈ p1, x.block < W.heap.size := by obtain ⟨m, hm⟩ := k1; exact DataW.trod_lt m _ _ _ hm
  have lt2 : ∀ x ∈ p2, x.block < W.heap.size := by obtain ⟨m, hm⟩ := k2; exact DataW.trod_lt m _ _ _ hm
  obtain ⟨B0, cB0, b0, B1, cB1, b1, rfl, hb0, gb0, hb1, gb1, nb0, nt, nb1⟩ := open_book (hval 0 25 v0 rfl rfl) h0 ok0
  obtain ⟨x, A2, c2, A3, c3, A5, c5, A6, c6, rfl, x2, y2, x3, y3, x5, y5, x6, y6, nx⟩ := open_path (hval 1 40 v1 rfl rfl) h1 ok1
  obtain ⟨z, D2, e2, D3, e3, D5, e5, D6, e6, rfl, z2, u2, z3, u3, z5, u5, z6, u6, nz⟩ := open_path (hval 2 40 v2 rfl rfl) h2 ok2
  clear hA0 hval0 hsz0 hsz ok0 ok1 ok2 hval hA
  refine (PathsWalk.Law_calls W B0 cB0 b0 B1 cB1 b1 x z A2 c2 A3 c3 A5 c5 A6 c6 D2 e2 D3 e3 D5 e5 D6 e6 hb0 gb0 hb1 gb1 x2 y2 x3 y3 x5 y5 x6 y6 z2 u2 z3 u3 z5 u5 z6 u6 nb0 nb1 nt (by omega)).mono fun e W' ⟨he, bel⟩ => ?_
  subst he
  exact ⟨_, rfl, _, _, _, [], _, [], hW', trodAll_mk1 (shut_bool Tryz.underlying4 _),
    (trodAll_cons_mk (Below.trod laidOut (by kernel_rfl) (of_decide_eq_true (by kernel_rfl)) k0 bel lt0) (trodAll_cons_mk (Below.trod laidOut (by kernel_rfl) (of_decide_eq_true (by kernel_rfl)) k1 bel lt1) (trodAll_cons_mk (Below.trod laidOut (by kernel_rfl) (of_decide_eq_true (by kernel_rfl)) k2 bel lt2) trodAll_mk0))), rfl, bel.frame _, fun h => by cases h⟩

theorem over : Rows.PathsSameSaid :=
  OpenClaim.holds_of_wide 6 Tryz.f6 rfl rfl rfl rfl rfl rfl rfl ⟨rfl, rfl, rfl, rfl, rfl⟩ rfl rfl rfl rfl rfl p_fn Tryz.func6 p_closed p_inst p_wrap
    (fun os started H enc _ => lifted os started H enc)

theorem card_holds : Rows.PathsSameCardSaid :=
  Claim7.holds_tied_plain_at .later [] [.data, .data, .pinned] true (true, "515859eaa46023a671fc20a3b6a6ae2785a5f9d8114fa80e42c9423c19080751") false over (fun _ h => by cases h) (by kernel_rfl) (fun _ h => by cases h) pathsSame_row_tie rfl ⟨rfl, rfl⟩ (by kernel_rfl) rfl
    (fun f fn hf hfn => by
      obtain rfl : f = 6 := Option.some.inj ((show Tryz.prog.funcNamed "rowlock/rowlocklaw22.PathsSame" = some 6 by kernel_rfl).symm.trans hf) |>.symm
      obtain rfl : fn = Tryz.f6 := (Option.some.inj (Tryz.func6.symm.trans hfn)).symm
      exact ⟨by kernel_rfl, fun j t ht => by
        rw [Tryz.params6] at ht
        have hm : t ∈ [25, 40, 40] := by simpa using Array.mem_of_getElem? ht
        have hall : ([25, 40, 40].all fun u => !Tryz.prog.wantsStandIn u) = true := by kernel_rfl
        exact (show Tryz.prog.wantsStandIn t = false by simpa using List.all_eq_true.1 hall t hm)⟩)
    (by kernel_rfl)
#print axioms card_holds
end PathsRow
end Go.Proofs.YtilkoiilednekaaGreatDoor
