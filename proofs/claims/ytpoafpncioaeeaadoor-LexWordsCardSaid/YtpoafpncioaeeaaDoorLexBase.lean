/- Leaf functions of the lexer, at what the laws need. -/
import Derived.Test.YtpoafpncioaeeaaDoorRefWord
import Derived.Laws.RangeString
import Derived.StillTactics
import Derived.Deep.LoopGhost
set_option linter.unusedVariables false
set_option linter.unusedSimpArgs false
namespace Go.Proofs.YtpoafpncioaeeaaDoor
open Go.RowKit Go.Shelf Go.Proofs

theorem TrimLeft_calls (s : ByteArray) (w : World) :
    Calls Tryd.prog 15 #[.string s, .string ⟨#[32, 9, 10, 13]⟩] w fun e w' => e = .returned (.string ⟨(s.data.toList.dropWhile (fun c => [32, 9, 10, 13].contains c)).toArray⟩) ∧ Below w.heap.size w w' :=
  Tryd.strings_TrimLeft_laid s ⟨#[32, 9, 10, 13]⟩ w (by decide) (ascii_of_all (by decide))

theorem ParseInt_calls (s : ByteArray) (hmax : s.size ≤ 9223372036854775806) (v : Int) (h : Lib.parseIntB 64 s.data.toList = .ok v) (w : World) :
    Calls Tryd.prog 48 #[.string s, .int .i64 10, .int .i64 64] w fun e w' => e = .returned (.tuple #[.int .i64 v, .nilIface]) ∧ Below w.heap.size w w' := by
  refine (Tryd.strconv_ParseInt_ok s hmax v h w).mono ?_
  rintro e w' ⟨rfl, rfl | ⟨t, rfl⟩⟩
  · exact ⟨rfl, Below.refl _ _⟩
  · exact ⟨rfl, Lib.bytesWorld_below _ _ _⟩

/-- All bytes are digits. -/
def allDigits (s : ByteArray) : Prop := ∀ (i : Nat) (h : i < s.size), 48 ≤ (s[i]'h).toNat ∧ (s[i]'h).toNat ≤ 57

set_option maxHeartbeats 2000000 in
set_option maxRecDepth 100000 in
theorem digits_calls (s : ByteArray) (h0 : 0 < s.size) (hsz : s.size ≤ 9223372036854775807) (hd : allDigits s) (w : World) :
    Calls Tryd.prog 47 #[.string s] w fun e w' => e = .returned (.bool (s.toList == [48] || (((s[0]'h0).toNat : Int) != 48))) ∧ Below w.heap.size w w' := by
  go_enter Tryd.func47, Tryd.ntmps47
  go_wp2
  go_loopw [4] (fun c w' => ∃ pos : Nat, w' = w.iter s pos) (fun _ w' => s.size - w'.iterPos w.heap.size)
  case atStart => exact ⟨0, rfl⟩
  case round =>
    obtain ⟨pos, rfl⟩ := hrel
    by_cases hp : pos < s.size
    · obtain ⟨d1, d2⟩ := hd pos hp
      have hnx : ∀ ty, (Instr.next (.pointer (some ⟨w.heap.size, 0, none⟩)) true ty).run Tryd.prog (w.iter s pos) = _ := fun ty => run_next_ascii w s pos ty hp (by omega)
      go_wp2
      go_roundw
      case rel => exact ⟨pos + 1, rfl⟩
      case measure => simp; omega
    · have hnx : ∀ ty, (Instr.next (.pointer (some ⟨w.heap.size, 0, none⟩)) true ty).run Tryd.prog (w.iter s pos) = _ := fun ty => run_next_end w s pos ty hp
      by_cases h48 : (s.toList == [48]) = true
      · go_wp2
        go_ret
        exact ⟨by rw [h48]; rfl, (Below.refl _ w).alloc (Nat.le_refl _) _⟩
      · have h48' : (s.toList == [48]) = false := by simpa using h48
        clear h48
        go_wp2
        go_ret
        exact ⟨by rw [h48']; rfl, (Below.refl _ w).alloc (Nat.le_refl _) _⟩

/-- The sign at the front of a text. -/
def signB (l : List UInt8) : Option (List UInt8) :=
  if Lib.hasPrefix l [60, 61] then some [60, 61] else if Lib.hasPrefix l [62, 61] then some [62, 61] else if Lib.hasPrefix l [60, 62] then some [60, 62]
  else match l with
  | [] => none
  | c :: _ => if Lib.indexByte [40, 41, 44, 46, 42, 43, 45, 61, 60, 62] c < 0 then none else some [c]

/-- What the Go function sign hands back. -/
def signV : Option (List UInt8) → Value
  | some x => .tuple #[.string ⟨x.toArray⟩, .bool true]
  | none => .tuple #[.string ⟨#[]⟩, .bool false]

set_option maxHeartbeats 4000000 in
set_option maxRecDepth 100000 in
theorem sign_calls (s : ByteArray) (h0 : 0 < s.size) (hsz : s.size ≤ 9223372036854775807) (w : World) :
    Calls Tryd.prog 30 #[.string s] w fun e w' => e = .returned (signV (signB s.data.toList)) ∧ w' = w := by
  have i0 : ∀ W, (Instr.index 81 (.agg #[.string ⟨#[60, 61]⟩, .string ⟨#[62, 61]⟩, .string ⟨#[60, 62]⟩]) (.int .i64 0)).run Tryd.prog W = .ok (.string ⟨#[60, 61]⟩) W := fun _ => by kernel_rfl
  have i1 : ∀ W, (Instr.index 81 (.agg #[.string ⟨#[60, 61]⟩, .string ⟨#[62, 61]⟩, .string ⟨#[60, 62]⟩]) (.int .i64 1)).run Tryd.prog W = .ok (.string ⟨#[62, 61]⟩) W := fun _ => by kernel_rfl
  have i2 : ∀ W, (Instr.index 81 (.agg #[.string ⟨#[60, 61]⟩, .string ⟨#[62, 61]⟩, .string ⟨#[60, 62]⟩]) (.int .i64 2)).run Tryd.prog W = .ok (.string ⟨#[60, 62]⟩) W := fun _ => by kernel_rfl
  have hpf : ∀ (x : List UInt8) (b : Bool), Lib.hasPrefix s.data.toList x = b → ∀ W, Calls Tryd.prog 49 #[.string s, .string ⟨x.toArray⟩] W fun e w' => e = .returned (.bool b) ∧ w' = W := by
    intro x b hb W
    have := Tryd.strings_HasPrefix s ⟨x.toArray⟩ W
    rw [show Lib.hasPrefix s.data.toList (⟨x.toArray⟩ : ByteArray).data.toList = b from hb] at this
    exact this
  have P1 := hpf [60, 61]
  have P2 := hpf [62, 61]
  have P3 := hpf [60, 62]
  clear hpf
  obtain ⟨r, hr⟩ : ∃ r, r = signB s.data.toList := ⟨_, rfl⟩
  rw [← hr]
  unfold signB at hr
  obtain ⟨b1, hb1⟩ : ∃ b, Lib.hasPrefix s.data.toList [60, 61] = b := ⟨_, rfl⟩
  obtain ⟨b2, hb2⟩ : ∃ b, Lib.hasPrefix s.data.toList [62, 61] = b := ⟨_, rfl⟩
  obtain ⟨b3, hb3⟩ : ∃ b, Lib.hasPrefix s.data.toList [60, 62] = b := ⟨_, rfl⟩
  rw [hb1, hb2, hb3] at hr
  replace P1 := P1 _ hb1
  replace P2 := P2 _ hb2
  replace P3 := P3 _ hb3
  clear hb1 hb2 hb3
  have HP1 := Lib.hid P1
  have HP2 := Lib.hid P2
  have HP3 := Lib.hid P3
  have HR := Lib.hid hr
  clear P1 P2 P3 hr
  go_enter Tryd.func30, Tryd.ntmps30
  go_wp2
  go_loop [7] (fun i => ∃ k : Nat, k ≤ 3 ∧ i = .int .i64 k ∧ Hid (0 < k → b1 = false) ∧ Hid (1 < k → b2 = false) ∧ Hid (2 < k → b3 = false)) (fun i => 3 - (intOf i).toNat)
  case atStart => exact ⟨0, by omega, rfl, by first | trivial | exact Lib.hid (by omega), by first | trivial | exact Lib.hid (by omega), by first | trivial | exact Lib.hid (by omega)⟩
  case round =>
    obtain ⟨k, hk, rfl, h1, h2, h3⟩ := hrel
    have hk4 : k = 0 ∨ k = 1 ∨ k = 2 ∨ k = 3 := by omega
    rcases hk4 with rfl | rfl | rfl | rfl
    · cases b1 with
      | true =>
        go_wp2_with (go_at_call 49; refine (HP1.out _).mono ?_; rintro e w' ⟨rfl, rfl⟩)
        go_ret2
        exact ⟨by rw [HR.out]; rfl, rfl⟩
      | false =>
        go_wp2_with (go_at_call 49; refine (HP1.out _).mono ?_; rintro e w' ⟨rfl, rfl⟩)
        go_round
        case rel => exact ⟨1, by omega, rfl, by first | trivial | exact Lib.hid (fun _ => by first | rfl | trivial), by first | trivial | exact Lib.hid (by omega), by first | trivial | exact Lib.hid (by omega)⟩
        case measure => simp [intOf]
    · have e1 : b1 = false := h1.out (by omega)
      subst e1
      cases b2 with
      | true =>
        go_wp2_with (go_at_call 49; refine (HP2.out _).mono ?_; rintro e w' ⟨rfl, rfl⟩)
        go_ret2
        exact ⟨by rw [HR.out]; rfl, rfl⟩
      | false =>
        go_wp2_with (go_at_call 49; refine (HP2.out _).mono ?_; rintro e w' ⟨rfl, rfl⟩)
        go_round
        case rel => exact ⟨2, by omega, rfl, by first | trivial | exact Lib.hid (fun _ => by first | rfl | trivial), by first | trivial | exact Lib.hid (fun _ => by first | rfl | trivial), by first | trivial | exact Lib.hid (by omega)⟩
        case measure => simp [intOf]
    · have e1 : b1 = false := h1.out (by omega)
      have e2 : b2 = false := h2.out (by omega)
      subst e1 e2
      cases b3 with
      | true =>
        go_wp2_with (go_at_call 49; refine (HP3.out _).mono ?_; rintro e w' ⟨rfl, rfl⟩)
        go_ret2
        exact ⟨by rw [HR.out]; rfl, rfl⟩
      | false =>
        go_wp2_with (go_at_call 49; refine (HP3.out _).mono ?_; rintro e w' ⟨rfl, rfl⟩)
        go_round
        case rel => exact ⟨3, by omega, rfl, by first | trivial | exact Lib.hid (fun _ => by first | rfl | trivial), by first | trivial | exact Lib.hid (fun _ => by first | rfl | trivial), by first | trivial | exact Lib.hid (fun _ => by first | rfl | trivial)⟩
        case measure => simp [intOf]
    · have e1 : b1 = false := h1.out (by omega)
      have e2 : b2 = false := h2.out (by omega)
      have e3 : b3 = false := h3.out (by omega)
      subst e1 e2 e3
      obtain ⟨c, rest, hl⟩ : ∃ c rest, s.data.toList = c :: rest := by
        cases h : s.data.toList with
        | nil => exact absurd (show s.size = 0 by show s.data.size = 0; rw [← Array.length_toList, h]; rfl) (by omega)
        | cons c rest => exact ⟨c, rest, rfl⟩
      have hc0 : s[0]'h0 = c := by
        have : s.data.toList[0]? = some c := by rw [hl]; rfl
        have h2 : s.data.toList[0]? = some (s[0]'h0) := by
          rw [List.getElem?_eq_getElem (by rw [Array.length_toList]; exact h0)]; rfl
        rw [h2] at this
        exact Option.some.inj this
      obtain ⟨m, hm⟩ : ∃ m, Lib.indexByte [40, 41, 44, 46, 42, 43, 45, 61, 60, 62] c = m := ⟨_, rfl⟩
      have hR : r = if m < 0 then none else some [c] := by
        rw [HR.out, hl]; simp only [hm]; rfl
      clear HR
      have HRR := Lib.hid hR
      clear hR
      have HC := Lib.hid hc0
      have hIB : ∀ W, Calls Tryd.prog 50 #[.string ⟨#[40, 41, 44, 46, 42, 43, 45, 61, 60, 62]⟩, .int .u8 ((s[0]'h0).toNat : Int)] W fun e w' => e = .returned (.int .i64 m) ∧ w' = W := by
        intro W
        have := Tryd.strings_IndexByte ⟨#[40, 41, 44, 46, 42, 43, 45, 61, 60, 62]⟩ ((s[0]'h0).toNat : Int) W
        rw [show ((s[0]'h0).toNat : Int).toNat.toUInt8 = c from by rw [hc0]; simp] at this
        rw [show Lib.indexByte (⟨#[40, 41, 44, 46, 42, 43, 45, 61, 60, 62]⟩ : ByteArray).data.toList c = m from hm] at this
        exact this
      have hex : s.extract 0 1 = ⟨#[c]⟩ := by
        apply ByteArray.ext
        apply Array.toList_inj.1
        rw [Lib.extract_data, hl]
        rfl
      clear hl hm hc0
      by_cases hneg : m < 0
      · go_wp2_with (go_at_call 50; refine (hIB _).mono ?_; rintro e w' ⟨rfl, rfl⟩)
        go_ret2
        exact ⟨by rw [HRR.out, if_pos hneg]; rfl, rfl⟩
      · go_wp2_with (go_at_call 50; refine (hIB _).mono ?_; rintro e w' ⟨rfl, rfl⟩)
        go_ret2
        exact ⟨by rw [HRR.out, if_neg (by omega)]; rfl, rfl⟩
end Go.Proofs.YtpoafpncioaeeaaDoor
