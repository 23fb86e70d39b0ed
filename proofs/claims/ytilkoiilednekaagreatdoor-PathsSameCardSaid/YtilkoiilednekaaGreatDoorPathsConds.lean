/- The plain law PathsSame: a path's conditions. -/
import Derived.Test.YtilkoiilednekaaGreatDoorPathsPure
set_option linter.unusedVariables false
set_option linter.unusedSimpArgs false
namespace Go.Proofs.YtilkoiilednekaaGreatDoor
namespace PathsPure
open Go.RowKit Go.Proofs.YtilkoiilednekaaGreatDoorW.PrintWords Go.Proofs.YtilkoiilednekaaGreatDoor.PHPath

/-- c in its place, if it is not there. -/
def insS (c : Int) : List Int → List Int
  | [] => [c]
  | x :: r => if x ≤ c then (if x = c then x :: r else x :: insS c r) else c :: x :: r
theorem insS_len (c : Int) : ∀ l, (insS c l).length ≤ l.length + 1
  | [] => by simp [insS]
  | x :: r => by
    have := insS_len c r
    unfold insS
    split
    · split
      · simp
      · simp only [List.length_cons]; omega
    · simp
theorem insS_mem (c : Int) (y : Int) : ∀ l, y ∈ insS c l ↔ y = c ∨ y ∈ l
  | [] => by simp [insS]
  | x :: r => by
    have ih := insS_mem c y r
    unfold insS
    split
    · split
      · rename_i h; subst h; simp only [List.mem_cons]
        constructor
        · intro h; exact Or.inr h
        · rintro (h | h)
          · exact Or.inl h
          · exact h
      · simp only [List.mem_cons, ih]
        constructor
        · rintro (h | h | h)
          · exact Or.inr (Or.inl h)
          · exact Or.inl h
          · exact Or.inr (Or.inr h)
        · rintro (h | h | h)
          · exact Or.inr (Or.inl h)
          · exact Or.inl h
          · exact Or.inr (Or.inr h)
    · simp only [List.mem_cons]
theorem insS_sorted (c : Int) : ∀ l : List Int, l.Pairwise (· < ·) → (insS c l).Pairwise (· < ·)
  | [], _ => by simp [insS]
  | x :: r, h => by
    obtain ⟨hx, hr⟩ := List.pairwise_cons.1 h
    unfold insS
    split
    · split
      · exact h
      · rename_i h1 h2
        refine List.pairwise_cons.2 ⟨fun y hy => ?_, insS_sorted c r hr⟩
        rcases (insS_mem c y r).1 hy with e | e
        · omega
        · exact hx y e
    · rename_i h1
      refine List.pairwise_cons.2 ⟨fun y hy => ?_, h⟩
      rcases List.mem_cons.1 hy with e | e
      · omega
      · have := hx y e; omega
theorem fold_mem (y : Int) : ∀ (all out : List Int), y ∈ all.foldl (fun o c => insS c o) out ↔ y ∈ out ∨ y ∈ all
  | [], out => by simp
  | c :: r, out => by
    rw [List.foldl_cons, fold_mem y r, insS_mem]
    simp only [List.mem_cons]
    constructor
    · rintro ((h | h) | h)
      · exact Or.inr (Or.inl h)
      · exact Or.inl h
      · exact Or.inr (Or.inr h)
    · rintro (h | h | h)
      · exact Or.inl (Or.inr h)
      · exact Or.inl (Or.inl h)
      · exact Or.inr h
theorem fold_sorted : ∀ (all out : List Int), out.Pairwise (· < ·) → (all.foldl (fun o c => insS c o) out).Pairwise (· < ·)
  | [], out, h => h
  | c :: r, out, h => fold_sorted r _ (insS_sorted c out h)
/-- Two rising lists of the same elements are the same. -/
theorem rising_eq : ∀ (l m : List Int), l.Pairwise (· < ·) → m.Pairwise (· < ·) → (∀ x, x ∈ l ↔ x ∈ m) → l = m
  | [], [], _, _, _ => rfl
  | [], y :: s, _, _, h => absurd ((h y).2 List.mem_cons_self) (by simp)
  | x :: r, [], _, _, h => absurd ((h x).1 List.mem_cons_self) (by simp)
  | x :: r, y :: s, hl, hm, h => by
    obtain ⟨hx, hr⟩ := List.pairwise_cons.1 hl
    obtain ⟨hy, hs⟩ := List.pairwise_cons.1 hm
    have e : x = y := by
      rcases List.mem_cons.1 ((h x).1 List.mem_cons_self) with a | a
      · exact a
      · rcases List.mem_cons.1 ((h y).2 List.mem_cons_self) with b | b
        · exact b.symm
        · have := hy x a; have := hx y b; omega
    subst e
    rw [rising_eq r s hr hs fun z => ?_]
    constructor
    · intro hz
      rcases List.mem_cons.1 ((h z).1 (List.mem_cons_of_mem _ hz)) with a | a
      · subst a; have := hx z hz; omega
      · exact a
    · intro hz
      rcases List.mem_cons.1 ((h z).2 (List.mem_cons_of_mem _ hz)) with a | a
      · subst a; have := hy z hz; omega
      · exact a
/-- Of a row that does not fall, each once: rising, and with the same elements. -/
theorem upTo_rising (d : Array Int) (hd : ∀ i j, i ≤ j → j < d.size → d[i]! ≤ d[j]!) : ∀ m, m ≤ d.size → (Lib.compactUpTo d m).Pairwise (· < ·) ∧ (∀ x ∈ Lib.compactUpTo d m, 0 < m ∧ x ≤ d[m - 1]!) ∧ (∀ j, j < m → d[j]! ∈ Lib.compactUpTo d m) ∧ (∀ x ∈ Lib.compactUpTo d m, ∃ j, j < m ∧ x = d[j]!) := by
  intro m
  induction m with
  | zero => intro _; simp [Lib.compactUpTo]
  | succ m ih =>
    intro hm
    obtain ⟨h1, h2, h3, h4⟩ := ih (by omega)
    rw [Lib.compactUpTo_succ]
    have hle : 0 < m → d[m - 1]! ≤ d[m]! := fun h => hd _ _ (by omega) (by omega)
    by_cases hk : Lib.keeps d m = true
    · rw [if_pos hk]
      have hlt : 0 < m → d[m - 1]! < d[m]! := fun h => by
        have := hle h
        simp only [Lib.keeps, decide_eq_true_eq] at hk
        rcases hk with a | a
        · omega
        · omega
      refine ⟨?_, ?_, ?_, ?_⟩
      · rw [List.pairwise_append]
        refine ⟨h1, by simp, fun a ha b hb => ?_⟩
        rw [List.mem_singleton] at hb
        subst hb
        obtain ⟨p, q⟩ := h2 a ha
        have := hlt p
        omega
      · intro x hx
        refine ⟨by omega, ?_⟩
        rw [Nat.add_sub_cancel]
        rcases List.mem_append.1 hx with a | a
        · obtain ⟨p, q⟩ := h2 x a
          have := hlt p
          omega
        · rw [List.mem_singleton] at a; subst a; exact Int.le_refl _
      · intro j hj
        by_cases e : j = m
        · subst e; exact List.mem_append_right _ (by simp)
        · exact List.mem_append_left _ (h3 j (by omega))
      · intro x hx
        rcases List.mem_append.1 hx with a | a
        · obtain ⟨j, p, q⟩ := h4 x a
          exact ⟨j, by omega, q⟩
        · rw [List.mem_singleton] at a; exact ⟨m, by omega, a⟩
    · rw [if_neg hk, List.append_nil]
      simp only [Lib.keeps, decide_eq_true_eq, not_or, Decidable.not_not] at hk
      obtain ⟨p, q⟩ := hk
      have hne : d[m - 1]! ≠ d[m]! → False := fun h => h (by
        by_cases e : d[m]! = d[m - 1]!
        · exact e.symm
        · exact absurd q (by simpa using e))
      refine ⟨h1, ?_, ?_, ?_⟩
      · intro x hx
        obtain ⟨a, b⟩ := h2 x hx
        refine ⟨by omega, ?_⟩
        rw [Nat.add_sub_cancel]
        have := hle a
        omega
      · intro j hj
        by_cases e : j = m
        · subst e
          have h9 := h3 (j - 1) (by omega)
          by_cases e : d[j - 1]! = d[j]!
          · rw [e] at h9; exact h9
          · exact (hne e).elim
        · exact h3 j (by omega)
      · intro x hx
        obtain ⟨j, p, q⟩ := h4 x hx
        exact ⟨j, by omega, q⟩
theorem compact_sorted (l : List Int) (h : l.Pairwise (· ≤ ·)) : (Lib.compact l).Pairwise (· < ·) ∧ ∀ x, x ∈ Lib.compact l ↔ x ∈ l := by
  have hg : ∀ i, i < l.length → l.toArray[i]! = l.getD i 0 := fun i hi => by simp [hi]
  have hd : ∀ i j, i ≤ j → j < l.toArray.size → l.toArray[i]! ≤ l.toArray[j]! := by
    intro i j hij hj
    have hj' : j < l.length := by simpa using hj
    by_cases e : i = j
    · subst e; exact Int.le_refl _
    · have := List.pairwise_iff_getElem.1 h i j (by omega) hj' (by omega)
      simpa [show i < l.length by omega, hj'] using this
  obtain ⟨h1, h2, h3, h4⟩ := upTo_rising l.toArray hd l.length (by simp)
  refine ⟨h1, fun x => ⟨fun hx => ?_, fun hx => ?_⟩⟩
  · obtain ⟨j, p, q⟩ := h4 x hx
    rw [q]; simp [p]
  · obtain ⟨j, p, q⟩ := List.getElem_of_mem hx
    have := h3 j p
    unfold Lib.compact
    rw [← q]; simpa [p] using this
theorem compact_fold (l : List Int) : Lib.compact (l.mergeSort fun x y => decide (x ≤ y)) = l.foldl (fun o c => insS c o) [] := by
  have hs : (l.mergeSort fun x y => decide (x ≤ y)).Pairwise (· ≤ ·) := by
    have := List.pairwise_mergeSort (le := fun x y : Int => decide (x ≤ y)) (by intro a b c h1 h2; simp only [decide_eq_true_eq] at *; omega) (by intro a b; simp only [Bool.or_eq_true, decide_eq_true_eq]; omega) l
    exact this.imp (by intro a b h; simpa using h)
  obtain ⟨h1, h2⟩ := compact_sorted _ hs
  refine rising_eq _ _ h1 (fold_sorted l [] List.Pairwise.nil) fun x => ?_
  rw [h2, fold_mem, List.mem_mergeSort]
  simp

/-! ### the reference's loops -/
theorem conds_l1 (all out : List Int) (i : Nat) (hi : i < all.length) (hlen : out.length < 100000) (G : List Int → List Int)
    (H : ∀ o : List Int, o.length ≤ out.length + 1 → ∃ k, rowlockref22_Conds.l0 k o all (all.length : Int) (wrap64 ((i : Int) + 1)) = some (G o)) :
    ∀ (q pre : List Int) (f : Bool), pre ++ q = out → ∃ k, rowlockref22_Conds.l1 k out all (i : Int) (pre.length : Int) f (all.length : Int) (i : Int) = some (G (if f = true then out else pre ++ insS all[i] q)) := by
  have hrd : rd all (i : Int) = all[i] := by unfold rd; exact getD_at all i 0 hi
  intro q
  induction q with
  | nil =>
    intro pre f e
    rw [List.append_nil] at e
    subst e
    cases f with
    | true =>
      obtain ⟨k, h⟩ := H pre (by omega)
      refine ⟨k + 1, ?_⟩
      unfold rowlockref22_Conds.l1
      rw [if_neg (by omega), if_pos rfl, h]; rfl
    | false =>
      obtain ⟨k, h⟩ := H (pre ++ [all[i]]) (by simp)
      refine ⟨k + 1, ?_⟩
      unfold rowlockref22_Conds.l1
      rw [if_neg (by omega), if_neg (by decide)]
      simp only [Option.bind_some, List.nil_append, Int.toNat_natCast, List.take_length, List.drop_length, List.append_nil, List.length_nil, List.length_append, List.length_cons]
      rw [if_pos (by omega), if_pos (by omega), if_pos (by omega), if_pos (by omega), if_pos (by omega), if_pos (by omega), if_pos (by omega), hrd, h]
      rfl
  | cons x r ih =>
    intro pre f e
    have hl : out.length = pre.length + r.length + 1 := by rw [← e]; simp; omega
    have hx : rd out (pre.length : Int) = x := by
      unfold rd
      rw [getD_at out pre.length 0 (by omega)]
      subst e; simp
    have hw : wrap64 ((pre.length : Int) + 1) = (((pre ++ [x]).length : Nat) : Int) := by
      rw [wrapS (n := out.length) (by omega) (by omega)]; simp
    by_cases c : x ≤ all[i]
    · have e' : (pre ++ [x]) ++ r = out := by rw [← e]; simp
      cases f with
      | true =>
        obtain ⟨k, h⟩ := ih (pre ++ [x]) true e'
        refine ⟨k + 1, ?_⟩
        unfold rowlockref22_Conds.l1
        rw [if_pos (by omega), if_pos (by omega), if_pos (by omega), if_pos (by omega), hx, hrd, if_pos c, if_pos rfl, hw, h]; rfl
      | false =>
        obtain ⟨k, h⟩ := ih (pre ++ [x]) (x == all[i]) e'
        refine ⟨k + 1, ?_⟩
        unfold rowlockref22_Conds.l1
        rw [if_pos (by omega), if_pos (by omega), if_pos (by omega), if_pos (by omega), hx, hrd, if_pos c, if_neg (by decide), hw, h]
        congr 2
        by_cases c2 : x = all[i]
        · rw [if_pos (by simpa using c2), if_neg (by decide)]
          unfold insS
          rw [if_pos c, if_pos c2, e]
        · rw [if_neg (by simpa using c2), if_neg (by decide)]
          conv => rhs; unfold insS
          rw [if_pos c, if_neg c2]; simp
    · cases f with
      | true =>
        obtain ⟨k, h⟩ := H out (by omega)
        refine ⟨k + 1, ?_⟩
        unfold rowlockref22_Conds.l1
        rw [if_pos (by omega), if_pos (by omega), if_pos (by omega), if_pos (by omega), hx, hrd, if_neg c, if_pos rfl, h]; rfl
      | false =>
        obtain ⟨k, h⟩ := H (pre ++ [all[i]] ++ (x :: r)) (by simp; omega)
        refine ⟨k + 1, ?_⟩
        have ht : out.take pre.length = pre := by subst e; simp
        have hdr : out.drop pre.length = x :: r := by subst e; simp
        unfold rowlockref22_Conds.l1
        rw [if_pos (by omega), if_pos (by omega), if_pos (by omega), if_pos (by omega), hx, hrd, if_neg c, if_neg (by decide)]
        simp only [Option.bind_some, List.nil_append, Int.toNat_natCast, ht, hdr, List.length_nil, List.length_append, List.length_cons]
        rw [if_pos (by omega), if_pos (by omega), if_pos (by omega), if_pos (by omega), h]
        unfold insS
        rw [if_neg c, if_neg (by decide)]; simp
theorem conds_l0 (all : List Int) (hn : all.length ≤ 1000) : ∀ (d i : Nat) (out : List Int), all.length - i = d → i ≤ all.length → out.length + d ≤ 1000 → ∃ k, rowlockref22_Conds.l0 k out all (all.length : Int) (i : Int) = some ((all.drop i).foldl (fun o c => insS c o) out) := by
  intro d
  induction d with
  | zero =>
    intro i out hd hi ho
    refine ⟨1, ?_⟩
    unfold rowlockref22_Conds.l0
    rw [if_neg (by omega), show i = all.length by omega, List.drop_length]; rfl
  | succ d ih =>
    intro i out hd hi ho
    obtain ⟨k, h⟩ := conds_l1 all out i (by omega) (by omega) (fun o => (all.drop (i + 1)).foldl (fun o c => insS c o) o) (fun o hol => by
      rw [wrapS (n := all.length) (by omega) (by omega)]
      exact ih (i + 1) o (by omega) (by omega) (by omega)) out [] false rfl
    refine ⟨k + 1, ?_⟩
    unfold rowlockref22_Conds.l0
    rw [if_pos (by omega)]
    simp only [List.length_nil] at h
    rw [show (0 : Int) = ((0 : Nat) : Int) from rfl, h, if_neg (by decide), List.nil_append, List.drop_eq_getElem_cons (show i < all.length by omega), List.foldl_cons]
theorem conds_ref (a0 a1 : Int) (l2 : List (S59)) (l3 : List Int) (a4 : Int) (l5 : List (S59)) (l6 : List Int) (h3 : l3.length ≤ 300) (h6 : l6.length ≤ 300) :
    ∃ k, rowlockref22_Conds.f k a0 a1 l2 l3 a4 l5 l6 = some ((l3 ++ l6).foldl (fun o c => insS c o) []) := by
  obtain ⟨k, h⟩ := conds_l0 (l3 ++ l6) (by simp; omega) (l3 ++ l6).length 0 [] (by omega) (by omega) (by simp; omega)
  refine ⟨k, ?_⟩
  unfold rowlockref22_Conds.f
  simp only [Option.bind_some, List.nil_append, List.length_nil]
  rw [if_pos (by omega), if_pos (by omega)]
  simpa using h
theorem conds_f (a0 a1 : Int) (l2 : List (S59)) (l3 : List Int) (a4 : Int) (l5 : List (S59)) (l6 : List Int) (h3 : l3.length ≤ 300) (h6 : l6.length ≤ 300) :
    paths_Conds.f a0 a1 l2 l3 a4 l5 l6 = some ((l3 ++ l6).foldl (fun o c => insS c o) []) := by
  unfold paths_Conds.f slices_Clone_int_int.f
  rw [if_pos (by omega)]
  simp only [Option.bind_some]
  rw [if_pos (by omega)]
  unfold slices_Sort_int_int.f
  rw [if_pos (by simp; omega)]
  simp only [Option.bind_some]
  unfold slices_Compact_int_int.f
  simp only [Option.bind_some]
  rw [compact_fold]
end PathsPure
end Go.Proofs.YtilkoiilednekaaGreatDoor
