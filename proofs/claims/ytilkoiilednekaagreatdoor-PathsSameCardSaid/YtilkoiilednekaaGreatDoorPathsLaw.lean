/- The law PathsSame answers true: the walk and the plain law joined. -/
import Derived.Test.YtilkoiilednekaaGreatDoorPathsConds
import Derived.Test.YtilkoiilednekaaGreatDoorPathsRest1
import Derived.Test.YtilkoiilednekaaGreatDoorPathsRest2
import Derived.Test.YtilkoiilednekaaGreatDoorPathsRest3
import Derived.Test.YtilkoiilednekaaGreatDoorPathsRest4
set_option linter.unusedVariables false
set_option linter.unusedSimpArgs false
namespace Go.Proofs.YtilkoiilednekaaGreatDoor
namespace PathsWalk
open Go.RowKit Go.Proofs.YtilkoiilednekaaGreatDoorW.PrintWords Go.Proofs.YtilkoiilednekaaGreatDoor.PHPath Go.Proofs.YtilkoiilednekaaGreatDoor.PathsPure

theorem C_nil {α : Type} (d : Kd α) (W : World) : Kd.C d W none 0 ([] : List α) := ⟨rfl, by simp, fun h => absurd h (Nat.lt_irrefl 0)⟩

theorem path_K (W : World) (p : S40) (A2 : Option Addr) (c2 : Nat) (A3 : Option Addr) (c3 : Nat) (A5 : Option Addr) (c5 : Nat) (A6 : Option Addr) (c6 : Nat)
    (h2 : Kd.C k59 W A2 p.f2.length p.f2) (g2 : p.f2.length ≤ c2) (h3 : Kd.C (Kd.int .i64) W A3 p.f3.length p.f3) (g3 : p.f3.length ≤ c3) (h5 : Kd.C k59 W A5 p.f5.length p.f5) (g5 : p.f5.length ≤ c5) (h6 : Kd.C (Kd.int .i64) W A6 p.f6.length p.f6) (g6 : p.f6.length ≤ c6) :
    k40.K W p [.int .u8 p.f0, .int .i64 p.f1, .slice A2 p.f2.length c2, .slice A3 p.f3.length c3, .int .i64 p.f4, .slice A5 p.f5.length c5, .slice A6 p.f6.length c6] :=
  ⟨[_], _, rfl, rfl, [_], _, rfl, rfl, [_], _, rfl, ⟨A2, c2, rfl, g2, h2⟩, [_], _, rfl, ⟨A3, c3, rfl, g3, h3⟩, [_], _, rfl, rfl, [_], _, rfl, ⟨A5, c5, rfl, g5, h5⟩, ⟨A6, c6, rfl, g6, h6⟩⟩

theorem path_two (W : World) (h : Nat) (q p : S40) (cq cp : List Value) (hq : k40.K W q cq) (hp : k40.K W p cp) (hh : W.heap[h]? = some (.cells (cq ++ cp).toArray 40 (0, 0))) : Kd.C k40 W (some ⟨h, 0, none⟩) 2 [q, p] := by
  have lq : cq.length = 7 := k40.K_len hq
  have lp : cp.length = 7 := k40.K_len hp
  have hc : ∀ i u, (cq ++ cp)[i]? = some u → W.cell? ⟨h, i, none⟩ = some u := fun i u hi => by
    unfold World.cell?
    rw [show (⟨h, i, none⟩ : Addr).block = h from rfl, hh]
    simpa using hi
  refine ⟨rfl, by decide, fun _ => ⟨_, rfl, fun j x hx => ?_⟩⟩
  match j, hx with
  | 0, hx =>
    obtain rfl : q = x := Option.some.inj hx
    refine ⟨cq, lq, hq, fun i u hu => ?_⟩
    have hi : i < cq.length := (List.getElem?_eq_some_iff.1 hu).1
    have e : ((⟨h, 0, none⟩ : Addr).add (0 * k40.sz + i)) = ⟨h, i, none⟩ := by simp [Addr.add]; try omega
    rw [e]
    exact hc i u (by rw [List.getElem?_append_left hi]; exact hu)
  | 1, hx =>
    obtain rfl : p = x := Option.some.inj hx
    refine ⟨cp, lp, hp, fun i u hu => ?_⟩
    have e : ((⟨h, 0, none⟩ : Addr).add (1 * k40.sz + i)) = ⟨h, 7 + i, none⟩ := by
      have hs : k40.sz = 7 := rfl
      rw [hs]; simp [Addr.add]
    rw [e]
    exact hc (7 + i) u (by rw [List.getElem?_append_right (by omega), lq, show 7 + i - 7 = i by omega]; exact hu)
  | j + 2, hx => simp at hx

set_option maxHeartbeats 4000000 in
set_option maxRecDepth 100000 in
theorem Law_calls (w : World) (B0 : Option Addr) (cB0 : Nat) (b0 : List (S91)) (B1 : Option Addr) (cB1 : Nat) (b1 : List (S71))
    (p q : S40) (A2 : Option Addr) (c2 : Nat) (A3 : Option Addr) (c3 : Nat) (A5 : Option Addr) (c5 : Nat) (A6 : Option Addr) (c6 : Nat)
    (D2 : Option Addr) (d2 : Nat) (D3 : Option Addr) (d3 : Nat) (D5 : Option Addr) (d5 : Nat) (D6 : Option Addr) (d6 : Nat)
    (hb0 : Kd.C k91 w B0 b0.length b0) (gb0 : b0.length ≤ cB0) (hb1 : Kd.C k71 w B1 b1.length b1) (gb1 : b1.length ≤ cB1)
    (h2 : Kd.C k59 w A2 p.f2.length p.f2) (g2 : p.f2.length ≤ c2) (h3 : Kd.C (Kd.int .i64) w A3 p.f3.length p.f3) (g3 : p.f3.length ≤ c3) (h5 : Kd.C k59 w A5 p.f5.length p.f5) (g5 : p.f5.length ≤ c5) (h6 : Kd.C (Kd.int .i64) w A6 p.f6.length p.f6) (g6 : p.f6.length ≤ c6)
    (i2 : Kd.C k59 w D2 q.f2.length q.f2) (j2 : q.f2.length ≤ d2) (i3 : Kd.C (Kd.int .i64) w D3 q.f3.length q.f3) (j3 : q.f3.length ≤ d3) (i5 : Kd.C k59 w D5 q.f5.length q.f5) (j5 : q.f5.length ≤ d5) (i6 : Kd.C (Kd.int .i64) w D6 q.f6.length q.f6) (j6 : q.f6.length ≤ d6)
    (nb0 : b0.length ≤ 140737488351232) (nb1 : b1.length ≤ 140737488351232) (nt : ∀ t ∈ b0, t.f1.length ≤ 140737488351232)
    (hN : p.f3.length ≤ 140737488351232 ∧ p.f6.length ≤ 140737488351232 ∧ p.f2.length ≤ 140737488351232 ∧ p.f5.length ≤ 140737488351232 ∧ q.f3.length ≤ 140737488351232 ∧ q.f6.length ≤ 140737488351232 ∧ q.f2.length ≤ 140737488351232 ∧ q.f5.length ≤ 140737488351232) :
    Calls Tryz.prog 6 #[.agg #[.slice B0 b0.length cB0, .slice B1 b1.length cB1], pv p.f0 p.f1 A2 p.f2.length c2 A3 p.f3.length c3 p.f4 A5 p.f5.length c5 A6 p.f6.length c6, pv q.f0 q.f1 D2 q.f2.length d2 D3 q.f3.length d3 q.f4 D5 q.f5.length d5 D6 q.f6.length d6] w fun e w' => e = .returned (.bool true) ∧ Below w.heap.size w w' := by
  obtain ⟨kG, g, hg⟩ := great_f b0 b1 nb0 nb1 (fun i hi => by
    have e : rd_T91 b0 (i : Int) = b0[i] := by unfold rd_T91; exact getD_at b0 i _ hi
    rw [e]; exact nt _ (List.getElem_mem hi))
  have C25 : ∀ W, Gives 25 #[.agg #[.slice B0 b0.length cB0, .slice B1 b1.length cB1]] w W (.bool g) := fun W hB =>
    rowlockref12_Great.calls kG B0 cB0 b0 B1 cB1 b1 g W (Kd.C_below hb0 hB) gb0 (Kd.C_below hb1 hB) gb1 hg
  have C26 : ∀ W, Gives 26 #[] w W (.bool true) := fun W hB => PathsFix.fixed_calls W
  by_cases hG : g = true ∨ 300 < p.f3.length + p.f6.length + p.f2.length + p.f5.length ∨ 300 < q.f3.length + q.f6.length + q.f2.length + q.f5.length
  · exact Law_guard w _ _ _ _ _ _ _ _ _ _ _ _ _ _ _ _ _ _ _ _ _ _ _ _ _ _ _ _ _ _ _ _ _ _ _ _ g hG hN C25 C26
  have hg0 : g = false := by
    cases g
    · rfl
    · exact absurd (Or.inl rfl) hG
  subst hg0
  have hp : p.f3.length + p.f6.length + p.f2.length + p.f5.length ≤ 300 := Nat.le_of_not_lt fun h => hG (Or.inr (Or.inl h))
  have hq : q.f3.length + q.f6.length + q.f2.length + q.f5.length ≤ 300 := Nat.le_of_not_lt fun h => hG (Or.inr (Or.inr h))
  clear hG
  have hn : p.f2.length ≤ 300 ∧ p.f3.length ≤ 300 ∧ p.f5.length ≤ 300 ∧ p.f6.length ≤ 300 := by omega
  obtain ⟨b, hb⟩ : ∃ b, b = sameB p.f0 p.f1 p.f2 p.f3 p.f4 p.f5 p.f6 q.f0 q.f1 q.f2 q.f3 q.f4 q.f5 q.f6 := ⟨_, rfl⟩
  have C28 : ∀ W v r, IsSame (pv p.f0 p.f1 A2 p.f2.length c2 A3 p.f3.length c3 p.f4 A5 p.f5.length c5 A6 p.f6.length c6) (pv q.f0 q.f1 D2 q.f2.length d2 D3 q.f3.length d3 q.f4 D5 q.f5.length d5 D6 q.f6.length d6) b v r → Gives 28 #[pv p.f0 p.f1 A2 p.f2.length c2 A3 p.f3.length c3 p.f4 A5 p.f5.length c5 A6 p.f6.length c6, v] w W (.bool r) := fun W v r h hB => by
    cases h with
    | pq => exact paths_Same.calls 400 p.f0 p.f1 A2 c2 p.f2 A3 c3 p.f3 p.f4 A5 c5 p.f5 A6 c6 p.f6 q.f0 q.f1 D2 d2 q.f2 D3 d3 q.f3 q.f4 D5 d5 q.f5 D6 d6 q.f6 b W (Kd.C_below h2 hB) g2 (Kd.C_below h3 hB) g3 (Kd.C_below h5 hB) g5 (Kd.C_below h6 hB) g6 (Kd.C_below i2 hB) j2 (Kd.C_below i3 hB) j3 (Kd.C_below i5 hB) j5 (Kd.C_below i6 hB) j6 (by rw [hb]; exact same_f _ _ _ _ _ _ _ _ _ _ _ _ _ _ hn)
    | pp => exact paths_Same.calls 400 p.f0 p.f1 A2 c2 p.f2 A3 c3 p.f3 p.f4 A5 c5 p.f5 A6 c6 p.f6 p.f0 p.f1 A2 c2 p.f2 A3 c3 p.f3 p.f4 A5 c5 p.f5 A6 c6 p.f6 true W (Kd.C_below h2 hB) g2 (Kd.C_below h3 hB) g3 (Kd.C_below h5 hB) g5 (Kd.C_below h6 hB) g6 (Kd.C_below h2 hB) g2 (Kd.C_below h3 hB) g3 (Kd.C_below h5 hB) g5 (Kd.C_below h6 hB) g6 (by rw [same_f _ _ _ _ _ _ _ _ _ _ _ _ _ _ hn, same_self])
  have C29 : ∀ W, Gives 29 #[pv p.f0 p.f1 A2 p.f2.length c2 A3 p.f3.length c3 p.f4 A5 p.f5.length c5 A6 p.f6.length c6, pv q.f0 q.f1 D2 q.f2.length d2 D3 q.f3.length d3 q.f4 D5 q.f5.length d5 D6 q.f6.length d6] w W (.bool b) := fun W hB =>
    rowlockref22_Same.calls 1000 p.f0 p.f1 A2 c2 p.f2 A3 c3 p.f3 p.f4 A5 c5 p.f5 A6 c6 p.f6 q.f0 q.f1 D2 d2 q.f2 D3 d3 q.f3 q.f4 D5 d5 q.f5 D6 d6 q.f6 b W (Kd.C_below h2 hB) g2 (Kd.C_below h3 hB) g3 (Kd.C_below h5 hB) g5 (Kd.C_below h6 hB) g6 (Kd.C_below i2 hB) j2 (Kd.C_below i3 hB) j3 (Kd.C_below i5 hB) j5 (Kd.C_below i6 hB) j6 (by rw [hb]; exact refSame_f _ _ _ _ _ _ _ _ _ _ _ _ _ _ hn)
  have C30 : ∀ W v r, IsHas #[.int .u8 q.f0, .int .i64 q.f1, .slice D2 q.f2.length d2, .slice D3 q.f3.length d3, .int .i64 q.f4, .slice D5 q.f5.length d5, .slice D6 q.f6.length d6, .int .u8 p.f0, .int .i64 p.f1, .slice A2 p.f2.length c2, .slice A3 p.f3.length c3, .int .i64 p.f4, .slice A5 p.f5.length c5, .slice A6 p.f6.length c6] v r W → Gives 30 #[v, pv p.f0 p.f1 A2 p.f2.length c2 A3 p.f3.length c3 p.f4 A5 p.f5.length c5 A6 p.f6.length c6] w W (.bool r) := fun W v r h hB => by
    cases h with
    | none => exact paths_Has.calls 0 none 0 [] p.f0 p.f1 A2 c2 p.f2 A3 c3 p.f3 p.f4 A5 c5 p.f5 A6 c6 p.f6 false W (C_nil _ _) (Nat.le_refl _) (Kd.C_below h2 hB) g2 (Kd.C_below h3 hB) g3 (Kd.C_below h5 hB) g5 (Kd.C_below h6 hB) g6 (has_nil _ _ _ _ _ _ _ _)
    | @two _ h hh =>
      have hK := path_two W h q p _ _ (path_K W q D2 d2 D3 d3 D5 d5 D6 d6 (Kd.C_below i2 hB) j2 (Kd.C_below i3 hB) j3 (Kd.C_below i5 hB) j5 (Kd.C_below i6 hB) j6) (path_K W p A2 c2 A3 c3 A5 c5 A6 c6 (Kd.C_below h2 hB) g2 (Kd.C_below h3 hB) g3 (Kd.C_below h5 hB) g5 (Kd.C_below h6 hB) g6) hh
      exact paths_Has.calls 400 (some ⟨h, 0, none⟩) 2 [q, p] p.f0 p.f1 A2 c2 p.f2 A3 c3 p.f3 p.f4 A5 c5 p.f5 A6 c6 p.f6 true W hK (Nat.le_refl _) (Kd.C_below h2 hB) g2 (Kd.C_below h3 hB) g3 (Kd.C_below h5 hB) g5 (Kd.C_below h6 hB) g6 (has_two q p hn)
  obtain ⟨cs, hcs⟩ : ∃ cs, cs = (p.f3 ++ p.f6).foldl (fun o c => insS c o) [] := ⟨_, rfl⟩
  have hcl : cs.length ≤ 140737488351232 := by
    have h1 : ∀ (all out : List Int), (all.foldl (fun o c => insS c o) out).length ≤ out.length + all.length := by
      intro all
      induction all with
      | nil => intro out; exact Nat.le_refl _
      | cons c r ih => intro out; have := ih (insS c out); have := insS_len c out; simp only [List.foldl_cons, List.length_cons]; omega
    have := h1 (p.f3 ++ p.f6) []
    rw [hcs]; simp at this ⊢; omega
  obtain ⟨kC, hkC⟩ := conds_ref p.f0 p.f1 p.f2 p.f3 p.f4 p.f5 p.f6 (by omega) (by omega)
  have hfC := conds_f p.f0 p.f1 p.f2 p.f3 p.f4 p.f5 p.f6 (by omega) (by omega)
  rw [← hcs] at hkC hfC
  let V : Value → World → Prop := fun v W => ∃ A c, v = .slice A cs.length c ∧ cs.length ≤ c ∧ Kd.C (Kd.int .i64) W A cs.length cs
  have hV : ∀ v W W', V v W → Below W.heap.size W W' → V v W' := fun v W W' ⟨A, c, e, hl, hc⟩ hB => ⟨A, c, e, hl, Kd.C_below hc hB⟩
  have C32 : ∀ W, Below w.heap.size w W → Calls Tryz.prog 32 #[pv p.f0 p.f1 A2 p.f2.length c2 A3 p.f3.length c3 p.f4 A5 p.f5.length c5 A6 p.f6.length c6] W fun e w' => ∃ v, e = .returned v ∧ V v w' ∧ Below W.heap.size W w' := fun W hB =>
    (paths_Conds.calls p.f0 p.f1 A2 c2 p.f2 A3 c3 p.f3 p.f4 A5 c5 p.f5 A6 c6 p.f6 cs W (Kd.C_below h2 hB) g2 (Kd.C_below h3 hB) g3 (Kd.C_below h5 hB) g5 (Kd.C_below h6 hB) g6 hfC).mono fun e w' ⟨v, he, hr, hbl⟩ => ⟨v, he, Kd.R_reads hr, hbl⟩
  have C33 : ∀ W, Below w.heap.size w W → Calls Tryz.prog 33 #[pv p.f0 p.f1 A2 p.f2.length c2 A3 p.f3.length c3 p.f4 A5 p.f5.length c5 A6 p.f6.length c6] W fun e w' => ∃ v, e = .returned v ∧ V v w' ∧ Below W.heap.size W w' := fun W hB =>
    (rowlockref22_Conds.calls kC p.f0 p.f1 A2 c2 p.f2 A3 c3 p.f3 p.f4 A5 c5 p.f5 A6 c6 p.f6 cs W (Kd.C_below h2 hB) g2 (Kd.C_below h3 hB) g3 (Kd.C_below h5 hB) g5 (Kd.C_below h6 hB) g6 hkC).mono fun e w' ⟨v, he, hr, hbl⟩ => ⟨v, he, Kd.R_reads hr, hbl⟩
  have C31 : ∀ v v' W, V v W → V v' W → Gives 31 #[v, v'] w W (.bool true) := fun v v' W ⟨A, c, e, hl, hc⟩ ⟨A', c', e', hl', hc'⟩ hB => by
    subst e e'
    exact (rowlockref19_Same.calls (cs.length + 1) A c cs A' c' cs true W hc hl hc' hl' (by rw [ref_f cs cs hcl _ (Nat.lt_succ_self _), eqI_self])).mono fun e w' ⟨he, hd⟩ => ⟨he, hd.below⟩
  have ord : ∀ o, paths_Order.f b0 b1 p.f0 p.f1 p.f2 p.f3 p.f4 p.f5 p.f6 = some o → ∀ W, Gives 27 #[.agg #[.slice B0 b0.length cB0, .slice B1 b1.length cB1], pv p.f0 p.f1 A2 p.f2.length c2 A3 p.f3.length c3 p.f4 A5 p.f5.length c5 A6 p.f6.length c6] w W (.int .i64 o) := fun o ho W hB =>
    paths_Order.calls B0 cB0 b0 B1 cB1 b1 p.f0 p.f1 A2 c2 p.f2 A3 c3 p.f3 p.f4 A5 c5 p.f5 A6 c6 p.f6 o W (Kd.C_below hb0 hB) gb0 (Kd.C_below hb1 hB) gb1 (Kd.C_below h2 hB) g2 (Kd.C_below h3 hB) g3 (Kd.C_below h5 hB) g5 (Kd.C_below h6 hB) g6 ho
  by_cases hneg : p.f1 < 0
  · have C27 := ord (-1) (by unfold paths_Order.f; simp [hneg])
    exact Law_neg w _ _ _ _ _ _ _ _ _ _ _ _ _ _ _ _ _ _ _ _ _ _ _ _ _ _ _ _ _ _ _ _ _ _ _ _ hp hq hneg (-1) rfl hN C25 C27 b C28 C29 C30 V hV C32 C33 C31 C26
  have h0 : 0 ≤ p.f1 := by omega
  by_cases hpast : (b1.length : Int) ≤ p.f1
  · have C27 := ord (-1) (by unfold paths_Order.f; simp [hneg, hpast])
    exact Law_past w _ _ _ _ _ _ _ _ _ _ _ _ _ _ _ _ _ _ _ _ _ _ _ _ _ _ _ _ _ _ _ _ _ _ _ _ hp hq h0 hpast (-1) rfl hN C25 C27 b C28 C29 C30 V hV C32 C33 C31 C26
  have h1 : p.f1 < (b1.length : Int) := by omega
  obtain ⟨ad, AC, cC, A9, c9, rfl, _, _, hcell, _, _, _, _, hlc, hcC, _, _⟩ := at_T71 hb1 p.f1 h0 h1
  by_cases hk1 : p.f0 = 1
  · have hf : paths_Order.f b0 b1 p.f0 p.f1 p.f2 p.f3 p.f4 p.f5 p.f6 = some (if 0 < ((rd_T71 b1 p.f1).f2).length then rd ((rd_T71 b1 p.f1).f2) 0 else -1) := by
      unfold paths_Order.f
      rw [hk1]
      by_cases hl : 0 < ((rd_T71 b1 p.f1).f2).length
      · rw [if_pos hl]
        have e1 : ¬ ((((rd_T71 b1 p.f1).f2).length : Int) = 0) := by omega
        have e2 : 0 < (((rd_T71 b1 p.f1).f2).length : Int) := by omega
        simp only [ge_iff_le, hneg, hpast, h0, h1, e1, e2, if_true, if_false, show ¬ (2 : Int) = 1 by decide]
      · rw [if_neg hl]
        have e1 : ((((rd_T71 b1 p.f1).f2).length : Int) = 0) := by omega
        simp only [ge_iff_le, hneg, hpast, h0, h1, e1, if_true, if_false, show ¬ (2 : Int) = 1 by decide]
    have C27 := ord _ hf
    rw [hk1] at C27 C28 C29 C30 C32 C33 ⊢
    by_cases hl : 0 < ((rd_T71 b1 p.f1).f2).length
    · obtain ⟨ac, rfl, hel⟩ := hcC.2.2 hl
      obtain ⟨c, hcl1, hcK, hcel⟩ := hel 0 _ (List.getElem?_eq_getElem hl)
      have hcK' : c = [.int .i64 ((rd_T71 b1 p.f1).f2)[0]] := hcK
      have hel' : w.cell? ac = some (.int .i64 (rd ((rd_T71 b1 p.f1).f2) 0)) := by
        have := hcel 0 (.int .i64 ((rd_T71 b1 p.f1).f2)[0]) (by rw [hcK']; rfl)
        rw [show (0 * (Kd.int .i64).sz + 0) = 0 by simp] at this
        have e0 : ac.add 0 = ac := by simp [Addr.add]
        rw [e0] at this
        rw [this]; unfold rd; simp [hl]
      rw [if_pos hl] at C27
      exact Law_first1 w _ _ _ _ _ _ _ _ _ _ _ _ _ _ _ _ _ _ _ _ _ _ _ _ _ _ _ _ _ _ _ _ _ _ _ hp hq h0 h1 ac _ cC hcell hl _ hel' hN C25 C27 b C28 C29 C30 V hV C32 C33 C31 C26
    · rw [if_neg hl] at C27
      have hz : ((rd_T71 b1 p.f1).f2).length = 0 := by omega
      rw [hz] at hcell
      exact Law_none1 w _ _ _ _ _ _ _ _ _ _ _ _ _ _ _ _ _ _ _ _ _ _ _ _ _ _ _ _ _ _ _ _ _ _ _ hp hq h0 h1 AC cC hcell _ rfl hN C25 C27 b C28 C29 C30 V hV C32 C33 C31 C26
  by_cases hk2 : p.f0 = 2
  · have hf : paths_Order.f b0 b1 p.f0 p.f1 p.f2 p.f3 p.f4 p.f5 p.f6 = some (if 0 < ((rd_T71 b1 p.f1).f2).length then rd ((rd_T71 b1 p.f1).f2) 0 else -1) := by
      unfold paths_Order.f
      rw [hk2]
      by_cases hl : 0 < ((rd_T71 b1 p.f1).f2).length
      · rw [if_pos hl]
        have e1 : ¬ ((((rd_T71 b1 p.f1).f2).length : Int) = 0) := by omega
        have e2 : 0 < (((rd_T71 b1 p.f1).f2).length : Int) := by omega
        simp only [ge_iff_le, hneg, hpast, h0, h1, e1, e2, if_true, if_false, show ¬ (2 : Int) = 1 by decide]
      · rw [if_neg hl]
        have e1 : ((((rd_T71 b1 p.f1).f2).length : Int) = 0) := by omega
        simp only [ge_iff_le, hneg, hpast, h0, h1, e1, if_true, if_false, show ¬ (2 : Int) = 1 by decide]
    have C27 := ord _ hf
    rw [hk2] at C27 C28 C29 C30 C32 C33 ⊢
    by_cases hl : 0 < ((rd_T71 b1 p.f1).f2).length
    · obtain ⟨ac, rfl, hel⟩ := hcC.2.2 hl
      obtain ⟨c, hcl1, hcK, hcel⟩ := hel 0 _ (List.getElem?_eq_getElem hl)
      have hcK' : c = [.int .i64 ((rd_T71 b1 p.f1).f2)[0]] := hcK
      have hel' : w.cell? ac = some (.int .i64 (rd ((rd_T71 b1 p.f1).f2) 0)) := by
        have := hcel 0 (.int .i64 ((rd_T71 b1 p.f1).f2)[0]) (by rw [hcK']; rfl)
        rw [show (0 * (Kd.int .i64).sz + 0) = 0 by simp] at this
        have e0 : ac.add 0 = ac := by simp [Addr.add]
        rw [e0] at this
        rw [this]; unfold rd; simp [hl]
      rw [if_pos hl] at C27
      exact Law_first2 w _ _ _ _ _ _ _ _ _ _ _ _ _ _ _ _ _ _ _ _ _ _ _ _ _ _ _ _ _ _ _ _ _ _ _ hp hq h0 h1 ac _ cC hcell hl _ hel' hN C25 C27 b C28 C29 C30 V hV C32 C33 C31 C26
    · rw [if_neg hl] at C27
      have hz : ((rd_T71 b1 p.f1).f2).length = 0 := by omega
      rw [hz] at hcell
      exact Law_none2 w _ _ _ _ _ _ _ _ _ _ _ _ _ _ _ _ _ _ _ _ _ _ _ _ _ _ _ _ _ _ _ _ _ _ _ hp hq h0 h1 AC cC hcell _ rfl hN C25 C27 b C28 C29 C30 V hV C32 C33 C31 C26
  have C27 := ord (-1) (by unfold paths_Order.f; simp [hk1, hk2])
  exact Law_kind w _ _ _ _ _ _ _ _ _ _ _ _ _ _ _ _ _ _ _ _ _ _ _ _ _ _ _ _ _ _ _ _ _ _ _ _ hp hq h0 h1 hk1 hk2 (-1) rfl hN C25 C27 b C28 C29 C30 V hV C32 C33 C31 C26
end PathsWalk
end Go.Proofs.YtilkoiilednekaaGreatDoor
