/- What is handed in as data, told as the print tells it: a value's cells that can be read hold some Lean value, whose numbers, lengths and texts are within bounds. -/
import Derived.Test.YtilkoiilednekaaGreatDoorWMore
import Derived.WideLaws
import Derived.ChangeArms
import Derived.DataReads
import Derived.DataElems
import Derived.Lib.SmallJoins
set_option linter.unusedVariables false
set_option linter.unusedSimpArgs false
namespace Go.Proofs.YtilkoiilednekaaGreatDoor
namespace Open
open Go.RowKit Go.Proofs.YtilkoiilednekaaGreatDoorW.PrintWords

variable {H : Type} {enc : TypeId × Value → H} {P : Program}

/-- All that this data weighs is within the form's reach. -/
def Ok (P : Program) (t : TypeId) (d : DataW H) : Prop := ∀ n ∈ d.weights P t, n ≤ reachBytes
theorem mem_all {P : Program} {e : TypeId} {d : DataW H} {n : Nat} (hn : n ∈ d.weights P e) : ∀ ds : List (DataW H), d ∈ ds → n ∈ DataW.weightsAll P e ds
  | x :: r, h => by
    unfold DataW.weightsAll
    rcases List.mem_cons.1 h with rfl | h
    · exact List.mem_append_left _ hn
    · exact List.mem_append_right _ (mem_all hn r h)
theorem mem_each {P : Program} {t : TypeId} {d : DataW H} {n : Nat} (hn : n ∈ d.weights P t) : ∀ (ts : List TypeId) (ds : List (DataW H)) (i : Nat), ts[i]? = some t → ds[i]? = some d → n ∈ DataW.weightsEach P ts ds
  | [], _, _, h, _ => by simp at h
  | _ :: _, [], _, _, h => by simp at h
  | u :: ts, x :: ds, 0, h1, h2 => by
    simp only [List.getElem?_cons_zero, Option.some.injEq] at h1 h2
    subst h1 h2
    unfold DataW.weightsEach
    exact List.mem_append_left _ hn
  | u :: ts, x :: ds, i + 1, h1, h2 => by
    simp only [List.getElem?_cons_succ] at h1 h2
    unfold DataW.weightsEach
    exact List.mem_append_right _ (mem_each hn ts ds i h1 h2)

/-- At n steps: cells of type t that can be read are a value of the kind d, of which Q holds. -/
def At (enc : TypeId × Value → H) (P : Program) (n : Nat) {α : Type} (d : Kd α) (t : TypeId) (Q : α → Prop) : Prop :=
  ∀ (W : World) (cs : List Value) (x : DataW H × List MemPlace), DataW.trod enc P W 0 (fun _ => true) true n t cs = some x → Ok P t x.1 → ∃ a, d.K W a cs ∧ Q a

theorem At.int {k : IntKind} {t : TypeId} (ht : P.underlying t = some (.int k)) (n : Nat) : At enc P n (Kd.int k) t (fun a => (Lit.int k a).wf = true) := fun W cs x h _ => by
  obtain ⟨m, rfl, _, hw⟩ := DataW.trod_int ht h
  exact ⟨m, rfl, hw⟩
theorem At.bool {t : TypeId} (ht : P.underlying t = some .bool) (n : Nat) : At enc P n Kd.bool t (fun _ => True) := fun W cs x h _ => by
  obtain ⟨b, rfl, _⟩ := DataW.trod_bool ht h
  exact ⟨b, rfl, trivial⟩
theorem At.string {t : TypeId} (ht : P.underlying t = some .string) (n : Nat) : At enc P n Kd.string t (fun a => a.size ≤ reachBytes) := fun W cs x h hk => by
  obtain ⟨s, rfl, rfl, hs⟩ := DataW.trod_string ht h
  refine ⟨s, rfl, ?_⟩
  have := hk s.data.toList.length (by simp [DataW.weights])
  simpa using this

theorem cells_all {W : World} {a : Addr} {m : Nat} {cs : List Value} (h : W.cells? 0 a m = some cs) : cs.length = m ∧ ∀ i u, cs[i]? = some u → W.cell? (a.add i) = some u := by
  unfold World.cells? at h
  rw [if_pos (Nat.zero_le _)] at h
  refine ⟨by simpa using mapM_some_length h, fun i u hu => ?_⟩
  have hi : i < m := by
    have := mapM_some_length h
    have hl : i < cs.length := (List.getElem?_eq_some_iff.1 hu).1
    simp at this; omega
  have := mapM_some_get h i i (by simp [hi])
  rw [this]; exact hu

theorem choose_list {α : Type} {n : Nat} {R : Nat → α → Prop} (h : ∀ i, i < n → ∃ a, R i a) : ∃ l : List α, l.length = n ∧ ∀ i a, l[i]? = some a → R i a := by
  induction n with
  | zero => exact ⟨[], rfl, fun i a h => by simp at h⟩
  | succ n ih =>
    obtain ⟨l, hl, hr⟩ := ih (fun i hi => h i (by omega))
    obtain ⟨a, ha⟩ := h n (by omega)
    refine ⟨l ++ [a], by simp [hl], fun i b hb => ?_⟩
    by_cases hi : i < n
    · exact hr i b (by rwa [List.getElem?_append_left (by omega)] at hb)
    · rw [List.getElem?_append_right (by omega)] at hb
      have : i - l.length = 0 := by
        by_cases e : i - l.length = 0
        · exact e
        · rw [List.getElem?_eq_none (by simp; omega)] at hb; cases hb
      rw [this] at hb
      simp at hb
      subst hb
      obtain rfl : i = n := by omega
      exact ha

theorem At.slice {α : Type} {d : Kd α} {e t : TypeId} {Q : α → Prop} {n : Nat} (ht : P.underlying t = some (.slice e)) (hz : P.cellsOf e = d.sz) {B : Nat} (hB : P.bytesOf e = B) (h : At enc P n d e Q) :
    At enc P (n + 1) (Kd.slice e d) t (fun l => l.length * B ≤ reachBytes ∧ ∀ a ∈ l, Q a) := fun W cs x hx hk => by
  rcases DataW.trod_slice ht hx with ⟨rfl, _⟩ | ⟨a, len, cap, elems, rest, m, hm, rfl, rfl, _, hlc, hcm, hel, hall, _⟩
  · exact ⟨[], ⟨none, 0, rfl, Nat.le_refl _, ⟨rfl, by simp, fun h => absurd h (Nat.lt_irrefl 0)⟩⟩, by simp, fun a h => by cases h⟩
  · obtain rfl : n = m := by omega
    obtain ⟨l, hl, hr⟩ := choose_list (n := len) (R := fun i b => ∃ c, c.length = d.sz ∧ d.K W b c ∧ (∀ j u, c[j]? = some u → W.cell? ((a.add (i * d.sz)).add j) = some u) ∧ Q b) (fun i hi => by
      have h1 := hall i hi
      rw [List.getElem?_eq_getElem (by omega)] at h1
      obtain ⟨c, hc, ht'⟩ := Option.bind_eq_some_iff.1 h1
      obtain ⟨b, hb, hq⟩ := h W c _ ht' (fun k hk' => hk k (by
        unfold DataW.weights
        rw [ht]
        exact List.mem_cons_of_mem _ (List.mem_append_left _ (mem_all hk' _ (List.mem_map_of_mem (List.getElem_mem _))))))
      rw [hz] at hc
      obtain ⟨hcl, hcc⟩ := cells_all hc
      exact ⟨b, c, hcl, hb, hcc, hq⟩)
    refine ⟨l, ⟨some a, cap, by rw [hl], by omega, ⟨rfl, by unfold maxLen at hcm; omega, fun _ => ⟨a, rfl, fun j p hp => ?_⟩⟩⟩, ?_, fun b hb => ?_⟩
    · obtain ⟨c, h1, h2, h3, _⟩ := hr j p hp
      refine ⟨c, h1, h2, fun i u hu => ?_⟩
      rw [← h3 i u hu, Go.Addr.add_add]
    · have h9 := hk ((elems.length + rest.length) * P.bytesOf e) (by
        unfold DataW.weights
        rw [ht]
        simp)
      rw [hB] at h9
      rw [hl, ← hel]
      exact Nat.le_trans (Nat.mul_le_mul_right _ (Nat.le_add_right _ _)) h9
    · obtain ⟨i, hi, rfl⟩ := List.mem_iff_getElem.1 hb
      obtain ⟨c, _, _, _, hq⟩ := hr i _ (List.getElem?_eq_getElem hi)
      exact hq

/-- The fields from offset o on. -/
def FAt (enc : TypeId × Value → H) (P : Program) (n : Nat) {α : Type} (d : Kd α) (fs : List Field) (o : Nat) (Q : α → Prop) : Prop :=
  ∀ (W : World) (cs : List Value), cs.length = o + d.sz → (∀ f ∈ fs, ∃ y, DataW.trod enc P W 0 (fun _ => true) true n f.type ((cs.drop f.offset).take (P.cellsOf f.type)) = some y ∧ Ok P f.type y.1) → ∃ a, d.K W a (cs.drop o) ∧ Q a

theorem FAt.one {α : Type} {d : Kd α} {f : Field} {o : Nat} {Q : α → Prop} {n : Nat} (ho : f.offset = o) (hz : P.cellsOf f.type = d.sz) (h : At enc P n d f.type Q) : FAt enc P n d [f] o Q := fun W cs hl hf => by
  obtain ⟨y, hy, hk⟩ := hf f (List.mem_singleton.2 rfl)
  rw [ho, hz, List.take_of_length_le (by rw [List.length_drop]; omega)] at hy
  exact h W _ _ hy hk

theorem FAt.cons {α β : Type} {d : Kd α} {d' : Kd β} {f : Field} {fs : List Field} {o : Nat} {Q : α → Prop} {Q' : β → Prop} {n : Nat} (ho : f.offset = o) (hz : P.cellsOf f.type = d.sz) (h : At enc P n d f.type Q) (h' : FAt enc P n d' fs (o + d.sz) Q') :
    FAt enc P n (Kd.pair d d') (f :: fs) o (fun x => Q x.1 ∧ Q' x.2) := fun W cs hl hf => by
  have hl' : cs.length = o + (d.sz + d'.sz) := hl
  obtain ⟨y, hy, hk⟩ := hf f (List.mem_cons_self ..)
  rw [ho, hz] at hy
  obtain ⟨a, ha, hq⟩ := h W _ _ hy hk
  obtain ⟨b, hb, hq'⟩ := h' W cs (by omega) (fun g hg => hf g (List.mem_cons_of_mem _ hg))
  refine ⟨(a, b), ⟨(cs.drop o).take d.sz, cs.drop (o + d.sz), ?_, ha, hb⟩, hq, hq'⟩
  rw [← List.drop_drop, List.take_append_drop]

theorem At.struct {α β : Type} {d : Kd α} {t : TypeId} {fs : Array Field} {Q : α → Prop} {n : Nat} (ht : P.underlying t = some (.struct fs)) (hz : P.cellsOf t = d.sz) (h : FAt enc P n d fs.toList 0 Q) (f : β → α) (g : α → β) (hg : ∀ a, f (g a) = a) :
    At enc P (n + 1) (Kd.iso d f) t (fun b => Q (f b)) := fun W cs x hx hk => by
  obtain ⟨xs, m, hm, rfl, hl, hn, hall⟩ := DataW.trod_struct ht hx
  obtain rfl : n = m := by omega
  obtain ⟨a, ha, hq⟩ := h W cs (by omega) (fun fl hfl => by
    obtain ⟨i, hi, rfl⟩ := List.mem_iff_getElem.1 hfl
    have hi' : i < fs.size := by simpa using hi
    have := hall i fs[i] (Array.getElem?_eq_getElem hi')
    rw [List.getElem?_eq_getElem (by omega)] at this
    refine ⟨_, this, fun k hk' => hk k ?_⟩
    unfold DataW.weights
    rw [ht]
    exact mem_each hk' _ _ i (by simp only [List.getElem?_map, Option.map_eq_some_iff]; exact ⟨fs[i], by simp [hi'], by simp⟩) (by simp [show i < xs.length by omega]))
  refine ⟨g a, ?_, by show Q (f (g a)); rw [hg]; exact hq⟩
  show d.K W (f (g a)) cs
  rw [hg]; exact ha

theorem At.weak {α : Type} {d : Kd α} {t : TypeId} {Q Q' : α → Prop} {n : Nat} (h : At enc P n d t Q) (hq : ∀ a, Q a → Q' a) : At enc P n d t Q' := fun W cs x hx hk => let ⟨a, ha, hb⟩ := h W cs x hx hk; ⟨a, ha, hq a hb⟩
theorem At.zero {α : Type} (d : Kd α) (t : TypeId) (Q : α → Prop) : At enc P 0 d t Q := fun W cs x hx _ => by simp [DataW.trod] at hx

end Open
end Go.Proofs.YtilkoiilednekaaGreatDoor
