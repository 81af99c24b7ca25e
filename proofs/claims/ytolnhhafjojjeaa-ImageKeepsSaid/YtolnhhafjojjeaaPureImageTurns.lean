/- ImageTurns (chapter 3): the range that parts two lists, laid over the one, makes the other, both ways, and it is the least; lists of unlike lengths are refused. No condition. -/
import Derived.Test.YtolnhhafjojjeaaQAx13
import Derived.Test.YtolnhhafjojjeaaPlain
namespace Go.Proofs.Ytolnhhafjojjeaa.Pure
open Go.RowKit Go.Proofs.Ytolnhhafjojjeaa.QA Go.Proofs.YtolnhhafjojjeaaW.PrintWords Go.Proofs.YtolnhhafjojjeaaW.PrintLast Go.Proofs.Ytolnhhafjojjeaa.Plain
set_option linter.unusedVariables false

theorem cut_good (x : List Int) (hn : x.length ≤ 140737488351232) (f t : Nat) (h : f ≤ t) (ht : t ≤ x.length) : image_Cut.f x (f : Int) (t : Int) = some ((x.take t).drop f, 0) := by
  unfold image_Cut.f
  rw [if_neg (by omega), if_pos (by omega)]
  simp
theorem lay_good (x y : List Int) (hn : x.length ≤ 140737488351232) (f : Nat) (h : f + y.length ≤ x.length) : image_Lay.f x (f : Int) y = some (x.take f ++ y ++ x.drop (f + y.length), 0) := by
  unfold image_Lay.f
  rw [if_neg (by omega), if_pos (by omega)]
  simp
/-- the one's piece in the other makes the one, where they agree outside of it -/
theorem laid_over (a b : List Int) (f t : Nat) (h : f ≤ t) (ht : t ≤ a.length) (hl : a.length = b.length) (hs : ∀ j : Nat, j < a.length → (j < f ∨ t ≤ j) → rd a j = rd b j) :
    a.take f ++ (b.take t).drop f ++ a.drop (f + ((b.take t).drop f).length) = b := by
  have hlen : ((b.take t).drop f).length = t - f := by simp; omega
  rw [hlen, show f + (t - f) = t by omega]
  apply List.ext_getElem
  · simp; omega
  · intro i h1 h2
    by_cases c1 : i < f
    · rw [List.getElem_append_left (by simp; omega), List.getElem_append_left (by simp; omega)]
      simp only [List.getElem_take]
      have := hs i (by omega) (.inl c1)
      rwa [rd_lt a i (by omega), rd_lt b i (by omega)] at this
    · by_cases c2 : i < t
      · rw [List.getElem_append_left (by simp; omega), List.getElem_append_right (by simp; omega)]
        simp only [List.getElem_drop, List.getElem_take, List.length_take]
        congr 1; omega
      · rw [List.getElem_append_right (by simp; omega)]
        simp only [List.getElem_drop]
        have := hs i (by omega) (.inr (by omega))
        rw [rd_lt a i (by omega), rd_lt b i (by omega)] at this
        rw [← this]
        congr 1; simp; omega
theorem loop_is (a b : List Int) (f t : Int) (hl : a.length = b.length) (hn : a.length ≤ 140737488351232) (hs : ∀ j : Nat, j < a.length → ((j : Int) < f ∨ t ≤ (j : Int)) → rd a j = rd b j)
    (r : Option Bool) (hend : ∀ k, 2 < k → tidemarklaw03_ImageTurns.l0 k a b f t (a.length : Int) = r) : ∀ (d k i : Nat), i + d = a.length → d + 2 < k → tidemarklaw03_ImageTurns.l0 k a b f t (i : Int) = r := by
  intro d
  induction d with
  | zero =>
    intro k i hi hk
    obtain rfl : i = a.length := by omega
    exact hend k (by omega)
  | succ d ih =>
    intro k i hi hk
    obtain ⟨k, rfl⟩ : ∃ m, k = m + 1 := ⟨k - 1, by omega⟩
    have hnext := ih k (i + 1) (by omega) (by omega)
    rw [show ((i + 1 : Nat) : Int) = (i : Int) + 1 by omega] at hnext
    simp only [tidemarklaw03_ImageTurns.l0]
    rw [if_pos (by omega), wr (by omega) (by omega)]
    by_cases c1 : (i : Int) < f
    · rw [if_pos c1, if_pos (by omega), if_pos (by omega), if_pos (hs i (by omega) (.inl c1))]
      exact hnext
    · rw [if_neg c1]
      by_cases c2 : (i : Int) ≥ t
      · rw [if_pos c2, if_pos (by omega), if_pos (by omega), if_pos (hs i (by omega) (.inr c2))]
        exact hnext
      · rw [if_neg c2]
        exact hnext
theorem j2_is (a b : List Int) (f t : Nat) (h : f ≤ t) (ht : t ≤ a.length) (hl : a.length = b.length) (hn : a.length ≤ 140737488351232) (hs : ∀ j : Nat, j < a.length → (j < f ∨ t ≤ j) → rd a j = rd b j) (k : Nat) (hk : 0 < k) :
    tidemarklaw03_ImageTurns.j2 k a b (f : Int) (t : Int) false = some true := by
  obtain ⟨k, rfl⟩ : ∃ m, k = m + 1 := ⟨k - 1, by omega⟩
  simp only [tidemarklaw03_ImageTurns.j2]
  have hs' : ∀ j : Nat, j < b.length → (j < f ∨ t ≤ j) → rd b j = rd a j := fun j hj hc => (hs j (by omega) hc).symm
  have hlen1 : ((b.take t).drop f).length = t - f := by simp; omega
  have hlen2 : ((a.take t).drop f).length = t - f := by simp; omega
  rw [if_neg (by simp), cut_good b (by omega) f t h (by omega)]
  simp only [Option.bind_some]
  rw [lay_good a _ hn f (by rw [hlen1]; omega), cut_good a hn f t h ht]
  simp only [Option.bind_some]
  rw [lay_good b _ (by omega) f (by rw [hlen2]; omega), laid_over a b f t h ht hl hs, laid_over b a f t h (by omega) hl.symm hs']
  simp [tidemarklaw03_num.f]
theorem ImageTurns : tidemarklaw03_ImageTurns.Pure := by
  intro l0 l1 hm0 hn0 hw0 hm1 hn1 hw1
  have h0 : l0.length ≤ 140737488351232 := by omega
  refine ⟨l0.length + 1000, ?_⟩
  generalize hk : l0.length + 1000 = k
  unfold tidemarklaw03_ImageTurns.f
  by_cases hl : l0.length = l1.length
  · obtain ⟨f, t, e, hp⟩ := part_is l0 l1 hl h0 k (by omega)
    rw [e]
    simp only [Option.bind_some, tidemarklaw03_alive.f, tidemarklaw03_num.f, if_true]
    rw [if_pos (by omega)]
    have hb : 0 ≤ f ∧ f ≤ t ∧ t ≤ (l0.length : Int) := by
      rcases hp with ⟨rfl, rfl, _⟩ | ⟨k0, k1, k2, _⟩
      · omega
      · omega
    have hs : ∀ j : Nat, j < l0.length → ((j : Int) < f ∨ t ≤ (j : Int)) → rd l0 j = rd l1 j := by
      rcases hp with ⟨rfl, rfl, hp⟩ | ⟨_, _, _, _, _, hp⟩
      · exact fun j hj _ => hp j hj
      · exact hp
    rw [if_neg (by omega), if_neg (by omega)]
    have hd : decide (t > (l0.length : Int)) = false := by simp; omega
    rw [hd]
    obtain ⟨k, rfl⟩ : ∃ m, k = m + 1 := ⟨k - 1, by omega⟩
    simp only [tidemarklaw03_ImageTurns.j0]
    rw [if_neg (by simp)]
    refine loop_is l0 l1 f t hl h0 hs _ (fun k hk => ?_) l0.length k 0 (by omega) (by omega)
    obtain ⟨k, rfl⟩ : ∃ m, k = m + 1 := ⟨k - 1, by omega⟩
    simp only [tidemarklaw03_ImageTurns.l0]
    rw [if_neg (by omega)]
    have hfin : tidemarklaw03_ImageTurns.j2 k l0 l1 f t false = some true := by
      have := j2_is l0 l1 f.toNat t.toNat (by omega) (by omega) hl h0 (fun j hj hc => hs j hj (by omega)) k (by omega)
      rwa [Int.toNat_of_nonneg hb.1, Int.toNat_of_nonneg (by omega)] at this
    rcases hp with ⟨rfl, rfl, _⟩ | ⟨k0, k1, k2, k3, k4, _⟩
    · rw [if_neg (by omega), if_pos rfl]
      exact hfin
    · rw [if_pos (by omega), if_pos (by omega), if_pos (by omega), if_pos (by omega), if_neg k3, wr (by omega) (by omega), if_pos (by omega), if_pos (by omega), if_pos (by omega), if_neg k4, if_neg (by omega)]
      exact hfin
  · rw [part_no _ _ hl]
    simp only [Option.bind_some, tidemarklaw03_alive.f, tidemarklaw03_num.f, if_true]
    rw [if_neg (by omega)]
    simp
end Go.Proofs.Ytolnhhafjojjeaa.Pure
