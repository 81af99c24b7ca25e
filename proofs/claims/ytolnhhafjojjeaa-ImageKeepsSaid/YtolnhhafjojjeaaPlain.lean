/- The plain laws of what the printed functions of chapter 3 compute: lists and numbers alone. -/
import Derived.Test.YtolnhhafjojjeaaQAx1
import Derived.Test.YtolnhhafjojjeaaQAx2
import Derived.Test.YtolnhhafjojjeaaQAx3
import Derived.Test.YtolnhhafjojjeaaQAx5
import Derived.Test.YtolnhhafjojjeaaQAx6
import Derived.Test.YtolnhhafjojjeaaQAx8
import Derived.Test.YtolnhhafjojjeaaQAx10
import Derived.Test.YtolnhhafjojjeaaQAx11
namespace Go.Proofs.Ytolnhhafjojjeaa.Plain
open Go.RowKit Go.Proofs.Ytolnhhafjojjeaa.QA Go.Proofs.YtolnhhafjojjeaaW.PrintWords Go.Proofs.YtolnhhafjojjeaaW.PrintLast
set_option linter.unusedVariables false

theorem wr {x : Int} (h0 : -9223372036854775808 ≤ x) (h1 : x ≤ 9223372036854775807) : wrap64 x = x := by unfold wrap64; omega
theorem rd_lt (l : List Int) (i : Nat) (h : i < l.length) : rd l (i : Int) = l[i] := by
  simp [rd, List.getD_eq_getElem?_getD, h]

/-! lent -/
def marks : List Int := (List.range 120).map fun (j : Nat) => ((129 + (j : Int)) % 256)
theorem marks_length : marks.length = 120 := by simp [marks]
theorem set_mid (p : List Int) (n : Nat) (v : Int) (h : 0 < n) : (p ++ List.replicate n 0).set p.length v = (p ++ [v]) ++ List.replicate (n - 1) 0 := by
  obtain ⟨m, rfl⟩ : ∃ m, n = m + 1 := ⟨n - 1, by omega⟩
  rw [List.set_append_right _ _ (Nat.le_refl _)]
  simp [List.replicate_succ]
theorem lent_l1 (x0 : List Int) (hn : x0.length ≤ 140737488351232) : ∀ (d k j : Nat), j + d = 120 → d < k →
    tidemarklaw03_lent.l1 k x0 (x0 ++ marks.take j ++ List.replicate (120 - j) 0) ((x0.length + j : Nat) : Int) = some (x0 ++ marks) := by
  intro d
  induction d with
  | zero =>
    intro k j hj hk
    obtain ⟨k, rfl⟩ : ∃ m, k = m + 1 := ⟨k - 1, by omega⟩
    obtain rfl : j = 120 := by omega
    simp only [tidemarklaw03_lent.l1]
    rw [if_neg (by simp [marks_length])]
    rw [List.take_of_length_le (by rw [marks_length]; exact Nat.le_refl _)]
    simp
  | succ d ih =>
    intro k j hj hk
    obtain ⟨k, rfl⟩ : ∃ m, k = m + 1 := ⟨k - 1, by omega⟩
    simp only [tidemarklaw03_lent.l1]
    have hlen : (x0 ++ marks.take j ++ List.replicate (120 - j) (0 : Int)).length = x0.length + 120 := by
      simp [marks_length]; omega
    rw [if_pos (by rw [hlen]; omega), if_pos (by omega)]
    rw [wr (x := 129 + ((x0.length + j : Nat) : Int)) (by omega) (by omega)]
    rw [wr (x := 129 + ((x0.length + j : Nat) : Int) - (x0.length : Int)) (by omega) (by omega)]
    rw [wr (x := ((x0.length + j : Nat) : Int) + 1) (by omega) (by omega)]
    have hpl : (x0 ++ marks.take j).length = x0.length + j := by simp [marks_length]; omega
    have hv : (129 + ((x0.length + j : Nat) : Int) - (x0.length : Int)) % 256 = (129 + (j : Int)) % 256 := by
      congr 1; omega
    rw [hv]
    have hset := set_mid (x0 ++ marks.take j) (120 - j) ((129 + (j : Int)) % 256) (by omega)
    rw [hpl] at hset
    rw [Int.toNat_natCast, hset]
    have hj' : j < marks.length := by rw [marks_length]; omega
    have hm : marks.take j ++ [(129 + (j : Int)) % 256] = marks.take (j + 1) := by
      rw [List.take_succ_eq_append_getElem hj']
      simp [marks]
    rw [List.append_assoc x0, hm]
    have := ih k (j + 1) (by omega) (by omega)
    rw [show 120 - j - 1 = 120 - (j + 1) by omega, show ((x0.length + j : Nat) : Int) + 1 = ((x0.length + (j + 1) : Nat) : Int) by omega]
    exact this
theorem lent_l0 (x0 : List Int) (hn : x0.length ≤ 140737488351232) : ∀ (d k i : Nat), i + d = x0.length → d + 122 < k →
    tidemarklaw03_lent.l0 k x0 (x0.take i ++ List.replicate (x0.length + 120 - i) 0) (i : Int) = some (x0 ++ marks) := by
  intro d
  induction d with
  | zero =>
    intro k i hi hk
    obtain ⟨k, rfl⟩ : ∃ m, k = m + 1 := ⟨k - 1, by omega⟩
    obtain rfl : i = x0.length := by omega
    simp only [tidemarklaw03_lent.l0]
    rw [if_neg (by omega)]
    have := lent_l1 x0 hn 120 k 0 (by omega) (by omega)
    simp only [List.take_zero, List.append_nil, Nat.sub_zero, Nat.add_zero] at this
    rw [List.take_length, show x0.length + 120 - x0.length = 120 by omega]
    exact this
  | succ d ih =>
    intro k i hi hk
    obtain ⟨k, rfl⟩ : ∃ m, k = m + 1 := ⟨k - 1, by omega⟩
    have hlt : i < x0.length := by omega
    simp only [tidemarklaw03_lent.l0]
    have hlen : (x0.take i ++ List.replicate (x0.length + 120 - i) (0 : Int)).length = x0.length + 120 := by simp; omega
    rw [if_pos (by omega), if_pos (by omega), if_pos (by rw [hlen]; omega), wr (by omega) (by omega), rd_lt x0 i hlt]
    have hpl : (x0.take i).length = i := by simp; omega
    have hset := set_mid (x0.take i) (x0.length + 120 - i) x0[i] (by omega)
    rw [hpl] at hset
    rw [Int.toNat_natCast, hset, ← List.take_succ_eq_append_getElem hlt]
    have := ih k (i + 1) (by omega) (by omega)
    rw [show x0.length + 120 - i - 1 = x0.length + 120 - (i + 1) by omega, show (i : Int) + 1 = ((i + 1 : Nat) : Int) by omega]
    exact this
theorem lent_is (l : List Int) (hn : l.length ≤ 140737488351232) (k : Nat) (hk : l.length + 122 < k) : tidemarklaw03_lent.f k l = some (l ++ marks) := by
  unfold tidemarklaw03_lent.f
  rw [wr (by omega) (by omega), if_pos (by omega), if_pos (by omega)]
  have := lent_l0 l hn l.length k 0 (by omega) (by omega)
  simp only [List.take_zero, List.nil_append, Nat.sub_zero] at this
  rw [show ((l.length : Int) + 120).toNat = l.length + 120 by omega]
  exact this
theorem whole_is (l : List Int) (hn : l.length ≤ 140737488351232) (k : Nat) (hk : l.length + 122 < k) : tidemarklaw03_whole.f k (l ++ marks) l = some true := by
  unfold tidemarklaw03_whole.f
  rw [lent_is l hn k hk]
  simp

/-! Part -/
/-- what the range that parts two lists is -/
def Parts (a b : List Int) (f t : Int) : Prop :=
  (f = 0 ∧ t = 0 ∧ ∀ j : Nat, j < a.length → rd a j = rd b j) ∨
  (0 ≤ f ∧ f < t ∧ t ≤ a.length ∧ rd a f ≠ rd b f ∧ rd a (t - 1) ≠ rd b (t - 1) ∧ ∀ j : Nat, j < a.length → ((j : Int) < f ∨ t ≤ (j : Int)) → rd a j = rd b j)
theorem parts_one (a b : List Int) (f t f' t' : Int) (h : Parts a b f t) (h' : Parts a b f' t') : f = f' ∧ t = t' := by
  rcases h with ⟨rfl, rfl, h⟩ | ⟨h0, h1, h2, h3, h4, h5⟩
  · rcases h' with ⟨rfl, rfl, _⟩ | ⟨k0, k1, k2, k3, _, _⟩
    · exact ⟨rfl, rfl⟩
    · exact absurd (by have := h f'.toNat (by omega); rwa [Int.toNat_of_nonneg k0] at this) k3
  · rcases h' with ⟨rfl, rfl, h'⟩ | ⟨k0, k1, k2, k3, k4, k5⟩
    · exact absurd (by have := h' f.toNat (by omega); rwa [Int.toNat_of_nonneg h0] at this) h3
    · constructor
      · rcases Int.lt_trichotomy f f' with hl | he | hl
        · exact absurd (by have := k5 f.toNat (by omega) (by omega); rwa [Int.toNat_of_nonneg h0] at this) h3
        · exact he
        · exact absurd (by have := h5 f'.toNat (by omega) (by omega); rwa [Int.toNat_of_nonneg k0] at this) k3
      · rcases Int.lt_trichotomy t t' with hl | he | hl
        · exact absurd (by have := h5 (t' - 1).toNat (by omega) (by omega); rwa [Int.toNat_of_nonneg (by omega)] at this) k4
        · exact he
        · exact absurd (by have := k5 (t - 1).toNat (by omega) (by omega); rwa [Int.toNat_of_nonneg (by omega)] at this) h4
/-- the state of the program's loop at i -/
def Upto (a b : List Int) (i : Nat) (f t : Int) : Prop :=
  (f = 0 ∧ t = 0 ∧ ∀ j : Nat, j < i → rd a j = rd b j) ∨
  (0 ≤ f ∧ f < t ∧ t ≤ i ∧ rd a f ≠ rd b f ∧ rd a (t - 1) ≠ rd b (t - 1) ∧ ∀ j : Nat, j < i → ((j : Int) < f ∨ t ≤ (j : Int)) → rd a j = rd b j)
theorem upto_same {a b : List Int} {i : Nat} {f t : Int} (h : Upto a b i f t) (he : rd a i = rd b i) : Upto a b (i + 1) f t := by
  rcases h with ⟨rfl, rfl, h⟩ | ⟨h0, h1, h2, h3, h4, h5⟩
  · refine .inl ⟨rfl, rfl, fun j hj => ?_⟩
    rcases Nat.lt_or_ge j i with hl | hl
    · exact h j hl
    · obtain rfl : j = i := by omega
      exact he
  · refine .inr ⟨h0, h1, by omega, h3, h4, fun j hj hc => ?_⟩
    rcases Nat.lt_or_ge j i with hl | hl
    · exact h5 j hl hc
    · obtain rfl : j = i := by omega
      exact he
theorem upto_first {a b : List Int} {i : Nat} {f t : Int} (h : Upto a b i f t) (ht : t = 0) (he : rd a i ≠ rd b i) : Upto a b (i + 1) i ((i : Int) + 1) := by
  rcases h with ⟨rfl, _, h⟩ | ⟨h0, h1, _⟩
  · refine .inr ⟨by omega, by omega, by omega, he, by rw [Int.add_sub_cancel]; exact he, fun j hj hc => h j (by omega)⟩
  · omega
theorem upto_next {a b : List Int} {i : Nat} {f t : Int} (h : Upto a b i f t) (ht : t ≠ 0) (he : rd a i ≠ rd b i) : Upto a b (i + 1) f ((i : Int) + 1) := by
  rcases h with ⟨_, h, _⟩ | ⟨h0, h1, h2, h3, _, h5⟩
  · exact absurd h ht
  · refine .inr ⟨h0, by omega, by omega, h3, by rw [Int.add_sub_cancel]; exact he, fun j hj hc => h5 j (by omega) (by omega)⟩
theorem part_l0 (a b : List Int) (hl : a.length = b.length) (hn : a.length ≤ 140737488351232) : ∀ (d k i : Nat) (f t : Int), i + d = a.length → d < k → Upto a b i f t →
    ∃ f' t', image_Part.l0 k a b f t (a.length : Int) (i : Int) = some (f', t', 0) ∧ Parts a b f' t' := by
  intro d
  induction d with
  | zero =>
    intro k i f t hi hk h
    obtain ⟨k, rfl⟩ : ∃ m, k = m + 1 := ⟨k - 1, by omega⟩
    obtain rfl : i = a.length := by omega
    refine ⟨f, t, ?_, h⟩
    simp only [image_Part.l0]
    rw [if_neg (by omega)]
  | succ d ih =>
    intro k i f t hi hk h
    obtain ⟨k, rfl⟩ : ∃ m, k = m + 1 := ⟨k - 1, by omega⟩
    simp only [image_Part.l0]
    rw [if_pos (by omega), if_pos (by omega), if_pos (by omega), if_pos (by omega), wr (by omega) (by omega)]
    by_cases he : rd a (i : Int) = rd b (i : Int)
    · rw [if_pos he]
      exact ih k (i + 1) f t (by omega) (by omega) (upto_same h he)
    · rw [if_neg he]
      by_cases ht : t = 0
      · rw [if_pos ht]
        exact ih k (i + 1) i ((i : Int) + 1) (by omega) (by omega) (upto_first h ht he)
      · rw [if_neg ht]
        exact ih k (i + 1) f ((i : Int) + 1) (by omega) (by omega) (upto_next h ht he)
theorem part_is (a b : List Int) (hl : a.length = b.length) (hn : a.length ≤ 140737488351232) (k : Nat) (hk : a.length < k) : ∃ f t, image_Part.f k a b = some (f, t, 0) ∧ Parts a b f t := by
  unfold image_Part.f
  rw [if_pos (by omega)]
  exact part_l0 a b hl hn a.length k 0 0 0 (by omega) hk (.inl ⟨rfl, rfl, fun j hj => by omega⟩)
theorem part_no (a b : List Int) (hl : a.length ≠ b.length) (k : Nat) : image_Part.f k a b = some (0, 0, 31) := by
  unfold image_Part.f
  rw [if_neg (by omega)]
/-- the reference's -/
theorem ref_l1 (a b : List Int) (f : Int) (hl : a.length = b.length) (hn : a.length ≤ 140737488351232) (h0 : 0 ≤ f) (h3 : rd a f ≠ rd b f) (hf : ∀ j : Nat, j < a.length → (j : Int) < f → rd a j = rd b j) :
    ∀ (d k t : Nat), f < (t : Int) → t ≤ a.length → (t : Int) - f = (d : Int) + 1 → d < k → (∀ j : Nat, j < a.length → (t : Int) ≤ (j : Int) → rd a j = rd b j) →
    ∃ t', tidemarkref03_Part.l1 k a b f (t : Int) = some (f, t', 0) ∧ Parts a b f t' := by
  intro d
  induction d with
  | zero =>
    intro k t h1 h2 hd hk hr
    obtain ⟨k, rfl⟩ : ∃ m, k = m + 1 := ⟨k - 1, by omega⟩
    have e : (t : Int) - 1 = f := by omega
    refine ⟨t, ?_, .inr ⟨h0, h1, by omega, h3, by rw [e]; exact h3, fun j hj hc => ?_⟩⟩
    · simp only [tidemarkref03_Part.l1]
      rw [wr (by omega) (by omega), if_pos (by omega), if_pos (by omega), if_pos (by omega), e, if_neg h3]
    · rcases hc with hc | hc
      · exact hf j hj hc
      · exact hr j hj hc
  | succ d ih =>
    intro k t h1 h2 hd hk hr
    obtain ⟨k, rfl⟩ : ∃ m, k = m + 1 := ⟨k - 1, by omega⟩
    simp only [tidemarkref03_Part.l1]
    rw [wr (by omega) (by omega), if_pos (by omega), if_pos (by omega), if_pos (by omega)]
    by_cases he : rd a ((t : Int) - 1) = rd b ((t : Int) - 1)
    · rw [if_pos he]
      have e : (t : Int) - 1 = ((t - 1 : Nat) : Int) := by omega
      rw [e]
      refine ih k (t - 1) (by omega) (by omega) (by omega) (by omega) (fun j hj hc => ?_)
      rcases Nat.lt_or_ge j t with hj2 | hj2
      · obtain rfl : j = t - 1 := by omega
        rwa [e] at he
      · exact hr j hj (by omega)
    · rw [if_neg he]
      refine ⟨t, rfl, .inr ⟨h0, h1, by omega, h3, he, fun j hj hc => ?_⟩⟩
      rcases hc with hc | hc
      · exact hf j hj hc
      · exact hr j hj hc
theorem ref_l0 (a b : List Int) (hl : a.length = b.length) (hn : a.length ≤ 140737488351232) : ∀ (d k i : Nat), i + d = a.length → d + a.length + 2 < k → (∀ j : Nat, j < i → rd a j = rd b j) →
    ∃ f t, tidemarkref03_Part.l0 k a b (i : Int) = some (f, t, 0) ∧ Parts a b f t := by
  intro d
  induction d with
  | zero =>
    intro k i hi hk h
    obtain ⟨k, rfl⟩ : ∃ m, k = m + 2 := ⟨k - 2, by omega⟩
    obtain rfl : i = a.length := by omega
    refine ⟨0, 0, ?_, .inl ⟨rfl, rfl, h⟩⟩
    simp only [tidemarkref03_Part.l0]
    rw [if_neg (by omega)]
    simp only [tidemarkref03_Part.j1]
    exact if_pos trivial
  | succ d ih =>
    intro k i hi hk h
    obtain ⟨k, rfl⟩ : ∃ m, k = m + 2 := ⟨k - 2, by omega⟩
    simp only [tidemarkref03_Part.l0]
    rw [if_pos (by omega), if_pos (by omega), if_pos (by omega), wr (by omega) (by omega)]
    by_cases he : rd a (i : Int) = rd b (i : Int)
    · rw [if_pos he]
      refine ih (k + 1) (i + 1) (by omega) (by omega) (fun j hj => ?_)
      rcases Nat.lt_or_ge j i with hj2 | hj2
      · exact h j hj2
      · obtain rfl : j = i := by omega
        exact he
    · rw [if_neg he]
      simp only [tidemarkref03_Part.j1]
      rw [if_neg (by omega)]
      obtain ⟨t, ht, hp⟩ := ref_l1 a b (i : Int) hl hn (by omega) he (fun j hj hc => h j (by omega)) (a.length - i - 1) k a.length (by omega) (Nat.le_refl _) (by omega) (by omega) (fun j hj hc => by omega)
      exact ⟨i, t, ht, hp⟩
theorem ref_part_is (a b : List Int) (hl : a.length = b.length) (hn : a.length ≤ 140737488351232) (k : Nat) (hk : a.length + a.length + 2 < k) : ∃ f t, tidemarkref03_Part.f k a b = some (f, t, 0) ∧ Parts a b f t := by
  unfold tidemarkref03_Part.f
  rw [if_pos (by omega)]
  exact ref_l0 a b hl hn a.length k 0 (by omega) (by omega) (fun j hj => by omega)
theorem ref_part_no (a b : List Int) (hl : a.length ≠ b.length) (k : Nat) : tidemarkref03_Part.f k a b = some (0, 0, 31) := by
  unfold tidemarkref03_Part.f
  rw [if_neg (by omega)]

/-! Cut, Lay: the reference's -/
theorem ref_cut_l0 (x : List Int) (a2 : Nat) (ha : a2 ≤ x.length) (hn : x.length ≤ 140737488351232) (a1 : Nat) : ∀ (d k i : Nat), i + d = a2 → a1 ≤ i → d < k →
    tidemarkref03_Cut.l0 k x (a2 : Int) ((x.take i).drop a1) (i : Int) = some ((x.take a2).drop a1, 0) := by
  intro d
  induction d with
  | zero =>
    intro k i hi h1 hk
    obtain ⟨k, rfl⟩ : ∃ m, k = m + 1 := ⟨k - 1, by omega⟩
    obtain rfl : i = a2 := by omega
    simp only [tidemarkref03_Cut.l0]
    rw [if_neg (by omega)]
  | succ d ih =>
    intro k i hi h1 hk
    obtain ⟨k, rfl⟩ : ∃ m, k = m + 1 := ⟨k - 1, by omega⟩
    have hlt : i < x.length := by omega
    simp only [tidemarkref03_Cut.l0]
    have hlen : ((x.take i).drop a1).length ≤ x.length := by simp; omega
    rw [if_pos (by omega), if_pos (by omega), if_pos (by omega), if_pos (by omega), wr (by omega) (by omega), rd_lt x i hlt]
    have e : (x.take i).drop a1 ++ [x[i]] = (x.take (i + 1)).drop a1 := by
      rw [List.take_succ_eq_append_getElem hlt, List.drop_append_of_le_length (by simp; omega)]
    rw [e]
    exact ih k (i + 1) (by omega) (by omega) (by omega)
theorem ref_cut_is (x : List Int) (hn : x.length ≤ 140737488351232) (a1 a2 : Int) (k : Nat) (hk : x.length + 3 < k) : tidemarkref03_Cut.f k x a1 a2 = image_Cut.f x a1 a2 := by
  obtain ⟨k, rfl⟩ : ∃ m, k = m + 1 := ⟨k - 1, by omega⟩
  unfold tidemarkref03_Cut.f image_Cut.f
  by_cases h1 : a1 < 0
  · rw [if_pos h1, if_pos (.inl h1)]; simp [tidemarkref03_Cut.j0]
  · rw [if_neg h1]
    by_cases h2 : a2 < a1
    · rw [if_pos h2, if_pos (.inr (.inl h2))]; simp [tidemarkref03_Cut.j0]
    · rw [if_neg h2]
      by_cases h3 : (x.length : Int) < a2
      · rw [if_pos (.inr (.inr h3))]; simp [tidemarkref03_Cut.j0, h3]
      · rw [if_neg (by omega), if_pos (by omega)]
        have hd : decide (a2 > (x.length : Int)) = false := by simp; omega
        rw [hd]
        simp only [tidemarkref03_Cut.j0]
        rw [if_neg (by simp)]
        obtain ⟨n1, rfl⟩ := Int.eq_ofNat_of_zero_le (show 0 ≤ a1 by omega)
        obtain ⟨n2, rfl⟩ := Int.eq_ofNat_of_zero_le (show 0 ≤ a2 by omega)
        have := ref_cut_l0 x n2 (by omega) hn n1 (n2 - n1) k n1 (by omega) (by omega) (by omega)
        have e : (x.take n1).drop n1 = [] := List.drop_eq_nil_of_le (by simp; omega)
        rw [e] at this
        simpa using this
theorem ref_lay_l0 (x y : List Int) (a1 : Nat) (ha : a1 + y.length ≤ x.length) (hn : x.length ≤ 140737488351232) : ∀ (d k i : Nat), i + d = x.length → d < k →
    tidemarkref03_Lay.l0 k x (a1 : Int) y ((x.take a1 ++ y ++ x.drop (a1 + y.length)).take i) (i : Int) = some (x.take a1 ++ y ++ x.drop (a1 + y.length), 0) := by
  have hz : (x.take a1 ++ y ++ x.drop (a1 + y.length)).length = x.length := by simp; omega
  intro d
  induction d with
  | zero =>
    intro k i hi hk
    obtain ⟨k, rfl⟩ : ∃ m, k = m + 1 := ⟨k - 1, by omega⟩
    obtain rfl : i = x.length := by omega
    simp only [tidemarkref03_Lay.l0]
    rw [if_neg (by omega), List.take_of_length_le (by omega)]
  | succ d ih =>
    intro k i hi hk
    obtain ⟨k, rfl⟩ : ∃ m, k = m + 1 := ⟨k - 1, by omega⟩
    have hlt : i < x.length := by omega
    have hnext := ih k (i + 1) (by omega) (by omega)
    rw [List.take_succ_eq_append_getElem (by omega)] at hnext
    have hlen : ((x.take a1 ++ y ++ x.drop (a1 + y.length)).take i).length = i := by rw [List.length_take]; omega
    simp only [tidemarkref03_Lay.l0]
    rw [if_pos (by omega)]
    rw [show ((i + 1 : Nat) : Int) = (i : Int) + 1 by omega] at hnext
    by_cases h1 : a1 ≤ i
    · rw [if_pos (by omega), wr (x := (i : Int) - (a1 : Int)) (by omega) (by omega)]
      by_cases h2 : i - a1 < y.length
      · rw [if_pos (by omega), if_pos (by omega), if_pos (by omega), wr (by omega) (by omega), show (i : Int) - (a1 : Int) = ((i - a1 : Nat) : Int) by omega, rd_lt y (i - a1) h2]
        have e : (x.take a1 ++ y ++ x.drop (a1 + y.length))[i]'(by omega) = y[i - a1] := by
          rw [List.getElem_append_left (by simp; omega), List.getElem_append_right (by simp; omega)]
          congr 1; simp; omega
        rw [e] at hnext
        exact hnext
      · rw [if_neg (by omega), if_pos (by omega), if_pos (by omega), wr (by omega) (by omega), rd_lt x i hlt]
        have e : (x.take a1 ++ y ++ x.drop (a1 + y.length))[i]'(by omega) = x[i] := by
          rw [List.getElem_append_right (by simp; omega)]
          simp only [List.getElem_drop]
          congr 1; simp; omega
        rw [e] at hnext
        exact hnext
    · rw [if_neg (by omega), if_pos (by omega), if_pos (by omega), wr (by omega) (by omega), rd_lt x i hlt]
      have e : (x.take a1 ++ y ++ x.drop (a1 + y.length))[i]'(by omega) = x[i] := by
        rw [List.getElem_append_left (by simp; omega), List.getElem_append_left (by simp; omega)]
        simp
      rw [e] at hnext
      exact hnext
theorem ref_lay_is (x y : List Int) (hn : x.length ≤ 140737488351232) (hy : y.length ≤ 140737488351232) (a1 : Int) (w1 : (Lit.int .i64 a1).wf = true) (k : Nat) (hk : x.length + 3 < k) : tidemarkref03_Lay.f k x a1 y = image_Lay.f x a1 y := by
  obtain ⟨k, rfl⟩ : ∃ m, k = m + 1 := ⟨k - 1, by omega⟩
  unfold tidemarkref03_Lay.f image_Lay.f
  by_cases h1 : a1 < 0
  · rw [if_pos h1, if_pos (.inl h1)]; simp [tidemarkref03_Lay.j0]
  · rw [if_neg h1]
    by_cases h2 : a1 > (x.length : Int)
    · rw [if_pos h2, if_pos (by omega)]; simp [tidemarkref03_Lay.j0]
    · rw [if_neg h2, wr (by omega) (by omega)]
      by_cases h3 : (y.length : Int) > (x.length : Int) - a1
      · rw [if_pos (by omega)]; simp [tidemarkref03_Lay.j0, h3]
      · rw [if_neg (by omega), if_pos (by omega)]
        have hd : decide ((y.length : Int) > (x.length : Int) - a1) = false := by simp; omega
        rw [hd]
        simp only [tidemarkref03_Lay.j0]
        rw [if_neg (by simp)]
        obtain ⟨n1, rfl⟩ := Int.eq_ofNat_of_zero_le (show 0 ≤ a1 by omega)
        have := ref_lay_l0 x y n1 (by omega) hn x.length k 0 (by omega) (by omega)
        simpa using this
end Go.Proofs.Ytolnhhafjojjeaa.Plain
