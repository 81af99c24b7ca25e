/- slices.Sort on a row of whole numbers of one's own; lists that rise. -/
import Derived.Test.YtjalkjoaepbhbaaTRows
import Derived.Test.YtjalkjoaepbhbaaTSort
import Derived.Sort.OwnSortedInts
namespace Go.Proofs.Ytjalkjoaepbhbaa.QA
open Go.RowKit Go.Proofs.YtjalkjoaepbhbaaW.PrintWords Go.Proofs.YtjalkjoaepbhbaaW.PrintLast Go.Proofs.YtjalkjoaepbhbaaW.PrintMore
set_option linter.unusedVariables false
set_option linter.unusedSimpArgs false
def sorted (xs : List Int) : List Int := xs.mergeSort fun x y => decide (x ≤ y)
theorem sorted_length (xs : List Int) : (sorted xs).length = xs.length := List.length_mergeSort xs
theorem sort25 {w : World} {base : Nat} {ok : Nat → Prop} {v : Value} {xs : List Int} (h : Kd.R (Kd.int .i64) 3 w base ok v xs) (hl : xs.length < 4611686018427387904) :
    Calls Try.prog 25 #[v] w fun e w' => e = .returned (.tuple #[]) ∧ Kd.R (Kd.int .i64) 3 w' base ok v (sorted xs) ∧ Mv w w' (fun k => some k = v.ownBlock) := by
  have hown := Kd.own_of_R h
  rcases hown.2 with ⟨he, h0⟩ | ⟨g, cap, cur, he, hbg, hg, hnc, hcm, hcs, htk⟩
  · have hnil : xs = [] := List.length_eq_zero_iff.1 h0
    subst hnil
    subst he
    refine (Try.slices_Sort_int_none none 0 w).mono ?_
    rintro e w' ⟨rfl, rfl⟩
    exact ⟨rfl, by rw [show sorted [] = [] from by simp [sorted]]; exact h, Mv.refl _ _⟩
  · have ht : cur.toList.take xs.length = xs.map (Value.int .i64) := by
      rw [Nat.mul_one] at htk
      rw [htk]
      rfl
    subst he
    refine (Try.slices_Sort_int g 0 cap xs w (holds_of_blockI hg ht) (blk_lt hg) hl).mono ?_
    rintro e w' ⟨rfl, n, os, rfl⟩
    refine ⟨rfl, ?_, ?_⟩
    · have h1 := ownsRow_sortedI (n := n) (os := os) (ss := xs) (ts := sorted xs) (sorted_length xs) hbg hg hnc hcm hcs
      have h2 : (sorted xs).length = xs.length := sorted_length xs
      have h3 := Kd.R_of_own (e := 3) (base := base) (enc := Value.int .i64) (h1 := fun _ => rfl) (ok := ok) (xs := sorted xs) (v := .slice (some ⟨g, 0, none⟩) xs.length cap) (w := (Sort.grow (Sort.putRow (Value.int .i64) (Sort.ahead w n) g 0 (sorted xs).toArray) os)) (by rw [h2]; exact h1) (fun k hk => h.1 k hk)
      exact h3
    · exact Mv.of_grown (grownBy_sortedI _)
/-- Lists that rise and hold the same are one. -/
theorem rise_eq : ∀ (l m : List Int), l.Pairwise (· < ·) → m.Pairwise (· < ·) → (∀ x, x ∈ l ↔ x ∈ m) → l = m
  | [], [], _, _, _ => rfl
  | [], b :: m, _, _, h => absurd ((h b).2 (by simp)) (by simp)
  | a :: l, [], _, _, h => absurd ((h a).1 (by simp)) (by simp)
  | a :: l, b :: m, h1, h2, h => by
    rw [List.pairwise_cons] at h1 h2
    have hab : a = b := by
      have ha := (h a).1 (by simp)
      have hb := (h b).2 (by simp)
      rw [List.mem_cons] at ha hb
      rcases ha with ha | ha
      · exact ha
      · rcases hb with hb | hb
        · exact hb.symm
        · have := h2.1 a ha
          have := h1.1 b hb
          omega
    subst hab
    rw [rise_eq l m h1.2 h2.2 (fun x => ⟨fun hx => ?_, fun hx => ?_⟩)]
    · have := (h x).1 (by simp [hx])
      rw [List.mem_cons] at this
      rcases this with e | this
      · have := h1.1 x hx; omega
      · exact this
    · have := (h x).2 (by simp [hx])
      rw [List.mem_cons] at this
      rcases this with e | this
      · have := h2.1 x hx; omega
      · exact this
theorem sorted_rises (xs : List Int) (h : xs.Nodup) : (sorted xs).Pairwise (· < ·) := by
  have hp := List.mergeSort_perm xs fun x y => decide (x ≤ y)
  have hs : (sorted xs).Pairwise (fun x y => decide (x ≤ y) = true) := List.pairwise_mergeSort (fun a b c h1 h2 => by simp at h1 h2 ⊢; omega) (fun a b => by simp; omega) xs
  have hn : (sorted xs).Nodup := hp.nodup_iff.2 h
  refine (hs.and hn).imp ?_
  rintro a b ⟨h1, h2⟩
  simp at h1
  omega
theorem sorted_mem (xs : List Int) (x : Int) : x ∈ sorted xs ↔ x ∈ xs := (List.mergeSort_perm xs fun x y => decide (x ≤ y)).mem_iff
theorem sorted_is (xs m : List Int) (h : xs.Nodup) (hm : m.Pairwise (· < ·)) (he : ∀ x, x ∈ xs ↔ x ∈ m) : sorted xs = m :=
  rise_eq _ _ (sorted_rises xs h) hm (fun x => (sorted_mem xs x).trans (he x))
end Go.Proofs.Ytjalkjoaepbhbaa.QA
