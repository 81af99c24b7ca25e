/- The plain law of chapter 12: Undo. -/
import Derived.Test.YtijlcahikeeigaaPureChain
import Derived.Test.YtijlcahikeeigaaQAx15
namespace Go.Proofs.Ytijlcahikeeigaa.Pure
open Go.RowKit Go.Proofs.Ytijlcahikeeigaa.QA Go.Proofs.YtijlcahikeeigaaW.PrintWords Go.Proofs.YtijlcahikeeigaaW.PrintLast
set_option linter.unusedVariables false
set_option linter.unusedSimpArgs false
/-- Undo's step behind a record that hangs. -/
def undoS (r : S41) (x bi : Int) (out : List Int) (asked : List Int) (must : Bool) (rec : Int → List Int → Bool → Option (List Int × Int × List Int)) : Option (List Int × Int × List Int) :=
  if must = true ∧ r.f0 ≠ 2 then some ([], 120, asked) else
  if r.f0 = 1 then some (out, 0, asked) else
  if r.f0 = 3 then (if r.f8 = 0 then some (out, 0, asked) else if bi ≤ r.f8 ∧ r.f8 < x then rec r.f8 out true else some ([], 120, asked)) else
  if bi ≤ r.f2 ∧ r.f2 < x then rec r.f2 (undoOut r x out) false else some ([], 120, asked)
theorem undo_j2 (l : List S43) (all : Bool) (r : S41) (x bi tt : Int) (out asked : List Int) (k : Nat) (hk : 0 < k) (ho : out.length < 17592186044416) (m : Bool) :
    tidemarkref12_Undo.j2 k l all out asked x bi m tt r.f0 r.f1 r.f2 r.f3 r.f4 r.f5 r.f6 r.f7 r.f8 r.f9 r.f10 =
      if bi ≤ tt ∧ tt < x then tidemarkref12_Undo.l0 (k - 1) l all (undoOut r x out) asked tt bi m else some ([], 120, asked) := by
  obtain ⟨k, rfl⟩ : ∃ n, k = n + 1 := ⟨k - 1, by omega⟩
  simp only [tidemarkref12_Undo.j2, Nat.add_sub_cancel]
  have key : ∀ o, (if tt < bi then some (([] : List Int), (120 : Int), asked) else if tt ≥ x then some ([], 120, asked) else tidemarkref12_Undo.l0 k l all o asked tt bi m) = if bi ≤ tt ∧ tt < x then tidemarkref12_Undo.l0 k l all o asked tt bi m else some ([], 120, asked) := by
    intro o
    by_cases h1 : tt < bi
    · rw [if_pos h1, if_neg (by omega)]
    · rw [if_neg h1]
      by_cases h2 : tt ≥ x
      · rw [if_pos h2, if_neg (by omega)]
      · rw [if_neg h2, if_pos (by omega)]
  unfold undoOut
  by_cases h : r.f0 = 2
  · rw [if_pos h, if_pos ho, if_pos h]; exact key _
  · rw [if_neg h, if_neg h]; exact key _
theorem undo_j1 (l : List S43) (all : Bool) (r : S41) (x bi : Int) (out asked : List Int) (must : Bool) (k : Nat) (hk : 1 < k) (ho : out.length < 17592186044416) (y : Bool) (hy : y = (must && (r.f0 != 2))) :
    tidemarkref12_Undo.j1 k l all out asked x bi y r.f0 r.f1 r.f2 r.f3 r.f4 r.f5 r.f6 r.f7 r.f8 r.f9 r.f10 =
      undoS r x bi out asked must (fun tt o m => tidemarkref12_Undo.l0 (k - 2) l all o asked tt bi m) := by
  obtain ⟨k, rfl⟩ : ∃ n, k = n + 1 := ⟨k - 1, by omega⟩
  simp only [tidemarkref12_Undo.j1]
  unfold undoS
  by_cases h : must = true ∧ r.f0 ≠ 2
  · have : y = true := by rw [hy, h.1]; simp [h.2]
    rw [if_pos this, if_pos h]
  · have : ¬ y = true := by
      rw [hy]
      intro hc
      simp only [Bool.and_eq_true, bne_iff_ne, ne_eq] at hc
      exact h hc
    rw [if_neg this, if_neg h]
    by_cases h1 : r.f0 = 1
    · rw [if_pos h1, if_pos h1]
    · rw [if_neg h1, if_neg h1]
      by_cases h3 : r.f0 = 3
      · rw [if_pos h3, if_pos h3]
        by_cases h8 : r.f8 = 0
        · rw [if_pos h8, if_pos h8]
        · rw [if_neg h8, if_neg h8, undo_j2 l all r x bi r.f8 out asked k (by omega) ho]
          have e1 : (r.f0 == 3) = true := beq_iff_eq.mpr h3
          have e2 : undoOut r x out = out := if_neg (by omega)
          rw [e1, e2]
          rfl
      · rw [if_neg h3, if_neg h3, undo_j2 l all r x bi r.f2 out asked k (by omega) ho]
        have e1 : (r.f0 == 3) = false := beq_eq_false_iff_ne.mpr h3
        rw [e1]
        rfl
theorem undoOut_len (r : S41) (x : Int) (out : List Int) : (undoOut r x out).length ≤ out.length + 1 := by
  unfold undoOut
  split
  · simp
  · omega
theorem undo_same (l : List S43) (all : Bool) (hn : l.length ≤ 9223372036854775807) : ∀ (d K1 K2 : Nat) (x : Int) (out asked : List Int) (birth : Int) (must : Bool), asked.length + d = 4096 → d + l.length + 5 ≤ K1 → 3 * d + l.length + 5 ≤ K2 → 0 < x → out.length ≤ asked.length →
    ∃ r, undoL l all K1 x out must birth asked = some r ∧ tidemarkref12_Undo.l0 K2 l all out asked x birth must = some r ∧ r.1.length ≤ 4096 ∧ r.2.2.length ≤ 4096 := by
  intro d
  induction d with
  | zero =>
    intro K1 K2 x out asked birth must ha hK1 hK2 hx ho
    obtain ⟨K1, rfl⟩ : ∃ m, K1 = m + 1 := ⟨K1 - 1, by omega⟩
    obtain ⟨K2, rfl⟩ : ∃ m, K2 = m + 1 := ⟨K2 - 1, by omega⟩
    refine ⟨([], 120, asked), ?_, ?_, by simp, by show asked.length ≤ 4096; omega⟩
    · simp only [undoL]
      have : atF l all birth asked x = ((z41, 120), birth, asked) := by unfold atF; rw [if_pos (by omega)]
      rw [this, if_pos (show (120 : Int) ≠ 0 by decide)]
    · simp only [tidemarkref12_Undo.l0]
      rw [if_pos hx, if_pos (by omega)]
  | succ d ih =>
    intro K1 K2 x out asked birth must ha hK1 hK2 hx ho
    obtain ⟨K1, rfl⟩ : ∃ m, K1 = m + 1 := ⟨K1 - 1, by omega⟩
    obtain ⟨K2, rfl⟩ : ∃ m, K2 = m + 1 := ⟨K2 - 1, by omega⟩
    have hne : asked.length ≠ 4096 := by omega
    have hat := atF_is l all birth asked x hne
    have hfirst : (((asked ++ [x]).length : Int) == 1) = decide (asked.length = 0) := by
      by_cases h : asked.length = 0
      · rw [decide_eq_true h]; simp; omega
      · rw [decide_eq_false h]; simp; omega
    simp only [tidemarkref12_Undo.l0]
    rw [if_pos hx, if_neg (by omega), if_pos (by omega)]
    simp only [Option.bind_some]
    rw [read_any l x all hn K2 (by omega)]
    simp only [Option.bind_some, tup]
    by_cases he : (rec12 l all x).2 = 0
    · rw [if_neg (fun h => h he)] at hat
      rw [if_pos he, chained_is _ _ _ _ K2 (by omega), hfirst]
      simp only [Option.bind_some, decide_eq_true_eq]
      generalize (rec12 l all x).1 = r at hat
      generalize (if r.f0 = 1 then x else r.f1) = b at hat
      generalize (if asked.length = 0 then b else birth) = bi at hat
      by_cases hh : hang r x b bi = 0
      · rw [if_neg (fun h => h hh)] at hat
        rw [if_pos hh]
        have hB : ∀ R, undoS r x bi out (asked ++ [x]) must (fun tt o m => undoL l all K1 tt o m bi (asked ++ [x])) = some R → undoL l all (K1 + 1) x out must birth asked = some R := by
          intro R hR
          simp only [undoL]
          rw [hat]
          simp only [ne_eq, not_true_eq_false, if_false]
          exact hR
        have hJ : (if must = true then tidemarkref12_Undo.j1 K2 l all out (asked ++ [x]) x bi (r.f0 != 2) r.f0 r.f1 r.f2 r.f3 r.f4 r.f5 r.f6 r.f7 r.f8 r.f9 r.f10 else tidemarkref12_Undo.j1 K2 l all out (asked ++ [x]) x bi false r.f0 r.f1 r.f2 r.f3 r.f4 r.f5 r.f6 r.f7 r.f8 r.f9 r.f10) = undoS r x bi out (asked ++ [x]) must (fun tt o m => tidemarkref12_Undo.l0 (K2 - 2) l all o (asked ++ [x]) tt bi m) := by
          cases must with
          | true => rw [if_pos rfl]; exact undo_j1 l all r x bi out _ true K2 (by omega) (by omega) _ (by simp)
          | false => rw [if_neg (by simp)]; exact undo_j1 l all r x bi out _ false K2 (by omega) (by omega) _ (by simp)
        rw [hJ]
        have hend : ∀ (p : List Int × Int × List Int), p.1.length ≤ 4096 → p.2.2.length ≤ 4096 → undoS r x bi out (asked ++ [x]) must (fun tt o m => undoL l all K1 tt o m bi (asked ++ [x])) = some p → undoS r x bi out (asked ++ [x]) must (fun tt o m => tidemarkref12_Undo.l0 (K2 - 2) l all o (asked ++ [x]) tt bi m) = some p →
            ∃ R, undoL l all (K1 + 1) x out must birth asked = some R ∧ undoS r x bi out (asked ++ [x]) must (fun tt o m => tidemarkref12_Undo.l0 (K2 - 2) l all o (asked ++ [x]) tt bi m) = some R ∧ R.1.length ≤ 4096 ∧ R.2.2.length ≤ 4096 := fun p l1 l2 e1 e2 => ⟨p, hB p e1, e2, l1, l2⟩
        by_cases c1 : must = true ∧ r.f0 ≠ 2
        · exact hend ([], 120, asked ++ [x]) (by simp) (by simp; omega) (by unfold undoS; rw [if_pos c1]) (by unfold undoS; rw [if_pos c1])
        · by_cases c2 : r.f0 = 1
          · exact hend (out, 0, asked ++ [x]) (by show out.length ≤ 4096; omega) (by simp; omega) (by unfold undoS; rw [if_neg c1, if_pos c2]) (by unfold undoS; rw [if_neg c1, if_pos c2])
          · have hpos := hang_pos hh c2
            by_cases c3 : r.f0 = 3
            · by_cases c8 : r.f8 = 0
              · exact hend (out, 0, asked ++ [x]) (by show out.length ≤ 4096; omega) (by simp; omega) (by unfold undoS; rw [if_neg c1, if_neg c2, if_pos c3, if_pos c8]) (by unfold undoS; rw [if_neg c1, if_neg c2, if_pos c3, if_pos c8])
              · by_cases c4 : bi ≤ r.f8 ∧ r.f8 < x
                · obtain ⟨R, e1, e2, l1, l2⟩ := ih K1 (K2 - 2) r.f8 out (asked ++ [x]) bi true (by simp; omega) (by omega) (by omega) (by omega) (by simp; omega)
                  exact hend R l1 l2 (by unfold undoS; rw [if_neg c1, if_neg c2, if_pos c3, if_neg c8, if_pos c4]; exact e1) (by unfold undoS; rw [if_neg c1, if_neg c2, if_pos c3, if_neg c8, if_pos c4]; exact e2)
                · exact hend ([], 120, asked ++ [x]) (by simp) (by simp; omega) (by unfold undoS; rw [if_neg c1, if_neg c2, if_pos c3, if_neg c8, if_neg c4]) (by unfold undoS; rw [if_neg c1, if_neg c2, if_pos c3, if_neg c8, if_neg c4])
            · by_cases c4 : bi ≤ r.f2 ∧ r.f2 < x
              · have hl := undoOut_len r x out
                obtain ⟨R, e1, e2, l1, l2⟩ := ih K1 (K2 - 2) r.f2 (undoOut r x out) (asked ++ [x]) bi false (by simp; omega) (by omega) (by omega) (by omega) (by simp; omega)
                exact hend R l1 l2 (by unfold undoS; rw [if_neg c1, if_neg c2, if_neg c3, if_pos c4]; exact e1) (by unfold undoS; rw [if_neg c1, if_neg c2, if_neg c3, if_pos c4]; exact e2)
              · exact hend ([], 120, asked ++ [x]) (by simp) (by simp; omega) (by unfold undoS; rw [if_neg c1, if_neg c2, if_neg c3, if_neg c4]) (by unfold undoS; rw [if_neg c1, if_neg c2, if_neg c3, if_neg c4])
      · rw [if_pos hh] at hat
        have h120 := (hang_or r x b bi).resolve_left hh
        rw [if_neg hh, h120]
        refine ⟨_, ?_, rfl, by simp, by simp; omega⟩
        simp only [undoL]
        rw [hat]
        rfl
    · rw [if_pos he] at hat
      rw [if_neg he]
      refine ⟨_, ?_, rfl, by simp, by simp; omega⟩
      simp only [undoL]
      rw [hat, if_pos he]
theorem undo_is (l : List S43) (all : Bool) (hn : l.length ≤ 9223372036854775807) (next : Int) (K : Nat) (hK : 12288 + l.length + 5 ≤ K) : ∃ r, undoF K l all next = some r ∧ tidemarkref12_Undo.f K l all next = some r ∧ r.1.length ≤ 4096 ∧ r.2.2.length ≤ 4096 := by
  unfold undoF tidemarkref12_Undo.f
  by_cases h0 : next < 0
  · exact ⟨_, by rw [if_pos (by omega), if_pos h0], by rw [if_pos h0], by simp, by simp⟩
  · by_cases h1 : next ≤ 0
    · refine ⟨([], 0, []), by rw [if_pos h1, if_neg h0], ?_, by simp, by simp⟩
      rw [if_neg h0]
      obtain ⟨K, rfl⟩ : ∃ m, K = m + 1 := ⟨K - 1, by omega⟩
      simp only [tidemarkref12_Undo.l0]
      rw [if_neg (by omega)]
    · rw [if_neg h1, if_neg h0]
      exact undo_same l all hn 4096 K K next [] [] 0 true (by simp) (by omega) (by omega) (by omega) (by simp)
theorem ChainUndos (l : List S43) (all : Bool) (next : Int) (hn : l.length ≤ 9223372036854775807) : tidemarklaw12_ChainUndos.f (12288 + l.length + 30) l all next = some true := by
  obtain ⟨r, h1, h2, l1, l2⟩ := undo_is l all hn next (12288 + l.length + 30) (by omega)
  unfold tidemarklaw12_ChainUndos.f
  have ha : tidemarklaw12_asking.f (12288 + l.length + 30) l all true next = some r := by
    unfold tidemarklaw12_asking.f
    rw [if_pos rfl]
    exact h1
  rw [ha, h2]
  simp only [Option.bind_some]
  have hk : tidemarklaw12_known.f (12288 + l.length + 30) = some true := by
    have := known_is (12288 + l.length + 10)
    rwa [show 20 + (12288 + l.length + 10) = 12288 + l.length + 30 by omega] at this
  rw [hk, same_is r.1 (by omega) _ (by omega), same_is r.2.2 (by omega) _ (by omega)]
  simp
end Go.Proofs.Ytijlcahikeeigaa.Pure
