-- Laid by a program of this session out of Lean's own print of the program; hand-made contracts are pasted in. Lean checks it.
import Derived.Test.YtolnhhafjojjeaaQAx0
namespace Go.Proofs.Ytolnhhafjojjeaa.QA
open Go.RowKit Go.Proofs.YtolnhhafjojjeaaW.PrintWords Go.Proofs.YtolnhhafjojjeaaW.PrintLast Go.Proofs.YtolnhhafjojjeaaW.PrintMore
attribute [local go_sem] max2_int min2_int max_two min_two max_three min_three max_four min_four   -- for this text's walks alone
set_option linter.unusedVariables false
set_option linter.unusedSimpArgs false

/-! ### image_Lay: function 16 -/

section
variable {P : Program} {ops : Array Oper} {rest : List Oper} {o : Oper} {a : Act} {Q : Exit → Act → World → Prop} {α : Type}
/-- copy(v[f:], ys), v a row of scalars of one's own. -/
theorem R_copy_at {enc : α → Value} {h1 : ∀ x, (enc x).oneCell' = true} (d : α) {w0 W : World} (base : Nat) (hgd : o.guard = none) (s x : Operand) (t t' e : TypeId)
    (ho : o.op = .call { callee := .builtin .copy, args := #[s, x], argTypes := #[t, t'] }) (ht : P.underlying t = some (.slice e)) (hinfo : (P.info? e).map (·.size) = some 1)
    (A : Option Addr) (cap f : Nat) (xs ys : List α) (B : Option Addr) (m c : Nat) (ok : Nat → Prop) (hs : a.eval s = .slice (if cap = f then A else A.map (fun x => x.add f)) (xs.length - f) (cap - f)) (hx : a.eval x = .slice B m c)
    (HO : (Kd.scalar enc h1).R e W base ok (.slice A xs.length cap) xs) (HR : (Kd.scalar enc h1).C W B m ys) (HB : Below base w0 W) (hbase : base ≤ W.heap.size) (hf : f + m ≤ xs.length)
    (h : ∀ w1 v1, (Kd.scalar enc h1).R e w1 base ok (.slice A xs.length cap) (xs.take f ++ ys ++ xs.drop (f + m)) → Below base w0 w1 → wpList P ops Q rest (a.put o.dst v1) w1) :
    wpList P ops Q (o :: rest) a W := by
  have hR := Kd.reads_of_C (enc := enc) (d := d) (h1 := h1) HR
  have hm : ys.length = m := hR.1
  have hown := Kd.own_of_R HO
  have hmin : Nat.min m (xs.length - f) = m := Nat.min_eq_left (by omega)
  have fin : ∀ w1 n, (Builtin.copy_ #[t, t'] o.type #[.slice (if cap = f then A else A.map (fun x => x.add f)) (xs.length - f) (cap - f), .slice B m c]).run P W = .ok (goInt n) w1 → (Kd.scalar enc h1).R e w1 base ok (.slice A xs.length cap) (xs.take f ++ ys ++ xs.drop (f + m)) → W.grownBy w1 (Value.slice A xs.length cap).ownBlock → wpList P ops Q (o :: rest) a W := by
    intro w1 n hr hrow hg
    refine wpList_plain hgd fun K hK => ?_
    unfold Oper.wp execOp
    simp only [ho, resolve, invoke, builtin, Sem.run_bind, Sem.run_pure, Result.andThen_ok, List.map_toArray, List.map_cons, List.map_nil, hs, hx, hr]
    exact hK _ _ (h w1 _ hrow (HB.grown hg hbase (own_base hown)))
  rcases Nat.eq_zero_or_pos m with h0 | hp
  · have hy : ys = [] := List.eq_nil_of_length_eq_zero (by omega)
    refine fin W _ (run_copy_none W t t' o.type e _ B _ _ m c ht hinfo (by rw [hmin]; exact h0)) ?_ (World.grownBy.refl W _)
    rw [hy, h0, List.append_nil, Nat.add_zero, List.take_append_drop]
    exact HO
  · obtain ⟨ad, hA, hc⟩ := hR.2.2 (by omega)
    rcases hown.2 with ⟨_, hx0⟩ | ⟨g, cap', cur, hv, hb, hh, hnc, hcm, hcs, htake⟩
    · omega
    injection hv with hvA _ hvc
    subst hvA; subst hvc
    have hcs1 : cur.size = cap := by omega
    have hne : ¬ cap = f := by omega
    have hadd : (⟨g, 0, none⟩ : Addr).add f = ⟨g, f, none⟩ := add_plain g f
    have hsrc : ∀ j u, (encs enc ys)[j]? = some u → W.cell? (ad.add j) = some u := by
      intro j u hu
      have hj : j < ys.length := by
        rcases Nat.lt_or_ge j ys.length with h | h
        · exact h
        · rw [List.getElem?_eq_none (by rw [encs_length]; exact h)] at hu
          cases hu
      rw [encs_get (d := d) _ j hj] at hu
      rw [hc j (by omega), ← hu]
    have hkl : (encs enc ys).length = m := by rw [encs_length, hm]
    have hr := run_copy_cells (P := P) W t t' o.type e g f (xs.length - f) (cap - f) ad m c (encs enc ys) ht hinfo (by rw [hkl, hmin]) hsrc
      (fun j hj => by rw [cell_of_row W g _ cur e (0, 0) hh]; simp; omega) (fun j _ => blk_frozen hh _) (by intro u hu; simp only [encs, List.mem_map] at hu; obtain ⟨q, _, rfl⟩ := hu; exact h1 q)
    obtain ⟨cur', h3, h4, h5⟩ := setCells_row (encs enc ys) f W cur hh (by rw [hkl]; omega)
    obtain ⟨s1, s2, s3, s4⟩ := setCells_same g (encs enc ys) f W
    rw [hA] at fin
    have hrun : (Builtin.copy_ #[t, t'] o.type #[.slice (if cap = f then some ⟨g, 0, none⟩ else (some ⟨g, 0, none⟩ : Option Addr).map (fun x => x.add f)) (xs.length - f) (cap - f), .slice (some ad) m c]).run P W = .ok (goInt (encs enc ys).length) (W.setCells g f (encs enc ys)) := by
      rw [if_neg hne, Option.map_some, hadd]
      exact hr
    have hln : (xs.take f ++ ys ++ xs.drop (f + m)).length = xs.length := by
      simp only [List.length_append, List.length_take, List.length_drop]
      omega
    refine fin _ _ hrun ?_ ⟨s1, s2, s3, by rw [s4]; exact Nat.le_refl _, fun k _ hk => setCells_far _ _ k (fun he => hk (by rw [he]; simp [Value.ownBlock]))⟩
    have hgoal : (W.setCells g f (encs enc ys)).ownsRow base e 1 (.slice (some ⟨g, 0, none⟩) (xs.take f ++ ys ++ xs.drop (f + m)).length cap) (xs.take f ++ ys ++ xs.drop (f + m)).length (encs enc (xs.take f ++ ys ++ xs.drop (f + m))) := by
      rw [hln]
      refine ⟨by rw [encs_length, hln, Nat.mul_one], .inr ⟨g, cap, cur', rfl, hb, h3, hnc, hcm, by rw [h4, hcs], ?_⟩⟩
      have htk : cur.toList.take xs.length = encs enc xs := by rw [← htake, Nat.mul_one]
      have e1 : cur.toList = encs enc xs ++ cur.toList.drop xs.length := by rw [← htk, List.take_append_drop]
      have hxl : (encs enc xs).length = xs.length := encs_length xs
      rw [h5, hkl, Nat.mul_one, e1]
      have t1 : (encs enc xs ++ cur.toList.drop xs.length).take f = encs enc (xs.take f) := by
        rw [List.take_append_of_le_length (by rw [hxl]; omega)]; simp [encs, List.map_take]
      have t2 : (encs enc xs ++ cur.toList.drop xs.length).drop (f + m) = encs enc (xs.drop (f + m)) ++ cur.toList.drop xs.length := by
        rw [List.drop_append_of_le_length (by rw [hxl]; omega)]; simp [encs, List.map_drop]
      rw [t1, t2, ← List.append_assoc, ← encs_append, ← encs_append, List.take_append_of_le_length (by rw [encs_length, hln]; exact Nat.le_refl _)]
      exact List.take_of_length_le (by rw [encs_length, hln]; exact Nat.le_refl _)
    have := Kd.R_of_own (h1 := h1) (ok := ok) hgoal (fun k hk => HO.1 k (by simpa [Value.ownBlock] using hk))
    rwa [hln] at this
end
theorem size5' : (Try.prog.info? 5).map (·.size) = some 1 := by kernel_rfl
theorem lay_first (l0 : List Int) : l0.take (min l0.length (List.replicate ((l0.length : Int)).toNat (0 : Int)).length) ++ (List.replicate ((l0.length : Int)).toNat (0 : Int)).drop (min l0.length (List.replicate ((l0.length : Int)).toNat (0 : Int)).length) = l0 := by
  have e1 : (List.replicate ((l0.length : Int)).toNat (0 : Int)).drop (min l0.length (List.replicate ((l0.length : Int)).toNat (0 : Int)).length) = [] :=
    List.drop_eq_nil_of_le (by rw [List.length_replicate]; omega)
  rw [e1, List.append_nil]
  exact List.take_of_length_le (by rw [List.length_replicate]; omega)
def image_Lay.f (l0 : List Int) (a1 : Int) (l2 : List Int) : Option (List Int × Int) := if a1 < 0 ∨ l0.length < l2.length ∨ (l0.length : Int) - (l2.length : Int) < a1 then some ([], 30) else if l0.length ≤ 281474976710656 then some (l0.take a1.toNat ++ l2 ++ l0.drop (a1.toNat + l2.length), 0) else none
set_option maxHeartbeats 800000 in
set_option maxRecDepth 100000 in
theorem image_Lay.calls (A0 : Option Addr) (c0 : Nat) (l0 : List Int) (a1 : Int) (A2 : Option Addr) (c2 : Nat) (l2 : List Int) (r1 : List Int) (r2 : Int) (w : World) (hr0 : Kd.C (Kd.int .u8) w A0 l0.length l0) (hc0 : l0.length ≤ c0) (hr2 : Kd.C (Kd.int .u8) w A2 l2.length l2) (hc2 : l2.length ≤ c2) (h : image_Lay.f l0 a1 l2 = some (r1, r2)) :
    Calls Try.prog 16 #[.slice A0 l0.length c0, .int .i64 a1, .slice A2 l2.length c2] w fun e w' => ∃ v0_ : Value, e = .returned (.tuple #[v0_, .int .i64 r2]) ∧ Kd.R (Kd.int .u8) 5 w' w.heap.size (fun _ => True) v0_ r1 ∧ Below w.heap.size w w' := by
  have m0 := Kd.C_max hr0
  have m2 := Kd.C_max hr2
  by_cases hbad : a1 < 0 ∨ l0.length < l2.length ∨ (l0.length : Int) - (l2.length : Int) < a1
  · have hh : some (([] : List Int), (30 : Int)) = some (r1, r2) := by rw [← h]; unfold image_Lay.f; rw [if_pos hbad]
    simp only [Option.some.injEq, Prod.mk.injEq] at hh
    obtain ⟨rfl, rfl⟩ := hh
    clear h
    have hnil := Kd.R_nil (Kd.int .u8) 5 w w.heap.size (fun _ => True)
    have hB := Below.refl w.heap.size w
    by_cases h1 : a1 < 0
    · clear hbad
      go_enter Try.func16, Try.ntmps16
      go_wp2
      go_ret2
      exact ⟨_, rfl, hnil, hB⟩
    · by_cases h2 : l0.length < l2.length
      · clear hbad
        have h1 : 0 ≤ a1 := by omega
        go_enter Try.func16, Try.ntmps16
        go_wp2
        go_ret2
        exact ⟨_, rfl, hnil, hB⟩
      · have h3 : (l0.length : Int) - (l2.length : Int) < a1 := by omega
        have h1 : 0 ≤ a1 := by omega
        have h2 : l2.length ≤ l0.length := by omega
        clear hbad
        go_enter Try.func16, Try.ntmps16
        go_wp2
        go_ret2
        exact ⟨_, rfl, hnil, hB⟩
  · unfold image_Lay.f at h
    rw [if_neg hbad] at h
    by_cases hs : l0.length ≤ 281474976710656
    · rw [if_pos hs] at h
      simp only [Option.some.injEq, Prod.mk.injEq] at h
      obtain ⟨h, rfl⟩ := h
      have Hr := Aside0.mk h
      clear h
      have h1 : 0 ≤ a1 := by omega
      have h2 : l2.length ≤ l0.length := by omega
      have h3 : a1 ≤ (l0.length : Int) - (l2.length : Int) := by omega
      have h4 : a1.toNat + l2.length ≤ l0.length := by omega
      have h5 : a1 ≤ (l0.length : Int) := by omega
      clear hbad
      obtain ⟨i0, hi0, hzz⟩ := Option.map_eq_some_iff.1 info5
      have hsz0 : i0.size = 1 := (Prod.mk.inj (Prod.mk.inj hzz).2).1
      clear hzz
      have hcut := fun (A : Option Addr) (c : Nat) => cut_from (P := Try.prog) 22 5 .i64 Try.underlying22 hi0 1 hsz0 A l0.length c a1 h1 h5
      have HR := Aside0.mk hr0
      have HR2 := Aside0.mk hr2
      clear hr0 hr2
      clear hi0 hsz0
      have hmk0 : 0 ≤ (l0.length : Int) := by omega
      have hmk1 : ((l0.length : Int)).toNat * 1 ≤ 281474976710656 := by omega
      go_enter Try.func16, Try.ntmps16
      go_wp2_with (first
        | ((with_reducible refine gate_dst (N := 29) rfl ?_); refine Kd.R_make (Kd.int .u8) _ 5 rfl (N := 29) rfl 22 _ _ rfl (l0.length : Int) rfl rfl Try.underlying22 (.int .u8 0) 1 info5 rfl (by decide) (by omega) 0 (ok := fun _ => True) (okp := fun _ => True) rfl (fun _ hk => hk) trivial hmk0 hmk1 (Below.refl _ _) (Nat.le_refl _) ?_; intro v102 w5 ho6 hb hg_ hnew_; have HO := Aside0.mk ho6; have HB5 := Aside0.mk hb; clear ho6 hb hg_ hnew_ hmk0 hmk1)
        | ((with_reducible refine gate_dst (N := 32) rfl ?_); refine Kd.R_copy (enc := Value.int .u8) (h1 := fun _ => rfl) (0 : Int) w.heap.size rfl (.tmp 30) (.tmp 31) 22 22 5 rfl Try.underlying22 size5' v102 (List.replicate ((l0.length : Int)).toNat 0) l0 A0 l0.length c0 (fun _ => True) rfl rfl HO.out (Kd.C_below HR.out HB5.out) HB5.out HB5.out.size ?_; intro w6 ho6 hb hg_; rw [lay_first l0] at ho6; obtain ⟨A1, c1, hv102⟩ := Kd.R_slice ho6; subst hv102; have HO6 := Aside0.mk ho6; have HB6 := Aside0.mk hb; clear ho6 hb hg_)
        | ((with_reducible refine gate_dst (N := 37) rfl ?_); refine R_copy_at (enc := Value.int .u8) (h1 := fun _ => rfl) (0 : Int) w.heap.size rfl (.tmp 35) (.tmp 36) 22 22 5 rfl Try.underlying22 size5' A1 c1 a1.toNat l0 l2 A2 l2.length c2 (fun _ => True) (by first | rfl | (simp; done)) rfl HO6.out (Kd.C_below HR2.out HB6.out) HB6.out HB6.out.size h4 ?_; intro w7 v7 ho7 hb; have HO7 := Aside0.mk ho7; have HB7 := Aside0.mk hb; clear ho7 hb))
      all_goals
        go_ret2
        refine ⟨_, rfl, ?_, HB7.out⟩
        have h6 := HO7.out
        rw [Hr.out] at h6
        first
          | exact h6
          | (have hc1 : c1 = a1.toNat := by assumption
             rw [hc1] at h6
             exact h6)
    · rw [if_neg hs] at h; cases h


end Go.Proofs.Ytolnhhafjojjeaa.QA
