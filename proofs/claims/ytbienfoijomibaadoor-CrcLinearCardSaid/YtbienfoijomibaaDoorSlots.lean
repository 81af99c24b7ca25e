/- A region that draws its order, by a claim on each slot: whichever order is drawn, each operation finds the claims of the slots that it reads, and makes its own slot's. No tree of orders. -/
import Derived.OrdersHeld
import Derived.Below
import Derived.KernelRfl
namespace Go.Slots
open Go.RowKit
section
variable {P : Program} {ops : Array Oper} {Q : Exit → Act → World → Prop} {md : Region.Mode}
theorem count_set : ∀ (l : List Bool) (i : Nat), l[i]? = some false → (l.set i true).count false + 1 = l.count false
  | [], i, h => by simp at h
  | x :: l, 0, h => by simp at h; subst h; simp
  | x :: l, i + 1, h => by
    have := count_set l i (by simpa using h)
    simp only [List.set_cons_succ, List.count_cons]
    omega
theorem get_false {l : Array Bool} {i : Nat} (h : l.getD i true = false) : l.toList[i]? = some false := by
  rcases Nat.lt_or_ge i l.size with hl | hl
  · simp [hl] at h ⊢; exact h
  · simp [Array.getElem?_eq_none hl, Array.getD_eq_getD_getElem?] at h
/-- An invariant that each step keeps holds at the end, whatever order is drawn. -/
theorem wpAny_inv (I : Array Bool → Act → World → Prop) (fin : ∀ l a w, I l a w → Region.ready md ops l = [] → Q .normal a w)
    (step : ∀ l a w i, I l a w → i ∈ Region.ready md ops l → wpOp P ops Q i (I (l.setIfInBounds i true)) a w) :
    ∀ (fuel : Nat) (l : Array Bool) (a : Act) (w : World), I l a w → l.toList.count false ≤ fuel → wpAny P md ops Q fuel l a w := by
  intro fuel
  induction fuel with
  | zero =>
    intro l a w h hc
    have hr : Region.ready md ops l = [] := by
      refine List.eq_nil_iff_forall_not_mem.2 fun j hj => ?_
      have h1 := get_false (mem_ready.1 hj).1
      have h2 : false ∈ l.toList := List.mem_of_getElem? h1
      have := List.count_pos_iff.2 h2
      omega
    exact ⟨hr, fin l a w h hr⟩
  | succ fuel ih =>
    intro l a w h hc
    refine ⟨fun hr => fin l a w h hr, fun i hi => ?_⟩
    refine wpOp_mono (fun a' w' h' => ih _ a' w' h' ?_) (step l a w i h hi)
    have := count_set l.toList i (get_false (mem_ready.1 hi).1)
    rw [Array.toList_setIfInBounds]
    omega
/-- Does the operation read the slot behind the one that writes it? -/
def isNew (ops : Array Oper) (o : Oper) (s : Tmp) : Bool := o.after.any fun e => Region.binds .any e && (match ops[e.on]? with | some p => p.dst == some s | none => false)
def slotB (ops : Array Oper) (i : Nat) (o : Oper) (s : Tmp) : Bool := (List.range ops.size).all fun j => match ops[j]? with
  | none => true
  | some p => p.dst != some s || (o.after.any fun e => Region.binds .any e && e.on == j) || (p.after.any fun e => Region.binds .any e && e.on == i)
def operB (ops : Array Oper) (n i : Nat) : Bool := match ops[i]? with
  | none => true
  | some o => (o.after.all fun e => Nat.blt e.on i) && (match o.dst with | some d => Nat.blt d n | none => false) &&
    ((List.range ops.size).all fun j => j == i || (match ops[j]? with | some p => p.dst != o.dst | none => true)) && ((o.looksAt ops).all fun s => slotB ops i o s) &&
    (match o.op with | .select _ _ => false | _ => true)
def depsB (ops : Array Oper) (n : Nat) : Bool := (List.range ops.size).all fun i => operB ops n i
structure Deps (ops : Array Oper) (n : Nat) : Prop where
  back : ∀ (i : Nat) (o : Oper), ops[i]? = some o → ∀ e ∈ o.after, e.on < i
  dst : ∀ (i : Nat) (o : Oper), ops[i]? = some o → ∃ d, o.dst = some d ∧ d < n
  uniq : ∀ (i j : Nat) (o p : Oper), ops[i]? = some o → ops[j]? = some p → j ≠ i → p.dst ≠ o.dst
  reads : ∀ (i : Nat) (o : Oper), ops[i]? = some o → ∀ s ∈ o.looksAt ops, ∀ (j : Nat) (p : Oper), ops[j]? = some p → p.dst = some s →
    (∃ e ∈ o.after, Region.binds .any e = true ∧ e.on = j) ∨ (∃ e ∈ p.after, Region.binds .any e = true ∧ e.on = i)
theorem lt_of_some {i : Nat} {o : Oper} (h : ops[i]? = some o) : i < ops.size := (Array.getElem?_eq_some_iff.1 h).1
theorem deps_of {n : Nat} (h : depsB ops n = true) : Deps ops n := by
  have key : ∀ (i : Nat) (o : Oper), ops[i]? = some o → operB ops n i = true := fun i o hi => List.all_eq_true.1 h i (List.mem_range.2 (lt_of_some hi))
  have parts : ∀ (i : Nat) (o : Oper), ops[i]? = some o → (o.after.all fun e => Nat.blt e.on i) = true ∧ (match o.dst with | some d => Nat.blt d n | none => false) = true ∧
      ((List.range ops.size).all fun j => j == i || (match ops[j]? with | some p => p.dst != o.dst | none => true)) = true ∧ ((o.looksAt ops).all fun s => slotB ops i o s) = true := by
    intro i o hi
    have := key i o hi
    unfold operB at this
    rw [hi] at this
    simp only [Bool.and_eq_true] at this
    exact ⟨this.1.1.1.1, this.1.1.1.2, this.1.1.2, this.1.2⟩
  refine ⟨fun i o hi e he => ?_, fun i o hi => ?_, fun i j o p hi hj hne => ?_, fun i o hi s hs j p hj hp => ?_⟩
  · have := Array.all_eq_true_iff_forall_mem.1 (parts i o hi).1 e he
    exact (by simpa using this)
  · have := (parts i o hi).2.1
    cases hd : o.dst with
    | none => rw [hd] at this; cases this
    | some d => rw [hd] at this; exact ⟨d, rfl, (by simpa using this)⟩
  · have := List.all_eq_true.1 (parts i o hi).2.2.1 j (List.mem_range.2 (lt_of_some hj))
    rw [hj] at this
    simpa [hne] using this
  · have h1 := List.all_eq_true.1 (parts i o hi).2.2.2 s hs
    have h2 := List.all_eq_true.1 h1 j (List.mem_range.2 (lt_of_some hj))
    rw [hj] at h2
    simp only [Bool.or_eq_true, Bool.and_eq_true, beq_iff_eq, bne_iff_ne, ne_eq, Array.any_eq_true'] at h2
    rcases h2 with (h2 | ⟨e, he, hb, hq⟩) | ⟨e, he, hb, hq⟩
    · exact absurd hp h2
    · exact .inl ⟨e, he, hb, hq⟩
    · exact .inr ⟨e, he, hb, hq⟩
theorem all_listed {n : Nat} (hd : Deps ops n) {l : Array Bool} (hs : l.size = ops.size) (hr : Region.ready md ops l = []) : ∀ i, i < ops.size → l.getD i false = true := by
  intro i
  induction i using Nat.strongRecOn with
  | _ i ih =>
    intro hi
    cases hl : l.getD i true with
    | true =>
      have : i < l.size := by omega
      simp [this] at hl ⊢; exact hl
    | false =>
      have ho : ops[i]? = some ops[i] := Array.getElem?_eq_getElem hi
      have : i ∈ Region.ready md ops l := mem_ready.2 ⟨hl, ops[i], ho, fun e he _ => ih e.on (hd.back i _ ho e he) (by have := hd.back i _ ho e he; omega)⟩
      rw [hr] at this
      cases this
/-- What an operation's slot bears. -/
def slotOf (T : Tmp → Value → World → Prop) (o : Oper) (v : Value) (w : World) : Prop := match o.dst with
  | some d => T d v w
  | none => True
/-- What is to be shown of an operation. -/
def StepOk (P : Program) (ops : Array Oper) (Q : Exit → Act → World → Prop) (tmps : Array Value) (defers : List Deferred) (T : Tmp → Value → World → Prop) (G : World → Prop) (o : Oper) : Prop :=
  ∀ (b : Act) (w : World), b.tmps.size = tmps.size → b.defers = defers → G w →
    (∀ s, (o.looksAt ops).contains s = true → isNew ops o s = true → T s (b.eval (.tmp s)) w) →
    (∀ s, (o.looksAt ops).contains s = true → isNew ops o s = false → b.eval (.tmp s) = tmps.getD s undef) →
    ∀ (K : Act → World → Prop), (∀ v w', slotOf T o v w' → Below w.heap.size w w' → G w' → K (b.put o.dst v) w') →
      if Region.wanted o (yielded ops b.tmps) = true then Oper.wp P o b w K Q else K (b.put o.dst undef) w
def AllOk (S : Oper → Prop) : List Oper → Prop
  | [] => True
  | o :: l => S o ∧ AllOk S l
theorem AllOk.get {S : Oper → Prop} : ∀ {l : List Oper} {i : Nat} {o : Oper}, AllOk S l → l[i]? = some o → S o
  | [], i, o, _, h => by simp at h
  | x :: l, 0, o, hs, h => by simp at h; subst h; exact hs.1
  | x :: l, i + 1, o, hs, h => AllOk.get (l := l) hs.2 (by simpa using h)
def isDst (ops : Array Oper) (s : Tmp) : Bool := ops.any fun o => o.dst == some s
/-- The frame behind the region: what was, but for the slots that are written. -/
def frame (ops : Array Oper) (tmps : Array Value) (u : Tmp → Value) : List Value := (List.range tmps.size).map fun s => bif isDst ops s then u s else tmps.getD s undef
theorem eval_put_eq {b : Act} {d : Tmp} (v : Value) (h : d < b.tmps.size) : (b.put (some d) v).eval (.tmp d) = v := by
  simp [Act.put, Act.eval, h]
theorem eval_put_ne {b : Act} {d s : Tmp} (v : Value) (h : d ≠ s) : (b.put (some d) v).eval (.tmp s) = b.eval (.tmp s) := by
  simp [Act.put, Act.eval, Array.getD_eq_getD_getElem?, Array.getElem?_setIfInBounds_ne h]
theorem size_put {b : Act} {d : Option Tmp} (v : Value) : (b.put d v).tmps.size = b.tmps.size := by
  cases d <;> simp [Act.put]
theorem defers_put {b : Act} {d : Option Tmp} (v : Value) : (b.put d v).defers = b.defers := by cases d <;> rfl
theorem isDst_of {i : Nat} {o : Oper} {d : Tmp} (hi : ops[i]? = some o) (hd : o.dst = some d) : isDst ops d = true := by
  unfold isDst
  rw [Array.any_eq_true']
  exact ⟨o, Array.mem_of_getElem? hi, by simp [hd]⟩
theorem frame_is {tmps : Array Value} {b : Act} (hn : b.tmps.size = tmps.size) (hkeep : ∀ s, isDst ops s = false → b.eval (.tmp s) = tmps.getD s undef) :
    b = ⟨(frame ops tmps fun s => b.eval (.tmp s)).toArray, b.defers⟩ := by
  obtain ⟨t, df⟩ := b
  congr 1
  apply Array.ext
  · simp [frame]; exact hn
  · intro i h1 h2
    simp only [frame, List.getElem_toArray, List.getElem_map, List.getElem_range]
    cases hd : isDst ops i with
    | false =>
      have := hkeep i hd
      simp only [Act.eval] at this
      simp only [cond_false]
      rw [← this]
      simp [h1]
    | true => simp [Act.eval, h1]
theorem none_listed (n j : Nat) : (Array.replicate n false).getD j false = false := by
  rcases Nat.lt_or_ge j n with h | h <;> simp [h]
theorem wp_region_slots {id : Nat} {tmps : Array Value} {defers : List Deferred} {w : World} (T : Tmp → Value → World → Prop) (G : World → Prop)
    (hm : P.follows .mixedOrders = true) (hd : depsB ops tmps.size = true) (hG : G { w with drawn := w.drawn + 1 })
    (hmono : ∀ s v w w', Below w.heap.size w w' → T s v w → T s v w')
    (step : AllOk (StepOk P ops Q tmps defers T G) ops.toList)
    (fin : ∀ (u : Tmp → Value) (w' : World), G w' → (∀ s, isDst ops s = true → T s (u s) w') → Q .normal ⟨(frame ops tmps u).toArray, defers⟩ w') :
    (Code.region id ops true).wp P Q ⟨tmps, defers⟩ w := by
  have D := deps_of hd
  refine wp_region_any hm (wpAny_inv (fun l b w => l.size = ops.size ∧ b.tmps.size = tmps.size ∧ b.defers = defers ∧ G w ∧ (∀ s, isDst ops s = false → b.eval (.tmp s) = tmps.getD s undef) ∧
    (∀ (i : Nat) (o : Oper) (d : Tmp), ops[i]? = some o → o.dst = some d → (l.getD i false = true → T d (b.eval (.tmp d)) w) ∧ (l.getD i false = false → b.eval (.tmp d) = tmps.getD d undef)) ∧
    ∀ (j : Nat) (p : Oper), ops[j]? = some p → l.getD j false = true → ∀ e ∈ p.after, Region.binds .any e = true → l.getD e.on false = true)
    ?_ ?_ _ _ _ _ ⟨by simp, rfl, rfl, hG, fun s _ => rfl, fun i o d hi _ => ⟨fun h => absurd h ?_, fun _ => rfl⟩, fun j p hj h => absurd h ?_⟩ ?_)
  · intro l b w' ⟨hs, hn, hdf, hG', hkeep, hT, _⟩ hr
    have hall := all_listed D hs hr
    rw [frame_is hn hkeep, hdf]
    refine fin _ w' hG' fun s hsd => ?_
    unfold isDst at hsd
    rw [Array.any_eq_true'] at hsd
    obtain ⟨o, hmem, ho⟩ := hsd
    obtain ⟨i, hi, hio⟩ := Array.getElem_of_mem hmem
    have hi' : ops[i]? = some o := by rw [Array.getElem?_eq_getElem hi, hio]
    exact (hT i o s hi' (by simpa using ho)).1 (hall i hi)
  · intro l b w' i ⟨hs, hn, hdf, hG', hkeep, hT, hcl⟩ hi
    obtain ⟨hun, o, ho, hdeps⟩ := mem_ready.1 hi
    have hil : i < l.size := by rw [hs]; exact lt_of_some ho
    have hun' : l.getD i false = false := by simp [hil] at hun ⊢; exact hun
    obtain ⟨d, hod, hdn⟩ := D.dst i o ho
    have hstep := AllOk.get (i := i) step (by simpa using ho) b w' hn hdf hG' (fun s hs1 hs2 => ?_) (fun s hs1 hs2 => ?_) (fun b' w'' => (l.setIfInBounds i true).size = ops.size ∧ b'.tmps.size = tmps.size ∧ b'.defers = defers ∧ G w'' ∧ (∀ s, isDst ops s = false → b'.eval (.tmp s) = tmps.getD s undef) ∧
      (∀ (j : Nat) (p : Oper) (d : Tmp), ops[j]? = some p → p.dst = some d → ((l.setIfInBounds i true).getD j false = true → T d (b'.eval (.tmp d)) w'') ∧ ((l.setIfInBounds i true).getD j false = false → b'.eval (.tmp d) = tmps.getD d undef)) ∧
      ∀ (j : Nat) (p : Oper), ops[j]? = some p → (l.setIfInBounds i true).getD j false = true → ∀ e ∈ p.after, Region.binds .any e = true → (l.setIfInBounds i true).getD e.on false = true) (fun v w'' hv hbel hG'' => ?_)
    · unfold wpOp
      simp only [ho]
      split at hstep
      · rename_i hw; simp only [hw, if_true]; exact .inl hstep
      · rename_i hw; simp only [hw]; exact hstep
    · -- a slot that is read as written
      unfold isNew at hs2
      rw [Array.any_eq_true'] at hs2
      obtain ⟨e, he, hs2⟩ := hs2
      simp only [Bool.and_eq_true] at hs2
      obtain ⟨hb, hp⟩ := hs2
      cases hop : ops[e.on]? with
      | none => rw [hop] at hp; cases hp
      | some p =>
        rw [hop] at hp
        exact (hT e.on p s hop (by simpa using hp)).1 (hdeps e he hb)
    · -- a slot that is read as it was
      cases hsd : isDst ops s with
      | false => exact hkeep s hsd
      | true =>
        unfold isDst at hsd
        rw [Array.any_eq_true'] at hsd
        obtain ⟨p, hmem, hp⟩ := hsd
        obtain ⟨j, hj, hjp⟩ := Array.getElem_of_mem hmem
        have hj' : ops[j]? = some p := by rw [Array.getElem?_eq_getElem hj, hjp]
        have hps : p.dst = some s := by simpa using hp
        rcases D.reads i o ho s (by simpa using hs1) j p hj' hps with ⟨e, he, hb, hq⟩ | ⟨e, he, hb, hq⟩
        · exfalso
          have : isNew ops o s = true := by
            unfold isNew
            rw [Array.any_eq_true']
            refine ⟨e, he, ?_⟩
            rw [hq, hj']
            simp [hb, hps]
          rw [this] at hs2; cases hs2
        · refine (hT j p s hj' hps).2 ?_
          cases hlj : l.getD j false with
          | false => rfl
          | true =>
            have := hcl j p hj' hlj e he hb
            rw [hq, hun'] at this
            cases this
    · have hv' : T d v w'' := by unfold slotOf at hv; rw [hod] at hv; exact hv
      rw [hod]
      refine ⟨by simp [hs], by rw [size_put]; exact hn, by rw [defers_put]; exact hdf, hG'', fun s hsd => ?_, fun j p d' hj hp => ?_, fun j p hj hlj e he hb => ?_⟩
      · have hne : d ≠ s := by
          rintro rfl
          rw [isDst_of ho hod] at hsd
          cases hsd
        rw [eval_put_ne v hne]
        exact hkeep s hsd
      · by_cases hji : j = i
        · subst hji
          obtain rfl : p = o := Option.some.inj (hj.symm.trans ho)
          obtain rfl : d' = d := Option.some.inj (hp.symm.trans hod)
          have h1 : (l.setIfInBounds j true).getD j false = true := by simp [hil]
          refine ⟨fun _ => ?_, fun h => ?_⟩
          · rw [eval_put_eq v (hn.symm ▸ hdn)]; exact hv'
          · rw [h1] at h; cases h
        · have hne : d ≠ d' := by
            intro h
            exact D.uniq i j o p ho hj hji (by rw [hp, hod, h])
          rw [eval_put_ne v hne, getD_set_ne false (Ne.symm hji)]
          exact ⟨fun h => hmono _ _ _ _ hbel ((hT j p d' hj hp).1 h), (hT j p d' hj hp).2⟩
      · by_cases hei : e.on = i
        · rw [hei]; simp [hil]
        · rw [getD_set_ne false (Ne.symm hei)]
          by_cases hji : j = i
          · subst hji
            obtain rfl : p = o := Option.some.inj (hj.symm.trans ho)
            exact hdeps e he hb
          · rw [getD_set_ne false (Ne.symm hji)] at hlj
            exact hcl j p hj hlj e he hb
  · rw [none_listed]; simp
  · rw [none_listed]; simp
  · simp
end
end Go.Slots
