/- From what the form says of an argument (DataW.trod) to what the walks read (Kd.K), with what the datum says of it. -/
import Derived.Test.YtcdfdckdodgbpaaGreatDoorA
import Derived.Test.YtcdfdckdodgbpaaGreatDoorQAx0
import Derived.Test.YtcdfdckdodgbpaaGreatDoorRows
import Derived.Deep.Slices
import Derived.ChangeSame
namespace Go.Opens
open Go.RowKit Go.Deep Go.ChangeShapes Go.WideShapes Go.Proofs.YtcdfdckdodgbpaaGreatDoorW.PrintWords
set_option linter.unusedVariables false
section
variable {H : Type} {enc : TypeId × Value → H} {P : Program} {w : World} {base : Nat} {spare : Nat → Bool} {held : Bool}
/-- Whatever reads as a value of the type is one of d. -/
def Opens (enc : TypeId × Value → H) (P : Program) (w : World) (base : Nat) (spare : Nat → Bool) (held : Bool) (t : TypeId) {α : Type} (d : Kd α) : Prop :=
  ∀ (fuel : Nat) (cs : List Value) (x : DataW H × List MemPlace), DataW.trod enc P w base spare held fuel t cs = some x → ∃ a : α, d.K w a cs
theorem opens_int {t : TypeId} {k : IntKind} (ht : P.underlying t = some (.int k)) : Opens enc P w base spare held t (Kd.int k) := by
  intro fuel cs x h
  obtain ⟨n, rfl, _, _⟩ := DataW.trod_int ht h
  exact ⟨n, rfl⟩
theorem opens_bool {t : TypeId} (ht : P.underlying t = some .bool) : Opens enc P w base spare held t Kd.bool := by
  intro fuel cs x h
  obtain ⟨n, rfl, _⟩ := DataW.trod_bool ht h
  exact ⟨n, rfl⟩
theorem list_of {α : Type} {p : Nat → α → Prop} (n : Nat) (h : ∀ i, i < n → ∃ a, p i a) : ∃ xs : List α, xs.length = n ∧ ∀ i y, xs[i]? = some y → p i y := by
  induction n with
  | zero => exact ⟨[], rfl, fun i y hy => by simp at hy⟩
  | succ n ih =>
    obtain ⟨xs, hxl, hxs⟩ := ih (fun i hi => h i (by omega))
    obtain ⟨y, hy⟩ := h n (by omega)
    refine ⟨xs ++ [y], by simp [hxl], fun i z hz => ?_⟩
    rcases Nat.lt_or_ge i xs.length with hi | hi
    · rw [List.getElem?_append_left hi] at hz; exact hxs i z hz
    · rw [List.getElem?_append_right hi] at hz
      have h0 : i - xs.length = 0 := by
        rcases Nat.eq_zero_or_pos (i - xs.length) with h0 | h0
        · exact h0
        · rw [List.getElem?_eq_none (by simp; omega)] at hz; cases hz
      rw [h0] at hz
      simp at hz
      subst hz
      have : i = n := by omega
      subst this
      exact hy
theorem opens_slice {α : Type} {d : Kd α} {t e : TypeId} (ht : P.underlying t = some (.slice e)) (hc : P.cellsOf e = d.sz) (hd : Opens enc P w base spare held e d) : Opens enc P w base spare held t (Kd.slice e d) := by
  intro fuel cs x h
  rcases open_slice ht h with ⟨rfl, _⟩ | ⟨a, len, cap, m, n, D, Pl, rfl, hb, hl, hm, hmm, _, hx⟩
  · exact ⟨[], none, 0, rfl, Nat.le_refl _, Kd.C_nil d w⟩
  · have hlm : len ≤ m := by rw [hmm]; split <;> omega
    have hex : ∀ i, i < len → ∃ a' : α, ∃ cs', w.cells? base (a.add (i * P.cellsOf e)) (P.cellsOf e) = some cs' ∧ d.K w a' cs' := fun i hi => by
      obtain ⟨cs', h1, h2⟩ := hx i (by omega)
      obtain ⟨a', ha'⟩ := hd n cs' _ h2
      exact ⟨a', cs', h1, ha'⟩
    have hlist := list_of len hex
    obtain ⟨xs, hxl, hxs⟩ := hlist
    refine ⟨xs, some a, cap, by rw [hxl], by omega, rfl, by rw [hxl]; have : cap ≤ 9223372036854775807 := hm; omega, fun _ => ⟨a, rfl, fun j p hp => ?_⟩⟩
    obtain ⟨cs', h1, h2⟩ := hxs j p hp
    obtain ⟨_, hlen, hcell⟩ := World.cells?_some h1
    refine ⟨cs', by rw [hlen, hc], h2, fun i u hu => ?_⟩
    have hi : i < cs'.length := (List.getElem?_eq_some_iff.1 hu).1
    have := hcell i (by omega)
    rw [Go.Deep.add_add, hu, hc] at this
    exact this
/-- A stretch of a state's cells. -/
def Seg {α : Type} (d : Kd α) (w : World) (cs : List Value) (off : Nat) (a : α) : Prop := d.K w a ((cs.drop off).take d.sz)
theorem Seg.pair {α β : Type} {d1 : Kd α} {d2 : Kd β} {cs : List Value} {off : Nat} {a : α} {b : β} (h1 : Seg d1 w cs off a) (h2 : Seg d2 w cs (off + d1.sz) b) : Seg (Kd.pair d1 d2) w cs off (a, b) := by
  refine ⟨(cs.drop off).take d1.sz, (cs.drop (off + d1.sz)).take d2.sz, ?_, h1, h2⟩
  show (cs.drop off).take (d1.sz + d2.sz) = _
  rw [List.take_add, List.drop_drop]
theorem Seg.iso {α β : Type} {d : Kd α} {f : β → α} {cs : List Value} {off : Nat} {b : β} (h : Seg d w cs off (f b)) : Seg (Kd.iso d f) w cs off b := h
theorem Seg.whole {α : Type} {d : Kd α} {cs : List Value} {a : α} (hl : cs.length = d.sz) (h : Seg d w cs 0 a) : d.K w a cs := by
  unfold Seg at h
  rwa [List.drop_zero, List.take_of_length_le (by omega)] at h
/-- A field of a state. -/
theorem field {α : Type} {d : Kd α} {t ft : TypeId} {fs : Array Field} {fuel : Nat} {cs : List Value} {x : DataW H × List MemPlace} (ht : P.underlying t = some (.struct fs)) (h : DataW.trod enc P w base spare held fuel t cs = some x)
    (i off : Nat) (hf : (fs[i]?).map (fun f => (f.offset, f.type)) = some (off, ft)) (hc : P.cellsOf ft = d.sz) (hd : Opens enc P w base spare held ft d) : ∃ a : α, Seg d w cs off a := by
  obtain ⟨xs, n, _, _, hl, hlen, hall⟩ := DataW.trod_struct ht h
  obtain ⟨f, hfi, hff⟩ := Option.map_eq_some_iff.1 hf
  injection hff with h1 h2
  subst h1
  subst h2
  have hi : i < fs.size := (Array.getElem?_eq_some_iff.1 hfi).1
  have := hall i f hfi
  rw [List.getElem?_eq_getElem (by omega), hc] at this
  obtain ⟨a, ha⟩ := hd n _ _ this
  exact ⟨a, ha⟩
theorem struct_len {t : TypeId} {fs : Array Field} {fuel : Nat} {cs : List Value} {x : DataW H × List MemPlace} (ht : P.underlying t = some (.struct fs)) (h : DataW.trod enc P w base spare held fuel t cs = some x) : cs.length = P.cellsOf t := by
  obtain ⟨xs, n, _, _, hl, _, _⟩ := DataW.trod_struct ht h
  exact hl
/-- Whatever reads as a value of the type is one of d, and the datum says Q of it. -/
def OpensQ (enc : TypeId × Value → H) (P : Program) (w : World) (base : Nat) (spare : Nat → Bool) (held : Bool) (t : TypeId) {α : Type} (d : Kd α) (Q : DataW H → α → Prop) : Prop :=
  ∀ (fuel : Nat) (cs : List Value) (x : DataW H × List MemPlace), DataW.trod enc P w base spare held fuel t cs = some x → ∃ a : α, d.K w a cs ∧ Q x.1 a
theorem opensQ_slice {α : Type} {d : Kd α} {t e : TypeId} {Q : DataW H → α → Prop} (ht : P.underlying t = some (.slice e)) (hc : P.cellsOf e = d.sz) (hd : OpensQ enc P w base spare held e d Q) :
    OpensQ enc P w base spare held t (Kd.slice e d) (fun D xs => xs = [] ∨ ∃ elems sp : List (DataW H), D = .slice elems sp ∧ elems.length = xs.length ∧ ∀ (i : Nat) (y : α), xs[i]? = some y → ∃ D' : DataW H, elems[i]? = some D' ∧ Q D' y) := by
  intro fuel cs x h
  rcases open_slice ht h with ⟨rfl, _⟩ | ⟨a, len, cap, m, n, D, Pl, rfl, hb, hl, hm, hmm, hxe, hx⟩
  · exact ⟨[], ⟨none, 0, rfl, Nat.le_refl _, Kd.C_nil d w⟩, .inl rfl⟩
  · have hlm : len ≤ m := by rw [hmm]; split <;> omega
    have hex : ∀ i, i < len → ∃ a' : α, ∃ cs', w.cells? base (a.add (i * P.cellsOf e)) (P.cellsOf e) = some cs' ∧ d.K w a' cs' ∧ Q (D i) a' := fun i hi => by
      obtain ⟨cs', h1, h2⟩ := hx i (by omega)
      obtain ⟨a', ha', hq⟩ := hd n cs' _ h2
      exact ⟨a', cs', h1, ha', hq⟩
    have hlist := list_of len hex
    obtain ⟨xs, hxl, hxs⟩ := hlist
    refine ⟨xs, ⟨some a, cap, by rw [hxl], by omega, rfl, by rw [hxl]; have : cap ≤ 9223372036854775807 := hm; omega, fun _ => ⟨a, rfl, fun j p hp => ?_⟩⟩, .inr ⟨_, _, by rw [hxe], by rw [List.length_map, List.length_range, hxl], fun i y hy => ?_⟩⟩
    · obtain ⟨cs', h1, h2, _⟩ := hxs j p hp
      obtain ⟨_, hlen, hcell⟩ := World.cells?_some h1
      refine ⟨cs', by rw [hlen, hc], h2, fun i u hu => ?_⟩
      have hi : i < cs'.length := (List.getElem?_eq_some_iff.1 hu).1
      have := hcell i (by omega)
      rw [Go.Deep.add_add, hu, hc] at this
      exact this
    · obtain ⟨cs', h1, h2, h3⟩ := hxs i y hy
      have hi : i < len := by rw [← hxl]; exact (List.getElem?_eq_some_iff.1 hy).1
      exact ⟨D i, by rw [List.getElem?_map, List.getElem?_range hi]; rfl, h3⟩
end
end Go.Opens
namespace Go.Proofs.YtcdfdckdodgbpaaGreatDoor.QA
open Go.RowKit Go.Maps Go.Proofs.YtcdfdckdodgbpaaGreatDoorW.PrintWords Go.Proofs.YtcdfdckdodgbpaaGreatDoorW.PrintLast Go.Proofs.YtcdfdckdodgbpaaGreatDoorW.PrintMore
set_option linter.unusedVariables false
set_option linter.unusedSimpArgs false
open Go.Deep Go.ChangeShapes Go.WideShapes Go.Opens
theorem one_le {H : Type} (d : DataW H) : 1 ≤ Rows.uptoBulk d := by
  cases d with
  | lit l => cases l <;> simp [Rows.uptoBulk]
  | nil => simp [Rows.uptoBulk]
  | ptr d => simp [Rows.uptoBulk]
  | slice elems spare => simp [Rows.uptoBulk]
  | agg parts => simp [Rows.uptoBulk]
  | iface t d => simp [Rows.uptoBulk]
  | map entries => simp [Rows.uptoBulk]
  | held h => simp [Rows.uptoBulk]
theorem bulks_part {H : Type} {d : DataW H} {l : List (DataW H)} (h : d ∈ l) : Rows.uptoBulk d ≤ Rows.uptoBulkAll l := by
  induction l with
  | nil => cases h
  | cons x r ih =>
    simp only [Rows.uptoBulkAll]
    cases List.mem_cons.1 h with
    | inl e => subst e; omega
    | inr e => have := ih e; omega
theorem length_le {H : Type} (l : List (DataW H)) : l.length ≤ Rows.uptoBulkAll l := by
  induction l with
  | nil => simp [Rows.uptoBulkAll]
  | cons x r ih => have := one_le x; simp only [Rows.uptoBulkAll, List.length_cons]; omega
theorem bulk_slice {H : Type} (elems sp : List (DataW H)) : Rows.uptoBulkAll elems ≤ Rows.uptoBulk (.slice elems sp) := by
  simp only [Rows.uptoBulk]
  omega
/-- A whole number that lies in its range. -/
abbrev WInt := { n : Int // (Lit.int .i64 n).wf = true }
def kw : Kd WInt := Kd.iso (Kd.int .i64) Subtype.val
section
variable {H : Type} {enc : TypeId × Value → H} {w : World} {base : Nat} {spare : Nat → Bool} {held : Bool}
theorem opens_w : Opens enc Tryz.prog w base spare held 3 kw := by
  intro fuel cs x h
  obtain ⟨n, rfl, _, hw⟩ := DataW.trod_int Tryz.underlying3 h
  exact ⟨⟨n, hw⟩, rfl⟩
end
end Go.Proofs.YtcdfdckdodgbpaaGreatDoor.QA
