/- A script of steps: how it is read. -/
import Derived.Test.YtjalkjoaepbhbaaTPair
import Derived.Deep.Slices
import Derived.ChangeSame
namespace Go.Opens
open Go.RowKit Go.Deep Go.ChangeShapes Go.WideShapes Go.Proofs.YtjalkjoaepbhbaaW.PrintWords
set_option linter.unusedVariables false
section
variable {H : Type} {enc : TypeId × Value → H} {P : Program} {w : World} {base : Nat} {spare : Nat → Bool} {held : Bool}
/-- Whatever reads as a value of the type is one of d. -/
def Opens (enc : TypeId × Value → H) (P : Program) (w : World) (base : Nat) (spare : Nat → Bool) (held : Bool) (t : TypeId) {α : Type} (d : Kd α) : Prop :=
  ∀ (fuel : Nat) (cs : List Value) (x : DataW H × List MemPlace), DataW.trod enc P w base spare held fuel t cs = some x → ∃ a : α, d.K w a cs
theorem opens_int {t : TypeId} {k : IntKind} (ht : P.underlying t = some (.int k)) : Opens enc P w base spare held t (Kd.int k) := by
  intro fuel cs x h
  obtain ⟨n, rfl, _, _⟩ := DataW.trod_int ht h
  exact ⟨n, rfl⟩
theorem opens_bool {t : TypeId} (ht : P.underlying t = some .bool) : Opens enc P w base spare held t Kd.bool := by
  intro fuel cs x h
  obtain ⟨n, rfl, _⟩ := DataW.trod_bool ht h
  exact ⟨n, rfl⟩
theorem list_of {α : Type} {p : Nat → α → Prop} (n : Nat) (h : ∀ i, i < n → ∃ a, p i a) : ∃ xs : List α, xs.length = n ∧ ∀ i y, xs[i]? = some y → p i y := by
  induction n with
  | zero => exact ⟨[], rfl, fun i y hy => by simp at hy⟩
  | succ n ih =>
    obtain ⟨xs, hxl, hxs⟩ := ih (fun i hi => h i (by omega))
    obtain ⟨y, hy⟩ := h n (by omega)
    refine ⟨xs ++ [y], by simp [hxl], fun i z hz => ?_⟩
    rcases Nat.lt_or_ge i xs.length with hi | hi
    · rw [List.getElem?_append_left hi] at hz; exact hxs i z hz
    · rw [List.getElem?_append_right hi] at hz
      have h0 : i - xs.length = 0 := by
        rcases Nat.eq_zero_or_pos (i - xs.length) with h0 | h0
        · exact h0
        · rw [List.getElem?_eq_none (by simp; omega)] at hz; cases hz
      rw [h0] at hz
      simp at hz
      subst hz
      have : i = n := by omega
      subst this
      exact hy
theorem opens_slice {α : Type} {d : Kd α} {t e : TypeId} (ht : P.underlying t = some (.slice e)) (hc : P.cellsOf e = d.sz) (hd : Opens enc P w base spare held e d) : Opens enc P w base spare held t (Kd.slice e d) := by
  intro fuel cs x h
  rcases open_slice ht h with ⟨rfl, _⟩ | ⟨a, len, cap, m, n, D, Pl, rfl, hb, hl, hm, hmm, _, hx⟩
  · exact ⟨[], none, 0, rfl, Nat.le_refl _, Kd.C_nil d w⟩
  · have hlm : len ≤ m := by rw [hmm]; split <;> omega
    have hex : ∀ i, i < len → ∃ a' : α, ∃ cs', w.cells? base (a.add (i * P.cellsOf e)) (P.cellsOf e) = some cs' ∧ d.K w a' cs' := fun i hi => by
      obtain ⟨cs', h1, h2⟩ := hx i (by omega)
      obtain ⟨a', ha'⟩ := hd n cs' _ h2
      exact ⟨a', cs', h1, ha'⟩
    have hlist := list_of len hex
    obtain ⟨xs, hxl, hxs⟩ := hlist
    refine ⟨xs, some a, cap, by rw [hxl], by omega, rfl, by rw [hxl]; have : cap ≤ 9223372036854775807 := hm; omega, fun _ => ⟨a, rfl, fun j p hp => ?_⟩⟩
    obtain ⟨cs', h1, h2⟩ := hxs j p hp
    obtain ⟨_, hlen, hcell⟩ := World.cells?_some h1
    refine ⟨cs', by rw [hlen, hc], h2, fun i u hu => ?_⟩
    have hi : i < cs'.length := (List.getElem?_eq_some_iff.1 hu).1
    have := hcell i (by omega)
    rw [Go.Deep.add_add, hu, hc] at this
    exact this
/-- A stretch of a state's cells. -/
def Seg {α : Type} (d : Kd α) (w : World) (cs : List Value) (off : Nat) (a : α) : Prop := d.K w a ((cs.drop off).take d.sz)
theorem Seg.pair {α β : Type} {d1 : Kd α} {d2 : Kd β} {cs : List Value} {off : Nat} {a : α} {b : β} (h1 : Seg d1 w cs off a) (h2 : Seg d2 w cs (off + d1.sz) b) : Seg (Kd.pair d1 d2) w cs off (a, b) := by
  refine ⟨(cs.drop off).take d1.sz, (cs.drop (off + d1.sz)).take d2.sz, ?_, h1, h2⟩
  show (cs.drop off).take (d1.sz + d2.sz) = _
  rw [List.take_add, List.drop_drop]
theorem Seg.iso {α β : Type} {d : Kd α} {f : β → α} {cs : List Value} {off : Nat} {b : β} (h : Seg d w cs off (f b)) : Seg (Kd.iso d f) w cs off b := h
theorem Seg.whole {α : Type} {d : Kd α} {cs : List Value} {a : α} (hl : cs.length = d.sz) (h : Seg d w cs 0 a) : d.K w a cs := by
  unfold Seg at h
  rwa [List.drop_zero, List.take_of_length_le (by omega)] at h
/-- A field of a state. -/
theorem field {α : Type} {d : Kd α} {t ft : TypeId} {fs : Array Field} {fuel : Nat} {cs : List Value} {x : DataW H × List MemPlace} (ht : P.underlying t = some (.struct fs)) (h : DataW.trod enc P w base spare held fuel t cs = some x)
    (i off : Nat) (hf : (fs[i]?).map (fun f => (f.offset, f.type)) = some (off, ft)) (hc : P.cellsOf ft = d.sz) (hd : Opens enc P w base spare held ft d) : ∃ a : α, Seg d w cs off a := by
  obtain ⟨xs, n, _, _, hl, hlen, hall⟩ := DataW.trod_struct ht h
  obtain ⟨f, hfi, hff⟩ := Option.map_eq_some_iff.1 hf
  injection hff with h1 h2
  subst h1
  subst h2
  have hi : i < fs.size := (Array.getElem?_eq_some_iff.1 hfi).1
  have := hall i f hfi
  rw [List.getElem?_eq_getElem (by omega), hc] at this
  obtain ⟨a, ha⟩ := hd n _ _ this
  exact ⟨a, ha⟩
theorem struct_len {t : TypeId} {fs : Array Field} {fuel : Nat} {cs : List Value} {x : DataW H × List MemPlace} (ht : P.underlying t = some (.struct fs)) (h : DataW.trod enc P w base spare held fuel t cs = some x) : cs.length = P.cellsOf t := by
  obtain ⟨xs, n, _, _, hl, _, _⟩ := DataW.trod_struct ht h
  exact hl
end
end Go.Opens
namespace Go.Proofs.Ytjalkjoaepbhbaa.QA
open Go.RowKit Go.Deep Go.ChangeShapes Go.WideShapes Go.Opens Go.Proofs.YtjalkjoaepbhbaaW.PrintWords Go.Proofs.YtjalkjoaepbhbaaW.PrintLast Go.Proofs.YtjalkjoaepbhbaaW.PrintMore
set_option linter.unusedVariables false
set_option linter.unusedSimpArgs false
/-- A whole number that lies in its range. -/
abbrev WInt := { n : Int // (Lit.int .i64 n).wf = true }
def kw : Kd WInt := Kd.iso (Kd.int .i64) Subtype.val
/-- A step: of the second?, kind, page, birth. -/
abbrev Stp := Bool × WInt × WInt × WInt
def k31 : Kd Stp := Kd.pair Kd.bool (Kd.pair kw (Kd.pair kw kw))
def zw : WInt := ⟨0, by decide⟩
def z31 : Stp := (false, zw, zw, zw)
section
variable {H : Type} {enc : TypeId × Value → H} {w : World} {base : Nat} {spare : Nat → Bool} {held : Bool}
theorem opens_w : Opens enc Try.prog w base spare held 3 kw := by
  intro fuel cs x h
  obtain ⟨n, rfl, _, hw⟩ := DataW.trod_int Try.underlying3 h
  exact ⟨⟨n, hw⟩, rfl⟩
theorem opens31 : Opens enc Try.prog w base spare held 31 k31 := by
  intro fuel cs x h
  have hi := opens_w (enc := enc) (w := w) (base := base) (spare := spare) (held := held)
  have hb := opens_bool (enc := enc) (w := w) (base := base) (spare := spare) (held := held) Try.underlying4
  obtain ⟨a0, s0⟩ := field Try.underlying31 h 0 0 (by kernel_rfl) (by kernel_rfl) hb
  obtain ⟨a1, s1⟩ := field Try.underlying31 h 1 1 (by kernel_rfl) (by kernel_rfl) hi
  obtain ⟨a2, s2⟩ := field Try.underlying31 h 2 2 (by kernel_rfl) (by kernel_rfl) hi
  obtain ⟨a3, s3⟩ := field Try.underlying31 h 3 3 (by kernel_rfl) (by kernel_rfl) hi
  refine ⟨(a0, a1, a2, a3), Seg.whole ((struct_len Try.underlying31 h).trans (by kernel_rfl)) ?_⟩
  exact Seg.pair s0 (Seg.pair s1 (Seg.pair s2 s3))
theorem opens22 : Opens enc Try.prog w base spare held 22 (Kd.slice 31 k31) := opens_slice Try.underlying22 (by kernel_rfl) opens31
end
theorem k31_open {w : World} {x : Stp} {cs : List Value} (h : k31.K w x cs) : cs = [.bool x.1, .int .i64 x.2.1.val, .int .i64 x.2.2.1.val, .int .i64 x.2.2.2.val] := by
  obtain ⟨_, _, rfl, rfl, ⟨_, _, rfl, rfl, ⟨_, _, rfl, rfl, rfl⟩⟩⟩ := h
  exact rfl
theorem at_T31 {w : World} {A : Option Addr} {n : Nat} {xs : List Stp} (h : Kd.C k31 w A n xs) (i : Int) (h0 : 0 ≤ i) (h1 : i < n) : ∃ ad, A = some ad ∧ w.cell? (ad.add (i.toNat * 4)) = some (.bool (xs.getD i.toNat z31).1) ∧ w.cell? ⟨(ad.add (i.toNat * 4)).block, (ad.add (i.toNat * 4)).off + 1, none⟩ = some (.int .i64 (xs.getD i.toNat z31).2.1.val) ∧
    w.cell? ⟨(ad.add (i.toNat * 4)).block, (ad.add (i.toNat * 4)).off + 2, none⟩ = some (.int .i64 (xs.getD i.toNat z31).2.2.1.val) ∧ w.cell? ⟨(ad.add (i.toNat * 4)).block, (ad.add (i.toNat * 4)).off + 3, none⟩ = some (.int .i64 (xs.getD i.toNat z31).2.2.2.val) := by
  obtain ⟨ad, c, e, _, hK, hc0⟩ := Kd.C_get h z31 i h0 h1
  have hc : ∀ j u, c[j]? = some u → w.cell? (ad.add (i.toNat * 4 + j)) = some u := hc0
  obtain rfl := k31_open hK
  exact ⟨ad, e, hc 0 _ rfl, by rw [← add_field _ _ 1 (by omega)]; exact hc 1 _ rfl, by rw [← add_field _ _ 2 (by omega)]; exact hc 2 _ rfl, by rw [← add_field _ _ 3 (by omega)]; exact hc 3 _ rfl⟩
end Go.Proofs.Ytjalkjoaepbhbaa.QA
