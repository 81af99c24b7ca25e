-- Laid by a program of this session out of Lean's own print of the program; hand-made contracts are pasted in. Lean checks it.
import Derived.Test.YtbienfoijomibaaDoorQAx0
namespace Go.Proofs.YtbienfoijomibaaDoor.QA
open Go.RowKit Go.Proofs.YtbienfoijomibaaDoorW.PrintWords Go.Proofs.YtbienfoijomibaaDoorW.PrintLast Go.Proofs.YtbienfoijomibaaDoorW.PrintMore
attribute [local go_sem] max2_int min2_int max_two min_two max_three min_three max_four min_four   -- for this text's walks alone
set_option linter.unusedVariables false
set_option linter.unusedSimpArgs false

/-! ### crc_More: function 11 -/

/-- the table's numbers -/
def tabInt : List Int := [0x00000000, 0x1db71064, 0x3b6e20c8, 0x26d930ac, 0x76dc4190, 0x6b6b51f4, 0x4db26158, 0x5005713c, 0xedb88320, 0xf00f9344, 0xd6d6a3e8, 0xcb61b38c, 0x9b64c2b0, 0x86d3d2d4, 0xa00ae278, 0xbdbdf21c]
/-- the table lies in the world -/
def Tab (w : World) : Prop := ∀ i : Nat, i < 16 → w.cell? ⟨0, i, none⟩ = some (.int .u32 (tabInt.getD i 0))
theorem Tab.below {B : Nat} {w W : World} (h : Tab w) (hB : 0 < B) (hb : Below B w W) : Tab W := fun i hi => (hb.cell (p := ⟨0, i, none⟩) hB).trans (h i hi)
theorem Tab.lt {w : World} (h : Tab w) : 0 < w.heap.size := World.block_lt_of_cell? w _ (h 0 (by omega))
theorem Tab.step {w W : World} (h : Tab w) (hb : Below w.heap.size w W) : Tab W := h.below h.lt hb

open CrcPlain in
/-- a number as a word, and back -/
def wd (x : Int) : BitVec 32 := BitVec.ofNat 32 x.toNat
def nu (b : BitVec 32) : Int := (b.toNat : Int)
theorem nu_range (b : BitVec 32) : 0 ≤ nu b ∧ nu b < 4294967296 := by
  have := b.isLt
  unfold nu; omega
theorem wd_nu (b : BitVec 32) : wd (nu b) = b := by simp [wd, nu]
theorem nu_wd (x : Int) (h0 : 0 ≤ x) (h1 : x < 4294967296) : nu (wd x) = x := by
  unfold nu wd
  rw [BitVec.toNat_ofNat, Nat.mod_eq_of_lt (by omega)]
  omega
theorem xor_nu (a b : BitVec 32) : bits .xor .u32 (nu a) (nu b) = nu (a ^^^ b) := by
  have := u32_xor_nat a.toNat b.toNat (by have := a.isLt; omega) (by have := b.isLt; omega)
  unfold nu; rw [this, BitVec.toNat_xor]
theorem and15_nu (a : BitVec 32) : bits .and .u32 (nu a) 15 = ((a &&& 15#32).toNat : Int) := by
  have := u32_and_nat a.toNat 15 (by have := a.isLt; omega) (by omega)
  unfold nu
  rw [show ((15 : Nat) : Int) = 15 from rfl] at this
  rw [this, BitVec.toNat_and]; rfl
theorem div16_nu (a : BitVec 32) : (nu a : Int) / (16 : Int) = nu (a >>> 4) := by
  unfold nu
  rw [BitVec.toNat_ushiftRight, Nat.shiftRight_eq_div_pow]; omega
theorem not_nu (a : BitVec 32) : bits .xor .u32 IntKind.u32.max (nu a) = nu (~~~ a) := by
  have e : IntKind.u32.max = nu (BitVec.allOnes 32) := by decide
  rw [e, xor_nu, BitVec.allOnes_xor]
theorem tab_nu (i : Nat) (h : i < 16) : tabInt.getD i 0 = nu (CrcPlain.table.getD i 0#32) := by
  have : ∀ i : Fin 16, tabInt.getD i.val 0 = nu (CrcPlain.table.getD i.val 0#32) := by decide
  exact this ⟨i, h⟩
theorem byte_nu (c : Int) (h0 : 0 ≤ c) (h1 : c ≤ 255) : nu (BitVec.ofNat 32 c.toNat) = c := nu_wd c h0 (by omega)
theorem idx_lt (a : BitVec 32) : (a &&& 15#32).toNat < 16 := by
  rw [BitVec.toNat_and]; exact Nat.lt_of_le_of_lt Nat.and_le_right (by decide)
/-- half a step -/
theorem half (a : BitVec 32) : bits .xor .u32 ((nu a : Int) / (16 : Int)) (tabInt.getD (bits .and .u32 (nu a) 15).toNat 0) = nu (CrcPlain.Bn 4 a) := by
  rw [and15_nu, Int.toNat_natCast, tab_nu _ (idx_lt a), div16_nu, xor_nu, ← CrcPlain.nib]
theorem whole_step (a : BitVec 32) (c : Int) : CrcPlain.Bn 4 (CrcPlain.Bn 4 (a ^^^ BitVec.ofNat 32 c.toNat)) = CrcPlain.step a c.toNat := by
  unfold CrcPlain.step; rw [← CrcPlain.Bn_add]
theorem run_take (a : BitVec 32) (l : List Int) (k : Nat) (h : k < l.length) : CrcPlain.run a ((l.map Int.toNat).take (k + 1)) = CrcPlain.step (CrcPlain.run a ((l.map Int.toNat).take k)) (l.getD k 0).toNat := by
  rw [List.take_succ_eq_append_getElem (by simpa using h), CrcPlain.run_append]
  simp [CrcPlain.run, List.getD_eq_getElem?_getD, h]

def bytesOk (l : List Int) : Bool := l.all fun x => decide (0 ≤ x ∧ x ≤ 255)
theorem bytesOk_at {l : List Int} (h : bytesOk l = true) (k : Nat) (hk : k < l.length) : 0 ≤ l.getD k 0 ∧ l.getD k 0 ≤ 255 := by
  unfold bytesOk at h
  have := List.all_eq_true.1 h l[k] (List.getElem_mem hk)
  simpa [List.getD_eq_getElem?_getD, hk] using this
def crc_More.f (a0 : Int) (l1 : List Int) : Option Int := if 0 ≤ a0 ∧ a0 < 4294967296 ∧ bytesOk l1 = true then some (nu (CrcPlain.more (wd a0) (l1.map Int.toNat))) else none
set_option maxHeartbeats 800000 in
set_option maxRecDepth 100000 in
theorem crc_More.same (a0 : Int) (A1 : Option Addr) (c1 : Nat) (l1 : List Int) (r : Int) (w : World) (hr1 : Kd.C (Kd.int .u8) w A1 l1.length l1) (hc1 : l1.length ≤ c1) (h : crc_More.f a0 l1 = some r) (hT : Aside0 (Tab w) := by first | assumption | exact hT | exact ⟨Tab.step hT.out (by repeat (first | (with_reducible first | exact HB.out | apply below_alloc | apply pw_below_drewN | apply below_drew1) | exact HB.out))⟩) :
    Calls Tryd.prog 11 #[.int .u32 a0, .slice A1 l1.length c1] w fun e w' => e = .returned (.int .u32 r) ∧ w = w' := by
  unfold crc_More.f at h
  by_cases hok : 0 ≤ a0 ∧ a0 < 4294967296 ∧ bytesOk l1 = true
  · rw [if_pos hok] at h
    obtain ⟨h0, h1, hbs⟩ := hok
    have Hr := Aside0.mk (Option.some.inj h)
    clear h
    have HR1 := Aside0.mk hr1
    have hmax := Kd.C_max hr1
    clear hr1
    have Hbs := Aside0.mk hbs
    clear hbs
    obtain ⟨b0, hb0⟩ : ∃ b0, b0 = wd a0 := ⟨_, rfl⟩
    have e0 : a0 = nu b0 := by rw [hb0, nu_wd a0 h0 h1]
    have Hb0 := Aside0.mk hb0
    clear hb0
    subst e0
    clear h0 h1
    have HN := Aside0.mk (not_nu b0)
    have HT := fun k hk => run_take (~~~ b0) l1 k hk
    obtain ⟨m, hm⟩ : ∃ m, m = l1.map Int.toNat := ⟨_, rfl⟩
    have hml : m.length = l1.length := by rw [hm]; simp
    rw [← hm] at Hr HT
    clear hm
    have HT := Aside0.mk HT
    have HML := Aside0.mk hml
    clear hml
    go_enter Tryd.func11, Tryd.ntmps11
    go_wp2_with fail
    go_loop [5, 7, 12] (fun s c i => ∃ k : Nat, k ≤ l1.length ∧ i = .int .i64 k ∧ s = .int .u32 (nu (CrcPlain.run (~~~ b0) (m.take k)))) (fun _ _ i => l1.length - (intOf i).toNat)
    case atStart => exact ⟨0, Nat.zero_le _, rfl, by rw [HN.out]; rfl⟩
    case round =>
      obtain ⟨k, hk, rfl, rfl⟩ := hrel
      by_cases hlt : k < l1.length
      · have HS := Aside0.mk (HT.out k hlt)
        obtain ⟨s, hs⟩ : ∃ s, s = CrcPlain.run (~~~ b0) (m.take k) := ⟨_, rfl⟩
        rw [← hs] at HS ⊢
        clear hs
        have hbb := bytesOk_at Hbs.out k hlt
        obtain ⟨ad, e, hc⟩ := (Kd.reads_of_C (enc := Value.int .u8) (d := (0 : Int)) HR1.out).2.2 (by omega)
        subst e
        replace hc := hc k hlt
        obtain ⟨c, hcc⟩ : ∃ c, c = l1.getD k 0 := ⟨_, rfl⟩
        rw [← hcc] at hc hbb HS
        clear hcc
        have y1 := Aside0.mk (by have := xor_nu s (BitVec.ofNat 32 c.toNat); rwa [byte_nu c hbb.1 hbb.2] at this : bits .xor .u32 (nu s) c = nu (s ^^^ BitVec.ofNat 32 c.toNat))
        obtain ⟨p, hp⟩ : ∃ p, p = s ^^^ BitVec.ofNat 32 c.toNat := ⟨_, rfl⟩
        have HP := Aside0.mk hp
        rw [← hp] at y1
        clear hp
        obtain ⟨q, hq⟩ : ∃ q, q = bits .xor .u32 (nu s) c := ⟨_, rfl⟩
        have HQ := Aside0.mk (hq.trans y1.out)
        have i1 : 0 ≤ bits .and .u32 (bits .xor .u32 (nu s) c) 15 ∧ bits .and .u32 (bits .xor .u32 (nu s) c) 15 < 16 := by
          rw [y1.out, and15_nu]; have := idx_lt p; omega
        obtain ⟨T1, hT1⟩ : ∃ T1, T1 = tabInt.getD (bits .and .u32 (bits .xor .u32 (nu s) c) 15).toNat 0 := ⟨_, rfl⟩
        have c1' : w.cell? ⟨0, (bits .and .u32 (bits .xor .u32 (nu s) c) 15).toNat, none⟩ = some (.int .u32 T1) := by rw [hT1]; exact hT.out _ (by omega)
        have y2 := Aside0.mk (by rw [hT1, y1.out]; exact half p : bits .xor .u32 (bits .xor .u32 (nu s) c / 16) T1 = nu (CrcPlain.Bn 4 p))
        clear hT1 hq
        have i2 : 0 ≤ bits .and .u32 (bits .xor .u32 (bits .xor .u32 (nu s) c / 16) T1) 15 ∧ bits .and .u32 (bits .xor .u32 (bits .xor .u32 (nu s) c / 16) T1) 15 < 16 := by
          rw [y2.out, and15_nu]; have := idx_lt (CrcPlain.Bn 4 p); omega
        obtain ⟨T2, hT2⟩ : ∃ T2, T2 = tabInt.getD (bits .and .u32 (bits .xor .u32 (bits .xor .u32 (nu s) c / 16) T1) 15).toNat 0 := ⟨_, rfl⟩
        have c2' : w.cell? ⟨0, (bits .and .u32 (bits .xor .u32 (bits .xor .u32 (nu s) c / 16) T1) 15).toNat, none⟩ = some (.int .u32 T2) := by rw [hT2]; exact hT.out _ (by omega)
        have y3 := Aside0.mk (by rw [hT2, y2.out]; exact half (CrcPlain.Bn 4 p) : bits .xor .u32 (bits .xor .u32 (bits .xor .u32 (nu s) c / 16) T1 / 16) T2 = nu (CrcPlain.Bn 4 (CrcPlain.Bn 4 p)))
        clear hT2
        go_wp2_with fail
        go_round
        case rel => exact ⟨k + 1, by omega, by go_num, by rw [y3.out, HS.out, HP.out, whole_step]⟩
        case measure => simp [intOf]; omega
      · have e : k = l1.length := by omega
        have HN2 := Aside0.mk (not_nu (CrcPlain.run (~~~ b0) (m.take k)))
        have HE := Aside0.mk (by rw [List.take_of_length_le (by rw [HML.out]; omega)] : CrcPlain.run (~~~ b0) (m.take k) = CrcPlain.run (~~~ b0) m)
        clear e
        go_wp2_with fail
        go_ret
        refine ⟨?_, rfl⟩
        rw [HN2.out, HE.out, ← Hr.out, wd_nu]
        rfl
  · rw [if_neg hok] at h; cases h
theorem crc_More.calls (a0 : Int) (A1 : Option Addr) (c1 : Nat) (l1 : List Int) (r : Int) (w : World) (hr1 : Kd.C (Kd.int .u8) w A1 l1.length l1) (hc1 : l1.length ≤ c1) (h : crc_More.f a0 l1 = some r) (hT : Aside0 (Tab w) := by first | assumption | exact hT | exact ⟨Tab.step hT.out (by repeat (first | (with_reducible first | exact HB.out | apply below_alloc | apply pw_below_drewN | apply below_drew1) | exact HB.out))⟩) :
    Calls Tryd.prog 11 #[.int .u32 a0, .slice A1 l1.length c1] w fun e w' => e = .returned (.int .u32 r) ∧ Same0 w w' :=
  (crc_More.same a0 A1 c1 l1 r w hr1 hc1 h hT).mono fun _ _ ⟨he, hw⟩ => ⟨he, by subst hw; exact Same0.refl _⟩


end Go.Proofs.YtbienfoijomibaaDoor.QA
