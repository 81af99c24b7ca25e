/- grown and full: a row of one's own lengthened by eighty marks; a row that holds its mark alone. -/
import Derived.Test.YtolnhhafjojjeaaTRows5
namespace Go.Proofs.Ytolnhhafjojjeaa.QA
open Go.RowKit Go.Proofs.YtolnhhafjojjeaaW.PrintWords Go.Proofs.YtolnhhafjojjeaaW.PrintLast Go.Proofs.YtolnhhafjojjeaaW.PrintMore
set_option linter.unusedVariables false
set_option linter.unusedSimpArgs false
theorem w64 (n : Int) (h : -9223372036854775808 ≤ n ∧ n ≤ 9223372036854775807) : wrap64 n = n := by unfold wrap64; omega
theorem rd_mark (m n j : Nat) (h : j < n) : rd (mark m n) (j : Int) = (m : Int) + 1 := by
  unfold rd mark
  rw [Int.toNat_natCast, List.getD_eq_getElem?_getD, List.getElem?_replicate, if_pos h]
  rfl
theorem full20 {w : World} {A : Option Addr} {c m n : Nat} (hC : Kd.C (Kd.int .u8) w A n (mark m n)) (hn : n ≤ 9223372036854775807) : Calls Try.prog 20 #[.slice A n c, .int .u8 ((m : Int) + 1)] w fun e w' => e = .returned (.bool true) ∧ w' = w := by
  have HC := Aside0.mk hC
  clear hC
  go_enter Try.func20, Try.ntmps20
  go_wp2
  go_loopg [5] n (fun kq v5 w' => ∃ j : Nat, v5 = .int .i64 (j : Int) ∧ w' = w ∧ Aside0 (j + kq = n))
  case atStart => exact ⟨0, rfl, rfl, ⟨by omega⟩⟩
  case round =>
    obtain ⟨j, rfl, rfl, hjk⟩ := hrel
    cases gk with
    | zero =>
      obtain rfl : j = n := hjk.out
      have hd1 : ¬ ((j : Int) < (j : Int)) := by omega
      go_wp2
      go_ret
      exact ⟨rfl, rfl⟩
    | succ k2 =>
      have hj0 : j < n := by have := hjk.out; omega
      have hj1 : (j : Int) < (n : Int) := by omega
      have hj2 : decide ((j : Int) < (n : Int)) = true := decide_eq_true hj1
      obtain ⟨ad1, e1, hx1⟩ := Kd.at_int HC.out (j : Int) (by omega) hj1
      subst e1
      rw [Int.toNat_natCast, rd_mark _ _ _ hj0] at hx1
      go_wp2
      go_roundg k2
      case measure => omega
      case rel => exact ⟨j + 1, by first | rfl | (rw [w64 _ (by omega)]; rfl), rfl, ⟨by have := hjk.out; omega⟩⟩
theorem grown19 {Wb Ws : World} {v : Nat → Value} {n : Nat → Nat} {i : Nat} {A : Option Addr} {c : Nat} (hi : i < 5) (hb : Wb.heap.size ≤ Ws.heap.size) (hni : n i + 100 ≤ 140737488355000) (hv : v i = .slice A (n i) c) (hF : Fi Wb Ws Ws v n i 0 (v i)) :
    Calls Try.prog 19 #[.slice A (n i) c, .int .u8 ((i : Int) + 1)] Ws fun e w' => ∃ vm, e = .returned vm ∧ Fi Wb Ws w' v n i 80 vm := by
  rw [hv] at hF
  have HF := Aside0.mk hF
  have Hv := Aside0.mk hv
  have Hni := Aside0.mk hni
  clear hF hv hni
  go_enter Try.func19, Try.ntmps19
  go_wp2
  go_loopg [0, 5] 80 (fun kq v0 v5 wq => ∃ (j : Nat), v5 = .int .i64 (j : Int) ∧ Aside0 (j + kq = 80) ∧ Aside0 (Fi Wb Ws wq v n i j v0))
  case atStart => exact ⟨0, rfl, ⟨rfl⟩, HF⟩
  case round =>
    clear HF
    obtain ⟨j, rfl, hjk, hFi⟩ := hrel
    obtain ⟨Am, cm, rfl⟩ := Kd.R_slice hFi.out.row
    cases gk with
    | zero =>
      obtain rfl : j = 80 := hjk.out
      go_wp2
      go_ret
      exact ⟨_, rfl, hFi.out⟩
    | succ k2 =>
      have hj1 : (j : Int) < 80 := by have := hjk.out; omega
      have hj2 : decide ((j : Int) < 80) = true := decide_eq_true hj1
      go_wp2_with (first
        | ((with_reducible refine gate_builtin (b := .append) (xs := #[.tmp 10, .tmp 12]) rfl ?_); at_builtin; refine keep_event (base := Wb.heap.size) (Nat.le_trans hb hFi.out.mv.size) rfl (.tmp 10) (.tmp 12) rfl Try.underlying22 info5 (xs := mark i (n i + j)) ((i : Int) + 1) rfl rfl hFi.out.row (by rw [mark_len]; have := Hni.out; omega) ?_
           intro v1 w16 hR hm hat hC
           have F16 := Aside0.mk (hFi.out.step hR hm hat hC)
           clear hR hm hat hC))
      go_roundg k2
      case measure => omega
      case rel => exact ⟨j + 1, rfl, ⟨by have := hjk.out; omega⟩, F16⟩
end Go.Proofs.Ytolnhhafjojjeaa.QA
