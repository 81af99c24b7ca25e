/- same, on lists that are the same; known, walked. -/
import Derived.Test.YtjalkjoaepbhbaaTRef
namespace Go.Proofs.Ytjalkjoaepbhbaa.QA
open Go.RowKit Go.Maps Go.Proofs.YtjalkjoaepbhbaaW.PrintWords Go.Proofs.YtjalkjoaepbhbaaW.PrintLast Go.Proofs.YtjalkjoaepbhbaaW.PrintMore
set_option linter.unusedVariables false
set_option linter.unusedSimpArgs false
set_option maxHeartbeats 4000000 in
set_option maxRecDepth 100000 in
theorem same18 {w : World} {A B : Option Addr} {c d : Nat} (a : List Int) (ha : Kd.C (Kd.int .i64) w A a.length a) (hb : Kd.C (Kd.int .i64) w B a.length a) :
    Calls Try.prog 18 #[.slice A a.length c, .slice B a.length d] w fun e w' => e = .returned (.bool true) ∧ Below w.heap.size w w' := by
  have HA := Aside0.mk ha
  have HB := Aside0.mk hb
  have hm := Kd.C_max ha
  have hd0 : ((a.length : Int) != (a.length : Int)) = false := by simp
  clear ha hb
  go_enter Try.func18, Try.ntmps18
  go_wp2_with fail
  go_loopg [5] a.length (fun kq v5 wr => ∃ (j : Nat), v5 = .int .i64 (j : Int) ∧ Aside0 (j + kq = a.length) ∧ Aside0 (Below w.heap.size w wr))
  case atStart => exact ⟨0, rfl, ⟨by omega⟩, ⟨Below.refl _ _⟩⟩
  case round =>
    obtain ⟨j, rfl, hjk, hBl⟩ := hrel
    cases gk with
    | zero =>
      obtain rfl : j = a.length := hjk.out
      have hd1 : ¬ ((a.length : Int) < (a.length : Int)) := by omega
      go_wp2
      go_ret
      exact ⟨rfl, hBl.out⟩
    | succ k1 =>
      have hj0 : j < a.length := by have := hjk.out; omega
      have hj1 : (j : Int) < (a.length : Int) := by omega
      have hj2 : decide ((j : Int) < (a.length : Int)) = true := decide_eq_true hj1
      obtain ⟨Ws, hWs, hBl⟩ : ∃ W, W = _ ∧ Aside0 (Below w.heap.size w W) := ⟨_, rfl, hBl⟩
      subst hWs
      obtain ⟨x, hx⟩ : ∃ x, x = rd a (j : Int) := ⟨_, rfl⟩
      obtain ⟨ad1, e1, h1⟩ := Kd.at_int (Kd.C_below HA.out hBl.out) (j : Int) (by omega) hj1
      obtain ⟨ad2, e2, h2⟩ := Kd.at_int (Kd.C_below HB.out hBl.out) (j : Int) (by omega) hj1
      subst e1 e2
      rw [Int.toNat_natCast, ← hx] at h1 h2
      have hxx : (x != x) = false := by simp
      clear hx
      go_upto_region 6 with fail
      go_still (by kernel_rfl)
      change Exit.then _ _ _ _ Ws.drew
      have hB2 := Aside0.mk (hBl.out.trans ((below_drew (Below.refl Ws.heap.size Ws)).mono hBl.out.size))
      clear h1 h2
      generalize Ws.drew = wq at hB2 ⊢
      go_wp2
      go_roundg k1
      case measure => omega
      case rel => exact ⟨j + 1, rfl, ⟨by have := hjk.out; omega⟩, hB2⟩
theorem C_one {w : World} {g : Nat} {x : Int} (h : w.heap[g]? = some (.cells #[.int .i64 x] 3 (0, 0))) : Kd.C (Kd.int .i64) w (some ⟨g, 0, none⟩) 1 [x] := by
  refine Kd.C_of_reads (d := (0 : Int)) (h1 := fun _ => rfl) ⟨rfl, by decide, fun _ => ⟨_, rfl, fun j hj => ?_⟩⟩
  have hj0 : j = 0 := by omega
  subst hj0
  rw [Addr.add_mid, Nat.zero_add, blk_cell h]
  rfl
def L0 : Who := fun _ => 0
def L1 : Who := upd1 L0 3 7
theorem births0 : Births L0 := ⟨fun x h => absurd rfl h, fun x h => absurd rfl h⟩
theorem births1 : Births L1 := take_ok births0 3 7 (by decide) (by decide)
theorem known_facts : takeE L0 3 7 = 0 ∧ takeL L0 3 7 = L1 ∧ takeE L1 3 8 = 150 ∧ takeL L1 3 8 = L1 ∧ L1 3 = 7 ∧ heldL L1 7 = [3] ∧ gave L1 3 = true ∧ upd1 L1 3 0 3 = 0 := by
  refine ⟨by decide, ?_, by decide, ?_, by decide, by decide, by decide, by decide⟩
  · unfold takeL; rw [if_pos (by decide)]; rfl
  · unfold takeL; rw [if_neg (by decide)]
set_option maxHeartbeats 4000000 in
set_option maxRecDepth 100000 in
theorem known9 {w : World} : Calls Try.prog 9 #[] w fun e w' => e = .returned (.bool true) ∧ Below w.heap.size w w' := by
  obtain ⟨k1, k2, k3, k4, k5, k6, k7, k8⟩ := known_facts
  have K1 := Aside0.mk k1
  have K2 := Aside0.mk k2
  have K3 := Aside0.mk k3
  have K4 := Aside0.mk k4
  have K5 := Aside0.mk k5
  have K6 := Aside0.mk k6
  have K7 := Aside0.mk k7
  have K8 := Aside0.mk k8
  clear k1 k2 k3 k4 k5 k6 k7 k8
  go_enter Try.func9, Try.ntmps9
  go_wp2_with (first
    | ((with_reducible refine gate_dst (N := 4) rfl ?_); refine goesL_ (some 4) rfl rfl Try.func7 (by kernel_rfl) rfl #[] rfl (by (try simp only [List.map_toArray, List.map_cons, List.map_nil]); first | done | rfl) ?_
       refine new7.mono ?_
       rintro e w1 ⟨p, b, rfl, hl, hp, hb, hbel⟩
       refine ⟨_, rfl, ?_⟩
       have H1 := Aside0.mk (show Lk w1 p b L0 from hl)
       have B1 := Aside0.mk hbel
       have Nb := Aside0.mk hb
       clear hl hp hb hbel)
    | ((with_reducible refine gate_dst (N := 8) rfl ?_); refine goesL_ (some 8) rfl rfl Try.func14 (by kernel_rfl) rfl #[.pointer (some ⟨p, 0, none⟩), .int .i64 3, .int .i64 7] rfl (by (try simp only [List.map_toArray, List.map_cons, List.map_nil]); first | done | rfl) ?_
       refine (take14 H1.out 3 7 (by decide) (by decide)).mono ?_
       rintro e w2 ⟨he, hl, hm⟩
       rw [K1.out] at he
       rw [K2.out] at hl
       subst he
       refine ⟨_, rfl, ?_⟩
       have H2 := Aside0.mk hl
       have B2 := Aside0.mk (hm.below B1.out B1.out.size (fun k hk => hk ▸ Nb.out))
       clear hl hm)
    | ((with_reducible refine gate_dst (N := 10) rfl ?_); refine goesL_ (some 10) rfl rfl Try.func14 (by kernel_rfl) rfl #[.pointer (some ⟨p, 0, none⟩), .int .i64 3, .int .i64 8] rfl (by (try simp only [List.map_toArray, List.map_cons, List.map_nil]); first | done | rfl) ?_
       refine (take14 H2.out 3 8 (by decide) (by decide)).mono ?_
       rintro e w3 ⟨he, hl, hm⟩
       rw [K3.out] at he
       rw [K4.out] at hl
       subst he
       refine ⟨_, rfl, ?_⟩
       have H3 := Aside0.mk hl
       have B3 := Aside0.mk (hm.below B2.out B2.out.size (fun k hk => hk ▸ Nb.out))
       clear hl hm)
    | ((with_reducible refine gate_dst (N := 19) rfl ?_); refine gate_guard rfl ?_; refine goesL_ (some 19) rfl rfl Try.func19 (by kernel_rfl) rfl #[.pointer (some ⟨p, 0, none⟩), .int .i64 3] rfl (by (try simp only [List.map_toArray, List.map_cons, List.map_nil]); first | done | rfl) ?_
       refine (holder19 H3.out 3 (by decide)).mono ?_
       rintro e w' ⟨he, rfl⟩
       rw [K5.out] at he
       subst he
       refine ⟨_, rfl, ?_⟩)
    | ((with_reducible refine gate_dst (N := 24) rfl ?_); refine gate_guard rfl ?_; refine goesL_ (some 24) rfl rfl Try.func15 (by kernel_rfl) rfl #[.pointer (some ⟨p, 0, none⟩), .int .i64 7] rfl (by (try simp only [List.map_toArray, List.map_cons, List.map_nil]); first | done | rfl) ?_
       refine (held15 H3.out 7).mono ?_
       rintro e w4 ⟨v, rfl, hr, hb⟩
       rw [K6.out] at hr
       refine ⟨_, rfl, ?_⟩
       obtain ⟨A, c, rfl⟩ := Kd.R_slice hr
       have R4 := Aside0.mk (Kd.R_reads' hr).2.2
       have H4 := Aside0.mk (H3.out.below hb)
       have B4 := Aside0.mk ((Mv.of_below hb (fun _ => False)).below B3.out B3.out.size (fun _ h => h.elim))
       clear hr hb)
    | ((with_reducible refine gate_dst (N := 26) rfl ?_); refine gate_guard rfl ?_; refine goesL_ (some 26) rfl rfl Try.func18 (by kernel_rfl) rfl #[.slice A 1 c, .slice (some ⟨w4.heap.size, 0, none⟩) 1 1] rfl (by (try simp only [List.map_toArray, List.map_cons, List.map_nil]); first | done | rfl) ?_
       refine (same18 [3] (Kd.C_below R4.out (below_alloc (Below.refl _ _) _)) (C_one (heap_alloc_new _ _))).mono ?_
       rintro e w5 ⟨rfl, hb⟩
       refine ⟨_, rfl, ?_⟩
       have hb2 := (Mv.of_below hb (fun _ => False)).below (below_alloc (Below.refl w4.heap.size w4) _) (below_alloc (Below.refl w4.heap.size w4) _).size (fun _ h => h.elim)
       have H5 := Aside0.mk (H4.out.below hb2)
       have B5 := Aside0.mk ((Mv.of_below hb2 (fun _ => False)).below B4.out B4.out.size (fun _ h => h.elim))
       clear hb hb2)
    | ((with_reducible refine gate_dst (N := 30) rfl ?_); refine gate_guard rfl ?_; refine goesL_ (some 30) rfl rfl Try.func16 (by kernel_rfl) rfl #[.pointer (some ⟨p, 0, none⟩), .int .i64 3] rfl (by (try simp only [List.map_toArray, List.map_cons, List.map_nil]); first | done | rfl) ?_
       refine (give16 H5.out 3 (by decide)).mono ?_
       rintro e w6 ⟨he, hl, hm⟩
       rw [K7.out] at he
       subst he
       refine ⟨_, rfl, ?_⟩
       have H6 := Aside0.mk hl
       have B6 := Aside0.mk (hm.below B5.out B5.out.size (fun k hk => hk ▸ Nb.out))
       clear hl hm)
    | ((with_reducible refine gate_dst (N := 34) rfl ?_); refine gate_guard rfl ?_; refine goesL_ (some 34) rfl rfl Try.func19 (by kernel_rfl) rfl #[.pointer (some ⟨p, 0, none⟩), .int .i64 3] rfl (by (try simp only [List.map_toArray, List.map_cons, List.map_nil]); first | done | rfl) ?_
       refine (holder19 H6.out 3 (by decide)).mono ?_
       rintro e w' ⟨he, rfl⟩
       rw [K8.out] at he
       subst he
       refine ⟨_, rfl, ?_⟩))
  go_ret
  exact ⟨rfl, B6.out⟩
end Go.Proofs.Ytjalkjoaepbhbaa.QA
