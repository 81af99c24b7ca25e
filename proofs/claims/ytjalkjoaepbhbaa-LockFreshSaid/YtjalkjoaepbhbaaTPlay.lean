/- played: Locks behind a script's takes, gives and drops. -/
import Derived.Test.YtjalkjoaepbhbaaTArr
import Derived.StillTailTactics
namespace Go.Proofs.Ytjalkjoaepbhbaa.QA
open Go.RowKit Go.Maps Go.Proofs.YtjalkjoaepbhbaaW.PrintWords Go.Proofs.YtjalkjoaepbhbaaW.PrintLast Go.Proofs.YtjalkjoaepbhbaaW.PrintMore
set_option linter.unusedVariables false
set_option linter.unusedSimpArgs false
def stp (L : Who) (s : Stp) : Who := stepL L s.2.1.val s.2.2.1.val s.2.2.2.val
def playL (script : List Stp) : Who := script.foldl stp L0
theorem play_step (script : List Stp) (j : Nat) (h : j < script.length) : playL (script.take (j + 1)) = stp (playL (script.take j)) (script.getD j z31) := by
  unfold playL
  rw [List.take_succ_eq_append_getElem h, List.foldl_append]
  simp [List.getD_eq_getElem?_getD, h]
set_option maxHeartbeats 8000000 in
set_option maxRecDepth 100000 in
theorem played12 {W0 : World} {A0 : Option Addr} {c0 : Nat} (script : List Stp) (h0 : Kd.C k31 W0 A0 script.length script) :
    Calls Try.prog 12 #[.slice A0 script.length c0] W0 fun e w' => ∃ p b, e = .returned (.pointer (some ⟨p, 0, none⟩)) ∧ Lk w' p b (playL script) ∧ W0.heap.size ≤ p ∧ W0.heap.size ≤ b ∧ Below W0.heap.size W0 w' := by
  have H0 := Aside0.mk h0
  have hm := Kd.C_max h0
  clear h0
  go_enter Try.func12, Try.ntmps12
  go_wp2_with (first
    | ((with_reducible refine gate_dst (N := 5) rfl ?_); refine goesL_ (some 5) rfl rfl Try.func7 (by kernel_rfl) rfl #[] rfl (by (try simp only [List.map_toArray, List.map_cons, List.map_nil]); first | done | rfl) ?_
       refine new7.mono ?_
       rintro e w1 ⟨p, b, rfl, hl, hp, hb, hbel⟩
       refine ⟨_, rfl, ?_⟩
       have K1 := Aside0.mk (show Lk w1 p b (playL (script.take 0)) from hl)
       have B1 := Aside0.mk hbel
       have N1 := Aside0.mk (And.intro hp hb)
       clear hl hp hb hbel))
  go_loopg [4] script.length (fun kq v4 wr => ∃ (j : Nat), v4 = .int .i64 (j : Int) ∧ Aside0 (j + kq = script.length) ∧ Aside0 (Lk wr p b (playL (script.take j))) ∧ Aside0 (Below W0.heap.size W0 wr))
  case atStart => exact ⟨0, rfl, ⟨by omega⟩, K1, B1⟩
  case round =>
    clear K1 B1
    obtain ⟨j, rfl, hjk, hL, hB⟩ := hrel
    obtain ⟨Ws, hWs, hB⟩ : ∃ W, W = _ ∧ Aside0 (Below W0.heap.size W0 W) := ⟨_, rfl, hB⟩
    subst hWs
    cases gk with
    | zero =>
      obtain rfl : j = script.length := hjk.out
      have hd1 : ¬ ((script.length : Int) < (script.length : Int)) := by omega
      have hL2 := Aside0.mk hL.out
      rw [List.take_length] at hL2
      go_wp2
      go_ret
      exact ⟨p, rfl, b, hL2.out, N1.out.1, N1.out.2, hB.out⟩
    | succ k1 =>
      have hj0 : j < script.length := by have := hjk.out; omega
      have hj1 : (j : Int) < (script.length : Int) := by omega
      have hj2 : decide ((j : Int) < (script.length : Int)) = true := decide_eq_true hj1
      obtain ⟨ad, e, d0, d1, d2, d3⟩ := at_T31 (Kd.C_below H0.out hB.out) (j : Int) (by omega) hj1
      subst e
      rw [Int.toNat_natCast] at d0 d1 d2 d3
      have hps := play_step script j hj0
      obtain ⟨st, hst⟩ : ∃ st, st = script.getD j z31 := ⟨_, rfl⟩
      rw [← hst] at d0 d1 d2 d3 hps
      obtain ⟨sec, ⟨k, hk⟩, ⟨pg, hpg⟩, ⟨bi, hbi⟩⟩ := st
      clear hst
      dsimp only at d0 d1 d2 d3
      unfold stp at hps
      dsimp only at hps
      have Hps := Aside0.mk hps
      have Hpg := Aside0.mk hpg
      have Hbi := Aside0.mk hbi
      clear hps hk hpg hbi
      have hN := N1.out.2
      by_cases k0 : k = 0
      · subst k0
        go_upto_region 9 with fail
        go_still_tail 11, (by kernel_rfl)
        change wpList _ _ _ _ _ Ws.drew
        have hLd := Aside0.mk (hL.out.below (below_drew (Below.refl _ _)))
        have hBd := Aside0.mk (hB.out.trans ((below_drew (Below.refl Ws.heap.size Ws)).mono hB.out.size))
        clear d0 d1 d2 d3
        generalize Ws.drew = wd at hLd hBd ⊢
        go_wp2_with (first
          | ((with_reducible refine gate_dst (N := 32) rfl ?_); refine goesL_ (some 32) rfl rfl Try.func14 (by kernel_rfl) rfl #[.pointer (some ⟨p, 0, none⟩), .int .i64 pg, .int .i64 bi] rfl (by (try simp only [List.map_toArray, List.map_cons, List.map_nil]); first | done | rfl) ?_
             refine (take14 hLd.out pg bi Hpg.out Hbi.out).mono ?_
             rintro e w2 ⟨rfl, hl, hm2⟩
             refine ⟨_, rfl, ?_⟩
             have L2 := Aside0.mk hl
             have B2 := Aside0.mk (hm2.below hBd.out hBd.out.size (fun k hk => hk ▸ hN))
             clear hl hm2))
        go_roundg k1
        case measure => omega
        case rel => exact ⟨j + 1, rfl, ⟨by have := hjk.out; omega⟩, ⟨by rw [Hps.out]; unfold stepL; rw [if_pos rfl]; exact L2.out⟩, B2⟩
      · have e0 : (k == 0) = false := beq_eq_false_iff_ne.mpr k0
        by_cases k1_ : k = 1
        · subst k1_
          clear k0
          go_wp2_with (first
            | ((with_reducible refine gate_dst (N := 41) rfl ?_); refine goesL_ (some 41) rfl rfl Try.func16 (by kernel_rfl) rfl #[.pointer (some ⟨p, 0, none⟩), .int .i64 pg] rfl (by (try simp only [List.map_toArray, List.map_cons, List.map_nil]); first | done | rfl) ?_
               refine (give16 hL.out pg Hpg.out).mono ?_
               rintro e w2 ⟨rfl, hl, hm2⟩
               refine ⟨_, rfl, ?_⟩
               have L2 := Aside0.mk hl
               have B2 := Aside0.mk (hm2.below hB.out hB.out.size (fun k hk => hk ▸ hN))
               clear hl hm2))
          go_roundg k1
          case measure => omega
          case rel => exact ⟨j + 1, rfl, ⟨by have := hjk.out; omega⟩, ⟨by rw [Hps.out]; unfold stepL; rw [if_neg (by decide), if_pos rfl]; exact L2.out⟩, B2⟩
        · have e1 : (k == 1) = false := beq_eq_false_iff_ne.mpr k1_
          by_cases k2 : k = 2
          · subst k2
            clear k0 k1_
            go_wp2_with (first
              | ((with_reducible refine gate_dst (N := 50) rfl ?_); refine goesL_ (some 50) rfl rfl Try.func17 (by kernel_rfl) rfl #[.pointer (some ⟨p, 0, none⟩), .int .i64 bi] rfl (by (try simp only [List.map_toArray, List.map_cons, List.map_nil]); first | done | rfl) ?_
                 refine (drop17 hL.out bi).mono ?_
                 rintro e w2 ⟨v2, rfl, hv, hl, hm2⟩
                 refine ⟨_, rfl, ?_⟩
                 have L2 := Aside0.mk hl
                 have B2 := Aside0.mk (hm2.below hB.out hB.out.size (fun k hk => hk ▸ hN))
                 clear hl hm2 hv))
            go_roundg k1
            case measure => omega
            case rel => exact ⟨j + 1, rfl, ⟨by have := hjk.out; omega⟩, ⟨by rw [Hps.out]; unfold stepL; rw [if_neg (by decide), if_neg (by decide), if_pos rfl]; exact L2.out⟩, B2⟩
          · have e2 : (k == 2) = false := beq_eq_false_iff_ne.mpr k2
            have Hk := Aside0.mk (And.intro k0 (And.intro k1_ k2))
            clear k0 k1_ k2
            go_wp2
            go_roundg k1
            case measure => omega
            case rel => exact ⟨j + 1, rfl, ⟨by have := hjk.out; omega⟩, ⟨by rw [Hps.out]; unfold stepL; rw [if_neg Hk.out.1, if_neg Hk.out.2.1, if_neg Hk.out.2.2]; exact hL.out⟩, hB⟩
end Go.Proofs.Ytjalkjoaepbhbaa.QA
