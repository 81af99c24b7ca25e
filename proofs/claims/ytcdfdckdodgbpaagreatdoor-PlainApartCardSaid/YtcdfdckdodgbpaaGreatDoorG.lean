/- Entries walked (the other seat's function 12). slices.Clone at changes, and Done, walked (the other seat's functions 32 and 15). PlainSerial walked: it answers true. Entries that are alike. Plain. -/
import Derived.Test.YtcdfdckdodgbpaaGreatDoorF
import Derived.Laws.IdiomRangeMap
import Derived.Test.YtcdfdckdodgbpaaGreatDoorA
import Derived.Test.YtcdfdckdodgbpaaGreatDoorQAx3
/-! TEntries -/
namespace Go.Proofs.YtcdfdckdodgbpaaGreatDoor.QA
open Go.RowKit Go.Maps Go.Proofs.YtcdfdckdodgbpaaGreatDoorW.PrintWords Go.Proofs.YtcdfdckdodgbpaaGreatDoorW.PrintLast Go.Proofs.YtcdfdckdodgbpaaGreatDoorW.PrintMore
set_option linter.unusedVariables false
set_option linter.unusedSimpArgs false
theorem up_mem {c : Con} (h : Up c) (p : Int × Int) : p ∈ c ↔ look c p.1 = some p.2 := ⟨fun hp => h.look hp, fun hl => look_mem hl⟩
theorem mem_addC {a c : Con} (ha : Up a) (hc : Up c) (p : Int × Int) : p ∈ addC a c ↔ p ∈ c ∨ (p ∈ a ∧ ∀ q ∈ c, q.1 ≠ p.1) := by
  rw [up_mem (Up.addC c ha), look_addC p.1 c ha hc, up_mem hc, up_mem ha]
  cases hl : look c p.1 with
  | some d =>
    constructor
    · intro h; exact .inl h
    · rintro (h | ⟨_, h⟩)
      · exact h
      · exact absurd rfl (h (p.1, d) (look_mem hl))
  | none =>
    constructor
    · intro h
      refine .inr ⟨h, fun q hq e => ?_⟩
      have h1 := hc.look hq
      rw [e, hl] at h1
      cases h1
    · rintro (h | ⟨h, _⟩)
      · cases h
      · exact h
theorem addC_length : ∀ (c a : Con), (addC a c).length ≤ a.length + c.length := by
  intro c
  induction c with
  | nil => intro a; exact Nat.le_refl _
  | cons q r ih =>
    intro a
    have h1 := ih (put a q.1 q.2)
    have h2 := length_put_le a q.1 q.2
    rw [List.length_cons]
    exact Nat.le_trans h1 (by omega)
theorem allOf_snoc (l : List Con) (i : Nat) (hi : i < l.length) : allOf (l.take (i + 1)) = addC (allOf (l.take i)) l[i] := by
  unfold allOf
  rw [List.take_succ_eq_append_getElem hi, List.foldl_append]
  rfl
theorem allOf_length {m : PSt} (hk : Ok m) (i : Nat) : (allOf (m.left.take i)).length ≤ 8 * i := by
  induction i with
  | zero => simp [allOf]
  | succ i ih =>
    by_cases hi : i < m.left.length
    · rw [allOf_snoc m.left i hi]
      have h1 := addC_length m.left[i] (allOf (m.left.take i))
      have h2 := (hk.page i m.left[i] (List.getElem?_eq_getElem hi)).len
      have h3 := hk.slots
      omega
    · rw [List.take_of_length_le (by omega)] at ih ⊢
      omega
set_option maxHeartbeats 4000000 in
set_option maxRecDepth 100000 in
theorem entries12 {w : World} {L : Lay} {m : PSt} (h : St w L none2 m) (hk : Ok m) (h0 : m.opn = []) :
    Calls Tryz.prog 12 #[.pointer (some ⟨L.p, 0, none⟩)] w fun e w' => ∃ v, e = .returned (.tuple #[v, .int .i64 0]) ∧ Kd.R k58 58 w' w.heap.size (fun _ => True) v (ents m.all) ∧ Below w.heap.size w w' := by
  have hmm := @run_makeMap Tryz.prog
  have H := Aside0.mk h
  have HK := Aside0.mk hk
  obtain ⟨c0, c1, c2, c4, c5, c6, c7, c8⟩ := h.cells
  have HO := Aside0.mk (show OM Tryz.prog ptrS w L.ob (opnL m L) from h.c.elim fun _ c => c.open_)
  have hlen := fun ty => HO.out.own.len Tryz.underlying67 ty
  have hle : (opnL m L).length = 0 := by unfold opnL; rw [h0]; rfl
  rw [dat_size, hle] at hlen
  have B0 := Aside0.mk (below_alloc (Below.refl w.heap.size w) (.map #[] 0))
  have O0 := Aside0.mk (OM.made (P := Tryz.prog) w u64S)
  have HLL := Aside0.mk (show m.left.length ≤ 16 from by have h1 := hk.left; have h2 := hk.pages; omega)
  clear h hk hle c0 c1 c2 c4 c5 c7 c8 h0
  go_enter Tryz.func12, Tryz.ntmps12
  go_upto_region 4 with fail
  obtain ⟨g, hg⟩ : ∃ g, g = w.heap.size := ⟨_, rfl⟩
  have HG := Aside0.mk hg
  rw [← hg] at O0
  have e1 : (w.heap.size : Nat) = g := hg.symm
  rw [e1]
  have S1 := Aside0.mk (H.out.below B0.out)
  generalize w.alloc (Obj.map #[] 0) = w1 at B0 O0 S1 ⊢
  obtain ⟨d0, d1, d2, d4, d5, d6, d7, d8⟩ := S1.out.cells
  clear e1 hg hlen c6 d0 d1 d2 d4 d5 d6 d8
  go_wp2
  clear d7
  go_loopg [21] m.left.length (fun kq v21 wr => ∃ (i : Nat), v21 = .int .i64 (i : Int) ∧ Aside0 (i + kq = m.left.length) ∧ Aside0 (OM Tryz.prog u64S wr g (allOf (m.left.take i))) ∧ Aside0 (Below w.heap.size w wr))
  case atStart => exact ⟨0, rfl, ⟨by omega⟩, O0, B0⟩
  case round =>
    obtain ⟨i, rfl, hik, hO, hBl⟩ := hrel
    clear O0 B0 S1
    obtain ⟨Ws, hWs, hBl⟩ : ∃ W, W = _ ∧ Aside0 (Below w.heap.size w W) := ⟨_, rfl, hBl⟩
    subst hWs
    cases gk with
    | zero =>
      obtain rfl : i = m.left.length := hik.out
      have hd1 : ¬ ((m.left.length : Int) < (m.left.length : Int)) := by omega
      have HAL := Aside0.mk (show allOf (m.left.take m.left.length) = m.all from by rw [List.take_length]; rfl)
      have HLN := Aside0.mk (show (allOf (m.left.take m.left.length)).length < 1000000000000 from by have h1 := allOf_length HK.out m.left.length; have h2 := HLL.out; exact Nat.lt_of_le_of_lt h1 (by omega))
      rw [HAL.out] at hO HLN
      go_wp2_with (first
        | (go_at_call 31; refine (listed16 hO.out HLN.out).mono ?_
           rintro e w4 ⟨v, rfl, hr, hb⟩
           have R4 := Aside0.mk (Kd.R_lower hr hBl.out.size)
           have B4 := Aside0.mk (hBl.out.trans (hb.mono hBl.out.size))
           obtain ⟨A4, c4, hv⟩ := Kd.R_slice hr
           subst hv
           clear hr hb))
      go_ret2
      exact ⟨_, rfl, R4.out, B4.out⟩
    | succ kr =>
      have hi0 : i < m.left.length := by have := hik.out; omega
      have hi1 : (i : Int) < (m.left.length : Int) := by omega
      have hi2 : (0 : Int) ≤ (i : Int) := by omega
      obtain ⟨y0, hcv⟩ := H.out.leftC i hi0
      replace y0 := pw_cell_below hBl.out y0
      have hgd : m.left.getD i [] = m.left[i] := by simp [hi0]
      rw [hgd] at hcv
      have hs := allOf_snoc m.left i hi0
      have hcl := (HK.out.page i m.left[i] (List.getElem?_eq_getElem hi0)).len
      have hup := (HK.out.page i m.left[i] (List.getElem?_eq_getElem hi0)).up
      have hal := allOf_length HK.out i
      have hau := Up.allOf (m.left.take i)
      obtain ⟨acc, hacc⟩ : ∃ acc, acc = allOf (m.left.take i) := ⟨_, rfl⟩
      rw [← hacc] at hs hal hau hO
      have HAC := Aside0.mk (show acc.length ≤ 128 from by have := HLL.out; omega)
      have HAU := Aside0.mk hau
      have hw2 : IntKind.i64.wrap ((i : Int) + 1) = ((i + 1 : Nat) : Int) := wrp (by omega) (by have := HLL.out; omega)
      obtain ⟨vm, hvm⟩ : ∃ vm, vm = Value.map (L.lb i) := ⟨_, rfl⟩
      obtain ⟨c, hc⟩ : ∃ c, c = m.left[i] := ⟨_, rfl⟩
      rw [← hvm] at y0 hcv
      rw [← hc] at hcv hs hcl hup
      have HS := Aside0.mk hs
      have HCL := Aside0.mk (show c.length ≤ 8 from by have := HK.out.slots; omega)
      have HUP := Aside0.mk hup
      clear hgd hs hcl hup hal hau hacc hvm hc
      cases hcv with
      | nil =>
        have hrg := run_range_nilMap (P := Tryz.prog) Ws 75 _ _ Tryz.underlying75
        have hnx : ∀ ty, (Instr.next (.pointer (some ⟨Ws.heap.size, 0, none⟩)) false ty).run Tryz.prog (Ws.alloc (.mapIter none 0 #[] 0)) = _ := fun ty => run_next_nilMap _ ty 0 0 #[]
        have B1 := Aside0.mk (hBl.out.trans ((below_alloc (Below.refl Ws.heap.size Ws) (.mapIter none 0 #[] 0)).mono hBl.out.size))
        have O1 := Aside0.mk (hO.out.move (Mv.of_below (below_alloc (Below.refl _ Ws) (.mapIter none 0 #[] 0)) (fun _ => False)) (fun h => h))
        go_wp2
        refine wp_loop_rounds 1 ?_
        rw [rounds_succ]
        go_wp2
        go_roundg kr
        case measure => omega
        case rel => exact ⟨i + 1, rfl, ⟨by have := hik.out; omega⟩, ⟨by rw [HS.out]; exact O1.out⟩, B1⟩
      | map b c hb =>
        have hbg : b ≠ g := by have h1 := hb.lt; have h2 := HG.out; omega
        have HB := Aside0.mk (hb.move (Mv.of_below hBl.out (fun _ => False)) (fun h => h))
        clear hb
        go_wp2_with (first
          | (at_range; refine om_range rfl _ 75 rfl 47 Tryz.underlying75 rfl HB.out ?_
             intro w2 hr0 hm0 hs0
             have R0 := Aside0.mk hr0
             have O2 := Aside0.mk (hO.out.move hm0 (fun h => h))
             have B2 := Aside0.mk (hm0.below hBl.out hBl.out.size (fun k hk => hk.elim))
             clear hr0 hm0 hs0))
        go_frame
        obtain ⟨r, hr⟩ : ∃ r, r = Ws.heap.size := ⟨_, rfl⟩
        have HR := Aside0.mk (show g < r ∧ w.heap.size ≤ r from by rw [hr]; exact ⟨hO.out.lt, hBl.out.size⟩)
        rw [← hr] at R0
        have e2 : (⟨Ws.heap.size, 0, none⟩ : Addr) = ⟨r, 0, none⟩ := by rw [hr]
        rw [e2]
        clear e2 hr y0
        go_loopg [7, 8] c.length (fun kq v7 v8 wr => ∃ (ds out : List (Int × Int)), Aside0 (ds.length + kq = c.length) ∧ Aside0 (OR Tryz.prog u64S wr b r c ds) ∧ Aside0 (OM Tryz.prog u64S wr g out) ∧ Aside0 (∀ p, p ∈ out ↔ p ∈ ds ∨ (p ∈ acc ∧ ∀ q ∈ ds, q.1 ≠ p.1)) ∧ Aside0 (Below w.heap.size w wr))
        case atStart => exact ⟨[], acc, ⟨by simp⟩, R0, O2, ⟨fun p => by simp⟩, B2⟩
        case round =>
          clear R0 O2 B2 hO hBl HB
          obtain ⟨ds, out, hcnt, hR, hO, hP, hB⟩ := hrel
          obtain ⟨Wt, hWt, hB⟩ : ∃ W, W = _ ∧ Aside0 (Below w.heap.size w W) := ⟨_, rfl, hB⟩
          subst hWt
          go_wp2_with (first
            | (at_next; refine om_next_u64 rfl _ rfl rfl hR.out ?_ ?_))
          · intro hperm
            have hoc := Aside0.mk (hO.out.up.ext_mem (Up.addC c HAU.out) (fun p => by
              rw [hP.out, mem_addC HAU.out HUP.out, hperm.mem_iff]
              have h1 : (∀ q ∈ ds, q.1 ≠ p.1) ↔ ∀ q ∈ c, q.1 ≠ p.1 := ⟨fun h q hq => h q (hperm.mem_iff.2 hq), fun h q hq => h q (hperm.mem_iff.1 hq)⟩
              rw [h1]))
            clear hperm
            go_wp2
            go_roundg kr
            case measure => omega
            case rel => exact ⟨i + 1, rfl, ⟨by have := hik.out; omega⟩, ⟨by rw [HS.out, ← hoc.out]; exact hO.out⟩, hB⟩
          · intro x z w3 hwx hin hnot hr1 hm1 hs1 hen
            have R1 := Aside0.mk hr1
            have hB1 := Aside0.mk (hm1.below hB.out hB.out.size (fun k hk => by subst hk; exact HR.out.2))
            have hO1 := Aside0.mk (hO.out.move hm1 (fun h => by have := HR.out.1; omega))
            have hle := hr1.le
            rw [List.length_append, List.length_singleton] at hle
            have HLE := Aside0.mk hle
            have HW := Aside0.mk hwx
            have HIN := Aside0.mk hin
            have HNK := Aside0.mk (show ∀ q ∈ ds, q.1 ≠ x from fun q hq e => hnot (by have h1 := HUP.out.eq (hR.out.sub hq) hin e; rw [← h1]; exact hq))
            have hol : out.length ≤ (ds ++ acc).length := nodup_le _ _ hO.out.up.nodup (fun p hp => by
              rw [List.mem_append]
              rcases (hP.out p).1 hp with h1 | h1
              · exact .inl h1
              · exact .inr h1.1)
            rw [List.length_append] at hol
            have HOL := Aside0.mk hol
            clear hwx hin hnot hr1 hm1 hs1 hle hol
            go_wp2_with (first
              | (at_mapUpdate; refine om_put rfl _ _ _ 75 rfl 47 Tryz.underlying75 rfl hO1.out (by have := HOL.out; have := HCL.out; have := HAC.out; have := HLE.out; unfold maxLen; omega) rfl HW.out z rfl ?_
                 intro w4 ho hm
                 have O4 := Aside0.mk ho
                 have R4 := Aside0.mk (R1.out.move hm (fun h => hbg h) (fun h => by have := HR.out.1; omega))
                 have B4 := Aside0.mk (hm.below hB1.out hB1.out.size (fun k hk => by subst hk; have := HG.out; omega))
                 clear ho hm))
            go_roundg (gk - 1)
            case measure => have := hcnt.out; have := HLE.out; omega
            case rel =>
              refine ⟨_, _, ⟨by have := hcnt.out; have := HLE.out; rw [List.length_append, List.length_singleton]; omega⟩, R4, O4, ⟨fun p => ?_⟩, B4⟩
              rw [mem_put, List.mem_append, List.mem_singleton, hP.out]
              constructor
              · rintro (h | ⟨h | ⟨h1, h2⟩, h3⟩)
                · exact .inl (.inr h)
                · exact .inl (.inl h)
                · refine .inr ⟨h1, fun q hq => ?_⟩
                  rw [List.mem_append, List.mem_singleton] at hq
                  rcases hq with hq | rfl
                  · exact h2 q hq
                  · exact fun e => h3 e.symm
              · rintro ((h | h) | ⟨h1, h2⟩)
                · exact .inr ⟨.inl h, HNK.out p h⟩
                · exact .inl h
                · exact .inr ⟨.inr ⟨h1, fun q hq => h2 q (by rw [List.mem_append]; exact .inl hq)⟩, fun e => h2 (x, z) (by rw [List.mem_append, List.mem_singleton]; exact .inr rfl) e.symm⟩
end Go.Proofs.YtcdfdckdodgbpaaGreatDoor.QA

/-! TDoneZ -/
namespace Go.Proofs.YtcdfdckdodgbpaaGreatDoor.QA
open Go.RowKit Go.Maps Go.Proofs.YtcdfdckdodgbpaaGreatDoorW.PrintWords Go.Proofs.YtcdfdckdodgbpaaGreatDoorW.PrintLast Go.Proofs.YtcdfdckdodgbpaaGreatDoorW.PrintMore
set_option linter.unusedVariables false
set_option linter.unusedSimpArgs false
theorem infoCz : (Tryz.prog.info? 52).map (fun i => (i.zero, i.size, i.bytes)) = some (some (.agg #[.int .i64 0, .int .u64 0, .bool false]), 3, 24) := by kernel_rfl
theorem eql33n (w : World) : (binOp .eql 45 (.slice none 0 0) (.slice none 0 0)).run Tryz.prog w = .ok (.bool true) w := by kernel_rfl
theorem eql33s (a : Addr) (n c : Nat) (w : World) : (binOp .eql 45 (.slice (some a) n c) (.slice none 0 0)).run Tryz.prog w = .ok (.bool false) w := by kernel_rfl
theorem R_empty (w : World) : Kd.R kChg 52 (w.alloc (.cells #[] 52)) w.heap.size (fun _ => True) (.slice (some ⟨w.heap.size, 0, none⟩) 0 0) [] :=
  ⟨fun _ _ => trivial, [], ⟨rfl, .inr ⟨w.heap.size, 0, #[], rfl, Nat.le_refl _, heap_alloc_new w _, Nat.le_refl _, Nat.zero_le _, rfl, rfl⟩⟩, Reps.none _ _⟩
set_option maxHeartbeats 2000000 in
set_option maxRecDepth 100000 in
theorem clone32 {w : World} {base : Nat} {ok : Nat → Prop} {v : Value} {xs : List Chg} (h : Kd.R kChg 52 w base ok v xs) (hl : xs.length < 1000000000000) :
    Calls Tryz.prog 32 #[v] w fun e w' => ∃ v', e = .returned v' ∧ Kd.R kChg 52 w' w.heap.size (fun _ => True) v' xs ∧ Below w.heap.size w w' := by
  have hC := Kd.R_reads h
  obtain ⟨A, c, hv, hc, hr⟩ := hC
  obtain ⟨_, inner, hown, _⟩ := h
  have HL := Aside0.mk hl
  have h1 := eql33n
  have h2 := eql33s
  rcases hown.2 with ⟨he, h0⟩ | ⟨g, cap, cur, he, _, _, _, _, _, _⟩
  · have hnil : xs = [] := List.length_eq_zero_iff.1 h0
    subst hnil
    subst he
    clear hv hc hr hown hl
    go_enter Tryz.func32, Tryz.ntmps32
    go_wp2
    go_ret
    exact ⟨_, rfl, Kd.R_nil _ _ _ _ _, Below.refl _ _⟩
  · rw [he] at hv
    injection hv with e1 e2 e3
    subst e1 e3
    subst he
    have HR := Aside0.mk hr
    have B1 := Aside0.mk (below_alloc (Below.refl w.heap.size w) (.cells #[] 52))
    have R1 := Aside0.mk (R_empty w)
    clear hr hc hown hl
    go_enter Tryz.func32, Tryz.ntmps32
    go_wp2_with (first
      | ((with_reducible refine gate_builtin (b := .append) rfl ?_); at_builtin
         refine Kd.R_append_rows kChg (w0 := w) (Rr := kChg.K w) w.heap.size rfl (.tmp 5) (.tmp 6) 45 52 (.agg #[.int .i64 0, .int .u64 0, .bool false]) 24 rfl Tryz.underlying45 infoCz rfl (by decide) (by decide) _ [] xs (some ⟨g, 0, none⟩) xs.length cap (fun _ => True) (fun _ => False) rfl rfl R1.out (ReadsRow.imp_ HR.out B1.out (fun _ _ hp => hp)) (fun x cs hx => by rw [k52_open hx]; exact k52_mkM _ _ _ x) (fun _ hk => hk.elim) (fun _ _ => trivial) B1.out B1.out.size (by have := HL.out; simp; omega) ?_
         intro v1 w2 ho hb hg hat
         rw [List.nil_append] at ho
         obtain ⟨A2, c2, hv2⟩ := Kd.R_slice ho
         subst hv2
         have R2 := Aside0.mk ho
         have B2 := Aside0.mk hb
         clear ho hb hg hat))
    go_ret
    exact ⟨_, rfl, R2.out, B2.out⟩
theorem done_at {w : World} {base : Nat} {ok : Nat → Prop} {v : Value} {ds : List (List Chg)} (h : Kd.R kDone 45 w base ok v ds) : ∃ A c, v = .slice A ds.length c ∧ ∀ i : Nat, i < ds.length → ∃ g u, A = some ⟨g, 0, none⟩ ∧ w.cell? ⟨g, i, none⟩ = some u ∧ ∃ ok', Kd.R kChg 52 w base ok' u (ds.getD i []) := by
  obtain ⟨_, inner, hown, hreps⟩ := h
  rcases hown.2 with ⟨he, h0⟩ | ⟨g, cap, cur, he, _, hg, hnc, hcm, hcs, htk⟩
  · exact ⟨none, 0, by rw [h0]; exact he, fun i hi => by omega⟩
  · refine ⟨some ⟨g, 0, none⟩, cap, he, fun i hi => ?_⟩
    have hM := hreps.2 i ds[i] (List.getElem?_eq_getElem hi)
    obtain ⟨u, hu, hR⟩ := hM
    refine ⟨g, u, rfl, ?_, _, by rw [show ds.getD i [] = ds[i] from by simp [hi]]; exact hR⟩
    have h1 : inner[i]? = some u := by
      have h2 : ((inner.drop (i * 1)).take 1)[0]? = some u := by
        have : (inner.drop (i * kDone.sz)).take kDone.sz = [u] := hu
        rw [show kDone.sz = 1 from rfl] at this
        rw [this]; rfl
      rw [List.getElem?_take_of_lt (by omega), List.getElem?_drop] at h2
      simpa using h2
    rw [blk_cell hg i, ← Array.getElem?_toList]
    rw [← htk, List.getElem?_take_of_lt (by show i < ds.length * 1; omega)] at h1
    exact h1
theorem infoRow : (Tryz.prog.info? 45).map (fun i => (i.zero, i.size, i.bytes)) = some (some (.slice none 0 0), 1, 24) := by kernel_rfl
theorem makeRows (n : Nat) (hn : n < 5000000000000) (w : World) : (Instr.makeSlice 41 (.int .i64 (n : Int)) (.int .i64 (n : Int))).run Tryz.prog w = .ok (.slice (some ⟨w.heap.size, 0, none⟩) n n) (w.alloc (.cells (madeCells #[.slice none 0 0] n) 45)) := by
  obtain ⟨i, hi, hz⟩ := Option.map_eq_some_iff.1 infoRow
  simp only [Prod.mk.injEq] at hz
  obtain ⟨h1, h2, h3⟩ := hz
  have h := run_make (P := Tryz.prog) w 41 45 i (.slice none 0 0) Tryz.underlying41 hi h1 .i64 .i64 (n : Int) (n : Int) (by omega) (Int.le_refl _) (by rw [h3]; omega) (by omega)
  rw [h2, Nat.mul_one, Int.toNat_natCast] at h
  exact h
/-- The first i places of a row hold copies. -/
structure Part (w : World) (g base n i : Nat) (ds : List (List Chg)) : Prop where
  ex : ∃ cur : Array Value, w.heap[g]? = some (.cells cur 45 (0, 0)) ∧ cur.size = n ∧ ∀ j, j < i → ∃ u, cur[j]? = some u ∧ Kd.R kChg 52 w base (fun k => k ≠ g) u (ds.getD j [])
theorem Part.below {w w1 : World} {g base n i : Nat} {ds : List (List Chg)} (h : Part w g base n i ds) (hb : Below w.heap.size w w1) : Part w1 g base n i ds := by
  obtain ⟨cur, h1, h2, h3⟩ := h.ex
  exact ⟨cur, (hb.block g (blk_lt h1)).trans h1, h2, fun j hj => by
    obtain ⟨u, hu, hR⟩ := h3 j hj
    exact ⟨u, hu, Kd.R_below hR hb⟩⟩
theorem Part.put {w w1 : World} {g base n i : Nat} {ds : List (List Chg)} {cur : Array Value} {v : Value} (h1 : w.heap[g]? = some (.cells cur 45 (0, 0))) (h2 : cur.size = n) (h3 : ∀ j, j < i → ∃ u, cur[j]? = some u ∧ Kd.R kChg 52 w base (fun k => k ≠ g) u (ds.getD j [])) (hi : i < n)
    (hv : Kd.R kChg 52 w base (fun k => k ≠ g) v (ds.getD i [])) (hc : w1.heap[g]? = some (.cells (cur.setIfInBounds i v) 45 (0, 0))) (hm : Mv w w1 (fun k => k = g)) : Part w1 g base n (i + 1) ds := by
  refine ⟨_, hc, by simp [h2], fun j hj => ?_⟩
  by_cases e : j = i
  · subst e
    exact ⟨v, by simp [h2, hi], Kd.R_step hv (fun k hk hlt => hm.block k hlt hk)⟩
  · obtain ⟨u, hu, hR⟩ := h3 j (by omega)
    refine ⟨u, ?_, Kd.R_step hR (fun k hk hlt => hm.block k hlt hk)⟩
    rw [Array.getElem?_setIfInBounds]
    have : ¬ i = j := fun h => e h.symm
    simp [this, hu]
theorem Part.whole {w : World} {g base : Nat} {ds : List (List Chg)} (h : Part w g base ds.length ds.length ds) (hn : ds.length < 5000000000000) : Kd.C kDone w (some ⟨g, 0, none⟩) ds.length ds := by
  obtain ⟨cur, h1, h2, h3⟩ := h.ex
  refine ⟨rfl, by omega, fun _ => ⟨_, rfl, fun j p hp => ?_⟩⟩
  have hj : j < ds.length := (List.getElem?_eq_some_iff.1 hp).1
  obtain ⟨u, hu, hR⟩ := h3 j hj
  have hpe : ds.getD j [] = p := by rw [List.getD_eq_getElem?_getD, hp]; rfl
  rw [hpe] at hR
  obtain ⟨A, c, he, hc, hr⟩ := Kd.R_reads hR
  refine ⟨[u], rfl, ⟨A, c, by rw [he], hc, hr⟩, fun i x hx => ?_⟩
  cases i with
  | succ i => simp at hx
  | zero =>
    simp at hx
    subst hx
    have h4 := blk_cell h1 j
    rw [hu] at h4
    have : j * kDone.sz + 0 = j := by show j * 1 + 0 = j; omega
    rw [this]
    have h5 : (⟨g, 0, none⟩ : Addr).add j = ⟨g, j, none⟩ := by
      by_cases hj0 : j = 0
      · subst hj0; simp [Addr.add]
      · simp [Addr.add, hj0]
    rw [h5]
    exact h4
set_option maxHeartbeats 4000000 in
set_option maxRecDepth 100000 in
theorem done15 {w : World} {L : Lay} {m : PSt} (h : St w L none2 m) (hdl : m.done.length < 5000000000000) (hrow : ∀ t ∈ m.done, t.length < 1000000000000) :
    Calls Tryz.prog 15 #[.pointer (some ⟨L.p, 0, none⟩)] w fun e w' => ∃ A c, e = .returned (.slice A m.done.length c) ∧ m.done.length ≤ c ∧ Kd.C kDone w' A m.done.length m.done ∧ Below w.heap.size w w' := by
  obtain ⟨vd, hC⟩ := h.c
  have d9 : w.cell? ⟨L.p, 9, none⟩ = some vd := blk_cell hC.cell 9
  obtain ⟨Ad, cd, hvd, hat⟩ := done_at hC.done
  subst hvd
  obtain ⟨ds, hds⟩ : ∃ ds, ds = m.done := ⟨_, rfl⟩
  rw [← hds] at hdl hrow hat d9 ⊢
  obtain ⟨p, hp⟩ : ∃ p, p = L.p := ⟨_, rfl⟩
  rw [← hp] at d9 ⊢
  have HAT := Aside0.mk hat
  have HDL := Aside0.mk hdl
  have HROW := Aside0.mk hrow
  have B0 := Aside0.mk (below_alloc (Below.refl w.heap.size w) (.cells (madeCells #[.slice none 0 0] ds.length) 45))
  have P0 := Aside0.mk (show Part (w.alloc (.cells (madeCells #[.slice none 0 0] ds.length) 45)) w.heap.size w.heap.size ds.length 0 ds from ⟨_, heap_alloc_new w _, size_madeCells _ _, fun j hj => by omega⟩)
  have hms := makeRows ds.length hdl
  have d9a : (w.alloc (.cells (madeCells #[.slice none 0 0] ds.length) 45)).cell? ⟨p, 9, none⟩ = some (.slice Ad ds.length cd) := pw_cell_below B0.out d9
  clear h hC hat hdl hrow hds hp
  go_enter Tryz.func15, Tryz.ntmps15
  go_upto_region 2 with fail
  obtain ⟨g, hg⟩ : ∃ g, g = w.heap.size := ⟨_, rfl⟩
  have HG := Aside0.mk hg
  have e1 : (⟨w.heap.size, 0, none⟩ : Addr) = ⟨g, 0, none⟩ := by rw [hg]
  rw [e1]
  have P1 := Aside0.mk (show Part (w.alloc (.cells (madeCells #[.slice none 0 0] ds.length) 45)) g w.heap.size ds.length 0 ds from by rw [hg]; exact P0.out)
  clear P0 e1 hg hms d9
  generalize w.alloc (.cells (madeCells #[.slice none 0 0] ds.length) 45) = w1 at B0 P1 d9a ⊢
  go_wp2
  clear d9a
  go_loopg [17] ds.length (fun kq v17 wr => ∃ (i : Nat), v17 = .int .i64 (i : Int) ∧ Aside0 (i + kq = ds.length) ∧ Aside0 (Part wr g w.heap.size ds.length i ds) ∧ Aside0 (Below w.heap.size w wr))
  case atStart => exact ⟨0, rfl, ⟨by omega⟩, P1, B0⟩
  case round =>
    obtain ⟨i, rfl, hik, hP, hBl⟩ := hrel
    clear P1 B0
    obtain ⟨Ws, hWs, hBl⟩ : ∃ W, W = _ ∧ Aside0 (Below w.heap.size w W) := ⟨_, rfl, hBl⟩
    subst hWs
    cases gk with
    | zero =>
      obtain rfl : i = ds.length := hik.out
      have hd1 : ¬ ((ds.length : Int) < (ds.length : Int)) := by omega
      go_wp2
      go_ret
      exact ⟨_, _, rfl, Nat.le_refl _, hP.out.whole HDL.out, hBl.out⟩
    | succ kr =>
      have hi0 : i < ds.length := by have := hik.out; omega
      have hi1 : (i : Int) < (ds.length : Int) := by omega
      have hi2 : (0 : Int) ≤ (i : Int) := by omega
      obtain ⟨gd, u, hA, hu, ok', hR⟩ := HAT.out i hi0
      subst hA
      obtain ⟨row, hrw⟩ : ∃ row, row = ds.getD i [] := ⟨_, rfl⟩
      have HRW := Aside0.mk hrw
      rw [← hrw] at hR
      have y0 := pw_cell_below hBl.out hu
      have HR := Aside0.mk (Kd.R_below hR hBl.out)
      have HRL := Aside0.mk (show row.length < 1000000000000 from by rw [hrw, show ds.getD i [] = ds[i] from by simp [hi0]]; exact HROW.out _ (List.getElem_mem hi0))
      have HI0 := Aside0.mk hi0
      have hw2 : IntKind.i64.wrap ((i : Int) + 1) = ((i + 1 : Nat) : Int) := wrp (by omega) (by have := HDL.out; omega)
      obtain ⟨Au, qu, hvu⟩ := Kd.R_slice hR
      subst hvu
      clear hu hR hrw
      obtain ⟨cur, hc1, hc2, hc3⟩ := hP.out.ex
      have HGL := Aside0.mk (blk_lt hc1)
      clear hc1 hc2 hc3
      go_wp2_with (first
        | (go_at_call 32; refine (clone32 HR.out HRL.out).mono ?_; rintro e w4 ⟨v4, rfl, hr, hb⟩
           obtain ⟨A4, q4, hv4⟩ := Kd.R_slice hr
           subst hv4
           have P4 := Aside0.mk (hP.out.below hb)
           have B4 := Aside0.mk (hBl.out.trans (hb.mono hBl.out.size))
           have R4 := Aside0.mk (Kd.R_mono (Kd.R_lower (Kd.R_bound hr) hBl.out.size) (ok' := fun k => k ≠ g) (fun k hk => by have h1 := hk.2.1; have h2 := HGL.out; omega))
           clear hr hb)
        | ((with_reducible refine gate_store (t := 45) (p := 26) (v := .tmp 25) rfl ?_)
           obtain ⟨cur, hc1, hc2, hc3⟩ := P4.out.ex
           refine put_event rfl rfl (g := g) (i := i) rfl rfl rfl rfl hc1 (by rw [hc2]; exact HI0.out) (by kernel_rfl) ?_
           intro w5 hc hm
           have P5 := Aside0.mk (Part.put hc1 hc2 hc3 HI0.out (by rw [← HRW.out]; exact R4.out) hc hm)
           have B5 := Aside0.mk (hm.below B4.out B4.out.size (fun k hk => by rw [hk, HG.out]; exact Nat.le_refl _))
           clear hc hm hc1 hc2 hc3))
      go_roundg kr
      case measure => omega
      case rel => exact ⟨i + 1, rfl, ⟨by have := hik.out; omega⟩, P5, B5⟩
end Go.Proofs.YtcdfdckdodgbpaaGreatDoor.QA

/-! WalkSerial -/
namespace Go.Proofs.YtcdfdckdodgbpaaGreatDoor.QA
open Go.RowKit Go.Maps Go.Proofs.YtcdfdckdodgbpaaGreatDoorW.PrintWords Go.Proofs.YtcdfdckdodgbpaaGreatDoorW.PrintLast Go.Proofs.YtcdfdckdodgbpaaGreatDoorW.PrintMore
set_option linter.unusedVariables false
set_option linter.unusedSimpArgs false
def PSt.abortAll (m : PSt) (l : List Int) : PSt := l.foldl PSt.abort m
structure Aborted (m0 m : PSt) (i : Nat) : Prop where
  opn : m.opn = m0.opn.drop i
  left : m.left = m0.left
  done : m.done = m0.done
  ok : Ok m
theorem del_first {β : Type} {q : Int × β} {r : List (Int × β)} (h : Up (q :: r)) : del (q :: r) q.1 = r := by
  have h1 := List.pairwise_cons.1 h
  unfold del
  rw [List.filter_cons]
  simp only [beq_self_eq_true, Bool.not_true, Bool.false_eq_true, if_false]
  rw [List.filter_eq_self]
  intro a ha
  have := h1.1 a ha
  simp
  omega
theorem ids_at (m : PSt) (i : Nat) (h : i < m.ids.length) (h2 : i < m.opn.length) : m.ids[i] = m.opn[i].1 := List.getElem_map (fun q : Int × Txn => q.1)
theorem aborted {m0 : PSt} (hk : Ok m0) : ∀ i, i ≤ m0.opn.length → Aborted m0 (m0.abortAll (m0.ids.take i)) i := by
  intro i
  induction i with
  | zero => intro _; exact ⟨rfl, rfl, rfl, hk⟩
  | succ i ih =>
    intro hi
    have h1 := ih (by omega)
    have hid : i < m0.ids.length := by rw [ids_len]; omega
    have hi2 : i < m0.opn.length := by omega
    have hs : m0.abortAll (m0.ids.take (i + 1)) = (m0.abortAll (m0.ids.take i)).abort m0.ids[i] := by
      unfold PSt.abortAll
      rw [List.take_succ_eq_append_getElem hid, List.foldl_append]
      rfl
    rw [hs]
    obtain ⟨mi, hmi⟩ : ∃ mi, mi = m0.abortAll (m0.ids.take i) := ⟨_, rfl⟩
    rw [← hmi] at h1 ⊢
    have hq : m0.ids[i] = m0.opn[i].1 := ids_at m0 i _ _
    have hd : mi.opn = m0.opn[i] :: m0.opn.drop (i + 1) := by rw [h1.opn, List.drop_eq_getElem_cons hi2]
    have hl : look mi.opn m0.ids[i] = some m0.opn[i].2 := by rw [hd, hq, look_cons, if_pos rfl]
    have he : mi.abort m0.ids[i] = mi.over m0.ids[i] true := by unfold PSt.abort; rw [endE_some hl, if_pos rfl]
    rw [he]
    have ho := h1.ok.over hl true
    refine ⟨?_, h1.left, h1.done, ho⟩
    show del mi.opn m0.ids[i] = _
    have hu := h1.ok.up
    rw [hd] at hu ⊢
    rw [hq]
    exact del_first hu
theorem abort_zero {m0 : PSt} (hk : Ok m0) (i : Nat) (hi : i < m0.ids.length) : (m0.abortAll (m0.ids.take i)).endE m0.ids[i] = 0 ∧ m0.abortAll (m0.ids.take (i + 1)) = (m0.abortAll (m0.ids.take i)).abort m0.ids[i] := by
  have hi2 : i < m0.opn.length := by rw [← ids_len]; exact hi
  have h1 := aborted hk i (by omega)
  refine ⟨?_, ?_⟩
  · have hq : m0.ids[i] = m0.opn[i].1 := ids_at m0 i _ _
    have hd : (m0.abortAll (m0.ids.take i)).opn = m0.opn[i] :: m0.opn.drop (i + 1) := by rw [h1.opn, List.drop_eq_getElem_cons hi2]
    exact endE_some (t := m0.opn[i].2) (by rw [hd, hq, look_cons, if_pos rfl])
  · unfold PSt.abortAll
    rw [List.take_succ_eq_append_getElem hi, List.foldl_append]
    rfl
theorem ids_rise {m : PSt} (hk : Ok m) (i : Nat) (hi : i + 1 < m.ids.length) : m.ids[i] < m.ids[i + 1] := by
  have h := hk.up
  have h2 : m.ids.Pairwise (· < ·) := by unfold PSt.ids; rw [List.pairwise_map]; exact h
  exact List.pairwise_iff_getElem.1 h2 i (i + 1) (by omega) hi (by omega)
theorem ids_wf {m : PSt} (hk : Ok m) (i : Nat) (hi : i < m.ids.length) : (Lit.int .i64 m.ids[i]).wf = true := by
  have hi2 : i < m.opn.length := by rw [← ids_len]; exact hi
  have hq : m.ids[i] = m.opn[i].1 := ids_at m i _ _
  have h1 := (hk.txn m.opn[i].1 m.opn[i].2 (hk.up.look (List.getElem_mem hi2))).id
  rw [hq]
  exact wf64 (by omega)
/-- Changes of those that have committed: no list is long. -/
theorem step_rows {m : PSt} (hk : Ok m) (o : Stp) (h : ∀ t ∈ m.done, t.length ≤ 2000) : ∀ t ∈ (m.step o).done, t.length ≤ 2000 := by
  by_cases k5 : o.kind = 5
  · unfold PSt.step
    rw [if_neg (by omega), if_neg (by omega), if_neg (by omega), if_neg (by omega), if_pos k5]
    unfold PSt.commit
    by_cases hE : m.endE o.id = 0
    · rw [if_pos hE]
      cases hl : look m.opn o.id with
      | none => rw [endE_none hl] at hE; cases hE
      | some t =>
        unfold PSt.over
        rw [if_neg (by simp), Ok.txn_look hl]
        intro s hs
        have hs2 : s ∈ m.done ++ [t.changes] := hs
        rw [List.mem_append, List.mem_singleton] at hs2
        rcases hs2 with hs2 | rfl
        · exact h s hs2
        · have h1 := (hk.txn o.id t hl).len
          have h2 := sumU_nonneg (fun n hn => (h1 n hn).1)
          have h3 := hk.sumU_le hl
          have h4 := (hk.txn o.id t hl).same
          omega
    · rw [if_neg hE]; exact h
  · have hd : (m.step o).done = m.done := by
      unfold PSt.step
      split
      · unfold PSt.begin_; split <;> rfl
      split
      · exact done_get _ _ _
      split
      · exact done_changed _ _ _
      split
      · unfold PSt.delete
        split
        · rw [done_changed, done_get]
        · exact done_get _ _ _
      split
      · unfold PSt.abort PSt.over
        split <;> rfl
      split
      · unfold PSt.check; split <;> rfl
      split
      · unfold PSt.renew; split <;> rfl
      · rfl
    rw [hd]; exact h
theorem run_rows {m : PSt} (hk : Ok m) (h : ∀ t ∈ m.done, t.length ≤ 2000) : ∀ (l : List Stp), (∀ o ∈ l, OkStp o) → ∀ t ∈ (m.run l).done, t.length ≤ 2000 := by
  intro l
  induction l generalizing m with
  | nil => intro _; exact h
  | cons a r ih => intro hl; exact ih (hk.step a (hl a (List.mem_cons_self ..))) (step_rows hk a h) (fun o ho => hl o (List.mem_cons_of_mem _ ho))
theorem cnt_le (l : List (List Chg)) (h : ∀ t ∈ l, t.length ≤ 2000) : cntC l ≤ 2000 * l.length := by
  unfold cntC
  induction l with
  | nil => simp
  | cons a r ih =>
    have h1 := ih (fun t ht => h t (List.mem_cons_of_mem _ ht))
    have h2 := h a (List.mem_cons_self ..)
    rw [List.map_cons, List.sum_cons, List.length_cons]
    omega
theorem ids_row {w : World} {base : Nat} {ok : Nat → Prop} {v : Value} {xs : List Int} (h : Kd.R (Kd.int .i64) 3 w base ok v xs) : (v = .slice none 0 0 ∧ xs = []) ∨ ∃ g cap cur, v = .slice (some ⟨g, 0, none⟩) xs.length cap ∧ base ≤ g ∧ w.heap[g]? = some (.cells cur 3 (0, 0)) ∧ ∀ j (hj : j < xs.length), cur[j]? = some (.int .i64 xs[j]) := by
  have hown := Kd.own_of_R h
  rcases hown.2 with ⟨he, h0⟩ | ⟨g, cap, cur, he, hbg, hg, hnc, hcm, hcs, htk⟩
  · exact .inl ⟨he, List.length_eq_zero_iff.1 h0⟩
  · refine .inr ⟨g, cap, cur, he, hbg, hg, fun j hj => ?_⟩
    have h1 : (encs (Value.int .i64) xs)[j]? = some (.int .i64 xs[j]) := by simp [encs, hj]
    rw [← htk, List.getElem?_take_of_lt (by omega), Array.getElem?_toList] at h1
    exact h1
end Go.Proofs.YtcdfdckdodgbpaaGreatDoor.QA

/-! PureEntries -/
namespace Go.Proofs.YtcdfdckdodgbpaaGreatDoor.QA
open Go.RowKit Go.Maps Go.Proofs.YtcdfdckdodgbpaaGreatDoorW.PrintWords Go.Proofs.YtcdfdckdodgbpaaGreatDoorW.PrintLast Go.Proofs.YtcdfdckdodgbpaaGreatDoorW.PrintMore
set_option linter.unusedVariables false
set_option linter.unusedSimpArgs false
theorem w64t {n : Nat} (h : n < 5864062014805) : wrap64 ((n : Int) + 1) = ((n + 1 : Nat) : Int) := by unfold wrap64; omega
theorem entries_self (a : List S58) (ha : a.length < 5864062014805) : ∃ k, tidemarklaw18_entries.f k a a = some true := by
  have h : ∀ n i : Nat, i + n = a.length → tidemarklaw18_entries.l0 (n + 1) a a (i : Int) = some true := by
    intro n
    induction n with
    | zero => intro i hi; unfold tidemarklaw18_entries.l0; rw [if_neg (by omega)]
    | succ n ih =>
      intro i hi
      unfold tidemarklaw18_entries.l0
      rw [if_pos (by omega), if_pos (by omega), if_pos (by omega), if_neg (by simp), w64t (by omega)]
      exact ih (i + 1) (by omega)
  refine ⟨a.length + 1, ?_⟩
  unfold tidemarklaw18_entries.f
  rw [if_pos rfl]
  exact h a.length 0 (by omega)
end Go.Proofs.YtcdfdckdodgbpaaGreatDoor.QA
