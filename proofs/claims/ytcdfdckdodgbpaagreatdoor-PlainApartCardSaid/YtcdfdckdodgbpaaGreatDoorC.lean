/- A transaction's rows grow: its lengths, its changes. A slot's bytes and how long a change of it is: plain facts. changed walked. changed walked: a change is taken, or refused. What holds of a state holds behind each operation: plain. -/
import Derived.Test.YtcdfdckdodgbpaaGreatDoorB
import Derived.Test.YtcdfdckdodgbpaaGreatDoorA
/-! TRowsT -/
namespace Go.Proofs.YtcdfdckdodgbpaaGreatDoor.QA
open Go.RowKit Go.Maps Go.Proofs.YtcdfdckdodgbpaaGreatDoorW.PrintWords Go.Proofs.YtcdfdckdodgbpaaGreatDoorW.PrintLast Go.Proofs.YtcdfdckdodgbpaaGreatDoorW.PrintMore
set_option linter.unusedVariables false
set_option linter.unusedSimpArgs false
def Lay.more (L : Lay) (n0 n1 : Nat) (r : Role) : Lay := { L with role := fun k => if n0 ≤ k ∧ k < n1 then r else L.role k }
theorem more_old {L : Lay} {n0 n1 k : Nat} {r : Role} (h : k < n0) : (L.more n0 n1 r).role k = L.role k := by
  show (if n0 ≤ k ∧ k < n1 then r else L.role k) = L.role k
  rw [if_neg (by omega)]
theorem St.setT2 {w w1 : World} {L : Lay} {m : PSt} {id : Int} {t t' : Txn} {n1 : Nat} {r : Role} (h : St w L none2 m) (hu : Up m.opn) (hl : look m.opn id = some t) {S : Nat → Prop} (hm : Mv w w1 S) (hS : ∀ k, S k → ∃ x, L.role k = .t id x)
    (hn : n1 ≤ w1.heap.size) (ht : Tx w1 (L.more w.heap.size n1 r) none2 id t') : St w1 (L.more w.heap.size n1 r) none2 (m.setT id t') ∧ Goes w L w1 (L.more w.heap.size n1 r) := by
  obtain ⟨⟨vd, c⟩, tx⟩ := h
  have key : ∀ k q, k < w.heap.size → L.role k = q → (∀ x, q ≠ .t id x) → w1.heap[k]? = w.heap[k]? := fun k q hlt hr hne => hm.block k hlt (fun hs => by
    obtain ⟨x, hx⟩ := hS k hs
    exact hne x (hr ▸ hx))
  have hr : ∀ k q, k < w.heap.size → L.role k = q → (L.more w.heap.size n1 r).role k = q := fun k q hk e => (more_old hk).trans e
  have hmap : ((put m.opn id t').map fun q => (q.1, L.tb q.1)) = m.opn.map fun q => (q.1, L.tb q.1) := by
    refine Up.ext ((hu.put id t').map _) (hu.map _) (fun x => ?_)
    rw [look_map (fun x _ => L.tb x), look_map (fun x _ => L.tb x), look_put hu]
    by_cases e : x = id
    · subst e; rw [if_pos rfl, hl]; rfl
    · rw [if_neg e]
  refine ⟨⟨⟨vd, ?_⟩, fun i s hi => ?_⟩, ⟨hm.mono (fun k hk => by obtain ⟨x, hx⟩ := hS k hk; rw [hx]; simp), fun k hk ho => hr k _ hk ho, rfl, fun k hk ho => hr k _ hk ho⟩⟩
  · exact ⟨(key _ _ (lt_of_blk c.cell) c.rp (by simp)).trans c.cell, done_mono c.done (fun k hlt hk => key k _ hlt hk (by simp)) (fun k hlt hk => hr k _ hlt hk), hr _ _ (lt_of_blk c.cell) c.rp, hr _ _ c.open_.lt c.ro, hr _ _ (lt_of_blk c.leftA) c.rg,
      by show OM _ _ _ _ ((put m.opn id t').map fun q => (q.1, L.tb q.1)); rw [hmap]; exact c.open_.block (key _ _ c.open_.lt c.ro (by simp)),
      (key _ _ (lt_of_blk c.leftA) c.rg (by simp)).trans c.leftA, fun i cc hi => (c.left i cc hi).mono (fun k hlt hk => key k _ hlt hk (by simp)) (fun k hlt hk => hr k _ hlt hk) rfl, fun k hk => (by
        show (if w.heap.size ≤ k ∧ k < n1 then r else L.role k) = _
        rw [if_neg (by omega)]
        exact c.fresh k (Nat.le_trans hm.size hk)),
      c.g0.block (key _ _ c.g0.lt c.r0 (by simp)), hr _ _ c.g0.lt c.r0⟩
  · have hi2 : look (put m.opn id t') i = some s := hi
    rw [look_put hu] at hi2
    by_cases e : i = id
    · subst e
      rw [if_pos rfl] at hi2
      injection hi2 with hi2
      subst hi2
      exact ht
    · rw [if_neg e] at hi2
      exact (tx i s hi2).mono (fun k x hlt hx => key k _ hlt hx (fun y h2 => by injection h2 with h3; exact e h3)) (fun k x hlt hx => hr k _ hlt hx) rfl rfl (fun _ _ => rfl)
/-- The lengths grow by one. -/
theorem St.addLen {w w1 w2 : World} {L : Lay} {m : PSt} {id n : Int} {t : Txn} {vl vc v1 : Value} (h : St w L none2 m) (hu : Up m.opn) (hl : look m.opn id = some t) (hT : TxC w L id t vl vc)
    (hR : Kd.R (Kd.int .i64) 3 w1 0 (fun k => L.role k = .t id .lens ∨ w.heap.size ≤ k) v1 (t.lengths ++ [n])) (hm : Mv w w1 (fun k => some k = vl.ownBlock))
    (hc : w2.heap[L.tb id]? = some (.cells #[.map (some (L.pb id)), v1, vc] 82 (0, 0))) (hm2 : Mv w1 w2 (fun k => k = L.tb id)) :
    St w2 (L.more w.heap.size w1.heap.size (.t id .lens)) none2 (m.setT id { t with lengths := t.lengths ++ [n] }) ∧ Goes w L w2 (L.more w.heap.size w1.heap.size (.t id .lens)) ∧
      TxC w2 (L.more w.heap.size w1.heap.size (.t id .lens)) id { t with lengths := t.lengths ++ [n] } v1 vc := by
  have hd : ∀ k, some k = vl.ownBlock → L.role k = .t id .lens := fun k hk => hT.lens.1 k hk.symm
  have hmw : Mv w w2 (fun k => some k = vl.ownBlock ∨ k = L.tb id) := (hm.mono (fun k hk => .inl hk)).then_ hm2 (fun k hk => .inl (.inr hk))
  have key : ∀ k q, k < w.heap.size → L.role k = q → q ≠ .t id .lens → q ≠ .t id .cell → w2.heap[k]? = w.heap[k]? := fun k q hlt e h1 h2 => hmw.block k hlt (fun hs => by
    rcases hs with hs | hs
    · exact h1 (e ▸ hd k hs)
    · subst hs; exact h2 (e ▸ hT.rt))
  have hr : ∀ k q, k < w.heap.size → L.role k = q → (L.more w.heap.size w1.heap.size (.t id .lens)).role k = q := fun k q hk e => (more_old hk).trans e
  have hcl : ∀ pg c, look t.pages pg = some c → OM Tryz.prog u64S w (L.cb id pg) c := fun pg c hq => (h.tx id t hl).page pg c hq (fun h => h)
  have hC : TxC w2 (L.more w.heap.size w1.heap.size (.t id .lens)) id { t with lengths := t.lengths ++ [n] } v1 vc := by
    refine ⟨hc, ?_, ?_, hr _ _ (lt_of_blk hT.cell) hT.rt, hr _ _ hT.pages.lt hT.rp, hT.pages.block (key _ _ hT.pages.lt hT.rp (by simp) (by simp)), fun pg c hq => hr _ _ (hcl pg c hq).lt (hT.rc pg c hq)⟩
    · have h1 := Kd.R_step (Kd.R_bound hR) (fun k ho hlt => hm2.block k hlt (fun hk => by
        subst hk
        rcases ho.1 with h3 | h3
        · rw [hT.rt] at h3; injection h3 with _ h4; cases h4
        · have := lt_of_blk hT.cell; omega))
      refine Kd.R_mono h1 (fun k ho => ?_)
      show (if w.heap.size ≤ k ∧ k < w1.heap.size then _ else L.role k) = _
      rcases ho.1 with h3 | h3
      · by_cases e : w.heap.size ≤ k ∧ k < w1.heap.size
        · rw [if_pos e]
        · rw [if_neg e]; exact h3
      · rw [if_pos ⟨h3, ho.2.2.1⟩]
    · exact Kd.R_mono (Kd.R_step (Kd.R_bound hT.chgs) (fun k ho hlt => key k _ hlt ho.1 (by simp) (by simp))) (fun k ho => hr k _ ho.2.2.1 ho.1)
  have hs := h.setT2 (n1 := w1.heap.size) (r := .t id .lens) hu hl hmw (fun k hk => by
    rcases hk with hk | hk
    · exact ⟨_, hd k hk⟩
    · exact ⟨_, hk ▸ hT.rt⟩) hm2.size ⟨⟨v1, vc, hC⟩, fun pg c hq _ => (hcl pg c hq).block (key _ _ (hcl pg c hq).lt (hT.rc pg c hq) (by simp) (by simp))⟩
  exact ⟨hs.1, hs.2, hC⟩
/-- The changes grow by one. -/
theorem St.addChg {w w1 w2 : World} {L : Lay} {m : PSt} {id : Int} {x : Chg} {t : Txn} {vl vc v1 : Value} (h : St w L none2 m) (hu : Up m.opn) (hl : look m.opn id = some t) (hT : TxC w L id t vl vc)
    (hR : Kd.R kChg 52 w1 0 (fun k => L.role k = .t id .chgs ∨ w.heap.size ≤ k) v1 (t.changes ++ [x])) (hm : Mv w w1 (fun k => some k = vc.ownBlock))
    (hc : w2.heap[L.tb id]? = some (.cells #[.map (some (L.pb id)), vl, v1] 82 (0, 0))) (hm2 : Mv w1 w2 (fun k => k = L.tb id)) :
    St w2 (L.more w.heap.size w1.heap.size (.t id .chgs)) none2 (m.setT id { t with changes := t.changes ++ [x] }) ∧ Goes w L w2 (L.more w.heap.size w1.heap.size (.t id .chgs)) ∧
      TxC w2 (L.more w.heap.size w1.heap.size (.t id .chgs)) id { t with changes := t.changes ++ [x] } vl v1 := by
  have hd : ∀ k, some k = vc.ownBlock → L.role k = .t id .chgs := fun k hk => hT.chgs.1 k hk.symm
  have hmw : Mv w w2 (fun k => some k = vc.ownBlock ∨ k = L.tb id) := (hm.mono (fun k hk => .inl hk)).then_ hm2 (fun k hk => .inl (.inr hk))
  have key : ∀ k q, k < w.heap.size → L.role k = q → q ≠ .t id .chgs → q ≠ .t id .cell → w2.heap[k]? = w.heap[k]? := fun k q hlt e h1 h2 => hmw.block k hlt (fun hs => by
    rcases hs with hs | hs
    · exact h1 (e ▸ hd k hs)
    · subst hs; exact h2 (e ▸ hT.rt))
  have hr : ∀ k q, k < w.heap.size → L.role k = q → (L.more w.heap.size w1.heap.size (.t id .chgs)).role k = q := fun k q hk e => (more_old hk).trans e
  have hcl : ∀ pg c, look t.pages pg = some c → OM Tryz.prog u64S w (L.cb id pg) c := fun pg c hq => (h.tx id t hl).page pg c hq (fun h => h)
  have hC : TxC w2 (L.more w.heap.size w1.heap.size (.t id .chgs)) id { t with changes := t.changes ++ [x] } vl v1 := by
    refine ⟨hc, ?_, ?_, hr _ _ (lt_of_blk hT.cell) hT.rt, hr _ _ hT.pages.lt hT.rp, hT.pages.block (key _ _ hT.pages.lt hT.rp (by simp) (by simp)), fun pg c hq => hr _ _ (hcl pg c hq).lt (hT.rc pg c hq)⟩
    · exact Kd.R_mono (Kd.R_step (Kd.R_bound hT.lens) (fun k ho hlt => key k _ hlt ho.1 (by simp) (by simp))) (fun k ho => hr k _ ho.2.2.1 ho.1)
    · have h1 := Kd.R_step (Kd.R_bound hR) (fun k ho hlt => hm2.block k hlt (fun hk => by
        subst hk
        rcases ho.1 with h3 | h3
        · rw [hT.rt] at h3; injection h3 with _ h4; cases h4
        · have := lt_of_blk hT.cell; omega))
      refine Kd.R_mono h1 (fun k ho => ?_)
      show (if w.heap.size ≤ k ∧ k < w1.heap.size then _ else L.role k) = _
      rcases ho.1 with h3 | h3
      · by_cases e : w.heap.size ≤ k ∧ k < w1.heap.size
        · rw [if_pos e]
        · rw [if_neg e]; exact h3
      · rw [if_pos ⟨h3, ho.2.2.1⟩]
  have hs := h.setT2 (n1 := w1.heap.size) (r := .t id .chgs) hu hl hmw (fun k hk => by
    rcases hk with hk | hk
    · exact ⟨_, hd k hk⟩
    · exact ⟨_, hk ▸ hT.rt⟩) hm2.size ⟨⟨vl, v1, hC⟩, fun pg c hq _ => (hcl pg c hq).block (key _ _ (hcl pg c hq).lt (hT.rc pg c hq) (by simp) (by simp))⟩
  exact ⟨hs.1, hs.2, hC⟩
end Go.Proofs.YtcdfdckdodgbpaaGreatDoor.QA

/-! TSlot -/
namespace Go.Proofs.YtcdfdckdodgbpaaGreatDoor.QA
open Go.RowKit Go.Maps Go.Proofs.YtcdfdckdodgbpaaGreatDoorW.PrintWords Go.Proofs.YtcdfdckdodgbpaaGreatDoorW.PrintLast Go.Proofs.YtcdfdckdodgbpaaGreatDoorW.PrintMore
set_option linter.unusedVariables false
set_option linter.unusedSimpArgs false
def slotT (key value : Int) : List Int := [1, 0, 0, 0, shr .i64 key 0 % 256, shr .i64 key 8 % 256, shr .i64 key 16 % 256, shr .i64 key 24 % 256, shr .u64 value 0 % 256, shr .u64 value 8 % 256, shr .u64 value 16 % 256, shr .u64 value 24 % 256, shr .u64 value 32 % 256, shr .u64 value 40 % 256, shr .u64 value 48 % 256, shr .u64 value 56 % 256]
theorem slot_some (key value : Int) (b : Bool) : plain_slot.f 20 key value b = some (if b then slotT key value else List.replicate 16 0) := by
  cases b with
  | false => rfl
  | true => simp [plain_slot.f, plain_slot.l0, plain_slot.l1, wrap64, slotT, List.replicate]
theorem slotB_eq (key value : Int) (b : Bool) : slotB key value b = if b then slotT key value else List.replicate 16 0 := by
  unfold slotB
  rw [slot_some]
  rfl
theorem slotB_length (key value : Int) (b : Bool) : (slotB key value b).length = 16 := by
  rw [slotB_eq]
  cases b <;> rfl
theorem w64s {n : Int} (h : -9223372036854775808 ≤ n ∧ n ≤ 9223372036854775807) : wrap64 n = n := by unfold wrap64; omega
theorem length_l0 (a b : List Int) (n : Nat) (ha : a.length = n) (hb : b.length = n) (hn : n ≤ 1000) : ∀ (k j : Nat) (f l : Int), j + k = n + 1 → j ≤ n → ((f = -1 ∧ l = -1) ∨ (0 ≤ f ∧ f ≤ l ∧ l < (j : Int))) →
    ∃ r, plain_length.l0 k a b f l (n : Int) (j : Int) = some r ∧ 0 ≤ r ∧ r ≤ (n : Int) ∧ (r = 0 ↔ (f = -1 ∧ ∀ i : Nat, j ≤ i → i < n → rd a (i : Int) = rd b (i : Int)))
  | 0, j, f, l, h, hj, _ => by omega
  | k + 1, j, f, l, h, hj, hfl => by
    unfold plain_length.l0
    by_cases h1 : (j : Int) < (n : Int)
    · rw [if_pos h1, if_pos (by omega), if_pos (by rw [ha]; exact h1), if_pos (by rw [hb]; exact h1)]
      have hw : wrap64 ((j : Int) + 1) = ((j + 1 : Nat) : Int) := by rw [w64s (by omega)]; omega
      rw [hw]
      by_cases h2 : rd a (j : Int) = rd b (j : Int)
      · rw [if_pos h2]
        obtain ⟨r, e, h3, h4, h5⟩ := length_l0 a b n ha hb hn k (j + 1) f l (by omega) (by omega) (by omega)
        refine ⟨r, e, h3, h4, h5.trans ⟨fun h => ⟨h.1, fun i hi hin => ?_⟩, fun h => ⟨h.1, fun i hi hin => h.2 i (by omega) hin⟩⟩⟩
        by_cases e2 : i = j
        · rw [e2]; exact h2
        · exact h.2 i (by omega) hin
      · rw [if_neg h2]
        by_cases h6 : f < 0
        · rw [if_pos h6]
          obtain ⟨r, e, h3, h4, h5⟩ := length_l0 a b n ha hb hn k (j + 1) (j : Int) (j : Int) (by omega) (by omega) (by omega)
          refine ⟨r, e, h3, h4, h5.trans ⟨fun h => by omega, fun h => absurd (h.2 j (Nat.le_refl _) (by omega)) h2⟩⟩
        · rw [if_neg h6]
          obtain ⟨r, e, h3, h4, h5⟩ := length_l0 a b n ha hb hn k (j + 1) f (j : Int) (by omega) (by omega) (by omega)
          refine ⟨r, e, h3, h4, h5.trans ⟨fun h => by omega, fun h => absurd (h.2 j (Nat.le_refl _) (by omega)) h2⟩⟩
    · rw [if_neg h1]
      rcases hfl with ⟨rfl, rfl⟩ | ⟨h3, h4, h5⟩
      · exact ⟨0, by simp [wrap64, mn], by omega, by omega, ⟨fun _ => ⟨rfl, fun i hi hin => by omega⟩, fun _ => rfl⟩⟩
      · have e : mn 1 (wrap64 (l + 1)) = 1 := by rw [w64s (by omega)]; unfold mn; split <;> omega
        rw [e]
        refine ⟨wrap64 (wrap64 (l - f) + 1), rfl, ?_⟩
        rw [w64s (n := l - f) (by omega), w64s (by omega)]
        refine ⟨by omega, by omega, ⟨fun h => by omega, fun h => by omega⟩⟩
theorem lenB_ok (a b : List Int) (ha : a.length = 16) (hb : b.length = 16) : plain_length.f 20 a b = some (lenB a b) ∧ 0 ≤ lenB a b ∧ lenB a b ≤ 16 ∧ (lenB a b = 0 ↔ a = b) := by
  obtain ⟨r, e, h1, h2, h3⟩ := length_l0 a b 16 ha hb (by omega) 17 0 (-1) (-1) (by omega) (by omega) (.inl ⟨rfl, rfl⟩)
  have e2 : plain_length.f 17 a b = some r := by unfold plain_length.f; rw [ha]; exact e
  have e3 : plain_length.f 20 a b = some r := at_rounds (g := fun k => plain_length.f k a b) (fun k => plain_length.mono a b k) (by omega : 17 ≤ 20) e2
  have e4 : lenB a b = r := by unfold lenB; rw [e3]; rfl
  rw [e4]
  refine ⟨e3, h1, h2, h3.trans ⟨fun h => ?_, fun h => ⟨rfl, fun i _ _ => by rw [h]⟩⟩⟩
  apply List.ext_getElem (by omega)
  intro i h5 h6
  have := h.2 i (by omega) (by omega)
  simpa [rd, h5, h6] using this
end Go.Proofs.YtcdfdckdodgbpaaGreatDoor.QA

/-! TChanged -/
namespace Go.Proofs.YtcdfdckdodgbpaaGreatDoor.QA
open Go.RowKit Go.Maps Go.Proofs.YtcdfdckdodgbpaaGreatDoorW.PrintWords Go.Proofs.YtcdfdckdodgbpaaGreatDoorW.PrintLast Go.Proofs.YtcdfdckdodgbpaaGreatDoorW.PrintMore
set_option linter.unusedVariables false
set_option linter.unusedSimpArgs false
/-- A change lies in a box. -/
structure Xb (w : World) (g : Nat) (x : Chg) : Prop where
  cell : w.heap[g]? = some (.cells #[.int .i64 x.f0, .int .u64 x.f1, .bool x.f2] 52 (0, 0))
theorem Xb.cells {w : World} {g : Nat} {x : Chg} (h : Xb w g x) : w.cell? ⟨g, 0, none⟩ = some (.int .i64 x.f0) ∧ w.cell? ⟨g, 1, none⟩ = some (.int .u64 x.f1) ∧ w.cell? ⟨g, 2, none⟩ = some (.bool x.f2) :=
  ⟨blk_cell h.cell 0, blk_cell h.cell 1, blk_cell h.cell 2⟩
set_option maxHeartbeats 4000000 in
set_option maxRecDepth 100000 in
theorem changed_asked {w : World} {L : Lay} {m : PSt} (h : St w L none2 m) (hk : Ok m) (id : Int) (x : Chg) (hid : (Lit.int .i64 id).wf = true) (hky : (Lit.int .i64 x.f0).wf = true) (hE : m.askedE id x.f0 ≠ 0) :
    Calls Tryz.prog 37 #[.pointer (some ⟨L.p, 0, none⟩), .int .i64 id, .agg #[.int .i64 x.f0, .int .u64 x.f1, .bool x.f2]] w fun e w' => ∃ v n, e = .returned v ∧ Err w' (m.askedE id x.f0) n v ∧ Below w.heap.size w w' := by
  have BX := Aside0.mk (below_alloc (Below.refl w.heap.size w) (.cells #[.int .i64 x.f0, .int .u64 x.f1, .bool x.f2] 52))
  have HX := Aside0.mk (show Xb (w.alloc (.cells #[.int .i64 x.f0, .int .u64 x.f1, .bool x.f2] 52)) w.heap.size x from ⟨heap_alloc_new w _⟩)
  have HC := Aside0.mk (asked_bad (h.below BX.out) hk id x.f0 hid hky hE)
  obtain ⟨code, hcode⟩ : ∃ code, code = m.askedE id x.f0 := ⟨_, rfl⟩
  rw [← hcode] at HC ⊢
  clear h hk hid hky hE hcode
  go_enter Tryz.func37, Tryz.ntmps37
  go_upto_region 1 with fail
  obtain ⟨g, hg⟩ : ∃ g, g = w.heap.size := ⟨_, rfl⟩
  rw [← hg] at HX
  have e1 : (⟨w.heap.size, 0, none⟩ : Addr) = ⟨g, 0, none⟩ := by rw [hg]
  rw [e1]
  clear e1 hg
  generalize w.alloc (Obj.cells #[.int .i64 x.f0, .int .u64 x.f1, .bool x.f2] 52) = w0 at BX HX HC ⊢
  obtain ⟨x0, x1, x2⟩ := HX.out.cells
  go_wp2_with (go_at_call 35; refine HC.out.mono ?_; rintro e w1 ⟨v, n, rfl, he, hb⟩
               obtain ⟨tv, xv, hvx⟩ := he.not_nil
               subst hvx
               have E1 := Aside0.mk he
               have B1 := Aside0.mk (BX.out.trans (hb.mono BX.out.size))
               clear he hb)
  go_ret
  have hb4 := below_alloc (Below.refl w1.heap.size w1) (Obj.cells #[Value.string { data := #[99, 104, 97, 110, 103, 101] }, .iface tv xv] 103)
  exact ⟨_, n + 1, rfl, .met w1.heap.size n _ _ (heap_alloc_new w1 _) (E1.out.keep hb4), B1.out.trans (hb4.mono B1.out.size)⟩
/-- What stands before a changed page is written: a state, and the page's content beside it. -/
structure Near (w wc : World) (L L1 : Lay) (m : PSt) (id pg : Int) (x : Chg) : Prop where
  ex : ∃ (wb : World) (m' : PSt) (t' : Txn) (c' : Con) (L' : Lay), St wb L' none2 m' ∧ Goes w L wb L' ∧ look m'.opn id = some t' ∧ Up m'.opn ∧ t'.pages.length ≤ 16 ∧ m'.pages = m.pages ∧ L'.tb = L1.tb ∧ L'.cb = L1.cb ∧ L'.p = L.p ∧
    L'.role (L'.cb id pg) = .t id (.page pg) ∧ Mv wb wc (fun k => k = L'.cb id pg) ∧ OM Tryz.prog u64S wc (L'.cb id pg) c' ∧ m.changed id x = m'.setT id (t'.hold pg c')
theorem Near.below {w wc wd : World} {L L1 : Lay} {m : PSt} {id pg : Int} {x : Chg} (h : Near w wc L L1 m id pg x) (hb : Below wc.heap.size wc wd) : Near w wd L L1 m id pg x := by
  obtain ⟨wb, m', t', c', L', h1, h2, h3, h4, h5, h6, h7, h8, h9, h10, h11, h12, h13⟩ := h
  exact ⟨wb, m', t', c', L', h1, h2, h3, h4, h5, h6, h7, h8, h9, h10, h11.then_ (Mv.of_below hb (fun _ => False)) (fun k hk => hk.elim), h12.move (Mv.of_below hb (fun _ => False)) (fun h => h), h13⟩
theorem Near.finish {w wc w1 : World} {L L1 : Lay} {m : PSt} {id pg : Int} {x : Chg} {wb : World} {m' : PSt} {t' : Txn} {c' : Con} {L' : Lay} (h1 : St wb L' none2 m') (h2 : Goes w L wb L') (h3 : look m'.opn id = some t') (h4 : Up m'.opn)
    (h10 : L'.role (L'.cb id pg) = .t id (.page pg)) (h11 : Mv wb wc (fun k => k = L'.cb id pg)) (h12 : OM Tryz.prog u64S wc (L'.cb id pg) c') (h13 : m.changed id x = m'.setT id (t'.hold pg c'))
    (hp : OM Tryz.prog mapS w1 (L'.pb id) (put (t'.pages.map fun q => (q.1, L'.cb id q.1)) pg (L'.cb id pg))) (hm : Mv wc w1 (fun k => k = L'.pb id)) : St w1 L' none2 (m.changed id x) ∧ Goes w L w1 L' := by
  obtain ⟨vl, vc, hC⟩ := h1.tx_get h3
  have hpr := hC.rp
  have hne : L'.cb id pg ≠ L'.pb id := fun e => by rw [e, hpr] at h10; injection h10 with _ h2; cases h2
  have hmm : Mv wb w1 (fun k => k = L'.cb id pg ∨ k = L'.pb id) := (h11.mono (fun k hk => .inl hk)).then_ hm (fun k hk => .inl (.inr hk))
  rw [h13]
  refine ⟨h1.setT h4 h3 hmm (fun k hk => ?_) ((h1.tx id t' h3).hold h10 (h12.move hm (fun h => hne h)) hp hmm (fun k hk => ?_)), h2.trans (Goes.of_mv hmm (fun k hk => ?_))⟩
  · rcases hk with hk | hk
    · exact ⟨_, hk ▸ h10⟩
    · exact ⟨_, hk ▸ hpr⟩
  · rcases hk with hk | hk
    · exact .inr (hk ▸ h10)
    · exact .inl (hk ▸ hpr)
  · rcases hk with hk | hk
    · rw [hk, h10]; simp
    · rw [hk, hpr]; simp
end Go.Proofs.YtcdfdckdodgbpaaGreatDoor.QA

/-! TChange2 -/
namespace Go.Proofs.YtcdfdckdodgbpaaGreatDoor.QA
open Go.RowKit Go.Maps Go.Proofs.YtcdfdckdodgbpaaGreatDoorW.PrintWords Go.Proofs.YtcdfdckdodgbpaaGreatDoorW.PrintLast Go.Proofs.YtcdfdckdodgbpaaGreatDoorW.PrintMore
set_option linter.unusedVariables false
set_option linter.unusedSimpArgs false
attribute [local go_sem] max2_int min2_int max_two min_two
theorem xagg_below (w : World) (x : Chg) : Below w.heap.size w (w.alloc (.cells #[.int .i64 x.f0, .int .u64 x.f1, .bool x.f2] 52)) := below_alloc (Below.refl w.heap.size w) _
theorem Xb.goes {w w1 : World} {L L1 : Lay} {g : Nat} {x : Chg} (h : Xb w g x) (hg : Goes w L w1 L1) (ho : L.role g = .out) : Xb w1 g x ∧ L1.role g = .out :=
  ⟨⟨hg.mv.blk h.cell (fun h2 => h2.1 ho)⟩, hg.out g (blk_lt h.cell) ho⟩
theorem full_eq {m : PSt} {id : Int} {x : Chg} {c : Con} (hc : m.con id (x.f0.tmod m.pages) = c) : m.full id x = (!x.f2 && !(look c x.f0).isSome && decide ((c.length : Int) = m.slots)) := by unfold PSt.full; rw [hc]
/-- A still region's next operation: the goal is never the rest of the region (Lean unfolds that where nothing stops it). -/
theorem still_next {P : Program} {ops : Array Oper} {w : World} {Q : Act → Prop} {o : Oper} {rest : List Oper} {K : Act → Prop} {a : Act} (hK : ∀ a, wpStill P ops w Q (o :: rest) a → K a)
    (h : ∀ K' : Act → Prop, (∀ a, wpStill P ops w Q rest a → K' a) → if Region.wanted o (yielded ops a.tmps) then o.still P a w K' else K' (a.put o.dst undef)) : K a := hK a (wpStill_step h)
theorem still_end {P : Program} {ops : Array Oper} {w : World} {Q : Act → Prop} {K : Act → Prop} {a : Act} (hK : ∀ a, wpStill P ops w Q [] a → K a) (h : Q a) : K a := hK a h
theorem Xb.below {w w1 : World} {g : Nat} {x : Chg} (h : Xb w g x) (hb : Below w.heap.size w w1) : Xb w1 g x := ⟨(hb.block g (blk_lt h.cell)).trans h.cell⟩
theorem pages_le {m : PSt} (hk : Ok m) {id : Int} {t : Txn} (hl : look m.opn id = some t) : t.pages.length ≤ 16 := by
  have htl := hk.txn id t hl
  have hp := hk.pages
  have h2 : ∀ q ∈ t.pages, 0 ≤ q.1 ∧ q.1 < 16 := fun q hq => by
    have := htl.page q.1 q.2 (htl.up.look hq)
    omega
  have h3 := pig 16 (t.pages.map (·.1)) (by rw [List.Nodup, List.pairwise_map]; exact htl.up.imp (fun h e => by omega)) (fun x hx => by
    obtain ⟨q, hq, rfl⟩ := List.mem_map.1 hx
    exact h2 q hq)
  simpa using h3
theorem put_put {β : Type} {l : List (Int × β)} (h : Up l) (x : Int) (a b : β) : put (put l x a) x b = put l x b := by
  refine ((h.put x a).put x b).ext (h.put x b) (fun y => ?_)
  rw [look_put (h.put x a), look_put h, look_put h]
  by_cases e : y = x
  · rw [if_pos e, if_pos e]
  · rw [if_neg e, if_neg e, if_neg e]
set_option maxHeartbeats 8000000 in
set_option maxRecDepth 100000 in
theorem changed_full {w : World} {L : Lay} {m : PSt} (h : St w L none2 m) (hk : Ok m) (id : Int) (x : Chg) (hid : (Lit.int .i64 id).wf = true) (hky : (Lit.int .i64 x.f0).wf = true) (hE : m.askedE id x.f0 = 0) (hF : m.full id x = true) :
    Calls Tryz.prog 37 #[.pointer (some ⟨L.p, 0, none⟩), .int .i64 id, .agg #[.int .i64 x.f0, .int .u64 x.f1, .bool x.f2]] w fun e w' => ∃ v n, e = .returned v ∧ Err w' 42 n v ∧ ∃ L', St w' L' none2 m ∧ Goes w L w' L' := by
  have BX := Aside0.mk (xagg_below w x)
  have HX := Aside0.mk (show Xb (w.alloc (.cells #[.int .i64 x.f0, .int .u64 x.f1, .bool x.f2] 52)) w.heap.size x from ⟨heap_alloc_new w _⟩)
  have HFR := Aside0.mk (show L.role w.heap.size = .out from h.c.elim fun _ c => c.fresh _ (Nat.le_refl _))
  have HC := Aside0.mk (asked_ok (h.below BX.out) hk id x.f0 hid hky hE)
  obtain ⟨c, hc⟩ : ∃ c, c = m.con id (x.f0.tmod m.pages) := ⟨_, rfl⟩
  rw [full_eq hc.symm] at hF
  rw [← hc] at HC
  obtain ⟨pg, hpg⟩ : ∃ pg, pg = x.f0.tmod m.pages := ⟨_, rfl⟩
  rw [← hpg] at HC
  have hf : x.f2 = false ∧ (look c x.f0).isSome = false ∧ ((c.length : Int) == m.slots) = true := by
    simp only [Bool.and_eq_true, Bool.not_eq_true', decide_eq_true_eq] at hF
    exact ⟨hF.1.1, hF.1.2, beq_iff_eq.mpr hF.2⟩
  obtain ⟨f2, hth, hln⟩ := hf
  have HY := Aside0.mk hky
  have HL0 := Aside0.mk hth
  have hg0 : x.f2 = false := f2
  clear h hk hid hky hE hF hc hpg f2
  obtain ⟨k, v, gn⟩ := x
  dsimp only at hg0 hth hln HC HX BX HY HL0 ⊢
  subst hg0
  go_enter Tryz.func37, Tryz.ntmps37
  go_upto_region 1 with fail
  obtain ⟨g, hg⟩ : ∃ g, g = w.heap.size := ⟨_, rfl⟩
  have HG := Aside0.mk hg
  rw [← hg] at HX HFR
  have e1 : (⟨w.heap.size, 0, none⟩ : Addr) = ⟨g, 0, none⟩ := by rw [hg]
  rw [e1]
  clear e1 hg
  generalize w.alloc (Obj.cells #[.int .i64 k, .int .u64 v, .bool false] 52) = w0 at BX HX HC ⊢
  obtain ⟨x0, x1, x2⟩ := HX.out.cells
  dsimp only at x0 x1 x2
  go_upto_if 52 with (first
    | (go_at_call 35; refine HC.out.mono ?_; rintro e w1 ⟨L1, rfl, hs, hg, hr, ho⟩
       have S1 := Aside0.mk hs
       have G1 := Aside0.mk ((Goes.of_below (L := L) BX.out).trans hg)
       have GX := Aside0.mk hg
       have X1 := Aside0.mk (HX.out.goes hg HFR.out)
       have y0 : w1.cell? ⟨g, 0, none⟩ = some (.int .i64 k) := X1.out.1.cells.1
       have R1 := Aside0.mk hr
       have O1 := Aside0.mk ho
       clear hs hg hr ho)
    | (at_lookup; refine om_look_ok rfl _ _ 75 rfl 47 Tryz.underlying75 (zero49 _) rfl O1.out rfl HY.out (v := .int .u64 ((look c k).getD 0)) (ok := false) (by cases look c k <;> rfl) HL0.out ?_))
  have SD := Aside0.mk S1.out.drew
  have OD := Aside0.mk (O1.out.move (Mv.of_below (below_drew (Below.refl _ _)) (fun _ => False)) (fun h => h))
  have hlen := fun ty => OD.out.own.len Tryz.underlying75 ty
  rw [dat_size] at hlen
  obtain ⟨d0, d1, d2, d4, d5, d6, d7, d8⟩ := SD.out.cells
  rw [G1.out.p] at d1
  have dy2 : w1.drew.cell? ⟨g, 2, none⟩ = some (.bool false) := X1.out.1.cells.2.2
  clear d0 d2 d4 d5 d6 d7 d8 y0 x0 x1 x2
  go_upto_region 5 with fail
  go_still (by kernel_rfl)
  change Exit.then _ _ _ _ w1.drew
  clear hlen d1 dy2
  have GD := Aside0.mk (G1.out.trans (Goes.of_below (L := L1) (below_drew (Below.refl w1.heap.size w1))))
  generalize w1.drew = wd at SD OD GD ⊢
  go_wp2_with (go_at_call 46; refine (refused44 42 _).mono ?_; rintro e w3 ⟨v3, rfl, he, hb⟩
               have E1 := Aside0.mk he
               have B1 := Aside0.mk hb
               clear he hb)
  go_ret
  exact ⟨v3, 0, rfl, E1.out, L1, SD.out.below B1.out, GD.out.trans (Goes.of_below B1.out)⟩
end Go.Proofs.YtcdfdckdodgbpaaGreatDoor.QA

/-! TOk -/
namespace Go.Proofs.YtcdfdckdodgbpaaGreatDoor.QA
open Go.RowKit Go.Maps Go.Proofs.YtcdfdckdodgbpaaGreatDoorW.PrintWords Go.Proofs.YtcdfdckdodgbpaaGreatDoorW.PrintLast Go.Proofs.YtcdfdckdodgbpaaGreatDoorW.PrintMore
set_option linter.unusedVariables false
set_option linter.unusedSimpArgs false
theorem OkC.mono {m m' : PSt} {c : Con} {pg : Int} (h : OkC m c pg) (h1 : m'.slots = m.slots) (h2 : m'.keys = m.keys) (h3 : m'.pages = m.pages) : OkC m' c pg :=
  ⟨h.up, by rw [h1]; exact h.len, fun p hp => by rw [h2, h3]; exact h.key p hp, h.val⟩
theorem OkT.mono {m m' : PSt} {id : Int} {t : Txn} (h : OkT m id t) (h1 : m'.slots = m.slots) (h2 : m'.keys = m.keys) (h3 : m'.pages = m.pages) : OkT m' id t :=
  ⟨h.id, h.up, fun pg c hl => by have h4 := h.page pg c hl; rw [h3]; exact ⟨h4.1, h4.2.1, h4.2.2.mono h1 h2 h3⟩, h.len, h.same⟩
theorem Ok.setT {m : PSt} (h : Ok m) {id : Int} {t t' : Txn} (hl : look m.opn id = some t) (ht : OkT m id t') (u : Int) (hu : 0 ≤ u) (hr : u + m.kept + keepsT t' ≤ m.log + keepsT t)
    (hlk : ∀ pg, holds t' pg = true → ∀ i s, look m.opn i = some s → holds s pg = true → i = id) : Ok { m.setT id t' with used := u } := by
  refine ⟨h.pages, h.slots, h.log, h.table, h.keys, h.up.put id t', ?_, ?_, h.left, ?_, hu, ?_, ?_⟩
  · intro i s hi
    have hi2 : look (put m.opn id t') i = some s := hi
    rw [look_put h.up] at hi2
    by_cases e : i = id
    · subst e; rw [if_pos rfl] at hi2; injection hi2 with hi2; subst hi2; exact ht.mono rfl rfl rfl
    · rw [if_neg e] at hi2; exact (h.txn i s hi2).mono rfl rfl rfl
  · show ((put m.opn id t').length : Int) ≤ m.table
    rw [length_put_some h.up hl]; exact h.size
  · intro i c hi; exact (h.page i c hi).mono rfl rfl rfl
  · show u + keptL (put m.opn id t') ≤ m.log
    have := keptL_put h.up hl (t' := t')
    unfold PSt.kept at hr
    omega
  · intro i s j s' pg hi hj h1 h2
    have hi2 : look (put m.opn id t') i = some s := hi
    have hj2 : look (put m.opn id t') j = some s' := hj
    rw [look_put h.up] at hi2 hj2
    by_cases e : i = id <;> by_cases e2 : j = id
    · rw [e, e2]
    · rw [if_pos e] at hi2; rw [if_neg e2] at hj2; injection hi2 with hi2; subst hi2; rw [e]; exact (hlk pg h1 j s' hj2 h2).symm
    · rw [if_neg e] at hi2; rw [if_pos e2] at hj2; injection hj2 with hj2; subst hj2; rw [e2]; exact hlk pg h2 i s hi2 h1
    · rw [if_neg e] at hi2; rw [if_neg e2] at hj2; exact h.lock i s j s' pg hi2 hj2 h1 h2
theorem asked_free {m : PSt} (h : Ok m) {id key : Int} (hE : m.askedE id key = 0) {i : Int} {s : Txn} (hi : look m.opn i = some s) (hh : holds s (key.tmod m.pages) = true) : i = id := by
  have h1 := holder_some h hi hh
  have h2 := (askedE_ok hE).2.2
  have h3 := (h.txn i s hi).id.1
  omega
theorem con_ok {m : PSt} (h : Ok m) {id key : Int} {t : Txn} (hE : m.askedE id key = 0) (hl : look m.opn id = some t) : OkC m (m.con id (key.tmod m.pages)) (key.tmod m.pages) := by
  unfold PSt.con
  rw [Ok.txn_look hl]
  cases hp : look t.pages (key.tmod m.pages) with
  | some c => exact ((h.txn id t hl).page _ c hp).2.2
  | none =>
    have h1 := page_range h (askedE_ok hE).2.1.1
    have hlt : (key.tmod m.pages).toNat < m.left.length := by have := h.left; omega
    have h2 := h.page (key.tmod m.pages).toNat (m.left[(key.tmod m.pages).toNat]) (List.getElem?_eq_getElem hlt)
    rw [show ((key.tmod m.pages).toNat : Int) = key.tmod m.pages from by omega] at h2
    show OkC m (m.left.getD (key.tmod m.pages).toNat []) _
    rw [show m.left.getD (key.tmod m.pages).toNat [] = m.left[(key.tmod m.pages).toNat] from by simp [hlt]]
    exact h2
theorem OkT.holdC {m : PSt} {id pg : Int} {t : Txn} {c : Con} (h : OkT m id t) (hc : OkC m c pg) (h1 : 0 ≤ pg ∧ pg < m.pages) (ls : List Int) (cs : List Chg) (hls : ∀ n ∈ ls, 1 ≤ n ∧ n ≤ 16) (hcs : cs.length = ls.length) : OkT m id ⟨put t.pages pg c, ls, cs⟩ := by
  refine ⟨h.id, h.up.put pg c, fun q d hq => ?_, hls, hcs⟩
  have hq2 : look (put t.pages pg c) q = some d := hq
  rw [look_put h.up] at hq2
  by_cases e : q = pg
  · subst e; rw [if_pos rfl] at hq2; injection hq2 with hq2; subst hq2; exact ⟨h1.1, h1.2, hc⟩
  · rw [if_neg e] at hq2; exact h.page q d hq2
theorem hold_lock {m : PSt} (h : Ok m) {id key : Int} {t : Txn} (hE : m.askedE id key = 0) (hl : look m.opn id = some t) (c : Con) (ls : List Int) (cs : List Chg) :
    ∀ pg, holds ⟨put t.pages (key.tmod m.pages) c, ls, cs⟩ pg = true → ∀ i s, look m.opn i = some s → holds s pg = true → i = id := by
  intro pg h1 i s hi h2
  unfold holds at h1
  rw [look_put (h.txn id t hl).up] at h1
  by_cases e : pg = key.tmod m.pages
  · rw [e] at h2; exact asked_free h hE hi h2
  · rw [if_neg e] at h1
    exact h.lock i s id t pg hi hl h2 h1
theorem Ok.get {m : PSt} (h : Ok m) (id key : Int) : Ok (m.get id key) := by
  unfold PSt.get
  by_cases hE : m.askedE id key = 0
  · rw [if_pos hE]
    obtain ⟨t, hl⟩ := (askedE_ok hE).1
    rw [Ok.txn_look hl]
    exact h.setT hl ((h.txn id t hl).holdC (con_ok h hE hl) (page_range h (askedE_ok hE).2.1.1) _ _ (h.txn id t hl).len (h.txn id t hl).same) m.used h.used (by
      show m.used + m.kept + keepsT t ≤ m.log + keepsT t
      have := h.room; omega) (hold_lock h hE hl _ _ _)
  · rw [if_neg hE]; exact h
theorem lenC_ok {m : PSt} (id : Int) (x : Chg) : 0 ≤ m.lenC id x ∧ m.lenC id x ≤ 16 := by
  have h := lenB_ok (slotB x.f0 ((look (m.con id (x.f0.tmod m.pages)) x.f0).getD 0) (look (m.con id (x.f0.tmod m.pages)) x.f0).isSome) (slotB x.f0 x.f1 (!x.f2)) (slotB_length _ _ _) (slotB_length _ _ _)
  exact ⟨h.2.1, h.2.2.1⟩
theorem app_ok {m : PSt} {c : Con} {pg : Int} {x : Chg} (h : OkC m c pg) (hk : 0 ≤ x.f0 ∧ x.f0 ≤ m.keys - 1) (hpg : x.f0.tmod m.pages = pg) (hv : (Lit.int .u64 x.f1).wf = true) (hF : (!x.f2 && !(look c x.f0).isSome && decide ((c.length : Int) = m.slots)) = false) : OkC m (app c x) pg := by
  unfold app
  cases hg : x.f2 with
  | true =>
    rw [if_pos rfl]
    refine ⟨h.up.del _, ?_, fun p hp => h.key p ((mem_del _ _ _).1 hp).1, fun p hp => h.val p ((mem_del _ _ _).1 hp).1⟩
    have h1 := h.len
    have h2 : (del c x.f0).length ≤ c.length := List.length_filter_le _ _
    omega
  | false =>
    rw [if_neg (by simp)]
    refine ⟨h.up.put _ _, ?_, fun p hp => ?_, fun p hp => ?_⟩
    · have h1 := h.len
      cases hl : look c x.f0 with
      | some d => rw [length_put_some h.up hl]; exact h1
      | none =>
        rw [length_put_none hl]
        rw [hg, hl] at hF
        have h3 : ¬ ((c.length : Int) = m.slots) := by simpa using hF
        push_cast
        omega
    · rcases (mem_put _ _ _ _).1 hp with rfl | hp
      · exact ⟨hk.1, by show x.f0 < m.keys; omega, hpg⟩
      · exact h.key p hp.1
    · rcases (mem_put _ _ _ _).1 hp with rfl | hp
      · exact hv
      · exact h.val p hp.1
theorem del_lock {m : PSt} (h : Ok m) (id : Int) : ∀ i s j s' pg, look (del m.opn id) i = some s → look (del m.opn id) j = some s' → holds s pg = true → holds s' pg = true → i = j := by
  intro i s j s' pg hi hj
  rw [look_del h.up] at hi hj
  by_cases e : i = id
  · rw [if_pos e] at hi; cases hi
  · by_cases e2 : j = id
    · rw [if_pos e2] at hj; cases hj
    · rw [if_neg e] at hi; rw [if_neg e2] at hj; exact h.lock i s j s' pg hi hj
theorem Ok.over {m : PSt} (h : Ok m) {id : Int} {t : Txn} (hl : look m.opn id = some t) (undo : Bool) : Ok (m.over id undo) := by
  have hd := length_del_some h.up hl
  have hs := h.size
  have hkd := keptL_del h.up hl
  have hr := h.room
  have hu := h.used
  have ht := h.txn id t hl
  have hU := sumU_nonneg (fun n hn => (ht.len n hn).1)
  have htx : ∀ m' : PSt, m'.slots = m.slots → m'.keys = m.keys → m'.pages = m.pages → ∀ i s, look (del m.opn id) i = some s → OkT m' i s := fun m' e1 e2 e3 i s hi => by
    rw [look_del h.up] at hi
    by_cases e : i = id
    · rw [if_pos e] at hi; cases hi
    · rw [if_neg e] at hi; exact (h.txn i s hi).mono e1 e2 e3
  unfold PSt.kept at hr
  unfold keepsT at hkd
  unfold PSt.over
  rw [Ok.txn_look hl]
  cases undo with
  | true =>
    rw [if_pos rfl]
    refine ⟨h.pages, h.slots, h.log, h.table, h.keys, h.up.del id, htx _ rfl rfl rfl, ?_, h.left, fun i c hi => (h.page i c hi).mono rfl rfl rfl, ?_, ?_, del_lock h id⟩
    · show ((del m.opn id).length : Int) ≤ m.table; omega
    · show 0 ≤ m.used + 66 + sumU t.lengths; omega
    · show m.used + 66 + sumU t.lengths + keptL (del m.opn id) ≤ m.log; omega
  | false =>
    rw [if_neg (by simp)]
    refine ⟨h.pages, h.slots, h.log, h.table, h.keys, h.up.del id, htx _ rfl rfl rfl, ?_, ?_, fun i c hi => ?_, ?_, ?_, del_lock h id⟩
    · show ((del m.opn id).length : Int) ≤ m.table; omega
    · show ((m.left.mapIdx fun i c => (look t.pages (i : Int)).getD c).length : Int) = m.pages
      rw [List.length_mapIdx]; exact h.left
    · have hi2 : (m.left.mapIdx fun i c => (look t.pages (i : Int)).getD c)[i]? = some c := hi
      rw [List.getElem?_mapIdx] at hi2
      cases hd2 : m.left[i]? with
      | none => rw [hd2] at hi2; cases hi2
      | some d =>
        rw [hd2] at hi2
        injection hi2 with hi2
        cases hp : look t.pages (i : Int) with
        | none =>
          rw [hp] at hi2
          change d = c at hi2
          subst hi2
          exact (h.page i d hd2).mono rfl rfl rfl
        | some e =>
          rw [hp] at hi2
          change e = c at hi2
          subst hi2
          exact ((ht.page _ _ hp).2.2).mono rfl rfl rfl
    · show 0 ≤ m.used + 66; omega
    · show m.used + 66 + keptL (del m.opn id) ≤ m.log; omega
theorem Ok.changed {m : PSt} (h : Ok m) (id : Int) (x : Chg) (hv : (Lit.int .u64 x.f1).wf = true) : Ok (m.changed id x) := by
  unfold PSt.changed
  by_cases hE : m.askedE id x.f0 = 0
  · rw [if_neg (by simpa using hE)]
    obtain ⟨t, hl⟩ := (askedE_ok hE).1
    have hn := lenC_ok (m := m) id x
    have hC := con_ok h hE hl
    have hpr := page_range h (askedE_ok hE).2.1.1
    have ht := h.txn id t hl
    have hr := h.room
    have hu := h.used
    cases hF : m.full id x with
    | true => rw [if_pos rfl]; exact h
    | false =>
      rw [if_neg (by simp)]
      unfold PSt.full at hF
      by_cases hp : 0 < m.lenC id x
      · rw [if_pos hp]
        cases hf : m.fits (updated (m.lenC id x)) (undone (m.lenC id x)) with
        | true =>
          rw [if_pos rfl, Ok.txn_look hl]
          unfold PSt.fits at hf
          have hf2 := of_decide_eq_true hf
          refine h.setT hl (ht.holdC (app_ok hC (askedE_ok hE).2.1 rfl hv hF) hpr _ _ (fun n hm => ?_) (by rw [List.length_append, List.length_append, ht.same]; rfl)) _ ?_ ?_ (hold_lock h hE hl _ _ _)
          · rw [List.mem_append, List.mem_singleton] at hm
            rcases hm with hm | rfl
            · exact ht.len n hm
            · omega
          · show 0 ≤ m.used + updated (m.lenC id x); unfold updated; omega
          · show m.used + updated (m.lenC id x) + m.kept + (99 + sumU (t.lengths ++ [m.lenC id x])) ≤ m.log + (99 + sumU t.lengths)
            rw [sumU_append]; omega
        | false => rw [if_neg (by simp)]; exact h.over hl true
      · rw [if_neg hp, Ok.txn_look hl]
        exact h.setT hl (ht.holdC hC hpr _ _ ht.len ht.same) m.used hu (by show m.used + m.kept + keepsT t ≤ m.log + keepsT t; omega) (hold_lock h hE hl _ _ _)
  · rw [if_pos hE]; exact h
theorem Ok.end_ {m : PSt} (h : Ok m) (id : Int) (undo : Bool) : Ok (if m.endE id = 0 then m.over id undo else m) := by
  by_cases hE : m.endE id = 0
  · rw [if_pos hE]
    cases hl : look m.opn id with
    | none => rw [endE_none hl] at hE; cases hE
    | some t => exact h.over hl undo
  · rw [if_neg hE]; exact h
theorem Ok.commit {m : PSt} (h : Ok m) (id : Int) : Ok (m.commit id) := h.end_ id false
theorem Ok.abort {m : PSt} (h : Ok m) (id : Int) : Ok (m.abort id) := h.end_ id true
theorem Ok.setU {m : PSt} (h : Ok m) (u : Int) (hu : 0 ≤ u) (hr : u + m.kept ≤ m.log) : Ok { m with used := u } :=
  ⟨h.pages, h.slots, h.log, h.table, h.keys, h.up, fun i s hi => (h.txn i s hi).mono rfl rfl rfl, h.size, h.left, fun i c hi => (h.page i c hi).mono rfl rfl rfl, hu, hr, h.lock⟩
theorem Ok.check {m : PSt} (h : Ok m) (d : Int) : Ok (m.check d) := by
  unfold PSt.check
  by_cases hE : m.checkE d = 0
  · rw [if_pos hE]
    unfold PSt.checkE at hE
    have hf : m.fits (m.checkN d) 0 = true := by
      cases e : m.fits (m.checkN d) 0 with
      | true => rfl
      | false => rw [e] at hE; cases hE
    have hf2 := of_decide_eq_true hf
    refine h.setU _ ?_ ?_
    · have h1 := h.used
      have h2 := h.pages
      unfold PSt.checkN
      have h3 : 0 ≤ min (max d 0) m.pages := by omega
      omega
    · omega
  · rw [if_neg hE]; exact h
theorem Ok.renew {m : PSt} (h : Ok m) : Ok m.renew := by
  unfold PSt.renew
  by_cases hE : m.renewE = 0
  · rw [if_pos hE]
    exact h.setU 0 (Int.le_refl 0) (by have := h.room; have := h.used; omega)
  · rw [if_neg hE]; exact h
theorem Ok.begin_ {m : PSt} (h : Ok m) (id : Int) : Ok (m.begin_ id) := by
  unfold PSt.begin_
  by_cases hE : m.beginE id = 0
  · rw [if_pos hE]
    unfold PSt.beginE at hE
    by_cases h1 : (id < 1 ∨ 64 < id) ∨ (look m.opn id).isSome
    · rw [if_pos h1] at hE; cases hE
    · rw [if_neg h1] at hE
      by_cases h2 : (m.opn.length : Int) = m.table
      · rw [if_pos h2] at hE; cases hE
      · rw [if_neg h2] at hE
        have hf : m.fits 34 99 = true := by
          cases e : m.fits 34 99 with
          | true => rfl
          | false => rw [e] at hE; cases hE
        have hf2 := of_decide_eq_true hf
        have hn : look m.opn id = none := by
          cases e : look m.opn id with
          | none => rfl
          | some t => exact absurd (.inr (by rw [e]; rfl)) h1
        have hid : 1 ≤ id ∧ id ≤ 64 := ⟨by omega, by omega⟩
        have h0 : ∀ pg, holds txn0 pg = false := fun pg => rfl
        refine ⟨h.pages, h.slots, h.log, h.table, h.keys, h.up.put id txn0, ?_, ?_, h.left, fun i c hi => (h.page i c hi).mono rfl rfl rfl, ?_, ?_, ?_⟩
        · intro i s hi
          have hi2 : look (put m.opn id txn0) i = some s := hi
          rw [look_put h.up] at hi2
          by_cases e : i = id
          · subst e
            rw [if_pos rfl] at hi2
            injection hi2 with hi2
            subst hi2
            exact ⟨hid, Up.nil, fun pg c hl => (by cases hl), fun n hn => (by cases hn), rfl⟩
          · rw [if_neg e] at hi2; exact (h.txn i s hi2).mono rfl rfl rfl
        · show ((put m.opn id txn0).length : Int) ≤ m.table
          rw [length_put_none hn]
          have := h.size
          push_cast
          omega
        · show 0 ≤ m.used + 34
          have := h.used
          omega
        · show m.used + 34 + keptL (put m.opn id txn0) ≤ m.log
          rw [keptL_put_new hn]
          show m.used + 34 + (keptL m.opn + 99) ≤ m.log
          unfold PSt.kept at hf2
          omega
        · intro i s j s' pg hi hj h3 h4
          have hi2 : look (put m.opn id txn0) i = some s := hi
          have hj2 : look (put m.opn id txn0) j = some s' := hj
          rw [look_put h.up] at hi2 hj2
          by_cases e : i = id
          · rw [if_pos e] at hi2; injection hi2 with hi2; subst hi2; rw [h0] at h3; cases h3
          · by_cases e2 : j = id
            · rw [if_pos e2] at hj2; injection hj2 with hj2; subst hj2; rw [h0] at h4; cases h4
            · rw [if_neg e] at hi2; rw [if_neg e2] at hj2; exact h.lock i s j s' pg hi2 hj2 h3 h4
  · rw [if_neg hE]; exact h
theorem Ok.delete {m : PSt} (h : Ok m) (id key : Int) : Ok (m.delete id key) := by
  unfold PSt.delete
  by_cases hb : m.getB id key = true
  · rw [if_pos hb]; exact (h.get id key).changed id _ rfl
  · rw [if_neg hb]; exact h.get id key
end Go.Proofs.YtcdfdckdodgbpaaGreatDoor.QA
