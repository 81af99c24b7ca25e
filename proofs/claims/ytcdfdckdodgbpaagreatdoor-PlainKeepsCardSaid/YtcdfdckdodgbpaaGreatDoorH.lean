/- Done, with what is its own: a block for the list, and a block for each row, no two alike. Stores into rows of one's own, and appends onto them. PlainKeeps walked: it answers true. -/
import Derived.Test.YtcdfdckdodgbpaaGreatDoorG
/-! TDoneK -/
namespace Go.Proofs.YtcdfdckdodgbpaaGreatDoor.QA
open Go.RowKit Go.Maps Go.Proofs.YtcdfdckdodgbpaaGreatDoorW.PrintWords Go.Proofs.YtcdfdckdodgbpaaGreatDoorW.PrintLast Go.Proofs.YtcdfdckdodgbpaaGreatDoorW.PrintMore
set_option linter.unusedVariables false
set_option linter.unusedSimpArgs false
/-- A list of rows of one's own: its block, and the rows' blocks, no two alike. -/
structure DR (w : World) (g base : Nat) (us : List Value) (ds : List (List Chg)) : Prop where
  blk : w.heap[g]? = some (.cells us.toArray 45 (0, 0))
  hg : base ≤ g
  len : us.length = ds.length
  row : ∀ (j : Nat) (u : Value), us[j]? = some u → Kd.R kChg 52 w base (fun k => k ≠ g) u (ds.getD j [])
  ne : ∀ (j j' : Nat) (u u' : Value), us[j]? = some u → us[j']? = some u' → j < j' → ∀ k, u.ownBlock = some k → u'.ownBlock = some k → False
theorem DR.step {w w1 : World} {g base : Nat} {us : List Value} {ds : List (List Chg)} (h : DR w g base us ds) (hk : ∀ k, base ≤ k → k < w.heap.size → w1.heap[k]? = w.heap[k]?) : DR w1 g base us ds :=
  ⟨(hk g h.hg (blk_lt h.blk)).trans h.blk, h.hg, h.len, fun j u hu => Kd.R_mono (Kd.R_step (Kd.R_bound (h.row j u hu)) (fun k hb hlt => hk k hb.2.1 hlt)) (fun k hb => hb.1), h.ne⟩
theorem DR.below {w w1 : World} {g base : Nat} {us : List Value} {ds : List (List Chg)} (h : DR w g base us ds) (hb : Below w.heap.size w w1) : DR w1 g base us ds := h.step (fun k _ hk => hb.block k hk)
theorem DR.reads {w : World} {g base : Nat} {us : List Value} {ds : List (List Chg)} (h : DR w g base us ds) (hn : ds.length < 5000000000000) : Kd.C kDone w (some ⟨g, 0, none⟩) ds.length ds := by
  refine Part.whole (base := base) ⟨us.toArray, h.blk, by rw [List.size_toArray]; exact h.len, fun j hj => ?_⟩ hn
  have hj' : j < us.length := by rw [h.len]; exact hj
  exact ⟨us[j], by simp [hj'], h.row j _ (List.getElem?_eq_getElem hj')⟩
/-- The first i places hold copies. -/
structure P2 (w : World) (g base n i : Nat) (ds : List (List Chg)) (cur : Array Value) : Prop where
  blk : w.heap[g]? = some (.cells cur 45 (0, 0))
  sz : cur.size = n
  row : ∀ (j : Nat) (u : Value), j < i → cur[j]? = some u → Kd.R kChg 52 w base (fun k => k ≠ g) u (ds.getD j [])
  ne : ∀ (j j' : Nat) (u u' : Value), cur[j]? = some u → cur[j']? = some u' → j < j' → j' < i → ∀ k, u.ownBlock = some k → u'.ownBlock = some k → False
theorem P2.below {w w1 : World} {g base n i : Nat} {ds : List (List Chg)} {cur : Array Value} (h : P2 w g base n i ds cur) (hb : Below w.heap.size w w1) : P2 w1 g base n i ds cur :=
  ⟨(hb.block g (blk_lt h.blk)).trans h.blk, h.sz, fun j u hj hu => Kd.R_below (h.row j u hj hu) hb, h.ne⟩
theorem P2.put {w w4 w5 : World} {g base n i : Nat} {ds : List (List Chg)} {cur : Array Value} {v : Value} (h : P2 w g base n i ds cur) (hb : Below w.heap.size w w4) (hbase : base ≤ w.heap.size) (hi : i < n)
    (hv : Kd.R kChg 52 w4 w.heap.size (fun _ => True) v (ds.getD i [])) (hc : w5.heap[g]? = some (.cells (cur.setIfInBounds i v) 45 (0, 0))) (hm : Mv w4 w5 (fun k => k = g)) : P2 w5 g base n (i + 1) ds (cur.setIfInBounds i v) := by
  have hgl := blk_lt h.blk
  have at_i : ∀ u, (cur.setIfInBounds i v)[i]? = some u → u = v := fun u hu => by
    have : i < cur.size := by rw [h.sz]; exact hi
    simp [this] at hu
    exact hu.symm
  have at_j : ∀ j u, j ≠ i → (cur.setIfInBounds i v)[j]? = some u → cur[j]? = some u := fun j u hj hu => by
    rw [Array.getElem?_setIfInBounds] at hu
    have : ¬ i = j := fun e => hj e.symm
    simpa [this] using hu
  refine ⟨hc, by simp [h.sz], fun j u hj hu => ?_, fun j j' u u' hu hu' hlt hj' k hk hk' => ?_⟩
  · by_cases e : j = i
    · subst e
      rw [at_i u hu]
      have h2 := Kd.R_mono (Kd.R_lower (Kd.R_bound hv) hbase) (ok' := fun k => k ≠ g) (fun k hk => by have := hk.2.1; omega)
      exact Kd.R_step h2 (fun k hk hlt => hm.block k hlt hk)
    · exact Kd.R_step (Kd.R_below (h.row j u (by omega) (at_j j u e hu)) hb) (fun k hk hlt => hm.block k hlt hk)
  · have e : j ≠ i := by omega
    have hu2 := at_j j u e hu
    have hlt2 := ((Kd.R_bound (h.row j u (by omega) hu2)).1 k hk).2.2.1
    by_cases e2 : j' = i
    · subst e2
      rw [at_i u' hu'] at hk'
      have := Kd.R_base hv k hk'
      omega
    · exact h.ne j j' u u' hu2 (at_j j' u' e2 hu') hlt (by omega) k hk hk'
theorem P2.whole {w : World} {g base : Nat} {ds : List (List Chg)} {cur : Array Value} (h : P2 w g base ds.length ds.length ds cur) (hg : base ≤ g) : DR w g base cur.toList ds := by
  have hl : ∀ j u, cur.toList[j]? = some u → j < ds.length ∧ cur[j]? = some u := fun j u hu => by
    have h1 := (List.getElem?_eq_some_iff.1 hu).1
    rw [Array.length_toList, h.sz] at h1
    exact ⟨h1, by simpa using hu⟩
  exact ⟨by simpa using h.blk, hg, by rw [Array.length_toList]; exact h.sz, fun j u hu => h.row j u (hl j u hu).1 (hl j u hu).2, fun j j' u u' hu hu' hlt k hk hk' => h.ne j j' u u' (hl j u hu).2 (hl j' u' hu').2 hlt (hl j' u' hu').1 k hk hk'⟩
set_option maxHeartbeats 4000000 in
set_option maxRecDepth 100000 in
theorem done15R {w : World} {L : Lay} {m : PSt} (h : St w L none2 m) (hdl : m.done.length < 5000000000000) (hrow : ∀ t ∈ m.done, t.length < 1000000000000) :
    Calls Tryz.prog 15 #[.pointer (some ⟨L.p, 0, none⟩)] w fun e w' => ∃ g us, e = .returned (.slice (some ⟨g, 0, none⟩) m.done.length m.done.length) ∧ DR w' g w.heap.size us m.done ∧ Below w.heap.size w w' := by
  obtain ⟨vd, hC⟩ := h.c
  have d9 : w.cell? ⟨L.p, 9, none⟩ = some vd := blk_cell hC.cell 9
  obtain ⟨Ad, cd, hvd, hat⟩ := done_at hC.done
  subst hvd
  obtain ⟨ds, hds⟩ : ∃ ds, ds = m.done := ⟨_, rfl⟩
  rw [← hds] at hdl hrow hat d9 ⊢
  obtain ⟨p, hp⟩ : ∃ p, p = L.p := ⟨_, rfl⟩
  rw [← hp] at d9 ⊢
  have HAT := Aside0.mk hat
  have HDL := Aside0.mk hdl
  have HROW := Aside0.mk hrow
  have B0 := Aside0.mk (below_alloc (Below.refl w.heap.size w) (.cells (madeCells #[.slice none 0 0] ds.length) 45))
  have P0 := Aside0.mk (show ∃ cur, P2 (w.alloc (.cells (madeCells #[.slice none 0 0] ds.length) 45)) w.heap.size w.heap.size ds.length 0 ds cur from ⟨_, heap_alloc_new w _, size_madeCells _ _, fun j u hj => by omega, fun j j' u u' _ _ _ hj => by omega⟩)
  have hms := makeRows ds.length hdl
  have d9a : (w.alloc (.cells (madeCells #[.slice none 0 0] ds.length) 45)).cell? ⟨p, 9, none⟩ = some (.slice Ad ds.length cd) := pw_cell_below B0.out d9
  clear h hC hat hdl hrow hds hp
  go_enter Tryz.func15, Tryz.ntmps15
  go_upto_region 2 with fail
  obtain ⟨g, hg⟩ : ∃ g, g = w.heap.size := ⟨_, rfl⟩
  have HG := Aside0.mk hg
  have e1 : (⟨w.heap.size, 0, none⟩ : Addr) = ⟨g, 0, none⟩ := by rw [hg]
  rw [e1]
  have P1 := Aside0.mk (show ∃ cur, P2 (w.alloc (.cells (madeCells #[.slice none 0 0] ds.length) 45)) g w.heap.size ds.length 0 ds cur from by rw [hg]; exact P0.out)
  clear P0 e1 hg hms d9
  generalize w.alloc (.cells (madeCells #[.slice none 0 0] ds.length) 45) = w1 at B0 P1 d9a ⊢
  go_wp2
  clear d9a
  go_loopg [17] ds.length (fun kq v17 wr => ∃ (i : Nat), v17 = .int .i64 (i : Int) ∧ Aside0 (i + kq = ds.length) ∧ Aside0 (∃ cur, P2 wr g w.heap.size ds.length i ds cur) ∧ Aside0 (Below w.heap.size w wr))
  case atStart => exact ⟨0, rfl, ⟨by omega⟩, P1, B0⟩
  case round =>
    obtain ⟨i, rfl, hik, hP, hBl⟩ := hrel
    clear P1 B0
    obtain ⟨Ws, hWs, hBl⟩ : ∃ W, W = _ ∧ Aside0 (Below w.heap.size w W) := ⟨_, rfl, hBl⟩
    subst hWs
    obtain ⟨cur, hP⟩ := hP.out
    have HP := Aside0.mk hP
    clear hP
    cases gk with
    | zero =>
      obtain rfl : i = ds.length := hik.out
      have hd1 : ¬ ((ds.length : Int) < (ds.length : Int)) := by omega
      go_wp2
      go_ret
      exact ⟨_, rfl, ⟨_, HP.out.whole (by rw [HG.out]; exact Nat.le_refl _)⟩, hBl.out⟩
    | succ kr =>
      have hi0 : i < ds.length := by have := hik.out; omega
      have hi1 : (i : Int) < (ds.length : Int) := by omega
      have hi2 : (0 : Int) ≤ (i : Int) := by omega
      obtain ⟨gd, u, hA, hu, ok', hR⟩ := HAT.out i hi0
      subst hA
      obtain ⟨row, hrw⟩ : ∃ row, row = ds.getD i [] := ⟨_, rfl⟩
      have HRW := Aside0.mk hrw
      rw [← hrw] at hR
      have y0 := pw_cell_below hBl.out hu
      have HR := Aside0.mk (Kd.R_below hR hBl.out)
      have HRL := Aside0.mk (show row.length < 1000000000000 from by rw [hrw, show ds.getD i [] = ds[i] from by simp [hi0]]; exact HROW.out _ (List.getElem_mem hi0))
      have HI0 := Aside0.mk hi0
      have hw2 : IntKind.i64.wrap ((i : Int) + 1) = ((i + 1 : Nat) : Int) := wrp (by omega) (by have := HDL.out; omega)
      obtain ⟨Au, qu, hvu⟩ := Kd.R_slice hR
      subst hvu
      clear hu hR hrw
      go_wp2_with (first
        | (go_at_call 32; refine (clone32 HR.out HRL.out).mono ?_; rintro e w4 ⟨v4, rfl, hr, hb⟩
           obtain ⟨A4, q4, hv4⟩ := Kd.R_slice hr
           subst hv4
           have B5 := Aside0.mk hb
           have B4 := Aside0.mk (hBl.out.trans (hb.mono hBl.out.size))
           have R4 := Aside0.mk hr
           clear hr hb)
        | ((with_reducible refine gate_store (t := 45) (p := 26) (v := .tmp 25) rfl ?_)
           refine put_event rfl rfl (g := g) (i := i) rfl rfl rfl rfl (HP.out.below B5.out).blk (by rw [HP.out.sz]; exact HI0.out) (by kernel_rfl) ?_
           intro w5 hc hm
           have P5 := Aside0.mk (HP.out.put B5.out hBl.out.size HI0.out (by rw [← HRW.out]; exact R4.out) hc hm)
           have B6 := Aside0.mk (hm.below B4.out B4.out.size (fun k hk => by rw [hk, HG.out]; exact Nat.le_refl _))
           clear hc hm))
      go_roundg kr
      case measure => omega
      case rel => exact ⟨i + 1, rfl, ⟨by have := hik.out; omega⟩, ⟨_, P5.out⟩, B6⟩
end Go.Proofs.YtcdfdckdodgbpaaGreatDoor.QA

/-! TKeepEv -/
namespace Go.Proofs.YtcdfdckdodgbpaaGreatDoor.QA
open Go.RowKit Go.Maps Go.Proofs.YtcdfdckdodgbpaaGreatDoorW.PrintWords Go.Proofs.YtcdfdckdodgbpaaGreatDoorW.PrintLast Go.Proofs.YtcdfdckdodgbpaaGreatDoorW.PrintMore
set_option linter.unusedVariables false
set_option linter.unusedSimpArgs false
theorem numbers_self (a : List Int) (ha : a.length < 5864062014805) : ∃ k, tidemarklaw18_numbers.f k a a = some true := by
  have h : ∀ n i : Nat, i + n = a.length → tidemarklaw18_numbers.l0 (n + 1) a a (i : Int) = some true := by
    intro n
    induction n with
    | zero => intro i hi; unfold tidemarklaw18_numbers.l0; rw [if_neg (by omega)]
    | succ n ih =>
      intro i hi
      unfold tidemarklaw18_numbers.l0
      rw [if_pos (by omega), if_pos (by omega), if_pos (by omega), if_pos rfl, w64t (by omega)]
      exact ih (i + 1) (by omega)
  refine ⟨a.length + 1, ?_⟩
  unfold tidemarklaw18_numbers.f
  rw [if_pos rfl]
  exact h a.length 0 (by omega)
section
variable {P : Program} {ops : Array Oper} {rest : List Oper} {o : Oper} {a : Act} {Q : Exit → Act → World → Prop} {α : Type}
theorem own_ptr {d : Kd α} {e base n c : Nat} {ok : Nat → Prop} {w : World} {A : Option Addr} {xs : List α} (h : d.R e w base ok (.slice A n c) xs) (hn : 0 < n) : ∃ g, A = some ⟨g, 0, none⟩ ∧ base ≤ g ∧ ok g ∧ ∃ cur, w.heap[g]? = some (.cells cur e (0, 0)) ∧ cur.size = c * d.sz ∧ n ≤ c := by
  obtain ⟨h0, inner, hown, hreps⟩ := h
  rcases hown.2 with ⟨he, h1⟩ | ⟨g, cap, cur, he, hb, hg, hnc, hcm, hcs, htk⟩
  · injection he with e1 e2 e3
    omega
  · injection he with e1 e2 e3
    subst e1 e3
    exact ⟨g, rfl, hb, h0 g (by simp [Value.ownBlock]), cur, hg, hcs, by omega⟩
/-- An element of a row of one's own is stored. -/
theorem set_event (d : Kd α) {W : World} (hN : o.dst = none) (hgd : o.guard = none) {t : TypeId} {p : Tmp} {x : Operand} (ho : o.op = .store t (.tmp p) x) {e g n cap base : Nat} {ok : Nat → Prop} (i : Nat) {off : Nat} (hoff : off = i * d.sz) {xs : List α} (x' : α) {u : Value} (seg : List Value)
    (haddr : a.eval (.tmp p) = .pointer (some ⟨g, off, none⟩)) (hx : a.eval x = u) (hu : u.cells.toList = seg) (ht : (P.info? t).map (·.size) = some seg.length) (h1 : ∀ q ∈ seg, q.oneCell' = true)
    (HO : d.R e W base ok (.slice (some ⟨g, 0, none⟩) n cap) xs) (hi : i < n) (hM : ∀ W' base' okp, d.M W' base' okp x' seg)
    (h : ∀ w1, d.R e w1 base ok (.slice (some ⟨g, 0, none⟩) n cap) (xs.set i x') → Mv W w1 (fun k => k = g) → wpList P ops Q rest a w1) : wpList P ops Q (o :: rest) a W := by
  obtain ⟨hn, _, hC⟩ := Kd.R_reads' HO
  have hil : i < xs.length := by omega
  obtain ⟨ad, hA, hc⟩ := hC.2.2 (by omega)
  have hA := Option.some.inj hA
  obtain ⟨c, hcl, _, hcc⟩ := hc i xs[i] (List.getElem?_eq_getElem hil)
  have hsl : seg.length = d.sz := d.K_len (d.K_of_M (hM W base (fun _ => False)))
  refine Kd.R_store d (w0 := W) base hN hgd t (.tmp p) x ho e (i : Int) 0 xs x' u seg c ok (fun _ => False) haddr (by rw [Int.toNat_natCast, hoff]; rfl) hx hu ht h1 HO (by omega) (by omega) hcl (fun j u hj => ?_) (by omega) ?_ (fun _ hk => hk.elim) (Below.refl _ _) (fun w1 hr hb hg => ?_)
  · rw [Int.toNat_natCast]
    have h5 := hcc j u hj
    rw [← hA] at h5
    obtain ⟨q, hq⟩ : ∃ q, q = i * d.sz + j := ⟨_, rfl⟩
    rw [← hq] at h5 ⊢
    have : (⟨g, 0, none⟩ : Addr).add q = ⟨g, q, none⟩ := by
      by_cases hj0 : q = 0
      · rw [hj0]; simp [Addr.add]
      · simp [Addr.add, hj0]
    rw [this] at h5
    exact h5
  · have : c.take 0 ++ seg ++ c.drop (0 + seg.length) = seg := by
      rw [List.take_zero, List.nil_append, Nat.zero_add, hsl, ← hcl, List.drop_length, List.append_nil]
    rw [this]
    exact hM _ _ _
  · rw [Int.toNat_natCast] at hr
    exact h w1 hr ((Mv.of_grown hg).mono (fun k hk => by injection hk))
theorem slice_block {A : Option Addr} {n c : Nat} : (Value.slice A n c).ownBlock = (Value.slice A n c).ownBlock := rfl
/-- A literal is appended to a row of one's own. -/
theorem app_event (d : Kd α) {W : World} {base : Nat} {ok : Nat → Prop} (hgd : o.guard = none) {s x : Operand} {t e : TypeId} {z : Value} {bytes : Nat}
    (ho : o.op = .call { callee := .builtin .append, args := #[s, x], argTypes := #[t, t] })
    (ht : P.underlying t = some (.slice e)) (hinfo : (P.info? e).map (fun i => (i.zero, i.size, i.bytes)) = some (some z, d.sz, bytes)) (hz : z.cells.size = d.sz) (hs0 : 0 < d.sz) (hb0 : 0 < bytes)
    {v : Value} (xs ys : List α) (m : Nat) (hm : m = ys.length) (inner : Array Value) (hs : a.eval s = v) (hx : a.eval x = .slice (some ⟨W.heap.size, 0, none⟩) m m)
    (HO : d.R e W base ok v xs) (hfresh : ∀ k, W.heap.size ≤ k → ok k) (hbase : base ≤ W.heap.size) (hrep : ∀ W' base' okp, Reps (d.M W' base' okp) d.sz ys inner.toList) (hl : (xs.length + m) * bytes ≤ 140737488355328) (hm2 : ys.length ≤ 100)
    (h : ∀ A1 n1 c1 w1, d.R e w1 base ok (.slice A1 n1 c1) (xs ++ ys) → Mv W w1 (fun k => v.ownBlock = some k) → wpList P ops Q rest (a.put o.dst (.slice A1 n1 c1)) w1) :
    wpList P ops Q (o :: rest) a (W.alloc (.cells inner e)) := by
  subst hm
  have hB := below_alloc (Below.refl W.heap.size W) (.cells inner e)
  have hL := OwnRow.lit (e := e) W base (hrep (W.alloc (.cells inner e)) base (fun _ => False)) hbase (by omega)
  rw [show inner.toList.toArray = inner from rfl] at hL
  obtain ⟨A, c, he, hlc, hR⟩ := hL.reads
  injection he with e1 e2 e3
  subst e1
  refine Kd.R_append_rows d (w0 := W.alloc (.cells inner e)) base hgd s x t e z bytes ho ht hinfo hz hs0 hb0 v xs ys _ ys.length ys.length ok (fun _ => False) hs hx (Kd.R_below HO hB) hR (fun _ _ hp => hp) (fun _ hk => hk.elim) (fun k hk => hfresh k (Nat.le_trans hB.size hk)) (Below.refl _ _) (Nat.le_trans hbase hB.size) hl ?_
  intro v1 w1 hr _ hg _
  obtain ⟨A1, c1, hv1⟩ := Kd.R_slice hr
  subst hv1
  exact h _ _ _ w1 hr ((Mv.of_below hB _).then_ (Mv.of_grown hg) (fun k hk => .inl hk.symm))
end
theorem ids_pos {m : PSt} (hk : Ok m) (i : Nat) (hi : i < m.ids.length) : 1 ≤ m.ids[i] := by
  have hi2 : i < m.opn.length := by rw [← ids_len]; exact hi
  have hq : m.ids[i] = m.opn[i].1 := ids_at m i _ _
  have h1 := (hk.txn m.opn[i].1 m.opn[i].2 (hk.up.look (List.getElem_mem hi2))).id
  rw [hq]
  exact h1.1
section
variable {α : Type} {d : Kd α} {e base : Nat} {ok : Nat → Prop} {w w1 : World} {v : Value} {xs : List α}
theorem row_step (hE : d.E = []) (h : d.R e w base ok v xs) (hk : ∀ k, v.ownBlock = some k → k < w.heap.size → w1.heap[k]? = w.heap[k]?) : d.R e w1 base ok v xs :=
  Kd.R_mono (Kd.R_step (Kd.R_tight2 hE h) (fun k ho hlt => hk k ho.1.symm hlt)) (fun k ho => ho.2)
theorem own_in (h : d.R e w base ok v xs) : ∀ k, v.ownBlock = some k → base ≤ k ∧ k < w.heap.size := fun k hk => ⟨Kd.R_base h k hk, ((Kd.R_bound h).1 k hk).2.2.1⟩
end
theorem chgE : kChg.E = [] := rfl
theorem entE : k58.E = [] := rfl
theorem intE : (Kd.int .i64).E = [] := rfl
theorem DR.lt {w : World} {g base : Nat} {us : List Value} {ds : List (List Chg)} (h : DR w g base us ds) : ∀ (j : Nat) (u : Value) k, us[j]? = some u → u.ownBlock = some k → base ≤ k ∧ k < w.heap.size := fun j u k hu hk => own_in (h.row j u hu) k hk
theorem DR.step2 {w w1 : World} {g base : Nat} {us : List Value} {ds : List (List Chg)} (h : DR w g base us ds) (hk : ∀ k, base ≤ k → k < w.heap.size → (k = g ∨ ∃ (j : Nat) (u : Value), us[j]? = some u ∧ u.ownBlock = some k) → w1.heap[k]? = w.heap[k]?) : DR w1 g base us ds :=
  ⟨(hk g h.hg (blk_lt h.blk) (.inl rfl)).trans h.blk, h.hg, h.len, fun j u hu => row_step chgE (h.row j u hu) (fun k ho hlt => hk k (h.lt j u k hu ho).1 hlt (.inr ⟨j, u, hu, ho⟩)), h.ne⟩
theorem DR.apart {w : World} {g base : Nat} {us : List Value} {ds : List (List Chg)} (h : DR w g base us ds) {j j' : Nat} {u u' : Value} (hu : us[j]? = some u) (hu' : us[j']? = some u') (hj : j ≠ j') {k : Nat} (hk : u.ownBlock = some k) (hk' : u'.ownBlock = some k) : False := by
  rcases Nat.lt_or_gt_of_ne hj with h1 | h1
  · exact h.ne j j' u u' hu hu' h1 k hk hk'
  · exact h.ne j' j u' u hu' hu h1 k hk' hk
/-- One row's elements have been written. -/
theorem DR.setRow {w w1 : World} {g base j : Nat} {us : List Value} {ds : List (List Chg)} {u : Value} {z : List Chg} (h : DR w g base us ds) (hu : us[j]? = some u) (hr : Kd.R kChg 52 w1 base (fun k => k ≠ g) u z) (hm : Mv w w1 (fun k => u.ownBlock = some k)) : DR w1 g base us (ds.set j z) := by
  have hj : j < ds.length := by rw [← h.len]; exact (List.getElem?_eq_some_iff.1 hu).1
  refine ⟨hm.blk h.blk (fun hk => (h.row j u hu).1 g hk rfl), h.hg, by rw [h.len, List.length_set], fun j' u' hu' => ?_, h.ne⟩
  by_cases e : j' = j
  · subst e
    have : u' = u := by rw [hu] at hu'; exact (Option.some.inj hu').symm
    subst this
    rw [show (ds.set j' z).getD j' [] = z from by simp [List.getD_eq_getElem?_getD, hj]]
    exact hr
  · rw [show (ds.set j z).getD j' [] = ds.getD j' [] from by rw [List.getD_eq_getElem?_getD, List.getD_eq_getElem?_getD, List.getElem?_set_ne (fun h => e h.symm)]]
    exact row_step chgE (h.row j' u' hu') (fun k hk hlt => hm.block k hlt (fun hk2 => h.apart hu' hu e hk hk2))
/-- A list of rows of which the first i places have been written over, and the first i rows lengthened. -/
structure D10 (w : World) (g base i : Nat) (us : List Value) (zs : List (List Chg)) : Prop where
  blk : ∃ cur : Array Value, w.heap[g]? = some (.cells cur 45 (0, 0)) ∧ cur.size = us.length ∧ ∀ j : Nat, i ≤ j → cur[j]? = us[j]?
  row : ∀ (j : Nat) (u : Value), i ≤ j → us[j]? = some u → Kd.R kChg 52 w base (fun k => k ≠ g) u (zs.getD j [])
theorem D10.start {w : World} {g base : Nat} {us : List Value} {ds : List (List Chg)} (h : DR w g base us ds) : D10 w g base 0 us ds :=
  ⟨⟨us.toArray, h.blk, by simp, fun j _ => by simp⟩, fun j u _ hu => h.row j u hu⟩
/-- Row i is lengthened: it is no longer spoken of. -/
theorem D10.grow {w w1 : World} {g base i : Nat} {us : List Value} {zs : List (List Chg)} {u : Value} (h : D10 w g base i us zs) (hu : us[i]? = some u) (hm : Mv w w1 (fun k => u.ownBlock = some k))
    (hne : ∀ (j j' : Nat) (u u' : Value), us[j]? = some u → us[j']? = some u' → j < j' → ∀ k, u.ownBlock = some k → u'.ownBlock = some k → False) :
    (∃ cur : Array Value, w1.heap[g]? = some (.cells cur 45 (0, 0)) ∧ cur.size = us.length ∧ ∀ j : Nat, i ≤ j → cur[j]? = us[j]?) ∧ ∀ (j : Nat) (u : Value), i + 1 ≤ j → us[j]? = some u → Kd.R kChg 52 w1 base (fun k => k ≠ g) u (zs.getD j []) := by
  obtain ⟨cur, h1, h2, h3⟩ := h.blk
  exact ⟨⟨cur, hm.blk h1 (fun hk => (h.row i u (Nat.le_refl _) hu).1 g hk rfl), h2, h3⟩, fun j u' hj hu' => row_step chgE (h.row j u' (by omega) hu') (fun k hk hlt => hm.block k hlt (fun hk2 => hne i j u u' hu hu' (by omega) k hk2 hk))⟩
theorem D10.put {w w1 : World} {g base i : Nat} {us : List Value} {zs : List (List Chg)} {v : Value} {cur : Array Value} (h2 : cur.size = us.length) (h3 : ∀ j : Nat, i ≤ j → cur[j]? = us[j]?)
    (hr : ∀ (j : Nat) (u : Value), i + 1 ≤ j → us[j]? = some u → Kd.R kChg 52 w base (fun k => k ≠ g) u (zs.getD j [])) (hc : w1.heap[g]? = some (.cells (cur.setIfInBounds i v) 45 (0, 0))) (hm : Mv w w1 (fun k => k = g)) : D10 w1 g base (i + 1) us zs :=
  ⟨⟨_, hc, by simp [h2], fun j hj => by
    rw [Array.getElem?_setIfInBounds]
    have : ¬ i = j := by omega
    simp only [this, if_false]
    exact h3 j (by omega)⟩, fun j u hj hu => Kd.R_step (hr j u hj hu) (fun k hk hlt => hm.block k hlt hk)⟩
theorem reps3 (W : World) (base : Nat) (ok : Nat → Prop) : Reps ((Kd.int .i64).M W base ok) (Kd.int .i64).sz [-1, -1, -1] (#[.int .i64 (-1), .int .i64 (-1), .int .i64 (-1)] : Array Value).toList :=
  ⟨rfl, fun j p hp => by
    rcases j with _ | _ | _ | j
    · cases hp; rfl
    · cases hp; rfl
    · cases hp; rfl
    · simp at hp⟩
theorem repsE (n : Int) (W : World) (base : Nat) (ok : Nat → Prop) : Reps (k58.M W base ok) k58.sz [⟨n, 0⟩] (#[.int .i64 n, .int .u64 0] : Array Value).toList :=
  ⟨rfl, fun j p hp => by
    rcases j with _ | j
    · cases hp; exact k58_mkM W base ok ⟨n, 0⟩
    · simp at hp⟩
theorem repsC (n : Int) (W : World) (base : Nat) (ok : Nat → Prop) : Reps (kChg.M W base ok) kChg.sz [⟨n, 0, false⟩, ⟨n, 0, false⟩] (#[.int .i64 n, .int .u64 0, .bool false, .int .i64 n, .int .u64 0, .bool false] : Array Value).toList :=
  ⟨rfl, fun j p hp => by
    rcases j with _ | _ | j
    · cases hp; exact k52_mkM W base ok ⟨n, 0, false⟩
    · cases hp; exact k52_mkM W base ok ⟨n, 0, false⟩
    · simp at hp⟩
theorem infoI : (Tryz.prog.info? 3).map (fun i => (i.zero, i.size, i.bytes)) = some (some (.int .i64 0), 1, 8) := by kernel_rfl
end Go.Proofs.YtcdfdckdodgbpaaGreatDoor.QA

/-! WalkKeep -/
namespace Go.Proofs.YtcdfdckdodgbpaaGreatDoor.QA
open Go.RowKit Go.Maps Go.Proofs.YtcdfdckdodgbpaaGreatDoorW.PrintWords Go.Proofs.YtcdfdckdodgbpaaGreatDoorW.PrintLast Go.Proofs.YtcdfdckdodgbpaaGreatDoorW.PrintMore
set_option linter.unusedVariables false
set_option linter.unusedSimpArgs false
/-- Blocks that are written over: none of those between b and d, none of those between f and x. -/
def Sp (na nb nd nf nx : Nat) : Nat → Prop := fun k => na ≤ k ∧ ¬ (nb ≤ k ∧ k < nd) ∧ ¬ (nf ≤ k ∧ k < nx)
/-- The first list and the fifth. -/
def Sq (na nb nx : Nat) : Nat → Prop := fun k => (na ≤ k ∧ k < nb) ∨ nx ≤ k
theorem sq_sp {na nb nd nf nx : Nat} (h1 : na ≤ nb) (h2 : nb ≤ nd) (h3 : nd ≤ nf) (h4 : nf ≤ nx) {k : Nat} (h : Sq na nb nx k) : Sp na nb nd nf nx k := by
  rcases h with h | h
  · exact ⟨by omega, by omega, by omega⟩
  · exact ⟨by omega, by omega, by omega⟩
theorem sp_d {na nb nd nf nx : Nat} (h1 : na ≤ nb) (h2 : nb ≤ nd) {k : Nat} (h : nd ≤ k ∧ k < nf) : Sp na nb nd nf nx k := ⟨by omega, by omega, by omega⟩
theorem infoC : (Tryz.prog.info? 52).map (fun i => (i.zero, i.size, i.bytes)) = some (some (.agg #[(.int .i64 0), (.int .u64 0), (.bool false)]), 3, 24) := by kernel_rfl
theorem lens_set {zs ds : List (List Chg)} {n : Nat} {z : List Chg} (h : ∀ j, (zs.getD j []).length = (ds.getD j []).length) (hz : z.length = (zs.getD n []).length) : ∀ j, ((zs.set n z).getD j []).length = (ds.getD j []).length := by
  intro j
  by_cases e : j = n
  · subst e
    rw [← h j]
    by_cases hj : j < zs.length
    · rw [show (zs.set j z).getD j [] = z from by simp [List.getD_eq_getElem?_getD, hj], hz]
    · rw [List.set_eq_of_length_le (by omega)]
  · rw [← h j, show (zs.set n z).getD j [] = zs.getD j [] from by rw [List.getD_eq_getElem?_getD, List.getD_eq_getElem?_getD, List.getElem?_set_ne (fun h => e h.symm)]]
theorem row_cell {w : World} {g n : Nat} {cur us : Array Value} {u : Value} (h : w.heap[g]? = some (.cells cur 45 (0, 0))) (hu : cur[n]? = some u) : w.cell? ⟨g, n, none⟩ = some u := (blk_cell h n).trans hu
set_option maxHeartbeats 16000000 in
set_option maxRecDepth 100000 in
theorem keeps5 {w : World} (hg : Glob w) (a0 a1 a2 a3 a4 a5 : Int) {A : Option Addr} {cap : Nat} {l : List Stp} (hC : Kd.C kStp w A l.length l) (hcap : l.length ≤ cap) (hl : l.length < 4000000000000) (ho : ∀ o ∈ l, OkStp o) :
    Calls Tryz.prog 5 #[.agg #[.int .i64 a0, .int .i64 a1, .int .i64 a2, .int .i64 a3, .int .i64 a4, .int .i64 a5], .slice A l.length cap] w fun e w' => e = .returned (.bool true) ∧ Below w.heap.size w w' := by
  obtain ⟨c0, c1, c2, c3, c4, c5, hmay, q0, q1, q2, q3, q4, q5⟩ := may_some a0 a1 a2 a3 a4 a5
  obtain ⟨m, hm⟩ : ∃ m, m = (newM c0 c1 c2 c3 c4 c5).run l := ⟨_, rfl⟩
  have ok0 := newM_ok (c3 := c3) q0 q1 q2 q4 q5
  have OKM := Aside0.mk (show Ok m from by rw [hm]; exact ok0.run l ho)
  have SER := Aside0.mk (show Ser m from by rw [hm]; exact (newM_ser c0 c1 c2 c3 c4 c5).run ok0 l ho)
  have ROWS := Aside0.mk (show ∀ t ∈ m.done, t.length ≤ 2000 from by rw [hm]; exact run_rows ok0 (fun t ht => by cases ht) l ho)
  have DL := Aside0.mk (show m.done.length < 4000000000000 from by have h1 := done_run (newM c0 c1 c2 c3 c4 c5) l; rw [← hm] at h1; have h2 : (newM c0 c1 c2 c3 c4 c5).done.length = 0 := rfl; omega)
  have HM := Aside0.mk hm
  have HMAY := Aside0.mk hmay
  have HQ := Aside0.mk (show (1 ≤ c0 ∧ c0 ≤ 16) ∧ (1 ≤ c1 ∧ c1 ≤ 8) ∧ (1024 ≤ c2 ∧ c2 ≤ 65536) ∧ (2 ≤ c3 ∧ c3 ≤ 16) ∧ (1 ≤ c4 ∧ c4 ≤ 8) ∧ (1 ≤ c5 ∧ c5 ≤ 1048576) from ⟨q0, q1, q2, q3, q4, q5⟩)
  have HC := Aside0.mk hC
  have HCAP := Aside0.mk hcap
  have HLL := Aside0.mk hl
  have HO := Aside0.mk ho
  have G := Aside0.mk hg
  have BX := Aside0.mk (below_alloc (Below.refl w.heap.size w) (.cells #[.int .i64 a0, .int .i64 a1, .int .i64 a2, .int .i64 a3, .int .i64 a4, .int .i64 a5] 25))
  obtain ⟨xs, hxs⟩ : ∃ xs, xs = m.ids := ⟨_, rfl⟩
  have HXS := Aside0.mk hxs
  have HXL := Aside0.mk (show xs.length ≤ 8 from by rw [hxs]; have h1 := OKM.out.size; have h2 := OKM.out.table; have h3 := ids_len m; omega)
  obtain ⟨kn, hkn⟩ := numbers_self xs (Nat.lt_of_le_of_lt HXL.out (by omega))
  have HKN := Aside0.mk hkn
  clear hmay q0 q1 q2 q3 q4 q5 hC hcap hl ho hg hm ok0 hxs hkn
  go_enter Tryz.func5, Tryz.ntmps5
  go_wp2_with (first
    | (go_at_call 7; refine (tidemarklaw18_may.calls a0 a1 a2 a3 a4 a5 c0 c1 c2 c3 c4 c5 _ HMAY.out).mono ?_; rintro e w1 ⟨rfl, hb⟩
       have B1 := Aside0.mk (BX.out.trans (hb.mono BX.out.size))
       clear hb)
    | (go_at_call 6; refine (played12 (G.out.below B1.out) c0 c1 c2 c3 c4 c5 HQ.out.1 HQ.out.2.1 HQ.out.2.2.1 HQ.out.2.2.2.1 HQ.out.2.2.2.2.1 HQ.out.2.2.2.2.2 (Kd.C_below HC.out B1.out) HCAP.out HLL.out HO.out).mono ?_; rintro e w3 ⟨p, rfl, hb, L, hlp, hs, hr⟩
       have S3 := Aside0.mk (show St w3 L none2 m from by rw [HM.out]; exact hs)
       have B3 := Aside0.mk (B1.out.trans (hb.mono B1.out.size))
       have RR := Aside0.mk (show ∀ k, 0 < k → k < w.heap.size → L.role k = .out from fun k hk hk2 => hr k hk (Nat.lt_of_lt_of_le hk2 B1.out.size))
       have R0 := Aside0.mk (show L.role 0 = .glob from hs.c.elim fun _ c => c.r0)
       have HLP := Aside0.mk hlp
       clear hb hs hr hlp)
    | ((with_reducible refine gate_dst (N := 31) rfl ?_); refine gate_guard rfl ?_; refine goesL_ (some 31) rfl rfl Tryz.func8 (by kernel_rfl) rfl #[] rfl (by (try simp only [List.map_toArray, List.map_cons, List.map_nil]); first | done | rfl) ?_
       refine (alive7 (S3.out.c.elim fun _ c => c.g0)).mono ?_; rintro e w4 ⟨rfl, hb⟩
       have S4 := Aside0.mk (S3.out.below hb)
       have SZ4 := Aside0.mk (Nat.le_trans B3.out.size hb.size)
       have B4 := Aside0.mk (B3.out.trans (hb.mono B3.out.size))
       clear hb
       refine ⟨_, rfl, ?_⟩)
    | ((with_reducible refine gate_dst (N := 35) rfl ?_); refine goesL_ (some 35) rfl rfl Tryz.func9 (by kernel_rfl) rfl #[.pointer (some ⟨p, 0, none⟩)] rfl (by (try simp only [List.map_toArray, List.map_cons, List.map_nil]); first | done | rfl) ?_
       have C14 := ids14 S4.out OKM.out; rw [HLP.out] at C14; refine C14.mono ?_; clear C14; rintro e w5 ⟨v, rfl, hr, hb⟩
       rw [← HXS.out] at hr
       obtain ⟨A5, q5, hv⟩ := Kd.R_slice hr
       subst hv
       have S5 := Aside0.mk (S4.out.below hb)
       have B5 := Aside0.mk (B4.out.trans (hb.mono B4.out.size))
       have SZ45 := Aside0.mk hb.size
       have I5 := Aside0.mk (own_in hr)
       have R5 := Aside0.mk hr
       clear hb hr
       refine ⟨_, rfl, ?_⟩)
    | ((with_reducible refine gate_dst (N := 37) rfl ?_); refine goesL_ (some 37) rfl rfl Tryz.func9 (by kernel_rfl) rfl #[.pointer (some ⟨p, 0, none⟩)] rfl (by (try simp only [List.map_toArray, List.map_cons, List.map_nil]); first | done | rfl) ?_
       have C14 := ids14 S5.out OKM.out; rw [HLP.out] at C14; refine C14.mono ?_; clear C14; rintro e w6 ⟨v, rfl, hr, hb⟩
       rw [← HXS.out] at hr
       obtain ⟨A6, q6, hv⟩ := Kd.R_slice hr
       subst hv
       have S6 := Aside0.mk (S5.out.below hb)
       have B6 := Aside0.mk (B5.out.trans (hb.mono B5.out.size))
       have SZ56 := Aside0.mk hb.size
       have R6 := Aside0.mk hr
       have R56 := Aside0.mk (Kd.R_below R5.out hb)
       clear hb hr
       refine ⟨_, rfl, ?_⟩)
    | ((with_reducible refine gate_dst (N := 40) rfl ?_); refine goesL_ (some 40) rfl rfl Tryz.func24 (by kernel_rfl) rfl #[.slice A5 xs.length q5, .slice A6 xs.length q6] rfl (by (try simp only [List.map_toArray, List.map_cons, List.map_nil]); first | done | rfl) ?_
       refine (tidemarklaw18_numbers.calls kn A5 q5 xs A6 q6 xs true _ (Kd.R_reads' R56.out).2.2 (Kd.R_reads' R56.out).2.1 (Kd.R_reads' R6.out).2.2 (Kd.R_reads' R6.out).2.1 HKN.out).mono ?_; rintro e w7 ⟨rfl, hd⟩
       have S7 := Aside0.mk (S6.out.below hd.below)
       have B7 := Aside0.mk (B6.out.trans (hd.below.mono B6.out.size))
       have R67 := Aside0.mk (Kd.R_below R6.out hd.below)
       have R57 := Aside0.mk (Kd.R_below R56.out hd.below)
       have SZ67 := Aside0.mk hd.below.size
       have FR := Aside0.mk (show ∀ k, w4.heap.size ≤ k → L.role k = .out from S4.out.c.elim fun _ c => c.fresh)
       clear hd
       refine ⟨_, rfl, ?_⟩))
  clear R5 R56 R6 S3 S4 S5 S6 B1 B4 B5 B6 BX HMAY G HKN
  go_loopg [8] xs.length (fun kq v8 wr => ∃ (i : Nat) (zs : List Int), v8 = .int .i64 (i : Int) ∧ Aside0 (i + kq = xs.length) ∧ Aside0 (zs.length = xs.length) ∧ Aside0 (Kd.R (Kd.int .i64) 3 wr w4.heap.size (fun _ => True) (.slice A5 xs.length q5) zs) ∧ Aside0 (Mv w7 wr (fun k => (Value.slice A5 xs.length q5).ownBlock = some k)))
  case atStart => exact ⟨0, xs, rfl, ⟨by omega⟩, ⟨rfl⟩, R57, ⟨Mv.refl _ _⟩⟩
  case round =>
    obtain ⟨i, zs, rfl, hik, hzl, hR, hMv⟩ := hrel
    clear R57
    obtain ⟨Ws, hWs, hMv⟩ : ∃ W, W = _ ∧ Aside0 (Mv w7 W (fun k => (Value.slice A5 xs.length q5).ownBlock = some k)) := ⟨_, rfl, hMv⟩
    subst hWs
    cases gk with
    | succ kr =>
      have hi0 : i < xs.length := by have := hik.out; omega
      have hi1 : (i : Int) < (xs.length : Int) := by omega
      have hi2 : (0 : Int) ≤ (i : Int) := by omega
      have HI0 := Aside0.mk hi0
      have hw2 : IntKind.i64.wrap ((i : Int) + 1) = ((i + 1 : Nat) : Int) := wrp (by omega) (by have := HXL.out; omega)
      obtain ⟨g5, hA5, _⟩ := own_ptr hR.out (by omega)
      subst hA5
      go_wp2_with (first
        | ((with_reducible refine gate_store (t := 3) (p := 50) rfl ?_)
           refine set_event (Kd.int .i64) rfl rfl rfl (i := i) (by first | exact (Nat.mul_one _).symm | rfl) (-1) [.int .i64 (-1)] rfl rfl rfl (by kernel_rfl) (by simp [Value.oneCell']) hR.out HI0.out (fun _ _ _ => rfl) ?_
           intro w8 hr hm
           have R8 := Aside0.mk hr
           have M8 := Aside0.mk (hMv.out.then_ (hm.mono (S2 := fun k => (Value.slice (some ⟨g5, 0, none⟩) xs.length q5).ownBlock = some k) (fun k hk => by rw [hk]; rfl)) (fun k hk => .inl hk))
           clear hr hm))
      go_roundg kr
      case measure => omega
      case rel => exact ⟨i + 1, _, rfl, ⟨by have := hik.out; omega⟩, ⟨(List.length_set ..).trans hzl.out⟩, R8, M8⟩
    | zero =>
      obtain rfl : i = xs.length := hik.out
      have hd1 : ¬ ((xs.length : Int) < (xs.length : Int)) := by omega
      go_upto_region 13 with (first
        | ((with_reducible refine gate_builtin (b := .append) rfl ?_); at_builtin
           refine app_event (Kd.int .i64) rfl rfl Tryz.underlying31 infoI rfl (by decide) (by decide) zs [-1, -1, -1] 3 rfl _ rfl rfl hR.out (fun _ _ => trivial) (by have h1 := SZ45.out; have h2 := SZ56.out; have h3 := SZ67.out; have h4 := hMv.out.size; omega) reps3 (by have h1 := HXL.out; have h2 := hzl.out; omega) (by simp) ?_
           intro A8 n8 c8 w8 _ hm
           have M8 := Aside0.mk (hMv.out.then_ hm (fun k hk => .inl hk))
           have S8 := Aside0.mk (S7.out.move M8.out (fun k hk => FR.out k (I5.out k hk).1))
           have B8 := Aside0.mk (M8.out.below B7.out B7.out.size (fun k hk => Nat.le_trans SZ4.out (I5.out k hk).1))
           have R8 := Aside0.mk (row_step intE R67.out (fun k hk hlt => M8.out.block k hlt (fun hk2 => by have h1 := (I5.out k hk2).2; have h2 := (own_in R67.out k hk).1; omega)))
           have HROW := Aside0.mk (ids_row R8.out)
           have HRO := Aside0.mk (show ∀ k, (Value.slice A6 xs.length q6).ownBlock = some k → L.role k = .out from fun k hk => FR.out k (Nat.le_trans SZ45.out (own_in R67.out k hk).1))
           clear hm))
      clear S7 B7 R67 hR hMv M8 hzl hd1 hik R8
      go_wp2
      go_loopg [9] xs.length (fun kq v9 wr => ∃ (i : Nat) (Lr : Lay), v9 = .int .i64 (i : Int) ∧ Aside0 (i + kq = xs.length) ∧ Aside0 (St wr Lr none2 (m.abortAll (xs.take i))) ∧ Aside0 (Goes w8 L wr Lr))
      case atStart => exact ⟨0, L, rfl, ⟨by omega⟩, S8, ⟨Goes.refl _ _⟩⟩
      case round =>
        obtain ⟨i, Lr, rfl, hik, hS, hG⟩ := hrel
        clear S8
        obtain ⟨Ws, hWs, hS⟩ : ∃ W, W = _ ∧ Aside0 (St W Lr none2 (m.abortAll (xs.take i))) := ⟨_, rfl, hS⟩
        subst hWs
        cases gk with
        | succ kr =>
          have hi0 : i < m.ids.length := by rw [← HXS.out]; have := hik.out; omega
          have hi1 : (i : Int) < (xs.length : Int) := by have := hik.out; omega
          have hi2 : (0 : Int) ≤ (i : Int) := by omega
          have hz := abort_zero OKM.out i hi0
          have hab := aborted OKM.out i (by rw [← ids_len]; omega)
          have HWF := Aside0.mk (ids_wf OKM.out i hi0)
          have hpos := ids_pos OKM.out i hi0
          rw [HXS.out] at hS
          obtain ⟨mi, hmi⟩ : ∃ mi, mi = m.abortAll (m.ids.take i) := ⟨_, rfl⟩
          rw [← hmi] at hS hz hab
          have HS2 := Aside0.mk (show m.abortAll (xs.take (i + 1)) = mi.abort m.ids[i] from by rw [HXS.out]; exact hz.2)
          have HZ := Aside0.mk hz.1
          have OKI := Aside0.mk hab.ok
          have hw2 : IntKind.i64.wrap ((i : Int) + 1) = ((i + 1 : Nat) : Int) := wrp (by omega) (by have h1 := OKM.out.size; have h2 := OKM.out.table; have h3 := ids_len m; omega)
          rcases HROW.out with ⟨h1, h2⟩ | ⟨g6, cap6, cur, h1, h2, h3, h4⟩
          · rw [← HXS.out, h2] at hi0
            exact absurd hi0 (by simp)
          · injection h1 with e1 e2 e3
            clear e2 e3
            subst e1
            have hblk := hG.out.mv.blk h3 (fun h => h.1 (HRO.out g6 rfl))
            have y1 : Ws.cell? ⟨g6, i, none⟩ = some (.int .i64 m.ids[i]) := by
              refine (blk_cell hblk i).trans ?_
              have h5 := h4 i (by rw [HXS.out]; exact hi0)
              rw [h5]
              congr 2
              simp [HXS.out]
            obtain ⟨id, hid⟩ : ∃ id, id = m.ids[i] := ⟨_, rfl⟩
            rw [← hid] at y1 HZ HS2 HWF hpos
            have hneg : ¬ (id < 1) := by omega
            clear hz hab hmi h2 h3 h4 hblk hid hpos
            go_wp2_with (first
              | (go_at_call 11; have C28 := abort28 hS.out OKI.out id HWF.out; rw [hG.out.p.trans HLP.out] at C28; refine C28.mono ?_; clear C28; rintro e w9 ⟨rfl, L9, hs, hg⟩; rw [HZ.out]
                 have S9 := Aside0.mk hs
                 have G9 := Aside0.mk (hG.out.trans hg)
                 clear hs hg)
              | (go_at_call 10; refine (num19 _ _).mono ?_; rintro e w10 ⟨rfl, rfl⟩))
            go_roundg kr
            case measure => omega
            case rel => exact ⟨i + 1, L9, rfl, ⟨by have := hik.out; omega⟩, by rw [HS2.out]; exact S9, G9⟩
        | zero =>
          obtain rfl : i = xs.length := hik.out
          have hd1 : ¬ ((xs.length : Int) < (xs.length : Int)) := by omega
          have hab := aborted OKM.out m.opn.length (Nat.le_refl _)
          rw [← ids_len, List.take_length] at hab
          rw [List.take_length, HXS.out] at hS
          obtain ⟨mf, hmf⟩ : ∃ mf, mf = m.abortAll m.ids := ⟨_, rfl⟩
          rw [← hmf] at hab hS
          have OKF := Aside0.mk hab.ok
          have HOP := Aside0.mk (show mf.opn = [] from by rw [hab.opn, ids_len, List.drop_length])
          have HALL := Aside0.mk (show foldC mf.done = mf.all from by rw [hab.done, all_eq, hab.left, ← all_eq]; exact (SER.out.all OKM.out).symm)
          have HAL := Aside0.mk (show mf.all.length ≤ 128 from by have h1 := allOf_length hab.ok mf.left.length; rw [List.take_length] at h1; have h2 := hab.ok.left; have h3 := hab.ok.pages; exact Nat.le_trans h1 (by omega))
          obtain ⟨es, hes⟩ : ∃ es, es = ents mf.all := ⟨_, rfl⟩
          have HES := Aside0.mk hes
          have HEL := Aside0.mk (show es.length ≤ 128 from by rw [hes, ents_length]; exact HAL.out)
          obtain ⟨k3, hk3⟩ := entries_self es (Nat.lt_of_le_of_lt HEL.out (by omega))
          have HK3 := Aside0.mk hk3
          obtain ⟨ds, hds⟩ : ∃ ds, ds = mf.done := ⟨_, rfl⟩
          have HDS := Aside0.mk hds
          have HKW := Aside0.mk (show ∀ t ∈ ds, ∀ x ∈ t, (Lit.int .i64 x.f0).wf = true from fun t ht x hx => by
            rw [hds, hab.done] at ht
            have h1 := SER.out.keys t ht x hx
            have h2 := OKM.out.keys
            exact wf64 (by omega))
          have HDL := Aside0.mk (show ds.length < 4000000000000 from by rw [hds, hab.done]; exact DL.out)
          have HRW := Aside0.mk (show ∀ t ∈ ds, t.length ≤ 2000 from by rw [hds, hab.done]; exact ROWS.out)
          have HCN := Aside0.mk (show cntC ds ≤ 2000 * 4000000000000 from by have h1 := cnt_le ds HRW.out; have := HDL.out; omega)
          have HFL := Aside0.mk (show (foldC ds).length < 1000000000000 from by rw [hds, HALL.out]; exact Nat.lt_of_le_of_lt HAL.out (by omega))
          have HFE := Aside0.mk (show ents (foldC ds) = es from by rw [hds, HALL.out, HES.out])
          have GP := Aside0.mk (hG.out.p.trans HLP.out)
          have BA := Aside0.mk (below_goes B8.out hG.out RR.out R0.out)
          have ZW := Aside0.mk BA.out.size
          have FRH := Aside0.mk (show ∀ k, Ws.heap.size ≤ k → Lr.role k = .out from hS.out.c.elim fun _ c => c.fresh)
          clear hab hmf hes hk3 hds hG hd1 hik HROW HRO RR R0 B8 FR I5 SZ4 SZ45 SZ56 SZ67 B3
          go_upto_region 21 with (first
            | (go_at_call 12; have C12 := entries12 hS.out OKF.out HOP.out; rw [GP.out] at C12; refine C12.mono ?_; clear C12; rintro e wB ⟨v, rfl, hr, hb⟩
               rw [← HES.out] at hr
               obtain ⟨Aa, qa, hv⟩ := Kd.R_slice hr
               subst hv
               have Ra1 := Aside0.mk hr
               have SB := Aside0.mk (hS.out.below hb)
               have BB := Aside0.mk (BA.out.trans (hb.mono BA.out.size))
               have ZAB := Aside0.mk hb.size
               have IA := Aside0.mk (own_in hr)
               clear hr hb))
          go_upto_region 22 with (first
            | (go_at_call 12; have C12 := entries12 SB.out OKF.out HOP.out; rw [GP.out] at C12; refine C12.mono ?_; clear C12; rintro e wC ⟨v, rfl, hr, hb⟩
               rw [← HES.out] at hr
               obtain ⟨Ab, qb, hv⟩ := Kd.R_slice hr
               subst hv
               have Rb1 := Aside0.mk hr
               have SC := Aside0.mk (SB.out.below hb)
               have BC := Aside0.mk (BB.out.trans (hb.mono BB.out.size))
               have Ra2 := Aside0.mk (Kd.R_below Ra1.out hb)
               have ZBC := Aside0.mk hb.size
               have IB := Aside0.mk (own_in hr)
               clear hr hb))
          clear SB BB Ra1 BA hS
          go_upto_region 23 with (first
            | ((with_reducible refine gate_dst (N := 84) rfl ?_); refine goesL_ (some 84) rfl rfl Tryz.func15 (by kernel_rfl) rfl #[.pointer (some ⟨p, 0, none⟩)] rfl (by (try simp only [List.map_toArray, List.map_cons, List.map_nil]); first | done | rfl) ?_
               have C15 := done15R SC.out (by rw [← HDS.out]; have := HDL.out; omega) (fun t ht => by rw [← HDS.out] at ht; have := HRW.out t ht; omega); rw [GP.out, ← HDS.out] at C15; refine C15.mono ?_; clear C15; rintro e wD ⟨gd, us, rfl, hdr, hb⟩
               have Dd1 := Aside0.mk hdr
               have SD := Aside0.mk (SC.out.below hb)
               have BD := Aside0.mk (BC.out.trans (hb.mono BC.out.size))
               have Ra3 := Aside0.mk (Kd.R_below Ra2.out hb)
               have Rb2 := Aside0.mk (Kd.R_below Rb1.out hb)
               have ZCD := Aside0.mk hb.size
               have ID := Aside0.mk (And.intro (And.intro hdr.hg (blk_lt hdr.blk)) hdr.lt)
               clear hdr hb
               refine ⟨_, rfl, ?_⟩))
          clear SC BC Ra2 Rb1
          go_upto_region 24 with (first
            | ((with_reducible refine gate_dst (N := 86) rfl ?_); refine goesL_ (some 86) rfl rfl Tryz.func15 (by kernel_rfl) rfl #[.pointer (some ⟨p, 0, none⟩)] rfl (by (try simp only [List.map_toArray, List.map_cons, List.map_nil]); first | done | rfl) ?_
               have C15 := done15R SD.out (by rw [← HDS.out]; have := HDL.out; omega) (fun t ht => by rw [← HDS.out] at ht; have := HRW.out t ht; omega); rw [GP.out, ← HDS.out] at C15; refine C15.mono ?_; clear C15; rintro e wE ⟨gf, vs, rfl, hdr, hb⟩
               have Df1 := Aside0.mk hdr
               have SE := Aside0.mk (SD.out.below hb)
               have BE := Aside0.mk (BD.out.trans (hb.mono BD.out.size))
               have Ra4 := Aside0.mk (Kd.R_below Ra3.out hb)
               have Rb3 := Aside0.mk (Kd.R_below Rb2.out hb)
               have Dd2 := Aside0.mk (Dd1.out.below hb)
               have ZDE := Aside0.mk hb.size
               have IF := Aside0.mk (And.intro (And.intro hdr.hg (blk_lt hdr.blk)) hdr.lt)
               clear hdr hb
               refine ⟨_, rfl, ?_⟩))
          clear SD BD Ra3 Rb2
          go_upto_region 25 with (first
            | ((with_reducible refine gate_dst (N := 88) rfl ?_); refine goesL_ (some 88) rfl rfl Tryz.func14 (by kernel_rfl) rfl #[.slice (some ⟨gd, 0, none⟩) ds.length ds.length] rfl (by (try simp only [List.map_toArray, List.map_cons, List.map_nil]); first | done | rfl) ?_
               refine (Fold6g (Dd2.out.reads (by have := HDL.out; omega)) (Nat.le_refl _) (by have := HDL.out; omega) (by have := HCN.out; omega) HFL.out HKW.out).mono ?_; rintro e wF ⟨v, rfl, hr, hb⟩
               rw [HFE.out] at hr
               obtain ⟨Ax, qx, hv⟩ := Kd.R_slice hr
               subst hv
               have Rx1 := Aside0.mk hr
               have SF := Aside0.mk (SE.out.below hb)
               have BF := Aside0.mk (BE.out.trans (hb.mono BE.out.size))
               have Ra5 := Aside0.mk (Kd.R_below Ra4.out hb)
               have Rb4 := Aside0.mk (Kd.R_below Rb3.out hb)
               have Dd3 := Aside0.mk (Dd2.out.below hb)
               have Df2 := Aside0.mk (Df1.out.below hb)
               have ZEF := Aside0.mk hb.size
               have IX := Aside0.mk (own_in hr)
               clear hr hb
               refine ⟨_, rfl, ?_⟩))
          clear SE BE Ra4 Rb3
          go_upto_region 27 with (first
            | ((with_reducible refine gate_dst (N := 91) rfl ?_); refine goesL_ (some 91) rfl rfl Tryz.func13 (by kernel_rfl) rfl #[.slice Aa es.length qa, .slice Ab es.length qb] rfl (by (try simp only [List.map_toArray, List.map_cons, List.map_nil]); first | done | rfl) ?_
               refine (tidemarklaw18_entries.calls k3 Aa qa es Ab qb es true _ (Kd.R_reads' Ra5.out).2.2 (Kd.R_reads' Ra5.out).2.1 (Kd.R_reads' Rb4.out).2.2 (Kd.R_reads' Rb4.out).2.1 HK3.out).mono ?_; rintro e wG ⟨rfl, hd⟩
               have HG1 := Aside0.mk hd.below
               clear hd
               refine ⟨_, rfl, ?_⟩)
            | ((with_reducible refine gate_dst (N := 96) rfl ?_); refine gate_guard rfl ?_; refine goesL_ (some 96) rfl rfl Tryz.func13 (by kernel_rfl) rfl #[.slice Aa es.length qa, .slice Ax es.length qx] rfl (by (try simp only [List.map_toArray, List.map_cons, List.map_nil]); first | done | rfl) ?_
               refine (tidemarklaw18_entries.calls k3 Aa qa es Ax qx es true _ (Kd.R_reads' (Kd.R_below Ra5.out HG1.out)).2.2 (Kd.R_reads' Ra5.out).2.1 (Kd.R_reads' (Kd.R_below Rx1.out HG1.out)).2.2 (Kd.R_reads' Rx1.out).2.1 HK3.out).mono ?_; rintro e wH ⟨rfl, hd⟩
               have HH := Aside0.mk (HG1.out.trans (hd.below.mono HG1.out.size))
               have SH := Aside0.mk (SF.out.below HH.out)
               have BH := Aside0.mk (BF.out.trans (HH.out.mono BF.out.size))
               have Ra := Aside0.mk (Kd.R_below Ra5.out HH.out)
               have Rb := Aside0.mk (Kd.R_below Rb4.out HH.out)
               have Rx := Aside0.mk (Kd.R_below Rx1.out HH.out)
               have Dd := Aside0.mk (Dd3.out.below HH.out)
               have Df := Aside0.mk (Df2.out.below HH.out)
               clear hd
               refine ⟨_, rfl, ?_⟩))
          have ZH := Aside0.mk (show Ws.heap.size ≤ wB.heap.size ∧ wB.heap.size ≤ wC.heap.size ∧ wC.heap.size ≤ wD.heap.size ∧ wD.heap.size ≤ wE.heap.size ∧ wE.heap.size ≤ wF.heap.size ∧ wF.heap.size ≤ wH.heap.size from ⟨ZAB.out, ZBC.out, ZCD.out, ZDE.out, ZEF.out, HH.out.size⟩)
          clear SF BF Ra5 Rb4 Rx1 Dd3 Df2 HG1 HH ZAB ZBC ZCD ZDE ZEF
          go_wp2
          go_loopg [17] es.length (fun kq v17 wr => ∃ (i : Nat) (ea ex : List S58), v17 = .int .i64 (i : Int) ∧ Aside0 (i + kq = es.length) ∧ Aside0 (ea.length = es.length) ∧ Aside0 (ex.length = es.length) ∧ Aside0 (Kd.R k58 58 wr Ws.heap.size (fun _ => True) (.slice Aa es.length qa) ea) ∧ Aside0 (Kd.R k58 58 wr wE.heap.size (fun _ => True) (.slice Ax es.length qx) ex) ∧ Aside0 (Mv wH wr (Sq Ws.heap.size wB.heap.size wE.heap.size)))
          case atStart => exact ⟨0, es, es, rfl, ⟨by omega⟩, ⟨rfl⟩, ⟨rfl⟩, Ra, Rx, ⟨Mv.refl _ _⟩⟩
          case round =>
            obtain ⟨i, ea, ex, rfl, hik, hl1, hl2, hRa, hRx, hMv⟩ := hrel
            clear Ra Rx
            obtain ⟨Wt, hWt, hMv⟩ : ∃ W, W = _ ∧ Aside0 (Mv wH W (Sq Ws.heap.size wB.heap.size wE.heap.size)) := ⟨_, rfl, hMv⟩
            subst hWt
            cases gk with
            | succ kr =>
              have hi0 : i < es.length := by have := hik.out; omega
              have hi1 : (i : Int) < (es.length : Int) := by omega
              have hi2 : (0 : Int) ≤ (i : Int) := by omega
              have HI0 := Aside0.mk hi0
              have hw2 : IntKind.i64.wrap ((i : Int) + 1) = ((i + 1 : Nat) : Int) := wrp (by omega) (by have := HEL.out; omega)
              obtain ⟨ga, hAa, _⟩ := own_ptr hRa.out (by omega)
              obtain ⟨gx, hAx, _⟩ := own_ptr hRx.out (by omega)
              subst hAa
              subst hAx
              have JA := Aside0.mk (IA.out ga rfl)
              have JX := Aside0.mk (IX.out gx rfl)
              go_wp2_with (first
                | ((with_reducible refine gate_store (t := 58) (p := 115) rfl ?_)
                   refine set_event k58 rfl rfl rfl (i := i) (by first | exact (Nat.mul_one _).symm | rfl) (⟨-1, 0⟩ : S58) [.int .i64 (-1), .int .u64 0] rfl rfl rfl (by kernel_rfl) (by simp [Value.oneCell']) hRa.out HI0.out (fun W b o => k58_mkM W b o (⟨-1, 0⟩ : S58)) ?_
                   intro w8 hr hm
                   have Ra8 := Aside0.mk hr
                   have Rx8 := Aside0.mk (row_step entE hRx.out (fun k hk hlt => hm.block k hlt (fun e => by have h1 := IX.out k hk; have h2 := JA.out; have h3 := ZH.out; omega)))
                   have M8 := Aside0.mk (hMv.out.then_ hm (fun k hk => .inl (.inl (by rw [hk]; exact JA.out))))
                   clear hr hm)
                | ((with_reducible refine gate_store (t := 58) (p := 119) rfl ?_)
                   refine set_event k58 rfl rfl rfl (i := i) (by first | exact (Nat.mul_one _).symm | rfl) (⟨-2, 0⟩ : S58) [.int .i64 (-2), .int .u64 0] rfl rfl rfl (by kernel_rfl) (by simp [Value.oneCell']) Rx8.out HI0.out (fun W b o => k58_mkM W b o (⟨-2, 0⟩ : S58)) ?_
                   intro w9 hr hm
                   have Rx9 := Aside0.mk hr
                   have Ra9 := Aside0.mk (row_step entE Ra8.out (fun k hk hlt => hm.block k hlt (fun e => by have h1 := IA.out k hk; have h2 := JX.out; have h3 := ZH.out; omega)))
                   have M9 := Aside0.mk (M8.out.then_ hm (fun k hk => .inl (.inr (by rw [hk]; exact JX.out.1))))
                   clear hr hm))
              go_roundg kr
              case measure => omega
              case rel => exact ⟨i + 1, _, _, rfl, ⟨by have := hik.out; omega⟩, ⟨(List.length_set ..).trans hl1.out⟩, ⟨(List.length_set ..).trans hl2.out⟩, Ra9, Rx9, M9⟩
            | zero =>
              obtain rfl : i = es.length := hik.out
              have hd1 : ¬ ((es.length : Int) < (es.length : Int)) := by omega
              clear hRx hl2
              go_upto_region 33 with (first
                | ((with_reducible refine gate_builtin (b := .append) rfl ?_); at_builtin
                   refine app_event k58 rfl rfl Tryz.underlying36 infoE rfl (by decide) (by decide) ea [⟨-1, 0⟩] 1 rfl _ rfl rfl hRa.out (fun _ _ => trivial) (by have h1 := ZH.out; have h2 := hMv.out.size; omega) (repsE (-1)) (by have h1 := HEL.out; have h2 := hl1.out; omega) (by simp) ?_
                   intro A9 n9 c9 w9 _ hm
                   have M9 := Aside0.mk (hMv.out.then_ hm (fun k hk => .inl (.inl (IA.out k hk))))
                   have Dd9 := Aside0.mk (Dd.out.step2 (fun k hb hlt hor => M9.out.block k hlt (fun h => by
                     have h1 := ZH.out
                     have h2 : wC.heap.size ≤ k ∧ k < wD.heap.size := by
                       rcases hor with e | ⟨j, u, hu, ho⟩
                       · rw [e]; exact ID.out.1
                       · exact ID.out.2 j u k hu ho
                     rcases h with h | h <;> omega)))
                   have M10 := Aside0.mk (M9.out.mono (S2 := Sp Ws.heap.size wB.heap.size wC.heap.size wD.heap.size wE.heap.size) (fun k hk => sq_sp ZH.out.1 ZH.out.2.1 ZH.out.2.2.1 ZH.out.2.2.2.1 hk))
                   clear hm))
              have UL := Aside0.mk Dd.out.len
              clear hRa hMv M9 hl1 hd1 hik Dd
              go_wp2
              go_loopg [18] ds.length (fun kq v18 wr => ∃ (n : Nat) (zs : List (List Chg)), v18 = .int .i64 (n : Int) ∧ Aside0 (n + kq = ds.length) ∧ Aside0 (∀ j, (zs.getD j []).length = (ds.getD j []).length) ∧ Aside0 (DR wr gd wC.heap.size us zs) ∧ Aside0 (Mv wH wr (Sp Ws.heap.size wB.heap.size wC.heap.size wD.heap.size wE.heap.size)))
              case atStart => exact ⟨0, ds, rfl, ⟨by omega⟩, ⟨fun _ => rfl⟩, Dd9, M10⟩
              case round =>
                obtain ⟨n, zs, rfl, hik, hzl, hD, hMv⟩ := hrel
                clear Dd9 M10
                obtain ⟨Wt2, hWt, hMv⟩ : ∃ W, W = _ ∧ Aside0 (Mv wH W (Sp Ws.heap.size wB.heap.size wC.heap.size wD.heap.size wE.heap.size)) := ⟨_, rfl, hMv⟩
                subst hWt
                cases gk with
                | succ kr =>
                  have hn0 : n < ds.length := by have := hik.out; omega
                  have hn1 : (n : Int) < (ds.length : Int) := by omega
                  have hn2 : (0 : Int) ≤ (n : Int) := by omega
                  have hw2 : IntKind.i64.wrap ((n : Int) + 1) = ((n + 1 : Nat) : Int) := wrp (by omega) (by have := HDL.out; omega)
                  obtain ⟨u, hu⟩ : ∃ u, us[n]? = some u := ⟨_, List.getElem?_eq_getElem (by rw [UL.out]; exact hn0)⟩
                  obtain ⟨Au, qu, hvu⟩ := Kd.R_slice (hD.out.row n u hu)
                  obtain ⟨ln, hln⟩ : ∃ ln, ln = (ds.getD n []).length := ⟨_, rfl⟩
                  rw [hzl.out n, ← hln] at hvu
                  subst hvu
                  have HU := Aside0.mk hu
                  have HLN := Aside0.mk hln
                  have HLS := Aside0.mk (show ln ≤ 2000 from by rw [hln, show ds.getD n [] = ds[n] from by simp [hn0]]; exact HRW.out _ (List.getElem_mem hn0))
                  clear hu hln
                  go_wp2
                  go_loopg [19] ln (fun kq v19 wr => ∃ (k : Nat) (ys : List (List Chg)), v19 = .int .i64 (k : Int) ∧ Aside0 (k + kq = ln) ∧ Aside0 (∀ j, (ys.getD j []).length = (ds.getD j []).length) ∧ Aside0 (DR wr gd wC.heap.size us ys) ∧ Aside0 (Mv wH wr (Sp Ws.heap.size wB.heap.size wC.heap.size wD.heap.size wE.heap.size)))
                  case atStart => exact ⟨0, zs, rfl, ⟨by omega⟩, hzl, hD, hMv⟩
                  case round =>
                    obtain ⟨k, ys, rfl, hik2, hyl, hD2, hMv2⟩ := hrel
                    clear hzl hD hMv
                    obtain ⟨Wv, hWv, hMv2⟩ : ∃ W, W = _ ∧ Aside0 (Mv wH W (Sp Ws.heap.size wB.heap.size wC.heap.size wD.heap.size wE.heap.size)) := ⟨_, rfl, hMv2⟩
                    subst hWv
                    have y0 : Wv.cell? ⟨gd, n, none⟩ = some (.slice Au ln qu) := (blk_cell hD2.out.blk n).trans (by simpa using HU.out)
                    cases gk with
                    | succ ks =>
                      have hk0 : k < ln := by have := hik2.out; omega
                      have hk1 : (k : Int) < (ln : Int) := by omega
                      have hk2 : (0 : Int) ≤ (k : Int) := by omega
                      have HK0 := Aside0.mk hk0
                      have hw3 : IntKind.i64.wrap ((k : Int) + 1) = ((k + 1 : Nat) : Int) := wrp (by omega) (by have := HLS.out; omega)
                      obtain ⟨gu, hAu, _⟩ := own_ptr (hD2.out.row n _ HU.out) (by omega)
                      subst hAu
                      go_wp2_with (first
                        | ((with_reducible refine gate_store (t := 52) (p := 145) rfl ?_)
                           refine set_event kChg rfl rfl rfl (i := k) (by first | exact (Nat.mul_one _).symm | rfl) (⟨-3, 0, false⟩ : Chg) [.int .i64 (-3), .int .u64 0, .bool false] rfl rfl rfl (by kernel_rfl) (by simp [Value.oneCell']) (hD2.out.row n _ HU.out) HK0.out (fun W b o => k52_mkM W b o (⟨-3, 0, false⟩ : Chg)) ?_
                           intro w8 hr hm
                           have D8 := Aside0.mk (hD2.out.setRow HU.out hr (hm.mono (fun k hk => by rw [hk]; rfl)))
                           have M8 := Aside0.mk (hMv2.out.then_ hm (fun k hk => .inl (by rw [hk]; exact sp_d ZH.out.1 ZH.out.2.1 (ID.out.2 n _ gu HU.out rfl))))
                           clear hr hm))
                      go_roundg ks
                      case measure => omega
                      case rel => exact ⟨k + 1, _, rfl, ⟨by have := hik2.out; omega⟩, ⟨lens_set hyl.out (List.length_set ..)⟩, D8, M8⟩
                    | zero =>
                      obtain rfl : k = ln := hik2.out
                      have hd1 : ¬ ((k : Int) < (k : Int)) := by omega
                      go_wp2
                      go_roundg kr
                      case measure => omega
                      case rel => exact ⟨n + 1, ys, rfl, ⟨by have := hik.out; omega⟩, hyl, hD2, hMv2⟩
                | zero =>
                  obtain rfl : n = ds.length := hik.out
                  have hd1 : ¬ ((ds.length : Int) < (ds.length : Int)) := by omega
                  have TS0 := Aside0.mk (D10.start hD.out)
                  have NE := Aside0.mk hD.out.ne
                  clear hik hD
                  go_wp2
                  clear hd1
                  go_loopg [20] ds.length (fun kq v20 wr => ∃ (n : Nat), v20 = .int .i64 (n : Int) ∧ Aside0 (n + kq = ds.length) ∧ Aside0 (D10 wr gd wC.heap.size n us zs) ∧ Aside0 (Mv wH wr (Sp Ws.heap.size wB.heap.size wC.heap.size wD.heap.size wE.heap.size)))
                  case atStart => exact ⟨0, rfl, ⟨by omega⟩, TS0, hMv⟩
                  case round =>
                    obtain ⟨n, rfl, hik, hT, hMv2⟩ := hrel
                    clear TS0 hMv
                    obtain ⟨Wv, hWv, hMv2⟩ : ∃ W, W = _ ∧ Aside0 (Mv wH W (Sp Ws.heap.size wB.heap.size wC.heap.size wD.heap.size wE.heap.size)) := ⟨_, rfl, hMv2⟩
                    subst hWv
                    cases gk with
                    | succ kr =>
                      have hn0 : n < ds.length := by have := hik.out; omega
                      have hn1 : (n : Int) < (ds.length : Int) := by omega
                      have hn2 : (0 : Int) ≤ (n : Int) := by omega
                      have HN0 := Aside0.mk hn0
                      have hw2 : IntKind.i64.wrap ((n : Int) + 1) = ((n + 1 : Nat) : Int) := wrp (by omega) (by have := HDL.out; omega)
                      obtain ⟨u, hu⟩ : ∃ u, us[n]? = some u := ⟨_, List.getElem?_eq_getElem (by rw [UL.out]; exact hn0)⟩
                      obtain ⟨zn, hzn⟩ : ∃ zn, zn = zs.getD n [] := ⟨_, rfl⟩
                      have hrow := hT.out.row n u (Nat.le_refl _) hu
                      rw [← hzn] at hrow
                      have HZN := Aside0.mk (show zn.length ≤ 2000 from by rw [hzn, hzl.out n, show ds.getD n [] = ds[n] from by simp [hn0]]; exact HRW.out _ (List.getElem_mem hn0))
                      obtain ⟨Au, qu, hvu⟩ := Kd.R_slice hrow
                      subst hvu
                      have HU := Aside0.mk hu
                      have HR := Aside0.mk hrow
                      obtain ⟨cur, hc1, hc2, hc3⟩ := hT.out.blk
                      have HC1 := Aside0.mk hc1
                      have y0 : Wv.cell? ⟨gd, n, none⟩ = some (.slice Au zn.length qu) := (blk_cell hc1 n).trans ((hc3 n (Nat.le_refl _)).trans hu)
                      clear hu hzn hrow hc1 hc2 hc3
                      go_wp2_with (first
                        | ((with_reducible refine gate_builtin (b := .append) rfl ?_); at_builtin
                           refine app_event kChg rfl rfl Tryz.underlying45 infoC rfl (by decide) (by decide) zn [⟨-3, 0, false⟩, ⟨-3, 0, false⟩] 2 rfl _ rfl rfl HR.out (fun k hk => by have := blk_lt HC1.out; omega) (by have h1 := ZH.out; have h2 := hMv2.out.size; omega) (repsC (-3)) (by have h1 := HZN.out; omega) (by simp) ?_
                           intro A9 n9 c9 w9 _ hm
                           have G9 := Aside0.mk (hT.out.grow HU.out hm NE.out)
                           have M9 := Aside0.mk (hMv2.out.then_ hm (fun k hk => .inl (sp_d ZH.out.1 ZH.out.2.1 (ID.out.2 n _ k HU.out hk))))
                           obtain ⟨cur9, hb9, hs9, hq9⟩ := G9.out.1
                           have C9 := Aside0.mk hb9
                           have S9 := Aside0.mk hs9
                           have Q9 := Aside0.mk hq9
                           clear hm hb9 hs9 hq9)
                        | ((with_reducible refine gate_store (t := 45) (p := 164) rfl ?_)
                           refine put_event rfl rfl (g := gd) (i := n) rfl rfl rfl rfl C9.out (by rw [S9.out, UL.out]; exact HN0.out) (by kernel_rfl) ?_
                           intro w10 hc hm
                           have TS1 := Aside0.mk (D10.put S9.out Q9.out G9.out.2 hc hm)
                           have M10 := Aside0.mk (M9.out.then_ hm (fun k hk => .inl (by rw [hk]; exact sp_d ZH.out.1 ZH.out.2.1 ID.out.1)))
                           clear hc hm))
                      go_roundg kr
                      case measure => omega
                      case rel => exact ⟨n + 1, rfl, ⟨by have := hik.out; omega⟩, TS1, M10⟩
                    | zero =>
                      obtain rfl : n = ds.length := hik.out
                      have hd1 : ¬ ((ds.length : Int) < (ds.length : Int)) := by omega
                      have SK := Aside0.mk (SH.out.move hMv2.out (fun k hk => FRH.out k hk.1))
                      have RbK := Aside0.mk (row_step entE Rb.out (fun k hk hlt => hMv2.out.block k hlt (fun h => h.2.1 (IB.out k hk))))
                      have DfK := Aside0.mk (Df.out.step2 (fun k hb hlt hor => hMv2.out.block k hlt (fun h => h.2.2 (by
                        rcases hor with e | ⟨j, u, hu, ho⟩
                        · rw [e]; exact IF.out.1
                        · exact IF.out.2 j u k hu ho))))
                      have BK := Aside0.mk (hMv2.out.below BH.out BH.out.size (fun k hk => Nat.le_trans ZW.out hk.1))
                      clear SH Rb Df BH hT NE hMv2 ID IA IB IX IF
                      go_upto_region 46 with (first
                        | (go_at_call 12; have C12 := entries12 SK.out OKF.out HOP.out; rw [GP.out] at C12; refine C12.mono ?_; clear C12; rintro e wY ⟨v, rfl, hr, hb⟩
                           rw [← HES.out] at hr
                           obtain ⟨Ay, qy, hv⟩ := Kd.R_slice hr
                           subst hv
                           have Ry := Aside0.mk hr
                           have SY := Aside0.mk (SK.out.below hb)
                           have BY := Aside0.mk (BK.out.trans (hb.mono BK.out.size))
                           have RbY := Aside0.mk (Kd.R_below RbK.out hb)
                           have DfY := Aside0.mk (DfK.out.below hb)
                           clear hr hb))
                      clear SK RbK DfK BK hd1
                      go_wp2_with (first
                        | ((with_reducible refine gate_dst (N := 172) rfl ?_); refine goesL_ (some 172) rfl rfl Tryz.func13 (by kernel_rfl) rfl #[.slice Ay es.length qy, .slice Ab es.length qb] rfl (by (try simp only [List.map_toArray, List.map_cons, List.map_nil]); first | done | rfl) ?_
                           refine (tidemarklaw18_entries.calls k3 Ay qy es Ab qb es true _ (Kd.R_reads' Ry.out).2.2 (Kd.R_reads' Ry.out).2.1 (Kd.R_reads' RbY.out).2.2 (Kd.R_reads' RbY.out).2.1 HK3.out).mono ?_; rintro e wP ⟨rfl, hd⟩
                           have SP1 := Aside0.mk (SY.out.below hd.below)
                           have BP := Aside0.mk (BY.out.trans (hd.below.mono BY.out.size))
                           have RbP := Aside0.mk (Kd.R_below RbY.out hd.below)
                           have DfP := Aside0.mk (DfY.out.below hd.below)
                           clear hd
                           refine ⟨_, rfl, ?_⟩)
                        | ((with_reducible refine gate_dst (N := 175) rfl ?_); refine gate_guard rfl ?_; refine goesL_ (some 175) rfl rfl Tryz.func14 (by kernel_rfl) rfl #[.slice (some ⟨gf, 0, none⟩) ds.length ds.length] rfl (by (try simp only [List.map_toArray, List.map_cons, List.map_nil]); first | done | rfl) ?_
                           refine (Fold6g (DfP.out.reads (by have := HDL.out; omega)) (Nat.le_refl _) (by have := HDL.out; omega) (by have := HCN.out; omega) HFL.out HKW.out).mono ?_; rintro e wQ ⟨v, rfl, hr, hb⟩
                           rw [HFE.out] at hr
                           obtain ⟨Au, qu, hv⟩ := Kd.R_slice hr
                           subst hv
                           have RuQ := Aside0.mk hr
                           have SQ1 := Aside0.mk (SP1.out.below hb)
                           have BQ := Aside0.mk (BP.out.trans (hb.mono BP.out.size))
                           have RbQ := Aside0.mk (Kd.R_below RbP.out hb)
                           clear hr hb
                           refine ⟨_, rfl, ?_⟩)
                        | ((with_reducible refine gate_dst (N := 177) rfl ?_); refine gate_guard rfl ?_; refine goesL_ (some 177) rfl rfl Tryz.func13 (by kernel_rfl) rfl #[.slice Au es.length qu, .slice Ab es.length qb] rfl (by (try simp only [List.map_toArray, List.map_cons, List.map_nil]); first | done | rfl) ?_
                           refine (tidemarklaw18_entries.calls k3 Au qu es Ab qb es true _ (Kd.R_reads' RuQ.out).2.2 (Kd.R_reads' RuQ.out).2.1 (Kd.R_reads' RbQ.out).2.2 (Kd.R_reads' RbQ.out).2.1 HK3.out).mono ?_; rintro e wR ⟨rfl, hd⟩
                           have SR := Aside0.mk (SQ1.out.below hd.below)
                           have BR := Aside0.mk (BQ.out.trans (hd.below.mono BQ.out.size))
                           have RbR := Aside0.mk (Kd.R_below RbQ.out hd.below)
                           clear hd
                           refine ⟨_, rfl, ?_⟩)
                        | ((with_reducible refine gate_dst (N := 181) rfl ?_); refine gate_guard rfl ?_; refine goesL_ (some 181) rfl rfl Tryz.func15 (by kernel_rfl) rfl #[.pointer (some ⟨p, 0, none⟩)] rfl (by (try simp only [List.map_toArray, List.map_cons, List.map_nil]); first | done | rfl) ?_
                           have C15 := done15R SR.out (by rw [← HDS.out]; have := HDL.out; omega) (fun t ht => by rw [← HDS.out] at ht; have := HRW.out t ht; omega); rw [GP.out, ← HDS.out] at C15; refine C15.mono ?_; clear C15; rintro e wS ⟨gz, uz, rfl, hdr, hb⟩
                           have DzS := Aside0.mk hdr
                           have BS := Aside0.mk (BR.out.trans (hb.mono BR.out.size))
                           have RbS := Aside0.mk (Kd.R_below RbR.out hb)
                           clear hdr hb
                           refine ⟨_, rfl, ?_⟩)
                        | ((with_reducible refine gate_dst (N := 182) rfl ?_); refine gate_guard rfl ?_; refine goesL_ (some 182) rfl rfl Tryz.func14 (by kernel_rfl) rfl #[.slice (some ⟨gz, 0, none⟩) ds.length ds.length] rfl (by (try simp only [List.map_toArray, List.map_cons, List.map_nil]); first | done | rfl) ?_
                           refine (Fold6g (DzS.out.reads (by have := HDL.out; omega)) (Nat.le_refl _) (by have := HDL.out; omega) (by have := HCN.out; omega) HFL.out HKW.out).mono ?_; rintro e wT ⟨v, rfl, hr, hb⟩
                           rw [HFE.out] at hr
                           obtain ⟨Av, qv, hv⟩ := Kd.R_slice hr
                           subst hv
                           have RvT := Aside0.mk hr
                           have BT := Aside0.mk (BS.out.trans (hb.mono BS.out.size))
                           have RbT := Aside0.mk (Kd.R_below RbS.out hb)
                           clear hr hb
                           refine ⟨_, rfl, ?_⟩)
                        | ((with_reducible refine gate_dst (N := 184) rfl ?_); refine gate_guard rfl ?_; refine goesL_ (some 184) rfl rfl Tryz.func13 (by kernel_rfl) rfl #[.slice Av es.length qv, .slice Ab es.length qb] rfl (by (try simp only [List.map_toArray, List.map_cons, List.map_nil]); first | done | rfl) ?_
                           refine (tidemarklaw18_entries.calls k3 Av qv es Ab qb es true _ (Kd.R_reads' RvT.out).2.2 (Kd.R_reads' RvT.out).2.1 (Kd.R_reads' RbT.out).2.2 (Kd.R_reads' RbT.out).2.1 HK3.out).mono ?_; rintro e wU ⟨rfl, hd⟩
                           have BU := Aside0.mk (BT.out.trans (hd.below.mono BT.out.size))
                           clear hd
                           refine ⟨_, rfl, ?_⟩))
                      go_ret
                      exact ⟨rfl, BU.out⟩
end Go.Proofs.YtcdfdckdodgbpaaGreatDoor.QA
