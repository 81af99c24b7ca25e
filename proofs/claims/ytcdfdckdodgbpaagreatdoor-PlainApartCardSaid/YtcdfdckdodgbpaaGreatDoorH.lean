/- Done, with what is its own: a block for the list, and a block for each row, no two alike. Stores into rows of one's own, and appends onto them. Chapter 18, P18.3, P18.4, P18.9: what one transaction does, and what another sees of it: in plain Lean. What lies beside the state: the config's block, and two rows of one's own. PlainApart walked: it answers true. -/
import Derived.Test.YtcdfdckdodgbpaaGreatDoorG
import Derived.Test.YtcdfdckdodgbpaaGreatDoorF
import Derived.Test.YtcdfdckdodgbpaaGreatDoorE
import Derived.Test.YtcdfdckdodgbpaaGreatDoorQAx4
/-! TDoneK -/
namespace Go.Proofs.YtcdfdckdodgbpaaGreatDoor.QA
open Go.RowKit Go.Maps Go.Proofs.YtcdfdckdodgbpaaGreatDoorW.PrintWords Go.Proofs.YtcdfdckdodgbpaaGreatDoorW.PrintLast Go.Proofs.YtcdfdckdodgbpaaGreatDoorW.PrintMore
set_option linter.unusedVariables false
set_option linter.unusedSimpArgs false
/-- A list of rows of one's own: its block, and the rows' blocks, no two alike. -/
structure DR (w : World) (g base : Nat) (us : List Value) (ds : List (List Chg)) : Prop where
  blk : w.heap[g]? = some (.cells us.toArray 45 (0, 0))
  hg : base ≤ g
  len : us.length = ds.length
  row : ∀ (j : Nat) (u : Value), us[j]? = some u → Kd.R kChg 52 w base (fun k => k ≠ g) u (ds.getD j [])
  ne : ∀ (j j' : Nat) (u u' : Value), us[j]? = some u → us[j']? = some u' → j < j' → ∀ k, u.ownBlock = some k → u'.ownBlock = some k → False
theorem DR.step {w w1 : World} {g base : Nat} {us : List Value} {ds : List (List Chg)} (h : DR w g base us ds) (hk : ∀ k, base ≤ k → k < w.heap.size → w1.heap[k]? = w.heap[k]?) : DR w1 g base us ds :=
  ⟨(hk g h.hg (blk_lt h.blk)).trans h.blk, h.hg, h.len, fun j u hu => Kd.R_mono (Kd.R_step (Kd.R_bound (h.row j u hu)) (fun k hb hlt => hk k hb.2.1 hlt)) (fun k hb => hb.1), h.ne⟩
theorem DR.below {w w1 : World} {g base : Nat} {us : List Value} {ds : List (List Chg)} (h : DR w g base us ds) (hb : Below w.heap.size w w1) : DR w1 g base us ds := h.step (fun k _ hk => hb.block k hk)
theorem DR.reads {w : World} {g base : Nat} {us : List Value} {ds : List (List Chg)} (h : DR w g base us ds) (hn : ds.length < 5000000000000) : Kd.C kDone w (some ⟨g, 0, none⟩) ds.length ds := by
  refine Part.whole (base := base) ⟨us.toArray, h.blk, by rw [List.size_toArray]; exact h.len, fun j hj => ?_⟩ hn
  have hj' : j < us.length := by rw [h.len]; exact hj
  exact ⟨us[j], by simp [hj'], h.row j _ (List.getElem?_eq_getElem hj')⟩
/-- The first i places hold copies. -/
structure P2 (w : World) (g base n i : Nat) (ds : List (List Chg)) (cur : Array Value) : Prop where
  blk : w.heap[g]? = some (.cells cur 45 (0, 0))
  sz : cur.size = n
  row : ∀ (j : Nat) (u : Value), j < i → cur[j]? = some u → Kd.R kChg 52 w base (fun k => k ≠ g) u (ds.getD j [])
  ne : ∀ (j j' : Nat) (u u' : Value), cur[j]? = some u → cur[j']? = some u' → j < j' → j' < i → ∀ k, u.ownBlock = some k → u'.ownBlock = some k → False
theorem P2.below {w w1 : World} {g base n i : Nat} {ds : List (List Chg)} {cur : Array Value} (h : P2 w g base n i ds cur) (hb : Below w.heap.size w w1) : P2 w1 g base n i ds cur :=
  ⟨(hb.block g (blk_lt h.blk)).trans h.blk, h.sz, fun j u hj hu => Kd.R_below (h.row j u hj hu) hb, h.ne⟩
theorem P2.put {w w4 w5 : World} {g base n i : Nat} {ds : List (List Chg)} {cur : Array Value} {v : Value} (h : P2 w g base n i ds cur) (hb : Below w.heap.size w w4) (hbase : base ≤ w.heap.size) (hi : i < n)
    (hv : Kd.R kChg 52 w4 w.heap.size (fun _ => True) v (ds.getD i [])) (hc : w5.heap[g]? = some (.cells (cur.setIfInBounds i v) 45 (0, 0))) (hm : Mv w4 w5 (fun k => k = g)) : P2 w5 g base n (i + 1) ds (cur.setIfInBounds i v) := by
  have hgl := blk_lt h.blk
  have at_i : ∀ u, (cur.setIfInBounds i v)[i]? = some u → u = v := fun u hu => by
    have : i < cur.size := by rw [h.sz]; exact hi
    simp [this] at hu
    exact hu.symm
  have at_j : ∀ j u, j ≠ i → (cur.setIfInBounds i v)[j]? = some u → cur[j]? = some u := fun j u hj hu => by
    rw [Array.getElem?_setIfInBounds] at hu
    have : ¬ i = j := fun e => hj e.symm
    simpa [this] using hu
  refine ⟨hc, by simp [h.sz], fun j u hj hu => ?_, fun j j' u u' hu hu' hlt hj' k hk hk' => ?_⟩
  · by_cases e : j = i
    · subst e
      rw [at_i u hu]
      have h2 := Kd.R_mono (Kd.R_lower (Kd.R_bound hv) hbase) (ok' := fun k => k ≠ g) (fun k hk => by have := hk.2.1; omega)
      exact Kd.R_step h2 (fun k hk hlt => hm.block k hlt hk)
    · exact Kd.R_step (Kd.R_below (h.row j u (by omega) (at_j j u e hu)) hb) (fun k hk hlt => hm.block k hlt hk)
  · have e : j ≠ i := by omega
    have hu2 := at_j j u e hu
    have hlt2 := ((Kd.R_bound (h.row j u (by omega) hu2)).1 k hk).2.2.1
    by_cases e2 : j' = i
    · subst e2
      rw [at_i u' hu'] at hk'
      have := Kd.R_base hv k hk'
      omega
    · exact h.ne j j' u u' hu2 (at_j j' u' e2 hu') hlt (by omega) k hk hk'
theorem P2.whole {w : World} {g base : Nat} {ds : List (List Chg)} {cur : Array Value} (h : P2 w g base ds.length ds.length ds cur) (hg : base ≤ g) : DR w g base cur.toList ds := by
  have hl : ∀ j u, cur.toList[j]? = some u → j < ds.length ∧ cur[j]? = some u := fun j u hu => by
    have h1 := (List.getElem?_eq_some_iff.1 hu).1
    rw [Array.length_toList, h.sz] at h1
    exact ⟨h1, by simpa using hu⟩
  exact ⟨by simpa using h.blk, hg, by rw [Array.length_toList]; exact h.sz, fun j u hu => h.row j u (hl j u hu).1 (hl j u hu).2, fun j j' u u' hu hu' hlt k hk hk' => h.ne j j' u u' (hl j u hu).2 (hl j' u' hu').2 hlt (hl j' u' hu').1 k hk hk'⟩
set_option maxHeartbeats 4000000 in
set_option maxRecDepth 100000 in
theorem done15R {w : World} {L : Lay} {m : PSt} (h : St w L none2 m) (hdl : m.done.length < 5000000000000) (hrow : ∀ t ∈ m.done, t.length < 1000000000000) :
    Calls Tryz.prog 15 #[.pointer (some ⟨L.p, 0, none⟩)] w fun e w' => ∃ g us, e = .returned (.slice (some ⟨g, 0, none⟩) m.done.length m.done.length) ∧ DR w' g w.heap.size us m.done ∧ Below w.heap.size w w' := by
  obtain ⟨vd, hC⟩ := h.c
  have d9 : w.cell? ⟨L.p, 9, none⟩ = some vd := blk_cell hC.cell 9
  obtain ⟨Ad, cd, hvd, hat⟩ := done_at hC.done
  subst hvd
  obtain ⟨ds, hds⟩ : ∃ ds, ds = m.done := ⟨_, rfl⟩
  rw [← hds] at hdl hrow hat d9 ⊢
  obtain ⟨p, hp⟩ : ∃ p, p = L.p := ⟨_, rfl⟩
  rw [← hp] at d9 ⊢
  have HAT := Aside0.mk hat
  have HDL := Aside0.mk hdl
  have HROW := Aside0.mk hrow
  have B0 := Aside0.mk (below_alloc (Below.refl w.heap.size w) (.cells (madeCells #[.slice none 0 0] ds.length) 45))
  have P0 := Aside0.mk (show ∃ cur, P2 (w.alloc (.cells (madeCells #[.slice none 0 0] ds.length) 45)) w.heap.size w.heap.size ds.length 0 ds cur from ⟨_, heap_alloc_new w _, size_madeCells _ _, fun j u hj => by omega, fun j j' u u' _ _ _ hj => by omega⟩)
  have hms := makeRows ds.length hdl
  have d9a : (w.alloc (.cells (madeCells #[.slice none 0 0] ds.length) 45)).cell? ⟨p, 9, none⟩ = some (.slice Ad ds.length cd) := pw_cell_below B0.out d9
  clear h hC hat hdl hrow hds hp
  go_enter Tryz.func15, Tryz.ntmps15
  go_upto_region 2 with fail
  obtain ⟨g, hg⟩ : ∃ g, g = w.heap.size := ⟨_, rfl⟩
  have HG := Aside0.mk hg
  have e1 : (⟨w.heap.size, 0, none⟩ : Addr) = ⟨g, 0, none⟩ := by rw [hg]
  rw [e1]
  have P1 := Aside0.mk (show ∃ cur, P2 (w.alloc (.cells (madeCells #[.slice none 0 0] ds.length) 45)) g w.heap.size ds.length 0 ds cur from by rw [hg]; exact P0.out)
  clear P0 e1 hg hms d9
  generalize w.alloc (.cells (madeCells #[.slice none 0 0] ds.length) 45) = w1 at B0 P1 d9a ⊢
  go_wp2
  clear d9a
  go_loopg [17] ds.length (fun kq v17 wr => ∃ (i : Nat), v17 = .int .i64 (i : Int) ∧ Aside0 (i + kq = ds.length) ∧ Aside0 (∃ cur, P2 wr g w.heap.size ds.length i ds cur) ∧ Aside0 (Below w.heap.size w wr))
  case atStart => exact ⟨0, rfl, ⟨by omega⟩, P1, B0⟩
  case round =>
    obtain ⟨i, rfl, hik, hP, hBl⟩ := hrel
    clear P1 B0
    obtain ⟨Ws, hWs, hBl⟩ : ∃ W, W = _ ∧ Aside0 (Below w.heap.size w W) := ⟨_, rfl, hBl⟩
    subst hWs
    obtain ⟨cur, hP⟩ := hP.out
    have HP := Aside0.mk hP
    clear hP
    cases gk with
    | zero =>
      obtain rfl : i = ds.length := hik.out
      have hd1 : ¬ ((ds.length : Int) < (ds.length : Int)) := by omega
      go_wp2
      go_ret
      exact ⟨_, rfl, ⟨_, HP.out.whole (by rw [HG.out]; exact Nat.le_refl _)⟩, hBl.out⟩
    | succ kr =>
      have hi0 : i < ds.length := by have := hik.out; omega
      have hi1 : (i : Int) < (ds.length : Int) := by omega
      have hi2 : (0 : Int) ≤ (i : Int) := by omega
      obtain ⟨gd, u, hA, hu, ok', hR⟩ := HAT.out i hi0
      subst hA
      obtain ⟨row, hrw⟩ : ∃ row, row = ds.getD i [] := ⟨_, rfl⟩
      have HRW := Aside0.mk hrw
      rw [← hrw] at hR
      have y0 := pw_cell_below hBl.out hu
      have HR := Aside0.mk (Kd.R_below hR hBl.out)
      have HRL := Aside0.mk (show row.length < 1000000000000 from by rw [hrw, show ds.getD i [] = ds[i] from by simp [hi0]]; exact HROW.out _ (List.getElem_mem hi0))
      have HI0 := Aside0.mk hi0
      have hw2 : IntKind.i64.wrap ((i : Int) + 1) = ((i + 1 : Nat) : Int) := wrp (by omega) (by have := HDL.out; omega)
      obtain ⟨Au, qu, hvu⟩ := Kd.R_slice hR
      subst hvu
      clear hu hR hrw
      go_wp2_with (first
        | (go_at_call 32; refine (clone32 HR.out HRL.out).mono ?_; rintro e w4 ⟨v4, rfl, hr, hb⟩
           obtain ⟨A4, q4, hv4⟩ := Kd.R_slice hr
           subst hv4
           have B5 := Aside0.mk hb
           have B4 := Aside0.mk (hBl.out.trans (hb.mono hBl.out.size))
           have R4 := Aside0.mk hr
           clear hr hb)
        | ((with_reducible refine gate_store (t := 45) (p := 26) (v := .tmp 25) rfl ?_)
           refine put_event rfl rfl (g := g) (i := i) rfl rfl rfl rfl (HP.out.below B5.out).blk (by rw [HP.out.sz]; exact HI0.out) (by kernel_rfl) ?_
           intro w5 hc hm
           have P5 := Aside0.mk (HP.out.put B5.out hBl.out.size HI0.out (by rw [← HRW.out]; exact R4.out) hc hm)
           have B6 := Aside0.mk (hm.below B4.out B4.out.size (fun k hk => by rw [hk, HG.out]; exact Nat.le_refl _))
           clear hc hm))
      go_roundg kr
      case measure => omega
      case rel => exact ⟨i + 1, rfl, ⟨by have := hik.out; omega⟩, ⟨_, P5.out⟩, B6⟩
end Go.Proofs.YtcdfdckdodgbpaaGreatDoor.QA

/-! TKeepEv -/
namespace Go.Proofs.YtcdfdckdodgbpaaGreatDoor.QA
open Go.RowKit Go.Maps Go.Proofs.YtcdfdckdodgbpaaGreatDoorW.PrintWords Go.Proofs.YtcdfdckdodgbpaaGreatDoorW.PrintLast Go.Proofs.YtcdfdckdodgbpaaGreatDoorW.PrintMore
set_option linter.unusedVariables false
set_option linter.unusedSimpArgs false
theorem numbers_self (a : List Int) (ha : a.length < 5864062014805) : ∃ k, tidemarklaw18_numbers.f k a a = some true := by
  have h : ∀ n i : Nat, i + n = a.length → tidemarklaw18_numbers.l0 (n + 1) a a (i : Int) = some true := by
    intro n
    induction n with
    | zero => intro i hi; unfold tidemarklaw18_numbers.l0; rw [if_neg (by omega)]
    | succ n ih =>
      intro i hi
      unfold tidemarklaw18_numbers.l0
      rw [if_pos (by omega), if_pos (by omega), if_pos (by omega), if_pos rfl, w64t (by omega)]
      exact ih (i + 1) (by omega)
  refine ⟨a.length + 1, ?_⟩
  unfold tidemarklaw18_numbers.f
  rw [if_pos rfl]
  exact h a.length 0 (by omega)
section
variable {P : Program} {ops : Array Oper} {rest : List Oper} {o : Oper} {a : Act} {Q : Exit → Act → World → Prop} {α : Type}
theorem own_ptr {d : Kd α} {e base n c : Nat} {ok : Nat → Prop} {w : World} {A : Option Addr} {xs : List α} (h : d.R e w base ok (.slice A n c) xs) (hn : 0 < n) : ∃ g, A = some ⟨g, 0, none⟩ ∧ base ≤ g ∧ ok g ∧ ∃ cur, w.heap[g]? = some (.cells cur e (0, 0)) ∧ cur.size = c * d.sz ∧ n ≤ c := by
  obtain ⟨h0, inner, hown, hreps⟩ := h
  rcases hown.2 with ⟨he, h1⟩ | ⟨g, cap, cur, he, hb, hg, hnc, hcm, hcs, htk⟩
  · injection he with e1 e2 e3
    omega
  · injection he with e1 e2 e3
    subst e1 e3
    exact ⟨g, rfl, hb, h0 g (by simp [Value.ownBlock]), cur, hg, hcs, by omega⟩
/-- An element of a row of one's own is stored. -/
theorem set_event (d : Kd α) {W : World} (hN : o.dst = none) (hgd : o.guard = none) {t : TypeId} {p : Tmp} {x : Operand} (ho : o.op = .store t (.tmp p) x) {e g n cap base : Nat} {ok : Nat → Prop} (i : Nat) {off : Nat} (hoff : off = i * d.sz) {xs : List α} (x' : α) {u : Value} (seg : List Value)
    (haddr : a.eval (.tmp p) = .pointer (some ⟨g, off, none⟩)) (hx : a.eval x = u) (hu : u.cells.toList = seg) (ht : (P.info? t).map (·.size) = some seg.length) (h1 : ∀ q ∈ seg, q.oneCell' = true)
    (HO : d.R e W base ok (.slice (some ⟨g, 0, none⟩) n cap) xs) (hi : i < n) (hM : ∀ W' base' okp, d.M W' base' okp x' seg)
    (h : ∀ w1, d.R e w1 base ok (.slice (some ⟨g, 0, none⟩) n cap) (xs.set i x') → Mv W w1 (fun k => k = g) → wpList P ops Q rest a w1) : wpList P ops Q (o :: rest) a W := by
  obtain ⟨hn, _, hC⟩ := Kd.R_reads' HO
  have hil : i < xs.length := by omega
  obtain ⟨ad, hA, hc⟩ := hC.2.2 (by omega)
  have hA := Option.some.inj hA
  obtain ⟨c, hcl, _, hcc⟩ := hc i xs[i] (List.getElem?_eq_getElem hil)
  have hsl : seg.length = d.sz := d.K_len (d.K_of_M (hM W base (fun _ => False)))
  refine Kd.R_store d (w0 := W) base hN hgd t (.tmp p) x ho e (i : Int) 0 xs x' u seg c ok (fun _ => False) haddr (by rw [Int.toNat_natCast, hoff]; rfl) hx hu ht h1 HO (by omega) (by omega) hcl (fun j u hj => ?_) (by omega) ?_ (fun _ hk => hk.elim) (Below.refl _ _) (fun w1 hr hb hg => ?_)
  · rw [Int.toNat_natCast]
    have h5 := hcc j u hj
    rw [← hA] at h5
    obtain ⟨q, hq⟩ : ∃ q, q = i * d.sz + j := ⟨_, rfl⟩
    rw [← hq] at h5 ⊢
    have : (⟨g, 0, none⟩ : Addr).add q = ⟨g, q, none⟩ := by
      by_cases hj0 : q = 0
      · rw [hj0]; simp [Addr.add]
      · simp [Addr.add, hj0]
    rw [this] at h5
    exact h5
  · have : c.take 0 ++ seg ++ c.drop (0 + seg.length) = seg := by
      rw [List.take_zero, List.nil_append, Nat.zero_add, hsl, ← hcl, List.drop_length, List.append_nil]
    rw [this]
    exact hM _ _ _
  · rw [Int.toNat_natCast] at hr
    exact h w1 hr ((Mv.of_grown hg).mono (fun k hk => by injection hk))
theorem slice_block {A : Option Addr} {n c : Nat} : (Value.slice A n c).ownBlock = (Value.slice A n c).ownBlock := rfl
/-- A literal is appended to a row of one's own. -/
theorem app_event (d : Kd α) {W : World} {base : Nat} {ok : Nat → Prop} (hgd : o.guard = none) {s x : Operand} {t e : TypeId} {z : Value} {bytes : Nat}
    (ho : o.op = .call { callee := .builtin .append, args := #[s, x], argTypes := #[t, t] })
    (ht : P.underlying t = some (.slice e)) (hinfo : (P.info? e).map (fun i => (i.zero, i.size, i.bytes)) = some (some z, d.sz, bytes)) (hz : z.cells.size = d.sz) (hs0 : 0 < d.sz) (hb0 : 0 < bytes)
    {v : Value} (xs ys : List α) (m : Nat) (hm : m = ys.length) (inner : Array Value) (hs : a.eval s = v) (hx : a.eval x = .slice (some ⟨W.heap.size, 0, none⟩) m m)
    (HO : d.R e W base ok v xs) (hfresh : ∀ k, W.heap.size ≤ k → ok k) (hbase : base ≤ W.heap.size) (hrep : ∀ W' base' okp, Reps (d.M W' base' okp) d.sz ys inner.toList) (hl : (xs.length + m) * bytes ≤ 140737488355328) (hm2 : ys.length ≤ 100)
    (h : ∀ A1 n1 c1 w1, d.R e w1 base ok (.slice A1 n1 c1) (xs ++ ys) → Mv W w1 (fun k => v.ownBlock = some k) → wpList P ops Q rest (a.put o.dst (.slice A1 n1 c1)) w1) :
    wpList P ops Q (o :: rest) a (W.alloc (.cells inner e)) := by
  subst hm
  have hB := below_alloc (Below.refl W.heap.size W) (.cells inner e)
  have hL := OwnRow.lit (e := e) W base (hrep (W.alloc (.cells inner e)) base (fun _ => False)) hbase (by omega)
  rw [show inner.toList.toArray = inner from rfl] at hL
  obtain ⟨A, c, he, hlc, hR⟩ := hL.reads
  injection he with e1 e2 e3
  subst e1
  refine Kd.R_append_rows d (w0 := W.alloc (.cells inner e)) base hgd s x t e z bytes ho ht hinfo hz hs0 hb0 v xs ys _ ys.length ys.length ok (fun _ => False) hs hx (Kd.R_below HO hB) hR (fun _ _ hp => hp) (fun _ hk => hk.elim) (fun k hk => hfresh k (Nat.le_trans hB.size hk)) (Below.refl _ _) (Nat.le_trans hbase hB.size) hl ?_
  intro v1 w1 hr _ hg _
  obtain ⟨A1, c1, hv1⟩ := Kd.R_slice hr
  subst hv1
  exact h _ _ _ w1 hr ((Mv.of_below hB _).then_ (Mv.of_grown hg) (fun k hk => .inl hk.symm))
end
theorem ids_pos {m : PSt} (hk : Ok m) (i : Nat) (hi : i < m.ids.length) : 1 ≤ m.ids[i] := by
  have hi2 : i < m.opn.length := by rw [← ids_len]; exact hi
  have hq : m.ids[i] = m.opn[i].1 := ids_at m i _ _
  have h1 := (hk.txn m.opn[i].1 m.opn[i].2 (hk.up.look (List.getElem_mem hi2))).id
  rw [hq]
  exact h1.1
section
variable {α : Type} {d : Kd α} {e base : Nat} {ok : Nat → Prop} {w w1 : World} {v : Value} {xs : List α}
theorem row_step (hE : d.E = []) (h : d.R e w base ok v xs) (hk : ∀ k, v.ownBlock = some k → k < w.heap.size → w1.heap[k]? = w.heap[k]?) : d.R e w1 base ok v xs :=
  Kd.R_mono (Kd.R_step (Kd.R_tight2 hE h) (fun k ho hlt => hk k ho.1.symm hlt)) (fun k ho => ho.2)
theorem own_in (h : d.R e w base ok v xs) : ∀ k, v.ownBlock = some k → base ≤ k ∧ k < w.heap.size := fun k hk => ⟨Kd.R_base h k hk, ((Kd.R_bound h).1 k hk).2.2.1⟩
end
theorem chgE : kChg.E = [] := rfl
theorem entE : k58.E = [] := rfl
theorem intE : (Kd.int .i64).E = [] := rfl
theorem DR.lt {w : World} {g base : Nat} {us : List Value} {ds : List (List Chg)} (h : DR w g base us ds) : ∀ (j : Nat) (u : Value) k, us[j]? = some u → u.ownBlock = some k → base ≤ k ∧ k < w.heap.size := fun j u k hu hk => own_in (h.row j u hu) k hk
theorem DR.step2 {w w1 : World} {g base : Nat} {us : List Value} {ds : List (List Chg)} (h : DR w g base us ds) (hk : ∀ k, base ≤ k → k < w.heap.size → (k = g ∨ ∃ (j : Nat) (u : Value), us[j]? = some u ∧ u.ownBlock = some k) → w1.heap[k]? = w.heap[k]?) : DR w1 g base us ds :=
  ⟨(hk g h.hg (blk_lt h.blk) (.inl rfl)).trans h.blk, h.hg, h.len, fun j u hu => row_step chgE (h.row j u hu) (fun k ho hlt => hk k (h.lt j u k hu ho).1 hlt (.inr ⟨j, u, hu, ho⟩)), h.ne⟩
theorem DR.apart {w : World} {g base : Nat} {us : List Value} {ds : List (List Chg)} (h : DR w g base us ds) {j j' : Nat} {u u' : Value} (hu : us[j]? = some u) (hu' : us[j']? = some u') (hj : j ≠ j') {k : Nat} (hk : u.ownBlock = some k) (hk' : u'.ownBlock = some k) : False := by
  rcases Nat.lt_or_gt_of_ne hj with h1 | h1
  · exact h.ne j j' u u' hu hu' h1 k hk hk'
  · exact h.ne j' j u' u hu' hu h1 k hk' hk
/-- One row's elements have been written. -/
theorem DR.setRow {w w1 : World} {g base j : Nat} {us : List Value} {ds : List (List Chg)} {u : Value} {z : List Chg} (h : DR w g base us ds) (hu : us[j]? = some u) (hr : Kd.R kChg 52 w1 base (fun k => k ≠ g) u z) (hm : Mv w w1 (fun k => u.ownBlock = some k)) : DR w1 g base us (ds.set j z) := by
  have hj : j < ds.length := by rw [← h.len]; exact (List.getElem?_eq_some_iff.1 hu).1
  refine ⟨hm.blk h.blk (fun hk => (h.row j u hu).1 g hk rfl), h.hg, by rw [h.len, List.length_set], fun j' u' hu' => ?_, h.ne⟩
  by_cases e : j' = j
  · subst e
    have : u' = u := by rw [hu] at hu'; exact (Option.some.inj hu').symm
    subst this
    rw [show (ds.set j' z).getD j' [] = z from by simp [List.getD_eq_getElem?_getD, hj]]
    exact hr
  · rw [show (ds.set j z).getD j' [] = ds.getD j' [] from by rw [List.getD_eq_getElem?_getD, List.getD_eq_getElem?_getD, List.getElem?_set_ne (fun h => e h.symm)]]
    exact row_step chgE (h.row j' u' hu') (fun k hk hlt => hm.block k hlt (fun hk2 => h.apart hu' hu e hk hk2))
/-- A list of rows of which the first i places have been written over, and the first i rows lengthened. -/
structure D10 (w : World) (g base i : Nat) (us : List Value) (zs : List (List Chg)) : Prop where
  blk : ∃ cur : Array Value, w.heap[g]? = some (.cells cur 45 (0, 0)) ∧ cur.size = us.length ∧ ∀ j : Nat, i ≤ j → cur[j]? = us[j]?
  row : ∀ (j : Nat) (u : Value), i ≤ j → us[j]? = some u → Kd.R kChg 52 w base (fun k => k ≠ g) u (zs.getD j [])
theorem D10.start {w : World} {g base : Nat} {us : List Value} {ds : List (List Chg)} (h : DR w g base us ds) : D10 w g base 0 us ds :=
  ⟨⟨us.toArray, h.blk, by simp, fun j _ => by simp⟩, fun j u _ hu => h.row j u hu⟩
/-- Row i is lengthened: it is no longer spoken of. -/
theorem D10.grow {w w1 : World} {g base i : Nat} {us : List Value} {zs : List (List Chg)} {u : Value} (h : D10 w g base i us zs) (hu : us[i]? = some u) (hm : Mv w w1 (fun k => u.ownBlock = some k))
    (hne : ∀ (j j' : Nat) (u u' : Value), us[j]? = some u → us[j']? = some u' → j < j' → ∀ k, u.ownBlock = some k → u'.ownBlock = some k → False) :
    (∃ cur : Array Value, w1.heap[g]? = some (.cells cur 45 (0, 0)) ∧ cur.size = us.length ∧ ∀ j : Nat, i ≤ j → cur[j]? = us[j]?) ∧ ∀ (j : Nat) (u : Value), i + 1 ≤ j → us[j]? = some u → Kd.R kChg 52 w1 base (fun k => k ≠ g) u (zs.getD j []) := by
  obtain ⟨cur, h1, h2, h3⟩ := h.blk
  exact ⟨⟨cur, hm.blk h1 (fun hk => (h.row i u (Nat.le_refl _) hu).1 g hk rfl), h2, h3⟩, fun j u' hj hu' => row_step chgE (h.row j u' (by omega) hu') (fun k hk hlt => hm.block k hlt (fun hk2 => hne i j u u' hu hu' (by omega) k hk2 hk))⟩
theorem D10.put {w w1 : World} {g base i : Nat} {us : List Value} {zs : List (List Chg)} {v : Value} {cur : Array Value} (h2 : cur.size = us.length) (h3 : ∀ j : Nat, i ≤ j → cur[j]? = us[j]?)
    (hr : ∀ (j : Nat) (u : Value), i + 1 ≤ j → us[j]? = some u → Kd.R kChg 52 w base (fun k => k ≠ g) u (zs.getD j [])) (hc : w1.heap[g]? = some (.cells (cur.setIfInBounds i v) 45 (0, 0))) (hm : Mv w w1 (fun k => k = g)) : D10 w1 g base (i + 1) us zs :=
  ⟨⟨_, hc, by simp [h2], fun j hj => by
    rw [Array.getElem?_setIfInBounds]
    have : ¬ i = j := by omega
    simp only [this, if_false]
    exact h3 j (by omega)⟩, fun j u hj hu => Kd.R_step (hr j u hj hu) (fun k hk hlt => hm.block k hlt hk)⟩
theorem reps3 (W : World) (base : Nat) (ok : Nat → Prop) : Reps ((Kd.int .i64).M W base ok) (Kd.int .i64).sz [-1, -1, -1] (#[.int .i64 (-1), .int .i64 (-1), .int .i64 (-1)] : Array Value).toList :=
  ⟨rfl, fun j p hp => by
    rcases j with _ | _ | _ | j
    · cases hp; rfl
    · cases hp; rfl
    · cases hp; rfl
    · simp at hp⟩
theorem repsE (n : Int) (W : World) (base : Nat) (ok : Nat → Prop) : Reps (k58.M W base ok) k58.sz [⟨n, 0⟩] (#[.int .i64 n, .int .u64 0] : Array Value).toList :=
  ⟨rfl, fun j p hp => by
    rcases j with _ | j
    · cases hp; exact k58_mkM W base ok ⟨n, 0⟩
    · simp at hp⟩
theorem repsC (n : Int) (W : World) (base : Nat) (ok : Nat → Prop) : Reps (kChg.M W base ok) kChg.sz [⟨n, 0, false⟩, ⟨n, 0, false⟩] (#[.int .i64 n, .int .u64 0, .bool false, .int .i64 n, .int .u64 0, .bool false] : Array Value).toList :=
  ⟨rfl, fun j p hp => by
    rcases j with _ | _ | j
    · cases hp; exact k52_mkM W base ok ⟨n, 0, false⟩
    · cases hp; exact k52_mkM W base ok ⟨n, 0, false⟩
    · simp at hp⟩
theorem infoI : (Tryz.prog.info? 3).map (fun i => (i.zero, i.size, i.bytes)) = some (some (.int .i64 0), 1, 8) := by kernel_rfl
end Go.Proofs.YtcdfdckdodgbpaaGreatDoor.QA

/-! PureApart -/
namespace Go.Proofs.YtcdfdckdodgbpaaGreatDoor.QA
open Go.RowKit Go.Maps Go.Proofs.YtcdfdckdodgbpaaGreatDoorW.PrintWords Go.Proofs.YtcdfdckdodgbpaaGreatDoorW.PrintLast Go.Proofs.YtcdfdckdodgbpaaGreatDoorW.PrintMore
set_option linter.unusedVariables false
set_option linter.unusedSimpArgs false
theorem slotT_inj {k a b : Int} (ha : 0 ≤ a ∧ a < 18446744073709551616) (hb : 0 ≤ b ∧ b < 18446744073709551616) (h : slotT k a = slotT k b) : a = b := by
  have e : ∀ x : Int, shr .u64 x 0 = x ∧ shr .u64 x 8 = x / 256 ∧ shr .u64 x 16 = x / 65536 ∧ shr .u64 x 24 = x / 16777216 ∧ shr .u64 x 32 = x / 4294967296 ∧ shr .u64 x 40 = x / 1099511627776 ∧ shr .u64 x 48 = x / 281474976710656 ∧ shr .u64 x 56 = x / 72057594037927936 := fun x => ⟨by simp [shr, IntKind.bits], by simp [shr, IntKind.bits], by simp [shr, IntKind.bits], by simp [shr, IntKind.bits], by simp [shr, IntKind.bits], by simp [shr, IntKind.bits], by simp [shr, IntKind.bits], by simp [shr, IntKind.bits]⟩
  unfold slotT at h
  simp only [List.cons.injEq, and_true, true_and] at h
  obtain ⟨h0, h1, h2, h3, h4, h5, h6, h7⟩ := h
  obtain ⟨a0, a1, a2, a3, a4, a5, a6, a7⟩ := e a
  obtain ⟨b0, b1, b2, b3, b4, b5, b6, b7⟩ := e b
  rw [a0, b0] at h0
  rw [a1, b1] at h1
  rw [a2, b2] at h2
  rw [a3, b3] at h3
  rw [a4, b4] at h4
  rw [a5, b5] at h5
  rw [a6, b6] at h6
  rw [a7, b7] at h7
  omega
theorem of_wfu64 {x : Int} (h : (Lit.int .u64 x).wf = true) : 0 ≤ x ∧ x < 18446744073709551616 := by
  simp [Lit.wf, IntKind.min, IntKind.max, IntKind.signed, IntKind.bits] at h
  omega
theorem wfu64 {x : Int} (h : 0 ≤ x ∧ x < 18446744073709551616) : (Lit.int .u64 x).wf = true := by
  simp [Lit.wf, IntKind.min, IntKind.max, IntKind.signed, IntKind.bits]
  omega
theorem lenC_pos {m : PSt} {id : Int} {x : Chg} (h2 : x.f2 = false) (hx : 0 ≤ x.f1 ∧ x.f1 < 18446744073709551616) (hc : ∀ v, look (m.con id (x.f0.tmod m.pages)) x.f0 = some v → (0 ≤ v ∧ v < 18446744073709551616) ∧ v ≠ x.f1) : 0 < m.lenC id x := by
  unfold PSt.lenC
  have h3 := lenB_ok (slotB x.f0 ((look (m.con id (x.f0.tmod m.pages)) x.f0).getD 0) (look (m.con id (x.f0.tmod m.pages)) x.f0).isSome) (slotB x.f0 x.f1 (!x.f2)) (slotB_length ..) (slotB_length ..)
  rcases Int.lt_or_eq_of_le h3.2.1 with h4 | h4
  · exact h4
  · exfalso
    have h5 := h3.2.2.2.1 h4.symm
    rw [slotB_eq, slotB_eq, h2] at h5
    cases hl : look (m.con id (x.f0.tmod m.pages)) x.f0 with
    | none => rw [hl] at h5; simp [slotT, List.replicate] at h5
    | some v =>
      rw [hl] at h5
      obtain ⟨h6, h7⟩ := hc v hl
      exact h7 (slotT_inj h6 hx (by simpa using h5))
theorem put_two (t s t' : Txn) : put [((1 : Int), t), (2, s)] 1 t' = [(1, t'), (2, s)] := by simp [put, del, insK]
theorem put_one (s s' : Txn) : put [((2 : Int), s)] 2 s' = [(2, s')] := by simp [put, del, insK]
theorem look_two1 (t s : Txn) : look [((1 : Int), t), (2, s)] 1 = some t := rfl
theorem look_two2 (t s : Txn) : look [((1 : Int), t), (2, s)] 2 = some s := rfl
theorem del_two (t s : Txn) : del [((1 : Int), t), (2, s)] 1 = [(2, s)] := by simp [del]
theorem look_one2 (s : Txn) : look [((2 : Int), s)] 2 = some s := rfl
theorem del_one (s : Txn) : del [((2 : Int), s)] 2 = [] := by simp [del]
theorem sumU_le {l : List Int} (h : ∀ n ∈ l, n ≤ 16) : sumU l ≤ 62 * (l.length : Int) := by
  induction l with
  | nil => simp [sumU]
  | cons a r ih =>
    have h1 := h a (List.mem_cons_self ..)
    have h2 := ih (fun n hn => h n (List.mem_cons_of_mem _ hn))
    unfold sumU at h2 ⊢
    rw [List.map_cons, List.sum_cons, List.length_cons]
    unfold undone at h2 ⊢
    push_cast
    omega
theorem step_keys (m : PSt) (o : Stp) : (m.step o).keys = m.keys := by
  have hc : ∀ (m : PSt) (id : Int) (x : Chg), (m.changed id x).keys = m.keys := by
    intro m id x
    unfold PSt.changed
    split
    · rfl
    · split
      · rfl
      · split
        · split
          · rfl
          · unfold PSt.over; rfl
        · rfl
  have hg : ∀ (m : PSt) (id key : Int), (m.get id key).keys = m.keys := by
    intro m id key
    unfold PSt.get
    split <;> rfl
  unfold PSt.step
  split
  · unfold PSt.begin_; split <;> rfl
  split
  · exact hg _ _ _
  split
  · exact hc _ _ _
  split
  · unfold PSt.delete
    split
    · exact (hc _ _ _).trans (hg _ _ _)
    · exact hg _ _ _
  split
  · unfold PSt.commit PSt.over
    split <;> rfl
  split
  · unfold PSt.abort PSt.over
    split <;> rfl
  split
  · unfold PSt.check; split <;> rfl
  split
  · unfold PSt.renew; split <;> rfl
  · rfl
/-- Two are open: the one has done something, the other nothing. -/
structure Ap (m0 m : PSt) (t : Txn) (n : Nat) : Prop where
  ok : Ok m
  ser : Ser m
  pages : m.pages = m0.pages
  keys : m.keys = m0.keys
  log : m.log = 65536
  left : m.left = m0.left
  done : m.done = m0.done
  opn : m.opn = [(1, t), (2, txn0)]
  len : t.changes.length ≤ n
  used : m.used ≤ 68 + 70 * (n : Int)
section
variable {m0 m : PSt} {t s : Txn} {n D : Nat} {k v : Int} {after : Con}
theorem Ap.one (h : Ap m0 m t n) : look m.opn 1 = some t := by rw [h.opn]; rfl
theorem Ap.more (h : Ap m0 m t n) : Ap m0 m t (n + 1) := ⟨h.ok, h.ser, h.pages, h.keys, h.log, h.left, h.done, h.opn, by have := h.len; omega, by have := h.used; push_cast; omega⟩
theorem Ap.holder (h : Ap m0 m t n) (pg : Int) : m.holder pg = if holds t pg then 1 else 0 := by
  have e2 : holds txn0 pg = false := rfl
  unfold PSt.holder
  rw [h.opn, List.find?_cons, List.find?_cons, List.find?_nil]
  cases e : holds t pg <;> simp only [e, e2] <;> rfl
theorem Ap.asked (h : Ap m0 m t n) (h0 : 0 ≤ k) (h1 : k < m0.keys) : m.askedE 1 k = 0 := by
  unfold PSt.askedE
  rw [h.holder, h.opn, look_two1, h.keys, if_neg (by simp), if_neg (by omega), if_neg]
  split <;> simp
theorem Ap.busy (h : Ap m0 m t n) (h0 : 0 ≤ k) (h1 : k < m0.keys) (hh : holds t (k.tmod m.pages) = true) : m.askedE 2 k = 150 := by
  unfold PSt.askedE
  rw [h.holder, h.opn, look_two2, h.keys, hh, if_neg (by simp), if_neg (by omega), if_pos (by simp)]
theorem Ap.get (h : Ap m0 m t n) (h0 : 0 ≤ k) (h1 : k < m0.keys) : ∃ t', Ap m0 (m.get 1 k) t' n ∧ t'.changes = t.changes ∧ holds t' (k.tmod (m.get 1 k).pages) = true ∧ (m.get 1 k).con 1 (k.tmod (m.get 1 k).pages) = m.con 1 (k.tmod m.pages) := by
  have hE := h.asked h0 h1
  have hl := h.one
  have hu := (h.ok.txn 1 t hl).up
  have he : m.get 1 k = m.setT 1 (t.hold (k.tmod m.pages) (m.con 1 (k.tmod m.pages))) := by unfold PSt.get; rw [if_pos hE, Ok.txn_look hl]
  have ho : (m.get 1 k).opn = [(1, t.hold (k.tmod m.pages) (m.con 1 (k.tmod m.pages))), (2, txn0)] := by rw [he]; show put m.opn 1 _ = _; rw [h.opn, put_two]
  have hp : (m.get 1 k).pages = m.pages := by rw [he]; rfl
  refine ⟨_, ⟨h.ok.get 1 k, h.ser.get h.ok 1 k, by rw [he]; exact h.pages, by rw [he]; exact h.keys, by rw [he]; exact h.log, by rw [he]; exact h.left, by rw [he]; exact h.done, ho, h.len, by rw [he]; exact h.used⟩, rfl, ?_, ?_⟩
  · rw [hp]; exact (holds_put hu _ _ _ _ _).2 (.inl rfl)
  · rw [con_look (t := t.hold (k.tmod m.pages) (m.con 1 (k.tmod m.pages))) (by rw [ho]; rfl)]
    unfold PSt.pg
    rw [hp]
    show (look (put t.pages (k.tmod m.pages) (m.con 1 (k.tmod m.pages))) (k.tmod m.pages)).getD _ = _
    rw [look_put hu, if_pos rfl]
    rfl
theorem Ap.con_val (h : Ap m0 m t n) (h0 : 0 ≤ k) (h1 : k < m0.keys) {u : Int} (hu : look (m.con 1 (k.tmod m.pages)) k = some u) : 0 ≤ u ∧ u < 18446744073709551616 :=
  of_wfu64 ((con_ok h.ok (h.asked h0 h1) h.one).val _ (look_mem hu))
theorem Ap.put (h : Ap m0 m t n) (h0 : 0 ≤ k) (h1 : k < m0.keys) (hn : n < 40) (hv : 0 ≤ v ∧ v < 18446744073709551616) (hne : ∀ u, look (m.con 1 (k.tmod m.pages)) k = some u → u ≠ v) :
    (m.changedE 1 ⟨k, v, false⟩ = 42 ∧ m.changed 1 ⟨k, v, false⟩ = m ∧ (look (m.con 1 (k.tmod m.pages)) k).isSome = false) ∨
    (m.changedE 1 ⟨k, v, false⟩ = 0 ∧ ∃ t', Ap m0 (m.changed 1 ⟨k, v, false⟩) t' (n + 1) ∧ t'.changes = t.changes ++ [⟨k, v, false⟩] ∧ look ((m.changed 1 ⟨k, v, false⟩).con 1 (k.tmod (m.changed 1 ⟨k, v, false⟩).pages)) k = some v) := by
  obtain ⟨x, hx⟩ : ∃ x : Chg, x = ⟨k, v, false⟩ := ⟨_, rfl⟩
  have x0 : x.f0 = k := by rw [hx]
  have x1 : x.f1 = v := by rw [hx]
  have x2 : x.f2 = false := by rw [hx]
  rw [← hx]
  have hE : m.askedE 1 x.f0 = 0 := by rw [x0]; exact h.asked h0 h1
  have hl := h.one
  have hT := h.ok.txn 1 t hl
  have hok := h.ok.changed 1 x (by rw [x1]; exact wfu64 hv)
  have hser := h.ser.changed h.ok 1 x
  cases hF : m.full 1 x with
  | true =>
    left
    refine ⟨by unfold PSt.changedE; rw [if_neg (by simp [hE]), if_pos hF], by unfold PSt.changed; rw [if_neg (by simp [hE]), if_pos hF], ?_⟩
    unfold PSt.full at hF
    rw [x0] at hF
    cases hs : (look (m.con 1 (k.tmod m.pages)) k).isSome with
    | false => rfl
    | true => rw [hs] at hF; simp at hF
  | false =>
    right
    have hp : 0 < m.lenC 1 x := lenC_pos x2 (by rw [x1]; exact hv) (fun u hu => by rw [x0] at hu; rw [x1]; exact ⟨h.con_val h0 h1 hu, hne u hu⟩)
    have hq := (lenC_ok (m := m) 1 x).2
    have hkept : m.kept = 198 + sumU t.lengths := by
      unfold PSt.kept keptL
      rw [h.opn]
      simp [keepsT, txn0, sumU]
      omega
    have hsum := sumU_le (fun n hn => (hT.len n hn).2)
    have hsame := hT.same
    have hlen := h.len
    have hused := h.used
    have hlog := h.log
    have hf : m.fits (updated (m.lenC 1 x)) (undone (m.lenC 1 x)) = true := by
      unfold PSt.fits updated undone
      rw [hkept]
      exact decide_eq_true (by omega)
    have he : m.changed 1 x = { (m.setT 1 ({ pages := QA.put t.pages (x.f0.tmod m.pages) (app (m.con 1 (x.f0.tmod m.pages)) x), lengths := t.lengths ++ [m.lenC 1 x], changes := t.changes ++ [x] } : Txn)) with used := m.used + updated (m.lenC 1 x) } := by
      unfold PSt.changed
      rw [if_neg (by simp [hE]), if_neg (by simp [hF]), if_pos hp, if_pos hf, Ok.txn_look hl]
    have ho : (m.changed 1 x).opn = [(1, ({ pages := QA.put t.pages (x.f0.tmod m.pages) (app (m.con 1 (x.f0.tmod m.pages)) x), lengths := t.lengths ++ [m.lenC 1 x], changes := t.changes ++ [x] } : Txn)), (2, txn0)] := by rw [he]; show QA.put m.opn 1 _ = _; rw [h.opn, put_two]
    have hpg : (m.changed 1 x).pages = m.pages := by rw [he]; rfl
    refine ⟨by unfold PSt.changedE; rw [if_neg (by simp [hE]), if_neg (by simp [hF]), if_neg (by simp [hf])], _, ⟨hok, hser, by rw [he]; exact h.pages, by rw [he]; exact h.keys, by rw [he]; exact h.log, by rw [he]; exact h.left, by rw [he]; exact h.done, ho, by simp; omega, ?_⟩, rfl, ?_⟩
    · rw [he]
      show m.used + updated (m.lenC 1 x) ≤ _
      unfold updated
      push_cast
      omega
    · rw [con_look (t := ({ pages := QA.put t.pages (x.f0.tmod m.pages) (app (m.con 1 (x.f0.tmod m.pages)) x), lengths := t.lengths ++ [m.lenC 1 x], changes := t.changes ++ [x] } : Txn)) (by rw [ho]; rfl)]
      unfold PSt.pg
      rw [hpg, x0]
      show look ((look (QA.put t.pages (k.tmod m.pages) (app (m.con 1 (k.tmod m.pages)) x)) (k.tmod m.pages)).getD _) k = _
      rw [look_put hT.up, if_pos rfl]
      show look (app (m.con 1 (k.tmod m.pages)) x) k = some v
      rw [look_app (con_ok h.ok (h.asked h0 h1) hl).up]
      unfold kstep
      rw [if_pos x0, x2, x1]
      rfl
/-- The first has ended: what the second sees. -/
structure Bp (m0 m : PSt) (s : Txn) (after : Con) (D : Nat) : Prop where
  ok : Ok m
  ser : Ser m
  pages : m.pages = m0.pages
  keys : m.keys = m0.keys
  opn : m.opn = [(2, s)]
  ch : s.changes = []
  all : m.all = after
  done : m.done.length = D
  rows : ∀ t ∈ m.done, t.length ≤ 2000
theorem Ap.end0 (h : Ap m0 m t n) : m.endE 1 = 0 := by unfold PSt.endE; rw [h.one]; rfl
theorem Ap.abort (h : Ap m0 m t n) (hrow : ∀ t ∈ m0.done, t.length ≤ 2000) : Bp m0 (m.abort 1) txn0 m0.all m0.done.length := by
  have he : m.abort 1 = m.over 1 true := by unfold PSt.abort; rw [if_pos h.end0]
  refine ⟨h.ok.abort 1, h.ser.end_ h.ok 1 true, by rw [he]; exact h.pages, by rw [he]; exact h.keys, ?_, rfl, ?_, by rw [he]; exact congrArg List.length h.done, by rw [he]; show ∀ t ∈ m.done, _; rw [h.done]; exact hrow⟩
  · rw [he]; show del m.opn 1 = _; rw [h.opn, del_two]
  · rw [he, all_eq, all_eq]; exact congrArg allOf h.left
theorem Ap.commit (h : Ap m0 m t n) (hrow : ∀ t ∈ m0.done, t.length ≤ 2000) (hn : n ≤ 2000) : Bp m0 (m.commit 1) txn0 (foldT m0.all t.changes) (m0.done.length + 1) := by
  have he : m.commit 1 = m.over 1 false := by unfold PSt.commit; rw [if_pos h.end0]
  have hok := h.ok.commit 1
  have hser : Ser (m.commit 1) := h.ser.end_ h.ok 1 false
  have hd : (m.commit 1).done = m.done ++ [t.changes] := by rw [he]; show m.done ++ [(m.txn 1).changes] = _; rw [Ok.txn_look h.one]
  refine ⟨hok, hser, by rw [he]; exact h.pages, by rw [he]; exact h.keys, ?_, rfl, ?_, by rw [hd, h.done]; simp, fun u hu => ?_⟩
  · rw [he]; show del m.opn 1 = _; rw [h.opn, del_two]
  · rw [hser.all hok, hd, foldC_append, ← h.ser.all h.ok, all_eq, all_eq, h.left]
  · rw [hd, h.done, List.mem_append, List.mem_singleton] at hu
    rcases hu with hu | rfl
    · exact hrow u hu
    · exact Nat.le_trans h.len hn
theorem Ap.keysD (h : Ap m0 m t n) : ∀ x ∈ t.changes, 0 ≤ x.f0 ∧ x.f0 < m0.keys := fun x hx => by
  obtain ⟨a, b, _⟩ := (h.ser.txn 1 t h.one).key x hx
  exact ⟨a, by rw [← h.keys]; exact b⟩
theorem Bp.two (h : Bp m0 m s after D) : look m.opn 2 = some s := by rw [h.opn]; rfl
theorem Bp.asked (h : Bp m0 m s after D) (h0 : 0 ≤ k) (h1 : k < m0.keys) : m.askedE 2 k = 0 := by
  have hh : ∀ pg, m.holder pg = if holds s pg then 2 else 0 := fun pg => by
    unfold PSt.holder
    rw [h.opn, List.find?_cons, List.find?_nil]
    cases e : holds s pg <;> simp only [e] <;> rfl
  unfold PSt.askedE
  rw [hh, h.opn, look_one2, h.keys, if_neg (by simp), if_neg (by omega), if_neg]
  split <;> simp
theorem Bp.sees (h : Bp m0 m s after D) (h0 : 0 ≤ k) (h1 : k < m0.keys) : look (m.con 2 (k.tmod m.pages)) k = look after k := by
  rw [con_look h.two, ← h.all, look_all h.ok, if_pos ⟨h0, by rw [h.keys]; exact h1⟩]
  cases hs : look s.pages (m.pg k) with
  | none => rfl
  | some c =>
    have := (h.ser.txn 2 s h.two).page k h0 (by rw [h.keys]; exact h1) c hs
    rw [h.ch] at this
    exact this
theorem Bp.get (h : Bp m0 m s after D) (h0 : 0 ≤ k) (h1 : k < m0.keys) : (∃ s', Bp m0 (m.get 2 k) s' after D) ∧ m.getB 2 k = (look after k).isSome ∧ m.getV 2 k = (look after k).getD 0 := by
  have hE := h.asked h0 h1
  have hl := h.two
  have he : m.get 2 k = m.setT 2 (s.hold (k.tmod m.pages) (m.con 2 (k.tmod m.pages))) := by unfold PSt.get; rw [if_pos hE, Ok.txn_look hl]
  have ho : (m.get 2 k).opn = [(2, s.hold (k.tmod m.pages) (m.con 2 (k.tmod m.pages)))] := by rw [he]; show QA.put m.opn 2 _ = _; rw [h.opn, put_one]
  refine ⟨⟨_, ⟨h.ok.get 2 k, h.ser.get h.ok 2 k, by rw [he]; exact h.pages, by rw [he]; exact h.keys, ho, h.ch, by rw [he]; exact h.all, by rw [he]; exact h.done, by rw [he]; exact h.rows⟩⟩, ?_, ?_⟩
  · unfold PSt.getB; rw [if_pos hE, h.sees h0 h1]
  · unfold PSt.getV; rw [if_pos hE, h.sees h0 h1]
theorem Bp.commit (h : Bp m0 m s after D) : m.endE 2 = 0 ∧ Ok (m.commit 2) ∧ (m.commit 2).opn = [] ∧ (m.commit 2).all = after ∧ (m.commit 2).done.length = D + 1 ∧ ∀ t ∈ (m.commit 2).done, t.length ≤ 2000 := by
  have e0 : m.endE 2 = 0 := by unfold PSt.endE; rw [h.two]; rfl
  have he : m.commit 2 = m.over 2 false := by unfold PSt.commit; rw [if_pos e0]
  have hok := h.ok.commit 2
  have hser : Ser (m.commit 2) := h.ser.end_ h.ok 2 false
  have hd : (m.commit 2).done = m.done ++ [[]] := by rw [he]; show m.done ++ [(m.txn 2).changes] = _; rw [Ok.txn_look h.two, h.ch]
  refine ⟨e0, hok, by rw [he]; show del m.opn 2 = _; rw [h.opn, del_one], ?_, by rw [hd]; simp [h.done], fun u hu => ?_⟩
  · rw [hser.all hok, hd, foldC_append, ← h.ser.all h.ok, h.all]
    rfl
  · rw [hd, List.mem_append, List.mem_singleton] at hu
    rcases hu with hu | rfl
    · exact h.rows u hu
    · simp
theorem ap_start (hk : Ok m) (hs : Ser m) (ho : m.opn = []) (hu : m.used = 0) (hlog : m.log = 65536) (ht : m.table = 8) : m.beginE 1 = 0 ∧ (m.begin_ 1).beginE 2 = 0 ∧ Ap m ((m.begin_ 1).begin_ 2) txn0 0 := by
  have e1 : m.beginE 1 = 0 := by
    unfold PSt.beginE PSt.fits PSt.kept keptL
    rw [ho, hu, hlog, ht]
    simp [look_nil]
  have b1 : m.begin_ 1 = { m with opn := [(1, txn0)], used := 34 } := by
    unfold PSt.begin_
    rw [if_pos e1, ho, hu]
    rfl
  have e2 : (m.begin_ 1).beginE 2 = 0 := by
    rw [b1]
    unfold PSt.beginE PSt.fits PSt.kept keptL
    show (if ((2 : Int) < 1 ∨ (64 : Int) < 2) ∨ (look [((1 : Int), txn0)] 2).isSome = true then (160 : Int) else if (([((1 : Int), txn0)] : List (Int × Txn)).length : Int) = m.table then 161 else if decide ((34 : Int) + 34 + ([((1 : Int), txn0)].map fun q => keepsT q.2).sum + 99 ≤ m.log) then 0 else 170) = 0
    rw [hlog, ht]
    simp [look_cons, look_nil, keepsT, txn0, sumU]
  have b2 : (m.begin_ 1).begin_ 2 = { m with opn := [(1, txn0), (2, txn0)], used := 68 } := by
    unfold PSt.begin_ at b1 ⊢
    rw [if_pos e1] at b1 ⊢
    have e2' := e2
    unfold PSt.begin_ at e2'
    rw [if_pos e1] at e2'
    rw [if_pos e2', ho, hu]
    rfl
  refine ⟨e1, e2, (hk.begin_ 1).begin_ 2, (hs.begin_ hk 1).begin_ (hk.begin_ 1) 2, by rw [b2], by rw [b2], by rw [b2]; exact hlog, by rw [b2], by rw [b2], by rw [b2], by simp [txn0], by rw [b2]; simp⟩
end
theorem all_keys {m : PSt} (hk : Ok m) : ∀ p ∈ m.all, 0 ≤ p.1 ∧ p.1 < m.keys := fun p hp => by
  have h1 := (show Up m.all from Up.allOf m.left).look (x := p.1) (c := p.2) hp
  rw [look_all hk] at h1
  by_cases e : 0 ≤ p.1 ∧ p.1 < m.keys
  · exact e
  · rw [if_neg e] at h1; cases h1
/-- A content as changes. -/
def chsOf (es : List S58) : List Chg := es.map fun e => ⟨e.f0, e.f1, false⟩
theorem fold_chs {c : Con} (h : Up c) : foldT [] (chsOf (ents c)) = c := by
  have e : foldT [] (chsOf (ents c)) = addC [] c := by
    unfold foldT chsOf ents addC
    rw [List.foldl_map, List.foldl_map]
    rfl
  rw [e]
  refine (Up.addC c Up.nil).ext h (fun k => ?_)
  rw [look_addC k c Up.nil h, look_nil, Option.or_none]
theorem foldC_two (a b : List Chg) : foldC [a, b] = foldT (foldT [] a) b := rfl
theorem look_drop {c : Con} {i : Nat} (h : i < c.length) (k : Int) : look (c.drop i) k = if c[i].1 = k then some c[i].2 else look (c.drop (i + 1)) k := by
  rw [List.drop_eq_getElem_cons h, look_cons]
theorem has_some (c : Con) (hc : c.length < 1000000000) (k v : Int) : ∃ n, tidemarklaw18_has.f n (ents c) k v = some (decide (look c k = some v)) := by
  have h : ∀ n i : Nat, i + n = c.length → tidemarklaw18_has.l0 (n + 1) (ents c) k v (i : Int) = some (decide (look (c.drop i) k = some v)) := by
    intro n
    induction n with
    | zero =>
      intro i hi
      unfold tidemarklaw18_has.l0
      rw [if_neg (by rw [ents_length]; omega), List.drop_of_length_le (by omega), look_nil]
      rfl
    | succ n ih =>
      intro i hi
      have hi2 : i < c.length := by omega
      unfold tidemarklaw18_has.l0
      have hr : rd_T58 (ents c) (i : Int) = ⟨c[i].1, c[i].2⟩ := by
        unfold rd_T58
        simp [ents, hi2]
      rw [if_pos (by rw [ents_length]; omega), if_pos (by omega), hr, look_drop hi2]
      by_cases e : c[i].1 = k
      · rw [if_pos e, if_pos e]
        simp
        rfl
      · rw [if_neg e, if_neg e]
        have hw : wrap64 ((i : Int) + 1) = ((i + 1 : Nat) : Int) := by unfold wrap64; omega
        rw [hw]
        exact ih (i + 1) (by omega)
  refine ⟨c.length + 1, ?_⟩
  unfold tidemarklaw18_has.f
  exact h c.length 0 (by omega)
theorem inc_ne (v : Int) (i : Nat) (hv : 0 ≤ v ∧ v < 18446744073709551616) (hi : i < 40) : (0 ≤ IntKind.u64.wrap (IntKind.u64.wrap (v + (i : Int)) + 1) ∧ IntKind.u64.wrap (IntKind.u64.wrap (v + (i : Int)) + 1) < 18446744073709551616) ∧ v ≠ IntKind.u64.wrap (IntKind.u64.wrap (v + (i : Int)) + 1) := by
  rw [IntKind.wrap_u64, IntKind.wrap_u64]
  omega
end Go.Proofs.YtcdfdckdodgbpaaGreatDoor.QA

/-! TEnv -/
namespace Go.Proofs.YtcdfdckdodgbpaaGreatDoor.QA
open Go.RowKit Go.Maps Go.Proofs.YtcdfdckdodgbpaaGreatDoorW.PrintWords Go.Proofs.YtcdfdckdodgbpaaGreatDoorW.PrintLast Go.Proofs.YtcdfdckdodgbpaaGreatDoorW.PrintMore
set_option linter.unusedVariables false
set_option linter.unusedSimpArgs false
structure Env (w wr : World) (L : Lay) (dB : Nat) (cs : Array Value) (vb : Value) (es : List S58) (vd : Value) (did : List Chg) : Prop where
  below : Below w.heap.size w wr
  r0 : L.role 0 = .glob
  rr : ∀ k, 0 < k → k < w.heap.size → L.role k = .out
  cfg : wr.heap[dB]? = some (.cells cs 25 (0, 0))
  cr : L.role dB = .out
  rb : Kd.R k58 58 wr w.heap.size (fun k => L.role k = .out) vb es
  rd : Kd.R kChg 52 wr w.heap.size (fun k => L.role k = .out ∧ k ≠ dB ∧ vb.ownBlock ≠ some k) vd did
section
variable {w wr w2 : World} {L L2 : Lay} {dB : Nat} {cs : Array Value} {vb vd vd2 : Value} {es : List S58} {did did2 : List Chg}
theorem Env.goes (h : Env w wr L dB cs vb es vd did) (hg : Goes wr L w2 L2) : Env w w2 L2 dB cs vb es vd did where
  below := below_goes h.below hg h.rr h.r0
  r0 := hg.gl 0 (Nat.lt_of_le_of_lt (Nat.zero_le dB) (blk_lt h.cfg)) h.r0
  rr := fun k h1 h2 => hg.out k (Nat.lt_of_lt_of_le h2 h.below.size) (h.rr k h1 h2)
  cfg := hg.mv.blk h.cfg (fun x => x.1 h.cr)
  cr := hg.out dB (blk_lt h.cfg) h.cr
  rb := Kd.R_reok entE (row_step entE h.rb (fun k hk hlt => hg.mv.block k hlt (fun x => x.1 (h.rb.1 k hk)))) (fun k hk => hg.out k (own_in h.rb k hk).2 (h.rb.1 k hk))
  rd := Kd.R_reok chgE (row_step chgE h.rd (fun k hk hlt => hg.mv.block k hlt (fun x => x.1 (h.rd.1 k hk).1))) (fun k hk => ⟨hg.out k (own_in h.rd k hk).2 (h.rd.1 k hk).1, (h.rd.1 k hk).2⟩)
theorem Env.beneath (h : Env w wr L dB cs vb es vd did) (hb : Below wr.heap.size wr w2) : Env w w2 L dB cs vb es vd did := h.goes (Goes.of_below hb)
theorem Env.app (h : Env w wr L dB cs vb es vd did) (hm : Mv wr w2 (fun k => vd.ownBlock = some k)) (hr : Kd.R kChg 52 w2 w.heap.size (fun k => L.role k = .out ∧ k ≠ dB ∧ vb.ownBlock ≠ some k) vd2 did2) : Env w w2 L dB cs vb es vd2 did2 where
  below := hm.below h.below h.below.size (fun k hk => (own_in h.rd k hk).1)
  r0 := h.r0
  rr := h.rr
  cfg := hm.blk h.cfg (fun e => (h.rd.1 dB e).2.1 rfl)
  cr := h.cr
  rb := row_step entE h.rb (fun k hk hlt => hm.block k hlt (fun e => (h.rd.1 k e).2.2 hk))
  rd := hr
theorem Env.nil_ (h : Env w wr L dB cs vb es vd did) : Env w wr L dB cs vb es (.slice none 0 0) [] := ⟨h.below, h.r0, h.rr, h.cfg, h.cr, h.rb, Kd.R_nil _ _ _ _ _⟩
theorem Env.take {m : PSt} {vb2 : Value} {es2 : List S58} (h : Env w wr L dB cs vb es vd did) (hb : Below wr.heap.size wr w2) (hr : Kd.R k58 58 w2 wr.heap.size (fun _ => True) vb2 es2) (hs : St wr L none2 m) : Env w w2 L dB cs vb2 es2 (.slice none 0 0) [] :=
  ⟨(h.beneath hb).below, h.r0, h.rr, (h.beneath hb).cfg, h.cr, Kd.R_reok entE (Kd.R_lower (Kd.R_bound hr) h.below.size) (fun k hk => hs.c.elim fun _ c => c.fresh k (own_in hr k hk).1), Kd.R_nil _ _ _ _ _⟩
theorem Env.fresh {m : PSt} (h : Env w wr L dB cs vb es vd did) (hs : St wr L none2 m) (k : Nat) (hk : wr.heap.size ≤ k) : L.role k = .out ∧ k ≠ dB ∧ vb.ownBlock ≠ some k := by
  refine ⟨hs.c.elim fun _ c => c.fresh k hk, fun e => ?_, fun e => ?_⟩
  · have := blk_lt h.cfg; omega
  · have := (own_in h.rb k e).2; omega
theorem Env.moved {m : PSt} (h : Env w wr L dB cs vb es vd did) (hs : St wr L none2 m) (hm : Mv wr w2 (fun k => vd.ownBlock = some k)) : St w2 L none2 m := hs.move hm (fun k hk => (h.rd.1 k hk).1)
end
theorem infoCh : (Tryz.prog.info? 52).map (fun i => (i.zero, i.size, i.bytes)) = some (some (.agg #[(.int .i64 0), (.int .u64 0), (.bool false)]), 3, 24) := by kernel_rfl
theorem repsX (k v : Int) (W : World) (base : Nat) (ok : Nat → Prop) : Reps (kChg.M W base ok) kChg.sz [(⟨k, v, false⟩ : Chg)] (#[.int .i64 k, .int .u64 v, .bool false] : Array Value).toList :=
  ⟨rfl, fun j p hp => by
    rcases j with _ | j
    · cases hp; exact k52_mkM W base ok ⟨k, v, false⟩
    · simp at hp⟩
theorem two_rows {W : World} {b : Nat} {va vb : Value} {xs ys : List Chg} {ok1 ok2 : Nat → Prop} (ha : Kd.R kChg 52 W b ok1 va xs) (hb : Kd.R kChg 52 W b ok2 vb ys) : Kd.C kDone (W.alloc (.cells #[va, vb] 45)) (some ⟨W.heap.size, 0, none⟩) 2 [xs, ys] := by
  have hB := below_alloc (Below.refl W.heap.size W) (.cells #[va, vb] 45)
  have h1 : ∀ {v : Value} {zs : List Chg} {ok : Nat → Prop}, Kd.R kChg 52 W b ok v zs → Kd.R kChg 52 (W.alloc (.cells #[va, vb] 45)) b (fun k => k ≠ W.heap.size) v zs := fun h => Kd.R_reok chgE (Kd.R_below h hB) (fun k hk => by have := (own_in h k hk).2; omega)
  refine Part.whole (base := b) (ds := [xs, ys]) ⟨#[va, vb], heap_alloc_new W _, rfl, fun j hj => ?_⟩ (by show (2 : Nat) < 5000000000000; decide)
  rcases j with _ | _ | j
  · exact ⟨va, rfl, h1 ha⟩
  · exact ⟨vb, rfl, h1 hb⟩
  · simp at hj; omega
theorem all_len {m : PSt} (hk : Ok m) : m.all.length ≤ 128 := by
  have h1 := allOf_length hk m.left.length
  rw [List.take_length] at h1
  have h2 := hk.left
  have h3 := hk.pages
  exact Nat.le_trans h1 (by omega)
theorem chs_wf {m : PSt} (hk : Ok m) : ∀ x ∈ chsOf (ents m.all), (Lit.int .i64 x.f0).wf = true := fun x hx => by
  unfold chsOf ents at hx
  rw [List.map_map, List.mem_map] at hx
  obtain ⟨p, hp, rfl⟩ := hx
  have h1 := all_keys hk p hp
  have h2 := hk.keys
  exact wf64 (by show _ ≤ p.1 ∧ p.1 ≤ _; omega)
theorem listed_some (c : Con) (hc : c.length < 1000000000) : ∃ n, tidemarklaw18_listed.f n (ents c) = some (chsOf (ents c)) := by
  have h : ∀ n i : Nat, i + n = c.length → tidemarklaw18_listed.l0 (n + 1) (ents c) (chsOf ((ents c).take i)) (i : Int) = some (chsOf (ents c)) := by
    intro n
    induction n with
    | zero =>
      intro i hi
      unfold tidemarklaw18_listed.l0
      rw [if_neg (by rw [ents_length]; omega), List.take_of_length_le (by rw [ents_length]; omega)]
    | succ n ih =>
      intro i hi
      have hi2 : i < (ents c).length := by rw [ents_length]; omega
      have hl : (chsOf ((ents c).take i)).length = i := by unfold chsOf; rw [List.length_map, List.length_take]; omega
      unfold tidemarklaw18_listed.l0
      rw [if_pos (by rw [ents_length]; omega), if_pos (by omega), if_pos (by rw [hl]; rw [ents_length] at hi2; omega)]
      have hr : rd_T58 (ents c) (i : Int) = (ents c)[i] := by
        unfold rd_T58
        simp [hi2]
      have hw : wrap64 ((i : Int) + 1) = ((i + 1 : Nat) : Int) := by unfold wrap64; omega
      rw [hw, hr]
      have ht : chsOf ((ents c).take i) ++ [(⟨(ents c)[i].f0, (ents c)[i].f1, false⟩ : Chg)] = chsOf ((ents c).take (i + 1)) := by
        unfold chsOf
        rw [List.take_succ_eq_append_getElem hi2, List.map_append]
        rfl
      rw [ht]
      exact ih (i + 1) (by omega)
  refine ⟨c.length + 1, ?_⟩
  unfold tidemarklaw18_listed.f
  have := h c.length 0 (by omega)
  rw [List.take_zero] at this
  exact this
end Go.Proofs.YtcdfdckdodgbpaaGreatDoor.QA

/-! WalkApart -/
namespace Go.Proofs.YtcdfdckdodgbpaaGreatDoor.QA
open Go.RowKit Go.Maps Go.Proofs.YtcdfdckdodgbpaaGreatDoorW.PrintWords Go.Proofs.YtcdfdckdodgbpaaGreatDoorW.PrintLast Go.Proofs.YtcdfdckdodgbpaaGreatDoorW.PrintMore
set_option linter.unusedVariables false
set_option linter.unusedSimpArgs false
theorem w64s2 {n : Nat} (h : n < 4000000000000) : wrap64 ((n : Int) + 1 + 1) = (n : Int) + 2 := by unfold wrap64; omega
theorem run_cfg (m : PSt) : ∀ l : List Stp, (m.run l).keys = m.keys := by
  intro l
  induction l generalizing m with
  | nil => rfl
  | cons a r ih => exact (ih (m.step a)).trans (step_keys m a)
structure Cfg0 (m0 m : PSt) : Prop where
  ok : Ok m
  ser : Ser m
  log : m.log = m0.log
  table : m.table = m0.table
  keys : m.keys = m0.keys
  done : m.done = m0.done
theorem aborts_cfg {m0 : PSt} : ∀ (l : List Int) {m : PSt}, Cfg0 m0 m → Cfg0 m0 (m.abortAll l) := by
  intro l
  induction l with
  | nil => intro m h; exact h
  | cons a r ih =>
    intro m h
    refine ih (m := m.abort a) ⟨h.ok.abort a, h.ser.end_ h.ok a true, ?_, ?_, ?_, ?_⟩ <;> unfold PSt.abort PSt.over <;> split
    · exact h.log
    · exact h.log
    · exact h.table
    · exact h.table
    · exact h.keys
    · exact h.keys
    · exact h.done
    · exact h.done
set_option maxHeartbeats 16000000 in
set_option maxRecDepth 100000 in
theorem apart4 {w : World} (hg : Glob w) (a0 a1 a2 a3 a4 a5 : Int) {A : Option Addr} {cap : Nat} {l : List Stp} (hC : Kd.C kStp w A l.length l) (hcap : l.length ≤ cap) (hl : l.length < 4000000000000) (ho : ∀ o ∈ l, OkStp o)
    {B : Option Addr} {capk : Nat} {ks : List Int} (hK : Kd.C (Kd.int .i64) w B ks.length ks) (hkc : ks.length ≤ capk) (bb : Bool) :
    Calls Tryz.prog 4 #[.agg #[.int .i64 a0, .int .i64 a1, .int .i64 a2, .int .i64 a3, .int .i64 a4, .int .i64 a5], .slice A l.length cap, .slice B ks.length capk, .bool bb] w fun e w' => e = .returned (.bool true) ∧ Below w.heap.size w w' := by
  obtain ⟨c0, c1, c2, c3, c4, c5, hmay, q0, q1, q2, q3, q4, q5⟩ := may_some a0 a1 a2 a3 a4 a5
  obtain ⟨m, hm⟩ : ∃ m, m = (newM c0 c1 65536 c3 8 c5).run l := ⟨_, rfl⟩
  have ok0 : Ok (newM c0 c1 65536 c3 8 c5) := newM_ok q0 q1 (by omega) (by omega) q5
  have OKM := Aside0.mk (show Ok m from by rw [hm]; exact ok0.run l ho)
  have SER := Aside0.mk (show Ser m from by rw [hm]; exact (newM_ser c0 c1 65536 c3 8 c5).run ok0 l ho)
  have ROWS := Aside0.mk (show ∀ t ∈ m.done, t.length ≤ 2000 from by rw [hm]; exact run_rows ok0 (fun t ht => by cases ht) l ho)
  have DL := Aside0.mk (show m.done.length < 4000000000000 from by have h1 := done_run (newM c0 c1 65536 c3 8 c5) l; rw [← hm] at h1; have h2 : (newM c0 c1 65536 c3 8 c5).done.length = 0 := rfl; omega)
  have HLT := Aside0.mk (show m.log = 65536 ∧ m.table = 8 ∧ m.keys = c5 from by rw [hm]; exact ⟨(run_log _ l).1, (run_log _ l).2, run_cfg _ l⟩)
  have HM := Aside0.mk hm
  have HMAY := Aside0.mk hmay
  have HQ := Aside0.mk (show (1 ≤ c0 ∧ c0 ≤ 16) ∧ (1 ≤ c1 ∧ c1 ≤ 8) ∧ (2 ≤ c3 ∧ c3 ≤ 16) ∧ (1 ≤ c5 ∧ c5 ≤ 1048576) from ⟨q0, q1, q3, q5⟩)
  have HC := Aside0.mk hC
  have HCAP := Aside0.mk hcap
  have HLL := Aside0.mk hl
  have HO := Aside0.mk ho
  have HK := Aside0.mk hK
  have G := Aside0.mk hg
  have BX := Aside0.mk (below_alloc (Below.refl w.heap.size w) (.cells #[.int .i64 a0, .int .i64 a1, .int .i64 a2, .int .i64 a3, .int .i64 a4, .int .i64 a5] 25))
  obtain ⟨xs, hxs⟩ : ∃ xs, xs = m.ids := ⟨_, rfl⟩
  have HXS := Aside0.mk hxs
  have HXL := Aside0.mk (show xs.length ≤ 8 from by rw [hxs]; have h1 := OKM.out.size; have h2 := OKM.out.table; have h3 := ids_len m; omega)
  clear hmay q0 q1 q2 q3 q4 q5 hC hcap hl ho hg hm ok0 hxs hK hkc
  go_enter Tryz.func4, Tryz.ntmps4
  go_upto_region 4 with (first
    | (go_at_call 7; refine (tidemarklaw18_may.calls a0 a1 a2 a3 a4 a5 c0 c1 c2 c3 c4 c5 _ HMAY.out).mono ?_; rintro e w1 ⟨rfl, hb⟩
       have B1 := Aside0.mk (BX.out.trans (hb.mono BX.out.size))
       clear hb)
    | ((with_reducible refine gate_store (t := 25) (p := 9) rfl ?_)
       refine store_event rfl rfl (g := w1.heap.size) rfl rfl (heap_alloc_new w1 _) (by kernel_rfl) rfl (by simp [Value.oneCell']) ?_
       intro w2 hc hm
       have K2 := Aside0.mk hc
       have B2 := Aside0.mk (hm.below (below_alloc B1.out _) (by have := B1.out.size; simp; omega) (fun k hk => by rw [hk]; exact B1.out.size))
       clear hc hm)
    | ((with_reducible refine gate_store (t := 3) (p := 38) rfl ?_)
       refine put_event rfl rfl (g := w1.heap.size) (i := 4) rfl rfl rfl rfl K2.out (by show (4 : Nat) < 6; decide) (by kernel_rfl) ?_
       intro w3 hc hm
       have K3 := Aside0.mk hc
       have B3 := Aside0.mk (hm.below B2.out B2.out.size (fun k hk => by rw [hk]; exact B1.out.size))
       clear hc hm)
    | ((with_reducible refine gate_store (t := 3) (p := 40) rfl ?_)
       refine put_event rfl rfl (g := w1.heap.size) (i := 2) rfl rfl rfl rfl K3.out (by show (2 : Nat) < 6; decide) (by kernel_rfl) ?_
       intro w4 hc hm
       have B4 := Aside0.mk (hm.below B3.out B3.out.size (fun k hk => by rw [hk]; exact B1.out.size))
       have K4 := Aside0.mk (show w4.heap[w1.heap.size]? = some (.cells #[.int .i64 c0, .int .i64 c1, .int .i64 65536, .int .i64 c3, .int .i64 8, .int .i64 c5] 25 (0, 0)) from hc)
       clear hc hm))
  obtain ⟨dB, hdB⟩ : ∃ dB, dB = w1.heap.size := ⟨_, rfl⟩
  have HDB := Aside0.mk hdB
  rw [← hdB] at K4 ⊢
  have y0 := blk_cell K4.out 0
  have y1 := blk_cell K4.out 1
  have y2 := blk_cell K4.out 2
  have y3 := blk_cell K4.out 3
  have y4 := blk_cell K4.out 4
  have y5 := blk_cell K4.out 5
  simp only [List.getElem?_toArray, List.getElem?_cons_zero, List.getElem?_cons_succ] at y0 y1 y2 y3 y4 y5
  clear K2 K3 B2 B3 hdB
  go_upto_region 8 with (first
    | (go_at_call 6; refine (played12 (G.out.below B4.out) c0 c1 65536 c3 8 c5 HQ.out.1 HQ.out.2.1 (by omega) HQ.out.2.2.1 (by omega) HQ.out.2.2.2 (Kd.C_below HC.out B4.out) HCAP.out HLL.out HO.out).mono ?_; rintro e w5 ⟨p, rfl, hb, L, hlp, hs, hr⟩
       have S5 := Aside0.mk (show St w5 L none2 m from by rw [HM.out]; exact hs)
       have HLP := Aside0.mk hlp
       have dpos : 0 < dB := by have h1 := B1.out.size; have h2 := blk_lt K4.out; have h3 := BX.out.size; rw [HDB.out]; have h4 : 0 < w.heap.size := by have := (G.out.lt); omega
                                omega
       have E5 := Aside0.mk (show Env w w5 L dB #[.int .i64 c0, .int .i64 c1, .int .i64 65536, .int .i64 c3, .int .i64 8, .int .i64 c5] (.slice none 0 0) [] (.slice none 0 0) [] from ⟨B4.out.trans (hb.mono B4.out.size), hs.c.elim fun _ c => c.r0, fun k h1 h2 => hr k h1 (Nat.lt_of_lt_of_le h2 B4.out.size), (hb.block dB (blk_lt K4.out)).trans K4.out, hr dB dpos (blk_lt K4.out), Kd.R_nil _ _ _ _ _, Kd.R_nil _ _ _ _ _⟩)
       clear hb hs hr hlp dpos y0 y1 y2 y3 y4 y5)
    | ((with_reducible refine gate_dst (N := 47) rfl ?_); refine gate_guard rfl ?_; refine goesL_ (some 47) rfl rfl Tryz.func8 (by kernel_rfl) rfl #[] rfl (by (try simp only [List.map_toArray, List.map_cons, List.map_nil]); first | done | rfl) ?_
       refine (alive7 (S5.out.c.elim fun _ c => c.g0)).mono ?_; rintro e w6 ⟨rfl, hb⟩
       have S6 := Aside0.mk (S5.out.below hb)
       have E6 := Aside0.mk (E5.out.beneath hb)
       clear hb
       refine ⟨_, rfl, ?_⟩)
    | ((with_reducible refine gate_dst (N := 51) rfl ?_); refine goesL_ (some 51) rfl rfl Tryz.func9 (by kernel_rfl) rfl #[.pointer (some ⟨p, 0, none⟩)] rfl (by (try simp only [List.map_toArray, List.map_cons, List.map_nil]); first | done | rfl) ?_
       have C14 := ids14 S6.out OKM.out; rw [HLP.out] at C14; refine C14.mono ?_; clear C14; rintro e w7 ⟨v, rfl, hr, hb⟩
       rw [← HXS.out] at hr
       obtain ⟨A6, q6, hv⟩ := Kd.R_slice hr
       subst hv
       have S7 := Aside0.mk (S6.out.below hb)
       have E7 := Aside0.mk (E6.out.beneath hb)
       have HROW := Aside0.mk (ids_row hr)
       have HRO := Aside0.mk (show ∀ k, (Value.slice A6 xs.length q6).ownBlock = some k → L.role k = .out from fun k hk => S6.out.c.elim fun _ c => c.fresh k (own_in hr k hk).1)
       clear hb hr
       refine ⟨_, rfl, ?_⟩))
  clear S5 S6 E5 E6 B1 B4 K4 BX HMAY G HC HDB
  go_wp2
  go_loopg [12] xs.length (fun kq v12 wr => ∃ (i : Nat) (Lr : Lay), v12 = .int .i64 (i : Int) ∧ Aside0 (i + kq = xs.length) ∧ Aside0 (St wr Lr none2 (m.abortAll (xs.take i))) ∧ Aside0 (Goes w7 L wr Lr))
  case atStart => exact ⟨0, L, rfl, ⟨by omega⟩, S7, ⟨Goes.refl _ _⟩⟩
  case round =>
    obtain ⟨i, Lr, rfl, hik, hS, hG⟩ := hrel
    clear S7
    obtain ⟨Ws, hWs, hS⟩ : ∃ W, W = _ ∧ Aside0 (St W Lr none2 (m.abortAll (xs.take i))) := ⟨_, rfl, hS⟩
    subst hWs
    cases gk with
    | succ kr =>
      have hi0 : i < m.ids.length := by rw [← HXS.out]; have := hik.out; omega
      have hi1 : (i : Int) < (xs.length : Int) := by have := hik.out; omega
      have hi2 : (0 : Int) ≤ (i : Int) := by omega
      have hz := abort_zero OKM.out i hi0
      have hab := aborted OKM.out i (by rw [← ids_len]; omega)
      have HWF := Aside0.mk (ids_wf OKM.out i hi0)
      rw [HXS.out] at hS
      obtain ⟨mi, hmi⟩ : ∃ mi, mi = m.abortAll (m.ids.take i) := ⟨_, rfl⟩
      rw [← hmi] at hS hz hab
      have HS2 := Aside0.mk (show m.abortAll (xs.take (i + 1)) = mi.abort m.ids[i] from by rw [HXS.out]; exact hz.2)
      have OKI := Aside0.mk hab.ok
      have hw2 : IntKind.i64.wrap ((i : Int) + 1) = ((i + 1 : Nat) : Int) := wrp (by omega) (by have h1 := OKM.out.size; have h2 := OKM.out.table; have h3 := ids_len m; omega)
      rcases HROW.out with ⟨h1, h2⟩ | ⟨g6, cap6, cur, h1, h2, h3, h4⟩
      · rw [← HXS.out, h2] at hi0
        exact absurd hi0 (by simp)
      · injection h1 with e1 e2 e3
        clear e2 e3
        subst e1
        have hblk := hG.out.mv.blk h3 (fun h => h.1 (HRO.out g6 rfl))
        have y1 : Ws.cell? ⟨g6, i, none⟩ = some (.int .i64 m.ids[i]) := by
          refine (blk_cell hblk i).trans ?_
          have h5 := h4 i (by rw [HXS.out]; exact hi0)
          rw [h5]
          congr 2
          simp [HXS.out]
        obtain ⟨id, hid⟩ : ∃ id, id = m.ids[i] := ⟨_, rfl⟩
        rw [← hid] at y1 HS2 HWF
        clear hz hab hmi h2 h3 h4 hblk hid
        go_wp2_with (first
          | (go_at_call 11; have C28 := abort28 hS.out OKI.out id HWF.out; rw [hG.out.p.trans HLP.out] at C28; refine C28.mono ?_; clear C28; rintro e w9 ⟨rfl, L9, hs, hg⟩
             have S9 := Aside0.mk hs
             have G9 := Aside0.mk (hG.out.trans hg)
             clear hs hg))
        go_roundg kr
        case measure => omega
        case rel => exact ⟨i + 1, L9, rfl, ⟨by have := hik.out; omega⟩, by rw [HS2.out]; exact S9, G9⟩
    | zero =>
      obtain rfl : i = xs.length := hik.out
      have hd1 : ¬ ((xs.length : Int) < (xs.length : Int)) := by omega
      have hab := aborted OKM.out m.opn.length (Nat.le_refl _)
      rw [← ids_len, List.take_length] at hab
      rw [List.take_length, HXS.out] at hS
      have hcf := aborts_cfg m.ids (m0 := m) ⟨OKM.out, SER.out, rfl, rfl, rfl, rfl⟩
      obtain ⟨mf, hmf⟩ : ∃ mf, mf = m.abortAll m.ids := ⟨_, rfl⟩
      rw [← hmf] at hab hS hcf
      have hop : mf.opn = [] := by rw [hab.opn, ids_len, List.drop_length]
      have hre : mf.renewE = 0 := by unfold PSt.renewE; rw [hop]; rfl
      obtain ⟨mr, hmr⟩ : ∃ mr, mr = mf.renew := ⟨_, rfl⟩
      have hmr2 : mr = { mf with used := 0 } := by rw [hmr]; unfold PSt.renew; rw [if_pos hre]
      have HMR := Aside0.mk hmr
      have OKR := Aside0.mk (show Ok mr from by rw [hmr]; exact hcf.ok.renew)
      have SRR := Aside0.mk (show Ser mr from by rw [hmr2]; exact hcf.ser.setU 0)
      have HRP := Aside0.mk (show mr.opn = [] from by rw [hmr2]; exact hop)
      have HRK := Aside0.mk (show mr.keys = c5 from by rw [hmr2]; exact hcf.keys.trans HLT.out.2.2)
      have APS := Aside0.mk (ap_start OKR.out SRR.out HRP.out (by rw [hmr2]) (by rw [hmr2]; exact hcf.log.trans HLT.out.1) (by rw [hmr2]; exact hcf.table.trans HLT.out.2.1))
      have RDN := Aside0.mk (show mr.done = m.done from by rw [hmr2]; exact hcf.done)
      have HAL := Aside0.mk (show mr.all.length ≤ 128 from by have h1 := allOf_length OKR.out mr.left.length; rw [List.take_length] at h1; have h2 := OKR.out.left; have h3 := OKR.out.pages; exact Nat.le_trans h1 (by omega))
      have EA := Aside0.mk (E7.out.goes hG.out)
      have PA := Aside0.mk (hG.out.p.trans HLP.out)
      obtain ⟨es, hes⟩ : ∃ es, es = ents mr.all := ⟨_, rfl⟩
      have HES := Aside0.mk hes
      have HEL := Aside0.mk (show es.length ≤ 128 from by rw [hes, ents_length]; exact HAL.out)
      obtain ⟨mb, hmb⟩ : ∃ mb, mb = mr.begin_ 1 := ⟨_, rfl⟩
      obtain ⟨mc, hmc⟩ : ∃ mc, mc = mb.begin_ 2 := ⟨_, rfl⟩
      have HMB := Aside0.mk hmb
      have HMC := Aside0.mk hmc
      rw [← hmb, ← hmc] at APS
      have OKB := Aside0.mk (show Ok mb from by rw [hmb]; exact OKR.out.begin_ 1)
      have b1 := Aside0.mk APS.out.1
      have b2 := Aside0.mk APS.out.2.1
      have AP0 := Aside0.mk APS.out.2.2
      obtain ⟨nd, hnd⟩ : ∃ nd, nd = mr.done.length := ⟨_, rfl⟩
      have HND := Aside0.mk hnd
      clear hab hcf hop hre hmr2 hmf hmr hes hmb hmc hnd hG hd1 hik HROW HRO E7 APS
      go_upto_region 17 with (first
        | (go_at_call 16; have C30 := renew30 hS.out; rw [PA.out] at C30; refine C30.mono ?_; clear C30; rintro e wB ⟨rfl, LB, hs, hg⟩
           have SB := Aside0.mk (show St wB LB none2 mr from by rw [HMR.out]; exact hs)
           have EB := Aside0.mk (EA.out.goes hg)
           have PB := Aside0.mk (hg.p.trans PA.out)
           clear hs hg)
        | (go_at_call 12; have C12 := entries12 SB.out OKR.out HRP.out; rw [PB.out] at C12; refine C12.mono ?_; clear C12; rintro e wC ⟨v, rfl, hr, hb⟩
           rw [← HES.out] at hr
           obtain ⟨Ab, qb, hv⟩ := Kd.R_slice hr
           subst hv
           have SC := Aside0.mk (SB.out.below hb)
           have EC := Aside0.mk (EB.out.take hb hr SB.out)
           clear hb hr)
        | ((with_reducible refine gate_dst (N := 72) rfl ?_); refine goesL_ (some 72) rfl rfl Tryz.func15 (by kernel_rfl) rfl #[.pointer (some ⟨p, 0, none⟩)] rfl (by (try simp only [List.map_toArray, List.map_cons, List.map_nil]); first | done | rfl) ?_
           have C15 := done15R SC.out (by rw [RDN.out]; have := DL.out; omega) (fun t ht => by rw [RDN.out] at ht; have := ROWS.out t ht; omega); rw [PB.out, ← HND.out] at C15; refine C15.mono ?_; clear C15; rintro e wD ⟨gz, uz, rfl, hdr, hb⟩
           have SD := Aside0.mk (SC.out.below hb)
           have ED := Aside0.mk (EC.out.beneath hb)
           clear hdr hb
           refine ⟨_, rfl, ?_⟩)
        | ((with_reducible refine gate_dst (N := 75) rfl ?_); refine goesL_ (some 75) rfl rfl Tryz.func10 (by kernel_rfl) rfl #[.int .i64 0] rfl (by (try simp only [List.map_toArray, List.map_cons, List.map_nil]); first | done | rfl) ?_
           refine (num19 _ _).mono ?_; rintro e wN1 ⟨rfl, rfl⟩
           refine ⟨_, rfl, ?_⟩)
        | ((with_reducible refine gate_dst (N := 79) rfl ?_); refine gate_guard rfl ?_; refine goesL_ (some 79) rfl rfl Tryz.func17 (by kernel_rfl) rfl #[.pointer (some ⟨p, 0, none⟩), .int .i64 1] rfl (by (try simp only [List.map_toArray, List.map_cons, List.map_nil]); first | done | rfl) ?_
           have C20 := begin20 SD.out OKR.out 1 rfl; rw [PB.out, b1.out] at C20; refine C20.mono ?_; clear C20; rintro e wE ⟨rfl, LE, hs, hg⟩
           have SE := Aside0.mk (show St wE LE none2 mb from by rw [HMB.out]; exact hs)
           have EE := Aside0.mk (ED.out.goes hg)
           have PE := Aside0.mk (hg.p.trans PB.out)
           clear hs hg
           refine ⟨_, rfl, ?_⟩)
        | ((with_reducible refine gate_dst (N := 80) rfl ?_); refine gate_guard rfl ?_; refine goesL_ (some 80) rfl rfl Tryz.func10 (by kernel_rfl) rfl #[.int .i64 0] rfl (by (try simp only [List.map_toArray, List.map_cons, List.map_nil]); first | done | rfl) ?_
           refine (num19 _ _).mono ?_; rintro e wN2 ⟨rfl, rfl⟩
           refine ⟨_, rfl, ?_⟩)
        | ((with_reducible refine gate_dst (N := 85) rfl ?_); refine gate_guard rfl ?_; refine goesL_ (some 85) rfl rfl Tryz.func17 (by kernel_rfl) rfl #[.pointer (some ⟨p, 0, none⟩), .int .i64 2] rfl (by (try simp only [List.map_toArray, List.map_cons, List.map_nil]); first | done | rfl) ?_
           have C20 := begin20 SE.out OKB.out 2 rfl; rw [PE.out, b2.out] at C20; refine C20.mono ?_; clear C20; rintro e wF ⟨rfl, LF, hs, hg⟩
           have SF := Aside0.mk (show St wF LF none2 mc from by rw [HMC.out]; exact hs)
           have EF := Aside0.mk (EE.out.goes hg)
           have PF := Aside0.mk (hg.p.trans PE.out)
           clear hs hg
           refine ⟨_, rfl, ?_⟩)
        | ((with_reducible refine gate_dst (N := 86) rfl ?_); refine gate_guard rfl ?_; refine goesL_ (some 86) rfl rfl Tryz.func10 (by kernel_rfl) rfl #[.int .i64 0] rfl (by (try simp only [List.map_toArray, List.map_cons, List.map_nil]); first | done | rfl) ?_
           refine (num19 _ _).mono ?_; rintro e wN3 ⟨rfl, rfl⟩
           refine ⟨_, rfl, ?_⟩))
      clear SB SC SD SE EA EB EC ED EE PA PB PE b1 b2 OKB HMB HMC HMR hS
      obtain ⟨NN, hNN⟩ : ∃ NN, NN = min ks.length 40 := ⟨_, rfl⟩
      have HNN := Aside0.mk (show NN ≤ ks.length ∧ NN ≤ 40 ∧ (NN = ks.length ∨ NN = 40) from by omega)
      clear hNN
      go_wp2
      go_loopg [16, 17] NN (fun kq v16 v17 wr => ∃ (i : Nat) (mi : PSt) (t : Txn) (Lr : Lay), v17 = .int .i64 (i : Int) ∧ Aside0 (i + kq = NN) ∧ Aside0 (Ap mr mi t i) ∧ Aside0 (St wr Lr none2 mi) ∧ Aside0 (Lr.p = p) ∧ Aside0 (Env w wr Lr dB #[.int .i64 c0, .int .i64 c1, .int .i64 65536, .int .i64 c3, .int .i64 8, .int .i64 c5] (.slice Ab es.length qb) es v16 t.changes))
      case atStart => exact ⟨0, mc, txn0, LF, rfl, ⟨by omega⟩, AP0, SF, PF, EF⟩
      case round =>
        obtain ⟨i, mi, t, Lr, rfl, hik, hA, hS, hP, hE⟩ := hrel
        clear SF EF PF AP0
        obtain ⟨Ws, hWs, hS⟩ : ∃ W, W = _ ∧ Aside0 (St W Lr none2 mi) := ⟨_, rfl, hS⟩
        subst hWs
        obtain ⟨Ad, qd, hvd⟩ := Kd.R_slice hE.out.rd
        obtain ⟨did, hdid⟩ : ∃ did, did = t.changes := ⟨_, rfl⟩
        have HDID := Aside0.mk hdid
        rw [← hdid] at hvd hE
        have HDL := Aside0.mk (show did.length ≤ i from by rw [hdid]; exact hA.out.len)
        clear hdid
        subst hvd
        cases gk with
        | succ kr =>
          have hik2 := hik.out
          have hnn := HNN.out
          have hi0 : i < ks.length := by omega
          have hi1 : (i : Int) < (ks.length : Int) := by omega
          have hi4 : (i : Int) < 40 := by omega
          have hi2 : (0 : Int) ≤ (i : Int) := by omega
          have hw2 : IntKind.i64.wrap ((i : Int) + 1) = ((i + 1 : Nat) : Int) := wrp (by omega) (by omega)
          obtain ⟨ad, e0, y0⟩ := Kd.at_int (Kd.C_below HK.out hE.out.below) (i : Int) hi2 hi1
          subst e0
          have y1 : Ws.cell? ⟨dB, 5, none⟩ = some (.int .i64 c5) := blk_cell hE.out.cfg 5
          rw [Int.toNat_natCast] at y0
          have hq5 := HQ.out.2.2.2
          obtain ⟨r, hr, hr0, hr1⟩ := rest_some (rd ks (i : Int)) c5 (by omega)
          obtain ⟨x, hx⟩ : ∃ x, x = rd ks (i : Int) := ⟨_, rfl⟩
          rw [← hx] at y0 hr
          have HR := Aside0.mk hr
          have hr2 : r < mr.keys := by rw [HRK.out]; exact hr1
          have HWR := Aside0.mk (show (Lit.int .i64 r).wf = true from wf64 (by omega))
          obtain ⟨t1, ha1, hch1, hhold, hcon⟩ := hA.out.get hr0 hr2
          have ASK := Aside0.mk (hA.out.asked hr0 hr2)
          have hask1 := ha1.asked hr0 hr2
          have HBSY := Aside0.mk (ha1.busy hr0 hr2 hhold)
          obtain ⟨v0, hv0⟩ : ∃ v0, v0 = mi.getV 1 r := ⟨_, rfl⟩
          obtain ⟨b0, hb0⟩ : ∃ b0, b0 = mi.getB 1 r := ⟨_, rfl⟩
          have hv0c : v0 = (look (mi.con 1 (r.tmod mi.pages)) r).getD 0 := by rw [hv0]; unfold PSt.getV; rw [if_pos ASK.out]
          have hb0c : b0 = (look (mi.con 1 (r.tmod mi.pages)) r).isSome := by rw [hb0]; unfold PSt.getB; rw [if_pos ASK.out]
          have hv0r : 0 ≤ v0 ∧ v0 < 18446744073709551616 := by
            cases hlk : look (mi.con 1 (r.tmod mi.pages)) r with
            | none => rw [hv0c, hlk]; exact ⟨Int.le_refl _, by decide⟩
            | some u => rw [hv0c, hlk]; exact hA.out.con_val hr0 hr2 hlk
          have hinc := inc_ne v0 i hv0r (by omega)
          have hcv : IntKind.u64.wrap (i : Int) = (i : Int) := by rw [IntKind.wrap_u64]; omega
          obtain ⟨va, hva⟩ : ∃ va, va = IntKind.u64.wrap (v0 + (i : Int)) := ⟨_, rfl⟩
          rw [← hva] at hinc
          obtain ⟨vn, hvn⟩ : ∃ vn, vn = IntKind.u64.wrap (va + 1) := ⟨_, rfl⟩
          rw [← hvn] at hinc
          obtain ⟨m1, hm1⟩ : ∃ m1, m1 = mi.get 1 r := ⟨_, rfl⟩
          rw [← hm1] at ha1 hcon HBSY hhold hask1
          have hput := ha1.put (v := vn) hr0 hr2 (by omega) hinc.1 (fun u hu => by rw [hcon] at hu; rw [hu] at hv0c; intro e; exact hinc.2 (by rw [hv0c, e]; rfl))
          rw [hcon, ← hb0c] at hput
          have OKI := Aside0.mk hA.out.ok
          have OK1 := Aside0.mk ha1.ok
          have HV0 := Aside0.mk hv0
          have HB0 := Aside0.mk hb0
          have HM1 := Aside0.mk hm1
          have hsum1 := hva.symm
          have hsum2 := hvn.symm
          obtain ⟨eh, heh⟩ : ∃ eh, eh = m1.changedE 1 ⟨r, vn, false⟩ := ⟨_, rfl⟩
          obtain ⟨m3, hm3⟩ : ∃ m3, m3 = m1.changed 1 ⟨r, vn, false⟩ := ⟨_, rfl⟩
          rw [← heh, ← hm3] at hput
          have HEH := Aside0.mk heh
          have HM3 := Aside0.mk hm3
          have HA1 := Aside0.mk ha1
          have HCH := Aside0.mk (hch1.trans HDID.out.symm)
          have HRR := Aside0.mk (And.intro hr0 hr2)
          have EW := Aside0.mk (hE.out.beneath (below_drew (Below.refl _ _)))
          have SW := Aside0.mk (hS.out.below (below_drew (Below.refl _ _)))
          have Y0 := Aside0.mk y0
          have Y1 := Aside0.mk y1
          clear hr hr0 hr1 hr2 hq5 hx ha1 hch1 hhold hcon hask1 hv0 hb0 hv0c hb0c hv0r hinc hva hvn hm1 heh hm3 hik2 hnn hE hS hi0
          go_upto_region 21 with fail
          refine wp_region_held_drew (S := fun w' => w'.cell? (ad.add i) = some (.int .i64 x) ∧ w'.cell? ⟨dB, 5, none⟩ = some (.int .i64 c5)) (by kernel_rfl) ?_ (fun hHeld => ?_)
          · go_keep
          refine wpAnyH_take (i := 0) (oi := ?oi1) (v := ?v1) ?hi1 (by kernel_rfl) (by kernel_rfl) (by kernel_rfl) ?hQ1 ?hy1 (by assumption) ?more1 
          case hi1 => (simp only [List.getElem?_toArray, List.getElem?_cons_zero, List.getElem?_cons_succ]; rfl)
          case hQ1 => exact fun _ _ _ h => h
          case hy1 => (refine Or.inl ⟨by rfl, ?_⟩; intro w hSw; (try dsimp only at hSw); go_simp; (try with_reducible rfl))
          try simp only [Act.put, List.setIfInBounds_toArray, List.set_cons_zero, List.set_cons_succ]
          refine wpAnyH_take (i := 1) (oi := ?oi2) (v := ?v2) ?hi2 (by kernel_rfl) (by kernel_rfl) (by kernel_rfl) ?hQ2 ?hy2 (by assumption) ?more2 
          case hi2 => (simp only [List.getElem?_toArray, List.getElem?_cons_zero, List.getElem?_cons_succ]; rfl)
          case hQ2 => exact fun _ _ _ h => h
          case hy2 => (refine Or.inl ⟨by rfl, ?_⟩; intro w hSw; (try dsimp only at hSw); go_simp; (try with_reducible rfl))
          try simp only [Act.put, List.setIfInBounds_toArray, List.set_cons_zero, List.set_cons_succ]
          refine wpAnyH_take (i := 2) (oi := ?oi3) (v := ?v3) ?hi3 (by kernel_rfl) (by kernel_rfl) (by kernel_rfl) ?hQ3 ?hy3 (by assumption) ?more3 
          case hi3 => (simp only [List.getElem?_toArray, List.getElem?_cons_zero, List.getElem?_cons_succ]; rfl)
          case hQ3 => exact fun _ _ _ h => h
          case hy3 => (refine Or.inl ⟨by rfl, ?_⟩; intro w hSw; (try dsimp only at hSw); go_simp; (try with_reducible rfl))
          try simp only [Act.put, List.setIfInBounds_toArray, List.set_cons_zero, List.set_cons_succ]
          refine wpAnyH_take (i := 3) (oi := ?oi4) (v := ?v4) ?hi4 (by kernel_rfl) (by kernel_rfl) (by kernel_rfl) ?hQ4 ?hy4 (by assumption) ?more4 
          case hi4 => (simp only [List.getElem?_toArray, List.getElem?_cons_zero, List.getElem?_cons_succ]; rfl)
          case hQ4 => exact fun _ _ _ h => h
          case hy4 => (refine Or.inl ⟨by rfl, ?_⟩; intro w hSw; (try dsimp only at hSw); go_simp; (try with_reducible rfl))
          try simp only [Act.put, List.setIfInBounds_toArray, List.set_cons_zero, List.set_cons_succ]
          refine wpAnyH_take (i := 4) (oi := ?oi5) (v := ?v5) ?hi5 (by kernel_rfl) (by kernel_rfl) (by kernel_rfl) ?hQ5 ?hy5 (by assumption) ?more5 
          case hi5 => (simp only [List.getElem?_toArray, List.getElem?_cons_zero, List.getElem?_cons_succ]; rfl)
          case hQ5 => exact fun _ _ _ h => h
          case hy5 => (refine Or.inl ⟨by rfl, ?_⟩; intro w hSw; (try dsimp only at hSw); go_simp; (try with_reducible rfl))
          try simp only [Act.put, List.setIfInBounds_toArray, List.set_cons_zero, List.set_cons_succ]
          refine wpAnyH_take (i := 5) (oi := ?oi6) (v := ?v6) ?hi6 (by kernel_rfl) (by kernel_rfl) (by kernel_rfl) ?hQ6 ?hy6 (by assumption) ?more6 
          case hi6 => (simp only [List.getElem?_toArray, List.getElem?_cons_zero, List.getElem?_cons_succ]; rfl)
          case hQ6 => exact fun _ _ _ h => h
          case hy6 => (refine Or.inl ⟨by rfl, ?_⟩; intro w hSw; (try dsimp only at hSw); go_simp; (try with_reducible rfl))
          try simp only [Act.put, List.setIfInBounds_toArray, List.set_cons_zero, List.set_cons_succ]
          refine wpAnyH_ready (rs := [6]) (by kernel_rfl) (by simp) ?_
          refine AllReadyH.cons (o := ?oi7) ?hi7 (fun K hK => ?more7) AllReadyH.nil
          case hi7 => (simp only [List.getElem?_toArray, List.getElem?_cons_zero, List.getElem?_cons_succ]; rfl)
          go_simp
          (go_at_call 18; refine (tidemarklaw18_rest.calls x c5 r _ HR.out).mono ?_; rintro e w9 ⟨rfl, hd⟩
           have S9 := Aside0.mk (SW.out.below hd.below)
           have E9 := Aside0.mk (EW.out.beneath hd.below)
           have n1 : w9.cell? (ad.add i) = some (.int .i64 x) := pw_cell_below hd.below Y0.out
           have n2 : w9.cell? ⟨dB, 5, none⟩ = some (.int .i64 c5) := pw_cell_below hd.below Y1.out
           clear hd)
          refine hK.out _ _ ?_ (fun hHeld => ?_)
          · go_keep
          clear hK K
          try simp only [Act.put, List.setIfInBounds_toArray, List.set_cons_zero, List.set_cons_succ]
          refine wpAnyH_take (i := 7) (oi := ?oi8) (v := ?v8) ?hi8 (by kernel_rfl) (by kernel_rfl) (by kernel_rfl) ?hQ8 ?hy8 (by assumption) ?more8 
          case hi8 => (simp only [List.getElem?_toArray, List.getElem?_cons_zero, List.getElem?_cons_succ]; rfl)
          case hQ8 => exact fun _ _ _ h => h
          case hy8 => (refine Or.inl ⟨by rfl, ?_⟩; intro w hSw; (try dsimp only at hSw); go_simp; (try with_reducible rfl))
          try simp only [Act.put, List.setIfInBounds_toArray, List.set_cons_zero, List.set_cons_succ]
          refine wpAnyH_done (by kernel_rfl) ?_ _
          go_upto_region 29 with (first
            | ((with_reducible refine gate_dst (N := 109) rfl ?_); refine goesL_ (some 109) rfl rfl Tryz.func19 (by kernel_rfl) rfl #[.pointer (some ⟨p, 0, none⟩), .int .i64 1, .int .i64 r] rfl (by (try simp only [List.map_toArray, List.map_cons, List.map_nil]); first | done | rfl) ?_
               have C22 := get_ok S9.out OKI.out 1 r rfl HWR.out ASK.out; rw [hP.out, ← HV0.out, ← HB0.out] at C22; refine C22.mono ?_; clear C22; rintro e wG ⟨rfl, LG, hs, hg⟩
               have SG := Aside0.mk (show St wG LG none2 m1 from by rw [HM1.out]; exact hs)
               have EG := Aside0.mk (E9.out.goes hg)
               have PG := Aside0.mk (hg.p.trans hP.out)
               clear hs hg
               refine ⟨_, rfl, ?_⟩)
            | ((with_reducible refine gate_dst (N := 114) rfl ?_); refine goesL_ (some 114) rfl rfl Tryz.func10 (by kernel_rfl) rfl #[.int .i64 0] rfl (by (try simp only [List.map_toArray, List.map_cons, List.map_nil]); first | done | rfl) ?_
               refine (num19 _ _).mono ?_; rintro e wN4 ⟨rfl, rfl⟩
               refine ⟨_, rfl, ?_⟩)
            | ((with_reducible refine gate_dst (N := 119) rfl ?_); refine goesL_ (some 119) rfl rfl Tryz.func19 (by kernel_rfl) rfl #[.pointer (some ⟨p, 0, none⟩), .int .i64 2, .int .i64 r] rfl (by (try simp only [List.map_toArray, List.map_cons, List.map_nil]); first | done | rfl) ?_
               have C22 := get_bad SG.out OK1.out 2 r rfl HWR.out (by rw [HBSY.out]; decide); rw [PG.out, HBSY.out] at C22; refine C22.mono ?_; clear C22; rintro e wH ⟨rfl, hb⟩
               have SH := Aside0.mk (SG.out.below hb)
               have EH := Aside0.mk (EG.out.beneath hb)
               clear hb
               refine ⟨_, rfl, ?_⟩)
            | ((with_reducible refine gate_dst (N := 124) rfl ?_); refine goesL_ (some 124) rfl rfl Tryz.func10 (by kernel_rfl) rfl #[.int .i64 150] rfl (by (try simp only [List.map_toArray, List.map_cons, List.map_nil]); first | done | rfl) ?_
               refine (num19 _ _).mono ?_; rintro e wN5 ⟨rfl, rfl⟩
               refine ⟨_, rfl, ?_⟩)
            | ((with_reducible refine gate_dst (N := 133) rfl ?_); refine goesL_ (some 133) rfl rfl Tryz.func20 (by kernel_rfl) rfl #[.pointer (some ⟨p, 0, none⟩), .int .i64 1, .int .i64 r, .int .u64 vn] rfl (by (try simp only [List.map_toArray, List.map_cons, List.map_nil]); first | done | rfl) ?_
               have C21 := put21 SH.out OK1.out 1 r vn rfl HWR.out; rw [PG.out, ← HEH.out, ← HM3.out] at C21; refine C21.mono ?_; clear C21; rintro e wI ⟨rfl, LI, hs, hg⟩
               have SI := Aside0.mk hs
               have EI := Aside0.mk (EH.out.goes hg)
               have PI := Aside0.mk (hg.p.trans PG.out)
               clear hs hg
               refine ⟨_, rfl, ?_⟩))
          clear S9 E9 SG EG SH EH Y0 Y1 EW SW
          rcases hput with ⟨e42, em, eb⟩ | ⟨e0, t3, ha3, hch3, hlk3⟩
          · subst eb
            rw [em] at SI
            have HA9 := Aside0.mk (HA1.out.more)
            have E42 := Aside0.mk (show Env w wI LI dB #[.int .i64 c0, .int .i64 c1, .int .i64 65536, .int .i64 c3, .int .i64 8, .int .i64 c5] (.slice Ab es.length qb) es (.slice Ad did.length qd) t1.changes from by rw [HCH.out]; exact EI.out)
            clear em EI HA1 HCH
            subst e42
            go_wp2_with (first
              | ((with_reducible refine gate_dst (N := 135) rfl ?_); refine goesL_ (some 135) rfl rfl Tryz.func10 (by kernel_rfl) rfl #[.int .i64 42] rfl (by (try simp only [List.map_toArray, List.map_cons, List.map_nil]); first | done | rfl) ?_
                 refine (num19 _ _).mono ?_; rintro e wN6 ⟨rfl, rfl⟩
                 refine ⟨_, rfl, ?_⟩))
            go_roundg kr
            case measure => omega
            case rel => exact ⟨i + 1, m1, t1, LI, rfl, ⟨by have := hik.out; omega⟩, HA9, SI, PI, E42⟩
          · have ask3 := ha3.asked HRR.out.1 HRR.out.2
            obtain ⟨t4, ha4, hch4, _, _⟩ := ha3.get HRR.out.1 HRR.out.2
            have HV3 := Aside0.mk (show vn = m3.getV 1 r from by unfold PSt.getV; rw [if_pos ask3, hlk3]; rfl)
            have HB3 := Aside0.mk (show true = m3.getB 1 r from by unfold PSt.getB; rw [if_pos ask3, hlk3]; rfl)
            have ASK3 := Aside0.mk ask3
            have OK3 := Aside0.mk ha3.ok
            obtain ⟨m4, hm4⟩ : ∃ m4, m4 = m3.get 1 r := ⟨_, rfl⟩
            rw [← hm4] at ha4
            have HM4 := Aside0.mk hm4
            have HA4 := Aside0.mk ha4
            have HCH4 := Aside0.mk (show did ++ [(⟨r, vn, false⟩ : Chg)] = t4.changes from by rw [hch4, hch3, HCH.out])
            have hne : (vn != vn) = false := by simp
            clear ask3 ha3 ha4 hch3 hch4 hlk3 hm4 HA1 HCH
            subst e0
            go_wp2_with (first
              | ((with_reducible refine gate_dst (N := 135) rfl ?_); refine goesL_ (some 135) rfl rfl Tryz.func10 (by kernel_rfl) rfl #[.int .i64 0] rfl (by (try simp only [List.map_toArray, List.map_cons, List.map_nil]); first | done | rfl) ?_
                 refine (num19 _ _).mono ?_; rintro e wN7 ⟨rfl, rfl⟩
                 refine ⟨_, rfl, ?_⟩)
              | ((with_reducible refine gate_dst (N := 141) rfl ?_); refine goesL_ (some 141) rfl rfl Tryz.func19 (by kernel_rfl) rfl #[.pointer (some ⟨p, 0, none⟩), .int .i64 1, .int .i64 r] rfl (by (try simp only [List.map_toArray, List.map_cons, List.map_nil]); first | done | rfl) ?_
                 have C22 := get_ok SI.out OK3.out 1 r rfl HWR.out ASK3.out; rw [PI.out, ← HV3.out, ← HB3.out] at C22; refine C22.mono ?_; clear C22; rintro e wJ ⟨rfl, LJ, hs, hg⟩
                 have SJ := Aside0.mk (show St wJ LJ none2 m4 from by rw [HM4.out]; exact hs)
                 have EJ := Aside0.mk (EI.out.goes hg)
                 have PJ := Aside0.mk (hg.p.trans PI.out)
                 clear hs hg
                 refine ⟨_, rfl, ?_⟩)
              | ((with_reducible refine gate_dst (N := 146) rfl ?_); refine goesL_ (some 146) rfl rfl Tryz.func10 (by kernel_rfl) rfl #[.int .i64 0] rfl (by (try simp only [List.map_toArray, List.map_cons, List.map_nil]); first | done | rfl) ?_
                 refine (num19 _ _).mono ?_; rintro e wN8 ⟨rfl, rfl⟩
                 refine ⟨_, rfl, ?_⟩)
              | ((with_reducible refine gate_dst (N := 150) rfl ?_); refine gate_guard rfl ?_; refine goesL_ (some 150) rfl rfl Tryz.func10 (by kernel_rfl) rfl #[.int .i64 0] rfl (by (try simp only [List.map_toArray, List.map_cons, List.map_nil]); first | done | rfl) ?_
                 refine (num19 _ _).mono ?_; rintro e wN9 ⟨rfl, rfl⟩
                 refine ⟨_, rfl, ?_⟩)
              | ((with_reducible refine gate_builtin (b := .append) rfl ?_); at_builtin
                 refine app_event kChg rfl rfl Tryz.underlying45 infoCh rfl (by decide) (by decide) did [(⟨r, vn, false⟩ : Chg)] 1 rfl _ rfl rfl EJ.out.rd (fun k hk => EJ.out.fresh SJ.out k hk) EJ.out.below.size (repsX r vn) (by have h1 := HDL.out; have h2 := hik.out; have h3 := HNN.out; omega) (by simp) ?_
                 intro A9 n9 c9 wK hr hm
                 rw [HCH4.out] at hr
                 have SK := Aside0.mk (EJ.out.moved SJ.out hm)
                 have EK := Aside0.mk (EJ.out.app hm hr)
                 clear hr hm))
            go_roundg kr
            case measure => omega
            case rel => exact ⟨i + 1, m4, t4, LJ, rfl, ⟨by have := hik.out; omega⟩, HA4, SK, PJ, EK⟩
        | zero =>
          have hiN : i = NN := hik.out
          have OKI := Aside0.mk hA.out.ok
          have E1Z := Aside0.mk hA.out.end0
          have HROWS := Aside0.mk (show ∀ t ∈ mr.done, t.length ≤ 2000 from by rw [RDN.out]; exact ROWS.out)
          have AB := Aside0.mk (hA.out.abort HROWS.out)
          have CM := Aside0.mk (hA.out.commit HROWS.out (by have := HNN.out; omega))
          rw [← HDID.out, ← HND.out] at CM
          rw [← HND.out] at AB
          have DKEY := Aside0.mk (show ∀ x ∈ did, (Lit.int .i64 x.f0).wf = true from fun x hx => by
            have h1 := hA.out.keysD x (by rw [← HDID.out]; exact hx)
            rw [HRK.out] at h1
            have h2 := HQ.out.2.2.2
            exact wf64 (by omega))
          have DLEN := Aside0.mk (show did.length ≤ 2000 from by have h1 := HDL.out; have h2 := HNN.out; omega)
          have MDL := Aside0.mk (show mi.done.length < 5000000000000 from by rw [hA.out.done, RDN.out]; have := DL.out; omega)
          have NDL := Aside0.mk (show nd < 4000000000000 from by rw [HND.out, RDN.out]; exact DL.out)
          have DIDZ := hE
          have UPA := Aside0.mk (show Up mr.all from Up.allOf mr.left)
          have CHW := Aside0.mk (chs_wf OKR.out)
          obtain ⟨kl, hkl⟩ := listed_some mr.all (by have := HAL.out; omega)
          rw [← HES.out] at hkl
          have HKL := Aside0.mk hkl
          rw [← HES.out] at CHW
          have CHL := Aside0.mk (show (chsOf es).length ≤ 2000 from by unfold chsOf; rw [List.length_map]; have := HEL.out; omega)
          have FCH := Aside0.mk (show foldT [] (chsOf es) = mr.all from by rw [HES.out]; exact fold_chs UPA.out)
          have hn1 : IntKind.i64.wrap ((nd : Int) + 1) = ((nd + 1 : Nat) : Int) := wrp (by omega) (by have := NDL.out; omega)
          have hn2 : IntKind.i64.wrap ((nd : Int) + 1 + 1) = (nd : Int) + 2 := wrp (by omega) (by have := NDL.out; omega)
          have hn3 : wrap64 ((nd : Int) + 1 + 1) = (nd : Int) + 2 := w64s2 (by have := NDL.out; omega)
          clear hkl hA hE
          rcases (show i = ks.length ∨ (i = 40 ∧ 40 < ks.length) from by have := HNN.out; omega) with hz | ⟨hz, hz2⟩
          · cases bb with
            | false =>
              have hd1 : ¬ ((i : Int) < (ks.length : Int)) := by omega
              clear hz hiN hik
              go_upto_region 36 with fail
              clear hd1
              obtain ⟨mx, hmx⟩ : ∃ mx, mx = mi.abort 1 := ⟨_, rfl⟩
              rw [← hmx] at AB
              have HMX := Aside0.mk hmx
              obtain ⟨af, haf⟩ : ∃ af, af = mr.all := ⟨_, rfl⟩
              have BP0 := Aside0.mk (show Bp mr mx txn0 af (nd) from by rw [haf]; exact AB.out)
              have HFO := Aside0.mk (show foldC [chsOf es, []] = af from by rw [foldC_two, FCH.out, haf]; rfl)
              have AFL := Aside0.mk (show af.length ≤ 128 from by rw [← BP0.out.all]; exact all_len BP0.out.ok)
              obtain ⟨ea, hea⟩ : ∃ ea, ea = ents af := ⟨_, rfl⟩
              have HEA := Aside0.mk hea
              have EAL := Aside0.mk (show ea.length ≤ 128 from by rw [hea, ents_length]; exact AFL.out)
              obtain ⟨k3, hk3⟩ := entries_self ea (Nat.lt_of_le_of_lt EAL.out (by omega))
              have HK3 := Aside0.mk hk3
              have HWF2 := Aside0.mk (show ∀ t ∈ [chsOf es, []], ∀ x ∈ t, (Lit.int .i64 x.f0).wf = true from fun t ht x hx => by
                rw [List.mem_cons, List.mem_singleton] at ht
                rcases ht with rfl | rfl
                · exact CHW.out x hx
                · exact nomatch hx)
              have HCN2 := Aside0.mk (show cntC [chsOf es, []] < 1000000000000000000 from by
                have h1 := cnt_le [chsOf es, []] (fun t ht => by
                  rw [List.mem_cons, List.mem_singleton] at ht
                  rcases ht with rfl | rfl
                  · exact CHL.out
                  · exact Nat.zero_le _)
                have h2 : [chsOf es, []].length = 2 := rfl
                omega)
              clear hmx haf hea hk3 AB CM
              go_upto_region 43 with (first
                | ((with_reducible refine gate_dst (N := 175) rfl ?_); refine goesL_ (some 175) rfl rfl Tryz.func11 (by kernel_rfl) rfl #[.pointer (some ⟨p, 0, none⟩), .int .i64 1] rfl (by (try simp only [List.map_toArray, List.map_cons, List.map_nil]); first | done | rfl) ?_
                   have C28 := abort28 hS.out OKI.out 1 rfl; rw [hP.out, E1Z.out, ← HMX.out] at C28; refine C28.mono ?_; clear C28; rintro e wP ⟨rfl, LP, hs, hg⟩
                   have SP1 := Aside0.mk hs
                   have EP := Aside0.mk (DIDZ.out.goes hg).nil_
                   have PP := Aside0.mk (hg.p.trans hP.out)
                   clear hs hg
                   refine ⟨_, rfl, ?_⟩)
                | ((with_reducible refine gate_dst (N := 176) rfl ?_); refine goesL_ (some 176) rfl rfl Tryz.func10 (by kernel_rfl) rfl #[.int .i64 0] rfl (by (try simp only [List.map_toArray, List.map_cons, List.map_nil]); first | done | rfl) ?_
                   refine (num19 _ _).mono ?_; rintro e wN10 ⟨rfl, rfl⟩
                   refine ⟨_, rfl, ?_⟩)
                | ((with_reducible refine gate_dst (N := 183) rfl ?_); refine goesL_ (some 183) rfl rfl Tryz.func22 (by kernel_rfl) rfl #[.slice Ab es.length qb] rfl (by (try simp only [List.map_toArray, List.map_cons, List.map_nil]); first | done | rfl) ?_
                   refine (tidemarklaw18_listed.calls kl Ab qb es (chsOf es) _ (Kd.R_reads' EP.out.rb).2.2 (Kd.R_reads' EP.out.rb).2.1 HKL.out).mono ?_; rintro e wQ ⟨v, rfl, hr, hb⟩
                   obtain ⟨Al, ql, hv⟩ := Kd.R_slice hr
                   subst hv
                   have RLQ := Aside0.mk (Kd.R_lower hr EP.out.below.size)
                   have SQ := Aside0.mk (SP1.out.below hb)
                   have EQ := Aside0.mk (EP.out.beneath hb)
                   clear hr hb
                   refine ⟨_, rfl, ?_⟩)
                | (go_at_call 14; refine (Fold6g (two_rows RLQ.out EQ.out.rd) (Nat.le_refl _) (by show (2 : Nat) < 1000000000000000; decide) HCN2.out (by rw [HFO.out]; have := AFL.out; omega) HWF2.out).mono ?_; rintro e wR ⟨v, rfl, hr, hb⟩
                   rw [HFO.out, ← HEA.out] at hr
                   obtain ⟨Af, qf, hv⟩ := Kd.R_slice hr
                   subst hv
                   have BQR := Aside0.mk ((below_alloc (Below.refl wQ.heap.size wQ) _).trans (hb.mono (Nat.le_of_lt (by simp))))
                   have SR := Aside0.mk (SQ.out.below BQR.out)
                   have ER := Aside0.mk (EQ.out.take BQR.out (Kd.R_lower hr (Nat.le_of_lt (by simp))) SQ.out)
                   clear hr hb))
              clear SP1 EP SQ EQ RLQ BQR hS DIDZ HKL HCN2 HWF2 HFO CHL CHW FCH UPA
              go_wp2
              go_loopg [29] NN (fun kq v29 wr => ∃ (i : Nat) (mj : PSt) (s : Txn) (Lr : Lay), v29 = .int .i64 (i : Int) ∧ Aside0 (i + kq = NN) ∧ Aside0 (Bp mr mj s af (nd)) ∧ Aside0 (St wr Lr none2 mj) ∧ Aside0 (Lr.p = p) ∧ Aside0 (Env w wr Lr dB #[.int .i64 c0, .int .i64 c1, .int .i64 65536, .int .i64 c3, .int .i64 8, .int .i64 c5] (.slice Af ea.length qf) ea (.slice none 0 0) []))
              case atStart => exact ⟨0, mx, txn0, LP, rfl, ⟨by omega⟩, BP0, SR, PP, ER⟩
              case round =>
                obtain ⟨i, mj, s, Lr, rfl, hik, hB, hS, hP, hE⟩ := hrel
                clear SR ER BP0 PP
                obtain ⟨Ws, hWs, hS⟩ : ∃ W, W = _ ∧ Aside0 (St W Lr none2 mj) := ⟨_, rfl, hS⟩
                subst hWs
                cases gk with
                | succ kr =>
                  have hik2 := hik.out
                  have hnn := HNN.out
                  have hi0 : i < ks.length := by omega
                  have hi1 : (i : Int) < (ks.length : Int) := by omega
                  have hi4 : (i : Int) < 40 := by omega
                  have hi2 : (0 : Int) ≤ (i : Int) := by omega
                  have hw2 : IntKind.i64.wrap ((i : Int) + 1) = ((i + 1 : Nat) : Int) := wrp (by omega) (by omega)
                  obtain ⟨ad, e0, y0⟩ := Kd.at_int (Kd.C_below HK.out hE.out.below) (i : Int) hi2 hi1
                  subst e0
                  have y1 : Ws.cell? ⟨dB, 5, none⟩ = some (.int .i64 c5) := blk_cell hE.out.cfg 5
                  rw [Int.toNat_natCast] at y0
                  have hq5 := HQ.out.2.2.2
                  obtain ⟨r, hr, hr0, hr1⟩ := rest_some (rd ks (i : Int)) c5 (by omega)
                  obtain ⟨x, hx⟩ : ∃ x, x = rd ks (i : Int) := ⟨_, rfl⟩
                  rw [← hx] at y0 hr
                  have HR := Aside0.mk hr
                  have hr2 : r < mr.keys := by rw [HRK.out]; exact hr1
                  have HWR := Aside0.mk (show (Lit.int .i64 r).wf = true from wf64 (by omega))
                  have ASK := Aside0.mk (hB.out.asked hr0 hr2)
                  obtain ⟨⟨s2, hB2⟩, hgb, hgv⟩ := hB.out.get hr0 hr2
                  obtain ⟨v0, hv0⟩ : ∃ v0, v0 = mj.getV 2 r := ⟨_, rfl⟩
                  obtain ⟨b0, hb0⟩ : ∃ b0, b0 = mj.getB 2 r := ⟨_, rfl⟩
                  rw [← hv0] at hgv
                  rw [← hb0] at hgb
                  obtain ⟨kh, hkh⟩ := has_some af (by have := AFL.out; omega) r v0
                  have hres : decide (look af r = some v0) = b0 := by
                    rw [hgb]
                    cases hlk : look af r with
                    | none => simp
                    | some u => rw [hlk] at hgv; rw [hgv]; simp
                  rw [hres, ← HEA.out] at hkh
                  have HKH := Aside0.mk hkh
                  obtain ⟨m1, hm1⟩ : ∃ m1, m1 = mj.get 2 r := ⟨_, rfl⟩
                  rw [← hm1] at hB2
                  have HB2 := Aside0.mk hB2
                  have OKI := Aside0.mk hB.out.ok
                  have HV0 := Aside0.mk hv0
                  have HB0 := Aside0.mk hb0
                  have HM1 := Aside0.mk hm1
                  have hne : (b0 != b0) = false := by simp
                  have EW := Aside0.mk (hE.out.beneath (below_drew (Below.refl _ _)))
                  have SW := Aside0.mk (hS.out.below (below_drew (Below.refl _ _)))
                  have Y0 := Aside0.mk y0
                  have Y1 := Aside0.mk y1
                  clear hr hr0 hr1 hr2 hq5 hx hB2 hgb hgv hkh hres hv0 hb0 hm1 hik2 hnn hE hS hi0 hB
                  go_upto_region 46 with fail
                  refine wp_region_held_drew (S := fun w' => w'.cell? (ad.add i) = some (.int .i64 x) ∧ w'.cell? ⟨dB, 5, none⟩ = some (.int .i64 c5)) (by kernel_rfl) ?_ (fun hHeld => ?_)
                  · go_keep
                  refine wpAnyH_take (i := 0) (oi := ?oi9) (v := ?v9) ?hi9 (by kernel_rfl) (by kernel_rfl) (by kernel_rfl) ?hQ9 ?hy9 (by assumption) ?more9 
                  case hi9 => (simp only [List.getElem?_toArray, List.getElem?_cons_zero, List.getElem?_cons_succ]; rfl)
                  case hQ9 => exact fun _ _ _ h => h
                  case hy9 => (refine Or.inl ⟨by rfl, ?_⟩; intro w hSw; (try dsimp only at hSw); go_simp; (try with_reducible rfl))
                  try simp only [Act.put, List.setIfInBounds_toArray, List.set_cons_zero, List.set_cons_succ]
                  refine wpAnyH_take (i := 1) (oi := ?oi10) (v := ?v10) ?hi10 (by kernel_rfl) (by kernel_rfl) (by kernel_rfl) ?hQ10 ?hy10 (by assumption) ?more10 
                  case hi10 => (simp only [List.getElem?_toArray, List.getElem?_cons_zero, List.getElem?_cons_succ]; rfl)
                  case hQ10 => exact fun _ _ _ h => h
                  case hy10 => (refine Or.inl ⟨by rfl, ?_⟩; intro w hSw; (try dsimp only at hSw); go_simp; (try with_reducible rfl))
                  try simp only [Act.put, List.setIfInBounds_toArray, List.set_cons_zero, List.set_cons_succ]
                  refine wpAnyH_take (i := 2) (oi := ?oi11) (v := ?v11) ?hi11 (by kernel_rfl) (by kernel_rfl) (by kernel_rfl) ?hQ11 ?hy11 (by assumption) ?more11 
                  case hi11 => (simp only [List.getElem?_toArray, List.getElem?_cons_zero, List.getElem?_cons_succ]; rfl)
                  case hQ11 => exact fun _ _ _ h => h
                  case hy11 => (refine Or.inl ⟨by rfl, ?_⟩; intro w hSw; (try dsimp only at hSw); go_simp; (try with_reducible rfl))
                  try simp only [Act.put, List.setIfInBounds_toArray, List.set_cons_zero, List.set_cons_succ]
                  refine wpAnyH_take (i := 3) (oi := ?oi12) (v := ?v12) ?hi12 (by kernel_rfl) (by kernel_rfl) (by kernel_rfl) ?hQ12 ?hy12 (by assumption) ?more12 
                  case hi12 => (simp only [List.getElem?_toArray, List.getElem?_cons_zero, List.getElem?_cons_succ]; rfl)
                  case hQ12 => exact fun _ _ _ h => h
                  case hy12 => (refine Or.inl ⟨by rfl, ?_⟩; intro w hSw; (try dsimp only at hSw); go_simp; (try with_reducible rfl))
                  try simp only [Act.put, List.setIfInBounds_toArray, List.set_cons_zero, List.set_cons_succ]
                  refine wpAnyH_take (i := 4) (oi := ?oi13) (v := ?v13) ?hi13 (by kernel_rfl) (by kernel_rfl) (by kernel_rfl) ?hQ13 ?hy13 (by assumption) ?more13 
                  case hi13 => (simp only [List.getElem?_toArray, List.getElem?_cons_zero, List.getElem?_cons_succ]; rfl)
                  case hQ13 => exact fun _ _ _ h => h
                  case hy13 => (refine Or.inl ⟨by rfl, ?_⟩; intro w hSw; (try dsimp only at hSw); go_simp; (try with_reducible rfl))
                  try simp only [Act.put, List.setIfInBounds_toArray, List.set_cons_zero, List.set_cons_succ]
                  refine wpAnyH_take (i := 5) (oi := ?oi14) (v := ?v14) ?hi14 (by kernel_rfl) (by kernel_rfl) (by kernel_rfl) ?hQ14 ?hy14 (by assumption) ?more14 
                  case hi14 => (simp only [List.getElem?_toArray, List.getElem?_cons_zero, List.getElem?_cons_succ]; rfl)
                  case hQ14 => exact fun _ _ _ h => h
                  case hy14 => (refine Or.inl ⟨by rfl, ?_⟩; intro w hSw; (try dsimp only at hSw); go_simp; (try with_reducible rfl))
                  try simp only [Act.put, List.setIfInBounds_toArray, List.set_cons_zero, List.set_cons_succ]
                  refine wpAnyH_ready (rs := [6]) (by kernel_rfl) (by simp) ?_
                  refine AllReadyH.cons (o := ?oi15) ?hi15 (fun K hK => ?more15) AllReadyH.nil
                  case hi15 => (simp only [List.getElem?_toArray, List.getElem?_cons_zero, List.getElem?_cons_succ]; rfl)
                  go_simp
                  (go_at_call 18; refine (tidemarklaw18_rest.calls x c5 r _ HR.out).mono ?_; rintro e w9 ⟨rfl, hd⟩
                   have S9 := Aside0.mk (SW.out.below hd.below)
                   have E9 := Aside0.mk (EW.out.beneath hd.below)
                   have n1 : w9.cell? (ad.add i) = some (.int .i64 x) := pw_cell_below hd.below Y0.out
                   have n2 : w9.cell? ⟨dB, 5, none⟩ = some (.int .i64 c5) := pw_cell_below hd.below Y1.out
                   clear hd)
                  refine hK.out _ _ ?_ (fun hHeld => ?_)
                  · go_keep
                  clear hK K
                  try simp only [Act.put, List.setIfInBounds_toArray, List.set_cons_zero, List.set_cons_succ]
                  refine wpAnyH_take (i := 7) (oi := ?oi16) (v := ?v16) ?hi16 (by kernel_rfl) (by kernel_rfl) (by kernel_rfl) ?hQ16 ?hy16 (by assumption) ?more16 
                  case hi16 => (simp only [List.getElem?_toArray, List.getElem?_cons_zero, List.getElem?_cons_succ]; rfl)
                  case hQ16 => exact fun _ _ _ h => h
                  case hy16 => (refine Or.inl ⟨by rfl, ?_⟩; intro w hSw; (try dsimp only at hSw); go_simp; (try with_reducible rfl))
                  try simp only [Act.put, List.setIfInBounds_toArray, List.set_cons_zero, List.set_cons_succ]
                  refine wpAnyH_done (by kernel_rfl) ?_ _
                  go_wp2_with (first
                    | ((with_reducible refine gate_dst (N := 207) rfl ?_); refine goesL_ (some 207) rfl rfl Tryz.func19 (by kernel_rfl) rfl #[.pointer (some ⟨p, 0, none⟩), .int .i64 2, .int .i64 r] rfl (by (try simp only [List.map_toArray, List.map_cons, List.map_nil]); first | done | rfl) ?_
                       have C22 := get_ok S9.out OKI.out 2 r rfl HWR.out ASK.out; rw [hP.out, ← HV0.out, ← HB0.out] at C22; refine C22.mono ?_; clear C22; rintro e wG ⟨rfl, LG, hs, hg⟩
                       have SG := Aside0.mk (show St wG LG none2 m1 from by rw [HM1.out]; exact hs)
                       have EG := Aside0.mk (E9.out.goes hg)
                       have PG := Aside0.mk (hg.p.trans hP.out)
                       clear hs hg
                       refine ⟨_, rfl, ?_⟩)
                    | ((with_reducible refine gate_dst (N := 212) rfl ?_); refine goesL_ (some 212) rfl rfl Tryz.func10 (by kernel_rfl) rfl #[.int .i64 0] rfl (by (try simp only [List.map_toArray, List.map_cons, List.map_nil]); first | done | rfl) ?_
                       refine (num19 _ _).mono ?_; rintro e wN11 ⟨rfl, rfl⟩
                       refine ⟨_, rfl, ?_⟩)
                    | ((with_reducible refine gate_dst (N := 219) rfl ?_); refine gate_guard rfl ?_; refine goesL_ (some 219) rfl rfl Tryz.func23 (by kernel_rfl) rfl #[.slice Af ea.length qf, .int .i64 r, .int .u64 v0] rfl (by (try simp only [List.map_toArray, List.map_cons, List.map_nil]); first | done | rfl) ?_
                       refine (tidemarklaw18_has.calls kh Af qf ea r v0 b0 _ (Kd.R_reads' EG.out.rb).2.2 (Kd.R_reads' EG.out.rb).2.1 HKH.out).mono ?_; rintro e wH ⟨rfl, hd⟩
                       have SH := Aside0.mk (SG.out.below hd.below)
                       have EH := Aside0.mk (EG.out.beneath hd.below)
                       clear hd
                       refine ⟨_, rfl, ?_⟩))
                  go_roundg kr
                  case measure => omega
                  case rel => exact ⟨i + 1, m1, s2, LG, rfl, ⟨by have := hik.out; omega⟩, HB2, SH, PG, EH⟩
                | zero =>
                  have hiN : i = NN := hik.out
                  have hnn := HNN.out
                  obtain ⟨e2z, okz, opz, alz, dnz, rwz⟩ := hB.out.commit
                  obtain ⟨mz, hmz⟩ : ∃ mz, mz = mj.commit 2 := ⟨_, rfl⟩
                  rw [← hmz] at okz opz alz dnz rwz
                  have OKI := Aside0.mk hB.out.ok
                  have E2Z := Aside0.mk e2z
                  have OKZ := Aside0.mk okz
                  have OPZ := Aside0.mk opz
                  have ALZ := Aside0.mk (show ents mz.all = ea from by rw [alz, HEA.out])
                  have DNZ := Aside0.mk (show mz.done.length = nd + 1 from dnz)
                  have RWZ := Aside0.mk rwz
                  have HMZ := Aside0.mk hmz
                  have MDL2 := Aside0.mk (show mj.done.length < 5000000000000 from by rw [hB.out.done]; have := NDL.out; omega)
                  clear e2z okz opz alz dnz rwz hmz hB
                  rcases (show i = ks.length ∨ (i = 40 ∧ 40 < ks.length) from by omega) with hy | ⟨hy, hy2⟩
                  · have hd3 : ¬ ((i : Int) < (ks.length : Int)) := by omega
                    clear hy hiN hnn hik
                    go_wp2_with (first
                      | ((with_reducible refine gate_dst (N := 223) rfl ?_); refine goesL_ (some 223) rfl rfl Tryz.func21 (by kernel_rfl) rfl #[.pointer (some ⟨p, 0, none⟩), .int .i64 2] rfl (by (try simp only [List.map_toArray, List.map_cons, List.map_nil]); first | done | rfl) ?_
                         have C23 := commit23 hS.out OKI.out 2 rfl MDL2.out; rw [hP.out, E2Z.out, ← HMZ.out] at C23; refine C23.mono ?_; clear C23; rintro e wP ⟨rfl, LZ, hs, hg⟩
                         have SZ := Aside0.mk hs
                         have EZ := Aside0.mk (hE.out.goes hg)
                         have PZ := Aside0.mk (hg.p.trans hP.out)
                         clear hs hg
                         refine ⟨_, rfl, ?_⟩)
                      | ((with_reducible refine gate_dst (N := 224) rfl ?_); refine goesL_ (some 224) rfl rfl Tryz.func10 (by kernel_rfl) rfl #[.int .i64 0] rfl (by (try simp only [List.map_toArray, List.map_cons, List.map_nil]); first | done | rfl) ?_
                         refine (num19 _ _).mono ?_; rintro e wN12 ⟨rfl, rfl⟩
                         refine ⟨_, rfl, ?_⟩)
                      | (go_at_call 12; have C12 := entries12 SZ.out OKZ.out OPZ.out; rw [PZ.out, ALZ.out] at C12; refine C12.mono ?_; clear C12; rintro e wY ⟨v, rfl, hr, hb⟩
                         obtain ⟨Ay, qy, hv⟩ := Kd.R_slice hr
                         subst hv
                         have RY := Aside0.mk hr
                         have SY := Aside0.mk (SZ.out.below hb)
                         have EY := Aside0.mk (EZ.out.beneath hb)
                         clear hr hb)
                      | ((with_reducible refine gate_dst (N := 237) rfl ?_); refine goesL_ (some 237) rfl rfl Tryz.func10 (by kernel_rfl) rfl #[.int .i64 0] rfl (by (try simp only [List.map_toArray, List.map_cons, List.map_nil]); first | done | rfl) ?_
                         refine (num19 _ _).mono ?_; rintro e wN13 ⟨rfl, rfl⟩
                         refine ⟨_, rfl, ?_⟩)
                      | ((with_reducible refine gate_dst (N := 242) rfl ?_); refine gate_guard rfl ?_; refine goesL_ (some 242) rfl rfl Tryz.func13 (by kernel_rfl) rfl #[.slice Ay ea.length qy, .slice Af ea.length qf] rfl (by (try simp only [List.map_toArray, List.map_cons, List.map_nil]); first | done | rfl) ?_
                         refine (tidemarklaw18_entries.calls k3 Ay qy ea Af qf ea true _ (Kd.R_reads' RY.out).2.2 (Kd.R_reads' RY.out).2.1 (Kd.R_reads' EY.out.rb).2.2 (Kd.R_reads' EY.out.rb).2.1 HK3.out).mono ?_; rintro e wU ⟨rfl, hd⟩
                         have SU := Aside0.mk (SY.out.below hd.below)
                         have EU := Aside0.mk (EY.out.beneath hd.below)
                         clear hd
                         refine ⟨_, rfl, ?_⟩)
                      | ((with_reducible refine gate_dst (N := 246) rfl ?_); refine gate_guard rfl ?_; refine goesL_ (some 246) rfl rfl Tryz.func15 (by kernel_rfl) rfl #[.pointer (some ⟨p, 0, none⟩)] rfl (by (try simp only [List.map_toArray, List.map_cons, List.map_nil]); first | done | rfl) ?_
                         have C15 := done15R SU.out (by rw [DNZ.out]; have := NDL.out; omega) (fun t ht => by have := RWZ.out t ht; omega); rw [PZ.out, DNZ.out] at C15; refine C15.mono ?_; clear C15; rintro e wV ⟨gz2, uz2, rfl, hdr, hb⟩
                         have EV := Aside0.mk (EU.out.beneath hb)
                         clear hdr hb
                         refine ⟨_, rfl, ?_⟩))
                    go_ret
                    exact ⟨rfl, EV.out.below⟩
                  · have hd3 : (i : Int) < (ks.length : Int) := by omega
                    have hd4 : ¬ ((i : Int) < 40) := by omega
                    clear hy hy2 hiN hnn hik
                    go_wp2_with (first
                      | ((with_reducible refine gate_dst (N := 223) rfl ?_); refine goesL_ (some 223) rfl rfl Tryz.func21 (by kernel_rfl) rfl #[.pointer (some ⟨p, 0, none⟩), .int .i64 2] rfl (by (try simp only [List.map_toArray, List.map_cons, List.map_nil]); first | done | rfl) ?_
                         have C23 := commit23 hS.out OKI.out 2 rfl MDL2.out; rw [hP.out, E2Z.out, ← HMZ.out] at C23; refine C23.mono ?_; clear C23; rintro e wP ⟨rfl, LZ, hs, hg⟩
                         have SZ := Aside0.mk hs
                         have EZ := Aside0.mk (hE.out.goes hg)
                         have PZ := Aside0.mk (hg.p.trans hP.out)
                         clear hs hg
                         refine ⟨_, rfl, ?_⟩)
                      | ((with_reducible refine gate_dst (N := 224) rfl ?_); refine goesL_ (some 224) rfl rfl Tryz.func10 (by kernel_rfl) rfl #[.int .i64 0] rfl (by (try simp only [List.map_toArray, List.map_cons, List.map_nil]); first | done | rfl) ?_
                         refine (num19 _ _).mono ?_; rintro e wN12 ⟨rfl, rfl⟩
                         refine ⟨_, rfl, ?_⟩)
                      | (go_at_call 12; have C12 := entries12 SZ.out OKZ.out OPZ.out; rw [PZ.out, ALZ.out] at C12; refine C12.mono ?_; clear C12; rintro e wY ⟨v, rfl, hr, hb⟩
                         obtain ⟨Ay, qy, hv⟩ := Kd.R_slice hr
                         subst hv
                         have RY := Aside0.mk hr
                         have SY := Aside0.mk (SZ.out.below hb)
                         have EY := Aside0.mk (EZ.out.beneath hb)
                         clear hr hb)
                      | ((with_reducible refine gate_dst (N := 237) rfl ?_); refine goesL_ (some 237) rfl rfl Tryz.func10 (by kernel_rfl) rfl #[.int .i64 0] rfl (by (try simp only [List.map_toArray, List.map_cons, List.map_nil]); first | done | rfl) ?_
                         refine (num19 _ _).mono ?_; rintro e wN13 ⟨rfl, rfl⟩
                         refine ⟨_, rfl, ?_⟩)
                      | ((with_reducible refine gate_dst (N := 242) rfl ?_); refine gate_guard rfl ?_; refine goesL_ (some 242) rfl rfl Tryz.func13 (by kernel_rfl) rfl #[.slice Ay ea.length qy, .slice Af ea.length qf] rfl (by (try simp only [List.map_toArray, List.map_cons, List.map_nil]); first | done | rfl) ?_
                         refine (tidemarklaw18_entries.calls k3 Ay qy ea Af qf ea true _ (Kd.R_reads' RY.out).2.2 (Kd.R_reads' RY.out).2.1 (Kd.R_reads' EY.out.rb).2.2 (Kd.R_reads' EY.out.rb).2.1 HK3.out).mono ?_; rintro e wU ⟨rfl, hd⟩
                         have SU := Aside0.mk (SY.out.below hd.below)
                         have EU := Aside0.mk (EY.out.beneath hd.below)
                         clear hd
                         refine ⟨_, rfl, ?_⟩)
                      | ((with_reducible refine gate_dst (N := 246) rfl ?_); refine gate_guard rfl ?_; refine goesL_ (some 246) rfl rfl Tryz.func15 (by kernel_rfl) rfl #[.pointer (some ⟨p, 0, none⟩)] rfl (by (try simp only [List.map_toArray, List.map_cons, List.map_nil]); first | done | rfl) ?_
                         have C15 := done15R SU.out (by rw [DNZ.out]; have := NDL.out; omega) (fun t ht => by have := RWZ.out t ht; omega); rw [PZ.out, DNZ.out] at C15; refine C15.mono ?_; clear C15; rintro e wV ⟨gz2, uz2, rfl, hdr, hb⟩
                         have EV := Aside0.mk (EU.out.beneath hb)
                         clear hdr hb
                         refine ⟨_, rfl, ?_⟩))
                    go_ret
                    exact ⟨rfl, EV.out.below⟩
            | true =>
              have hd1 : ¬ ((i : Int) < (ks.length : Int)) := by omega
              clear hz hiN hik
              go_upto_region 36 with fail
              clear hd1
              obtain ⟨mx, hmx⟩ : ∃ mx, mx = mi.commit 1 := ⟨_, rfl⟩
              rw [← hmx] at CM
              have HMX := Aside0.mk hmx
              obtain ⟨af, haf⟩ : ∃ af, af = foldT mr.all did := ⟨_, rfl⟩
              have BP0 := Aside0.mk (show Bp mr mx txn0 af (nd + 1) from by rw [haf]; exact CM.out)
              have HFO := Aside0.mk (show foldC [chsOf es, did] = af from by rw [foldC_two, FCH.out, haf])
              have AFL := Aside0.mk (show af.length ≤ 128 from by rw [← BP0.out.all]; exact all_len BP0.out.ok)
              obtain ⟨ea, hea⟩ : ∃ ea, ea = ents af := ⟨_, rfl⟩
              have HEA := Aside0.mk hea
              have EAL := Aside0.mk (show ea.length ≤ 128 from by rw [hea, ents_length]; exact AFL.out)
              obtain ⟨k3, hk3⟩ := entries_self ea (Nat.lt_of_le_of_lt EAL.out (by omega))
              have HK3 := Aside0.mk hk3
              have HWF2 := Aside0.mk (show ∀ t ∈ [chsOf es, did], ∀ x ∈ t, (Lit.int .i64 x.f0).wf = true from fun t ht x hx => by
                rw [List.mem_cons, List.mem_singleton] at ht
                rcases ht with rfl | rfl
                · exact CHW.out x hx
                · exact DKEY.out x hx)
              have HCN2 := Aside0.mk (show cntC [chsOf es, did] < 1000000000000000000 from by
                have h1 := cnt_le [chsOf es, did] (fun t ht => by
                  rw [List.mem_cons, List.mem_singleton] at ht
                  rcases ht with rfl | rfl
                  · exact CHL.out
                  · exact DLEN.out)
                have h2 : [chsOf es, did].length = 2 := rfl
                omega)
              clear hmx haf hea hk3 AB CM
              go_upto_region 43 with (first
                | ((with_reducible refine gate_dst (N := 179) rfl ?_); refine goesL_ (some 179) rfl rfl Tryz.func21 (by kernel_rfl) rfl #[.pointer (some ⟨p, 0, none⟩), .int .i64 1] rfl (by (try simp only [List.map_toArray, List.map_cons, List.map_nil]); first | done | rfl) ?_
                   have C23 := commit23 hS.out OKI.out 1 rfl MDL.out; rw [hP.out, E1Z.out, ← HMX.out] at C23; refine C23.mono ?_; clear C23; rintro e wP ⟨rfl, LP, hs, hg⟩
                   have SP1 := Aside0.mk hs
                   have EP := Aside0.mk (DIDZ.out.goes hg)
                   have PP := Aside0.mk (hg.p.trans hP.out)
                   clear hs hg
                   refine ⟨_, rfl, ?_⟩)
                | ((with_reducible refine gate_dst (N := 180) rfl ?_); refine goesL_ (some 180) rfl rfl Tryz.func10 (by kernel_rfl) rfl #[.int .i64 0] rfl (by (try simp only [List.map_toArray, List.map_cons, List.map_nil]); first | done | rfl) ?_
                   refine (num19 _ _).mono ?_; rintro e wN10 ⟨rfl, rfl⟩
                   refine ⟨_, rfl, ?_⟩)
                | ((with_reducible refine gate_dst (N := 183) rfl ?_); refine goesL_ (some 183) rfl rfl Tryz.func22 (by kernel_rfl) rfl #[.slice Ab es.length qb] rfl (by (try simp only [List.map_toArray, List.map_cons, List.map_nil]); first | done | rfl) ?_
                   refine (tidemarklaw18_listed.calls kl Ab qb es (chsOf es) _ (Kd.R_reads' EP.out.rb).2.2 (Kd.R_reads' EP.out.rb).2.1 HKL.out).mono ?_; rintro e wQ ⟨v, rfl, hr, hb⟩
                   obtain ⟨Al, ql, hv⟩ := Kd.R_slice hr
                   subst hv
                   have RLQ := Aside0.mk (Kd.R_lower hr EP.out.below.size)
                   have SQ := Aside0.mk (SP1.out.below hb)
                   have EQ := Aside0.mk (EP.out.beneath hb)
                   clear hr hb
                   refine ⟨_, rfl, ?_⟩)
                | (go_at_call 14; refine (Fold6g (two_rows RLQ.out EQ.out.rd) (Nat.le_refl _) (by show (2 : Nat) < 1000000000000000; decide) HCN2.out (by rw [HFO.out]; have := AFL.out; omega) HWF2.out).mono ?_; rintro e wR ⟨v, rfl, hr, hb⟩
                   rw [HFO.out, ← HEA.out] at hr
                   obtain ⟨Af, qf, hv⟩ := Kd.R_slice hr
                   subst hv
                   have BQR := Aside0.mk ((below_alloc (Below.refl wQ.heap.size wQ) _).trans (hb.mono (Nat.le_of_lt (by simp))))
                   have SR := Aside0.mk (SQ.out.below BQR.out)
                   have ER := Aside0.mk (EQ.out.take BQR.out (Kd.R_lower hr (Nat.le_of_lt (by simp))) SQ.out)
                   clear hr hb))
              clear SP1 EP SQ EQ RLQ BQR hS DIDZ HKL HCN2 HWF2 HFO CHL CHW FCH UPA
              go_wp2
              go_loopg [29] NN (fun kq v29 wr => ∃ (i : Nat) (mj : PSt) (s : Txn) (Lr : Lay), v29 = .int .i64 (i : Int) ∧ Aside0 (i + kq = NN) ∧ Aside0 (Bp mr mj s af (nd + 1)) ∧ Aside0 (St wr Lr none2 mj) ∧ Aside0 (Lr.p = p) ∧ Aside0 (Env w wr Lr dB #[.int .i64 c0, .int .i64 c1, .int .i64 65536, .int .i64 c3, .int .i64 8, .int .i64 c5] (.slice Af ea.length qf) ea (.slice none 0 0) []))
              case atStart => exact ⟨0, mx, txn0, LP, rfl, ⟨by omega⟩, BP0, SR, PP, ER⟩
              case round =>
                obtain ⟨i, mj, s, Lr, rfl, hik, hB, hS, hP, hE⟩ := hrel
                clear SR ER BP0 PP
                obtain ⟨Ws, hWs, hS⟩ : ∃ W, W = _ ∧ Aside0 (St W Lr none2 mj) := ⟨_, rfl, hS⟩
                subst hWs
                cases gk with
                | succ kr =>
                  have hik2 := hik.out
                  have hnn := HNN.out
                  have hi0 : i < ks.length := by omega
                  have hi1 : (i : Int) < (ks.length : Int) := by omega
                  have hi4 : (i : Int) < 40 := by omega
                  have hi2 : (0 : Int) ≤ (i : Int) := by omega
                  have hw2 : IntKind.i64.wrap ((i : Int) + 1) = ((i + 1 : Nat) : Int) := wrp (by omega) (by omega)
                  obtain ⟨ad, e0, y0⟩ := Kd.at_int (Kd.C_below HK.out hE.out.below) (i : Int) hi2 hi1
                  subst e0
                  have y1 : Ws.cell? ⟨dB, 5, none⟩ = some (.int .i64 c5) := blk_cell hE.out.cfg 5
                  rw [Int.toNat_natCast] at y0
                  have hq5 := HQ.out.2.2.2
                  obtain ⟨r, hr, hr0, hr1⟩ := rest_some (rd ks (i : Int)) c5 (by omega)
                  obtain ⟨x, hx⟩ : ∃ x, x = rd ks (i : Int) := ⟨_, rfl⟩
                  rw [← hx] at y0 hr
                  have HR := Aside0.mk hr
                  have hr2 : r < mr.keys := by rw [HRK.out]; exact hr1
                  have HWR := Aside0.mk (show (Lit.int .i64 r).wf = true from wf64 (by omega))
                  have ASK := Aside0.mk (hB.out.asked hr0 hr2)
                  obtain ⟨⟨s2, hB2⟩, hgb, hgv⟩ := hB.out.get hr0 hr2
                  obtain ⟨v0, hv0⟩ : ∃ v0, v0 = mj.getV 2 r := ⟨_, rfl⟩
                  obtain ⟨b0, hb0⟩ : ∃ b0, b0 = mj.getB 2 r := ⟨_, rfl⟩
                  rw [← hv0] at hgv
                  rw [← hb0] at hgb
                  obtain ⟨kh, hkh⟩ := has_some af (by have := AFL.out; omega) r v0
                  have hres : decide (look af r = some v0) = b0 := by
                    rw [hgb]
                    cases hlk : look af r with
                    | none => simp
                    | some u => rw [hlk] at hgv; rw [hgv]; simp
                  rw [hres, ← HEA.out] at hkh
                  have HKH := Aside0.mk hkh
                  obtain ⟨m1, hm1⟩ : ∃ m1, m1 = mj.get 2 r := ⟨_, rfl⟩
                  rw [← hm1] at hB2
                  have HB2 := Aside0.mk hB2
                  have OKI := Aside0.mk hB.out.ok
                  have HV0 := Aside0.mk hv0
                  have HB0 := Aside0.mk hb0
                  have HM1 := Aside0.mk hm1
                  have hne : (b0 != b0) = false := by simp
                  have EW := Aside0.mk (hE.out.beneath (below_drew (Below.refl _ _)))
                  have SW := Aside0.mk (hS.out.below (below_drew (Below.refl _ _)))
                  have Y0 := Aside0.mk y0
                  have Y1 := Aside0.mk y1
                  clear hr hr0 hr1 hr2 hq5 hx hB2 hgb hgv hkh hres hv0 hb0 hm1 hik2 hnn hE hS hi0 hB
                  go_upto_region 46 with fail
                  refine wp_region_held_drew (S := fun w' => w'.cell? (ad.add i) = some (.int .i64 x) ∧ w'.cell? ⟨dB, 5, none⟩ = some (.int .i64 c5)) (by kernel_rfl) ?_ (fun hHeld => ?_)
                  · go_keep
                  refine wpAnyH_take (i := 0) (oi := ?oi17) (v := ?v17) ?hi17 (by kernel_rfl) (by kernel_rfl) (by kernel_rfl) ?hQ17 ?hy17 (by assumption) ?more17 
                  case hi17 => (simp only [List.getElem?_toArray, List.getElem?_cons_zero, List.getElem?_cons_succ]; rfl)
                  case hQ17 => exact fun _ _ _ h => h
                  case hy17 => (refine Or.inl ⟨by rfl, ?_⟩; intro w hSw; (try dsimp only at hSw); go_simp; (try with_reducible rfl))
                  try simp only [Act.put, List.setIfInBounds_toArray, List.set_cons_zero, List.set_cons_succ]
                  refine wpAnyH_take (i := 1) (oi := ?oi18) (v := ?v18) ?hi18 (by kernel_rfl) (by kernel_rfl) (by kernel_rfl) ?hQ18 ?hy18 (by assumption) ?more18 
                  case hi18 => (simp only [List.getElem?_toArray, List.getElem?_cons_zero, List.getElem?_cons_succ]; rfl)
                  case hQ18 => exact fun _ _ _ h => h
                  case hy18 => (refine Or.inl ⟨by rfl, ?_⟩; intro w hSw; (try dsimp only at hSw); go_simp; (try with_reducible rfl))
                  try simp only [Act.put, List.setIfInBounds_toArray, List.set_cons_zero, List.set_cons_succ]
                  refine wpAnyH_take (i := 2) (oi := ?oi19) (v := ?v19) ?hi19 (by kernel_rfl) (by kernel_rfl) (by kernel_rfl) ?hQ19 ?hy19 (by assumption) ?more19 
                  case hi19 => (simp only [List.getElem?_toArray, List.getElem?_cons_zero, List.getElem?_cons_succ]; rfl)
                  case hQ19 => exact fun _ _ _ h => h
                  case hy19 => (refine Or.inl ⟨by rfl, ?_⟩; intro w hSw; (try dsimp only at hSw); go_simp; (try with_reducible rfl))
                  try simp only [Act.put, List.setIfInBounds_toArray, List.set_cons_zero, List.set_cons_succ]
                  refine wpAnyH_take (i := 3) (oi := ?oi20) (v := ?v20) ?hi20 (by kernel_rfl) (by kernel_rfl) (by kernel_rfl) ?hQ20 ?hy20 (by assumption) ?more20 
                  case hi20 => (simp only [List.getElem?_toArray, List.getElem?_cons_zero, List.getElem?_cons_succ]; rfl)
                  case hQ20 => exact fun _ _ _ h => h
                  case hy20 => (refine Or.inl ⟨by rfl, ?_⟩; intro w hSw; (try dsimp only at hSw); go_simp; (try with_reducible rfl))
                  try simp only [Act.put, List.setIfInBounds_toArray, List.set_cons_zero, List.set_cons_succ]
                  refine wpAnyH_take (i := 4) (oi := ?oi21) (v := ?v21) ?hi21 (by kernel_rfl) (by kernel_rfl) (by kernel_rfl) ?hQ21 ?hy21 (by assumption) ?more21 
                  case hi21 => (simp only [List.getElem?_toArray, List.getElem?_cons_zero, List.getElem?_cons_succ]; rfl)
                  case hQ21 => exact fun _ _ _ h => h
                  case hy21 => (refine Or.inl ⟨by rfl, ?_⟩; intro w hSw; (try dsimp only at hSw); go_simp; (try with_reducible rfl))
                  try simp only [Act.put, List.setIfInBounds_toArray, List.set_cons_zero, List.set_cons_succ]
                  refine wpAnyH_take (i := 5) (oi := ?oi22) (v := ?v22) ?hi22 (by kernel_rfl) (by kernel_rfl) (by kernel_rfl) ?hQ22 ?hy22 (by assumption) ?more22 
                  case hi22 => (simp only [List.getElem?_toArray, List.getElem?_cons_zero, List.getElem?_cons_succ]; rfl)
                  case hQ22 => exact fun _ _ _ h => h
                  case hy22 => (refine Or.inl ⟨by rfl, ?_⟩; intro w hSw; (try dsimp only at hSw); go_simp; (try with_reducible rfl))
                  try simp only [Act.put, List.setIfInBounds_toArray, List.set_cons_zero, List.set_cons_succ]
                  refine wpAnyH_ready (rs := [6]) (by kernel_rfl) (by simp) ?_
                  refine AllReadyH.cons (o := ?oi23) ?hi23 (fun K hK => ?more23) AllReadyH.nil
                  case hi23 => (simp only [List.getElem?_toArray, List.getElem?_cons_zero, List.getElem?_cons_succ]; rfl)
                  go_simp
                  (go_at_call 18; refine (tidemarklaw18_rest.calls x c5 r _ HR.out).mono ?_; rintro e w9 ⟨rfl, hd⟩
                   have S9 := Aside0.mk (SW.out.below hd.below)
                   have E9 := Aside0.mk (EW.out.beneath hd.below)
                   have n1 : w9.cell? (ad.add i) = some (.int .i64 x) := pw_cell_below hd.below Y0.out
                   have n2 : w9.cell? ⟨dB, 5, none⟩ = some (.int .i64 c5) := pw_cell_below hd.below Y1.out
                   clear hd)
                  refine hK.out _ _ ?_ (fun hHeld => ?_)
                  · go_keep
                  clear hK K
                  try simp only [Act.put, List.setIfInBounds_toArray, List.set_cons_zero, List.set_cons_succ]
                  refine wpAnyH_take (i := 7) (oi := ?oi24) (v := ?v24) ?hi24 (by kernel_rfl) (by kernel_rfl) (by kernel_rfl) ?hQ24 ?hy24 (by assumption) ?more24 
                  case hi24 => (simp only [List.getElem?_toArray, List.getElem?_cons_zero, List.getElem?_cons_succ]; rfl)
                  case hQ24 => exact fun _ _ _ h => h
                  case hy24 => (refine Or.inl ⟨by rfl, ?_⟩; intro w hSw; (try dsimp only at hSw); go_simp; (try with_reducible rfl))
                  try simp only [Act.put, List.setIfInBounds_toArray, List.set_cons_zero, List.set_cons_succ]
                  refine wpAnyH_done (by kernel_rfl) ?_ _
                  go_wp2_with (first
                    | ((with_reducible refine gate_dst (N := 207) rfl ?_); refine goesL_ (some 207) rfl rfl Tryz.func19 (by kernel_rfl) rfl #[.pointer (some ⟨p, 0, none⟩), .int .i64 2, .int .i64 r] rfl (by (try simp only [List.map_toArray, List.map_cons, List.map_nil]); first | done | rfl) ?_
                       have C22 := get_ok S9.out OKI.out 2 r rfl HWR.out ASK.out; rw [hP.out, ← HV0.out, ← HB0.out] at C22; refine C22.mono ?_; clear C22; rintro e wG ⟨rfl, LG, hs, hg⟩
                       have SG := Aside0.mk (show St wG LG none2 m1 from by rw [HM1.out]; exact hs)
                       have EG := Aside0.mk (E9.out.goes hg)
                       have PG := Aside0.mk (hg.p.trans hP.out)
                       clear hs hg
                       refine ⟨_, rfl, ?_⟩)
                    | ((with_reducible refine gate_dst (N := 212) rfl ?_); refine goesL_ (some 212) rfl rfl Tryz.func10 (by kernel_rfl) rfl #[.int .i64 0] rfl (by (try simp only [List.map_toArray, List.map_cons, List.map_nil]); first | done | rfl) ?_
                       refine (num19 _ _).mono ?_; rintro e wN11 ⟨rfl, rfl⟩
                       refine ⟨_, rfl, ?_⟩)
                    | ((with_reducible refine gate_dst (N := 219) rfl ?_); refine gate_guard rfl ?_; refine goesL_ (some 219) rfl rfl Tryz.func23 (by kernel_rfl) rfl #[.slice Af ea.length qf, .int .i64 r, .int .u64 v0] rfl (by (try simp only [List.map_toArray, List.map_cons, List.map_nil]); first | done | rfl) ?_
                       refine (tidemarklaw18_has.calls kh Af qf ea r v0 b0 _ (Kd.R_reads' EG.out.rb).2.2 (Kd.R_reads' EG.out.rb).2.1 HKH.out).mono ?_; rintro e wH ⟨rfl, hd⟩
                       have SH := Aside0.mk (SG.out.below hd.below)
                       have EH := Aside0.mk (EG.out.beneath hd.below)
                       clear hd
                       refine ⟨_, rfl, ?_⟩))
                  go_roundg kr
                  case measure => omega
                  case rel => exact ⟨i + 1, m1, s2, LG, rfl, ⟨by have := hik.out; omega⟩, HB2, SH, PG, EH⟩
                | zero =>
                  have hiN : i = NN := hik.out
                  have hnn := HNN.out
                  obtain ⟨e2z, okz, opz, alz, dnz, rwz⟩ := hB.out.commit
                  obtain ⟨mz, hmz⟩ : ∃ mz, mz = mj.commit 2 := ⟨_, rfl⟩
                  rw [← hmz] at okz opz alz dnz rwz
                  have OKI := Aside0.mk hB.out.ok
                  have E2Z := Aside0.mk e2z
                  have OKZ := Aside0.mk okz
                  have OPZ := Aside0.mk opz
                  have ALZ := Aside0.mk (show ents mz.all = ea from by rw [alz, HEA.out])
                  have DNZ := Aside0.mk (show mz.done.length = nd + 2 from dnz)
                  have RWZ := Aside0.mk rwz
                  have HMZ := Aside0.mk hmz
                  have MDL2 := Aside0.mk (show mj.done.length < 5000000000000 from by rw [hB.out.done]; have := NDL.out; omega)
                  clear e2z okz opz alz dnz rwz hmz hB
                  rcases (show i = ks.length ∨ (i = 40 ∧ 40 < ks.length) from by omega) with hy | ⟨hy, hy2⟩
                  · have hd3 : ¬ ((i : Int) < (ks.length : Int)) := by omega
                    clear hy hiN hnn hik
                    go_wp2_with (first
                      | ((with_reducible refine gate_dst (N := 223) rfl ?_); refine goesL_ (some 223) rfl rfl Tryz.func21 (by kernel_rfl) rfl #[.pointer (some ⟨p, 0, none⟩), .int .i64 2] rfl (by (try simp only [List.map_toArray, List.map_cons, List.map_nil]); first | done | rfl) ?_
                         have C23 := commit23 hS.out OKI.out 2 rfl MDL2.out; rw [hP.out, E2Z.out, ← HMZ.out] at C23; refine C23.mono ?_; clear C23; rintro e wP ⟨rfl, LZ, hs, hg⟩
                         have SZ := Aside0.mk hs
                         have EZ := Aside0.mk (hE.out.goes hg)
                         have PZ := Aside0.mk (hg.p.trans hP.out)
                         clear hs hg
                         refine ⟨_, rfl, ?_⟩)
                      | ((with_reducible refine gate_dst (N := 224) rfl ?_); refine goesL_ (some 224) rfl rfl Tryz.func10 (by kernel_rfl) rfl #[.int .i64 0] rfl (by (try simp only [List.map_toArray, List.map_cons, List.map_nil]); first | done | rfl) ?_
                         refine (num19 _ _).mono ?_; rintro e wN12 ⟨rfl, rfl⟩
                         refine ⟨_, rfl, ?_⟩)
                      | (go_at_call 12; have C12 := entries12 SZ.out OKZ.out OPZ.out; rw [PZ.out, ALZ.out] at C12; refine C12.mono ?_; clear C12; rintro e wY ⟨v, rfl, hr, hb⟩
                         obtain ⟨Ay, qy, hv⟩ := Kd.R_slice hr
                         subst hv
                         have RY := Aside0.mk hr
                         have SY := Aside0.mk (SZ.out.below hb)
                         have EY := Aside0.mk (EZ.out.beneath hb)
                         clear hr hb)
                      | ((with_reducible refine gate_dst (N := 237) rfl ?_); refine goesL_ (some 237) rfl rfl Tryz.func10 (by kernel_rfl) rfl #[.int .i64 0] rfl (by (try simp only [List.map_toArray, List.map_cons, List.map_nil]); first | done | rfl) ?_
                         refine (num19 _ _).mono ?_; rintro e wN13 ⟨rfl, rfl⟩
                         refine ⟨_, rfl, ?_⟩)
                      | ((with_reducible refine gate_dst (N := 242) rfl ?_); refine gate_guard rfl ?_; refine goesL_ (some 242) rfl rfl Tryz.func13 (by kernel_rfl) rfl #[.slice Ay ea.length qy, .slice Af ea.length qf] rfl (by (try simp only [List.map_toArray, List.map_cons, List.map_nil]); first | done | rfl) ?_
                         refine (tidemarklaw18_entries.calls k3 Ay qy ea Af qf ea true _ (Kd.R_reads' RY.out).2.2 (Kd.R_reads' RY.out).2.1 (Kd.R_reads' EY.out.rb).2.2 (Kd.R_reads' EY.out.rb).2.1 HK3.out).mono ?_; rintro e wU ⟨rfl, hd⟩
                         have SU := Aside0.mk (SY.out.below hd.below)
                         have EU := Aside0.mk (EY.out.beneath hd.below)
                         clear hd
                         refine ⟨_, rfl, ?_⟩)
                      | ((with_reducible refine gate_dst (N := 246) rfl ?_); refine gate_guard rfl ?_; refine goesL_ (some 246) rfl rfl Tryz.func15 (by kernel_rfl) rfl #[.pointer (some ⟨p, 0, none⟩)] rfl (by (try simp only [List.map_toArray, List.map_cons, List.map_nil]); first | done | rfl) ?_
                         have C15 := done15R SU.out (by rw [DNZ.out]; have := NDL.out; omega) (fun t ht => by have := RWZ.out t ht; omega); rw [PZ.out, DNZ.out] at C15; refine C15.mono ?_; clear C15; rintro e wV ⟨gz2, uz2, rfl, hdr, hb⟩
                         have EV := Aside0.mk (EU.out.beneath hb)
                         clear hdr hb
                         refine ⟨_, rfl, ?_⟩))
                    go_ret
                    exact ⟨rfl, EV.out.below⟩
                  · have hd3 : (i : Int) < (ks.length : Int) := by omega
                    have hd4 : ¬ ((i : Int) < 40) := by omega
                    clear hy hy2 hiN hnn hik
                    go_wp2_with (first
                      | ((with_reducible refine gate_dst (N := 223) rfl ?_); refine goesL_ (some 223) rfl rfl Tryz.func21 (by kernel_rfl) rfl #[.pointer (some ⟨p, 0, none⟩), .int .i64 2] rfl (by (try simp only [List.map_toArray, List.map_cons, List.map_nil]); first | done | rfl) ?_
                         have C23 := commit23 hS.out OKI.out 2 rfl MDL2.out; rw [hP.out, E2Z.out, ← HMZ.out] at C23; refine C23.mono ?_; clear C23; rintro e wP ⟨rfl, LZ, hs, hg⟩
                         have SZ := Aside0.mk hs
                         have EZ := Aside0.mk (hE.out.goes hg)
                         have PZ := Aside0.mk (hg.p.trans hP.out)
                         clear hs hg
                         refine ⟨_, rfl, ?_⟩)
                      | ((with_reducible refine gate_dst (N := 224) rfl ?_); refine goesL_ (some 224) rfl rfl Tryz.func10 (by kernel_rfl) rfl #[.int .i64 0] rfl (by (try simp only [List.map_toArray, List.map_cons, List.map_nil]); first | done | rfl) ?_
                         refine (num19 _ _).mono ?_; rintro e wN12 ⟨rfl, rfl⟩
                         refine ⟨_, rfl, ?_⟩)
                      | (go_at_call 12; have C12 := entries12 SZ.out OKZ.out OPZ.out; rw [PZ.out, ALZ.out] at C12; refine C12.mono ?_; clear C12; rintro e wY ⟨v, rfl, hr, hb⟩
                         obtain ⟨Ay, qy, hv⟩ := Kd.R_slice hr
                         subst hv
                         have RY := Aside0.mk hr
                         have SY := Aside0.mk (SZ.out.below hb)
                         have EY := Aside0.mk (EZ.out.beneath hb)
                         clear hr hb)
                      | ((with_reducible refine gate_dst (N := 237) rfl ?_); refine goesL_ (some 237) rfl rfl Tryz.func10 (by kernel_rfl) rfl #[.int .i64 0] rfl (by (try simp only [List.map_toArray, List.map_cons, List.map_nil]); first | done | rfl) ?_
                         refine (num19 _ _).mono ?_; rintro e wN13 ⟨rfl, rfl⟩
                         refine ⟨_, rfl, ?_⟩)
                      | ((with_reducible refine gate_dst (N := 242) rfl ?_); refine gate_guard rfl ?_; refine goesL_ (some 242) rfl rfl Tryz.func13 (by kernel_rfl) rfl #[.slice Ay ea.length qy, .slice Af ea.length qf] rfl (by (try simp only [List.map_toArray, List.map_cons, List.map_nil]); first | done | rfl) ?_
                         refine (tidemarklaw18_entries.calls k3 Ay qy ea Af qf ea true _ (Kd.R_reads' RY.out).2.2 (Kd.R_reads' RY.out).2.1 (Kd.R_reads' EY.out.rb).2.2 (Kd.R_reads' EY.out.rb).2.1 HK3.out).mono ?_; rintro e wU ⟨rfl, hd⟩
                         have SU := Aside0.mk (SY.out.below hd.below)
                         have EU := Aside0.mk (EY.out.beneath hd.below)
                         clear hd
                         refine ⟨_, rfl, ?_⟩)
                      | ((with_reducible refine gate_dst (N := 246) rfl ?_); refine gate_guard rfl ?_; refine goesL_ (some 246) rfl rfl Tryz.func15 (by kernel_rfl) rfl #[.pointer (some ⟨p, 0, none⟩)] rfl (by (try simp only [List.map_toArray, List.map_cons, List.map_nil]); first | done | rfl) ?_
                         have C15 := done15R SU.out (by rw [DNZ.out]; have := NDL.out; omega) (fun t ht => by have := RWZ.out t ht; omega); rw [PZ.out, DNZ.out] at C15; refine C15.mono ?_; clear C15; rintro e wV ⟨gz2, uz2, rfl, hdr, hb⟩
                         have EV := Aside0.mk (EU.out.beneath hb)
                         clear hdr hb
                         refine ⟨_, rfl, ?_⟩))
                    go_ret
                    exact ⟨rfl, EV.out.below⟩
          · cases bb with
            | false =>
              have hd1 : (i : Int) < (ks.length : Int) := by omega
              have hd2 : ¬ ((i : Int) < 40) := by omega
              clear hz hiN hik hz2
              go_upto_region 36 with fail
              clear hd1 hd2
              obtain ⟨mx, hmx⟩ : ∃ mx, mx = mi.abort 1 := ⟨_, rfl⟩
              rw [← hmx] at AB
              have HMX := Aside0.mk hmx
              obtain ⟨af, haf⟩ : ∃ af, af = mr.all := ⟨_, rfl⟩
              have BP0 := Aside0.mk (show Bp mr mx txn0 af (nd) from by rw [haf]; exact AB.out)
              have HFO := Aside0.mk (show foldC [chsOf es, []] = af from by rw [foldC_two, FCH.out, haf]; rfl)
              have AFL := Aside0.mk (show af.length ≤ 128 from by rw [← BP0.out.all]; exact all_len BP0.out.ok)
              obtain ⟨ea, hea⟩ : ∃ ea, ea = ents af := ⟨_, rfl⟩
              have HEA := Aside0.mk hea
              have EAL := Aside0.mk (show ea.length ≤ 128 from by rw [hea, ents_length]; exact AFL.out)
              obtain ⟨k3, hk3⟩ := entries_self ea (Nat.lt_of_le_of_lt EAL.out (by omega))
              have HK3 := Aside0.mk hk3
              have HWF2 := Aside0.mk (show ∀ t ∈ [chsOf es, []], ∀ x ∈ t, (Lit.int .i64 x.f0).wf = true from fun t ht x hx => by
                rw [List.mem_cons, List.mem_singleton] at ht
                rcases ht with rfl | rfl
                · exact CHW.out x hx
                · exact nomatch hx)
              have HCN2 := Aside0.mk (show cntC [chsOf es, []] < 1000000000000000000 from by
                have h1 := cnt_le [chsOf es, []] (fun t ht => by
                  rw [List.mem_cons, List.mem_singleton] at ht
                  rcases ht with rfl | rfl
                  · exact CHL.out
                  · exact Nat.zero_le _)
                have h2 : [chsOf es, []].length = 2 := rfl
                omega)
              clear hmx haf hea hk3 AB CM
              go_upto_region 43 with (first
                | ((with_reducible refine gate_dst (N := 175) rfl ?_); refine goesL_ (some 175) rfl rfl Tryz.func11 (by kernel_rfl) rfl #[.pointer (some ⟨p, 0, none⟩), .int .i64 1] rfl (by (try simp only [List.map_toArray, List.map_cons, List.map_nil]); first | done | rfl) ?_
                   have C28 := abort28 hS.out OKI.out 1 rfl; rw [hP.out, E1Z.out, ← HMX.out] at C28; refine C28.mono ?_; clear C28; rintro e wP ⟨rfl, LP, hs, hg⟩
                   have SP1 := Aside0.mk hs
                   have EP := Aside0.mk (DIDZ.out.goes hg).nil_
                   have PP := Aside0.mk (hg.p.trans hP.out)
                   clear hs hg
                   refine ⟨_, rfl, ?_⟩)
                | ((with_reducible refine gate_dst (N := 176) rfl ?_); refine goesL_ (some 176) rfl rfl Tryz.func10 (by kernel_rfl) rfl #[.int .i64 0] rfl (by (try simp only [List.map_toArray, List.map_cons, List.map_nil]); first | done | rfl) ?_
                   refine (num19 _ _).mono ?_; rintro e wN10 ⟨rfl, rfl⟩
                   refine ⟨_, rfl, ?_⟩)
                | ((with_reducible refine gate_dst (N := 183) rfl ?_); refine goesL_ (some 183) rfl rfl Tryz.func22 (by kernel_rfl) rfl #[.slice Ab es.length qb] rfl (by (try simp only [List.map_toArray, List.map_cons, List.map_nil]); first | done | rfl) ?_
                   refine (tidemarklaw18_listed.calls kl Ab qb es (chsOf es) _ (Kd.R_reads' EP.out.rb).2.2 (Kd.R_reads' EP.out.rb).2.1 HKL.out).mono ?_; rintro e wQ ⟨v, rfl, hr, hb⟩
                   obtain ⟨Al, ql, hv⟩ := Kd.R_slice hr
                   subst hv
                   have RLQ := Aside0.mk (Kd.R_lower hr EP.out.below.size)
                   have SQ := Aside0.mk (SP1.out.below hb)
                   have EQ := Aside0.mk (EP.out.beneath hb)
                   clear hr hb
                   refine ⟨_, rfl, ?_⟩)
                | (go_at_call 14; refine (Fold6g (two_rows RLQ.out EQ.out.rd) (Nat.le_refl _) (by show (2 : Nat) < 1000000000000000; decide) HCN2.out (by rw [HFO.out]; have := AFL.out; omega) HWF2.out).mono ?_; rintro e wR ⟨v, rfl, hr, hb⟩
                   rw [HFO.out, ← HEA.out] at hr
                   obtain ⟨Af, qf, hv⟩ := Kd.R_slice hr
                   subst hv
                   have BQR := Aside0.mk ((below_alloc (Below.refl wQ.heap.size wQ) _).trans (hb.mono (Nat.le_of_lt (by simp))))
                   have SR := Aside0.mk (SQ.out.below BQR.out)
                   have ER := Aside0.mk (EQ.out.take BQR.out (Kd.R_lower hr (Nat.le_of_lt (by simp))) SQ.out)
                   clear hr hb))
              clear SP1 EP SQ EQ RLQ BQR hS DIDZ HKL HCN2 HWF2 HFO CHL CHW FCH UPA
              go_wp2
              go_loopg [29] NN (fun kq v29 wr => ∃ (i : Nat) (mj : PSt) (s : Txn) (Lr : Lay), v29 = .int .i64 (i : Int) ∧ Aside0 (i + kq = NN) ∧ Aside0 (Bp mr mj s af (nd)) ∧ Aside0 (St wr Lr none2 mj) ∧ Aside0 (Lr.p = p) ∧ Aside0 (Env w wr Lr dB #[.int .i64 c0, .int .i64 c1, .int .i64 65536, .int .i64 c3, .int .i64 8, .int .i64 c5] (.slice Af ea.length qf) ea (.slice none 0 0) []))
              case atStart => exact ⟨0, mx, txn0, LP, rfl, ⟨by omega⟩, BP0, SR, PP, ER⟩
              case round =>
                obtain ⟨i, mj, s, Lr, rfl, hik, hB, hS, hP, hE⟩ := hrel
                clear SR ER BP0 PP
                obtain ⟨Ws, hWs, hS⟩ : ∃ W, W = _ ∧ Aside0 (St W Lr none2 mj) := ⟨_, rfl, hS⟩
                subst hWs
                cases gk with
                | succ kr =>
                  have hik2 := hik.out
                  have hnn := HNN.out
                  have hi0 : i < ks.length := by omega
                  have hi1 : (i : Int) < (ks.length : Int) := by omega
                  have hi4 : (i : Int) < 40 := by omega
                  have hi2 : (0 : Int) ≤ (i : Int) := by omega
                  have hw2 : IntKind.i64.wrap ((i : Int) + 1) = ((i + 1 : Nat) : Int) := wrp (by omega) (by omega)
                  obtain ⟨ad, e0, y0⟩ := Kd.at_int (Kd.C_below HK.out hE.out.below) (i : Int) hi2 hi1
                  subst e0
                  have y1 : Ws.cell? ⟨dB, 5, none⟩ = some (.int .i64 c5) := blk_cell hE.out.cfg 5
                  rw [Int.toNat_natCast] at y0
                  have hq5 := HQ.out.2.2.2
                  obtain ⟨r, hr, hr0, hr1⟩ := rest_some (rd ks (i : Int)) c5 (by omega)
                  obtain ⟨x, hx⟩ : ∃ x, x = rd ks (i : Int) := ⟨_, rfl⟩
                  rw [← hx] at y0 hr
                  have HR := Aside0.mk hr
                  have hr2 : r < mr.keys := by rw [HRK.out]; exact hr1
                  have HWR := Aside0.mk (show (Lit.int .i64 r).wf = true from wf64 (by omega))
                  have ASK := Aside0.mk (hB.out.asked hr0 hr2)
                  obtain ⟨⟨s2, hB2⟩, hgb, hgv⟩ := hB.out.get hr0 hr2
                  obtain ⟨v0, hv0⟩ : ∃ v0, v0 = mj.getV 2 r := ⟨_, rfl⟩
                  obtain ⟨b0, hb0⟩ : ∃ b0, b0 = mj.getB 2 r := ⟨_, rfl⟩
                  rw [← hv0] at hgv
                  rw [← hb0] at hgb
                  obtain ⟨kh, hkh⟩ := has_some af (by have := AFL.out; omega) r v0
                  have hres : decide (look af r = some v0) = b0 := by
                    rw [hgb]
                    cases hlk : look af r with
                    | none => simp
                    | some u => rw [hlk] at hgv; rw [hgv]; simp
                  rw [hres, ← HEA.out] at hkh
                  have HKH := Aside0.mk hkh
                  obtain ⟨m1, hm1⟩ : ∃ m1, m1 = mj.get 2 r := ⟨_, rfl⟩
                  rw [← hm1] at hB2
                  have HB2 := Aside0.mk hB2
                  have OKI := Aside0.mk hB.out.ok
                  have HV0 := Aside0.mk hv0
                  have HB0 := Aside0.mk hb0
                  have HM1 := Aside0.mk hm1
                  have hne : (b0 != b0) = false := by simp
                  have EW := Aside0.mk (hE.out.beneath (below_drew (Below.refl _ _)))
                  have SW := Aside0.mk (hS.out.below (below_drew (Below.refl _ _)))
                  have Y0 := Aside0.mk y0
                  have Y1 := Aside0.mk y1
                  clear hr hr0 hr1 hr2 hq5 hx hB2 hgb hgv hkh hres hv0 hb0 hm1 hik2 hnn hE hS hi0 hB
                  go_upto_region 46 with fail
                  refine wp_region_held_drew (S := fun w' => w'.cell? (ad.add i) = some (.int .i64 x) ∧ w'.cell? ⟨dB, 5, none⟩ = some (.int .i64 c5)) (by kernel_rfl) ?_ (fun hHeld => ?_)
                  · go_keep
                  refine wpAnyH_take (i := 0) (oi := ?oi25) (v := ?v25) ?hi25 (by kernel_rfl) (by kernel_rfl) (by kernel_rfl) ?hQ25 ?hy25 (by assumption) ?more25 
                  case hi25 => (simp only [List.getElem?_toArray, List.getElem?_cons_zero, List.getElem?_cons_succ]; rfl)
                  case hQ25 => exact fun _ _ _ h => h
                  case hy25 => (refine Or.inl ⟨by rfl, ?_⟩; intro w hSw; (try dsimp only at hSw); go_simp; (try with_reducible rfl))
                  try simp only [Act.put, List.setIfInBounds_toArray, List.set_cons_zero, List.set_cons_succ]
                  refine wpAnyH_take (i := 1) (oi := ?oi26) (v := ?v26) ?hi26 (by kernel_rfl) (by kernel_rfl) (by kernel_rfl) ?hQ26 ?hy26 (by assumption) ?more26 
                  case hi26 => (simp only [List.getElem?_toArray, List.getElem?_cons_zero, List.getElem?_cons_succ]; rfl)
                  case hQ26 => exact fun _ _ _ h => h
                  case hy26 => (refine Or.inl ⟨by rfl, ?_⟩; intro w hSw; (try dsimp only at hSw); go_simp; (try with_reducible rfl))
                  try simp only [Act.put, List.setIfInBounds_toArray, List.set_cons_zero, List.set_cons_succ]
                  refine wpAnyH_take (i := 2) (oi := ?oi27) (v := ?v27) ?hi27 (by kernel_rfl) (by kernel_rfl) (by kernel_rfl) ?hQ27 ?hy27 (by assumption) ?more27 
                  case hi27 => (simp only [List.getElem?_toArray, List.getElem?_cons_zero, List.getElem?_cons_succ]; rfl)
                  case hQ27 => exact fun _ _ _ h => h
                  case hy27 => (refine Or.inl ⟨by rfl, ?_⟩; intro w hSw; (try dsimp only at hSw); go_simp; (try with_reducible rfl))
                  try simp only [Act.put, List.setIfInBounds_toArray, List.set_cons_zero, List.set_cons_succ]
                  refine wpAnyH_take (i := 3) (oi := ?oi28) (v := ?v28) ?hi28 (by kernel_rfl) (by kernel_rfl) (by kernel_rfl) ?hQ28 ?hy28 (by assumption) ?more28 
                  case hi28 => (simp only [List.getElem?_toArray, List.getElem?_cons_zero, List.getElem?_cons_succ]; rfl)
                  case hQ28 => exact fun _ _ _ h => h
                  case hy28 => (refine Or.inl ⟨by rfl, ?_⟩; intro w hSw; (try dsimp only at hSw); go_simp; (try with_reducible rfl))
                  try simp only [Act.put, List.setIfInBounds_toArray, List.set_cons_zero, List.set_cons_succ]
                  refine wpAnyH_take (i := 4) (oi := ?oi29) (v := ?v29) ?hi29 (by kernel_rfl) (by kernel_rfl) (by kernel_rfl) ?hQ29 ?hy29 (by assumption) ?more29 
                  case hi29 => (simp only [List.getElem?_toArray, List.getElem?_cons_zero, List.getElem?_cons_succ]; rfl)
                  case hQ29 => exact fun _ _ _ h => h
                  case hy29 => (refine Or.inl ⟨by rfl, ?_⟩; intro w hSw; (try dsimp only at hSw); go_simp; (try with_reducible rfl))
                  try simp only [Act.put, List.setIfInBounds_toArray, List.set_cons_zero, List.set_cons_succ]
                  refine wpAnyH_take (i := 5) (oi := ?oi30) (v := ?v30) ?hi30 (by kernel_rfl) (by kernel_rfl) (by kernel_rfl) ?hQ30 ?hy30 (by assumption) ?more30 
                  case hi30 => (simp only [List.getElem?_toArray, List.getElem?_cons_zero, List.getElem?_cons_succ]; rfl)
                  case hQ30 => exact fun _ _ _ h => h
                  case hy30 => (refine Or.inl ⟨by rfl, ?_⟩; intro w hSw; (try dsimp only at hSw); go_simp; (try with_reducible rfl))
                  try simp only [Act.put, List.setIfInBounds_toArray, List.set_cons_zero, List.set_cons_succ]
                  refine wpAnyH_ready (rs := [6]) (by kernel_rfl) (by simp) ?_
                  refine AllReadyH.cons (o := ?oi31) ?hi31 (fun K hK => ?more31) AllReadyH.nil
                  case hi31 => (simp only [List.getElem?_toArray, List.getElem?_cons_zero, List.getElem?_cons_succ]; rfl)
                  go_simp
                  (go_at_call 18; refine (tidemarklaw18_rest.calls x c5 r _ HR.out).mono ?_; rintro e w9 ⟨rfl, hd⟩
                   have S9 := Aside0.mk (SW.out.below hd.below)
                   have E9 := Aside0.mk (EW.out.beneath hd.below)
                   have n1 : w9.cell? (ad.add i) = some (.int .i64 x) := pw_cell_below hd.below Y0.out
                   have n2 : w9.cell? ⟨dB, 5, none⟩ = some (.int .i64 c5) := pw_cell_below hd.below Y1.out
                   clear hd)
                  refine hK.out _ _ ?_ (fun hHeld => ?_)
                  · go_keep
                  clear hK K
                  try simp only [Act.put, List.setIfInBounds_toArray, List.set_cons_zero, List.set_cons_succ]
                  refine wpAnyH_take (i := 7) (oi := ?oi32) (v := ?v32) ?hi32 (by kernel_rfl) (by kernel_rfl) (by kernel_rfl) ?hQ32 ?hy32 (by assumption) ?more32 
                  case hi32 => (simp only [List.getElem?_toArray, List.getElem?_cons_zero, List.getElem?_cons_succ]; rfl)
                  case hQ32 => exact fun _ _ _ h => h
                  case hy32 => (refine Or.inl ⟨by rfl, ?_⟩; intro w hSw; (try dsimp only at hSw); go_simp; (try with_reducible rfl))
                  try simp only [Act.put, List.setIfInBounds_toArray, List.set_cons_zero, List.set_cons_succ]
                  refine wpAnyH_done (by kernel_rfl) ?_ _
                  go_wp2_with (first
                    | ((with_reducible refine gate_dst (N := 207) rfl ?_); refine goesL_ (some 207) rfl rfl Tryz.func19 (by kernel_rfl) rfl #[.pointer (some ⟨p, 0, none⟩), .int .i64 2, .int .i64 r] rfl (by (try simp only [List.map_toArray, List.map_cons, List.map_nil]); first | done | rfl) ?_
                       have C22 := get_ok S9.out OKI.out 2 r rfl HWR.out ASK.out; rw [hP.out, ← HV0.out, ← HB0.out] at C22; refine C22.mono ?_; clear C22; rintro e wG ⟨rfl, LG, hs, hg⟩
                       have SG := Aside0.mk (show St wG LG none2 m1 from by rw [HM1.out]; exact hs)
                       have EG := Aside0.mk (E9.out.goes hg)
                       have PG := Aside0.mk (hg.p.trans hP.out)
                       clear hs hg
                       refine ⟨_, rfl, ?_⟩)
                    | ((with_reducible refine gate_dst (N := 212) rfl ?_); refine goesL_ (some 212) rfl rfl Tryz.func10 (by kernel_rfl) rfl #[.int .i64 0] rfl (by (try simp only [List.map_toArray, List.map_cons, List.map_nil]); first | done | rfl) ?_
                       refine (num19 _ _).mono ?_; rintro e wN11 ⟨rfl, rfl⟩
                       refine ⟨_, rfl, ?_⟩)
                    | ((with_reducible refine gate_dst (N := 219) rfl ?_); refine gate_guard rfl ?_; refine goesL_ (some 219) rfl rfl Tryz.func23 (by kernel_rfl) rfl #[.slice Af ea.length qf, .int .i64 r, .int .u64 v0] rfl (by (try simp only [List.map_toArray, List.map_cons, List.map_nil]); first | done | rfl) ?_
                       refine (tidemarklaw18_has.calls kh Af qf ea r v0 b0 _ (Kd.R_reads' EG.out.rb).2.2 (Kd.R_reads' EG.out.rb).2.1 HKH.out).mono ?_; rintro e wH ⟨rfl, hd⟩
                       have SH := Aside0.mk (SG.out.below hd.below)
                       have EH := Aside0.mk (EG.out.beneath hd.below)
                       clear hd
                       refine ⟨_, rfl, ?_⟩))
                  go_roundg kr
                  case measure => omega
                  case rel => exact ⟨i + 1, m1, s2, LG, rfl, ⟨by have := hik.out; omega⟩, HB2, SH, PG, EH⟩
                | zero =>
                  have hiN : i = NN := hik.out
                  have hnn := HNN.out
                  obtain ⟨e2z, okz, opz, alz, dnz, rwz⟩ := hB.out.commit
                  obtain ⟨mz, hmz⟩ : ∃ mz, mz = mj.commit 2 := ⟨_, rfl⟩
                  rw [← hmz] at okz opz alz dnz rwz
                  have OKI := Aside0.mk hB.out.ok
                  have E2Z := Aside0.mk e2z
                  have OKZ := Aside0.mk okz
                  have OPZ := Aside0.mk opz
                  have ALZ := Aside0.mk (show ents mz.all = ea from by rw [alz, HEA.out])
                  have DNZ := Aside0.mk (show mz.done.length = nd + 1 from dnz)
                  have RWZ := Aside0.mk rwz
                  have HMZ := Aside0.mk hmz
                  have MDL2 := Aside0.mk (show mj.done.length < 5000000000000 from by rw [hB.out.done]; have := NDL.out; omega)
                  clear e2z okz opz alz dnz rwz hmz hB
                  rcases (show i = ks.length ∨ (i = 40 ∧ 40 < ks.length) from by omega) with hy | ⟨hy, hy2⟩
                  · have hd3 : ¬ ((i : Int) < (ks.length : Int)) := by omega
                    clear hy hiN hnn hik
                    go_wp2_with (first
                      | ((with_reducible refine gate_dst (N := 223) rfl ?_); refine goesL_ (some 223) rfl rfl Tryz.func21 (by kernel_rfl) rfl #[.pointer (some ⟨p, 0, none⟩), .int .i64 2] rfl (by (try simp only [List.map_toArray, List.map_cons, List.map_nil]); first | done | rfl) ?_
                         have C23 := commit23 hS.out OKI.out 2 rfl MDL2.out; rw [hP.out, E2Z.out, ← HMZ.out] at C23; refine C23.mono ?_; clear C23; rintro e wP ⟨rfl, LZ, hs, hg⟩
                         have SZ := Aside0.mk hs
                         have EZ := Aside0.mk (hE.out.goes hg)
                         have PZ := Aside0.mk (hg.p.trans hP.out)
                         clear hs hg
                         refine ⟨_, rfl, ?_⟩)
                      | ((with_reducible refine gate_dst (N := 224) rfl ?_); refine goesL_ (some 224) rfl rfl Tryz.func10 (by kernel_rfl) rfl #[.int .i64 0] rfl (by (try simp only [List.map_toArray, List.map_cons, List.map_nil]); first | done | rfl) ?_
                         refine (num19 _ _).mono ?_; rintro e wN12 ⟨rfl, rfl⟩
                         refine ⟨_, rfl, ?_⟩)
                      | (go_at_call 12; have C12 := entries12 SZ.out OKZ.out OPZ.out; rw [PZ.out, ALZ.out] at C12; refine C12.mono ?_; clear C12; rintro e wY ⟨v, rfl, hr, hb⟩
                         obtain ⟨Ay, qy, hv⟩ := Kd.R_slice hr
                         subst hv
                         have RY := Aside0.mk hr
                         have SY := Aside0.mk (SZ.out.below hb)
                         have EY := Aside0.mk (EZ.out.beneath hb)
                         clear hr hb)
                      | ((with_reducible refine gate_dst (N := 237) rfl ?_); refine goesL_ (some 237) rfl rfl Tryz.func10 (by kernel_rfl) rfl #[.int .i64 0] rfl (by (try simp only [List.map_toArray, List.map_cons, List.map_nil]); first | done | rfl) ?_
                         refine (num19 _ _).mono ?_; rintro e wN13 ⟨rfl, rfl⟩
                         refine ⟨_, rfl, ?_⟩)
                      | ((with_reducible refine gate_dst (N := 242) rfl ?_); refine gate_guard rfl ?_; refine goesL_ (some 242) rfl rfl Tryz.func13 (by kernel_rfl) rfl #[.slice Ay ea.length qy, .slice Af ea.length qf] rfl (by (try simp only [List.map_toArray, List.map_cons, List.map_nil]); first | done | rfl) ?_
                         refine (tidemarklaw18_entries.calls k3 Ay qy ea Af qf ea true _ (Kd.R_reads' RY.out).2.2 (Kd.R_reads' RY.out).2.1 (Kd.R_reads' EY.out.rb).2.2 (Kd.R_reads' EY.out.rb).2.1 HK3.out).mono ?_; rintro e wU ⟨rfl, hd⟩
                         have SU := Aside0.mk (SY.out.below hd.below)
                         have EU := Aside0.mk (EY.out.beneath hd.below)
                         clear hd
                         refine ⟨_, rfl, ?_⟩)
                      | ((with_reducible refine gate_dst (N := 246) rfl ?_); refine gate_guard rfl ?_; refine goesL_ (some 246) rfl rfl Tryz.func15 (by kernel_rfl) rfl #[.pointer (some ⟨p, 0, none⟩)] rfl (by (try simp only [List.map_toArray, List.map_cons, List.map_nil]); first | done | rfl) ?_
                         have C15 := done15R SU.out (by rw [DNZ.out]; have := NDL.out; omega) (fun t ht => by have := RWZ.out t ht; omega); rw [PZ.out, DNZ.out] at C15; refine C15.mono ?_; clear C15; rintro e wV ⟨gz2, uz2, rfl, hdr, hb⟩
                         have EV := Aside0.mk (EU.out.beneath hb)
                         clear hdr hb
                         refine ⟨_, rfl, ?_⟩))
                    go_ret
                    exact ⟨rfl, EV.out.below⟩
                  · have hd3 : (i : Int) < (ks.length : Int) := by omega
                    have hd4 : ¬ ((i : Int) < 40) := by omega
                    clear hy hy2 hiN hnn hik
                    go_wp2_with (first
                      | ((with_reducible refine gate_dst (N := 223) rfl ?_); refine goesL_ (some 223) rfl rfl Tryz.func21 (by kernel_rfl) rfl #[.pointer (some ⟨p, 0, none⟩), .int .i64 2] rfl (by (try simp only [List.map_toArray, List.map_cons, List.map_nil]); first | done | rfl) ?_
                         have C23 := commit23 hS.out OKI.out 2 rfl MDL2.out; rw [hP.out, E2Z.out, ← HMZ.out] at C23; refine C23.mono ?_; clear C23; rintro e wP ⟨rfl, LZ, hs, hg⟩
                         have SZ := Aside0.mk hs
                         have EZ := Aside0.mk (hE.out.goes hg)
                         have PZ := Aside0.mk (hg.p.trans hP.out)
                         clear hs hg
                         refine ⟨_, rfl, ?_⟩)
                      | ((with_reducible refine gate_dst (N := 224) rfl ?_); refine goesL_ (some 224) rfl rfl Tryz.func10 (by kernel_rfl) rfl #[.int .i64 0] rfl (by (try simp only [List.map_toArray, List.map_cons, List.map_nil]); first | done | rfl) ?_
                         refine (num19 _ _).mono ?_; rintro e wN12 ⟨rfl, rfl⟩
                         refine ⟨_, rfl, ?_⟩)
                      | (go_at_call 12; have C12 := entries12 SZ.out OKZ.out OPZ.out; rw [PZ.out, ALZ.out] at C12; refine C12.mono ?_; clear C12; rintro e wY ⟨v, rfl, hr, hb⟩
                         obtain ⟨Ay, qy, hv⟩ := Kd.R_slice hr
                         subst hv
                         have RY := Aside0.mk hr
                         have SY := Aside0.mk (SZ.out.below hb)
                         have EY := Aside0.mk (EZ.out.beneath hb)
                         clear hr hb)
                      | ((with_reducible refine gate_dst (N := 237) rfl ?_); refine goesL_ (some 237) rfl rfl Tryz.func10 (by kernel_rfl) rfl #[.int .i64 0] rfl (by (try simp only [List.map_toArray, List.map_cons, List.map_nil]); first | done | rfl) ?_
                         refine (num19 _ _).mono ?_; rintro e wN13 ⟨rfl, rfl⟩
                         refine ⟨_, rfl, ?_⟩)
                      | ((with_reducible refine gate_dst (N := 242) rfl ?_); refine gate_guard rfl ?_; refine goesL_ (some 242) rfl rfl Tryz.func13 (by kernel_rfl) rfl #[.slice Ay ea.length qy, .slice Af ea.length qf] rfl (by (try simp only [List.map_toArray, List.map_cons, List.map_nil]); first | done | rfl) ?_
                         refine (tidemarklaw18_entries.calls k3 Ay qy ea Af qf ea true _ (Kd.R_reads' RY.out).2.2 (Kd.R_reads' RY.out).2.1 (Kd.R_reads' EY.out.rb).2.2 (Kd.R_reads' EY.out.rb).2.1 HK3.out).mono ?_; rintro e wU ⟨rfl, hd⟩
                         have SU := Aside0.mk (SY.out.below hd.below)
                         have EU := Aside0.mk (EY.out.beneath hd.below)
                         clear hd
                         refine ⟨_, rfl, ?_⟩)
                      | ((with_reducible refine gate_dst (N := 246) rfl ?_); refine gate_guard rfl ?_; refine goesL_ (some 246) rfl rfl Tryz.func15 (by kernel_rfl) rfl #[.pointer (some ⟨p, 0, none⟩)] rfl (by (try simp only [List.map_toArray, List.map_cons, List.map_nil]); first | done | rfl) ?_
                         have C15 := done15R SU.out (by rw [DNZ.out]; have := NDL.out; omega) (fun t ht => by have := RWZ.out t ht; omega); rw [PZ.out, DNZ.out] at C15; refine C15.mono ?_; clear C15; rintro e wV ⟨gz2, uz2, rfl, hdr, hb⟩
                         have EV := Aside0.mk (EU.out.beneath hb)
                         clear hdr hb
                         refine ⟨_, rfl, ?_⟩))
                    go_ret
                    exact ⟨rfl, EV.out.below⟩
            | true =>
              have hd1 : (i : Int) < (ks.length : Int) := by omega
              have hd2 : ¬ ((i : Int) < 40) := by omega
              clear hz hiN hik hz2
              go_upto_region 36 with fail
              clear hd1 hd2
              obtain ⟨mx, hmx⟩ : ∃ mx, mx = mi.commit 1 := ⟨_, rfl⟩
              rw [← hmx] at CM
              have HMX := Aside0.mk hmx
              obtain ⟨af, haf⟩ : ∃ af, af = foldT mr.all did := ⟨_, rfl⟩
              have BP0 := Aside0.mk (show Bp mr mx txn0 af (nd + 1) from by rw [haf]; exact CM.out)
              have HFO := Aside0.mk (show foldC [chsOf es, did] = af from by rw [foldC_two, FCH.out, haf])
              have AFL := Aside0.mk (show af.length ≤ 128 from by rw [← BP0.out.all]; exact all_len BP0.out.ok)
              obtain ⟨ea, hea⟩ : ∃ ea, ea = ents af := ⟨_, rfl⟩
              have HEA := Aside0.mk hea
              have EAL := Aside0.mk (show ea.length ≤ 128 from by rw [hea, ents_length]; exact AFL.out)
              obtain ⟨k3, hk3⟩ := entries_self ea (Nat.lt_of_le_of_lt EAL.out (by omega))
              have HK3 := Aside0.mk hk3
              have HWF2 := Aside0.mk (show ∀ t ∈ [chsOf es, did], ∀ x ∈ t, (Lit.int .i64 x.f0).wf = true from fun t ht x hx => by
                rw [List.mem_cons, List.mem_singleton] at ht
                rcases ht with rfl | rfl
                · exact CHW.out x hx
                · exact DKEY.out x hx)
              have HCN2 := Aside0.mk (show cntC [chsOf es, did] < 1000000000000000000 from by
                have h1 := cnt_le [chsOf es, did] (fun t ht => by
                  rw [List.mem_cons, List.mem_singleton] at ht
                  rcases ht with rfl | rfl
                  · exact CHL.out
                  · exact DLEN.out)
                have h2 : [chsOf es, did].length = 2 := rfl
                omega)
              clear hmx haf hea hk3 AB CM
              go_upto_region 43 with (first
                | ((with_reducible refine gate_dst (N := 179) rfl ?_); refine goesL_ (some 179) rfl rfl Tryz.func21 (by kernel_rfl) rfl #[.pointer (some ⟨p, 0, none⟩), .int .i64 1] rfl (by (try simp only [List.map_toArray, List.map_cons, List.map_nil]); first | done | rfl) ?_
                   have C23 := commit23 hS.out OKI.out 1 rfl MDL.out; rw [hP.out, E1Z.out, ← HMX.out] at C23; refine C23.mono ?_; clear C23; rintro e wP ⟨rfl, LP, hs, hg⟩
                   have SP1 := Aside0.mk hs
                   have EP := Aside0.mk (DIDZ.out.goes hg)
                   have PP := Aside0.mk (hg.p.trans hP.out)
                   clear hs hg
                   refine ⟨_, rfl, ?_⟩)
                | ((with_reducible refine gate_dst (N := 180) rfl ?_); refine goesL_ (some 180) rfl rfl Tryz.func10 (by kernel_rfl) rfl #[.int .i64 0] rfl (by (try simp only [List.map_toArray, List.map_cons, List.map_nil]); first | done | rfl) ?_
                   refine (num19 _ _).mono ?_; rintro e wN10 ⟨rfl, rfl⟩
                   refine ⟨_, rfl, ?_⟩)
                | ((with_reducible refine gate_dst (N := 183) rfl ?_); refine goesL_ (some 183) rfl rfl Tryz.func22 (by kernel_rfl) rfl #[.slice Ab es.length qb] rfl (by (try simp only [List.map_toArray, List.map_cons, List.map_nil]); first | done | rfl) ?_
                   refine (tidemarklaw18_listed.calls kl Ab qb es (chsOf es) _ (Kd.R_reads' EP.out.rb).2.2 (Kd.R_reads' EP.out.rb).2.1 HKL.out).mono ?_; rintro e wQ ⟨v, rfl, hr, hb⟩
                   obtain ⟨Al, ql, hv⟩ := Kd.R_slice hr
                   subst hv
                   have RLQ := Aside0.mk (Kd.R_lower hr EP.out.below.size)
                   have SQ := Aside0.mk (SP1.out.below hb)
                   have EQ := Aside0.mk (EP.out.beneath hb)
                   clear hr hb
                   refine ⟨_, rfl, ?_⟩)
                | (go_at_call 14; refine (Fold6g (two_rows RLQ.out EQ.out.rd) (Nat.le_refl _) (by show (2 : Nat) < 1000000000000000; decide) HCN2.out (by rw [HFO.out]; have := AFL.out; omega) HWF2.out).mono ?_; rintro e wR ⟨v, rfl, hr, hb⟩
                   rw [HFO.out, ← HEA.out] at hr
                   obtain ⟨Af, qf, hv⟩ := Kd.R_slice hr
                   subst hv
                   have BQR := Aside0.mk ((below_alloc (Below.refl wQ.heap.size wQ) _).trans (hb.mono (Nat.le_of_lt (by simp))))
                   have SR := Aside0.mk (SQ.out.below BQR.out)
                   have ER := Aside0.mk (EQ.out.take BQR.out (Kd.R_lower hr (Nat.le_of_lt (by simp))) SQ.out)
                   clear hr hb))
              clear SP1 EP SQ EQ RLQ BQR hS DIDZ HKL HCN2 HWF2 HFO CHL CHW FCH UPA
              go_wp2
              go_loopg [29] NN (fun kq v29 wr => ∃ (i : Nat) (mj : PSt) (s : Txn) (Lr : Lay), v29 = .int .i64 (i : Int) ∧ Aside0 (i + kq = NN) ∧ Aside0 (Bp mr mj s af (nd + 1)) ∧ Aside0 (St wr Lr none2 mj) ∧ Aside0 (Lr.p = p) ∧ Aside0 (Env w wr Lr dB #[.int .i64 c0, .int .i64 c1, .int .i64 65536, .int .i64 c3, .int .i64 8, .int .i64 c5] (.slice Af ea.length qf) ea (.slice none 0 0) []))
              case atStart => exact ⟨0, mx, txn0, LP, rfl, ⟨by omega⟩, BP0, SR, PP, ER⟩
              case round =>
                obtain ⟨i, mj, s, Lr, rfl, hik, hB, hS, hP, hE⟩ := hrel
                clear SR ER BP0 PP
                obtain ⟨Ws, hWs, hS⟩ : ∃ W, W = _ ∧ Aside0 (St W Lr none2 mj) := ⟨_, rfl, hS⟩
                subst hWs
                cases gk with
                | succ kr =>
                  have hik2 := hik.out
                  have hnn := HNN.out
                  have hi0 : i < ks.length := by omega
                  have hi1 : (i : Int) < (ks.length : Int) := by omega
                  have hi4 : (i : Int) < 40 := by omega
                  have hi2 : (0 : Int) ≤ (i : Int) := by omega
                  have hw2 : IntKind.i64.wrap ((i : Int) + 1) = ((i + 1 : Nat) : Int) := wrp (by omega) (by omega)
                  obtain ⟨ad, e0, y0⟩ := Kd.at_int (Kd.C_below HK.out hE.out.below) (i : Int) hi2 hi1
                  subst e0
                  have y1 : Ws.cell? ⟨dB, 5, none⟩ = some (.int .i64 c5) := blk_cell hE.out.cfg 5
                  rw [Int.toNat_natCast] at y0
                  have hq5 := HQ.out.2.2.2
                  obtain ⟨r, hr, hr0, hr1⟩ := rest_some (rd ks (i : Int)) c5 (by omega)
                  obtain ⟨x, hx⟩ : ∃ x, x = rd ks (i : Int) := ⟨_, rfl⟩
                  rw [← hx] at y0 hr
                  have HR := Aside0.mk hr
                  have hr2 : r < mr.keys := by rw [HRK.out]; exact hr1
                  have HWR := Aside0.mk (show (Lit.int .i64 r).wf = true from wf64 (by omega))
                  have ASK := Aside0.mk (hB.out.asked hr0 hr2)
                  obtain ⟨⟨s2, hB2⟩, hgb, hgv⟩ := hB.out.get hr0 hr2
                  obtain ⟨v0, hv0⟩ : ∃ v0, v0 = mj.getV 2 r := ⟨_, rfl⟩
                  obtain ⟨b0, hb0⟩ : ∃ b0, b0 = mj.getB 2 r := ⟨_, rfl⟩
                  rw [← hv0] at hgv
                  rw [← hb0] at hgb
                  obtain ⟨kh, hkh⟩ := has_some af (by have := AFL.out; omega) r v0
                  have hres : decide (look af r = some v0) = b0 := by
                    rw [hgb]
                    cases hlk : look af r with
                    | none => simp
                    | some u => rw [hlk] at hgv; rw [hgv]; simp
                  rw [hres, ← HEA.out] at hkh
                  have HKH := Aside0.mk hkh
                  obtain ⟨m1, hm1⟩ : ∃ m1, m1 = mj.get 2 r := ⟨_, rfl⟩
                  rw [← hm1] at hB2
                  have HB2 := Aside0.mk hB2
                  have OKI := Aside0.mk hB.out.ok
                  have HV0 := Aside0.mk hv0
                  have HB0 := Aside0.mk hb0
                  have HM1 := Aside0.mk hm1
                  have hne : (b0 != b0) = false := by simp
                  have EW := Aside0.mk (hE.out.beneath (below_drew (Below.refl _ _)))
                  have SW := Aside0.mk (hS.out.below (below_drew (Below.refl _ _)))
                  have Y0 := Aside0.mk y0
                  have Y1 := Aside0.mk y1
                  clear hr hr0 hr1 hr2 hq5 hx hB2 hgb hgv hkh hres hv0 hb0 hm1 hik2 hnn hE hS hi0 hB
                  go_upto_region 46 with fail
                  refine wp_region_held_drew (S := fun w' => w'.cell? (ad.add i) = some (.int .i64 x) ∧ w'.cell? ⟨dB, 5, none⟩ = some (.int .i64 c5)) (by kernel_rfl) ?_ (fun hHeld => ?_)
                  · go_keep
                  refine wpAnyH_take (i := 0) (oi := ?oi33) (v := ?v33) ?hi33 (by kernel_rfl) (by kernel_rfl) (by kernel_rfl) ?hQ33 ?hy33 (by assumption) ?more33 
                  case hi33 => (simp only [List.getElem?_toArray, List.getElem?_cons_zero, List.getElem?_cons_succ]; rfl)
                  case hQ33 => exact fun _ _ _ h => h
                  case hy33 => (refine Or.inl ⟨by rfl, ?_⟩; intro w hSw; (try dsimp only at hSw); go_simp; (try with_reducible rfl))
                  try simp only [Act.put, List.setIfInBounds_toArray, List.set_cons_zero, List.set_cons_succ]
                  refine wpAnyH_take (i := 1) (oi := ?oi34) (v := ?v34) ?hi34 (by kernel_rfl) (by kernel_rfl) (by kernel_rfl) ?hQ34 ?hy34 (by assumption) ?more34 
                  case hi34 => (simp only [List.getElem?_toArray, List.getElem?_cons_zero, List.getElem?_cons_succ]; rfl)
                  case hQ34 => exact fun _ _ _ h => h
                  case hy34 => (refine Or.inl ⟨by rfl, ?_⟩; intro w hSw; (try dsimp only at hSw); go_simp; (try with_reducible rfl))
                  try simp only [Act.put, List.setIfInBounds_toArray, List.set_cons_zero, List.set_cons_succ]
                  refine wpAnyH_take (i := 2) (oi := ?oi35) (v := ?v35) ?hi35 (by kernel_rfl) (by kernel_rfl) (by kernel_rfl) ?hQ35 ?hy35 (by assumption) ?more35 
                  case hi35 => (simp only [List.getElem?_toArray, List.getElem?_cons_zero, List.getElem?_cons_succ]; rfl)
                  case hQ35 => exact fun _ _ _ h => h
                  case hy35 => (refine Or.inl ⟨by rfl, ?_⟩; intro w hSw; (try dsimp only at hSw); go_simp; (try with_reducible rfl))
                  try simp only [Act.put, List.setIfInBounds_toArray, List.set_cons_zero, List.set_cons_succ]
                  refine wpAnyH_take (i := 3) (oi := ?oi36) (v := ?v36) ?hi36 (by kernel_rfl) (by kernel_rfl) (by kernel_rfl) ?hQ36 ?hy36 (by assumption) ?more36 
                  case hi36 => (simp only [List.getElem?_toArray, List.getElem?_cons_zero, List.getElem?_cons_succ]; rfl)
                  case hQ36 => exact fun _ _ _ h => h
                  case hy36 => (refine Or.inl ⟨by rfl, ?_⟩; intro w hSw; (try dsimp only at hSw); go_simp; (try with_reducible rfl))
                  try simp only [Act.put, List.setIfInBounds_toArray, List.set_cons_zero, List.set_cons_succ]
                  refine wpAnyH_take (i := 4) (oi := ?oi37) (v := ?v37) ?hi37 (by kernel_rfl) (by kernel_rfl) (by kernel_rfl) ?hQ37 ?hy37 (by assumption) ?more37 
                  case hi37 => (simp only [List.getElem?_toArray, List.getElem?_cons_zero, List.getElem?_cons_succ]; rfl)
                  case hQ37 => exact fun _ _ _ h => h
                  case hy37 => (refine Or.inl ⟨by rfl, ?_⟩; intro w hSw; (try dsimp only at hSw); go_simp; (try with_reducible rfl))
                  try simp only [Act.put, List.setIfInBounds_toArray, List.set_cons_zero, List.set_cons_succ]
                  refine wpAnyH_take (i := 5) (oi := ?oi38) (v := ?v38) ?hi38 (by kernel_rfl) (by kernel_rfl) (by kernel_rfl) ?hQ38 ?hy38 (by assumption) ?more38 
                  case hi38 => (simp only [List.getElem?_toArray, List.getElem?_cons_zero, List.getElem?_cons_succ]; rfl)
                  case hQ38 => exact fun _ _ _ h => h
                  case hy38 => (refine Or.inl ⟨by rfl, ?_⟩; intro w hSw; (try dsimp only at hSw); go_simp; (try with_reducible rfl))
                  try simp only [Act.put, List.setIfInBounds_toArray, List.set_cons_zero, List.set_cons_succ]
                  refine wpAnyH_ready (rs := [6]) (by kernel_rfl) (by simp) ?_
                  refine AllReadyH.cons (o := ?oi39) ?hi39 (fun K hK => ?more39) AllReadyH.nil
                  case hi39 => (simp only [List.getElem?_toArray, List.getElem?_cons_zero, List.getElem?_cons_succ]; rfl)
                  go_simp
                  (go_at_call 18; refine (tidemarklaw18_rest.calls x c5 r _ HR.out).mono ?_; rintro e w9 ⟨rfl, hd⟩
                   have S9 := Aside0.mk (SW.out.below hd.below)
                   have E9 := Aside0.mk (EW.out.beneath hd.below)
                   have n1 : w9.cell? (ad.add i) = some (.int .i64 x) := pw_cell_below hd.below Y0.out
                   have n2 : w9.cell? ⟨dB, 5, none⟩ = some (.int .i64 c5) := pw_cell_below hd.below Y1.out
                   clear hd)
                  refine hK.out _ _ ?_ (fun hHeld => ?_)
                  · go_keep
                  clear hK K
                  try simp only [Act.put, List.setIfInBounds_toArray, List.set_cons_zero, List.set_cons_succ]
                  refine wpAnyH_take (i := 7) (oi := ?oi40) (v := ?v40) ?hi40 (by kernel_rfl) (by kernel_rfl) (by kernel_rfl) ?hQ40 ?hy40 (by assumption) ?more40 
                  case hi40 => (simp only [List.getElem?_toArray, List.getElem?_cons_zero, List.getElem?_cons_succ]; rfl)
                  case hQ40 => exact fun _ _ _ h => h
                  case hy40 => (refine Or.inl ⟨by rfl, ?_⟩; intro w hSw; (try dsimp only at hSw); go_simp; (try with_reducible rfl))
                  try simp only [Act.put, List.setIfInBounds_toArray, List.set_cons_zero, List.set_cons_succ]
                  refine wpAnyH_done (by kernel_rfl) ?_ _
                  go_wp2_with (first
                    | ((with_reducible refine gate_dst (N := 207) rfl ?_); refine goesL_ (some 207) rfl rfl Tryz.func19 (by kernel_rfl) rfl #[.pointer (some ⟨p, 0, none⟩), .int .i64 2, .int .i64 r] rfl (by (try simp only [List.map_toArray, List.map_cons, List.map_nil]); first | done | rfl) ?_
                       have C22 := get_ok S9.out OKI.out 2 r rfl HWR.out ASK.out; rw [hP.out, ← HV0.out, ← HB0.out] at C22; refine C22.mono ?_; clear C22; rintro e wG ⟨rfl, LG, hs, hg⟩
                       have SG := Aside0.mk (show St wG LG none2 m1 from by rw [HM1.out]; exact hs)
                       have EG := Aside0.mk (E9.out.goes hg)
                       have PG := Aside0.mk (hg.p.trans hP.out)
                       clear hs hg
                       refine ⟨_, rfl, ?_⟩)
                    | ((with_reducible refine gate_dst (N := 212) rfl ?_); refine goesL_ (some 212) rfl rfl Tryz.func10 (by kernel_rfl) rfl #[.int .i64 0] rfl (by (try simp only [List.map_toArray, List.map_cons, List.map_nil]); first | done | rfl) ?_
                       refine (num19 _ _).mono ?_; rintro e wN11 ⟨rfl, rfl⟩
                       refine ⟨_, rfl, ?_⟩)
                    | ((with_reducible refine gate_dst (N := 219) rfl ?_); refine gate_guard rfl ?_; refine goesL_ (some 219) rfl rfl Tryz.func23 (by kernel_rfl) rfl #[.slice Af ea.length qf, .int .i64 r, .int .u64 v0] rfl (by (try simp only [List.map_toArray, List.map_cons, List.map_nil]); first | done | rfl) ?_
                       refine (tidemarklaw18_has.calls kh Af qf ea r v0 b0 _ (Kd.R_reads' EG.out.rb).2.2 (Kd.R_reads' EG.out.rb).2.1 HKH.out).mono ?_; rintro e wH ⟨rfl, hd⟩
                       have SH := Aside0.mk (SG.out.below hd.below)
                       have EH := Aside0.mk (EG.out.beneath hd.below)
                       clear hd
                       refine ⟨_, rfl, ?_⟩))
                  go_roundg kr
                  case measure => omega
                  case rel => exact ⟨i + 1, m1, s2, LG, rfl, ⟨by have := hik.out; omega⟩, HB2, SH, PG, EH⟩
                | zero =>
                  have hiN : i = NN := hik.out
                  have hnn := HNN.out
                  obtain ⟨e2z, okz, opz, alz, dnz, rwz⟩ := hB.out.commit
                  obtain ⟨mz, hmz⟩ : ∃ mz, mz = mj.commit 2 := ⟨_, rfl⟩
                  rw [← hmz] at okz opz alz dnz rwz
                  have OKI := Aside0.mk hB.out.ok
                  have E2Z := Aside0.mk e2z
                  have OKZ := Aside0.mk okz
                  have OPZ := Aside0.mk opz
                  have ALZ := Aside0.mk (show ents mz.all = ea from by rw [alz, HEA.out])
                  have DNZ := Aside0.mk (show mz.done.length = nd + 2 from dnz)
                  have RWZ := Aside0.mk rwz
                  have HMZ := Aside0.mk hmz
                  have MDL2 := Aside0.mk (show mj.done.length < 5000000000000 from by rw [hB.out.done]; have := NDL.out; omega)
                  clear e2z okz opz alz dnz rwz hmz hB
                  rcases (show i = ks.length ∨ (i = 40 ∧ 40 < ks.length) from by omega) with hy | ⟨hy, hy2⟩
                  · have hd3 : ¬ ((i : Int) < (ks.length : Int)) := by omega
                    clear hy hiN hnn hik
                    go_wp2_with (first
                      | ((with_reducible refine gate_dst (N := 223) rfl ?_); refine goesL_ (some 223) rfl rfl Tryz.func21 (by kernel_rfl) rfl #[.pointer (some ⟨p, 0, none⟩), .int .i64 2] rfl (by (try simp only [List.map_toArray, List.map_cons, List.map_nil]); first | done | rfl) ?_
                         have C23 := commit23 hS.out OKI.out 2 rfl MDL2.out; rw [hP.out, E2Z.out, ← HMZ.out] at C23; refine C23.mono ?_; clear C23; rintro e wP ⟨rfl, LZ, hs, hg⟩
                         have SZ := Aside0.mk hs
                         have EZ := Aside0.mk (hE.out.goes hg)
                         have PZ := Aside0.mk (hg.p.trans hP.out)
                         clear hs hg
                         refine ⟨_, rfl, ?_⟩)
                      | ((with_reducible refine gate_dst (N := 224) rfl ?_); refine goesL_ (some 224) rfl rfl Tryz.func10 (by kernel_rfl) rfl #[.int .i64 0] rfl (by (try simp only [List.map_toArray, List.map_cons, List.map_nil]); first | done | rfl) ?_
                         refine (num19 _ _).mono ?_; rintro e wN12 ⟨rfl, rfl⟩
                         refine ⟨_, rfl, ?_⟩)
                      | (go_at_call 12; have C12 := entries12 SZ.out OKZ.out OPZ.out; rw [PZ.out, ALZ.out] at C12; refine C12.mono ?_; clear C12; rintro e wY ⟨v, rfl, hr, hb⟩
                         obtain ⟨Ay, qy, hv⟩ := Kd.R_slice hr
                         subst hv
                         have RY := Aside0.mk hr
                         have SY := Aside0.mk (SZ.out.below hb)
                         have EY := Aside0.mk (EZ.out.beneath hb)
                         clear hr hb)
                      | ((with_reducible refine gate_dst (N := 237) rfl ?_); refine goesL_ (some 237) rfl rfl Tryz.func10 (by kernel_rfl) rfl #[.int .i64 0] rfl (by (try simp only [List.map_toArray, List.map_cons, List.map_nil]); first | done | rfl) ?_
                         refine (num19 _ _).mono ?_; rintro e wN13 ⟨rfl, rfl⟩
                         refine ⟨_, rfl, ?_⟩)
                      | ((with_reducible refine gate_dst (N := 242) rfl ?_); refine gate_guard rfl ?_; refine goesL_ (some 242) rfl rfl Tryz.func13 (by kernel_rfl) rfl #[.slice Ay ea.length qy, .slice Af ea.length qf] rfl (by (try simp only [List.map_toArray, List.map_cons, List.map_nil]); first | done | rfl) ?_
                         refine (tidemarklaw18_entries.calls k3 Ay qy ea Af qf ea true _ (Kd.R_reads' RY.out).2.2 (Kd.R_reads' RY.out).2.1 (Kd.R_reads' EY.out.rb).2.2 (Kd.R_reads' EY.out.rb).2.1 HK3.out).mono ?_; rintro e wU ⟨rfl, hd⟩
                         have SU := Aside0.mk (SY.out.below hd.below)
                         have EU := Aside0.mk (EY.out.beneath hd.below)
                         clear hd
                         refine ⟨_, rfl, ?_⟩)
                      | ((with_reducible refine gate_dst (N := 246) rfl ?_); refine gate_guard rfl ?_; refine goesL_ (some 246) rfl rfl Tryz.func15 (by kernel_rfl) rfl #[.pointer (some ⟨p, 0, none⟩)] rfl (by (try simp only [List.map_toArray, List.map_cons, List.map_nil]); first | done | rfl) ?_
                         have C15 := done15R SU.out (by rw [DNZ.out]; have := NDL.out; omega) (fun t ht => by have := RWZ.out t ht; omega); rw [PZ.out, DNZ.out] at C15; refine C15.mono ?_; clear C15; rintro e wV ⟨gz2, uz2, rfl, hdr, hb⟩
                         have EV := Aside0.mk (EU.out.beneath hb)
                         clear hdr hb
                         refine ⟨_, rfl, ?_⟩))
                    go_ret
                    exact ⟨rfl, EV.out.below⟩
                  · have hd3 : (i : Int) < (ks.length : Int) := by omega
                    have hd4 : ¬ ((i : Int) < 40) := by omega
                    clear hy hy2 hiN hnn hik
                    go_wp2_with (first
                      | ((with_reducible refine gate_dst (N := 223) rfl ?_); refine goesL_ (some 223) rfl rfl Tryz.func21 (by kernel_rfl) rfl #[.pointer (some ⟨p, 0, none⟩), .int .i64 2] rfl (by (try simp only [List.map_toArray, List.map_cons, List.map_nil]); first | done | rfl) ?_
                         have C23 := commit23 hS.out OKI.out 2 rfl MDL2.out; rw [hP.out, E2Z.out, ← HMZ.out] at C23; refine C23.mono ?_; clear C23; rintro e wP ⟨rfl, LZ, hs, hg⟩
                         have SZ := Aside0.mk hs
                         have EZ := Aside0.mk (hE.out.goes hg)
                         have PZ := Aside0.mk (hg.p.trans hP.out)
                         clear hs hg
                         refine ⟨_, rfl, ?_⟩)
                      | ((with_reducible refine gate_dst (N := 224) rfl ?_); refine goesL_ (some 224) rfl rfl Tryz.func10 (by kernel_rfl) rfl #[.int .i64 0] rfl (by (try simp only [List.map_toArray, List.map_cons, List.map_nil]); first | done | rfl) ?_
                         refine (num19 _ _).mono ?_; rintro e wN12 ⟨rfl, rfl⟩
                         refine ⟨_, rfl, ?_⟩)
                      | (go_at_call 12; have C12 := entries12 SZ.out OKZ.out OPZ.out; rw [PZ.out, ALZ.out] at C12; refine C12.mono ?_; clear C12; rintro e wY ⟨v, rfl, hr, hb⟩
                         obtain ⟨Ay, qy, hv⟩ := Kd.R_slice hr
                         subst hv
                         have RY := Aside0.mk hr
                         have SY := Aside0.mk (SZ.out.below hb)
                         have EY := Aside0.mk (EZ.out.beneath hb)
                         clear hr hb)
                      | ((with_reducible refine gate_dst (N := 237) rfl ?_); refine goesL_ (some 237) rfl rfl Tryz.func10 (by kernel_rfl) rfl #[.int .i64 0] rfl (by (try simp only [List.map_toArray, List.map_cons, List.map_nil]); first | done | rfl) ?_
                         refine (num19 _ _).mono ?_; rintro e wN13 ⟨rfl, rfl⟩
                         refine ⟨_, rfl, ?_⟩)
                      | ((with_reducible refine gate_dst (N := 242) rfl ?_); refine gate_guard rfl ?_; refine goesL_ (some 242) rfl rfl Tryz.func13 (by kernel_rfl) rfl #[.slice Ay ea.length qy, .slice Af ea.length qf] rfl (by (try simp only [List.map_toArray, List.map_cons, List.map_nil]); first | done | rfl) ?_
                         refine (tidemarklaw18_entries.calls k3 Ay qy ea Af qf ea true _ (Kd.R_reads' RY.out).2.2 (Kd.R_reads' RY.out).2.1 (Kd.R_reads' EY.out.rb).2.2 (Kd.R_reads' EY.out.rb).2.1 HK3.out).mono ?_; rintro e wU ⟨rfl, hd⟩
                         have SU := Aside0.mk (SY.out.below hd.below)
                         have EU := Aside0.mk (EY.out.beneath hd.below)
                         clear hd
                         refine ⟨_, rfl, ?_⟩)
                      | ((with_reducible refine gate_dst (N := 246) rfl ?_); refine gate_guard rfl ?_; refine goesL_ (some 246) rfl rfl Tryz.func15 (by kernel_rfl) rfl #[.pointer (some ⟨p, 0, none⟩)] rfl (by (try simp only [List.map_toArray, List.map_cons, List.map_nil]); first | done | rfl) ?_
                         have C15 := done15R SU.out (by rw [DNZ.out]; have := NDL.out; omega) (fun t ht => by have := RWZ.out t ht; omega); rw [PZ.out, DNZ.out] at C15; refine C15.mono ?_; clear C15; rintro e wV ⟨gz2, uz2, rfl, hdr, hb⟩
                         have EV := Aside0.mk (EU.out.beneath hb)
                         clear hdr hb
                         refine ⟨_, rfl, ?_⟩))
                    go_ret
                    exact ⟨rfl, EV.out.below⟩
end Go.Proofs.YtcdfdckdodgbpaaGreatDoor.QA
