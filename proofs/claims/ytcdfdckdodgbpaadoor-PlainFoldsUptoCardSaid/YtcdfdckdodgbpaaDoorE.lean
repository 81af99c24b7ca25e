/- changed, whole; Put and Delete walked. New walked, where the Config may be. alive walked: a begin, a put and its sum. The document's Fold puts each change in its place: it gives what the changes leave. Plain. Entries in a row: as the library's sort sees them; lists that rise. slices.SortFunc at entries, by key. listed walked: what a content has, keys rising. Fold walked. What 'taken', 'entries' and 'changes' compute. Plain. PlainFolds walked: it answers true. -/
import Derived.Test.YtcdfdckdodgbpaaDoorNTChange3a
import Derived.Test.YtcdfdckdodgbpaaDoorNTChange3b
import Derived.Test.YtcdfdckdodgbpaaDoorNTChange3c
import Derived.Test.YtcdfdckdodgbpaaDoorA
import Derived.Test.YtcdfdckdodgbpaaDoorB
import Derived.Test.YtcdfdckdodgbpaaDoorQAx6
import Derived.Test.YtcdfdckdodgbpaaDoorC
import Derived.Test.YtcdfdckdodgbpaaDoorQAx4
import Derived.Shelf.GgSortFunc.InsertionK
import Derived.Test.YtcdfdckdodgbpaaDoorQAx5
/-! TPut -/
namespace Go.Proofs.YtcdfdckdodgbpaaDoor.QA
open Go.RowKit Go.Maps Go.Proofs.YtcdfdckdodgbpaaDoorW.PrintWords Go.Proofs.YtcdfdckdodgbpaaDoorW.PrintLast Go.Proofs.YtcdfdckdodgbpaaDoorW.PrintMore
set_option linter.unusedVariables false
set_option linter.unusedSimpArgs false
theorem changed36 {w : World} {L : Lay} {m : PSt} (h : St w L none2 m) (hk : Ok m) (id : Int) (x : Chg) (hid : (Lit.int .i64 id).wf = true) (hky : (Lit.int .i64 x.f0).wf = true) :
    Calls Tryd.prog 36 #[.pointer (some ⟨L.p, 0, none⟩), .int .i64 id, .agg #[.int .i64 x.f0, .int .u64 x.f1, .bool x.f2]] w fun e w' => ((m.changedE id x = 0 ∧ e = .returned .nilIface) ∨ (∃ v n, e = .returned v ∧ Err w' (m.changedE id x) n v)) ∧ ∃ L', St w' L' none2 (m.changed id x) ∧ Goes w L w' L' := by
  by_cases hE : m.askedE id x.f0 = 0
  · cases hF : m.full id x with
    | true =>
      have h1 : m.changedE id x = 42 := by unfold PSt.changedE; rw [if_neg (by simp [hE]), hF, if_pos rfl]
      have h2 : m.changed id x = m := by unfold PSt.changed; rw [if_neg (by simp [hE]), hF, if_pos rfl]
      refine (changed_full h hk id x hid hky hE hF).mono ?_
      rintro e w' ⟨v, n, rfl, he, L', hs, hg⟩
      exact ⟨.inr ⟨v, n, rfl, by rw [h1]; exact he⟩, L', by rw [h2]; exact hs, hg⟩
    | false =>
      have hr : ∀ (e : Ending) (w' : World), (((m.changedE id x = 0 ∧ e = .returned .nilIface) ∨ (∃ v n, m.changedE id x = 170 ∧ e = .returned v ∧ Err w' 170 n v)) ∧ ∃ L', St w' L' none2 (m.changed id x) ∧ Goes w L w' L') →
          ((m.changedE id x = 0 ∧ e = .returned .nilIface) ∨ (∃ v n, e = .returned v ∧ Err w' (m.changedE id x) n v)) ∧ ∃ L', St w' L' none2 (m.changed id x) ∧ Goes w L w' L' := by
        rintro e w' ⟨h1 | ⟨v, n, h1, h2, h3⟩, h4⟩
        · exact ⟨.inl h1, h4⟩
        · exact ⟨.inr ⟨v, n, h2, by rw [h1]; exact h3⟩, h4⟩
      cases hg : x.f2 with
      | true => rw [← hg]; exact (changed_a h hk id x hid hky hE hF hg).mono hr
      | false =>
        cases ht : (look (m.con id (x.f0.tmod m.pages)) x.f0).isSome with
        | true => rw [← hg]; exact (changed_b h hk id x hid hky hE hF hg ht).mono hr
        | false => rw [← hg]; exact (changed_c h hk id x hid hky hE hF hg ht).mono hr
  · have h1 : m.changedE id x = m.askedE id x.f0 := by unfold PSt.changedE; rw [if_pos hE]
    have h2 : m.changed id x = m := by unfold PSt.changed; rw [if_pos hE]
    refine (changed_asked h hk id x hid hky hE).mono ?_
    rintro e w' ⟨v, n, rfl, he, hb⟩
    exact ⟨.inr ⟨v, n, rfl, by rw [h1]; exact he⟩, L, by rw [h2]; exact h.below hb, Goes.of_below hb⟩
/-- changed, and the number of what it answers. -/
theorem number_of {w : World} {code : Int} {v : Value} {L : Lay} {m : PSt} (h : St w L none2 m) (hv : (code = 0 ∧ v = .nilIface) ∨ ∃ n, Err w code n v) : Calls Tryd.prog 35 #[v] w fun e w' => e = .returned (.int .i64 code) ∧ Below w.heap.size w w' := by
  rcases hv with ⟨rfl, rfl⟩ | ⟨n, he⟩
  · exact number35n w
  · exact number35 he (h.c.elim fun _ c => c.g0)
set_option maxHeartbeats 4000000 in
set_option maxRecDepth 100000 in
theorem put21 {w : World} {L : Lay} {m : PSt} (h : St w L none2 m) (hk : Ok m) (id key v : Int) (hid : (Lit.int .i64 id).wf = true) (hky : (Lit.int .i64 key).wf = true) :
    Calls Tryd.prog 21 #[.pointer (some ⟨L.p, 0, none⟩), .int .i64 id, .int .i64 key, .int .u64 v] w fun e w' => e = .returned (.int .i64 (m.changedE id ⟨key, v, false⟩)) ∧ ∃ L', St w' L' none2 (m.changed id ⟨key, v, false⟩) ∧ Goes w L w' L' := by
  have HC := Aside0.mk (changed36 h hk id ⟨key, v, false⟩ hid hky)
  obtain ⟨code, hcode⟩ : ∃ code, code = m.changedE id ⟨key, v, false⟩ := ⟨_, rfl⟩
  rw [← hcode] at HC ⊢
  obtain ⟨m2, hm2⟩ : ∃ m2, m2 = m.changed id ⟨key, v, false⟩ := ⟨_, rfl⟩
  rw [← hm2] at HC ⊢
  clear h hk hid hky hcode hm2
  dsimp only at HC
  go_enter Tryd.func21, Tryd.ntmps21
  go_wp2_with (first
    | (go_at_call 36; refine HC.out.mono ?_; rintro e w1 ⟨hv, L1, hs, hg⟩
       obtain ⟨v1, hv1, hv2⟩ : ∃ v1, e = .returned v1 ∧ ((code = 0 ∧ v1 = .nilIface) ∨ ∃ n, Err w1 code n v1) := by
         rcases hv with ⟨h1, h2⟩ | ⟨v1, n, h1, h2⟩
         · exact ⟨_, h2, .inl ⟨h1, rfl⟩⟩
         · exact ⟨_, h1, .inr ⟨n, h2⟩⟩
       subst hv1
       have V1 := Aside0.mk hv2
       have S1 := Aside0.mk hs
       have G1 := Aside0.mk hg
       clear hv hv2 hs hg)
    | (go_at_call 35; refine (number_of S1.out V1.out).mono ?_; rintro e w2 ⟨rfl, hb⟩
       have S2 := Aside0.mk (S1.out.below hb)
       have G2 := Aside0.mk (G1.out.trans (Goes.of_below (L := L1) hb))
       clear hb))
  go_ret
  exact ⟨rfl, L1, S2.out, G2.out⟩
end Go.Proofs.YtcdfdckdodgbpaaDoor.QA

/-! TNew -/
namespace Go.Proofs.YtcdfdckdodgbpaaDoor.QA
open Go.RowKit Go.Maps Go.Proofs.YtcdfdckdodgbpaaDoorW.PrintWords Go.Proofs.YtcdfdckdodgbpaaDoorW.PrintLast Go.Proofs.YtcdfdckdodgbpaaDoorW.PrintMore
set_option linter.unusedVariables false
set_option linter.unusedSimpArgs false
def newM (c0 c1 c2 c3 c4 c5 : Int) : PSt := { pages := c0, slots := c1, log := c2, frames := c3, table := c4, keys := c5, opn := [], left := List.replicate c0.toNat [], used := 0, done := [] }
theorem newM_ok {c0 c1 c2 c3 c4 c5 : Int} (h0 : 1 ≤ c0 ∧ c0 ≤ 16) (h1 : 1 ≤ c1 ∧ c1 ≤ 8) (h2 : 1024 ≤ c2 ∧ c2 ≤ 65536) (h4 : 1 ≤ c4 ∧ c4 ≤ 8) (h5 : 1 ≤ c5 ∧ c5 ≤ 1048576) : Ok (newM c0 c1 c2 c3 c4 c5) where
  pages := h0
  slots := h1
  log := h2
  table := h4
  keys := h5
  up := Up.nil
  txn := fun id t h => by cases h
  size := by show (0 : Int) ≤ c4; omega
  left := by show ((List.replicate c0.toNat ([] : Con)).length : Int) = c0; rw [List.length_replicate]; omega
  page := fun i c h => by
    have h6 : (List.replicate c0.toNat ([] : Con))[i]? = some c := h
    rw [List.getElem?_replicate] at h6
    by_cases h7 : i < c0.toNat
    · rw [if_pos h7] at h6
      injection h6 with h6
      subst h6
      exact ⟨Up.nil, by show (0 : Int) ≤ c1; omega, fun p hp => (by cases hp), fun p hp => (by cases hp)⟩
    · rw [if_neg h7] at h6; cases h6
  used := Int.le_refl _
  room := by show (0 : Int) + 0 ≤ c2; omega
  lock := fun id t id' t' pg h => by cases h
def Lay.first (p ob gl : Nat) : Lay :=
  { role := fun k => if k = 0 then .glob else if k = p then .state else if k = ob then .openM else if k = gl then .leftA else .out
    p := p, ob := ob, gl := gl, tb := fun _ => 0, pb := fun _ => 0, cb := fun _ _ => 0, lb := fun _ => none }
theorem leftV_first (p ob gl n : Nat) : madeCells #[.map none] n = leftV (Lay.first p ob gl) n := by
  apply Array.ext'
  rw [toList_madeCells_one]
  unfold leftV Lay.first lbV
  apply List.ext_getElem?
  intro i
  by_cases hi : i < n
  · simp [hi]
  · simp [hi]
theorem St.first {w : World} {p ob gl : Nat} {c0 c1 c2 c3 c4 c5 : Int} (hp : w.heap[p]? = some (.cells #[.int .i64 c0, .int .i64 c1, .int .i64 c2, .int .i64 c3, .int .i64 c4, .int .i64 c5, .map (some ob), .slice (some ⟨gl, 0, none⟩) c0.toNat c0.toNat, .int .i64 0, .slice none 0 0] 76 (0, 0)))
    (ho : OM Tryd.prog ptrS w ob []) (hg : w.heap[gl]? = some (.cells (madeCells #[.map none] c0.toNat) 59 (0, 0))) (h0 : 0 < p ∧ 0 < ob ∧ 0 < gl) (h1 : ob ≠ p ∧ gl ≠ p ∧ gl ≠ ob) (g0 : Glob w) : St w (Lay.first p ob gl) none2 (newM c0 c1 c2 c3 c4 c5) := by
  obtain ⟨p0, o0, l0⟩ := h0
  obtain ⟨n1, n2, n3⟩ := h1
  have hlen : (newM c0 c1 c2 c3 c4 c5).left.length = c0.toNat := List.length_replicate
  have rp : (Lay.first p ob gl).role p = .state := by show (if p = 0 then _ else if p = p then _ else _) = _; rw [if_neg (by omega), if_pos rfl]
  have ro : (Lay.first p ob gl).role ob = .openM := by show (if ob = 0 then _ else if ob = p then _ else if ob = ob then _ else _) = _; rw [if_neg (by omega), if_neg n1, if_pos rfl]
  have rg : (Lay.first p ob gl).role gl = .leftA := by show (if gl = 0 then _ else if gl = p then _ else if gl = ob then _ else if gl = gl then _ else _) = _; rw [if_neg (by omega), if_neg n2, if_neg n3, if_pos rfl]
  refine ⟨⟨.slice none 0 0, ?_⟩, fun id t h => by cases h⟩
  refine ⟨?_, Kd.R_nil _ _ _ _ _, rp, ro, rg, ho, ?_, fun i c hi => .inl ⟨rfl, ?_⟩, fun k hk => ?_, g0, rfl⟩
  · unfold stCells
    rw [hlen]
    exact hp
  · rw [hlen, ← leftV_first]
    exact hg
  · have h6 : (List.replicate c0.toNat ([] : Con))[i]? = some c := hi
    rw [List.getElem?_replicate] at h6
    by_cases h7 : i < c0.toNat
    · rw [if_pos h7] at h6
      injection h6 with h6
      exact h6.symm
    · rw [if_neg h7] at h6; cases h6
  · have h2 := blk_lt hp
    have h3 := blk_lt hg
    have h4 := ho.lt
    show (if k = 0 then _ else if k = p then _ else if k = ob then _ else if k = gl then _ else _) = _
    rw [if_neg (by omega), if_neg (by omega), if_neg (by omega), if_neg (by omega)]
theorem infoM : (Tryd.prog.info? 59).map (fun i => (i.zero, i.size, i.bytes)) = some (some (.map none), 1, 8) := by kernel_rfl
theorem makeLeft (n : Int) (hn : 0 ≤ n ∧ n ≤ 16) (w : World) : (Instr.makeSlice 74 (.int .i64 n) (.int .i64 n)).run Tryd.prog w = .ok (.slice (some ⟨w.heap.size, 0, none⟩) n.toNat n.toNat) (w.alloc (.cells (madeCells #[.map none] n.toNat) 59)) := by
  obtain ⟨i, hi, hz⟩ := Option.map_eq_some_iff.1 infoM
  simp only [Prod.mk.injEq] at hz
  obtain ⟨h1, h2, h3⟩ := hz
  have h := run_make (P := Tryd.prog) w 74 59 i (.map none) Tryd.underlying74 hi h1 .i64 .i64 n n hn.1 (Int.le_refl _) (by rw [h3]; omega) (by omega)
  rw [h2, Nat.mul_one] at h
  exact h
theorem three_new (W : World) (a b c : Obj) : (((W.alloc a).alloc b).alloc c).heap[W.heap.size]? = some a ∧ (((W.alloc a).alloc b).alloc c).heap[W.heap.size + 1]? = some b ∧ (((W.alloc a).alloc b).alloc c).heap[W.heap.size + 1 + 1]? = some c ∧ Below W.heap.size W (((W.alloc a).alloc b).alloc c) := by
  have s1 : (W.alloc a).heap.size = W.heap.size + 1 := by simp
  have s2 : ((W.alloc a).alloc b).heap.size = W.heap.size + 1 + 1 := by simp
  refine ⟨?_, ?_, ?_, below_alloc (below_alloc (below_alloc (Below.refl W.heap.size W) a) b) c⟩
  · rw [lt_alloc (by omega), lt_alloc (by omega)]; exact heap_alloc_new W a
  · rw [lt_alloc (by omega), ← s1]; exact heap_alloc_new _ b
  · rw [← s2]; exact heap_alloc_new _ c
theorem OM.at_new {W : World} {s : Shape Nat} {b : Nat} (h : W.heap[b]? = some (.map #[] 0)) : OM Tryd.prog s W b [] := by
  have h0 : ∃ V : World, V.heap[b]? = some (.map #[] 0) ∧ OM Tryd.prog s V b [] := by
    refine ⟨{ W with heap := (W.heap.extract 0 b).push (.map #[] 0) }, ?_, ?_⟩
    · have hlt := blk_lt h
      simp [Array.getElem?_push]
      omega
    · have hlt := blk_lt h
      have h1 := OM.made (P := Tryd.prog) { W with heap := W.heap.extract 0 b } s
      have h2 : ({ W with heap := W.heap.extract 0 b } : World).heap.size = b := by simp; omega
      rw [h2] at h1
      exact h1
  obtain ⟨V, h1, h2⟩ := h0
  exact h2.block (by rw [h, h1])
theorem new_fin {w W0 W1 : World} (B0 : Below w.heap.size w W0) (G : Glob w) {c0 c1 c2 c3 c4 c5 : Int} {ob gl : Nat} (hb : Below W0.heap.size W0 W1)
    (hp : W1.heap[W0.heap.size + 1 + 1]? = some (.cells #[.int .i64 c0, .int .i64 c1, .int .i64 c2, .int .i64 c3, .int .i64 c4, .int .i64 c5, .map (some ob), .slice (some ⟨gl, 0, none⟩) c0.toNat c0.toNat, .int .i64 0, .slice none 0 0] 76 (0, 0)))
    (ho : W1.heap[ob]? = some (.map #[] 0)) (hg : W1.heap[gl]? = some (.cells (madeCells #[.map none] c0.toNat) 59 (0, 0))) (hn : (ob = W0.heap.size ∧ gl = W0.heap.size + 1) ∨ (gl = W0.heap.size ∧ ob = W0.heap.size + 1)) :
    w.heap.size ≤ W0.heap.size + 1 + 1 ∧ Below w.heap.size w W1 ∧ ∃ L : Lay, L.p = W0.heap.size + 1 + 1 ∧ St W1 L none2 (newM c0 c1 c2 c3 c4 c5) ∧ ∀ k, 0 < k → k < w.heap.size → L.role k = .out := by
  have h1 := B0.size
  have h2 := G.lt
  have hbb := B0.trans (hb.mono B0.size)
  refine ⟨by omega, hbb, Lay.first (W0.heap.size + 1 + 1) ob gl, rfl, St.first hp (OM.at_new ho) hg ⟨by omega, by omega, by omega⟩ ⟨by omega, by omega, by omega⟩ (G.below hbb), fun k hk hk2 => ?_⟩
  show (if k = 0 then _ else if k = W0.heap.size + 1 + 1 then _ else if k = ob then _ else if k = gl then _ else _) = _
  rw [if_neg (by omega), if_neg (by omega), if_neg (by omega), if_neg (by omega)]
set_option maxHeartbeats 4000000 in
set_option maxRecDepth 100000 in
theorem new17 {w : World} (hg : Glob w) (c0 c1 c2 c3 c4 c5 : Int) (h0 : 1 ≤ c0 ∧ c0 ≤ 16) (h1 : 1 ≤ c1 ∧ c1 ≤ 8) (h2 : 1024 ≤ c2 ∧ c2 ≤ 65536) (h3 : 2 ≤ c3 ∧ c3 ≤ 16) (h4 : 1 ≤ c4 ∧ c4 ≤ 8) (h5 : 1 ≤ c5 ∧ c5 ≤ 1048576) :
    Calls Tryd.prog 17 #[.agg #[.int .i64 c0, .int .i64 c1, .int .i64 c2, .int .i64 c3, .int .i64 c4, .int .i64 c5]] w fun e w' => ∃ p, e = .returned (.tuple #[.pointer (some ⟨p, 0, none⟩), .int .i64 0]) ∧ w.heap.size ≤ p ∧ Below w.heap.size w w' ∧
      ∃ L : Lay, L.p = p ∧ St w' L none2 (newM c0 c1 c2 c3 c4 c5) ∧ ∀ k, 0 < k → k < w.heap.size → L.role k = .out := by
  have hmm := @run_makeMap Tryd.prog
  have hms := makeLeft c0 (by omega)
  have G := Aside0.mk hg
  have d0 : decide (1 ≤ c0 ∧ c0 ≤ 16) = true := decide_eq_true h0
  have d1 : decide (1 ≤ c1 ∧ c1 ≤ 8) = true := decide_eq_true h1
  have d2 : decide (1024 ≤ c2 ∧ c2 ≤ 65536) = true := decide_eq_true h2
  have d3 : decide (2 ≤ c3 ∧ c3 ≤ 16) = true := decide_eq_true h3
  have d4 : decide (1 ≤ c4 ∧ c4 ≤ 8) = true := decide_eq_true h4
  have d5 : decide (1 ≤ c5 ∧ c5 ≤ 1048576) = true := decide_eq_true h5
  clear hg h0 h1 h2 h3 h4 h5
  go_enter Tryd.func17, Tryd.ntmps17
  go_upto_region 4 with (first
    | (go_at_call 33; refine (within33 _ _ _ _).mono ?_; rintro e w1 ⟨rfl, rfl⟩; rw [d0])
    | ((with_reducible refine gate_dst (N := 14) rfl ?_); refine gate_guard rfl ?_; refine goesL_ (some 14) rfl rfl Tryd.func33 (by kernel_rfl) rfl #[.int .i64 c1, .int .i64 1, .int .i64 8] rfl (by (try simp only [List.map_toArray, List.map_cons, List.map_nil]); first | done | rfl) ?_; refine (within33 _ _ _ _).mono ?_; rintro e w1 ⟨rfl, rfl⟩; rw [d1]; refine ⟨_, rfl, ?_⟩)
    | ((with_reducible refine gate_dst (N := 20) rfl ?_); refine gate_guard rfl ?_; refine goesL_ (some 20) rfl rfl Tryd.func33 (by kernel_rfl) rfl #[.int .i64 c2, .int .i64 1024, .int .i64 65536] rfl (by (try simp only [List.map_toArray, List.map_cons, List.map_nil]); first | done | rfl) ?_; refine (within33 _ _ _ _).mono ?_; rintro e w1 ⟨rfl, rfl⟩; rw [d2]; refine ⟨_, rfl, ?_⟩)
    | ((with_reducible refine gate_dst (N := 26) rfl ?_); refine gate_guard rfl ?_; refine goesL_ (some 26) rfl rfl Tryd.func33 (by kernel_rfl) rfl #[.int .i64 c3, .int .i64 2, .int .i64 16] rfl (by (try simp only [List.map_toArray, List.map_cons, List.map_nil]); first | done | rfl) ?_; refine (within33 _ _ _ _).mono ?_; rintro e w1 ⟨rfl, rfl⟩; rw [d3]; refine ⟨_, rfl, ?_⟩)
    | ((with_reducible refine gate_dst (N := 32) rfl ?_); refine gate_guard rfl ?_; refine goesL_ (some 32) rfl rfl Tryd.func33 (by kernel_rfl) rfl #[.int .i64 c4, .int .i64 1, .int .i64 8] rfl (by (try simp only [List.map_toArray, List.map_cons, List.map_nil]); first | done | rfl) ?_; refine (within33 _ _ _ _).mono ?_; rintro e w1 ⟨rfl, rfl⟩; rw [d4]; refine ⟨_, rfl, ?_⟩)
    | ((with_reducible refine gate_dst (N := 38) rfl ?_); refine gate_guard rfl ?_; refine goesL_ (some 38) rfl rfl Tryd.func33 (by kernel_rfl) rfl #[.int .i64 c5, .int .i64 1, .int .i64 1048576] rfl (by (try simp only [List.map_toArray, List.map_cons, List.map_nil]); first | done | rfl) ?_; refine (within33 _ _ _ _).mono ?_; rintro e w1 ⟨rfl, rfl⟩; rw [d5]; refine ⟨_, rfl, ?_⟩))
  obtain ⟨W0, hW0⟩ : ∃ W0, W0 = ((w.alloc (Obj.cells #[Value.int IntKind.i64 c0, Value.int IntKind.i64 c1, Value.int IntKind.i64 c2, Value.int IntKind.i64 c3, Value.int IntKind.i64 c4, Value.int IntKind.i64 c5] 39)).alloc (Obj.cells #[Value.int IntKind.i64 c0, Value.int IntKind.i64 c1, Value.int IntKind.i64 c2] 37)) := ⟨_, rfl⟩
  rw [← hW0]
  have B0 := Aside0.mk (show Below w.heap.size w W0 from by rw [hW0]; exact below_alloc (below_alloc (Below.refl w.heap.size w) _) _)
  have K0 : W0.heap[w.heap.size]? = some (.cells #[.int .i64 c0, .int .i64 c1, .int .i64 c2, .int .i64 c3, .int .i64 c4, .int .i64 c5] 39 (0, 0)) := by
    rw [hW0, lt_alloc (by simp)]
    exact heap_alloc_new w _
  have K1 : W0.heap[w.heap.size + 1]? = some (.cells #[.int .i64 c0, .int .i64 c1, .int .i64 c2] 37 (0, 0)) := by
    rw [hW0]
    have h1 := heap_alloc_new (w.alloc (Obj.cells #[Value.int IntKind.i64 c0, Value.int IntKind.i64 c1, Value.int IntKind.i64 c2, Value.int IntKind.i64 c3, Value.int IntKind.i64 c4, Value.int IntKind.i64 c5] 39)) (Obj.cells #[Value.int IntKind.i64 c0, Value.int IntKind.i64 c1, Value.int IntKind.i64 c2] 37)
    simpa using h1
  have y0 : W0.cell? ⟨w.heap.size, 0, none⟩ = some (.int .i64 c0) := blk_cell K0 0
  have y1 : W0.cell? ⟨w.heap.size, 1, none⟩ = some (.int .i64 c1) := blk_cell K0 1
  have y2 : W0.cell? ⟨w.heap.size, 2, none⟩ = some (.int .i64 c2) := blk_cell K0 2
  have y3 : W0.cell? ⟨w.heap.size, 3, none⟩ = some (.int .i64 c3) := blk_cell K0 3
  have y4 : W0.cell? ⟨w.heap.size, 4, none⟩ = some (.int .i64 c4) := blk_cell K0 4
  have y5 : W0.cell? ⟨w.heap.size, 5, none⟩ = some (.int .i64 c5) := blk_cell K0 5
  have y6 : W0.cell? ⟨w.heap.size + 1, 0, none⟩ = some (.int .i64 c0) := blk_cell K1 0
  clear K0 K1 hW0 d0 d1 d2 d3 d4 d5
  have ka : ∀ (w1 : World) (o : Obj), (w1.cell? ⟨w.heap.size, 0, none⟩ = some (.int .i64 c0) ∧ w1.cell? ⟨w.heap.size, 1, none⟩ = some (.int .i64 c1) ∧ w1.cell? ⟨w.heap.size, 2, none⟩ = some (.int .i64 c2) ∧ w1.cell? ⟨w.heap.size, 3, none⟩ = some (.int .i64 c3) ∧ w1.cell? ⟨w.heap.size, 4, none⟩ = some (.int .i64 c4) ∧ w1.cell? ⟨w.heap.size, 5, none⟩ = some (.int .i64 c5) ∧ w1.cell? ⟨w.heap.size + 1, 0, none⟩ = some (.int .i64 c0)) → (w1.alloc o).cell? ⟨w.heap.size, 0, none⟩ = some (.int .i64 c0) ∧ (w1.alloc o).cell? ⟨w.heap.size, 1, none⟩ = some (.int .i64 c1) ∧ (w1.alloc o).cell? ⟨w.heap.size, 2, none⟩ = some (.int .i64 c2) ∧ (w1.alloc o).cell? ⟨w.heap.size, 3, none⟩ = some (.int .i64 c3) ∧ (w1.alloc o).cell? ⟨w.heap.size, 4, none⟩ = some (.int .i64 c4) ∧ (w1.alloc o).cell? ⟨w.heap.size, 5, none⟩ = some (.int .i64 c5) ∧ (w1.alloc o).cell? ⟨w.heap.size + 1, 0, none⟩ = some (.int .i64 c0) := fun w1 o ⟨a0, a1, a2, a3, a4, a5, a6⟩ => ⟨pw_cell_below (below_alloc (Below.refl _ w1) o) a0, pw_cell_below (below_alloc (Below.refl _ w1) o) a1, pw_cell_below (below_alloc (Below.refl _ w1) o) a2, pw_cell_below (below_alloc (Below.refl _ w1) o) a3, pw_cell_below (below_alloc (Below.refl _ w1) o) a4, pw_cell_below (below_alloc (Below.refl _ w1) o) a5, pw_cell_below (below_alloc (Below.refl _ w1) o) a6⟩
  have kd : ∀ (w1 : World), (w1.cell? ⟨w.heap.size, 0, none⟩ = some (.int .i64 c0) ∧ w1.cell? ⟨w.heap.size, 1, none⟩ = some (.int .i64 c1) ∧ w1.cell? ⟨w.heap.size, 2, none⟩ = some (.int .i64 c2) ∧ w1.cell? ⟨w.heap.size, 3, none⟩ = some (.int .i64 c3) ∧ w1.cell? ⟨w.heap.size, 4, none⟩ = some (.int .i64 c4) ∧ w1.cell? ⟨w.heap.size, 5, none⟩ = some (.int .i64 c5) ∧ w1.cell? ⟨w.heap.size + 1, 0, none⟩ = some (.int .i64 c0)) → w1.drew.cell? ⟨w.heap.size, 0, none⟩ = some (.int .i64 c0) ∧ w1.drew.cell? ⟨w.heap.size, 1, none⟩ = some (.int .i64 c1) ∧ w1.drew.cell? ⟨w.heap.size, 2, none⟩ = some (.int .i64 c2) ∧ w1.drew.cell? ⟨w.heap.size, 3, none⟩ = some (.int .i64 c3) ∧ w1.drew.cell? ⟨w.heap.size, 4, none⟩ = some (.int .i64 c4) ∧ w1.drew.cell? ⟨w.heap.size, 5, none⟩ = some (.int .i64 c5) ∧ w1.drew.cell? ⟨w.heap.size + 1, 0, none⟩ = some (.int .i64 c0) := fun w1 h => h
  go_region_held3 (fun w' => w'.cell? ⟨w.heap.size, 0, none⟩ = some (.int .i64 c0) ∧ w'.cell? ⟨w.heap.size, 1, none⟩ = some (.int .i64 c1) ∧ w'.cell? ⟨w.heap.size, 2, none⟩ = some (.int .i64 c2) ∧ w'.cell? ⟨w.heap.size, 3, none⟩ = some (.int .i64 c3) ∧ w'.cell? ⟨w.heap.size, 4, none⟩ = some (.int .i64 c4) ∧ w'.cell? ⟨w.heap.size, 5, none⟩ = some (.int .i64 c5) ∧ w'.cell? ⟨w.heap.size + 1, 0, none⟩ = some (.int .i64 c0)) (((repeat (first | with_reducible refine kd _ ?_ | with_reducible refine ka _ _ ?_)); with_reducible exact ⟨y0, y1, y2, y3, y4, y5, y6⟩)) (first | fail)
  all_goals
    clear ka kd y0 y1 y2 y3 y4 y5 y6 hms hmm
    go_wp2
    go_ret2
  · obtain ⟨t1, t2, t3, t4⟩ := three_new W0 (.map #[] 0) (.cells (madeCells #[.map none] c0.toNat) 59) (.cells #[.int .i64 c0, .int .i64 c1, .int .i64 c2, .int .i64 c3, .int .i64 c4, .int .i64 c5, .map (some W0.heap.size), .slice (some ⟨W0.heap.size + 1, 0, none⟩) c0.toNat c0.toNat, .int .i64 0, .slice none 0 0] 76)
    exact ⟨_, rfl, new_fin B0.out G.out (t4.trans (below_drew (Below.refl _ _))) t3 t1 t2 (.inl ⟨rfl, rfl⟩)⟩
  · obtain ⟨t1, t2, t3, t4⟩ := three_new W0 (.cells (madeCells #[.map none] c0.toNat) 59) (.map #[] 0) (.cells #[.int .i64 c0, .int .i64 c1, .int .i64 c2, .int .i64 c3, .int .i64 c4, .int .i64 c5, .map (some (W0.heap.size + 1)), .slice (some ⟨W0.heap.size, 0, none⟩) c0.toNat c0.toNat, .int .i64 0, .slice none 0 0] 76)
    exact ⟨_, rfl, new_fin B0.out G.out (t4.trans (below_drew (Below.refl _ _))) t3 t2 t1 (.inr ⟨rfl, rfl⟩)⟩
end Go.Proofs.YtcdfdckdodgbpaaDoor.QA

/-! TAlive -/
namespace Go.Proofs.YtcdfdckdodgbpaaDoor.QA
open Go.RowKit Go.Maps Go.Proofs.YtcdfdckdodgbpaaDoorW.PrintWords Go.Proofs.YtcdfdckdodgbpaaDoorW.PrintLast Go.Proofs.YtcdfdckdodgbpaaDoorW.PrintMore
set_option linter.unusedVariables false
set_option linter.unusedSimpArgs false
theorem below_goes {w wA w1 : World} {L L1 : Lay} (hb : Below w.heap.size w wA) (hg : Goes wA L w1 L1) (hr : ∀ k, 0 < k → k < w.heap.size → L.role k = .out) (h0 : L.role 0 = .glob) : Below w.heap.size w w1 :=
  ⟨hg.mv.os.trans hb.os, hg.mv.tape.trans hb.tape, hg.mv.output.trans hb.output, Nat.le_trans hb.size hg.mv.size, fun k hk => (hg.mv.block k (Nat.lt_of_lt_of_le hk hb.size) (fun h => by
    by_cases e : k = 0
    · exact h.2 (e ▸ h0)
    · exact h.1 (hr k (by omega) hk))).trans (hb.block k hk)⟩
def mA : PSt := newM 2 2 1024 2 2 100
def mB : PSt := mA.begin_ 3
def mC : PSt := mB.changed 3 ⟨8, 5, false⟩
theorem aliveM : mA.beginE 3 = 0 ∧ mB.changedE 3 ⟨8, 5, false⟩ = 0 ∧ mC.beginE 3 = 160 ∧ mC.used = 90 ∧ mC.kept = 154 ∧ mC.getV 3 8 = 5 ∧ mC.getB 3 8 = true ∧ mC.askedE 3 8 = 0 ∧ (mC.get 3 8).endE 3 = 0 ∧ (mC.get 3 8).done.length = 0 := by
  refine ⟨?_, ?_, ?_, ?_, ?_, ?_, ?_, ?_, ?_, ?_⟩ <;> kernel_rfl
set_option maxHeartbeats 4000000 in
set_option maxRecDepth 100000 in
theorem alive7 {w : World} (hg : Glob w) : Calls Tryd.prog 7 #[] w fun e w' => e = .returned (.bool true) ∧ Below w.heap.size w w' := by
  have G := Aside0.mk hg
  have okA := Aside0.mk (show Ok mA from newM_ok (by omega) (by omega) (by omega) (by omega) (by omega))
  have okB := Aside0.mk (show Ok mB from okA.out.begin_ 3)
  have okC := Aside0.mk (show Ok mC from okB.out.changed 3 ⟨8, 5, false⟩ rfl)
  have okD := Aside0.mk (show Ok (mC.get 3 8) from okC.out.get 3 8)
  have A := Aside0.mk aliveM
  have a1 := Aside0.mk A.out.1
  have a2 := Aside0.mk A.out.2.1
  have a3 := Aside0.mk A.out.2.2.1
  have a4 := Aside0.mk A.out.2.2.2.1
  have a5 := Aside0.mk A.out.2.2.2.2.1
  have a6 := Aside0.mk A.out.2.2.2.2.2.1
  have a7 := Aside0.mk A.out.2.2.2.2.2.2.1
  have a8 := Aside0.mk A.out.2.2.2.2.2.2.2.1
  have a9 := Aside0.mk A.out.2.2.2.2.2.2.2.2.1
  have a10 := Aside0.mk (show (mC.get 3 8).done.length < 5000000000000 from by rw [A.out.2.2.2.2.2.2.2.2.2]; omega)
  have HB2 := Aside0.mk (show mC.begin_ 3 = mC from by unfold PSt.begin_; rw [a3.out, if_neg (by decide)])
  clear hg A
  go_enter Tryd.func7, Tryd.ntmps7
  go_wp2_with (first
    | (go_at_call 18; refine (tidemarklaw18_small.calls 2 2 1024 2 2 100 _ rfl).mono ?_; rintro e w1 ⟨rfl, hb⟩
       have B1 := Aside0.mk hb
       clear hb)
    | (go_at_call 17; refine (new17 (G.out.below B1.out) 2 2 1024 2 2 100 (by omega) (by omega) (by omega) (by omega) (by omega) (by omega)).mono ?_; rintro e w2 ⟨p, rfl, hp, hb, L, rfl, hs, hr⟩
       have B2 := Aside0.mk (B1.out.trans (hb.mono B1.out.size))
       have S2 := Aside0.mk (show St w2 L none2 mA from hs)
       have RR := Aside0.mk (show ∀ k, 0 < k → k < w.heap.size → L.role k = .out from fun k hk hk2 => hr k hk (Nat.lt_of_lt_of_le hk2 B1.out.size))
       have R0 := Aside0.mk (show L.role 0 = .glob from hs.c.elim fun _ c => c.r0)
       obtain ⟨ps, hps⟩ : ∃ ps, ps = L.p := ⟨_, rfl⟩
       have HP := Aside0.mk hps
       rw [← hps]
       clear hp hb hs hr hps)
    | ((with_reducible refine gate_dst (N := 17) rfl ?_); refine gate_guard rfl ?_; refine goesL_ (some 17) rfl rfl Tryd.func19 (by kernel_rfl) rfl #[.int .i64 0] rfl (by (try simp only [List.map_toArray, List.map_cons, List.map_nil]); first | done | rfl) ?_; refine (num19 _ _).mono ?_; rintro e w3 ⟨rfl, rfl⟩; refine ⟨_, rfl, ?_⟩)
    | ((with_reducible refine gate_dst (N := 22) rfl ?_); refine gate_guard rfl ?_; refine goesL_ (some 22) rfl rfl Tryd.func20 (by kernel_rfl) rfl #[.pointer (some ⟨ps, 0, none⟩), .int .i64 3] rfl (by (try simp only [List.map_toArray, List.map_cons, List.map_nil]); first | done | rfl) ?_
       rw [HP.out]
       refine (begin20 S2.out okA.out 3 rfl).mono ?_; rintro e w4 ⟨rfl, L4, hs, hg⟩
       rw [a1.out, ← HP.out]
       have S4 := Aside0.mk (show St w4 L4 none2 mB from hs)
       have G4 := Aside0.mk hg
       clear hs hg
       refine ⟨_, rfl, ?_⟩)
    | ((with_reducible refine gate_dst (N := 23) rfl ?_); refine gate_guard rfl ?_; refine goesL_ (some 23) rfl rfl Tryd.func19 (by kernel_rfl) rfl #[.int .i64 0] rfl (by (try simp only [List.map_toArray, List.map_cons, List.map_nil]); first | done | rfl) ?_; refine (num19 _ _).mono ?_; rintro e w5 ⟨rfl, rfl⟩; refine ⟨_, rfl, ?_⟩)
    | ((with_reducible refine gate_dst (N := 28) rfl ?_); refine gate_guard rfl ?_; refine goesL_ (some 28) rfl rfl Tryd.func21 (by kernel_rfl) rfl #[.pointer (some ⟨ps, 0, none⟩), .int .i64 3, .int .i64 8, .int .u64 5] rfl (by (try simp only [List.map_toArray, List.map_cons, List.map_nil]); first | done | rfl) ?_
       rw [HP.out, ← G4.out.p]
       refine (put21 S4.out okB.out 3 8 5 rfl rfl).mono ?_; rintro e w6 ⟨rfl, L6, hs, hg⟩
       rw [a2.out, G4.out.p, ← HP.out]
       have S6 := Aside0.mk (show St w6 L6 none2 mC from hs)
       have G6 := Aside0.mk (G4.out.trans hg)
       clear hs hg
       refine ⟨_, rfl, ?_⟩)
    | ((with_reducible refine gate_dst (N := 29) rfl ?_); refine gate_guard rfl ?_; refine goesL_ (some 29) rfl rfl Tryd.func19 (by kernel_rfl) rfl #[.int .i64 0] rfl (by (try simp only [List.map_toArray, List.map_cons, List.map_nil]); first | done | rfl) ?_; refine (num19 _ _).mono ?_; rintro e w7 ⟨rfl, rfl⟩; refine ⟨_, rfl, ?_⟩)
    | ((with_reducible refine gate_dst (N := 34) rfl ?_); refine gate_guard rfl ?_; refine goesL_ (some 34) rfl rfl Tryd.func20 (by kernel_rfl) rfl #[.pointer (some ⟨ps, 0, none⟩), .int .i64 3] rfl (by (try simp only [List.map_toArray, List.map_cons, List.map_nil]); first | done | rfl) ?_
       rw [HP.out, ← G6.out.p]
       refine (begin20 S6.out okC.out 3 rfl).mono ?_; rintro e w8 ⟨rfl, L8, hs, hg⟩
       rw [a3.out, G6.out.p, ← HP.out]
       rw [HB2.out] at hs
       have S8 := Aside0.mk hs
       have G8 := Aside0.mk (G6.out.trans hg)
       clear hs hg
       refine ⟨_, rfl, ?_⟩)
    | ((with_reducible refine gate_dst (N := 35) rfl ?_); refine gate_guard rfl ?_; refine goesL_ (some 35) rfl rfl Tryd.func19 (by kernel_rfl) rfl #[.int .i64 160] rfl (by (try simp only [List.map_toArray, List.map_cons, List.map_nil]); first | done | rfl) ?_; refine (num19 _ _).mono ?_; rintro e w9 ⟨rfl, rfl⟩; refine ⟨_, rfl, ?_⟩)
    | (go_at_call 13; rw [HP.out, ← G8.out.p]; refine (used13 S8.out okC.out).mono ?_; rintro e w10 ⟨rfl, hb⟩
       rw [a4.out, a5.out, G8.out.p, ← HP.out]
       have S10 := Aside0.mk (S8.out.below hb)
       have G10 := Aside0.mk (G8.out.trans (Goes.of_below (L := L8) hb))
       clear hb)
    | (go_at_call 22; rw [HP.out, ← G10.out.p]; refine (get_ok S10.out okC.out 3 8 rfl rfl a8.out).mono ?_; rintro e w11 ⟨rfl, L11, hs, hg⟩
       rw [a6.out, a7.out, G10.out.p, ← HP.out]
       have S11 := Aside0.mk hs
       have G11 := Aside0.mk (G10.out.trans hg)
       clear hs hg)
    | ((with_reducible refine gate_dst (N := 64) rfl ?_); refine gate_guard rfl ?_; refine goesL_ (some 64) rfl rfl Tryd.func19 (by kernel_rfl) rfl #[.int .i64 0] rfl (by (try simp only [List.map_toArray, List.map_cons, List.map_nil]); first | done | rfl) ?_; refine (num19 _ _).mono ?_; rintro e w12 ⟨rfl, rfl⟩; refine ⟨_, rfl, ?_⟩)
    | ((with_reducible refine gate_dst (N := 69) rfl ?_); refine gate_guard rfl ?_; refine goesL_ (some 69) rfl rfl Tryd.func23 (by kernel_rfl) rfl #[.pointer (some ⟨ps, 0, none⟩), .int .i64 3] rfl (by (try simp only [List.map_toArray, List.map_cons, List.map_nil]); first | done | rfl) ?_
       rw [HP.out, ← G11.out.p]
       refine (commit23 S11.out okD.out 3 rfl a10.out).mono ?_; rintro e w13 ⟨rfl, L13, hs, hg⟩
       rw [a9.out, G11.out.p, ← HP.out]
       have G13 := Aside0.mk (G11.out.trans hg)
       clear hs hg
       refine ⟨_, rfl, ?_⟩)
    | ((with_reducible refine gate_dst (N := 70) rfl ?_); refine gate_guard rfl ?_; refine goesL_ (some 70) rfl rfl Tryd.func19 (by kernel_rfl) rfl #[.int .i64 0] rfl (by (try simp only [List.map_toArray, List.map_cons, List.map_nil]); first | done | rfl) ?_; refine (num19 _ _).mono ?_; rintro e w14 ⟨rfl, rfl⟩; refine ⟨_, rfl, ?_⟩))
  go_ret
  exact ⟨rfl, below_goes B2.out G13.out RR.out R0.out⟩
end Go.Proofs.YtcdfdckdodgbpaaDoor.QA

/-! PureFold -/
namespace Go.Proofs.YtcdfdckdodgbpaaDoor.QA
open Go.RowKit Go.Maps Go.Proofs.YtcdfdckdodgbpaaDoorW.PrintWords Go.Proofs.YtcdfdckdodgbpaaDoorW.PrintLast Go.Proofs.YtcdfdckdodgbpaaDoorW.PrintMore
set_option linter.unusedVariables false
set_option linter.unusedSimpArgs false
def ents (c : Con) : List S71 := c.map fun p => ⟨p.1, p.2⟩
theorem ents_length (c : Con) : (ents c).length = c.length := by simp [ents]
def goF (a b : Int) : Con → Bool → Con
  | [], laid => if laid then [] else [(a, b)]
  | p :: r, laid => (if !laid && decide (a ≤ p.1) then [(a, b)] else []) ++ (if p.1 = a then [] else [p]) ++ goF a b r (laid || decide (a ≤ p.1))
theorem w64f {n : Nat} (h : n < 8796093022208) : wrap64 ((n : Int) + 1) = ((n + 1 : Nat) : Int) := by unfold wrap64; omega
theorem l2_go (x0 : List (List S57)) (c : Con) (i j a b : Int) (g : Bool) (hc : c.length < 8796093022208) : ∀ (rest : Con) (n : Nat) (nx : List S71) (laid : Bool) (k : Nat), c.drop n = rest → nx.length + 2 * rest.length + 1 < 8796093022208 →
    tidemarkref18_Fold.l2 (k + 2 * rest.length + 1) x0 (ents c) i j nx laid (n : Int) a b g = tidemarkref18_Fold.l1 k x0 (nx ++ ents (goF a b rest laid)) i (wrap64 (j + 1))
  | [], n, nx, laid, k, hd, hb => by
    have h1 : c.length ≤ n := List.drop_eq_nil_iff.1 hd
    rw [List.length_nil] at hb
    show tidemarkref18_Fold.l2 (k + 1) x0 (ents c) i j nx laid (n : Int) a b g = _
    unfold tidemarkref18_Fold.l2
    rw [if_neg (by rw [ents_length]; omega)]
    cases laid with
    | true => rw [if_pos rfl]; simp [goF, ents]
    | false => rw [if_neg (by simp), if_pos (by omega)]; simp [goF, ents]
  | p :: r, n, nx, laid, k, hd, hb => by
    have hn : n < c.length := by
      rcases Nat.lt_or_ge n c.length with h | h
      · exact h
      · rw [List.drop_eq_nil_iff.2 h] at hd; cases hd
    have hp : c[n] = p ∧ c.drop (n + 1) = r := by
      rw [List.drop_eq_getElem_cons hn] at hd
      injection hd with h1 h2
      exact ⟨h1, h2⟩
    have hrd : rd_T71 (ents c) (n : Int) = ⟨p.1, p.2⟩ := by
      unfold rd_T71 ents
      simp [hn, hp.1]
    have hw : wrap64 ((n : Int) + 1) = ((n + 1 : Nat) : Int) := w64f (by omega)
    rw [List.length_cons] at hb
    have ih := l2_go x0 c i j a b g hc r (n + 1)
    have hlt : (n : Int) < ((ents c).length : Int) := by rw [ents_length]; omega
    show tidemarkref18_Fold.l2 (k + 2 * r.length + 1 + 1 + 1) x0 (ents c) i j nx laid (n : Int) a b g = _
    unfold tidemarkref18_Fold.l2
    rw [if_pos hlt]
    cases laid with
    | true =>
      rw [if_pos rfl]
      unfold tidemarkref18_Fold.j3
      rw [if_neg (by simp), if_pos (by omega), if_pos hlt, hrd, hw]
      dsimp only
      by_cases e : p.1 = a
      · rw [if_pos e, ih nx true k hp.2 (by omega)]
        simp [goF, e]
      · rw [if_neg e, if_pos (by omega), ih _ true k hp.2 (by rw [List.length_append, List.length_singleton]; omega)]
        simp [goF, e, ents]
    | false =>
      rw [if_neg (by simp), if_pos (by omega), hrd]
      dsimp only
      unfold tidemarkref18_Fold.j3
      by_cases h : a ≤ p.1
      · rw [if_pos (by simpa using h), if_pos (by omega), Option.bind_some, if_pos (by omega), if_pos hlt, hrd, hw]
        dsimp only
        by_cases e : p.1 = a
        · rw [if_pos e, ih _ true k hp.2 (by rw [List.length_append, List.length_singleton]; omega)]
          simp [goF, e, ents]
        · rw [if_neg e, if_pos (by rw [List.length_append, List.length_singleton]; omega), ih (nx ++ [(⟨a, b⟩ : S71)] ++ [(⟨p.1, p.2⟩ : S71)]) true k hp.2 (by rw [List.length_append, List.length_append, List.length_singleton, List.length_singleton]; omega)]
          simp [goF, e, ents, h]
      · have e : ¬ p.1 = a := by omega
        rw [if_neg (by simpa using h), if_pos (by omega), if_pos hlt, hrd, hw]
        dsimp only
        have hnx : nx.length < 8796093022208 := by omega
        rw [if_neg e, if_pos hnx, ih _ false k hp.2 (by rw [List.length_append, List.length_singleton]; omega)]
        simp [goF, e, ents, h]
theorem goF_true (a b : Int) : ∀ c : Con, goF a b c true = del c a
  | [] => rfl
  | p :: r => by
    have ih := goF_true a b r
    unfold goF
    rw [Bool.true_or, ih]
    unfold del
    by_cases e : p.1 = a
    · simp [e]
    · have : (p.1 == a) = false := by simpa using e
      simp [e, this]
theorem insK_first {p : Int × Int} : ∀ {l : Con}, (∀ q ∈ l, p.1 < q.1) → insK p l = p :: l
  | [], _ => rfl
  | a :: r, h => by
    have h1 := h a (List.mem_cons_self ..)
    unfold insK
    rw [if_pos (by omega)]
theorem goF_false (a b : Int) : ∀ c : Con, Up c → goF a b c false = put c a b
  | [], _ => rfl
  | p :: r, h => by
    have h1 := List.pairwise_cons.1 h
    have ih := goF_false a b r h1.2
    unfold goF put
    rw [Bool.false_or]
    by_cases e : p.1 = a
    · have h2 : decide (a ≤ p.1) = true := by simp; omega
      rw [h2, goF_true]
      have hd : del (p :: r) a = del r a := by unfold del; simp [e]
      rw [hd, insK_first (fun q hq => by have := h1.1 q ((mem_del _ _ _).1 hq).1; dsimp only; omega)]
      simp [e]
    · have hd : del (p :: r) a = p :: del r a := by
        have : (p.1 == a) = false := by simpa using e
        unfold del; simp [this]
      rw [hd]
      by_cases h3 : a ≤ p.1
      · have h2 : decide (a ≤ p.1) = true := by simpa using h3
        rw [h2, goF_true, insK_first (fun q hq => by
          rcases List.mem_cons.1 hq with rfl | hq
          · dsimp only; omega
          · have := h1.1 q ((mem_del _ _ _).1 hq).1; dsimp only; omega)]
        simp [e]
      · have h2 : decide (a ≤ p.1) = false := by simpa using h3
        rw [h2, ih]
        rw [show insK (a, b) (p :: del r a) = p :: insK (a, b) (del r a) from by
          show (if a < p.1 then _ else _) = _
          rw [if_neg (by omega)]]
        simp [e, put]
theorem goF_app (x : Chg) (c : Con) (h : Up c) : goF x.f0 x.f1 c x.f2 = app c x := by
  unfold app
  cases hg : x.f2 with
  | true => rw [goF_true, if_pos rfl]
  | false => rw [goF_false _ _ _ h, if_neg (by simp)]
theorem Up.app {c : Con} (h : Up c) (x : Chg) : Up (QA.app c x) := by
  unfold QA.app
  cases x.f2 with
  | true => exact h.del _
  | false => exact h.put _ _
theorem app_length (c : Con) (x : Chg) : (app c x).length ≤ c.length + 1 := by
  unfold app
  cases x.f2 with
  | true => rw [if_pos rfl]; have : (del c x.f0).length ≤ c.length := List.length_filter_le _ _; omega
  | false => rw [if_neg (by simp)]; exact length_put_le _ _ _
def as57 (x : S57) : Chg := ⟨x.f0, x.f1, x.f2⟩
def cntR (l : List (List S57)) : Nat := (l.map List.length).sum
theorem l1_row (x0 : List (List S57)) (i : Nat) (hi : i < x0.length) (r : List S71) : ∀ (n j : Nat) (c : Con), Up c → j + n = (x0[i]).length → 2 * (c.length + n) + 2 < 8796093022208 → (x0[i]).length < 8796093022208 →
    (∃ k, tidemarkref18_Fold.l0 k x0 (ents (((x0[i]).drop j).foldl (fun c x => app c (as57 x)) c)) ((i + 1 : Nat) : Int) = some r) → i + 1 < 8796093022208 → ∃ k, tidemarkref18_Fold.l1 k x0 (ents c) (i : Int) (j : Int) = some r
  | 0, j, c, hu, hj, hb, hl, ⟨k, hk⟩, hi2 => by
    refine ⟨k + 1, ?_⟩
    have hrow : rd_L5 x0 (i : Int) = x0[i] := by unfold rd_L5; simp [hi]
    unfold tidemarkref18_Fold.l1
    rw [if_pos (by omega), if_pos (by omega), hrow, if_neg (by omega), w64f (by omega)]
    rw [List.drop_eq_nil_iff.2 (by omega)] at hk
    exact hk
  | n + 1, j, c, hu, hj, hb, hl, h, hi2 => by
    have hj2 : j < (x0[i]).length := by omega
    have hrow : rd_L5 x0 (i : Int) = x0[i] := by unfold rd_L5; simp [hi]
    have hx : rd_T57 (x0[i]) (j : Int) = (x0[i])[j] := by unfold rd_T57; simp [hj2]
    obtain ⟨k, hk⟩ := l1_row x0 i hi r n (j + 1) (app c (as57 (x0[i])[j])) (hu.app _) (by omega) (by have := app_length c (as57 (x0[i])[j]); omega) hl (by
      rw [List.drop_eq_getElem_cons hj2, List.foldl_cons] at h
      exact h) hi2
    refine ⟨k + 2 * c.length + 1 + 1, ?_⟩
    unfold tidemarkref18_Fold.l1
    rw [if_pos (by omega), if_pos (by omega), hrow, if_pos (by omega), if_pos (by omega), hx]
    have h2 := l2_go x0 c (i : Int) (j : Int) (x0[i])[j].f0 (x0[i])[j].f1 (x0[i])[j].f2 (by omega) c 0 [] (x0[i])[j].f2 k rfl (by simp; omega)
    have h3 := goF_app (as57 (x0[i])[j]) c hu
    simp only [as57] at h3
    rw [h3, w64f (by omega)] at h2
    exact h2.trans hk
theorem l0_rows (x0 : List (List S57)) (hx0 : x0.length < 8796093022208) : ∀ (n i : Nat) (c : Con), Up c → i + n = x0.length → 2 * (c.length + cntR (x0.drop i)) + 2 < 8796093022208 →
    ∃ k, tidemarkref18_Fold.l0 k x0 (ents c) (i : Int) = some (ents ((x0.drop i).foldl (fun c t => t.foldl (fun c x => app c (as57 x)) c) c))
  | 0, i, c, hu, hi, hb => by
    refine ⟨1, ?_⟩
    unfold tidemarkref18_Fold.l0
    rw [if_neg (by omega), List.drop_eq_nil_iff.2 (by omega)]
    rfl
  | n + 1, i, c, hu, hi, hb => by
    have hi2 : i < x0.length := by omega
    have hup : ∀ (l : List S57) (c : Con), Up c → Up (l.foldl (fun c x => app c (as57 x)) c) ∧ (l.foldl (fun c x => app c (as57 x)) c).length ≤ c.length + l.length := by
      intro l
      induction l with
      | nil => intro c h; exact ⟨h, Nat.le_refl _⟩
      | cons a r ih => intro c h; have h1 := ih _ (h.app (as57 a)); have h2 := app_length c (as57 a); rw [List.foldl_cons, List.length_cons]; exact ⟨h1.1, Nat.le_trans h1.2 (by omega)⟩
    rw [List.drop_eq_getElem_cons hi2, List.foldl_cons]
    have hcn : cntR (x0.drop i) = (x0[i]).length + cntR (x0.drop (i + 1)) := by rw [List.drop_eq_getElem_cons hi2]; unfold cntR; rw [List.map_cons, List.sum_cons]
    have h3 := hup (x0[i]) c hu
    obtain ⟨k, hk⟩ := l0_rows x0 hx0 n (i + 1) _ h3.1 (by omega) (Nat.lt_of_le_of_lt (Nat.add_le_add_right (Nat.mul_le_mul_left 2 (Nat.add_le_add_right h3.2 _)) 2) (by omega))
    obtain ⟨k2, hk2⟩ := l1_row x0 i hi2 _ (x0[i]).length 0 c hu (by omega) (by omega) (by omega) ⟨k, hk⟩ (by omega)
    refine ⟨k2 + 1, ?_⟩
    unfold tidemarkref18_Fold.l0
    rw [if_pos (by omega)]
    exact hk2
theorem ref_fold (x0 : List (List S57)) (hx0 : x0.length < 8796093022208) (hb : 2 * cntR x0 + 2 < 8796093022208) : ∃ k, tidemarkref18_Fold.f k x0 = some (ents (foldC (x0.map fun t => t.map as57))) := by
  obtain ⟨k, hk⟩ := l0_rows x0 hx0 x0.length 0 [] Up.nil (by omega) (by simp; omega)
  refine ⟨k, ?_⟩
  unfold tidemarkref18_Fold.f foldC
  rw [List.foldl_map]
  simp only [List.foldl_map]
  exact hk
end Go.Proofs.YtcdfdckdodgbpaaDoor.QA

/-! PureSortE -/
namespace Go.Proofs.YtcdfdckdodgbpaaDoor.QA
open Go.RowKit Go.Maps Go.Proofs.YtcdfdckdodgbpaaDoorW.PrintWords Go.Proofs.YtcdfdckdodgbpaaDoorW.PrintLast Go.Proofs.YtcdfdckdodgbpaaDoorW.PrintMore
set_option linter.unusedVariables false
set_option linter.unusedSimpArgs false
open Go.Sort Go.Proofs
def entV (x : S71) : List Value := [.int .i64 x.f0, .int .u64 x.f1]
instance : Inhabited S71 := ⟨z71⟩
theorem entV_len (x : S71) : (entV x).length = 2 := rfl
/-- The cells of a row of entries, as a flat list. -/
theorem reps_flat {R : S71 → List Value → Prop} (hR : ∀ x cs, R x cs → cs = entV x) {xs : List S71} {inner : List Value} (h : Reps R 2 xs inner) : inner.toArray = flatK entV 2 xs.toArray := by
  apply Array.ext
  · rw [size_flatK]; simpa using h.1
  · intro t h1 h2
    have ht : t < xs.toArray.size * 2 := by rw [size_flatK] at h2; exact h2
    have h3 := get_flatK entV 2 xs.toArray t ht
    rw [getElem!_pos _ t h2] at h3
    rw [h3]
    have hq : t / 2 < xs.length := by simp at ht; omega
    have h4 := hR _ _ (h.2 (t / 2) xs[t / 2] (List.getElem?_eq_getElem hq))
    have h5 : ((inner.drop (t / 2 * 2)).take 2)[t % 2]? = inner[t]? := by
      rw [List.getElem?_take_of_lt (by omega), List.getElem?_drop]
      congr 1
      omega
    rw [h4] at h5
    have h6 : t < inner.length := by simpa using h1
    rw [List.getElem?_eq_getElem h6] at h5
    have h7 : xs.toArray[t / 2]! = xs[t / 2] := by rw [getElem!_pos _ _ (by simpa using hq)]; simp
    rw [h7]
    have h8 : t % 2 < (entV xs[t / 2]).length := by rw [entV_len]; omega
    rw [getElem!_pos (entV xs[t / 2]) (t % 2) h8]
    rw [List.getElem?_eq_getElem h8] at h5
    injection h5 with h5
    simpa using h5.symm
theorem flat_reps {R : S71 → List Value → Prop} (hR : ∀ x, R x (entV x)) (ys : List S71) : Reps R 2 ys (flatK entV 2 ys.toArray).toList := by
  refine ⟨by simp, fun j p hj => ?_⟩
  obtain ⟨hl, hp⟩ := List.getElem?_eq_some_iff.1 hj
  have he : (((flatK entV 2 ys.toArray).toList.drop (j * 2)).take 2) = entV p := by
    apply List.ext_getElem?
    intro i
    by_cases hi : i < 2
    · have ht : j * 2 + i < ys.toArray.size * 2 := by simp; omega
      have h3 := get_flatK entV 2 ys.toArray (j * 2 + i) ht
      rw [getElem!_pos _ _ (by rw [size_flatK]; exact ht)] at h3
      rw [List.getElem?_take_of_lt hi, List.getElem?_drop, List.getElem?_eq_getElem (by simp; omega), Array.getElem_toList, h3]
      have h1 : (j * 2 + i) / 2 = j := by omega
      have h2 : (j * 2 + i) % 2 = i := by omega
      have h7 : ys.toArray[j]! = p := by rw [getElem!_pos _ _ (by simpa using hl)]; simpa using hp
      rw [h1, h2, h7, getElem!_pos _ _ (by rw [entV_len]; exact hi), List.getElem?_eq_getElem (by rw [entV_len]; exact hi)]
    · rw [List.getElem?_take_eq_none (by omega), List.getElem?_eq_none (by rw [entV_len]; omega)]
  rw [he]
  exact hR p
theorem holds_of_blockV {w : World} {g : Nat} {cur : Array Value} {e : TypeId} {ss : List Value} (hb : w.heap[g]? = some (.cells cur e (0, 0))) (ht : cur.toList.take ss.length = ss) : Holds id w g 0 ss.toArray := by
  intro j hj
  have hj' : j < ss.length := by simpa using hj
  refine ⟨?_, by simp [World.frozen?, hb]⟩
  have h1 : (cur.toList.take ss.length)[j]? = ss[j]? := by rw [ht]
  rw [List.getElem?_take_of_lt hj'] at h1
  simp only [World.cell?, hb, Nat.zero_add]
  simp only [Option.isSome_none, Bool.false_eq_true, if_false]
  rw [← Array.getElem?_toList, h1]
  simp [hj']
theorem heap_sortedV {w : World} {g n : Nat} {os : Array Obj} {cur : Array Value} {e : TypeId} {fr : Nat × Nat} (d : Array Value) (hb : w.heap[g]? = some (.cells cur e fr)) :
    (grow (putRow id (Sort.ahead w n) g 0 d) os).heap[g]? = some (.cells (putCells id 0 d cur) e fr) := by
  have hg : g < w.heap.size := (Array.getElem?_eq_some_iff.1 hb).1
  rw [heap_grow_old _ _ (by simpa using hg)]
  simp [putRow, mapBlock, Sort.ahead, Array.getElem?_modify, hb, onCells]
theorem grownBy_sortedV {w : World} {g n : Nat} {os : Array Obj} (d : Array Value) : w.grownBy (grow (putRow id (Sort.ahead w n) g 0 d) os) (some g) := by
  refine ⟨rfl, rfl, rfl, by simp, fun k hk hne => ?_⟩
  rw [heap_grow_old _ _ (by simpa using hk)]
  have : g ≠ k := fun e => hne (by rw [e])
  simp [putRow, mapBlock, Sort.ahead, Array.getElem?_modify, this]
theorem take_putCellsV (cur : Array Value) (ts : List Value) (h : ts.length ≤ cur.size) : (putCells id 0 ts.toArray cur).toList.take ts.length = ts := by
  apply List.ext_getElem?
  intro j
  by_cases hj : j < ts.length
  · rw [List.getElem?_take_of_lt hj, Array.getElem?_toList]
    simp [putCells, hj, show j < cur.size by omega]
  · rw [List.getElem?_take_eq_none (by omega), List.getElem?_eq_none (by omega)]
theorem ownsRow_sortedV {w : World} {base g cap n len : Nat} {e : TypeId} {os : Array Obj} {cur : Array Value} {ts : List Value} (hl : ts.length = len * 2) (hbase : base ≤ g) (hb : w.heap[g]? = some (.cells cur e (0, 0)))
    (h1 : len ≤ cap) (h2 : cap ≤ maxLen) (h3 : cur.size = cap * 2) :
    (grow (putRow id (Sort.ahead w n) g 0 ts.toArray) os).ownsRow base e 2 (.slice (some ⟨g, 0, none⟩) len cap) len ts :=
  ⟨hl, .inr ⟨g, cap, _, rfl, hbase, heap_sortedV _ hb, h1, h2, by simp [putCells, h3], by rw [← hl]; exact take_putCellsV cur ts (by omega)⟩⟩
/-- A list of entries that do not fall, and hold what a content holds, is the content. -/
theorem ents_is {ys : List S71} {ds c : Con} (hp : ys.Perm (ents ds)) (hd : ds.Perm c) (hu : Up c) (hs : ys.Pairwise fun a b => ¬ b.f0 < a.f0) : ys = ents c := by
  have h1 : (ys.map fun e => (e.f0, e.f1)).Perm c := by
    have h2 := hp.map (fun e : S71 => (e.f0, e.f1))
    have h3 : (ents ds).map (fun e : S71 => (e.f0, e.f1)) = ds := by unfold ents; rw [List.map_map]; exact List.map_id' ds
    rw [h3] at h2
    exact h2.trans hd
  have hn : (c.map (·.1)).Nodup := by rw [List.Nodup, List.pairwise_map]; exact hu.imp (fun h e => by omega)
  have hn2 : ((ys.map fun e => (e.f0, e.f1)).map (·.1)).Nodup := (h1.map _).nodup_iff.2 hn
  have hu2 : Up (ys.map fun e => (e.f0, e.f1)) := by
    rw [List.map_map, List.Nodup, List.pairwise_map] at hn2
    unfold Up
    rw [List.pairwise_map]
    refine (hs.and hn2).imp ?_
    rintro a b ⟨h4, h5⟩
    have h6 : a.f0 ≠ b.f0 := h5
    show a.f0 < b.f0
    omega
  have h7 := hu2.ext_mem hu (fun p => h1.mem_iff)
  rw [← h7]
  unfold ents
  rw [List.map_map]
  exact (List.map_id' ys).symm
end Go.Proofs.YtcdfdckdodgbpaaDoor.QA

/-! TSortE -/
namespace Go.Proofs.YtcdfdckdodgbpaaDoor.QA
open Go.RowKit Go.Maps Go.Proofs.YtcdfdckdodgbpaaDoorW.PrintWords Go.Proofs.YtcdfdckdodgbpaaDoorW.PrintLast Go.Proofs.YtcdfdckdodgbpaaDoorW.PrintMore
set_option linter.unusedVariables false
set_option linter.unusedSimpArgs false
open Go.Sort Go.Proofs
def cmpE (x y : S71) : Int := if x.f0 < y.f0 then -1 else 1
theorem cmpE_lt (x y : S71) : ltOf cmpE x y = decide (x.f0 < y.f0) := by
  unfold ltOf cmpE
  by_cases h : x.f0 < y.f0
  · simp [h]
  · simp [h]
theorem cmpE_order : SWO (ltOf cmpE) := ⟨fun x => by rw [cmpE_lt]; simp, fun x y z h1 h2 => by rw [cmpE_lt] at *; simp at *; omega, fun x y z h1 h2 => by rw [cmpE_lt] at *; simp at *; omega⟩
set_option maxHeartbeats 1000000 in
theorem closure32 (x y : S71) (W : World) : Calls Tryd.prog 32 #[.agg #[.int .i64 x.f0, .int .u64 x.f1], .agg #[.int .i64 y.f0, .int .u64 y.f1]] W fun e w' => e = .returned (.int .i64 (cmpE x y)) ∧ ∃ q os', w' = grow (W.drewN q) os' := by
  have hc : cmpE x y = if x.f0 < y.f0 then -1 else 1 := rfl
  rw [hc]
  by_cases h : x.f0 < y.f0
  · rw [if_pos h]
    have h2 : decide (x.f0 < y.f0) = true := by simpa using h
    go_enter Tryd.func32, Tryd.ntmps32
    go_wp2
    go_ret
    exact ⟨rfl, 0, _, by rw [alloc_eq_grow, alloc_eq_grow, grow_grow]; rfl⟩
  · rw [if_neg h]
    have h2 : decide (x.f0 < y.f0) = false := by simpa using h
    go_enter Tryd.func32, Tryd.ntmps32
    go_wp2
    go_ret
    exact ⟨rfl, 0, _, by rw [alloc_eq_grow, alloc_eq_grow, grow_grow]; rfl⟩
theorem sortE {w : World} {base : Nat} {ok : Nat → Prop} {v : Value} {xs : List S71} (h : Kd.R k71 71 w base ok v xs) (hl : xs.length < 4611686018427387904) :
    Calls Tryd.prog 31 #[v, .func (.func 32) #[] #[]] w fun e w' => e = .returned (.tuple #[]) ∧ ∃ ys : List S71, ys.Perm xs ∧ (ys.Pairwise fun a b => ¬ b.f0 < a.f0) ∧ Kd.R k71 71 w' base ok v ys ∧ Mv w w' (fun k => some k = v.ownBlock) := by
  obtain ⟨hok, inner, hown, hreps⟩ := h
  have hflat := reps_flat (fun x cs hx => k71_openM hx) hreps
  rcases hown.2 with ⟨he, h0⟩ | ⟨g, cap, cur, he, hbg, hg, hnc, hcm, hcs, htk⟩
  · have hnil : xs = [] := List.length_eq_zero_iff.1 h0
    subst hnil
    subst he
    refine (AnyF.slices_SortFunc_none Tryd.sortEnt none 0 (.func (.func 32) #[] #[]) w).mono ?_
    rintro e w' ⟨rfl, rfl⟩
    exact ⟨rfl, [], List.Perm.refl _, List.Pairwise.nil, ⟨hok, inner, hown, hreps⟩, Mv.refl _ _⟩
  · subst he
    have hil : inner.length = xs.length * 2 := hown.1
    have hH : HoldsK entV 2 w g 0 xs.toArray := by
      show Holds id w g 0 (flatK entV 2 xs.toArray)
      rw [← hflat]
      exact holds_of_blockV hg (by rw [hil]; exact htk)
    have eg : ∀ args w, (callFunc 32 args).run Tryd.prog w = .ok (.enter 32 args) w := enters_of Tryd.func32 (by kernel_rfl) rfl
    have hcon := AnyQ.slices_SortFunc Tryd.sortEnt 2 Tryd.isAgg71 Tryd.sizeOf71 entV (fun _ => rfl) (fun x v hv => by simp [entV] at hv; rcases hv with rfl | rfl <;> rfl) cmpE cmpE_order 32 #[] g 0 cap xs.toArray w eg (fun _ _ _ _ x y => closure32 x y _) hH (blk_lt hg) (by simpa using hl)
    change Calls Tryd.prog 31 _ _ _ at hcon
    have hcon2 := hcon
    rw [show xs.toArray.size = xs.length from by simp] at hcon2
    refine hcon2.mono ?_
    rintro e w' ⟨rfl, d', n, os, hp, hs, rfl⟩
    have hsz : d'.size = xs.length := by have h1 := hp.1; simpa using h1
    refine ⟨rfl, d'.toList, ?_, ?_, ?_, ?_⟩
    · have h1 := hp.2.2
      rw [show d'.extract 0 xs.length = d' from by rw [← hsz]; simp, show xs.toArray.extract 0 xs.length = xs.toArray from by simp] at h1
      simpa using h1
    · rw [List.pairwise_iff_getElem]
      intro i j hi hj hij
      have hi2 : i < d'.size := by simpa using hi
      have hj2 : j < d'.size := by simpa using hj
      have h1 := hs i j (Nat.zero_le _) hij (by omega)
      rw [cmpE_lt] at h1
      rw [getElem!_pos d' j hj2, getElem!_pos d' i hi2] at h1
      simpa using h1
    · refine ⟨hok, (flatK entV 2 d').toList, ?_, ?_⟩
      · rw [show d'.toList.length = xs.length from by simpa using hsz]
        have h9 : (flatK entV 2 d').toList.length = xs.length * 2 := by rw [Array.length_toList, size_flatK, hsz]
        have h10 := ownsRow_sortedV (n := n) (os := os) h9 hbg hg hnc hcm hcs
        rw [Array.toArray_toList] at h10
        exact h10
      · have h2 := flat_reps (R := fun x cs => k71.M (sortWorldK entV 2 w g 0 n d' os) base (fun k => ok k ∧ some k ≠ (Value.slice (some ⟨g, 0, none⟩) xs.length cap).ownBlock) x cs) (fun x => k71_mkM _ _ _ x) d'.toList
        rw [Array.toArray_toList] at h2
        exact h2
    · exact Mv.of_grown (grownBy_sortedV _)
end Go.Proofs.YtcdfdckdodgbpaaDoor.QA

/-! TListed -/
namespace Go.Proofs.YtcdfdckdodgbpaaDoor.QA
open Go.RowKit Go.Maps Go.Proofs.YtcdfdckdodgbpaaDoorW.PrintWords Go.Proofs.YtcdfdckdodgbpaaDoorW.PrintLast Go.Proofs.YtcdfdckdodgbpaaDoorW.PrintMore
set_option linter.unusedVariables false
set_option linter.unusedSimpArgs false
theorem infoE : (Tryd.prog.info? 71).map (fun i => (i.zero, i.size, i.bytes)) = some (some (.agg #[(.int .i64 0), (.int .u64 0)]), 2, 16) := by kernel_rfl
theorem ents_snoc (ds : Con) (x z : Int) : ents (ds ++ [(x, z)]) = ents ds ++ [(⟨x, z⟩ : S71)] := by simp [ents]
set_option maxHeartbeats 2000000 in
set_option maxRecDepth 100000 in
theorem listed16 {w : World} {b : Nat} {c : Con} (h : OM Tryd.prog u64S w b c) (hl : c.length < 1000000000000) :
    Calls Tryd.prog 16 #[.map (some b)] w fun e w' => ∃ v, e = .returned v ∧ Kd.R k71 71 w' w.heap.size (fun _ => True) v (ents c) ∧ Below w.heap.size w w' := by
  have HB := Aside0.mk h
  have HL := Aside0.mk hl
  clear h hl
  go_enter Tryd.func16, Tryd.ntmps16
  go_wp2_with (first
    | (at_range; refine om_range rfl _ 59 rfl 49 Tryd.underlying59 rfl HB.out ?_
       intro w2 hr0 hm0 hs0
       have R0 := Aside0.mk hr0
       have B2 := Aside0.mk (hm0.below (Below.refl w.heap.size w) (Nat.le_refl _) (fun k hk => hk.elim))
       clear hr0 hm0 hs0))
  go_frame
  obtain ⟨r, hr⟩ : ∃ r, r = w.heap.size := ⟨_, rfl⟩
  have HR := Aside0.mk hr
  rw [← hr] at R0
  have e1 : (⟨w.heap.size, 0, none⟩ : Addr) = ⟨r, 0, none⟩ := by rw [hr]
  rw [e1]
  clear e1 hr
  go_loopg [3, 4, 5] c.length (fun kq v3 v4 v5 wr => ∃ (ds : List (Int × Int)), Aside0 (ds.length + kq = c.length) ∧ Aside0 (OR Tryd.prog u64S wr b r c ds) ∧ Aside0 (Kd.R k71 71 wr w.heap.size (fun k => k ≠ r) v3 (ents ds)) ∧ Aside0 (Below w.heap.size w wr))
  case atStart => exact ⟨[], ⟨by simp⟩, R0, ⟨Kd.R_nil _ _ _ _ _⟩, B2⟩
  case round =>
    clear R0 B2
    obtain ⟨ds, hcnt, hR, hO, hB⟩ := hrel
    obtain ⟨Ws, hWs, hB⟩ : ∃ W, W = _ ∧ Aside0 (Below w.heap.size w W) := ⟨_, rfl, hB⟩
    subst hWs
    go_wp2_with (first
      | (at_next; refine om_next_u64 rfl _ rfl rfl hR.out ?_ ?_))
    · intro hperm
      have HP := Aside0.mk hperm
      have HLN := Aside0.mk (show (ents ds).length < 4611686018427387904 from by rw [ents_length, hperm.length_eq]; have := HL.out; omega)
      clear hperm
      go_wp2_with (first
        | (go_at_call 31; refine (sortE hO.out HLN.out).mono ?_
           rintro e w4 ⟨rfl, ys, hp, hs, hr, hm⟩
           have HY := Aside0.mk (ents_is hp HP.out HB.out.up hs)
           have R4 := Aside0.mk hr
           have B4 := Aside0.mk (hm.below hB.out hB.out.size (fun k hk => own_base (Kd.R_own hO.out).choose_spec k hk.symm))
           clear hp hs hr hm))
      go_ret
      exact ⟨_, rfl, by rw [← HY.out]; exact Kd.R_mono R4.out (fun _ _ => trivial), B4.out⟩
    · intro x z w3 hwx hin hnot hr1 hm1 hs1 hen
      have R1 := Aside0.mk hr1
      have hB1 := Aside0.mk (hm1.below hB.out hB.out.size (fun k hk => by subst hk; have := HR.out; omega))
      have hO1 := Aside0.mk (Kd.R_step hO.out (fun k hk hlt => hm1.block k hlt hk))
      have hle := hr1.le
      rw [List.length_append, List.length_singleton] at hle
      have HLE := Aside0.mk hle
      have HLT := Aside0.mk hr1.lt
      clear hwx hin hnot hr1 hm1 hs1 hle
      go_wp2_with (first
        | ((with_reducible refine gate_builtin (b := .append) rfl ?_); at_builtin
           refine Kd.R_append k71 (w0 := w) w.heap.size rfl (.tmp 13) (.tmp 17) 27 71 (.agg #[(.int .i64 0), (.int .u64 0)]) 16 rfl Tryd.underlying27 infoE rfl (by decide) (by omega) _ (ents ds) (⟨x, z⟩ : S71) [.int .i64 x, .int .u64 z] (fun k => k ≠ r) (fun _ => False) rfl rfl (k71_mkM _ _ _ (⟨x, z⟩ : S71)) (fun _ hk => hk.elim) (fun k hk => by have := HLT.out; omega) hO1.out hB1.out hB1.out.size (by rw [ents_length]; have := HLE.out; have := HL.out; omega) ?_
           intro v1 w4 ho hb hg hat
           have R4 := Aside0.mk ho
           have B4 := Aside0.mk hb
           have N4 := Aside0.mk (R1.out.move (Mv.of_grown hg) (fun h => by obtain ⟨cs, hc⟩ := own_typed (Kd.R_own hO1.out).choose_spec b h.symm; exact R1.out.owns.ne_cells hc rfl) (fun h => hO1.out.1 r h.symm rfl))
           clear ho hb hg hat))
      go_roundg (gk - 1)
      case measure => have := hcnt.out; have := HLE.out; omega
      case rel =>
        refine ⟨_, ⟨by have := hcnt.out; have := HLE.out; rw [List.length_append, List.length_singleton]; omega⟩, N4, ⟨?_⟩, B4⟩
        rw [ents_snoc]
        exact R4.out
end Go.Proofs.YtcdfdckdodgbpaaDoor.QA

/-! TFold -/
namespace Go.Proofs.YtcdfdckdodgbpaaDoor.QA
open Go.RowKit Go.Maps Go.Proofs.YtcdfdckdodgbpaaDoorW.PrintWords Go.Proofs.YtcdfdckdodgbpaaDoorW.PrintLast Go.Proofs.YtcdfdckdodgbpaaDoorW.PrintMore
set_option linter.unusedVariables false
set_option linter.unusedSimpArgs false
def cntC (l : List (List Chg)) : Nat := (l.map List.length).sum
def foldT (c : Con) (t : List Chg) : Con := t.foldl app c
theorem foldT_snoc (c : Con) (t : List Chg) (j : Nat) (hj : j < t.length) : foldT c (t.take (j + 1)) = app (foldT c (t.take j)) t[j] := by
  unfold foldT
  rw [List.take_succ_eq_append_getElem hj, List.foldl_append]
  rfl
theorem foldC_snoc (l : List (List Chg)) (i : Nat) (hi : i < l.length) : foldC (l.take (i + 1)) = foldT (foldC (l.take i)) l[i] := by
  unfold foldC foldT
  rw [List.take_succ_eq_append_getElem hi, List.foldl_append]
  rfl
theorem foldT_length (t : List Chg) : ∀ c : Con, (foldT c t).length ≤ c.length + t.length := by
  induction t with
  | nil => intro c; exact Nat.le_refl _
  | cons a r ih =>
    intro c
    have h1 := ih (app c a)
    have h2 := app_length c a
    rw [List.length_cons]
    exact Nat.le_trans h1 (by omega)
theorem foldC_length (l : List (List Chg)) (i : Nat) : (foldC (l.take i)).length ≤ cntC (l.take i) := by
  induction i with
  | zero => simp [foldC, cntC]
  | succ i ih =>
    by_cases hi : i < l.length
    · rw [foldC_snoc l i hi]
      refine Nat.le_trans (foldT_length _ _) ?_
      have : cntC (l.take (i + 1)) = cntC (l.take i) + l[i].length := by unfold cntC; rw [List.take_succ_eq_append_getElem hi, List.map_append, List.sum_append]; simp
      omega
    · rw [List.take_of_length_le (by omega)] at ih ⊢
      exact ih
theorem cnt_take_le (l : List (List Chg)) (i : Nat) : cntC (l.take i) ≤ cntC l := by
  unfold cntC
  conv => rhs; rw [← List.take_append_drop i l, List.map_append, List.sum_append]
  omega
theorem row_le (l : List (List Chg)) (i : Nat) (hi : i < l.length) : cntC (l.take i) + l[i].length ≤ cntC l := by
  have h1 := cnt_take_le l (i + 1)
  have : cntC (l.take (i + 1)) = cntC (l.take i) + l[i].length := by unfold cntC; rw [List.take_succ_eq_append_getElem hi, List.map_append, List.sum_append]; simp
  omega
theorem at_row {w : World} {A : Option Addr} {n : Nat} {xs : List (List Chg)} (h : Kd.C kDone w A n xs) (i : Int) (h0 : 0 ≤ i) (h1 : i < n) :
    ∃ ad A0 c0, A = some ad ∧ w.cell? (ad.add i.toNat) = some (.slice A0 (xs.getD i.toNat []).length c0) ∧ (xs.getD i.toNat []).length ≤ c0 ∧ kChg.C w A0 (xs.getD i.toNat []).length (xs.getD i.toNat []) := by
  obtain ⟨ad, c, e, _, hK, hc0⟩ := Kd.C_get h ([] : List Chg) i h0 h1
  have hc : ∀ j u, c[j]? = some u → w.cell? (ad.add (i.toNat * 1 + j)) = some u := hc0
  obtain ⟨A0, c0, rfl, l0, g0⟩ := hK
  exact ⟨ad, A0, c0, e, by have hq := hc 0 _ rfl; rwa [Nat.mul_one, Nat.add_zero] at hq, l0, g0⟩
set_option maxHeartbeats 4000000 in
set_option maxRecDepth 100000 in
theorem Fold6 {w : World} {A : Option Addr} {cap : Nat} {l : List (List Chg)} (h : Kd.C kDone w A l.length l) (hcap : l.length ≤ cap) (hn : l.length < 1000000000000) (hb : cntC l < 1000000000000) (hw : ∀ t ∈ l, ∀ x ∈ t, (Lit.int .i64 x.f0).wf = true) :
    Calls Tryd.prog 6 #[.slice A l.length cap] w fun e w' => ∃ v, e = .returned v ∧ Kd.R k71 71 w' w.heap.size (fun _ => True) v (ents (foldC l)) ∧ Below w.heap.size w w' := by
  have hmm := @run_makeMap Tryd.prog
  have HC := Aside0.mk h
  have HN := Aside0.mk hn
  have HB := Aside0.mk hb
  have HW := Aside0.mk hw
  have B0 := Aside0.mk (below_alloc (Below.refl w.heap.size w) (.map #[] 0))
  have O0 := Aside0.mk (OM.made (P := Tryd.prog) w u64S)
  clear h hn hb hw
  go_enter Tryd.func6, Tryd.ntmps6
  go_upto_region 2 with fail
  obtain ⟨g, hg⟩ : ∃ g, g = w.heap.size := ⟨_, rfl⟩
  have HG := Aside0.mk hg
  rw [← hg] at O0
  have e1 : (w.heap.size : Nat) = g := hg.symm
  rw [e1]
  generalize w.alloc (Obj.map #[] 0) = w1 at B0 O0 ⊢
  clear e1 hg
  go_wp2
  go_loopg [11] l.length (fun kq v11 wr => ∃ (i : Nat), v11 = .int .i64 (i : Int) ∧ Aside0 (i + kq = l.length) ∧ Aside0 (OM Tryd.prog u64S wr g (foldC (l.take i))) ∧ Aside0 (Below w.heap.size w wr))
  case atStart => exact ⟨0, rfl, ⟨by omega⟩, O0, B0⟩
  case round =>
    clear O0 B0
    obtain ⟨i, rfl, hik, hO, hBl⟩ := hrel
    obtain ⟨Ws, hWs, hBl⟩ : ∃ W, W = _ ∧ Aside0 (Below w.heap.size w W) := ⟨_, rfl, hBl⟩
    subst hWs
    cases gk with
    | zero =>
      obtain rfl : i = l.length := hik.out
      have hd1 : ¬ ((l.length : Int) < (l.length : Int)) := by omega
      rw [List.take_length] at hO
      have HLN := Aside0.mk (show (foldC l).length < 1000000000000 from by have h1 := foldC_length l l.length; rw [List.take_length] at h1; have := HB.out; exact Nat.lt_of_le_of_lt h1 this)
      go_wp2_with (first
        | (go_at_call 16; refine (listed16 hO.out HLN.out).mono ?_
           rintro e w4 ⟨v, rfl, hr, hb⟩
           have R4 := Aside0.mk (Kd.R_lower hr hBl.out.size)
           have B4 := Aside0.mk (hBl.out.trans (hb.mono hBl.out.size))
           obtain ⟨A4, c4, hv⟩ := Kd.R_slice hr
           subst hv
           clear hr hb))
      go_ret
      exact ⟨_, rfl, R4.out, B4.out⟩
    | succ k1 =>
      have hi0 : i < l.length := by have := hik.out; omega
      have hi1 : (i : Int) < (l.length : Int) := by omega
      obtain ⟨row, hrow⟩ : ∃ row, row = l[i] := ⟨_, rfl⟩
      obtain ⟨ad1, A1, c1, e1, h1, hc1, hR1⟩ := at_row HC.out (i : Int) (by omega) hi1
      subst e1
      rw [Int.toNat_natCast, show l.getD i [] = row from by rw [hrow]; simp [hi0]] at h1 hc1 hR1
      replace h1 := pw_cell_below hBl.out h1
      have HROW := Aside0.mk hrow
      have hrl := row_le l i hi0
      rw [← hrow] at hrl
      have HRL := Aside0.mk hrl
      have HI0 := Aside0.mk hi0
      have hw2 : IntKind.i64.wrap ((i : Int) + 1) = ((i + 1 : Nat) : Int) := wrp (by omega) (by have := HN.out; omega)
      have HR1 := Aside0.mk (show kChg.C w A1 row.length row from hR1)
      have HWR := Aside0.mk (show ∀ x ∈ row, (Lit.int .i64 x.f0).wf = true from by rw [hrow]; exact HW.out _ (List.getElem_mem hi0))
      clear hrow hrl hR1
      go_wp2
      clear h1
      go_loopg [17] row.length (fun kq v17 wr => ∃ (j : Nat), v17 = .int .i64 (j : Int) ∧ Aside0 (j + kq = row.length) ∧ Aside0 (OM Tryd.prog u64S wr g (foldT (foldC (l.take i)) (row.take j))) ∧ Aside0 (Below w.heap.size w wr))
      case atStart => exact ⟨0, rfl, ⟨by omega⟩, hO, hBl⟩
      case round =>
        clear hO hBl
        obtain ⟨j, rfl, hjk, hO, hBl⟩ := hrel
        obtain ⟨Wt, hWt, hBl⟩ : ∃ W, W = _ ∧ Aside0 (Below w.heap.size w W) := ⟨_, rfl, hBl⟩
        subst hWt
        cases gk with
        | zero =>
          obtain rfl : j = row.length := hjk.out
          have hd1 : ¬ ((row.length : Int) < (row.length : Int)) := by omega
          rw [List.take_length] at hO
          go_wp2
          go_roundg k1
          case measure => omega
          case rel => exact ⟨i + 1, rfl, ⟨by have := hik.out; omega⟩, ⟨by rw [foldC_snoc l i HI0.out, ← HROW.out]; exact hO.out⟩, hBl⟩
        | succ k2 =>
          have hj0 : j < row.length := by have := hjk.out; omega
          have hj1 : (j : Int) < (row.length : Int) := by omega
          obtain ⟨x, hx⟩ : ∃ x, x = row[j] := ⟨_, rfl⟩
          obtain ⟨ad2, e2, y0, y1, y2⟩ := at_T56 (Kd.C_below HR1.out hBl.out) (j : Int) (by omega) hj1
          subst e2
          rw [Int.toNat_natCast, show rd_T56 row (j : Int) = x from by rw [hx]; unfold rd_T56; simp [hj0]] at y0 y1 y2
          have HX := Aside0.mk (show foldT (foldC (l.take i)) (row.take (j + 1)) = app (foldT (foldC (l.take i)) (row.take j)) x from by rw [hx]; exact foldT_snoc _ _ j hj0)
          have HXW := Aside0.mk (show (Lit.int .i64 x.f0).wf = true from by rw [hx]; exact HWR.out _ (List.getElem_mem hj0))
          have HLN := Aside0.mk (show (foldT (foldC (l.take i)) (row.take j)).length < 1000000000000 from by
            have h3 := foldT_length (row.take j) (foldC (l.take i))
            have h4 := foldC_length l i
            have h5 := HRL.out
            have h6 := HB.out
            have h7 : (row.take j).length ≤ row.length := by rw [List.length_take]; omega
            exact Nat.lt_of_le_of_lt h3 (by omega))
          have hw3 : IntKind.i64.wrap ((j : Int) + 1) = ((j + 1 : Nat) : Int) := wrp (by omega) (by have := HRL.out; have := HB.out; omega)
          clear hx
          obtain ⟨cc, hcc⟩ : ∃ cc, cc = foldT (foldC (l.take i)) (row.take j) := ⟨_, rfl⟩
          rw [← hcc] at HX hO HLN
          clear hcc
          obtain ⟨xk, xv, xg⟩ := x
          dsimp only at y0 y1 y2 HXW
          have B5 := Aside0.mk (below_alloc (Below.refl Wt.heap.size Wt) (.cells #[.int .i64 xk, .int .u64 xv, .bool xg] 56))
          have O5 := Aside0.mk (hO.out.move (Mv.of_below B5.out (fun _ => False)) (fun h => h))
          have BL5 := Aside0.mk (hBl.out.trans (B5.out.mono hBl.out.size))
          cases xg
          all_goals
            go_wp2_with (first
              | (at_delete; refine om_del rfl _ _ 59 rfl 49 Tryd.underlying59 rfl O5.out rfl HXW.out ?_
                 intro w6 ho hm
                 have O6 := Aside0.mk ho
                 have BL6 := Aside0.mk (hm.below BL5.out BL5.out.size (fun k hk => by rw [hk, HG.out]; exact Nat.le_refl _))
                 clear ho hm)
              | (at_mapUpdate; refine om_put rfl _ _ _ 59 rfl 49 Tryd.underlying59 rfl O5.out (by have := HLN.out; unfold maxLen; omega) rfl HXW.out xv rfl ?_
                 intro w6 ho hm
                 have O6 := Aside0.mk ho
                 have BL6 := Aside0.mk (hm.below BL5.out BL5.out.size (fun k hk => by rw [hk, HG.out]; exact Nat.le_refl _))
                 clear ho hm))
            go_roundg k2
            case measure => omega
            case rel => exact ⟨j + 1, rfl, ⟨by have := hjk.out; omega⟩, ⟨by rw [HX.out]; exact O6.out⟩, BL6⟩
end Go.Proofs.YtcdfdckdodgbpaaDoor.QA

/-! PureTaken -/
namespace Go.Proofs.YtcdfdckdodgbpaaDoor.QA
open Go.RowKit Go.Maps Go.Proofs.YtcdfdckdodgbpaaDoorW.PrintWords Go.Proofs.YtcdfdckdodgbpaaDoorW.PrintLast Go.Proofs.YtcdfdckdodgbpaaDoorW.PrintMore
set_option linter.unusedVariables false
set_option linter.unusedSimpArgs false
theorem w64t {n : Nat} (h : n < 5864062014805) : wrap64 ((n : Int) + 1) = ((n + 1 : Nat) : Int) := by unfold wrap64; omega
def b56 (x : S55) : S56 := ⟨x.f0, x.f1, x.f2⟩
def b57 (x : S55) : S57 := ⟨x.f0, x.f1, x.f2⟩
theorem taken_row (x0 : List (List S55)) (i : Nat) (hi : i < x0.length) (hi2 : i + 1 < 5864062014805) (hl : (x0[i]).length < 5864062014805) (x4 : List (List S56)) (x5 : List (List S57)) (h4 : x4.length = i) (h5 : x5.length = i) (r : List (List S56) × List (List S57)) :
    ∀ (n j : Nat) (x7 : List S56) (x8 : List S57), j + n = (x0[i]).length → x7.length = j → x8.length = j →
    (∃ k, tidemarklaw18_taken.l0 k x0 (x4 ++ [x7 ++ ((x0[i]).drop j).map b56]) (x5 ++ [x8 ++ ((x0[i]).drop j).map b57]) ((i + 1 : Nat) : Int) = some r) → ∃ k, tidemarklaw18_taken.l1 k x0 x4 x5 (i : Int) x7 x8 (j : Int) = some r
  | 0, j, x7, x8, hj, h7, h8, ⟨k, hk⟩ => by
    refine ⟨k + 1, ?_⟩
    have hrow : rd_L8 x0 (i : Int) = x0[i] := by unfold rd_L8; simp [hi]
    unfold tidemarklaw18_taken.l1
    rw [if_pos (by omega), if_pos (by omega), hrow, if_neg (by omega), if_pos (by omega), if_pos (by omega), w64t (by omega)]
    rw [List.drop_eq_nil_iff.2 (by omega), List.map_nil, List.map_nil, List.append_nil, List.append_nil] at hk
    exact hk
  | n + 1, j, x7, x8, hj, h7, h8, h => by
    have hj2 : j < (x0[i]).length := by omega
    have hrow : rd_L8 x0 (i : Int) = x0[i] := by unfold rd_L8; simp [hi]
    have hx : rd_T55 (x0[i]) (j : Int) = (x0[i])[j] := by unfold rd_T55; simp [hj2]
    obtain ⟨k, hk⟩ := taken_row x0 i hi hi2 hl x4 x5 h4 h5 r n (j + 1) (x7 ++ [b56 (x0[i])[j]]) (x8 ++ [b57 (x0[i])[j]]) (by omega) (by simp [h7]) (by simp [h8]) (by
      rw [List.drop_eq_getElem_cons hj2, List.map_cons, List.map_cons] at h
      rw [List.append_assoc, List.append_assoc]
      exact h)
    refine ⟨k + 1, ?_⟩
    unfold tidemarklaw18_taken.l1
    rw [if_pos (by omega), if_pos (by omega), hrow, if_pos (by omega), if_pos (by omega), if_pos (by omega), if_pos (by omega), hx, w64t (by omega)]
    exact hk
theorem taken_rows (x0 : List (List S55)) (hx0 : x0.length < 5864062014805) (hl : ∀ t ∈ x0, t.length < 5864062014805) : ∀ (n i : Nat) (x4 : List (List S56)) (x5 : List (List S57)), i + n = x0.length → x4.length = i → x5.length = i →
    ∃ k, tidemarklaw18_taken.l0 k x0 x4 x5 (i : Int) = some (x4 ++ (x0.drop i).map (fun t => t.map b56), x5 ++ (x0.drop i).map (fun t => t.map b57))
  | 0, i, x4, x5, hi, h4, h5 => by
    refine ⟨1, ?_⟩
    unfold tidemarklaw18_taken.l0
    rw [if_neg (by omega), List.drop_eq_nil_iff.2 (by omega)]
    simp
  | n + 1, i, x4, x5, hi, h4, h5 => by
    have hi2 : i < x0.length := by omega
    obtain ⟨k, hk⟩ := taken_rows x0 hx0 hl n (i + 1) (x4 ++ [(x0[i]).map b56]) (x5 ++ [(x0[i]).map b57]) (by omega) (by simp [h4]) (by simp [h5])
    obtain ⟨k2, hk2⟩ := taken_row x0 i hi2 (by omega) (hl _ (List.getElem_mem hi2)) x4 x5 h4 h5 _ (x0[i]).length 0 [] [] (by omega) rfl rfl ⟨k, by rw [List.nil_append, List.nil_append, List.drop_zero]; exact hk⟩
    refine ⟨k2 + 1, ?_⟩
    unfold tidemarklaw18_taken.l0
    rw [if_pos (by omega), List.drop_eq_getElem_cons hi2, List.map_cons, List.map_cons]
    have h3 : ∀ {α : Type} (l : List α) (a : α) (r : List α), l ++ a :: r = l ++ [a] ++ r := fun l a r => by simp
    rw [h3 x4, h3 x5]
    exact hk2
theorem taken_ok (x0 : List (List S55)) (hx0 : x0.length < 5864062014805) (hl : ∀ t ∈ x0, t.length < 5864062014805) : ∃ k, tidemarklaw18_taken.f k x0 = some (x0.map (fun t => t.map b56), x0.map (fun t => t.map b57)) := by
  obtain ⟨k, hk⟩ := taken_rows x0 hx0 hl x0.length 0 [] [] (by omega) rfl rfl
  exact ⟨k, hk⟩
theorem entries_self (a : List S71) (ha : a.length < 5864062014805) : ∃ k, tidemarklaw18_entries.f k a a = some true := by
  have h : ∀ n i : Nat, i + n = a.length → tidemarklaw18_entries.l0 (n + 1) a a (i : Int) = some true := by
    intro n
    induction n with
    | zero => intro i hi; unfold tidemarklaw18_entries.l0; rw [if_neg (by omega)]
    | succ n ih =>
      intro i hi
      unfold tidemarklaw18_entries.l0
      rw [if_pos (by omega), if_pos (by omega), if_pos (by omega), if_neg (by simp), w64t (by omega)]
      exact ih (i + 1) (by omega)
  refine ⟨a.length + 1, ?_⟩
  unfold tidemarklaw18_entries.f
  rw [if_pos rfl]
  exact h a.length 0 (by omega)
theorem changes_self (t : List S55) (ht : t.length < 5864062014805) : ∃ k, tidemarklaw18_changes.f k (t.map b56) (t.map b57) = some true := by
  have hd : ∀ i : Nat, i < t.length → rd_T56 (t.map b56) (i : Int) = b56 (t.getD i z55) ∧ rd_T57 (t.map b57) (i : Int) = b57 (t.getD i z55) := fun i hi => by
    unfold rd_T56 rd_T57
    simp [hi]
  have h : ∀ n i : Nat, i + n = t.length → tidemarklaw18_changes.l0 (n + 1) (t.map b56) (t.map b57) (i : Int) = some true := by
    intro n
    induction n with
    | zero => intro i hi; unfold tidemarklaw18_changes.l0; rw [if_neg (by rw [List.length_map]; omega)]
    | succ n ih =>
      intro i hi
      unfold tidemarklaw18_changes.l0
      rw [if_pos (by rw [List.length_map]; omega), if_pos (by omega), if_pos (by rw [List.length_map]; omega), (hd i (by omega)).1, (hd i (by omega)).2]
      rw [if_pos (show (b56 (t.getD i z55)).f0 = (b57 (t.getD i z55)).f0 from rfl), if_pos (show (b56 (t.getD i z55)).f1 = (b57 (t.getD i z55)).f1 from rfl), if_neg (by simp [b56, b57]), w64t (by omega)]
      exact ih (i + 1) (by omega)
  refine ⟨t.length + 1, ?_⟩
  unfold tidemarklaw18_changes.f
  rw [if_pos (by simp)]
  exact h t.length 0 (by omega)
end Go.Proofs.YtcdfdckdodgbpaaDoor.QA

/-! WalkFolds -/
namespace Go.Proofs.YtcdfdckdodgbpaaDoor.QA
open Go.RowKit Go.Maps Go.Proofs.YtcdfdckdodgbpaaDoorW.PrintWords Go.Proofs.YtcdfdckdodgbpaaDoorW.PrintLast Go.Proofs.YtcdfdckdodgbpaaDoorW.PrintMore
set_option linter.unusedVariables false
set_option linter.unusedSimpArgs false
theorem folds_same (l : List (List S55)) : foldC ((l.map fun t => t.map b57).map fun t => t.map as57) = foldC (l.map fun t => t.map b56) := by
  congr 1
  rw [List.map_map]
  apply List.map_congr_left
  intro t _
  show (t.map b57).map as57 = t.map b56
  rw [List.map_map]
  rfl
theorem at_row57 {w : World} {A : Option Addr} {n : Nat} {xs : List (List S57)} (h : Kd.C (Kd.slice 57 k57) w A n xs) (i : Int) (h0 : 0 ≤ i) (h1 : i < n) :
    ∃ ad A0 c0, A = some ad ∧ w.cell? (ad.add i.toNat) = some (.slice A0 (xs.getD i.toNat []).length c0) ∧ (xs.getD i.toNat []).length ≤ c0 ∧ Kd.C k57 w A0 (xs.getD i.toNat []).length (xs.getD i.toNat []) := by
  obtain ⟨ad, c, e, _, hK, hc0⟩ := Kd.C_get h ([] : List S57) i h0 h1
  have hc : ∀ j u, c[j]? = some u → w.cell? (ad.add (i.toNat * 1 + j)) = some u := hc0
  obtain ⟨A0, c0, rfl, l0, g0⟩ := hK
  exact ⟨ad, A0, c0, e, by have hq := hc 0 _ rfl; rwa [Nat.mul_one, Nat.add_zero] at hq, l0, g0⟩
def cnt55 (l : List (List S55)) : Nat := (l.map List.length).sum
theorem cnt56 (l : List (List S55)) : cntC (l.map fun t => t.map b56) = cnt55 l := by unfold cntC cnt55; rw [List.map_map]; congr 1; apply List.map_congr_left; intro t _; simp
theorem cnt57 (l : List (List S55)) : cntR (l.map fun t => t.map b57) = cnt55 l := by unfold cntR cnt55; rw [List.map_map]; congr 1; apply List.map_congr_left; intro t _; simp
theorem row_le55 (l : List (List S55)) (t : List S55) (ht : t ∈ l) : t.length ≤ cnt55 l := by
  unfold cnt55
  induction l with
  | nil => cases ht
  | cons a r ih =>
    rw [List.map_cons, List.sum_cons]
    rcases List.mem_cons.1 ht with rfl | h
    · omega
    · have := ih h; omega
theorem ents_len (c : Con) (h : c.length < 1000000000000) : (ents c).length < 5864062014805 := by rw [ents_length]; omega
set_option maxHeartbeats 8000000 in
set_option maxRecDepth 100000 in
theorem folds3 {w : World} (hg : Glob w) {A : Option Addr} {cap : Nat} {l : List (List S55)} (hC : Kd.C (Kd.slice 55 k55) w A l.length l) (hcap : l.length ≤ cap) (hn : l.length < 1000000000000) (hb : cnt55 l < 1000000000000) (hw : ∀ t ∈ l, ∀ x ∈ t, (Lit.int .i64 x.f0).wf = true) :
    Calls Tryd.prog 3 #[.slice A l.length cap] w fun e w' => e = .returned (.bool true) ∧ Below w.heap.size w w' := by
  obtain ⟨k1, hk1⟩ := taken_ok l (by omega) (fun t ht => by have := row_le55 l t ht; omega)
  obtain ⟨mine, hmine⟩ : ∃ mine, mine = l.map (fun t => t.map b56) := ⟨_, rfl⟩
  obtain ⟨ref, href⟩ : ∃ ref, ref = l.map (fun t => t.map b57) := ⟨_, rfl⟩
  have hm56 : cntC mine < 1000000000000 := by rw [hmine, cnt56]; exact hb
  have hr57 : cntR ref < 1000000000000 := by rw [href, cnt57]; exact hb
  have hml : mine.length = l.length := by rw [hmine, List.length_map]
  have hrl : ref.length = l.length := by rw [href, List.length_map]
  have hmw : ∀ t ∈ mine, ∀ x ∈ t, (Lit.int .i64 x.f0).wf = true := by
    intro t ht x hx
    rw [hmine] at ht
    obtain ⟨t0, h1, rfl⟩ := List.mem_map.1 ht
    obtain ⟨x0, h2, rfl⟩ := List.mem_map.1 hx
    exact hw t0 h1 x0 h2
  obtain ⟨k2, hk2⟩ := ref_fold ref (by omega) (by omega)
  have hfs : foldC (ref.map fun t => t.map as57) = foldC mine := by rw [href, hmine]; exact folds_same l
  rw [hfs] at hk2
  obtain ⟨fc, hfc⟩ : ∃ fc, fc = foldC mine := ⟨_, rfl⟩
  have hfl : fc.length < 1000000000000 := by have h1 := foldC_length mine mine.length; rw [List.take_length] at h1; rw [hfc]; exact Nat.lt_of_le_of_lt h1 hm56
  obtain ⟨es, hes⟩ : ∃ es, es = ents fc := ⟨_, rfl⟩
  obtain ⟨k3, hk3⟩ := entries_self es (by rw [hes]; exact ents_len fc hfl)
  rw [← hmine, ← href] at hk1
  have HK1 := Aside0.mk hk1
  have HK2 := Aside0.mk (show tidemarkref18_Fold.f k2 ref = some es from by rw [hes, hfc]; exact hk2)
  have HK3 := Aside0.mk hk3
  have HES := Aside0.mk (show ents (foldC mine) = es from by rw [hes, hfc])
  have HROW := Aside0.mk (show ∀ i : Nat, i < l.length → mine.getD i [] = (l.getD i []).map b56 ∧ ref.getD i [] = (l.getD i []).map b57 ∧ (l.getD i []).length < 5864062014805 from fun i hi => by
    rw [hmine, href]
    have h1 := row_le55 l l[i] (List.getElem_mem hi)
    refine ⟨by simp [hi], by simp [hi], ?_⟩
    rw [show l.getD i [] = l[i] from by simp [hi]]
    omega)
  have HML := Aside0.mk hml
  have HRL := Aside0.mk hrl
  have HN := Aside0.mk hn
  have HM := Aside0.mk hm56
  have HMW := Aside0.mk hmw
  have HCAP := Aside0.mk hcap
  have HC := Aside0.mk hC
  have G := Aside0.mk hg
  clear hg hC hcap hn hb hw hk1 hk2 hk3 hmine href hm56 hr57 hml hrl hmw hfs hfc hfl hes
  go_enter Tryd.func3, Tryd.ntmps3
  go_wp2_with (first
    | (go_at_call 5; refine (tidemarklaw18_taken.calls k1 _ _ _ _ _ _ HC.out HCAP.out HK1.out).mono ?_; rintro e w1 ⟨v0, v1, rfl, hs0, hs1, hb⟩
       obtain ⟨A0, q0, hv0, hl0, hc0⟩ := Kd.S_reads hs0
       obtain ⟨A1, q1, hv1, hl1, hc1⟩ := Kd.S_reads hs1
       rw [HML.out] at hv0 hl0 hc0
       rw [HRL.out] at hv1 hl1 hc1
       subst hv0 hv1
       have C0 := Aside0.mk hc0
       have C1 := Aside0.mk hc1
       have L0 := Aside0.mk hl0
       have L1 := Aside0.mk hl1
       have B1 := Aside0.mk hb
       clear hs0 hs1 hc0 hc1 hl0 hl1 hb)
    | (go_at_call 6; have F6c := Fold6 (l := mine) (w := w1) (A := A0) (cap := q0) (by rw [HML.out]; exact C0.out) (by rw [HML.out]; exact L0.out) (by rw [HML.out]; exact HN.out) HM.out HMW.out; rw [HML.out] at F6c; refine F6c.mono ?_; clear F6c; rintro e w2 ⟨v, rfl, hr, hb⟩
       rw [HES.out] at hr
       obtain ⟨A2, q2, hv, hl2, hc2⟩ := Kd.R_reads hr
       subst hv
       have C2 := Aside0.mk hc2
       have L2 := Aside0.mk hl2
       have B2 := Aside0.mk (B1.out.trans (hb.mono B1.out.size))
       have B12 := Aside0.mk hb
       clear hr hc2 hl2 hb)
    | (go_at_call 7; refine (alive7 (G.out.below B2.out)).mono ?_; rintro e w3 ⟨rfl, hb⟩
       have B3 := Aside0.mk (B2.out.trans (hb.mono B2.out.size))
       have B13 := Aside0.mk (B12.out.trans (hb.mono B12.out.size))
       have B23 := Aside0.mk hb
       clear hb)
    | ((with_reducible refine gate_dst (N := 19) rfl ?_); refine gate_guard rfl ?_; refine goesL_ (some 19) rfl rfl Tryd.func9 (by kernel_rfl) rfl #[.slice A1 l.length q1] rfl (by (try simp only [List.map_toArray, List.map_cons, List.map_nil]); first | done | rfl) ?_
       have F9c := tidemarkref18_Fold.calls k2 A1 q1 ref es w3 (by rw [HRL.out]; exact Kd.C_below C1.out B13.out) (by rw [HRL.out]; exact L1.out) HK2.out
       rw [HRL.out] at F9c
       refine F9c.mono ?_; clear F9c; rintro e w4 ⟨v, rfl, hr, hb⟩
       obtain ⟨A4, q4, hv, hl4, hc4⟩ := Kd.R_reads hr
       subst hv
       have C4 := Aside0.mk hc4
       have L4 := Aside0.mk hl4
       have B4 := Aside0.mk (B3.out.trans (hb.mono B3.out.size))
       have B14 := Aside0.mk (B13.out.trans (hb.mono B13.out.size))
       have B24 := Aside0.mk (B23.out.trans (hb.mono B23.out.size))
       clear hr hc4 hl4 hb
       refine ⟨_, rfl, ?_⟩)
    | ((with_reducible refine gate_dst (N := 20) rfl ?_); refine gate_guard rfl ?_; refine goesL_ (some 20) rfl rfl Tryd.func8 (by kernel_rfl) rfl #[.slice A2 es.length q2, .slice A4 es.length q4] rfl (by (try simp only [List.map_toArray, List.map_cons, List.map_nil]); first | done | rfl) ?_
       refine (tidemarklaw18_entries.calls k3 A2 q2 es A4 q4 es true _ (Kd.C_below C2.out B24.out) L2.out C4.out L4.out HK3.out).mono ?_; rintro e w5 ⟨rfl, hd⟩
       have B5 := Aside0.mk (B4.out.trans (hd.below.mono B4.out.size))
       have B15 := Aside0.mk (B14.out.trans (hd.below.mono B14.out.size))
       clear hd
       refine ⟨_, rfl, ?_⟩))
  go_loopg [6] l.length (fun kq v6 wr => ∃ (i : Nat), v6 = .int .i64 (i : Int) ∧ Aside0 (i + kq = l.length) ∧ Aside0 (Below w.heap.size w wr) ∧ Aside0 (Below w1.heap.size w1 wr))
  case atStart => exact ⟨0, rfl, ⟨by omega⟩, B5, B15⟩
  case round =>
    obtain ⟨i, rfl, hik, hBl, hBs⟩ := hrel
    clear B5 B15 B4 B14 B24 B3 B13 B23 B2 B12
    obtain ⟨Ws, hWs, hBl⟩ : ∃ W, W = _ ∧ Aside0 (Below w.heap.size w W) := ⟨_, rfl, hBl⟩
    subst hWs
    cases gk with
    | zero =>
      obtain rfl : i = l.length := hik.out
      have hd1 : ¬ ((l.length : Int) < (l.length : Int)) := by omega
      go_wp2
      go_ret
      exact ⟨rfl, hBl.out⟩
    | succ kr =>
      have hi0 : i < l.length := by have := hik.out; omega
      have hi1 : (i : Int) < (l.length : Int) := by omega
      have hi2 : (0 : Int) ≤ (i : Int) := by omega
      obtain ⟨ad0, A5, q5, e0, g0, hq5, hR5⟩ := at_row (Kd.C_below C0.out hBs.out) (i : Int) (by omega) hi1
      obtain ⟨ad1, A6, q6, e1, g1, hq6, hR6⟩ := at_row57 (Kd.C_below C1.out hBs.out) (i : Int) (by omega) hi1
      subst e0 e1
      obtain ⟨t, ht⟩ : ∃ t, t = l.getD i [] := ⟨_, rfl⟩
      have hrw := HROW.out i hi0
      rw [← ht] at hrw
      rw [Int.toNat_natCast, hrw.1] at g0 hq5 hR5
      rw [Int.toNat_natCast, hrw.2.1] at g1 hq6 hR6
      obtain ⟨k4, hk4⟩ := changes_self t hrw.2.2
      obtain ⟨ta, hta⟩ : ∃ ta, ta = t.map b56 := ⟨_, rfl⟩
      obtain ⟨tb, htb⟩ : ∃ tb, tb = t.map b57 := ⟨_, rfl⟩
      rw [← hta] at g0 hq5 hR5 hk4
      rw [← htb] at g1 hq6 hR6 hk4
      have Q5 := Aside0.mk hq5
      have Q6 := Aside0.mk hq6
      have R5 := Aside0.mk (show Kd.C kChg Ws A5 ta.length ta from hR5)
      have R6 := Aside0.mk hR6
      have K4 := Aside0.mk hk4
      have hw2 : IntKind.i64.wrap ((i : Int) + 1) = ((i + 1 : Nat) : Int) := wrp (by omega) (by have := HN.out; omega)
      clear ht hrw hta htb hq5 hq6 hR5 hR6 hk4
      go_upto_region 8 with fail
      go_region_held3 (fun w' => w'.cell? (ad0.add i) = some (.slice A5 ta.length q5) ∧ w'.cell? (ad1.add i) = some (.slice A6 tb.length q6)) (go_keep)
        (first
          | (go_at_call 10; refine (tidemarklaw18_changes.calls k4 A5 q5 ta A6 q6 tb true _ (Kd.C_below R5.out (below_drew (Below.refl _ _))) Q5.out (Kd.C_below R6.out (below_drew (Below.refl _ _))) Q6.out K4.out).mono ?_; rintro e w6 ⟨rfl, hd⟩
             have hbb := (below_drew (Below.refl Ws.heap.size Ws)).trans hd.below
             have B6 := Aside0.mk (hBl.out.trans (hbb.mono hBl.out.size))
             have B16 := Aside0.mk (hBs.out.trans (hbb.mono hBs.out.size))
             have n0 := pw_cell_below hbb g0
             have n1 := pw_cell_below hbb g1
             clear hd hbb))
      clear g0 g1 n0 n1
      go_wp2
      go_roundg kr
      case measure => omega
      case rel => exact ⟨i + 1, rfl, ⟨by have := hik.out; omega⟩, B6, B16⟩
end Go.Proofs.YtcdfdckdodgbpaaDoor.QA
