/- Entries of a content; a change put to it. Plain. Entries in a row: as the library's sort sees them; lists that rise. slices.SortFunc at entries, by key. listed walked: what a content has, keys rising. Fold walked. Ids walked. -/
import Derived.Test.YtcdfdckdodgbpaaGreatDoorA
import Derived.Shelf.GgSortFunc.InsertionK
import Derived.Test.YtcdfdckdodgbpaaGreatDoorB
/-! PureEnts -/
namespace Go.Proofs.YtcdfdckdodgbpaaGreatDoor.QA
open Go.RowKit Go.Maps Go.Proofs.YtcdfdckdodgbpaaGreatDoorW.PrintWords Go.Proofs.YtcdfdckdodgbpaaGreatDoorW.PrintLast Go.Proofs.YtcdfdckdodgbpaaGreatDoorW.PrintMore
set_option linter.unusedVariables false
set_option linter.unusedSimpArgs false
def ents (c : Con) : List S58 := c.map fun p => ⟨p.1, p.2⟩
theorem ents_length (c : Con) : (ents c).length = c.length := by simp [ents]
theorem Up.app {c : Con} (h : Up c) (x : Chg) : Up (QA.app c x) := by
  unfold QA.app
  cases x.f2 with
  | true => exact h.del _
  | false => exact h.put _ _
theorem app_length (c : Con) (x : Chg) : (app c x).length ≤ c.length + 1 := by
  unfold app
  cases x.f2 with
  | true => rw [if_pos rfl]; have : (del c x.f0).length ≤ c.length := List.length_filter_le _ _; omega
  | false => rw [if_neg (by simp)]; exact length_put_le _ _ _
end Go.Proofs.YtcdfdckdodgbpaaGreatDoor.QA

/-! PureSortE -/
namespace Go.Proofs.YtcdfdckdodgbpaaGreatDoor.QA
open Go.RowKit Go.Maps Go.Proofs.YtcdfdckdodgbpaaGreatDoorW.PrintWords Go.Proofs.YtcdfdckdodgbpaaGreatDoorW.PrintLast Go.Proofs.YtcdfdckdodgbpaaGreatDoorW.PrintMore
set_option linter.unusedVariables false
set_option linter.unusedSimpArgs false
open Go.Sort Go.Proofs
def entV (x : S58) : List Value := [.int .i64 x.f0, .int .u64 x.f1]
instance : Inhabited S58 := ⟨z58⟩
theorem entV_len (x : S58) : (entV x).length = 2 := rfl
/-- The cells of a row of entries, as a flat list. -/
theorem reps_flat {R : S58 → List Value → Prop} (hR : ∀ x cs, R x cs → cs = entV x) {xs : List S58} {inner : List Value} (h : Reps R 2 xs inner) : inner.toArray = flatK entV 2 xs.toArray := by
  apply Array.ext
  · rw [size_flatK]; simpa using h.1
  · intro t h1 h2
    have ht : t < xs.toArray.size * 2 := by rw [size_flatK] at h2; exact h2
    have h3 := get_flatK entV 2 xs.toArray t ht
    rw [getElem!_pos _ t h2] at h3
    rw [h3]
    have hq : t / 2 < xs.length := by simp at ht; omega
    have h4 := hR _ _ (h.2 (t / 2) xs[t / 2] (List.getElem?_eq_getElem hq))
    have h5 : ((inner.drop (t / 2 * 2)).take 2)[t % 2]? = inner[t]? := by
      rw [List.getElem?_take_of_lt (by omega), List.getElem?_drop]
      congr 1
      omega
    rw [h4] at h5
    have h6 : t < inner.length := by simpa using h1
    rw [List.getElem?_eq_getElem h6] at h5
    have h7 : xs.toArray[t / 2]! = xs[t / 2] := by rw [getElem!_pos _ _ (by simpa using hq)]; simp
    rw [h7]
    have h8 : t % 2 < (entV xs[t / 2]).length := by rw [entV_len]; omega
    rw [getElem!_pos (entV xs[t / 2]) (t % 2) h8]
    rw [List.getElem?_eq_getElem h8] at h5
    injection h5 with h5
    simpa using h5.symm
theorem flat_reps {R : S58 → List Value → Prop} (hR : ∀ x, R x (entV x)) (ys : List S58) : Reps R 2 ys (flatK entV 2 ys.toArray).toList := by
  refine ⟨by simp, fun j p hj => ?_⟩
  obtain ⟨hl, hp⟩ := List.getElem?_eq_some_iff.1 hj
  have he : (((flatK entV 2 ys.toArray).toList.drop (j * 2)).take 2) = entV p := by
    apply List.ext_getElem?
    intro i
    by_cases hi : i < 2
    · have ht : j * 2 + i < ys.toArray.size * 2 := by simp; omega
      have h3 := get_flatK entV 2 ys.toArray (j * 2 + i) ht
      rw [getElem!_pos _ _ (by rw [size_flatK]; exact ht)] at h3
      rw [List.getElem?_take_of_lt hi, List.getElem?_drop, List.getElem?_eq_getElem (by simp; omega), Array.getElem_toList, h3]
      have h1 : (j * 2 + i) / 2 = j := by omega
      have h2 : (j * 2 + i) % 2 = i := by omega
      have h7 : ys.toArray[j]! = p := by rw [getElem!_pos _ _ (by simpa using hl)]; simpa using hp
      rw [h1, h2, h7, getElem!_pos _ _ (by rw [entV_len]; exact hi), List.getElem?_eq_getElem (by rw [entV_len]; exact hi)]
    · rw [List.getElem?_take_eq_none (by omega), List.getElem?_eq_none (by rw [entV_len]; omega)]
  rw [he]
  exact hR p
theorem holds_of_blockV {w : World} {g : Nat} {cur : Array Value} {e : TypeId} {ss : List Value} (hb : w.heap[g]? = some (.cells cur e (0, 0))) (ht : cur.toList.take ss.length = ss) : Holds id w g 0 ss.toArray := by
  intro j hj
  have hj' : j < ss.length := by simpa using hj
  refine ⟨?_, by simp [World.frozen?, hb]⟩
  have h1 : (cur.toList.take ss.length)[j]? = ss[j]? := by rw [ht]
  rw [List.getElem?_take_of_lt hj'] at h1
  simp only [World.cell?, hb, Nat.zero_add]
  simp only [Option.isSome_none, Bool.false_eq_true, if_false]
  rw [← Array.getElem?_toList, h1]
  simp [hj']
theorem heap_sortedV {w : World} {g n : Nat} {os : Array Obj} {cur : Array Value} {e : TypeId} {fr : Nat × Nat} (d : Array Value) (hb : w.heap[g]? = some (.cells cur e fr)) :
    (grow (putRow id (Sort.ahead w n) g 0 d) os).heap[g]? = some (.cells (putCells id 0 d cur) e fr) := by
  have hg : g < w.heap.size := (Array.getElem?_eq_some_iff.1 hb).1
  rw [heap_grow_old _ _ (by simpa using hg)]
  simp [putRow, mapBlock, Sort.ahead, Array.getElem?_modify, hb, onCells]
theorem grownBy_sortedV {w : World} {g n : Nat} {os : Array Obj} (d : Array Value) : w.grownBy (grow (putRow id (Sort.ahead w n) g 0 d) os) (some g) := by
  refine ⟨rfl, rfl, rfl, by simp, fun k hk hne => ?_⟩
  rw [heap_grow_old _ _ (by simpa using hk)]
  have : g ≠ k := fun e => hne (by rw [e])
  simp [putRow, mapBlock, Sort.ahead, Array.getElem?_modify, this]
theorem take_putCellsV (cur : Array Value) (ts : List Value) (h : ts.length ≤ cur.size) : (putCells id 0 ts.toArray cur).toList.take ts.length = ts := by
  apply List.ext_getElem?
  intro j
  by_cases hj : j < ts.length
  · rw [List.getElem?_take_of_lt hj, Array.getElem?_toList]
    simp [putCells, hj, show j < cur.size by omega]
  · rw [List.getElem?_take_eq_none (by omega), List.getElem?_eq_none (by omega)]
theorem ownsRow_sortedV {w : World} {base g cap n len : Nat} {e : TypeId} {os : Array Obj} {cur : Array Value} {ts : List Value} (hl : ts.length = len * 2) (hbase : base ≤ g) (hb : w.heap[g]? = some (.cells cur e (0, 0)))
    (h1 : len ≤ cap) (h2 : cap ≤ maxLen) (h3 : cur.size = cap * 2) :
    (grow (putRow id (Sort.ahead w n) g 0 ts.toArray) os).ownsRow base e 2 (.slice (some ⟨g, 0, none⟩) len cap) len ts :=
  ⟨hl, .inr ⟨g, cap, _, rfl, hbase, heap_sortedV _ hb, h1, h2, by simp [putCells, h3], by rw [← hl]; exact take_putCellsV cur ts (by omega)⟩⟩
/-- A list of entries that do not fall, and hold what a content holds, is the content. -/
theorem ents_is {ys : List S58} {ds c : Con} (hp : ys.Perm (ents ds)) (hd : ds.Perm c) (hu : Up c) (hs : ys.Pairwise fun a b => ¬ b.f0 < a.f0) : ys = ents c := by
  have h1 : (ys.map fun e => (e.f0, e.f1)).Perm c := by
    have h2 := hp.map (fun e : S58 => (e.f0, e.f1))
    have h3 : (ents ds).map (fun e : S58 => (e.f0, e.f1)) = ds := by unfold ents; rw [List.map_map]; exact List.map_id' ds
    rw [h3] at h2
    exact h2.trans hd
  have hn : (c.map (·.1)).Nodup := by rw [List.Nodup, List.pairwise_map]; exact hu.imp (fun h e => by omega)
  have hn2 : ((ys.map fun e => (e.f0, e.f1)).map (·.1)).Nodup := (h1.map _).nodup_iff.2 hn
  have hu2 : Up (ys.map fun e => (e.f0, e.f1)) := by
    rw [List.map_map, List.Nodup, List.pairwise_map] at hn2
    unfold Up
    rw [List.pairwise_map]
    refine (hs.and hn2).imp ?_
    rintro a b ⟨h4, h5⟩
    have h6 : a.f0 ≠ b.f0 := h5
    show a.f0 < b.f0
    omega
  have h7 := hu2.ext_mem hu (fun p => h1.mem_iff)
  rw [← h7]
  unfold ents
  rw [List.map_map]
  exact (List.map_id' ys).symm
end Go.Proofs.YtcdfdckdodgbpaaGreatDoor.QA

/-! TSortE -/
namespace Go.Proofs.YtcdfdckdodgbpaaGreatDoor.QA
open Go.RowKit Go.Maps Go.Proofs.YtcdfdckdodgbpaaGreatDoorW.PrintWords Go.Proofs.YtcdfdckdodgbpaaGreatDoorW.PrintLast Go.Proofs.YtcdfdckdodgbpaaGreatDoorW.PrintMore
set_option linter.unusedVariables false
set_option linter.unusedSimpArgs false
open Go.Sort Go.Proofs
def cmpE (x y : S58) : Int := if x.f0 < y.f0 then -1 else 1
theorem cmpE_lt (x y : S58) : ltOf cmpE x y = decide (x.f0 < y.f0) := by
  unfold ltOf cmpE
  by_cases h : x.f0 < y.f0
  · simp [h]
  · simp [h]
theorem cmpE_order : SWO (ltOf cmpE) := ⟨fun x => by rw [cmpE_lt]; simp, fun x y z h1 h2 => by rw [cmpE_lt] at *; simp at *; omega, fun x y z h1 h2 => by rw [cmpE_lt] at *; simp at *; omega⟩
set_option maxHeartbeats 1000000 in
theorem closure32 (x y : S58) (W : World) : Calls Tryz.prog 45 #[.agg #[.int .i64 x.f0, .int .u64 x.f1], .agg #[.int .i64 y.f0, .int .u64 y.f1]] W fun e w' => e = .returned (.int .i64 (cmpE x y)) ∧ ∃ q os', w' = grow (W.drewN q) os' := by
  have hc : cmpE x y = if x.f0 < y.f0 then -1 else 1 := rfl
  rw [hc]
  by_cases h : x.f0 < y.f0
  · rw [if_pos h]
    have h2 : decide (x.f0 < y.f0) = true := by simpa using h
    go_enter Tryz.func45, Tryz.ntmps45
    go_wp2
    go_ret
    exact ⟨rfl, 0, _, by rw [alloc_eq_grow, alloc_eq_grow, grow_grow]; rfl⟩
  · rw [if_neg h]
    have h2 : decide (x.f0 < y.f0) = false := by simpa using h
    go_enter Tryz.func45, Tryz.ntmps45
    go_wp2
    go_ret
    exact ⟨rfl, 0, _, by rw [alloc_eq_grow, alloc_eq_grow, grow_grow]; rfl⟩
theorem sortE {w : World} {base : Nat} {ok : Nat → Prop} {v : Value} {xs : List S58} (h : Kd.R k58 58 w base ok v xs) (hl : xs.length < 4611686018427387904) :
    Calls Tryz.prog 44 #[v, .func (.func 45) #[] #[]] w fun e w' => e = .returned (.tuple #[]) ∧ ∃ ys : List S58, ys.Perm xs ∧ (ys.Pairwise fun a b => ¬ b.f0 < a.f0) ∧ Kd.R k58 58 w' base ok v ys ∧ Mv w w' (fun k => some k = v.ownBlock) := by
  obtain ⟨hok, inner, hown, hreps⟩ := h
  have hflat := reps_flat (fun x cs hx => k58_openM hx) hreps
  rcases hown.2 with ⟨he, h0⟩ | ⟨g, cap, cur, he, hbg, hg, hnc, hcm, hcs, htk⟩
  · have hnil : xs = [] := List.length_eq_zero_iff.1 h0
    subst hnil
    subst he
    refine (AnyF.slices_SortFunc_none Tryz.sortEnt none 0 (.func (.func 45) #[] #[]) w).mono ?_
    rintro e w' ⟨rfl, rfl⟩
    exact ⟨rfl, [], List.Perm.refl _, List.Pairwise.nil, ⟨hok, inner, hown, hreps⟩, Mv.refl _ _⟩
  · subst he
    have hil : inner.length = xs.length * 2 := hown.1
    have hH : HoldsK entV 2 w g 0 xs.toArray := by
      show Holds id w g 0 (flatK entV 2 xs.toArray)
      rw [← hflat]
      exact holds_of_blockV hg (by rw [hil]; exact htk)
    have eg : ∀ args w, (callFunc 45 args).run Tryz.prog w = .ok (.enter 45 args) w := enters_of Tryz.func45 (by kernel_rfl) rfl
    have hcon := AnyQ.slices_SortFunc Tryz.sortEnt 2 Tryz.isAgg58 Tryz.sizeOf58 entV (fun _ => rfl) (fun x v hv => by simp [entV] at hv; rcases hv with rfl | rfl <;> rfl) cmpE cmpE_order 45 #[] g 0 cap xs.toArray w eg (fun _ _ _ _ x y => closure32 x y _) hH (blk_lt hg) (by simpa using hl)
    change Calls Tryz.prog 44 _ _ _ at hcon
    have hcon2 := hcon
    rw [show xs.toArray.size = xs.length from by simp] at hcon2
    refine hcon2.mono ?_
    rintro e w' ⟨rfl, d', n, os, hp, hs, rfl⟩
    have hsz : d'.size = xs.length := by have h1 := hp.1; simpa using h1
    refine ⟨rfl, d'.toList, ?_, ?_, ?_, ?_⟩
    · have h1 := hp.2.2
      rw [show d'.extract 0 xs.length = d' from by rw [← hsz]; simp, show xs.toArray.extract 0 xs.length = xs.toArray from by simp] at h1
      simpa using h1
    · rw [List.pairwise_iff_getElem]
      intro i j hi hj hij
      have hi2 : i < d'.size := by simpa using hi
      have hj2 : j < d'.size := by simpa using hj
      have h1 := hs i j (Nat.zero_le _) hij (by omega)
      rw [cmpE_lt] at h1
      rw [getElem!_pos d' j hj2, getElem!_pos d' i hi2] at h1
      simpa using h1
    · refine ⟨hok, (flatK entV 2 d').toList, ?_, ?_⟩
      · rw [show d'.toList.length = xs.length from by simpa using hsz]
        have h9 : (flatK entV 2 d').toList.length = xs.length * 2 := by rw [Array.length_toList, size_flatK, hsz]
        have h10 := ownsRow_sortedV (n := n) (os := os) h9 hbg hg hnc hcm hcs
        rw [Array.toArray_toList] at h10
        exact h10
      · have h2 := flat_reps (R := fun x cs => k58.M (sortWorldK entV 2 w g 0 n d' os) base (fun k => ok k ∧ some k ≠ (Value.slice (some ⟨g, 0, none⟩) xs.length cap).ownBlock) x cs) (fun x => k58_mkM _ _ _ x) d'.toList
        rw [Array.toArray_toList] at h2
        exact h2
    · exact Mv.of_grown (grownBy_sortedV _)
end Go.Proofs.YtcdfdckdodgbpaaGreatDoor.QA

/-! TListed -/
namespace Go.Proofs.YtcdfdckdodgbpaaGreatDoor.QA
open Go.RowKit Go.Maps Go.Proofs.YtcdfdckdodgbpaaGreatDoorW.PrintWords Go.Proofs.YtcdfdckdodgbpaaGreatDoorW.PrintLast Go.Proofs.YtcdfdckdodgbpaaGreatDoorW.PrintMore
set_option linter.unusedVariables false
set_option linter.unusedSimpArgs false
theorem infoE : (Tryz.prog.info? 58).map (fun i => (i.zero, i.size, i.bytes)) = some (some (.agg #[(.int .i64 0), (.int .u64 0)]), 2, 16) := by kernel_rfl
theorem ents_snoc (ds : Con) (x z : Int) : ents (ds ++ [(x, z)]) = ents ds ++ [(⟨x, z⟩ : S58)] := by simp [ents]
set_option maxHeartbeats 2000000 in
set_option maxRecDepth 100000 in
theorem listed16 {w : World} {b : Nat} {c : Con} (h : OM Tryz.prog u64S w b c) (hl : c.length < 1000000000000) :
    Calls Tryz.prog 31 #[.map (some b)] w fun e w' => ∃ v, e = .returned v ∧ Kd.R k58 58 w' w.heap.size (fun _ => True) v (ents c) ∧ Below w.heap.size w w' := by
  have HB := Aside0.mk h
  have HL := Aside0.mk hl
  clear h hl
  go_enter Tryz.func31, Tryz.ntmps31
  go_wp2_with (first
    | (at_range; refine om_range rfl _ 75 rfl 47 Tryz.underlying75 rfl HB.out ?_
       intro w2 hr0 hm0 hs0
       have R0 := Aside0.mk hr0
       have B2 := Aside0.mk (hm0.below (Below.refl w.heap.size w) (Nat.le_refl _) (fun k hk => hk.elim))
       clear hr0 hm0 hs0))
  go_frame
  obtain ⟨r, hr⟩ : ∃ r, r = w.heap.size := ⟨_, rfl⟩
  have HR := Aside0.mk hr
  rw [← hr] at R0
  have e1 : (⟨w.heap.size, 0, none⟩ : Addr) = ⟨r, 0, none⟩ := by rw [hr]
  rw [e1]
  clear e1 hr
  go_loopg [3, 4, 5] c.length (fun kq v3 v4 v5 wr => ∃ (ds : List (Int × Int)), Aside0 (ds.length + kq = c.length) ∧ Aside0 (OR Tryz.prog u64S wr b r c ds) ∧ Aside0 (Kd.R k58 58 wr w.heap.size (fun k => k ≠ r) v3 (ents ds)) ∧ Aside0 (Below w.heap.size w wr))
  case atStart => exact ⟨[], ⟨by simp⟩, R0, ⟨Kd.R_nil _ _ _ _ _⟩, B2⟩
  case round =>
    clear R0 B2
    obtain ⟨ds, hcnt, hR, hO, hB⟩ := hrel
    obtain ⟨Ws, hWs, hB⟩ : ∃ W, W = _ ∧ Aside0 (Below w.heap.size w W) := ⟨_, rfl, hB⟩
    subst hWs
    go_wp2_with (first
      | (at_next; refine om_next_u64 rfl _ rfl rfl hR.out ?_ ?_))
    · intro hperm
      have HP := Aside0.mk hperm
      have HLN := Aside0.mk (show (ents ds).length < 4611686018427387904 from by rw [ents_length, hperm.length_eq]; have := HL.out; omega)
      clear hperm
      go_wp2_with (first
        | (go_at_call 44; refine (sortE hO.out HLN.out).mono ?_
           rintro e w4 ⟨rfl, ys, hp, hs, hr, hm⟩
           have HY := Aside0.mk (ents_is hp HP.out HB.out.up hs)
           have R4 := Aside0.mk hr
           have B4 := Aside0.mk (hm.below hB.out hB.out.size (fun k hk => own_base (Kd.R_own hO.out).choose_spec k hk.symm))
           clear hp hs hr hm))
      go_ret
      exact ⟨_, rfl, by rw [← HY.out]; exact Kd.R_mono R4.out (fun _ _ => trivial), B4.out⟩
    · intro x z w3 hwx hin hnot hr1 hm1 hs1 hen
      have R1 := Aside0.mk hr1
      have hB1 := Aside0.mk (hm1.below hB.out hB.out.size (fun k hk => by subst hk; have := HR.out; omega))
      have hO1 := Aside0.mk (Kd.R_step hO.out (fun k hk hlt => hm1.block k hlt hk))
      have hle := hr1.le
      rw [List.length_append, List.length_singleton] at hle
      have HLE := Aside0.mk hle
      have HLT := Aside0.mk hr1.lt
      clear hwx hin hnot hr1 hm1 hs1 hle
      go_wp2_with (first
        | ((with_reducible refine gate_builtin (b := .append) rfl ?_); at_builtin
           refine Kd.R_append k58 (w0 := w) w.heap.size rfl (.tmp 13) (.tmp 17) 36 58 (.agg #[(.int .i64 0), (.int .u64 0)]) 16 rfl Tryz.underlying36 infoE rfl (by decide) (by omega) _ (ents ds) (⟨x, z⟩ : S58) [.int .i64 x, .int .u64 z] (fun k => k ≠ r) (fun _ => False) rfl rfl (k58_mkM _ _ _ (⟨x, z⟩ : S58)) (fun _ hk => hk.elim) (fun k hk => by have := HLT.out; omega) hO1.out hB1.out hB1.out.size (by rw [ents_length]; have := HLE.out; have := HL.out; omega) ?_
           intro v1 w4 ho hb hg hat
           have R4 := Aside0.mk ho
           have B4 := Aside0.mk hb
           have N4 := Aside0.mk (R1.out.move (Mv.of_grown hg) (fun h => by obtain ⟨cs, hc⟩ := own_typed (Kd.R_own hO1.out).choose_spec b h.symm; exact R1.out.owns.ne_cells hc rfl) (fun h => hO1.out.1 r h.symm rfl))
           clear ho hb hg hat))
      go_roundg (gk - 1)
      case measure => have := hcnt.out; have := HLE.out; omega
      case rel =>
        refine ⟨_, ⟨by have := hcnt.out; have := HLE.out; rw [List.length_append, List.length_singleton]; omega⟩, N4, ⟨?_⟩, B4⟩
        rw [ents_snoc]
        exact R4.out
end Go.Proofs.YtcdfdckdodgbpaaGreatDoor.QA

/-! TFold -/
namespace Go.Proofs.YtcdfdckdodgbpaaGreatDoor.QA
open Go.RowKit Go.Maps Go.Proofs.YtcdfdckdodgbpaaGreatDoorW.PrintWords Go.Proofs.YtcdfdckdodgbpaaGreatDoorW.PrintLast Go.Proofs.YtcdfdckdodgbpaaGreatDoorW.PrintMore
set_option linter.unusedVariables false
set_option linter.unusedSimpArgs false
def cntC (l : List (List Chg)) : Nat := (l.map List.length).sum
def foldT (c : Con) (t : List Chg) : Con := t.foldl app c
theorem foldT_snoc (c : Con) (t : List Chg) (j : Nat) (hj : j < t.length) : foldT c (t.take (j + 1)) = app (foldT c (t.take j)) t[j] := by
  unfold foldT
  rw [List.take_succ_eq_append_getElem hj, List.foldl_append]
  rfl
theorem foldC_snoc (l : List (List Chg)) (i : Nat) (hi : i < l.length) : foldC (l.take (i + 1)) = foldT (foldC (l.take i)) l[i] := by
  unfold foldC foldT
  rw [List.take_succ_eq_append_getElem hi, List.foldl_append]
  rfl
theorem foldT_length (t : List Chg) : ∀ c : Con, (foldT c t).length ≤ c.length + t.length := by
  induction t with
  | nil => intro c; exact Nat.le_refl _
  | cons a r ih =>
    intro c
    have h1 := ih (app c a)
    have h2 := app_length c a
    rw [List.length_cons]
    exact Nat.le_trans h1 (by omega)
theorem foldC_length (l : List (List Chg)) (i : Nat) : (foldC (l.take i)).length ≤ cntC (l.take i) := by
  induction i with
  | zero => simp [foldC, cntC]
  | succ i ih =>
    by_cases hi : i < l.length
    · rw [foldC_snoc l i hi]
      refine Nat.le_trans (foldT_length _ _) ?_
      have : cntC (l.take (i + 1)) = cntC (l.take i) + l[i].length := by unfold cntC; rw [List.take_succ_eq_append_getElem hi, List.map_append, List.sum_append]; simp
      omega
    · rw [List.take_of_length_le (by omega)] at ih ⊢
      exact ih
theorem cnt_take_le (l : List (List Chg)) (i : Nat) : cntC (l.take i) ≤ cntC l := by
  unfold cntC
  conv => rhs; rw [← List.take_append_drop i l, List.map_append, List.sum_append]
  omega
theorem row_le (l : List (List Chg)) (i : Nat) (hi : i < l.length) : cntC (l.take i) + l[i].length ≤ cntC l := by
  have h1 := cnt_take_le l (i + 1)
  have : cntC (l.take (i + 1)) = cntC (l.take i) + l[i].length := by unfold cntC; rw [List.take_succ_eq_append_getElem hi, List.map_append, List.sum_append]; simp
  omega
theorem at_row {w : World} {A : Option Addr} {n : Nat} {xs : List (List Chg)} (h : Kd.C kDone w A n xs) (i : Int) (h0 : 0 ≤ i) (h1 : i < n) :
    ∃ ad A0 c0, A = some ad ∧ w.cell? (ad.add i.toNat) = some (.slice A0 (xs.getD i.toNat []).length c0) ∧ (xs.getD i.toNat []).length ≤ c0 ∧ kChg.C w A0 (xs.getD i.toNat []).length (xs.getD i.toNat []) := by
  obtain ⟨ad, c, e, _, hK, hc0⟩ := Kd.C_get h ([] : List Chg) i h0 h1
  have hc : ∀ j u, c[j]? = some u → w.cell? (ad.add (i.toNat * 1 + j)) = some u := hc0
  obtain ⟨A0, c0, rfl, l0, g0⟩ := hK
  exact ⟨ad, A0, c0, e, by have hq := hc 0 _ rfl; rwa [Nat.mul_one, Nat.add_zero] at hq, l0, g0⟩
set_option maxHeartbeats 4000000 in
set_option maxRecDepth 100000 in
theorem Fold6g {w : World} {A : Option Addr} {cap : Nat} {l : List (List Chg)} (h : Kd.C kDone w A l.length l) (hcap : l.length ≤ cap) (hn : l.length < 1000000000000000) (hb : cntC l < 1000000000000000000) (hf : (foldC l).length < 1000000000000) (hw : ∀ t ∈ l, ∀ x ∈ t, (Lit.int .i64 x.f0).wf = true) :
    Calls Tryz.prog 14 #[.slice A l.length cap] w fun e w' => ∃ v, e = .returned v ∧ Kd.R k58 58 w' w.heap.size (fun _ => True) v (ents (foldC l)) ∧ Below w.heap.size w w' := by
  have hmm := @run_makeMap Tryz.prog
  have HC := Aside0.mk h
  have HN := Aside0.mk hn
  have HB := Aside0.mk hb
  have HF := Aside0.mk hf
  have HW := Aside0.mk hw
  have B0 := Aside0.mk (below_alloc (Below.refl w.heap.size w) (.map #[] 0))
  have O0 := Aside0.mk (OM.made (P := Tryz.prog) w u64S)
  clear h hn hb hf hw
  go_enter Tryz.func14, Tryz.ntmps14
  go_upto_region 2 with fail
  obtain ⟨g, hg⟩ : ∃ g, g = w.heap.size := ⟨_, rfl⟩
  have HG := Aside0.mk hg
  rw [← hg] at O0
  have e1 : (w.heap.size : Nat) = g := hg.symm
  rw [e1]
  generalize w.alloc (Obj.map #[] 0) = w1 at B0 O0 ⊢
  clear e1 hg
  go_wp2
  go_loopg [11] l.length (fun kq v11 wr => ∃ (i : Nat), v11 = .int .i64 (i : Int) ∧ Aside0 (i + kq = l.length) ∧ Aside0 (OM Tryz.prog u64S wr g (foldC (l.take i))) ∧ Aside0 (Below w.heap.size w wr))
  case atStart => exact ⟨0, rfl, ⟨by omega⟩, O0, B0⟩
  case round =>
    clear O0 B0
    obtain ⟨i, rfl, hik, hO, hBl⟩ := hrel
    obtain ⟨Ws, hWs, hBl⟩ : ∃ W, W = _ ∧ Aside0 (Below w.heap.size w W) := ⟨_, rfl, hBl⟩
    subst hWs
    cases gk with
    | zero =>
      obtain rfl : i = l.length := hik.out
      have hd1 : ¬ ((l.length : Int) < (l.length : Int)) := by omega
      rw [List.take_length] at hO
      have HLN := HF
      go_wp2_with (first
        | (go_at_call 31; refine (listed16 hO.out HLN.out).mono ?_
           rintro e w4 ⟨v, rfl, hr, hb⟩
           have R4 := Aside0.mk (Kd.R_lower hr hBl.out.size)
           have B4 := Aside0.mk (hBl.out.trans (hb.mono hBl.out.size))
           obtain ⟨A4, c4, hv⟩ := Kd.R_slice hr
           subst hv
           clear hr hb))
      go_ret
      exact ⟨_, rfl, R4.out, B4.out⟩
    | succ k1 =>
      have hi0 : i < l.length := by have := hik.out; omega
      have hi1 : (i : Int) < (l.length : Int) := by omega
      obtain ⟨row, hrow⟩ : ∃ row, row = l[i] := ⟨_, rfl⟩
      obtain ⟨ad1, A1, c1, e1, h1, hc1, hR1⟩ := at_row HC.out (i : Int) (by omega) hi1
      subst e1
      rw [Int.toNat_natCast, show l.getD i [] = row from by rw [hrow]; simp [hi0]] at h1 hc1 hR1
      replace h1 := pw_cell_below hBl.out h1
      have HROW := Aside0.mk hrow
      have hrl := row_le l i hi0
      rw [← hrow] at hrl
      have HRL := Aside0.mk hrl
      have HI0 := Aside0.mk hi0
      have hw2 : IntKind.i64.wrap ((i : Int) + 1) = ((i + 1 : Nat) : Int) := wrp (by omega) (by have := HN.out; omega)
      have HR1 := Aside0.mk (show kChg.C w A1 row.length row from hR1)
      have HWR := Aside0.mk (show ∀ x ∈ row, (Lit.int .i64 x.f0).wf = true from by rw [hrow]; exact HW.out _ (List.getElem_mem hi0))
      clear hrow hrl hR1
      go_wp2
      clear h1
      go_loopg [17] row.length (fun kq v17 wr => ∃ (j : Nat), v17 = .int .i64 (j : Int) ∧ Aside0 (j + kq = row.length) ∧ Aside0 (OM Tryz.prog u64S wr g (foldT (foldC (l.take i)) (row.take j))) ∧ Aside0 (Below w.heap.size w wr))
      case atStart => exact ⟨0, rfl, ⟨by omega⟩, hO, hBl⟩
      case round =>
        clear hO hBl
        obtain ⟨j, rfl, hjk, hO, hBl⟩ := hrel
        obtain ⟨Wt, hWt, hBl⟩ : ∃ W, W = _ ∧ Aside0 (Below w.heap.size w W) := ⟨_, rfl, hBl⟩
        subst hWt
        cases gk with
        | zero =>
          obtain rfl : j = row.length := hjk.out
          have hd1 : ¬ ((row.length : Int) < (row.length : Int)) := by omega
          rw [List.take_length] at hO
          go_wp2
          go_roundg k1
          case measure => omega
          case rel => exact ⟨i + 1, rfl, ⟨by have := hik.out; omega⟩, ⟨by rw [foldC_snoc l i HI0.out, ← HROW.out]; exact hO.out⟩, hBl⟩
        | succ k2 =>
          have hj0 : j < row.length := by have := hjk.out; omega
          have hj1 : (j : Int) < (row.length : Int) := by omega
          obtain ⟨x, hx⟩ : ∃ x, x = row[j] := ⟨_, rfl⟩
          obtain ⟨ad2, e2, y0, y1, y2⟩ := at_T52 (Kd.C_below HR1.out hBl.out) (j : Int) (by omega) hj1
          subst e2
          rw [Int.toNat_natCast, show rd_T52 row (j : Int) = x from by rw [hx]; unfold rd_T52; simp [hj0]] at y0 y1 y2
          have HX := Aside0.mk (show foldT (foldC (l.take i)) (row.take (j + 1)) = app (foldT (foldC (l.take i)) (row.take j)) x from by rw [hx]; exact foldT_snoc _ _ j hj0)
          have HXW := Aside0.mk (show (Lit.int .i64 x.f0).wf = true from by rw [hx]; exact HWR.out _ (List.getElem_mem hj0))
          have HLN := Aside0.mk (show (foldT (foldC (l.take i)) (row.take j)).length < 1000000000000000000 from by
            have h3 := foldT_length (row.take j) (foldC (l.take i))
            have h4 := foldC_length l i
            have h5 := HRL.out
            have h6 := HB.out
            have h7 : (row.take j).length ≤ row.length := by rw [List.length_take]; omega
            exact Nat.lt_of_le_of_lt h3 (by omega))
          have hw3 : IntKind.i64.wrap ((j : Int) + 1) = ((j + 1 : Nat) : Int) := wrp (by omega) (by have := HRL.out; have := HB.out; omega)
          clear hx
          obtain ⟨cc, hcc⟩ : ∃ cc, cc = foldT (foldC (l.take i)) (row.take j) := ⟨_, rfl⟩
          rw [← hcc] at HX hO HLN
          clear hcc
          obtain ⟨xk, xv, xg⟩ := x
          dsimp only at y0 y1 y2 HXW
          have B5 := Aside0.mk (below_alloc (Below.refl Wt.heap.size Wt) (.cells #[.int .i64 xk, .int .u64 xv, .bool xg] 52))
          have O5 := Aside0.mk (hO.out.move (Mv.of_below B5.out (fun _ => False)) (fun h => h))
          have BL5 := Aside0.mk (hBl.out.trans (B5.out.mono hBl.out.size))
          cases xg
          all_goals
            go_wp2_with (first
              | (at_delete; refine om_del rfl _ _ 75 rfl 47 Tryz.underlying75 rfl O5.out rfl HXW.out ?_
                 intro w6 ho hm
                 have O6 := Aside0.mk ho
                 have BL6 := Aside0.mk (hm.below BL5.out BL5.out.size (fun k hk => by rw [hk, HG.out]; exact Nat.le_refl _))
                 clear ho hm)
              | (at_mapUpdate; refine om_put rfl _ _ _ 75 rfl 47 Tryz.underlying75 rfl O5.out (by have := HLN.out; unfold maxLen; omega) rfl HXW.out xv rfl ?_
                 intro w6 ho hm
                 have O6 := Aside0.mk ho
                 have BL6 := Aside0.mk (hm.below BL5.out BL5.out.size (fun k hk => by rw [hk, HG.out]; exact Nat.le_refl _))
                 clear ho hm))
            go_roundg k2
            case measure => omega
            case rel => exact ⟨j + 1, rfl, ⟨by have := hjk.out; omega⟩, ⟨by rw [HX.out]; exact O6.out⟩, BL6⟩
theorem Fold6 {w : World} {A : Option Addr} {cap : Nat} {l : List (List Chg)} (h : Kd.C kDone w A l.length l) (hcap : l.length ≤ cap) (hn : l.length < 1000000000000) (hb : cntC l < 1000000000000) (hw : ∀ t ∈ l, ∀ x ∈ t, (Lit.int .i64 x.f0).wf = true) :
    Calls Tryz.prog 14 #[.slice A l.length cap] w fun e w' => ∃ v, e = .returned v ∧ Kd.R k58 58 w' w.heap.size (fun _ => True) v (ents (foldC l)) ∧ Below w.heap.size w w' :=
  Fold6g h hcap (by omega) (by omega) (by have h1 := foldC_length l l.length; rw [List.take_length] at h1; exact Nat.lt_of_le_of_lt h1 hb) hw
end Go.Proofs.YtcdfdckdodgbpaaGreatDoor.QA

/-! TIds -/
namespace Go.Proofs.YtcdfdckdodgbpaaGreatDoor.QA
open Go.RowKit Go.Maps Go.Proofs.YtcdfdckdodgbpaaGreatDoorW.PrintWords Go.Proofs.YtcdfdckdodgbpaaGreatDoorW.PrintLast Go.Proofs.YtcdfdckdodgbpaaGreatDoorW.PrintMore
set_option linter.unusedVariables false
set_option linter.unusedSimpArgs false
def sorted (xs : List Int) : List Int := xs.mergeSort fun x y => decide (x ≤ y)
theorem holds_of_blockI {w : World} {g : Nat} {cur : Array Value} {e : TypeId} {ss : List Int} (hb : w.heap[g]? = some (.cells cur e (0, 0))) (ht : cur.toList.take ss.length = ss.map (Value.int .i64)) : Go.Sort.Holds (Value.int .i64) w g 0 ss.toArray := by
  intro j hj
  have hj' : j < ss.length := by simpa using hj
  refine ⟨?_, by simp [World.frozen?, hb]⟩
  have h1 : (cur.toList.take ss.length)[j]? = (ss.map (Value.int .i64))[j]? := by rw [ht]
  rw [List.getElem?_take_of_lt hj'] at h1
  simp only [World.cell?, hb, Nat.zero_add]
  simp only [Option.isSome_none, Bool.false_eq_true, if_false]
  rw [← Array.getElem?_toList, h1]
  simp [hj']
theorem heap_sortedI {w : World} {g n : Nat} {os : Array Obj} {cur : Array Value} {e : TypeId} {fr : Nat × Nat} (d : Array Int) (hb : w.heap[g]? = some (.cells cur e fr)) :
    (Go.Sort.grow (Go.Sort.putRow (Value.int .i64) (Go.Sort.ahead w n) g 0 d) os).heap[g]? = some (.cells (Go.Sort.putCells (Value.int .i64) 0 d cur) e fr) := by
  have hg : g < w.heap.size := (Array.getElem?_eq_some_iff.1 hb).1
  rw [Go.Sort.heap_grow_old _ _ (by simpa using hg)]
  simp [Go.Sort.putRow, Go.Sort.mapBlock, Go.Sort.ahead, Array.getElem?_modify, hb, Go.Sort.onCells]
theorem grownBy_sortedI {w : World} {g n : Nat} {os : Array Obj} (d : Array Int) : w.grownBy (Go.Sort.grow (Go.Sort.putRow (Value.int .i64) (Go.Sort.ahead w n) g 0 d) os) (some g) := by
  refine ⟨rfl, rfl, rfl, by simp, fun k hk hne => ?_⟩
  rw [Go.Sort.heap_grow_old _ _ (by simpa using hk)]
  have : g ≠ k := fun e => hne (by rw [e])
  simp [Go.Sort.putRow, Go.Sort.mapBlock, Go.Sort.ahead, Array.getElem?_modify, this]
theorem take_putCellsI (cur : Array Value) (ts : List Int) (h : ts.length ≤ cur.size) : (Go.Sort.putCells (Value.int .i64) 0 ts.toArray cur).toList.take ts.length = ts.map (Value.int .i64) := by
  apply List.ext_getElem?
  intro j
  by_cases hj : j < ts.length
  · rw [List.getElem?_take_of_lt hj, Array.getElem?_toList]
    simp [Go.Sort.putCells, hj, show j < cur.size by omega]
  · rw [List.getElem?_take_eq_none (by omega), List.getElem?_eq_none (by simp; omega)]
theorem sort26 {w : World} {base : Nat} {ok : Nat → Prop} {v : Value} {xs : List Int} (h : Kd.R (Kd.int .i64) 3 w base ok v xs) (hl : xs.length < 4611686018427387904) :
    Calls Tryz.prog 29 #[v] w fun e w' => e = .returned (.tuple #[]) ∧ Kd.R (Kd.int .i64) 3 w' base ok v (sorted xs) ∧ Mv w w' (fun k => some k = v.ownBlock) := by
  have hown := Kd.own_of_R h
  rcases hown.2 with ⟨he, h0⟩ | ⟨g, cap, cur, he, hbg, hg, hnc, hcm, hcs, htk⟩
  · have hnil : xs = [] := List.length_eq_zero_iff.1 h0
    subst hnil
    subst he
    refine (Tryz.slices_Sort_int_none none 0 w).mono ?_
    rintro e w' ⟨rfl, rfl⟩
    exact ⟨rfl, by rw [show sorted [] = [] from by simp [sorted]]; exact h, Mv.refl _ _⟩
  · have ht : cur.toList.take xs.length = xs.map (Value.int .i64) := by
      rw [Nat.mul_one] at htk
      rw [htk]
      rfl
    subst he
    refine (Tryz.slices_Sort_int g 0 cap xs w (holds_of_blockI hg ht) (blk_lt hg) hl).mono ?_
    rintro e w' ⟨rfl, n, os, rfl⟩
    have hsl : (sorted xs).length = xs.length := List.length_mergeSort xs
    refine ⟨rfl, ?_, ?_⟩
    · refine Kd.R_of_own (e := 3) (base := base) (enc := Value.int .i64) (h1 := fun _ => rfl) (ok := ok) (xs := sorted xs) ?_ (fun k hk => h.1 k hk)
      rw [hsl]
      refine ⟨by simp [encs, hsl], .inr ⟨g, cap, _, rfl, hbg, heap_sortedI _ hg, hnc, hcm, by simp [Go.Sort.putCells, hcs], ?_⟩⟩
      have h2 := take_putCellsI cur (sorted xs) (by rw [hsl]; omega)
      rw [hsl] at h2
      rw [Nat.mul_one]
      exact h2
    · exact Mv.of_grown (grownBy_sortedI _)
theorem sorted_mem (xs : List Int) (x : Int) : x ∈ sorted xs ↔ x ∈ xs := (List.mergeSort_perm xs fun x y => decide (x ≤ y)).mem_iff
theorem sorted_is (xs m : List Int) (hp : xs.Perm m) (hm : m.Pairwise (· < ·)) : sorted xs = m := by
  have h1 : (sorted xs).Perm m := (List.mergeSort_perm xs fun x y => decide (x ≤ y)).trans hp
  have hs : (sorted xs).Pairwise (fun x y => decide (x ≤ y) = true) := List.pairwise_mergeSort (fun a b c h1 h2 => by simp at h1 h2 ⊢; omega) (fun a b => by simp; omega) xs
  have hn : (sorted xs).Nodup := h1.nodup_iff.2 (hm.imp (fun h e => by omega))
  have hu : Up ((sorted xs).map fun x => (x, ())) := by
    unfold Up
    rw [List.pairwise_map]
    refine (hs.and hn).imp ?_
    rintro a b ⟨h2, h3⟩
    simp at h2
    show a < b
    omega
  have hu2 : Up (m.map fun x => (x, ())) := by
    unfold Up
    rw [List.pairwise_map]
    exact hm
  have h4 := hu.ext_mem hu2 (fun p => by rw [List.mem_map, List.mem_map]; exact ⟨fun ⟨a, h5, h6⟩ => ⟨a, h1.mem_iff.1 h5, h6⟩, fun ⟨a, h5, h6⟩ => ⟨a, h1.mem_iff.2 h5, h6⟩⟩)
  have h5 := congrArg (List.map (·.1)) h4
  rw [List.map_map, List.map_map] at h5
  have h6 : ∀ l : List Int, l.map ((fun p : Int × Unit => p.1) ∘ fun x => (x, ())) = l := fun l => List.map_id' l
  rw [h6, h6] at h5
  exact h5
theorem infoIds : (Tryz.prog.info? 3).map (fun i => (i.zero, i.size, i.bytes)) = some (some (.int .i64 0), 1, 8) := by kernel_rfl
def PSt.ids (m : PSt) : List Int := m.opn.map (·.1)
set_option maxHeartbeats 2000000 in
set_option maxRecDepth 100000 in
theorem ids14 {w : World} {L : Lay} {m : PSt} (h : St w L none2 m) (hk : Ok m) :
    Calls Tryz.prog 9 #[.pointer (some ⟨L.p, 0, none⟩)] w fun e w' => ∃ v, e = .returned v ∧ Kd.R (Kd.int .i64) 3 w' w.heap.size (fun _ => True) v m.ids ∧ Below w.heap.size w w' := by
  have HO := Aside0.mk (show OM Tryz.prog ptrS w L.ob (opnL m L) from h.c.elim fun _ c => c.open_)
  have HOL := Aside0.mk (show (opnL m L).length ≤ 8 from by have h4 := hk.size; have h5 := hk.table; rw [show (opnL m L).length = m.opn.length from by unfold opnL; rw [List.length_map]]; omega)
  have HID := Aside0.mk (show (opnL m L).map (·.1) = m.ids from by unfold opnL PSt.ids; rw [List.map_map]; rfl)
  have HUP := Aside0.mk (show (m.ids).Pairwise (· < ·) from by unfold PSt.ids; rw [List.pairwise_map]; exact hk.up)
  obtain ⟨c0, c1, c2, c4, c5, c6, c7, c8⟩ := h.cells
  clear h hk c0 c1 c2 c4 c5 c7 c8
  obtain ⟨pl, hpl⟩ : ∃ pl, pl = opnL m L := ⟨_, rfl⟩
  rw [← hpl] at HO HOL HID
  clear hpl
  go_enter Tryz.func9, Tryz.ntmps9
  go_wp2_with (first
    | (at_range; refine om_range rfl _ 67 rfl 72 Tryz.underlying67 rfl HO.out ?_
       intro w2 hr0 hm0 hs0
       have R0 := Aside0.mk hr0
       have B2 := Aside0.mk (hm0.below (Below.refl w.heap.size w) (Nat.le_refl _) (fun k hk => hk.elim))
       clear hr0 hm0 hs0))
  go_frame
  obtain ⟨r, hr⟩ : ∃ r, r = w.heap.size := ⟨_, rfl⟩
  have HR := Aside0.mk hr
  rw [← hr] at R0
  have e1 : (⟨w.heap.size, 0, none⟩ : Addr) = ⟨r, 0, none⟩ := by rw [hr]
  rw [e1]
  clear e1 hr c6
  go_loopg [3, 4] pl.length (fun kq v3 v4 wr => ∃ (ds : List (Int × Nat)), Aside0 (ds.length + kq = pl.length) ∧ Aside0 (OR Tryz.prog ptrS wr L.ob r pl ds) ∧ Aside0 (Kd.R (Kd.int .i64) 3 wr w.heap.size (fun k => k ≠ r) v3 (ds.map (·.1))) ∧ Aside0 (Below w.heap.size w wr))
  case atStart => exact ⟨[], ⟨by simp⟩, R0, ⟨Kd.R_nil _ _ _ _ _⟩, B2⟩
  case round =>
    clear R0 B2
    obtain ⟨ds, hcnt, hR, hO, hB⟩ := hrel
    obtain ⟨Ws, hWs, hB⟩ : ∃ W, W = _ ∧ Aside0 (Below w.heap.size w W) := ⟨_, rfl, hB⟩
    subst hWs
    go_wp2_with (first
      | (at_next; refine om_next_ptr rfl _ rfl rfl hR.out ?_ ?_))
    · intro hperm
      have HS := Aside0.mk (sorted_is (ds.map (·.1)) m.ids (by rw [← HID.out]; exact hperm.map _) HUP.out)
      have HLN := Aside0.mk (show (ds.map (·.1)).length < 4611686018427387904 from by rw [List.length_map, hperm.length_eq]; have := HOL.out; omega)
      clear hperm
      go_wp2_with (first
        | (go_at_call 29; refine (sort26 hO.out HLN.out).mono ?_
           rintro e w4 ⟨rfl, hr, hm⟩
           have R4 := Aside0.mk hr
           have B4 := Aside0.mk (hm.below hB.out hB.out.size (fun k hk => own_base (Kd.R_own hO.out).choose_spec k hk.symm))
           clear hr hm))
      go_ret
      exact ⟨_, rfl, by rw [← HS.out]; exact Kd.R_mono R4.out (fun _ _ => trivial), B4.out⟩
    · intro x z w3 hwx hin hnot hr1 hm1 hs1 hen
      have R1 := Aside0.mk hr1
      have hB1 := Aside0.mk (hm1.below hB.out hB.out.size (fun k hk => by subst hk; have := HR.out; omega))
      have hO1 := Aside0.mk (Kd.R_step hO.out (fun k hk hlt => hm1.block k hlt hk))
      have hle := hr1.le
      rw [List.length_append, List.length_singleton] at hle
      have HLE := Aside0.mk hle
      have HLT := Aside0.mk hr1.lt
      clear hwx hin hnot hr1 hm1 hs1 hle
      go_wp2_with (first
        | ((with_reducible refine gate_builtin (b := .append) rfl ?_); at_builtin
           refine Kd.R_append (Kd.int .i64) (w0 := w) w.heap.size rfl (.tmp 14) (.tmp 16) 31 3 (.int .i64 0) 8 rfl Tryz.underlying31 infoIds rfl (by decide) (by omega) u3 (ds.map (·.1)) x [.int .i64 x] (fun k => k ≠ r) (fun _ => False) rfl rfl rfl (fun _ hk => hk.elim) (fun k hk => by have := HLT.out; omega) hO1.out hB1.out hB1.out.size (by rw [List.length_map]; have := HLE.out; have := HOL.out; omega) ?_
           intro v1 w4 ho hb hg hat
           have R4 := Aside0.mk ho
           have B4 := Aside0.mk hb
           have N4 := Aside0.mk (R1.out.move (Mv.of_grown hg) (fun h => by obtain ⟨cs, hc⟩ := own_typed (Kd.R_own hO1.out).choose_spec L.ob h.symm; exact R1.out.owns.ne_cells hc rfl) (fun h => hO1.out.1 r h.symm rfl))
           clear ho hb hg hat))
      go_roundg (gk - 1)
      case measure => have := hcnt.out; have := HLE.out; omega
      case rel =>
        refine ⟨_, ⟨by have := hcnt.out; have := HLE.out; rw [List.length_append, List.length_singleton]; omega⟩, N4, ⟨?_⟩, B4⟩
        rw [List.map_append]
        exact R4.out
end Go.Proofs.YtcdfdckdodgbpaaGreatDoor.QA
