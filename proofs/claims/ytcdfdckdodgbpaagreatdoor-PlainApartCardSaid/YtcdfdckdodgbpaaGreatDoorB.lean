/- DERIVED: THE SHELF's CONTRACTS AT THIS DUMP, IN PLAIN WORDS (tools/lay-plain.mjs out of 'TryzShelf.lean', which tools/lay-shelf.mjs wrote): THE SAME DECLARATIONS under the same names: 'import', 'namespace', 'open', 'def', 'theorem' AND NOTHING ELSE: no command of the shelf's: FOR A HAND-IN. Each laying: the table of numbers ('.._ren') and one theorem, a field a fact of the dump's own or the kernel's comparison; each contract: ONE APPLICATION. asked walked: what a transaction has of a page. A page comes to be held: the model's and the memory's; Get walked. Begin walked. over walked: a transaction ends, undone. over walked: a transaction ends, as it is. over walked, as it is: the pages that are held become the committed ones; the changes come to the list. Commit, Abort, Checkpoint, Renew walked. Checkpoint walked. -/
import Derived.Shelf.Small.Bits
import Derived.Shelf.Small.Wraps
import Derived.Shelf.Strconv.Itoa0
import Derived.Shelf.Strconv.Itoa1
import Derived.Shelf.LaysM
import Derived.Shelf.Strconv.Itoa2
import Derived.Shelf.Strconv.Itoa3
import Derived.Shelf.Sort.Plain
import Derived.Ground.Names2Prog
import Derived.Shelf.Slices.SearchI
import Derived.Shelf.Slices.In.SortNone
import Derived.Test.YtcdfdckdodgbpaaGreatDoorProg
import Derived.Shelf.SlSortCmp.NoneTotal
import Derived.Ground.SlsfProg
import Derived.Test.YtcdfdckdodgbpaaGreatDoorA
import Derived.StillTailTactics
import Derived.Deep.RegionLaw
/-! TShelf -/
namespace Go.Proofs
open Go.Shelf
def Tryz.lays171_ren : Go.Shelf.Ren := ⟨fun | 171 => 48 | 243 => 67 | 246 => 86 | 283 => 94 | 284 => 95 | 285 => 96 | 286 => 97 | 129 => 65 | 317 => 99 | 318 => 100 | 319 => 101 | 320 => 102 | 337 => 103 | 338 => 104 | n => n, fun | 3 => 3 | 9 => 9 | 2 => 2 | 4 => 4 | 171 => 168 | 0 => 0 | 53 => 47 | 37 => 111 | 5 => 5 | 173 => 170 | 212 => 174 | 51 => 122 | 20 => 20 | 213 => 175 | 46 => 95 | 232 => 176 | 233 => 177 | n => n, fun | 17 => 1 | 18 => 2 | 19 => 3 | n => n⟩
theorem Tryz.lays171 : Go.Proofs.Lays.n171 Tryz.prog Tryz.lays171_ren := {
  mixed := by kernel_rfl
  f129 := Tryz.func65.trans (congrArg some (by kernel_rfl))
  f171 := Tryz.func48.trans (congrArg some (by kernel_rfl))
  f243 := Tryz.func67.trans (congrArg some (by kernel_rfl))
  f246 := Tryz.func86.trans (congrArg some (by kernel_rfl))
  f283 := Tryz.func94.trans (congrArg some (by kernel_rfl))
  f284 := Tryz.func95.trans (congrArg some (by kernel_rfl))
  f285 := Tryz.func96.trans (congrArg some (by kernel_rfl))
  f286 := Tryz.func97.trans (congrArg some (by kernel_rfl))
  f317 := Tryz.func99.trans (congrArg some (by kernel_rfl))
  f318 := Tryz.func100.trans (congrArg some (by kernel_rfl))
  f319 := Tryz.func101.trans (congrArg some (by kernel_rfl))
  f320 := Tryz.func102.trans (congrArg some (by kernel_rfl))
  f337 := Tryz.func103.trans (congrArg some (by kernel_rfl))
  f338 := Tryz.func104.trans (congrArg some (by kernel_rfl))
  t0 := Tryz.underlying0
  a0 := Tryz.isAgg0
  z0 := Tryz.sizeOf0
  v0 := Tryz.zeroValue0
  t2 := Tryz.underlying2
  a2 := Tryz.isAgg2
  z2 := Tryz.sizeOf2
  v2 := Tryz.zeroValue2
  t3 := Tryz.underlying3
  a3 := Tryz.isAgg3
  z3 := Tryz.sizeOf3
  v3 := Tryz.zeroValue3
  t4 := Tryz.underlying4
  a4 := Tryz.isAgg4
  z4 := Tryz.sizeOf4
  v4 := Tryz.zeroValue4
  t5 := Tryz.underlying5
  a5 := Tryz.isAgg5
  z5 := Tryz.sizeOf5
  v5 := Tryz.zeroValue5
  t9 := Tryz.underlying9
  a9 := Tryz.isAgg9
  z9 := Tryz.sizeOf9
  v9 := Tryz.zeroValue9
  t20 := Tryz.underlying20
  a20 := Tryz.isAgg20
  z20 := Tryz.sizeOf20
  v20 := Tryz.zeroValue20
  t37 := Tryz.underlying111
  a37 := Tryz.isAgg111
  z37 := Tryz.sizeOf111
  v37 := Tryz.zeroValue111
  t46 := Tryz.underlying95
  a46 := Tryz.isAgg95
  z46 := Tryz.sizeOf95
  v46 := Tryz.zeroValue95
  t51 := Tryz.underlying122
  a51 := Tryz.isAgg122
  z51 := Tryz.sizeOf122
  v51 := Tryz.zeroValue122
  t53 := Tryz.underlying47
  a53 := Tryz.isAgg47
  z53 := Tryz.sizeOf47
  v53 := Tryz.zeroValue47
  t171 := Tryz.underlying168
  a171 := Tryz.isAgg168
  z171 := Tryz.sizeOf168
  v171 := Tryz.zeroValue168
  t173 := Tryz.underlying170
  a173 := Tryz.isAgg170
  z173 := Tryz.sizeOf170
  v173 := Tryz.zeroValue170
  t212 := Tryz.underlying174
  a212 := Tryz.isAgg174
  z212 := Tryz.sizeOf174
  v212 := Tryz.zeroValue174
  t213 := Tryz.underlying175
  a213 := Tryz.isAgg175
  z213 := Tryz.sizeOf175
  t232 := Tryz.underlying176
  a232 := Tryz.isAgg176
  z232 := Tryz.sizeOf176
  v232 := Tryz.zeroValue176
  t233 := Tryz.underlying177
  a233 := Tryz.isAgg177
  z233 := Tryz.sizeOf177
  v233 := Tryz.zeroValue177
  g17 := by kernel_rfl
  g18 := by kernel_rfl
  g19 := by kernel_rfl }
open Go.RowKit Go.Sort Go.Lib in
/-- THE ROAD WITHOUT THE TABLE: 0 <= i < 100: NO PREMISE ON THE WORLD, AND THE WORLD IS AS IT WAS: a row that keeps its argument in that range need list no table ('laid = []'). (LAID: no walk: one application.) -/
theorem Tryz.strconv_Itoa_small (i : Nat) (hi : i < 100) (w : World) :
    Calls Tryz.prog 48 #[.int .i64 i] w fun e w' => e = .returned (.string ⟨(Lib.decDigits i).toArray⟩) ∧ w' = w := Any.strconv_Itoa_small Tryz.lays171 i hi w
def Tryz.lays189_ren : Go.Shelf.Ren := ⟨fun | 189 => 29 | 125 => 42 | 257 => 41 | 128 => 64 | 129 => 65 | 294 => 55 | 295 => 56 | 296 => 57 | 297 => 58 | 298 => 59 | 299 => 60 | 216 => 61 | 300 => 62 | 301 => 63 | 328 => 72 | 329 => 73 | 330 => 74 | 331 => 75 | 332 => 76 | 215 => 77 | 343 => 90 | n => n, fun | 28 => 31 | 3 => 3 | 46 => 95 | 0 => 0 | 51 => 122 | 53 => 47 | 4 => 4 | 183 => 115 | 182 => 114 | 131 => 119 | 5 => 5 | 9 => 9 | 218 => 137 | 222 => 141 | 228 => 164 | 229 => 65 | n => n, fun | n => n⟩
theorem Tryz.lays189 : Go.Proofs.Lays.n189 Tryz.prog Tryz.lays189_ren := {
  mixed := by kernel_rfl
  f125 := Tryz.func42.trans (congrArg some (by kernel_rfl))
  f128 := Tryz.func64.trans (congrArg some (by kernel_rfl))
  f129 := Tryz.func65.trans (congrArg some (by kernel_rfl))
  f189 := Tryz.func29.trans (congrArg some (by kernel_rfl))
  f215 := Tryz.func77.trans (congrArg some (by kernel_rfl))
  f216 := Tryz.func61.trans (congrArg some (by kernel_rfl))
  f257 := Tryz.func41.trans (congrArg some (by kernel_rfl))
  f294 := Tryz.func55.trans (congrArg some (by kernel_rfl))
  f295 := Tryz.func56.trans (congrArg some (by kernel_rfl))
  f296 := Tryz.func57.trans (congrArg some (by kernel_rfl))
  f297 := Tryz.func58.trans (congrArg some (by kernel_rfl))
  f298 := Tryz.func59.trans (congrArg some (by kernel_rfl))
  f299 := Tryz.func60.trans (congrArg some (by kernel_rfl))
  f300 := Tryz.func62.trans (congrArg some (by kernel_rfl))
  f301 := Tryz.func63.trans (congrArg some (by kernel_rfl))
  f328 := Tryz.func72.trans (congrArg some (by kernel_rfl))
  f329 := Tryz.func73.trans (congrArg some (by kernel_rfl))
  f330 := Tryz.func74.trans (congrArg some (by kernel_rfl))
  f331 := Tryz.func75.trans (congrArg some (by kernel_rfl))
  f332 := Tryz.func76.trans (congrArg some (by kernel_rfl))
  f343 := Tryz.func90.trans (congrArg some (by kernel_rfl))
  t0 := Tryz.underlying0
  a0 := Tryz.isAgg0
  z0 := Tryz.sizeOf0
  v0 := Tryz.zeroValue0
  t3 := Tryz.underlying3
  a3 := Tryz.isAgg3
  z3 := Tryz.sizeOf3
  v3 := Tryz.zeroValue3
  t4 := Tryz.underlying4
  a4 := Tryz.isAgg4
  z4 := Tryz.sizeOf4
  v4 := Tryz.zeroValue4
  t5 := Tryz.underlying5
  a5 := Tryz.isAgg5
  z5 := Tryz.sizeOf5
  v5 := Tryz.zeroValue5
  t9 := Tryz.underlying9
  a9 := Tryz.isAgg9
  z9 := Tryz.sizeOf9
  v9 := Tryz.zeroValue9
  t28 := Tryz.underlying31
  a28 := Tryz.isAgg31
  z28 := Tryz.sizeOf31
  v28 := Tryz.zeroValue31
  t46 := Tryz.underlying95
  a46 := Tryz.isAgg95
  z46 := Tryz.sizeOf95
  v46 := Tryz.zeroValue95
  t51 := Tryz.underlying122
  a51 := Tryz.isAgg122
  z51 := Tryz.sizeOf122
  v51 := Tryz.zeroValue122
  t53 := Tryz.underlying47
  a53 := Tryz.isAgg47
  z53 := Tryz.sizeOf47
  v53 := Tryz.zeroValue47
  t131 := Tryz.underlying119
  a131 := Tryz.isAgg119
  z131 := Tryz.sizeOf119
  v131 := Tryz.zeroValue119
  t182 := Tryz.underlying114
  a182 := Tryz.isAgg114
  z182 := Tryz.sizeOf114
  v182 := Tryz.zeroValue114
  t183 := Tryz.underlying115
  a183 := Tryz.isAgg115
  z183 := Tryz.sizeOf115
  v183 := Tryz.zeroValue115
  t218 := Tryz.underlying137
  a218 := Tryz.isAgg137
  z218 := Tryz.sizeOf137
  v218 := Tryz.zeroValue137
  t222 := Tryz.underlying141
  a222 := Tryz.isAgg141
  z222 := Tryz.sizeOf141
  v222 := Tryz.zeroValue141
  t228 := Tryz.underlying164
  a228 := Tryz.isAgg164
  z228 := Tryz.sizeOf164
  v228 := Tryz.zeroValue164
  t229 := Tryz.underlying65
  a229 := Tryz.isAgg65
  z229 := Tryz.sizeOf65
  v229 := Tryz.zeroValue65 }
open Go.Sort Go.RowKit in
theorem Tryz.slices_Sort_int (blk off cap : Nat) (zs : List Int) (w : World) (hH : Holds (Value.int .i64) w blk off zs.toArray) (hblk : blk < w.heap.size) (hsz : zs.length < 4611686018427387904) :
    Calls Tryz.prog 29 #[.slice (some ⟨blk, off, none⟩) zs.length cap] w fun e w' =>
      e = .returned (.tuple #[]) ∧ ∃ n os, w' = grow (putRow (Value.int .i64) (Sort.ahead w n) blk off (zs.mergeSort fun x y => decide (x ≤ y)).toArray) os := Any.slices_Sort_int Tryz.lays189 blk off cap zs w hH hblk hsz
open Go.RowKit Go.Sort in
/-- .. and plain. (LAID: no walk: one application.) -/
theorem Tryz.slices_Sort_int_none (p : Option Addr) (cap : Nat) (w : World) :
    Calls Tryz.prog 29 #[.slice p 0 cap] w fun e w' => e = .returned (.tuple #[]) ∧ w' = w := Any.slices_Sort_int_none Tryz.lays189 p cap w
def Tryz.sortEnt_ren : Go.Shelf.Ren := ⟨fun | 6 => 44 | 15 => 42 | 14 => 66 | 28 => 64 | 29 => 65 | 20 => 78 | 21 => 79 | 22 => 80 | 23 => 81 | 24 => 82 | 25 => 83 | 26 => 84 | 27 => 85 | 46 => 91 | 47 => 73 | 48 => 74 | 49 => 92 | 50 => 93 | 57 => 98 | n => n, fun | 22 => 36 | 24 => 58 | 25 => 98 | 3 => 3 | 39 => 95 | 0 => 0 | 53 => 122 | 55 => 47 | 4 => 4 | 46 => 115 | 45 => 114 | 50 => 119 | 5 => 5 | 9 => 9 | 66 => 137 | 70 => 141 | 76 => 164 | 77 => 65 | n => n, fun | n => n⟩
theorem Tryz.sortEnt : Go.Proofs.SlLaysF0.n6 Tryz.prog Tryz.sortEnt_ren := {
  mixed := by kernel_rfl
  f6 := ⟨Tryz.f44.name, by decide, Tryz.func44.trans (congrArg some (by kernel_rfl))⟩
  f14 := ⟨Tryz.f66.name, by decide, Tryz.func66.trans (congrArg some (by kernel_rfl))⟩
  f15 := Tryz.func42.trans (congrArg some (by kernel_rfl))
  f20 := ⟨Tryz.f78.name, by decide, Tryz.func78.trans (congrArg some (by kernel_rfl))⟩
  f21 := ⟨Tryz.f79.name, by decide, Tryz.func79.trans (congrArg some (by kernel_rfl))⟩
  f22 := ⟨Tryz.f80.name, by decide, Tryz.func80.trans (congrArg some (by kernel_rfl))⟩
  f23 := ⟨Tryz.f81.name, by decide, Tryz.func81.trans (congrArg some (by kernel_rfl))⟩
  f24 := ⟨Tryz.f82.name, by decide, Tryz.func82.trans (congrArg some (by kernel_rfl))⟩
  f25 := ⟨Tryz.f83.name, by decide, Tryz.func83.trans (congrArg some (by kernel_rfl))⟩
  f26 := ⟨Tryz.f84.name, by decide, Tryz.func84.trans (congrArg some (by kernel_rfl))⟩
  f27 := ⟨Tryz.f85.name, by decide, Tryz.func85.trans (congrArg some (by kernel_rfl))⟩
  f28 := Tryz.func64.trans (congrArg some (by kernel_rfl))
  f29 := Tryz.func65.trans (congrArg some (by kernel_rfl))
  f46 := ⟨Tryz.f91.name, by decide, Tryz.func91.trans (congrArg some (by kernel_rfl))⟩
  f47 := Tryz.func73.trans (congrArg some (by kernel_rfl))
  f48 := Tryz.func74.trans (congrArg some (by kernel_rfl))
  f49 := ⟨Tryz.f92.name, by decide, Tryz.func92.trans (congrArg some (by kernel_rfl))⟩
  f50 := ⟨Tryz.f93.name, by decide, Tryz.func93.trans (congrArg some (by kernel_rfl))⟩
  f57 := ⟨Tryz.f98.name, by decide, Tryz.func98.trans (congrArg some (by kernel_rfl))⟩
  t0 := Tryz.underlying0
  a0 := Tryz.isAgg0
  z0 := Tryz.sizeOf0
  v0 := Tryz.zeroValue0
  t3 := Tryz.underlying3
  a3 := Tryz.isAgg3
  z3 := Tryz.sizeOf3
  v3 := Tryz.zeroValue3
  t4 := Tryz.underlying4
  a4 := Tryz.isAgg4
  z4 := Tryz.sizeOf4
  v4 := Tryz.zeroValue4
  t5 := Tryz.underlying5
  a5 := Tryz.isAgg5
  z5 := Tryz.sizeOf5
  v5 := Tryz.zeroValue5
  t9 := Tryz.underlying9
  a9 := Tryz.isAgg9
  z9 := Tryz.sizeOf9
  v9 := Tryz.zeroValue9
  t22 := Tryz.underlying36
  a22 := Tryz.isAgg36
  z22 := Tryz.sizeOf36
  v22 := Tryz.zeroValue36
  t25 := Tryz.underlying98
  a25 := Tryz.isAgg98
  z25 := Tryz.sizeOf98
  v25 := Tryz.zeroValue98
  t39 := Tryz.underlying95
  a39 := Tryz.isAgg95
  z39 := Tryz.sizeOf95
  v39 := Tryz.zeroValue95
  t45 := Tryz.underlying114
  a45 := Tryz.isAgg114
  z45 := Tryz.sizeOf114
  v45 := Tryz.zeroValue114
  t46 := Tryz.underlying115
  a46 := Tryz.isAgg115
  z46 := Tryz.sizeOf115
  v46 := Tryz.zeroValue115
  t50 := Tryz.underlying119
  a50 := Tryz.isAgg119
  z50 := Tryz.sizeOf119
  v50 := Tryz.zeroValue119
  t53 := Tryz.underlying122
  a53 := Tryz.isAgg122
  z53 := Tryz.sizeOf122
  v53 := Tryz.zeroValue122
  t55 := Tryz.underlying47
  a55 := Tryz.isAgg47
  z55 := Tryz.sizeOf47
  v55 := Tryz.zeroValue47
  t66 := Tryz.underlying137
  a66 := Tryz.isAgg137
  z66 := Tryz.sizeOf137
  v66 := Tryz.zeroValue137
  t70 := Tryz.underlying141
  a70 := Tryz.isAgg141
  z70 := Tryz.sizeOf141
  v70 := Tryz.zeroValue141
  t76 := Tryz.underlying164
  a76 := Tryz.isAgg164
  z76 := Tryz.sizeOf164
  v76 := Tryz.zeroValue164
  t77 := Tryz.underlying65
  a77 := Tryz.isAgg65
  z77 := Tryz.sizeOf65
  v77 := Tryz.zeroValue65 }
end Go.Proofs

/-! TAsked -/
namespace Go.Proofs.YtcdfdckdodgbpaaGreatDoor.QA
open Go.RowKit Go.Maps Go.Proofs.YtcdfdckdodgbpaaGreatDoorW.PrintWords Go.Proofs.YtcdfdckdodgbpaaGreatDoorW.PrintLast Go.Proofs.YtcdfdckdodgbpaaGreatDoorW.PrintMore
set_option linter.unusedVariables false
set_option linter.unusedSimpArgs false
theorem askedE_ok {m : PSt} {id key : Int} (h : m.askedE id key = 0) : (∃ t, look m.opn id = some t) ∧ (0 ≤ key ∧ key ≤ m.keys - 1) ∧ (m.holder (key.tmod m.pages) = 0 ∨ m.holder (key.tmod m.pages) = id) := by
  unfold PSt.askedE at h
  cases hl : look m.opn id with
  | none => rw [hl] at h; simp at h
  | some t =>
    rw [hl] at h
    simp only [Option.isNone_some, Bool.false_eq_true, if_false] at h
    by_cases h1 : key < 0 ∨ m.keys - 1 < key
    · rw [if_pos h1] at h; cases h
    · rw [if_neg h1] at h
      by_cases h2 : m.holder (key.tmod m.pages) ≠ 0 ∧ m.holder (key.tmod m.pages) ≠ id
      · rw [if_pos h2] at h; cases h
      · refine ⟨⟨t, rfl⟩, by omega, ?_⟩
        by_cases h3 : m.holder (key.tmod m.pages) = 0
        · exact .inl h3
        · exact .inr (Classical.not_not.1 (fun h4 => h2 ⟨h3, h4⟩))
theorem dec_short : ∀ n, n < 100 → ¬ (9223372036854775807 < 5 + (Lib.decDigits n).length) := by decide +kernel
theorem page_range {m : PSt} (hk : Ok m) {key : Int} (h : 0 ≤ key) : 0 ≤ key.tmod m.pages ∧ key.tmod m.pages < m.pages := by
  have := hk.pages
  exact ⟨Int.tmod_nonneg _ h, Int.tmod_lt_of_pos _ (by omega)⟩
set_option maxHeartbeats 2000000 in
set_option maxRecDepth 100000 in
theorem asked_bad {w : World} {L : Lay} {m : PSt} (h : St w L none2 m) (hk : Ok m) (id key : Int) (hid : (Lit.int .i64 id).wf = true) (hky : (Lit.int .i64 key).wf = true) (hE : m.askedE id key ≠ 0) :
    Calls Tryz.prog 35 #[.pointer (some ⟨L.p, 0, none⟩), .int .i64 id, .int .i64 key] w fun e w' => ∃ v n, e = .returned (.tuple #[.pointer none, .map none, v]) ∧ Err w' (m.askedE id key) n v ∧ Below w.heap.size w w' := by
  have H := Aside0.mk h
  have HK := Aside0.mk hk
  have HI := Aside0.mk hid
  have HY := Aside0.mk hky
  obtain ⟨⟨vd, hC⟩, htx⟩ := h
  have HO := Aside0.mk (show OM Tryz.prog ptrS w L.ob (opnL m L) from hC.open_)
  obtain ⟨c0, c1, c2, c4, c5, c6, c7, c8⟩ := H.out.cells
  have hlo := opnL_look m L id
  have hpn : m.pages ≠ 0 := by have := hk.pages; omega
  have hkw : IntKind.i64.wrap (m.keys - 1) = m.keys - 1 := wrp rfl (by have := hk.keys; omega)
  clear hC htx hk hid hky
  cases hl : look m.opn id with
  | none =>
    have he : m.askedE id key = 160 := by unfold PSt.askedE; rw [hl]; rfl
    rw [he]
    rw [hl] at hlo
    have HLO := Aside0.mk hlo
    clear hlo hE he hl
    go_enter Tryz.func35, Tryz.ntmps35
    go_wp2_with (first
      | (at_lookup; refine om_look_none rfl _ _ 67 rfl 72 Tryz.underlying67 (zero85 _) rfl HO.out rfl HI.out HLO.out ?_)
      | (go_at_call 46; refine (refused44 160 _).mono ?_; rintro e w1 ⟨v, rfl, he, hb⟩
         have E1 := Aside0.mk he
         have B1 := Aside0.mk hb
         clear he hb))
    go_ret3
    exact ⟨v, 0, rfl, E1.out, B1.out⟩
  | some t =>
    rw [hl] at hlo
    have HLO := Aside0.mk hlo
    clear hlo
    by_cases h1 : key < 0 ∨ m.keys - 1 < key
    · have he : m.askedE id key = 50 := by unfold PSt.askedE; rw [hl]; simp [h1]
      rw [he]
      have hd : decide (0 ≤ key ∧ key ≤ m.keys - 1) = false := decide_eq_false (by omega)
      clear hE he hl h1
      go_enter Tryz.func35, Tryz.ntmps35
      go_wp2_with (first
        | (at_lookup; refine om_look_ptr rfl _ _ 67 rfl 72 Tryz.underlying67 (zero85 _) rfl HO.out rfl HI.out HLO.out ?_)
        | (go_at_call 33; refine (within33 key 0 (m.keys - 1) _).mono ?_; rintro e w1 ⟨rfl, rfl⟩; rw [hd])
        | (go_at_call 46; refine (refused44 50 _).mono ?_; rintro e w1 ⟨v, rfl, he, hb⟩
           have E1 := Aside0.mk he
           have B1 := Aside0.mk hb
           clear he hb))
      go_ret3
      exact ⟨v, 0, rfl, E1.out, B1.out⟩
    · have hkr : 0 ≤ key ∧ key ≤ m.keys - 1 := by omega
      have hd : decide (0 ≤ key ∧ key ≤ m.keys - 1) = true := decide_eq_true hkr
      have hpg := page_range HK.out hkr.1
      have hp16 := HK.out.pages
      by_cases h2 : m.holder (key.tmod m.pages) ≠ 0 ∧ m.holder (key.tmod m.pages) ≠ id
      · have he : m.askedE id key = 150 := by unfold PSt.askedE; rw [hl]; simp only [Option.isNone_some, Bool.false_eq_true, if_false]; rw [if_neg h1, if_pos h2]
        rw [he]
        obtain ⟨pn, hpn2⟩ : ∃ n : Nat, key.tmod m.pages = (n : Int) := ⟨(key.tmod m.pages).toNat, by omega⟩
        have hpw : (Lit.int .i64 (key.tmod m.pages)).wf = true := wf64 (by omega)
        have HPW := Aside0.mk hpw
        have HPN := Aside0.mk (show key.tmod m.pages = (pn : Int) ∧ pn < 100 from ⟨hpn2, by omega⟩)
        have hds := dec_short pn HPN.out.2
        obtain ⟨hh, hhe⟩ : ∃ hh, hh = m.holder (key.tmod m.pages) := ⟨_, rfl⟩
        have HHE := Aside0.mk hhe
        have hb1 : (hh != 0) = true := bne_iff_ne.mpr (hhe ▸ h2.1)
        have hb2 : (hh != id) = true := bne_iff_ne.mpr (hhe ▸ h2.2)
        clear hE he hl h1 h2 hkr hpg hp16 hpw hpn2 hhe
        go_enter Tryz.func35, Tryz.ntmps35
        go_wp2_with (first
          | (at_lookup; refine om_look_ptr rfl _ _ 67 rfl 72 Tryz.underlying67 (zero85 _) rfl HO.out rfl HI.out HLO.out ?_)
          | (go_at_call 33; refine (within33 key 0 (m.keys - 1) _).mono ?_; rintro e w1 ⟨rfl, rfl⟩; rw [hd])
          | (go_at_call 47; refine (holder49 H.out HK.out _ HPW.out).mono ?_; rintro e w1 ⟨rfl, hb⟩; rw [← HHE.out]
             have B1 := Aside0.mk hb
             clear hb)
          | (go_at_call 48; rw [HPN.out.1]; refine (Tryz.strconv_Itoa_small pn HPN.out.2 _).mono ?_; rintro e w2 ⟨rfl, rfl⟩)
          | (go_at_call 46; refine (refused44 150 _).mono ?_; rintro e w3 ⟨v, rfl, he, hb⟩
             obtain ⟨tv, xv, hvx⟩ := he.not_nil
             subst hvx
             have E1 := Aside0.mk he
             have B3 := Aside0.mk (B1.out.trans (hb.mono B1.out.size))
             clear he hb))
        go_ret3
        have hb4 := below_alloc (Below.refl w3.heap.size w3) (Obj.cells #[Value.string ({ data := #[112, 97, 103, 101, 32] } ++ { data := (Lib.decDigits pn).toArray }), .iface tv xv] 103)
        exact ⟨_, 1, rfl, .met w3.heap.size 0 _ _ (heap_alloc_new w3 _) (E1.out.keep hb4), B3.out.trans (hb4.mono B3.out.size)⟩
      · exact absurd (by unfold PSt.askedE; rw [hl]; simp only [Option.isNone_some, Bool.false_eq_true, if_false]; rw [if_neg h1, if_neg h2]) hE
theorem St.leftC {w : World} {L : Lay} {m : PSt} (h : St w L none2 m) (n : Nat) (hn : n < m.left.length) : w.cell? ⟨L.gl, n, none⟩ = some (.map (L.lb n)) ∧ CV w (.map (L.lb n)) (m.left.getD n []) := by
  obtain ⟨vd, hC⟩ := h.c
  refine ⟨?_, ?_⟩
  · rw [blk_cell hC.leftA n]
    simp [leftV, hn, lbV]
  · rcases hC.left n _ (List.getElem?_eq_getElem hn) with ⟨h1, h2⟩ | ⟨b, h1, h2, h3⟩
    · rw [h1, List.getD_eq_getElem?_getD, List.getElem?_eq_getElem hn, Option.getD_some, h2]
      exact .nil
    · rw [h1, List.getD_eq_getElem?_getD, List.getElem?_eq_getElem hn, Option.getD_some]
      exact .map b _ h3
theorem attach_cb (L : Lay) (id pg : Int) (b : Nat) : (L.attach id pg b).cb id pg = b := if_pos ⟨rfl, rfl⟩
theorem attach_role (L : Lay) (id pg : Int) (b : Nat) : (L.attach id pg b).role b = .t id (.page pg) := if_pos rfl
theorem left_small {m : PSt} (hk : Ok m) (n : Nat) (hn : n < m.left.length) : (m.left.getD n []).length < 1000000 := by
  have h1 := (hk.page n _ (List.getElem?_eq_getElem hn)).len
  have h2 := hk.slots
  rw [List.getD_eq_getElem?_getD, List.getElem?_eq_getElem hn, Option.getD_some]
  omega
theorem Ok.txn_look {m : PSt} {id : Int} {t : Txn} (hl : look m.opn id = some t) : m.txn id = t := by unfold PSt.txn; rw [hl]; rfl
set_option maxHeartbeats 4000000 in
set_option maxRecDepth 100000 in
/-- asked answers: the content is in a map of the transaction's own, or a copy that may become one. -/
theorem asked_ok {w : World} {L : Lay} {m : PSt} (h : St w L none2 m) (hk : Ok m) (id key : Int) (hid : (Lit.int .i64 id).wf = true) (hky : (Lit.int .i64 key).wf = true) (hE : m.askedE id key = 0) :
    Calls Tryz.prog 35 #[.pointer (some ⟨L.p, 0, none⟩), .int .i64 id, .int .i64 key] w fun e w' => ∃ L', e = .returned (.tuple #[.pointer (some ⟨L'.tb id, 0, none⟩), .map (some (L'.cb id (key.tmod m.pages))), .nilIface]) ∧ St w' L' none2 m ∧ Goes w L w' L' ∧
      L'.role (L'.cb id (key.tmod m.pages)) = .t id (.page (key.tmod m.pages)) ∧ OM Tryz.prog u64S w' (L'.cb id (key.tmod m.pages)) (m.con id (key.tmod m.pages)) := by
  obtain ⟨⟨t, hl⟩, hkr, hho⟩ := askedE_ok hE
  have hpg := page_range hk hkr.1
  have hp16 := hk.pages
  have hlen := hk.left
  have H := Aside0.mk h
  have HK := Aside0.mk hk
  have HI := Aside0.mk hid
  have HY := Aside0.mk hky
  obtain ⟨⟨vd, hC⟩, htx⟩ := h
  have HO := Aside0.mk (show OM Tryz.prog ptrS w L.ob (opnL m L) from hC.open_)
  obtain ⟨c0, c1, c2, c4, c5, c6, c7, c8⟩ := H.out.cells
  have hlo := opnL_look m L id
  rw [hl] at hlo
  have HLO := Aside0.mk hlo
  have hpn : m.pages ≠ 0 := by omega
  have hkw : IntKind.i64.wrap (m.keys - 1) = m.keys - 1 := wrp rfl (by have := hk.keys; omega)
  have hd : decide (0 ≤ key ∧ key ≤ m.keys - 1) = true := decide_eq_true hkr
  obtain ⟨pn, hpn2⟩ : ∃ n : Nat, key.tmod m.pages = (n : Int) := ⟨(key.tmod m.pages).toNat, by omega⟩
  have hpl : pn < m.left.length := by omega
  have hpl2 : (pn : Int) < (m.left.length : Int) := by omega
  have hpw : (Lit.int .i64 (pn : Int)).wf = true := wf64 (by omega)
  have HPW := Aside0.mk hpw
  rw [hpn2] at hho ⊢
  have HPL := Aside0.mk hpl
  obtain ⟨hh, hhe⟩ : ∃ hh, hh = m.holder (pn : Int) := ⟨_, rfl⟩
  rw [← hhe] at hho
  have HHE := Aside0.mk hhe
  have HTX := Aside0.mk htx
  obtain ⟨⟨vl, vc, hTC⟩, hTP⟩ := htx id t hl
  have HTC := Aside0.mk hTC
  have HTP := Aside0.mk hTP
  have ct0 : w.cell? ⟨L.tb id, 0, none⟩ = some (.map (some (L.pb id))) := blk_cell hTC.cell 0
  have htxn := Ok.txn_look hl
  have hcon : m.con id (pn : Int) = (look t.pages (pn : Int)).getD (m.left.getD pn []) := by unfold PSt.con; rw [htxn, Int.toNat_natCast]
  have HCON := Aside0.mk hcon
  have hlk : look (t.pages.map fun q => (q.1, L.cb id q.1)) (pn : Int) = (look t.pages (pn : Int)).map fun _ => L.cb id (pn : Int) := look_map (fun pg _ => L.cb id pg) t.pages (pn : Int)
  have HLT := Aside0.mk hl
  clear hC hk hid hky hE hpg hp16 hlen hkr hlo hpw hhe hTC hTP htx hpl htxn hcon hl
  have hnn := neq59n
  have hns := neq59s
  have hb0 : hh = 0 ∧ (hh != 0) = false ∨ hh = id ∧ (hh != 0) = true ∧ (hh != id) = false := by
    rcases hho with h1 | h1
    · exact .inl ⟨h1, by rw [h1]; rfl⟩
    · by_cases h2 : hh = 0
      · exact .inl ⟨h2, by rw [h2]; rfl⟩
      · exact .inr ⟨h1, bne_iff_ne.mpr h2, by rw [h1]; simp⟩
  clear hho
--BEGIN
  rcases hb0 with ⟨h1, hb1⟩ | ⟨h1, hb1, hb2⟩
  · cases hpq : look t.pages (pn : Int) with
    | none =>
      rw [hpq] at hlk
      have HLK := Aside0.mk hlk
      have HPQ := Aside0.mk hpq
      have HLEN := Aside0.mk (left_small HK.out pn HPL.out)
      clear hlk hpq h1
      go_enter Tryz.func35, Tryz.ntmps35
      go_wp2_with (first
          | (at_lookup; refine om_look_ptr rfl _ _ 67 rfl 72 Tryz.underlying67 (zero85 _) rfl HO.out rfl HI.out HLO.out ?_)
          | (go_at_call 33; refine (within33 key 0 (m.keys - 1) _).mono ?_; rintro e w1 ⟨rfl, rfl⟩; rw [hd])
          | (go_at_call 47; refine (holder49 H.out HK.out _ HPW.out).mono ?_; rintro e w1 ⟨rfl, hb⟩; rw [← HHE.out]
             have B1 := Aside0.mk hb
             have S1 := Aside0.mk (H.out.below hb)
             have P1 := Aside0.mk (HTC.out.pages.move (Mv.of_below hb (fun _ => False)) (fun h => h))
             have ct1 : w1.cell? ⟨L.tb id, 0, none⟩ = some (.map (some (L.pb id))) := blk_cell (blk_below HTC.out.cell hb) 0
             obtain ⟨d0, d1, d2, d4, d5, d6, d7, d8⟩ := S1.out.cells
             have dl := (S1.out.leftC pn HPL.out).1
             clear hb)
          | (at_lookup; refine om_look_none rfl _ _ 80 rfl 75 Tryz.underlying80 (zero59 _) rfl P1.out rfl HPW.out HLK.out ?_)
          | (go_at_call 49; refine (copied51 (S1.out.leftC pn HPL.out).2 HLEN.out).mono ?_; rintro e w2 ⟨b, rfl, ho, hle, hb2⟩
             have O2 := Aside0.mk ho
             have B2 := Aside0.mk hb2
             have LE2 := Aside0.mk hle
             clear ho hb2 hle))
      go_ret3
      have hfr := O2.out.lt
      have hst := S1.out.attach (id := id) (pg := (pn : Int)) LE2.out hfr B2.out (fun t2 h2 => by rw [HLT.out] at h2; injection h2 with h2; rw [← h2]; exact HPQ.out)
      refine ⟨L.attach id pn b, ?_, hst, ?_, ?_, ?_⟩
      · rw [attach_cb]
        rfl
      · refine ⟨Mv.of_below (B1.out.trans (B2.out.mono B1.out.size)) _, fun k hk ho => ?_, rfl, fun k hk ho => ?_⟩
        all_goals
          show (if k = b then _ else L.role k) = _
          rw [if_neg (by have := LE2.out; have := B1.out.size; omega)]
          exact ho
      · rw [attach_cb]
        exact attach_role L id _ b
      · rw [attach_cb, HCON.out, HPQ.out]
        exact O2.out
    | some cc =>
      rw [hpq] at hlk
      have HLK := Aside0.mk hlk
      have HPQ := Aside0.mk hpq
      clear hlk hpq h1
      go_enter Tryz.func35, Tryz.ntmps35
      go_upto_region 11 with (first
          | (at_lookup; refine om_look_ptr rfl _ _ 67 rfl 72 Tryz.underlying67 (zero85 _) rfl HO.out rfl HI.out HLO.out ?_)
          | (go_at_call 33; refine (within33 key 0 (m.keys - 1) _).mono ?_; rintro e w1 ⟨rfl, rfl⟩; rw [hd])
          | (go_at_call 47; refine (holder49 H.out HK.out _ HPW.out).mono ?_; rintro e w1 ⟨rfl, hb⟩; rw [← HHE.out]
             have B1 := Aside0.mk hb
             have S1 := Aside0.mk (H.out.below hb)
             have P1 := Aside0.mk (HTC.out.pages.move (Mv.of_below hb (fun _ => False)) (fun h => h))
             have ct1 : w1.cell? ⟨L.tb id, 0, none⟩ = some (.map (some (L.pb id))) := blk_cell (blk_below HTC.out.cell hb) 0
             obtain ⟨d0, d1, d2, d4, d5, d6, d7, d8⟩ := S1.out.cells
             have dl := (S1.out.leftC pn HPL.out).1
             clear hb)
          | (at_lookup; refine om_look_map rfl _ _ 80 rfl 75 Tryz.underlying80 (zero59 _) rfl P1.out rfl HPW.out HLK.out ?_))
      have SD := Aside0.mk S1.out.drew
      have PD := Aside0.mk (P1.out.move (Mv.of_below (below_drew (Below.refl _ _)) (fun _ => False)) (fun h => h))
      have ct2 : w1.drew.cell? ⟨L.tb id, 0, none⟩ = some (.map (some (L.pb id))) := ct1
      have HOM := Aside0.mk ((HTP.out (pn : Int) cc HPQ.out (fun h => h)).move (Mv.of_below (B1.out.trans ((below_drew (Below.refl w1.heap.size w1)).mono B1.out.size)) (fun _ => False)) (fun h => h))
      have hlr := PD.out.look_run Tryz.underlying80 (zero59 _) HPW.out false
      rw [HLK.out] at hlr
      replace hlr : (Instr.lookup 80 (.map (some (L.pb id))) (.int .i64 (pn : Int)) false).run Tryz.prog w1.drew = .ok (.map (some (L.cb id pn))) w1.drew := hlr
      clear d0 d1 d2 d4 d5 d6 d7 d8 dl ct1
      go_still (by kernel_rfl)
      go_wp2
      go_ret3
      refine ⟨L, rfl, SD.out, Goes.of_below (B1.out.trans ((below_drew (Below.refl w1.heap.size w1)).mono B1.out.size)), HTC.out.rc _ _ HPQ.out, ?_⟩
      rw [HCON.out, HPQ.out]
      exact HOM.out
  · cases hpq : look t.pages (pn : Int) with
    | none =>
      rw [hpq] at hlk
      have HLK := Aside0.mk hlk
      have HPQ := Aside0.mk hpq
      have HLEN := Aside0.mk (left_small HK.out pn HPL.out)
      clear hlk hpq h1
      go_enter Tryz.func35, Tryz.ntmps35
      go_wp2_with (first
          | (at_lookup; refine om_look_ptr rfl _ _ 67 rfl 72 Tryz.underlying67 (zero85 _) rfl HO.out rfl HI.out HLO.out ?_)
          | (go_at_call 33; refine (within33 key 0 (m.keys - 1) _).mono ?_; rintro e w1 ⟨rfl, rfl⟩; rw [hd])
          | (go_at_call 47; refine (holder49 H.out HK.out _ HPW.out).mono ?_; rintro e w1 ⟨rfl, hb⟩; rw [← HHE.out]
             have B1 := Aside0.mk hb
             have S1 := Aside0.mk (H.out.below hb)
             have P1 := Aside0.mk (HTC.out.pages.move (Mv.of_below hb (fun _ => False)) (fun h => h))
             have ct1 : w1.cell? ⟨L.tb id, 0, none⟩ = some (.map (some (L.pb id))) := blk_cell (blk_below HTC.out.cell hb) 0
             obtain ⟨d0, d1, d2, d4, d5, d6, d7, d8⟩ := S1.out.cells
             have dl := (S1.out.leftC pn HPL.out).1
             clear hb)
          | (at_lookup; refine om_look_none rfl _ _ 80 rfl 75 Tryz.underlying80 (zero59 _) rfl P1.out rfl HPW.out HLK.out ?_)
          | (go_at_call 49; refine (copied51 (S1.out.leftC pn HPL.out).2 HLEN.out).mono ?_; rintro e w2 ⟨b, rfl, ho, hle, hb2⟩
             have O2 := Aside0.mk ho
             have B2 := Aside0.mk hb2
             have LE2 := Aside0.mk hle
             clear ho hb2 hle))
      go_ret3
      have hfr := O2.out.lt
      have hst := S1.out.attach (id := id) (pg := (pn : Int)) LE2.out hfr B2.out (fun t2 h2 => by rw [HLT.out] at h2; injection h2 with h2; rw [← h2]; exact HPQ.out)
      refine ⟨L.attach id pn b, ?_, hst, ?_, ?_, ?_⟩
      · rw [attach_cb]
        rfl
      · refine ⟨Mv.of_below (B1.out.trans (B2.out.mono B1.out.size)) _, fun k hk ho => ?_, rfl, fun k hk ho => ?_⟩
        all_goals
          show (if k = b then _ else L.role k) = _
          rw [if_neg (by have := LE2.out; have := B1.out.size; omega)]
          exact ho
      · rw [attach_cb]
        exact attach_role L id _ b
      · rw [attach_cb, HCON.out, HPQ.out]
        exact O2.out
    | some cc =>
      rw [hpq] at hlk
      have HLK := Aside0.mk hlk
      have HPQ := Aside0.mk hpq
      clear hlk hpq h1
      go_enter Tryz.func35, Tryz.ntmps35
      go_upto_region 11 with (first
          | (at_lookup; refine om_look_ptr rfl _ _ 67 rfl 72 Tryz.underlying67 (zero85 _) rfl HO.out rfl HI.out HLO.out ?_)
          | (go_at_call 33; refine (within33 key 0 (m.keys - 1) _).mono ?_; rintro e w1 ⟨rfl, rfl⟩; rw [hd])
          | (go_at_call 47; refine (holder49 H.out HK.out _ HPW.out).mono ?_; rintro e w1 ⟨rfl, hb⟩; rw [← HHE.out]
             have B1 := Aside0.mk hb
             have S1 := Aside0.mk (H.out.below hb)
             have P1 := Aside0.mk (HTC.out.pages.move (Mv.of_below hb (fun _ => False)) (fun h => h))
             have ct1 : w1.cell? ⟨L.tb id, 0, none⟩ = some (.map (some (L.pb id))) := blk_cell (blk_below HTC.out.cell hb) 0
             obtain ⟨d0, d1, d2, d4, d5, d6, d7, d8⟩ := S1.out.cells
             have dl := (S1.out.leftC pn HPL.out).1
             clear hb)
          | (at_lookup; refine om_look_map rfl _ _ 80 rfl 75 Tryz.underlying80 (zero59 _) rfl P1.out rfl HPW.out HLK.out ?_))
      have SD := Aside0.mk S1.out.drew
      have PD := Aside0.mk (P1.out.move (Mv.of_below (below_drew (Below.refl _ _)) (fun _ => False)) (fun h => h))
      have ct2 : w1.drew.cell? ⟨L.tb id, 0, none⟩ = some (.map (some (L.pb id))) := ct1
      have HOM := Aside0.mk ((HTP.out (pn : Int) cc HPQ.out (fun h => h)).move (Mv.of_below (B1.out.trans ((below_drew (Below.refl w1.heap.size w1)).mono B1.out.size)) (fun _ => False)) (fun h => h))
      have hlr := PD.out.look_run Tryz.underlying80 (zero59 _) HPW.out false
      rw [HLK.out] at hlr
      replace hlr : (Instr.lookup 80 (.map (some (L.pb id))) (.int .i64 (pn : Int)) false).run Tryz.prog w1.drew = .ok (.map (some (L.cb id pn))) w1.drew := hlr
      clear d0 d1 d2 d4 d5 d6 d7 d8 dl ct1
      go_still (by kernel_rfl)
      go_wp2
      go_ret3
      refine ⟨L, rfl, SD.out, Goes.of_below (B1.out.trans ((below_drew (Below.refl w1.heap.size w1)).mono B1.out.size)), HTC.out.rc _ _ HPQ.out, ?_⟩
      rw [HCON.out, HPQ.out]
      exact HOM.out
--END
end Go.Proofs.YtcdfdckdodgbpaaGreatDoor.QA

/-! TGet -/
namespace Go.Proofs.YtcdfdckdodgbpaaGreatDoor.QA
open Go.RowKit Go.Maps Go.Proofs.YtcdfdckdodgbpaaGreatDoorW.PrintWords Go.Proofs.YtcdfdckdodgbpaaGreatDoorW.PrintLast Go.Proofs.YtcdfdckdodgbpaaGreatDoorW.PrintMore
set_option linter.unusedVariables false
set_option linter.unusedSimpArgs false
theorem pig : ∀ (m : Nat) (l : List Int), l.Nodup → (∀ x ∈ l, 0 ≤ x ∧ x < (m : Int)) → l.length ≤ m
  | 0, l, _, h => by
    cases l with
    | nil => exact Nat.le_refl _
    | cons a l => have := h a (by simp); omega
  | m + 1, l, hn, h => by
    have h1 := pig m (l.erase (m : Int)) (hn.erase _) (fun x hx => by
      obtain ⟨hne, hm⟩ := (hn.mem_erase_iff).1 hx
      have := h x hm
      omega)
    have h2 : l.length - 1 ≤ (l.erase (m : Int)).length := by
      rw [List.length_erase]
      split <;> omega
    omega
theorem Ok.up_pages {m : PSt} (hk : Ok m) {id : Int} {t : Txn} (hl : look m.opn id = some t) : Up t.pages := (hk.txn id t hl).up
theorem OM.pure_up {w : World} {L : Lay} {id : Int} {t : Txn} {vl vc : Value} (h : TxC w L id t vl vc) : Up t.pages := by
  have := h.pages.up
  unfold Up at this
  rw [List.pairwise_map] at this
  exact this
/-- The memory of a state of which one transaction has changed: its own blocks alone. -/
theorem St.setT {w w1 : World} {L : Lay} {m : PSt} {id : Int} {t t' : Txn} (h : St w L none2 m) (hu : Up m.opn) (hl : look m.opn id = some t) {S : Nat → Prop} (hm : Mv w w1 S) (hS : ∀ k, S k → ∃ x, L.role k = .t id x) (ht : Tx w1 L none2 id t') : St w1 L none2 (m.setT id t') := by
  obtain ⟨⟨vd, c⟩, tx⟩ := h
  have key : ∀ k r, k < w.heap.size → L.role k = r → (∀ x, r ≠ .t id x) → w1.heap[k]? = w.heap[k]? := fun k r hlt hr hne => hm.block k hlt (fun hs => by
    obtain ⟨x, hx⟩ := hS k hs
    exact hne x (hr ▸ hx))
  have hmap : ((put m.opn id t').map fun q => (q.1, L.tb q.1)) = m.opn.map fun q => (q.1, L.tb q.1) := by
    refine Up.ext ((hu.put id t').map _) (hu.map _) (fun x => ?_)
    rw [look_map (fun x _ => L.tb x), look_map (fun x _ => L.tb x), look_put hu]
    by_cases e : x = id
    · subst e; rw [if_pos rfl, hl]; rfl
    · rw [if_neg e]
  refine ⟨⟨vd, ?_⟩, fun i s hi => ?_⟩
  · exact ⟨(key _ _ (lt_of_blk c.cell) c.rp (by simp)).trans c.cell, done_mono c.done (fun k hlt hk => key k _ hlt hk (by simp)) (fun _ _ h => h), c.rp, c.ro, c.rg,
      by show OM _ _ _ _ ((put m.opn id t').map fun q => (q.1, L.tb q.1)); rw [hmap]; exact c.open_.block (key _ _ c.open_.lt c.ro (by simp)),
      (key _ _ (lt_of_blk c.leftA) c.rg (by simp)).trans c.leftA, fun i cc hi => (c.left i cc hi).mono (fun k hlt hk => key k _ hlt hk (by simp)) (fun _ _ h => h) rfl, fun k hk => c.fresh k (Nat.le_trans hm.size hk),
      c.g0.block (key _ _ c.g0.lt c.r0 (by simp)), c.r0⟩
  · have hi2 : look (put m.opn id t') i = some s := hi
    rw [look_put hu] at hi2
    by_cases e : i = id
    · subst e
      rw [if_pos rfl] at hi2
      injection hi2 with hi2
      subst hi2
      exact ht
    · rw [if_neg e] at hi2
      exact (tx i s hi2).mono (fun k x hlt hx => key k _ hlt hx (fun y h2 => by injection h2 with h3; exact e h3)) (fun _ _ _ h => h) rfl rfl (fun _ _ => rfl)
/-- A page is held: its content is in the map that the page's entry names. -/
theorem Tx.hold {w w1 : World} {L : Lay} {id pg : Int} {t : Txn} {c : Con} (h : Tx w L none2 id t) (hr : L.role (L.cb id pg) = .t id (.page pg)) (hc : OM Tryz.prog u64S w1 (L.cb id pg) c)
    (hp : OM Tryz.prog mapS w1 (L.pb id) (put (t.pages.map fun q => (q.1, L.cb id q.1)) pg (L.cb id pg))) {S : Nat → Prop} (hm : Mv w w1 S) (hS : ∀ k, S k → L.role k = .t id .pages ∨ L.role k = .t id (.page pg)) : Tx w1 L none2 id (t.hold pg c) := by
  obtain ⟨⟨vl, vc, hC⟩, hP⟩ := h
  have hup := OM.pure_up hC
  have key : ∀ k r, k < w.heap.size → L.role k = r → r ≠ .t id .pages → r ≠ .t id (.page pg) → w1.heap[k]? = w.heap[k]? := fun k r hlt hr2 h1 h2 => hm.block k hlt (fun hs => by
    rcases hS k hs with h3 | h3
    · exact h1 (hr2 ▸ h3)
    · exact h2 (hr2 ▸ h3))
  have hput : put (t.pages.map fun q => (q.1, L.cb id q.1)) pg (L.cb id pg) = (put t.pages pg c).map fun q => (q.1, L.cb id q.1) := put_map (fun q => L.cb id q.1) t.pages pg c
  refine ⟨⟨vl, vc, ?_⟩, fun q d hq _ => ?_⟩
  · refine ⟨(key _ _ (lt_of_blk hC.cell) hC.rt (by simp) (by simp)).trans hC.cell, ?_, ?_, hC.rt, hC.rp, by show OM _ _ _ _ ((put t.pages pg c).map fun q => (q.1, L.cb id q.1)); rw [← hput]; exact hp, fun q d hq => ?_⟩
    · exact Kd.R_step hC.lens (fun k ho hlt => key k _ hlt ho (by simp) (by simp))
    · exact Kd.R_step hC.chgs (fun k ho hlt => key k _ hlt ho (by simp) (by simp))
    · have hq2 : look (put t.pages pg c) q = some d := hq
      rw [look_put hup] at hq2
      by_cases e : q = pg
      · subst e; exact hr
      · rw [if_neg e] at hq2; exact hC.rc q d hq2
  · have hq2 : look (put t.pages pg c) q = some d := hq
    rw [look_put hup] at hq2
    by_cases e : q = pg
    · subst e
      rw [if_pos rfl] at hq2
      injection hq2 with hq2
      subst hq2
      exact hc
    · rw [if_neg e] at hq2
      have h1 := hP q d hq2 (fun h => h)
      exact h1.block (key _ _ h1.lt (hC.rc q d hq2) (by simp) (fun h2 => by injection h2 with _ h3; injection h3 with h3; exact e h3))
set_option maxHeartbeats 4000000 in
set_option maxRecDepth 100000 in
theorem get_bad {w : World} {L : Lay} {m : PSt} (h : St w L none2 m) (hk : Ok m) (id key : Int) (hid : (Lit.int .i64 id).wf = true) (hky : (Lit.int .i64 key).wf = true) (hE : m.askedE id key ≠ 0) :
    Calls Tryz.prog 19 #[.pointer (some ⟨L.p, 0, none⟩), .int .i64 id, .int .i64 key] w fun e w' => e = .returned (.tuple #[.int .u64 0, .bool false, .int .i64 (m.askedE id key)]) ∧ Below w.heap.size w w' := by
  have HG := Aside0.mk (show Glob w from h.c.elim fun _ c => c.g0)
  have HC := Aside0.mk (asked_bad h hk id key hid hky hE)
  obtain ⟨code, hcode⟩ : ∃ code, code = m.askedE id key := ⟨_, rfl⟩
  rw [← hcode] at HC ⊢
  clear h hk hid hky hE hcode
  go_enter Tryz.func19, Tryz.ntmps19
  go_wp2_with (first
    | (go_at_call 35; refine HC.out.mono ?_; rintro e w1 ⟨v, n, rfl, he, hb⟩
       obtain ⟨tv, xv, hvx⟩ := he.not_nil
       subst hvx
       have E1 := Aside0.mk he
       have B1 := Aside0.mk hb
       clear he hb)
    | (go_at_call 36; refine (number35 E1.out (HG.out.below B1.out)).mono ?_; rintro e w2 ⟨rfl, hb⟩
       have B2 := Aside0.mk (B1.out.trans (hb.mono B1.out.size))
       clear hb))
  go_ret3
  exact ⟨rfl, B2.out⟩
theorem St.tx_get {w : World} {L : Lay} {m : PSt} (h : St w L none2 m) {id : Int} {t : Txn} (hl : look m.opn id = some t) : ∃ vl vc, TxC w L id t vl vc := (h.tx id t hl).cells
/-- The page's entry is written, and the page is held. -/
theorem St.hold {w w1 : World} {L : Lay} {m : PSt} {id pg : Int} {t : Txn} {c : Con} (h : St w L none2 m) (hu : Up m.opn) (hl : look m.opn id = some t) (hr : L.role (L.cb id pg) = .t id (.page pg)) (hc : OM Tryz.prog u64S w (L.cb id pg) c)
    (hp : OM Tryz.prog mapS w1 (L.pb id) (put (t.pages.map fun q => (q.1, L.cb id q.1)) pg (L.cb id pg))) (hm : Mv w w1 (fun k => k = L.pb id)) : St w1 L none2 (m.setT id (t.hold pg c)) := by
  obtain ⟨vl, vc, hC⟩ := h.tx_get hl
  have hpr := hC.rp
  have hne : L.cb id pg ≠ L.pb id := fun e => by rw [e, hpr] at hr; injection hr with _ h2; cases h2
  exact h.setT hu hl hm (fun k hk => ⟨_, hk ▸ hpr⟩) ((h.tx id t hl).hold hr (hc.move hm (fun h => hne h)) hp hm (fun k hk => .inl (hk ▸ hpr)))
set_option maxHeartbeats 4000000 in
set_option maxRecDepth 100000 in
theorem get_ok {w : World} {L : Lay} {m : PSt} (h : St w L none2 m) (hk : Ok m) (id key : Int) (hid : (Lit.int .i64 id).wf = true) (hky : (Lit.int .i64 key).wf = true) (hE : m.askedE id key = 0) :
    Calls Tryz.prog 19 #[.pointer (some ⟨L.p, 0, none⟩), .int .i64 id, .int .i64 key] w fun e w' => e = .returned (.tuple #[.int .u64 (m.getV id key), .bool (m.getB id key), .int .i64 0]) ∧ ∃ L', St w' L' none2 (m.get id key) ∧ Goes w L w' L' := by
  obtain ⟨⟨t, hl⟩, hkr, hho⟩ := askedE_ok hE
  have hpg := page_range hk hkr.1
  have hp16 := hk.pages
  have hpn : m.pages ≠ 0 := by omega
  have HC := Aside0.mk (asked_ok h hk id key hid hky hE)
  have HP := Aside0.mk h.c
  have HK := Aside0.mk hk
  have HL := Aside0.mk hl
  have HI := Aside0.mk hid
  have HY := Aside0.mk hky
  have htl := (hk.txn id t hl)
  have hpl : t.pages.length ≤ 16 := by
    have h1 := htl.page
    have h2 : ∀ q ∈ t.pages, 0 ≤ q.1 ∧ q.1 < 16 := fun q hq => by
      have := h1 q.1 q.2 (htl.up.look hq)
      omega
    have h3 := pig 16 (t.pages.map (·.1)) (by rw [List.Nodup, List.pairwise_map]; exact htl.up.imp (fun h e => by omega)) (fun x hx => by
      obtain ⟨q, hq, rfl⟩ := List.mem_map.1 hx
      exact h2 q hq)
    simpa using h3
  have HPL := Aside0.mk hpl
  obtain ⟨pg, hpge⟩ : ∃ pg, pg = key.tmod m.pages := ⟨_, rfl⟩
  have HPG := Aside0.mk hpge
  have hpw : (Lit.int .i64 pg).wf = true := wf64 (by omega)
  have HPW := Aside0.mk hpw
  have hpe : key.tmod m.pages = pg := hpge.symm
  have HG := Aside0.mk (show m.get id key = m.setT id (t.hold pg (m.con id pg)) from by unfold PSt.get; rw [if_pos hE, Ok.txn_look hl, hpe])
  have HV := Aside0.mk (show m.getV id key = (look (m.con id pg) key).getD 0 from by unfold PSt.getV; rw [if_pos hE, hpe])
  have HB := Aside0.mk (show m.getB id key = (look (m.con id pg) key).isSome from by unfold PSt.getB; rw [if_pos hE, hpe])
  rw [hpe] at HC
  rw [HG.out, HV.out, HB.out]
  obtain ⟨c, hc⟩ : ∃ c, c = m.con id pg := ⟨_, rfl⟩
  rw [← hc] at HC ⊢
  clear h hk hid hky hE hl hkr hho hpg hp16 htl hpl hpge hpw HG HV HB hc
  go_enter Tryz.func19, Tryz.ntmps19
  go_upto_region 4 with (first
    | (go_at_call 35; refine HC.out.mono ?_; rintro e w1 ⟨L1, rfl, hs, hg, hr, ho⟩
       have S1 := Aside0.mk hs
       have G1 := Aside0.mk hg
       have R1 := Aside0.mk hr
       have O1 := Aside0.mk ho
       clear hs hg hr ho))
  have SD := Aside0.mk S1.out.drew
  have OD := Aside0.mk (O1.out.move (Mv.of_below (below_drew (Below.refl _ _)) (fun _ => False)) (fun h => h))
  have GD := Aside0.mk (G1.out.trans (Goes.of_below (L := L1) (below_drew (Below.refl _ _))))
  obtain ⟨d0, d1, d2, d4, d5, d6, d7, d8⟩ := SD.out.cells
  rw [GD.out.p] at d0
  obtain ⟨vl, vc, hTC⟩ := SD.out.tx_get HL.out
  have ct0 : w1.drew.cell? ⟨L1.tb id, 0, none⟩ = some (.map (some (L1.pb id))) := blk_cell hTC.cell 0
  have PM := Aside0.mk hTC.pages
  have PR := Aside0.mk hTC.rp
  clear d1 d2 d4 d5 d6 d7 d8 hTC
  go_still_tail 13, (by kernel_rfl)
  change wpList _ _ _ _ _ w1.drew
  clear d0 ct0 S1 O1 G1
  generalize w1.drew = wd at SD OD GD PM ⊢
  go_wp2_with (first
    | (at_mapUpdate; refine om_put rfl _ _ _ 80 rfl 75 Tryz.underlying80 rfl PM.out (by have := HPL.out; rw [List.length_map]; unfold maxLen; omega) rfl HPW.out (L1.cb id pg) rfl ?_
       intro w2 ho hm
       have S2 := Aside0.mk (SD.out.hold HK.out.up HL.out R1.out OD.out ho hm)
       have O2 := Aside0.mk (OD.out.move hm (fun h => by have h1 := R1.out; rw [h, PR.out] at h1; injection h1 with _ h2; cases h2))
       have G2 := Aside0.mk (GD.out.trans (Goes.of_mv hm (fun k hk => by rw [hk, PR.out]; simp)))
       clear ho hm)
    | (at_lookup; refine om_look_ok rfl _ _ 75 rfl 47 Tryz.underlying75 (zero49 _) rfl O2.out rfl HY.out (v := .int .u64 ((look c key).getD 0)) (by cases look c key <;> rfl) rfl ?_))
  go_ret3
  exact ⟨rfl, L1, S2.out, G2.out⟩
end Go.Proofs.YtcdfdckdodgbpaaGreatDoor.QA

/-! TBegin -/
namespace Go.Proofs.YtcdfdckdodgbpaaGreatDoor.QA
open Go.RowKit Go.Maps Go.Proofs.YtcdfdckdodgbpaaGreatDoorW.PrintWords Go.Proofs.YtcdfdckdodgbpaaGreatDoorW.PrintLast Go.Proofs.YtcdfdckdodgbpaaGreatDoorW.PrintMore
set_option linter.unusedVariables false
set_option linter.unusedSimpArgs false
section
variable {w w1 : World} {L : Lay} {m : PSt} {ops : Array Oper} {rest : List Oper} {o : Oper} {a : Act} {Q : Exit → Act → World → Prop}
theorem St.setUsed (h : St w L none2 m) {vd : Value} {u : Int} (hC : StC w L m vd) (hc : w1.heap[L.p]? = some (.cells (stCells { m with used := u } L vd) 70 (0, 0))) (hm : Mv w w1 (fun k => k = L.p)) : St w1 L none2 { m with used := u } := by
  have key : ∀ k r, k < w.heap.size → L.role k = r → r ≠ .state → w1.heap[k]? = w.heap[k]? := fun k r hlt hr hne => hm.block k hlt (fun hs => by
    subst hs
    exact hne (hr ▸ hC.rp))
  refine ⟨⟨vd, ?_⟩, fun i s hi => (h.tx i s hi).mono (fun k x hlt hx => key k _ hlt hx (by simp)) (fun _ _ _ h => h) rfl rfl (fun _ _ => rfl)⟩
  exact ⟨hc, done_mono hC.done (fun k hlt hk => key k _ hlt hk (by simp)) (fun _ _ h => h), hC.rp, hC.ro, hC.rg, hC.open_.block (key _ _ hC.open_.lt hC.ro (by simp)),
    (key _ _ (lt_of_blk hC.leftA) hC.rg (by simp)).trans hC.leftA, fun i cc hi => (hC.left i cc hi).mono (fun k hlt hk => key k _ hlt hk (by simp)) (fun _ _ h => h) rfl, fun k hk => hC.fresh k (Nat.le_trans hm.size hk),
    hC.g0.block (key _ _ hC.g0.lt hC.r0 (by simp)), hC.r0⟩
/-- The log's bytes are written. -/
theorem used_event (hgd : o.guard = none) {p : Tmp} {y : Operand} (ho : o.op = .store 3 (.tmp p) y) (u : Int) (hx : a.eval (.tmp p) = .pointer (some ⟨L.p, 8, none⟩)) (hy : a.eval y = .int .i64 u) (h : St w L none2 m)
    (hK : ∀ w1, St w1 L none2 { m with used := u } → Goes w L w1 L → Mv w w1 (fun k => k = L.p) → wpList Tryz.prog ops Q rest (a.put o.dst undef) w1) : wpList Tryz.prog ops Q (o :: rest) a w := by
  obtain ⟨vd, hC⟩ := h.c
  refine put_event hgd ho (g := L.p) (i := 8) (v := .int .i64 u) hx hy rfl rfl hC.cell (by simp [stCells]) (by kernel_rfl) ?_
  intro w1 hc hm
  exact hK w1 (h.setUsed hC hc hm) (Goes.of_mv hm (fun k hk => by rw [hk, hC.rp]; simp)) hm
end
theorem opnL_up {m : PSt} (hu : Up m.opn) (L : Lay) : Up (opnL m L) := hu.map _
/-- A transaction begins: two blocks are its own. -/
def Lay.begun (L : Lay) (id : Int) (bp bt : Nat) : Lay :=
  { L with role := fun k => if k = bp then .t id .pages else if k = bt then .t id .cell else L.role k, tb := fun i => if i = id then bt else L.tb i, pb := fun i => if i = id then bp else L.pb i }
theorem St.begun {w w0 w1 : World} {L : Lay} {m : PSt} (h : St w L none2 m) (hu : Up m.opn) {id : Int} (hn : look m.opn id = none) {bp bt : Nat} (hb : Below w.heap.size w w0) (hbp : w.heap.size ≤ bp) (hbt : w.heap.size ≤ bt) (hne : bp ≠ bt)
    (hP : OM Tryz.prog mapS w0 bp []) (hT : w0.heap[bt]? = some (.cells #[.map (some bp), .slice none 0 0, .slice none 0 0] 82 (0, 0)))
    (hO : OM Tryz.prog ptrS w1 L.ob (put (opnL m L) id bt)) (hm : Mv w0 w1 (fun k => k = L.ob)) : St w1 (L.begun id bp bt) none2 { m with opn := put m.opn id txn0 } ∧ Goes w L w1 (L.begun id bp bt) := by
  obtain ⟨⟨vd, c⟩, tx⟩ := h
  have hrole : ∀ k, k < w.heap.size → (L.begun id bp bt).role k = L.role k := by
    intro k hk
    show (if k = bp then _ else if k = bt then _ else L.role k) = _
    rw [if_neg (by omega), if_neg (by omega)]
  have hmw : Mv w w1 (fun k => k = L.ob) := (Mv.of_below hb _).then_ hm (fun k hk => .inl hk)
  have key : ∀ k r, k < w.heap.size → L.role k = r → r ≠ .openM → w1.heap[k]? = w.heap[k]? := fun k r hlt hr hne => hmw.block k hlt (fun hs => by
    subst hs
    exact hne (hr ▸ c.ro))
  have hkr : ∀ k r, k < w.heap.size → L.role k = r → (L.begun id bp bt).role k = r := fun k r hk e => (hrole k hk).trans e
  have hol := c.open_.lt
  have hmap : put (opnL m L) id bt = (put m.opn id txn0).map fun q => (q.1, (L.begun id bp bt).tb q.1) := by
    refine Up.ext ((opnL_up hu L).put id bt) ((hu.put id txn0).map _) (fun x => ?_)
    rw [look_put (opnL_up hu L), look_map (fun x _ => (L.begun id bp bt).tb x), look_put hu]
    by_cases e : x = id
    · subst e
      rw [if_pos rfl, if_pos rfl]
      show _ = some (if x = x then bt else L.tb x)
      rw [if_pos rfl]
    · rw [if_neg e, if_neg e]
      show look (m.opn.map fun q => (q.1, L.tb q.1)) x = _
      rw [look_map (fun x _ => L.tb x)]
      congr 1
      funext s
      show L.tb x = (if x = id then bt else L.tb x)
      rw [if_neg e]
  refine ⟨⟨⟨vd, ?_⟩, fun i s hi => ?_⟩, ⟨hmw.mono (fun k hk => by rw [hk, c.ro]; simp), fun k hk ho => hkr k _ hk ho, rfl, fun k hk ho => hkr k _ hk ho⟩⟩
  · refine ⟨(key _ _ (lt_of_blk c.cell) c.rp (by simp)).trans c.cell, done_mono c.done (fun k hlt hk => key k _ hlt hk (by simp)) (fun k hlt hk => hkr k _ hlt hk), hkr _ _ (lt_of_blk c.cell) c.rp, hkr _ _ hol c.ro, hkr _ _ (lt_of_blk c.leftA) c.rg,
      by rw [← hmap]; exact hO, (key _ _ (lt_of_blk c.leftA) c.rg (by simp)).trans c.leftA, fun i cc hi => (c.left i cc hi).mono (fun k hlt hk => key k _ hlt hk (by simp)) (fun k hlt hk => hkr k _ hlt hk) rfl,
      fun k hk => ?_, c.g0.block (key _ _ c.g0.lt c.r0 (by simp)), hkr _ _ c.g0.lt c.r0⟩
    have h1 := hP.lt
    have h2 := blk_lt hT
    have h3 := hm.size
    show (if k = bp then _ else if k = bt then _ else L.role k) = _
    rw [if_neg (by omega), if_neg (by omega)]
    exact c.fresh k (Nat.le_trans hmw.size hk)
  · have hi2 : look (put m.opn id txn0) i = some s := hi
    rw [look_put hu] at hi2
    by_cases e : i = id
    · subst e
      rw [if_pos rfl] at hi2
      injection hi2 with hi2
      subst hi2
      have e1 : (L.begun i bp bt).tb i = bt := if_pos rfl
      have e2 : (L.begun i bp bt).pb i = bp := if_pos rfl
      have r1 : (L.begun i bp bt).role bp = .t i .pages := if_pos rfl
      have r2 : (L.begun i bp bt).role bt = .t i .cell := by
        show (if bt = bp then _ else if bt = bt then _ else L.role bt) = _
        rw [if_neg (fun h => hne h.symm), if_pos rfl]
      refine ⟨⟨_, _, ⟨?_, Kd.R_nil _ _ _ _ _, Kd.R_nil _ _ _ _ _, by rw [e1]; exact r2, by rw [e2]; exact r1, ?_, fun pg c hl => (by cases hl)⟩⟩, fun pg c hl => (by cases hl)⟩
      · rw [e1, e2, hm.block bt (blk_lt hT) (by omega)]; exact hT
      · rw [e2]; exact hP.move hm (by omega)
    · rw [if_neg e] at hi2
      refine (tx i s hi2).mono (fun k x hlt hx => key k _ hlt hx (by simp)) (fun k x hlt hx => hkr k _ hlt hx) ?_ ?_ (fun _ _ => rfl)
      · exact if_neg e
      · exact if_neg e
set_option maxHeartbeats 4000000 in
set_option maxRecDepth 100000 in
theorem begin20 {w : World} {L : Lay} {m : PSt} (h : St w L none2 m) (hk : Ok m) (id : Int) (hid : (Lit.int .i64 id).wf = true) :
    Calls Tryz.prog 17 #[.pointer (some ⟨L.p, 0, none⟩), .int .i64 id] w fun e w' => e = .returned (.int .i64 (m.beginE id)) ∧ ∃ L', St w' L' none2 (m.begin_ id) ∧ Goes w L w' L' := by
  have hmm := @run_makeMap Tryz.prog
  have H := Aside0.mk h
  have HK := Aside0.mk hk
  have HI := Aside0.mk hid
  obtain ⟨c0, c1, c2, c4, c5, c6, c7, c8⟩ := h.cells
  have HO := Aside0.mk (show OM Tryz.prog ptrS w L.ob (opnL m L) from h.c.elim fun _ c => c.open_)
  have hlo := opnL_look m L id
  have hle : (opnL m L).length = m.opn.length := by unfold opnL; rw [List.length_map]
  have hu34 : IntKind.i64.wrap (m.used + 34) = m.used + 34 := wrp rfl (by have := hk.used; have := hk.room; have := hk.log; have : 0 ≤ m.kept := sum_nonneg (fun x hx => by obtain ⟨q, hq, rfl⟩ := List.mem_map.1 hx; have := hk.keep_nonneg q hq; omega); omega)
  have hno : ∀ n : Int, n ≠ 0 → m.beginE id = n → ∀ (e : Ending) (w' : World), e = .returned (.int .i64 n) → Below w.heap.size w w' → e = .returned (.int .i64 (m.beginE id)) ∧ ∃ L', St w' L' none2 (m.begin_ id) ∧ Goes w L w' L' := by
    intro n hn he e w' h1 hb
    refine ⟨by rw [he]; exact h1, L, ?_, Goes.of_below hb⟩
    unfold PSt.begin_
    rw [he, if_neg hn]
    exact H.out.below hb
  have Hno := Aside0.mk hno
  clear h hk hid hno
  by_cases h1 : id < 1 ∨ 64 < id
  · have HE := Aside0.mk (show m.beginE id = 160 from by unfold PSt.beginE; rw [if_pos (.inl h1)])
    have hd : decide (1 ≤ id ∧ id ≤ 64) = false := decide_eq_false (by omega)
    clear h1 hlo hle hu34
    go_enter Tryz.func17, Tryz.ntmps17
    go_wp2_with (go_at_call 33; refine (within33 id 1 64 _).mono ?_; rintro e w1 ⟨rfl, rfl⟩; rw [hd])
    go_ret
    exact Hno.out 160 (by decide) HE.out _ _ rfl (Below.refl _ _)
  · have hd : decide (1 ≤ id ∧ id ≤ 64) = true := decide_eq_true (by omega)
    cases hl : look m.opn id with
    | some t =>
      rw [hl] at hlo
      have HLO := Aside0.mk hlo
      have HE := Aside0.mk (show m.beginE id = 160 from by unfold PSt.beginE; rw [if_pos (.inr (by rw [hl]; rfl))])
      clear h1 hlo hle hu34 hl
      go_enter Tryz.func17, Tryz.ntmps17
      go_wp2_with (first
        | (go_at_call 33; refine (within33 id 1 64 _).mono ?_; rintro e w1 ⟨rfl, rfl⟩; rw [hd])
        | (at_lookup; refine gate_guard rfl ?_; refine om_look_ptr rfl _ _ 67 rfl 72 Tryz.underlying67 (zero85 _) rfl HO.out rfl HI.out HLO.out ?_))
      go_ret
      exact Hno.out 160 (by decide) HE.out _ _ rfl (Below.refl _ _)
    | none =>
      rw [hl] at hlo
      have HLO := Aside0.mk hlo
      have HL := Aside0.mk hl
      have SD := Aside0.mk H.out.drew
      have OD := Aside0.mk (HO.out.move (Mv.of_below (below_drew (Below.refl _ _)) (fun _ => False)) (fun h => h))
      have BD := Aside0.mk (below_drew (Below.refl w.heap.size w))
      have hlen := fun ty => OD.out.own.len Tryz.underlying67 ty
      rw [dat_size, hle] at hlen
      have HN := Aside0.mk (show ¬ ((id < 1 ∨ 64 < id) ∨ (look m.opn id).isSome = true) from by rw [hl]; simp; omega)
      clear hlo hle hl h1
      by_cases h2 : (m.opn.length : Int) = m.table
      · have HE := Aside0.mk (show m.beginE id = 161 from by unfold PSt.beginE; rw [if_neg HN.out, if_pos h2])
        have hbq : ((m.opn.length : Int) == m.table) = true := beq_iff_eq.mpr h2
        clear h2 hu34
        go_enter Tryz.func17, Tryz.ntmps17
        go_upto_region 3 with (first
          | (go_at_call 33; refine (within33 id 1 64 _).mono ?_; rintro e w1 ⟨rfl, rfl⟩; rw [hd])
          | (at_lookup; refine gate_guard rfl ?_; refine om_look_none rfl _ _ 67 rfl 72 Tryz.underlying67 (zero85 _) rfl HO.out rfl HI.out HLO.out ?_))
        go_still (by kernel_rfl)
        go_wp2
        go_ret
        exact Hno.out 161 (by decide) HE.out _ _ rfl BD.out
      · have hbq : ((m.opn.length : Int) == m.table) = false := beq_eq_false_iff_ne.mpr h2
        by_cases h3 : m.fits 34 99 = true
        · have HE := Aside0.mk (show m.beginE id = 0 from by unfold PSt.beginE; rw [if_neg HN.out, if_neg h2, if_pos h3])
          have HOL := Aside0.mk (show (opnL m L).length < maxLen from by have h4 := HK.out.size; have h5 := HK.out.table; unfold maxLen; rw [show (opnL m L).length = m.opn.length from by unfold opnL; rw [List.length_map]]; omega)
          go_enter Tryz.func17, Tryz.ntmps17
          go_upto_region 3 with (first
            | (go_at_call 33; refine (within33 id 1 64 _).mono ?_; rintro e w1 ⟨rfl, rfl⟩; rw [hd])
            | (at_lookup; refine gate_guard rfl ?_; refine om_look_none rfl _ _ 67 rfl 72 Tryz.underlying67 (zero85 _) rfl HO.out rfl HI.out HLO.out ?_))
          go_still (by kernel_rfl)
          change Exit.then _ _ _ _ w.drew
          clear c0 c1 c2 c4 c5 c6 c7 c8 hlen
          generalize w.drew = wd at SD OD BD ⊢
          go_upto_region 7 with (go_at_call 34; refine (fits34 SD.out HK.out 34 99 (by omega) (by omega)).mono ?_; rintro e w1 ⟨rfl, hb⟩; rw [h3]
                                 have B1 := Aside0.mk (BD.out.trans (hb.mono BD.out.size))
                                 clear hb)
          obtain ⟨e0, e1, e2, e4, e5, e6, e7, e8⟩ := (H.out.below B1.out).cells
          have O1 := Aside0.mk (HO.out.move (Mv.of_below B1.out (fun _ => False)) (fun h => h))
          have A1 := Aside0.mk (below_alloc (Below.refl w1.heap.size w1) (.map #[] 0))
          have P1 := Aside0.mk (OM.made (P := Tryz.prog) w1 mapS)
          obtain ⟨w2, hw2⟩ : ∃ w2, w2 = (w1.alloc (.map #[] 0)).alloc (.cells #[.map (some w1.heap.size), .slice none 0 0, .slice none 0 0] 82) := ⟨_, rfl⟩
          have A2 := Aside0.mk (show Below w1.heap.size w1 w2 from by rw [hw2]; exact below_alloc A1.out _)
          have P2 := Aside0.mk (show OM Tryz.prog mapS w2 w1.heap.size [] from by rw [hw2]; exact P1.out.move (Mv.of_below (below_alloc (Below.refl _ _) _) (fun _ => False)) (fun h => h))
          have KT2 := Aside0.mk (show w2.heap[w1.heap.size + 1]? = some (.cells #[.map (some w1.heap.size), .slice none 0 0, .slice none 0 0] 82 (0, 0)) from by
            rw [hw2]
            have h1 := heap_alloc_new (w1.alloc (.map #[] 0)) (.cells #[.map (some w1.heap.size), .slice none 0 0, .slice none 0 0] 82)
            simpa using h1)
          have O2 := Aside0.mk (O1.out.move (Mv.of_below A2.out (fun _ => False)) (fun h => h))
          go_wp2_with (first
            | (at_mapUpdate; rw [← hw2]; refine om_put rfl _ _ _ 67 rfl 72 Tryz.underlying67 rfl O2.out HOL.out rfl HI.out (w1.heap.size + 1) rfl ?_
               intro w3 ho hm
               have X3 := Aside0.mk ((H.out).begun HK.out.up HL.out (B1.out.trans (A2.out.mono B1.out.size)) (by have := B1.out.size; omega) (by have := B1.out.size; omega) (by omega) P2.out KT2.out ho hm)
               have f8 : w3.cell? ⟨L.p, 8, none⟩ = some (.int .i64 m.used) := X3.out.1.cells.2.2.2.2.2.2.2
               clear ho hm hw2)
            | ((with_reducible refine gate_store (t := 3) (p := 48) (v := .tmp 46) rfl ?_); refine used_event (L := L.begun id w1.heap.size (w1.heap.size + 1)) (m := { m with opn := put m.opn id txn0 }) rfl rfl (m.used + 34) rfl rfl X3.out.1 ?_
               intro w4 hs hg hm
               have S4 := Aside0.mk hs
               have G4 := Aside0.mk (X3.out.2.trans hg)
               clear hs hg hm))
          go_ret
          refine ⟨by rw [HE.out]; rfl, _, ?_, G4.out⟩
          unfold PSt.begin_
          rw [HE.out, if_pos rfl]
          exact S4.out
        · have HE := Aside0.mk (show m.beginE id = 170 from by unfold PSt.beginE; rw [if_neg HN.out, if_neg h2, if_neg h3])
          have h4 : m.fits 34 99 = false := by cases hf : m.fits 34 99 with | true => exact absurd hf h3 | false => rfl
          go_enter Tryz.func17, Tryz.ntmps17
          go_upto_region 3 with (first
            | (go_at_call 33; refine (within33 id 1 64 _).mono ?_; rintro e w1 ⟨rfl, rfl⟩; rw [hd])
            | (at_lookup; refine gate_guard rfl ?_; refine om_look_none rfl _ _ 67 rfl 72 Tryz.underlying67 (zero85 _) rfl HO.out rfl HI.out HLO.out ?_))
          go_still (by kernel_rfl)
          change Exit.then _ _ _ _ w.drew
          clear c0 c1 c2 c4 c5 c6 c7 c8 hlen
          generalize w.drew = wd at SD OD BD ⊢
          go_wp2_with (go_at_call 34; refine (fits34 SD.out HK.out 34 99 (by omega) (by omega)).mono ?_; rintro e w1 ⟨rfl, hb⟩; rw [h4]
                       have B1 := Aside0.mk (BD.out.trans (hb.mono BD.out.size))
                       clear hb)
          go_ret
          exact Hno.out 170 (by decide) HE.out _ _ rfl B1.out
end Go.Proofs.YtcdfdckdodgbpaaGreatDoor.QA

/-! TOver -/
namespace Go.Proofs.YtcdfdckdodgbpaaGreatDoor.QA
open Go.RowKit Go.Maps Go.Proofs.YtcdfdckdodgbpaaGreatDoorW.PrintWords Go.Proofs.YtcdfdckdodgbpaaGreatDoorW.PrintLast Go.Proofs.YtcdfdckdodgbpaaGreatDoorW.PrintMore
set_option linter.unusedVariables false
set_option linter.unusedSimpArgs false
theorem St.delTxn {w w1 : World} {L : Lay} {m : PSt} (h : St w L none2 m) (hu : Up m.opn) {id : Int} (hO : OM Tryz.prog ptrS w1 L.ob (del (opnL m L) id)) (hm : Mv w w1 (fun k => k = L.ob)) : St w1 L none2 { m with opn := del m.opn id } := by
  obtain ⟨⟨vd, c⟩, tx⟩ := h
  have key : ∀ k r, k < w.heap.size → L.role k = r → r ≠ .openM → w1.heap[k]? = w.heap[k]? := fun k r hlt hr hne => hm.block k hlt (fun hs => by
    subst hs
    exact hne (hr ▸ c.ro))
  have hmap : del (opnL m L) id = (del m.opn id).map fun q => (q.1, L.tb q.1) := del_map (fun q => L.tb q.1) m.opn id
  refine ⟨⟨vd, ?_⟩, fun i s hi => ?_⟩
  · exact ⟨(key _ _ (lt_of_blk c.cell) c.rp (by simp)).trans c.cell, done_mono c.done (fun k hlt hk => key k _ hlt hk (by simp)) (fun _ _ h => h), c.rp, c.ro, c.rg, by rw [← hmap]; exact hO,
      (key _ _ (lt_of_blk c.leftA) c.rg (by simp)).trans c.leftA, fun i cc hi => (c.left i cc hi).mono (fun k hlt hk => key k _ hlt hk (by simp)) (fun _ _ h => h) rfl,
      fun k hk => c.fresh k (Nat.le_trans hm.size hk), c.g0.block (key _ _ c.g0.lt c.r0 (by simp)), c.r0⟩
  · have hi2 : look (del m.opn id) i = some s := hi
    rw [look_del hu] at hi2
    by_cases e : i = id
    · rw [if_pos e] at hi2; cases hi2
    · rw [if_neg e] at hi2
      exact (tx i s hi2).mono (fun k x hlt hx => key k _ hlt hx (by simp)) (fun _ _ _ h => h) rfl rfl (fun _ _ => rfl)
theorem Tx.move {w w1 : World} {L : Lay} {id : Int} {t : Txn} (h : Tx w L none2 id t) {S : Nat → Prop} (hm : Mv w w1 S) (hS : ∀ k, S k → ∀ x, L.role k ≠ .t id x) : Tx w1 L none2 id t :=
  h.mono (fun k x hlt hx => hm.block k hlt (fun hs => hS k hs x hx)) (fun _ _ _ h => h) rfl rfl (fun _ _ => rfl)
set_option maxHeartbeats 4000000 in
set_option maxRecDepth 100000 in
theorem over_undo {w : World} {L : Lay} {m : PSt} (h : St w L none2 m) (hk : Ok m) (id : Int) (hid : (Lit.int .i64 id).wf = true) {t : Txn} (hl : look m.opn id = some t) :
    Calls Tryz.prog 30 #[.pointer (some ⟨L.p, 0, none⟩), .int .i64 id, .bool true] w fun e w' => e = .returned (.tuple #[]) ∧ ∃ L', St w' L' none2 (m.over id true) ∧ Goes w L w' L' := by
  have H := Aside0.mk h
  have HK := Aside0.mk hk
  have HI := Aside0.mk hid
  have HL := Aside0.mk hl
  obtain ⟨c0, c1, c2, c4, c5, c6, c7, c8⟩ := h.cells
  have HO := Aside0.mk (show OM Tryz.prog ptrS w L.ob (opnL m L) from h.c.elim fun _ c => c.open_)
  have HRO := Aside0.mk (show L.role L.ob = .openM ∧ L.role L.p = .state from h.c.elim fun _ c => ⟨c.ro, c.rp⟩)
  have hlo := opnL_look m L id
  rw [hl] at hlo
  have HLO := Aside0.mk hlo
  have HTX := Aside0.mk (h.tx id t hl)
  have HOV := Aside0.mk (show m.over id true = { m with opn := del m.opn id, used := m.used + 66 + sumU t.lengths } from by unfold PSt.over; rw [Ok.txn_look hl]; rfl)
  have h1 := hk.used
  have h2 := hk.room
  have h3 := hk.log
  have h4 : 0 ≤ m.kept := sum_nonneg (fun x hx => by obtain ⟨q, hq, rfl⟩ := List.mem_map.1 hx; have := hk.keep_nonneg q hq; omega)
  have h5 := hk.sumU_le hl
  have hu66 : IntKind.i64.wrap (m.used + 66) = m.used + 66 := wrp rfl (by omega)
  have HU := Aside0.mk (show 0 ≤ m.used ∧ m.used ≤ 65536 from by omega)
  clear h hk hid hl hlo h1 h2 h3 h4
  have HS5 := Aside0.mk h5
  clear h5
  have HN := Aside0.mk (HK.out.txn id t HL.out).len
  rw [HOV.out]
  go_enter Tryz.func30, Tryz.ntmps30
  go_upto_region 4 with (first
    | (at_lookup; refine om_look_ptr rfl _ _ 67 rfl 72 Tryz.underlying67 (zero85 _) rfl HO.out rfl HI.out HLO.out ?_)
    | (at_delete; refine om_del rfl _ _ 67 rfl 72 Tryz.underlying67 rfl HO.out rfl HI.out ?_
       intro w1 ho hm
       have S1 := Aside0.mk (H.out.delTxn HK.out.up ho hm)
       have X1 := Aside0.mk (HTX.out.move hm (fun k hk x e => by rw [hk, HRO.out.1] at e; cases e))
       have G1 := Aside0.mk (Goes.of_mv (L := L) hm (fun k hk => by rw [hk, HRO.out.1]; simp))
       have f8 : w1.cell? ⟨L.p, 8, none⟩ = some (.int .i64 m.used) := S1.out.cells.2.2.2.2.2.2.2
       clear ho hm)
    | ((with_reducible refine gate_store (t := 3) (p := 28) (v := .tmp 26) rfl ?_); refine used_event (L := L) (m := { m with opn := del m.opn id }) rfl rfl (m.used + 66) rfl rfl S1.out ?_
       intro w2 hs hg hm
       have S2 := Aside0.mk hs
       have G2 := Aside0.mk (G1.out.trans hg)
       have X2 := Aside0.mk (X1.out.move hm (fun k hk x e => by rw [hk, HRO.out.2] at e; cases e))
       clear hs hg hm f8))
  obtain ⟨⟨vl, vc, hTC⟩, _⟩ := X2.out
  obtain ⟨A, c, hv⟩ := Kd.R_slice hTC.lens
  subst hv
  have ct1 : w2.cell? ⟨L.tb id, 1, none⟩ = some (.slice A t.lengths.length c) := blk_cell hTC.cell 1
  have HC := Aside0.mk hTC.lens
  have HTC := Aside0.mk hTC
  clear hTC
  obtain ⟨l, hle⟩ : ∃ l, l = t.lengths := ⟨_, rfl⟩
  have HLE := Aside0.mk hle
  rw [← hle] at ct1 HC HN HS5
  clear hle
  go_wp2
  go_loopg [8, 35] l.length (fun kq v8 v35 wr => ∃ (j : Nat), v35 = .int .i64 (j : Int) ∧ Aside0 (j + kq = l.length) ∧ Aside0 (St wr L none2 { m with opn := del m.opn id, used := m.used + 66 + sumU (l.take j) }) ∧ Aside0 (Goes w L wr L) ∧ Aside0 (Kd.R (Kd.int .i64) 3 wr 0 (fun k => L.role k = .t id .lens) (.slice A l.length c) l))
  case atStart => exact ⟨0, rfl, ⟨by omega⟩, ⟨by rw [show m.used + 66 + sumU (l.take 0) = m.used + 66 from by simp [sumU]]; exact S2.out⟩, G2, HC⟩
  case round =>
    obtain ⟨j, rfl, hjk, hS, hG, hC⟩ := hrel
    cases gk with
    | zero =>
      obtain rfl : j = l.length := hjk.out
      have hd1 : ¬ ((l.length : Int) < (l.length : Int)) := by omega
      go_wp2
      (try simp only [Exit.inBlock, Exit.then]); refine bodyPost_ret (results_none rfl _ _ _) rfl ?_
      refine ⟨rfl, L, ?_, hG.out⟩
      have h1 := hS.out
      rw [List.take_length, HLE.out] at h1
      exact h1
    | succ k1 =>
      have hj0 : j < l.length := by have := hjk.out; omega
      have hj1 : (j : Int) < (l.length : Int) := by omega
      obtain ⟨Ws, hWs, hS⟩ : ∃ W, W = _ ∧ Aside0 (St W L none2 { m with opn := del m.opn id, used := m.used + 66 + sumU (l.take j) }) := ⟨_, rfl, hS⟩
      subst hWs
      obtain ⟨x, hx⟩ : ∃ x, x = rd l (j : Int) := ⟨_, rfl⟩
      obtain ⟨ad1, e1, g1⟩ := Kd.at_int (Kd.R_reads' hC.out).2.2 (j : Int) (by omega) hj1
      subst e1
      rw [Int.toNat_natCast, ← hx] at g1
      have hxr : 1 ≤ x ∧ x ≤ 16 := HN.out x (hx ▸ rd_mem l j hj0)
      have hst := sumU_take l j hj0
      rw [← hx] at hst
      have hle2 := sumU_take_le l (fun n hn => (HN.out n hn).1) j
      have hle3 := sumU_take_le l (fun n hn => (HN.out n hn).1) (j + 1)
      obtain ⟨u0, hu0⟩ : ∃ u0, u0 = m.used + 66 + sumU (l.take j) := ⟨_, rfl⟩
      obtain ⟨u1, hu1⟩ : ∃ u1, u1 = m.used + 66 + sumU (l.take (j + 1)) := ⟨_, rfl⟩
      rw [← hu0] at hS
      have hw1 : IntKind.i64.wrap (u0 + undone x) = u1 := wrp (by omega) (by have := HU.out; have := HS5.out; omega)
      have hlen := sumU_nonneg (fun n hn => (HN.out n hn).1)
      have hw2 : IntKind.i64.wrap ((j : Int) + 1) = ((j + 1 : Nat) : Int) := wrp (by omega) (by have := HS5.out; omega)
      have HX := Aside0.mk hxr
      have HU1 := Aside0.mk hu1
      clear hlen hx hxr hst hle2 hle3 hu0 hu1
      go_upto_region 7 with fail
      have SD := Aside0.mk hS.out.drew
      have GD := Aside0.mk (hG.out.trans (Goes.of_below (L := L) (below_drew (Below.refl _ _))))
      have CD := Aside0.mk (Kd.R_below hC.out (below_drew (Below.refl _ _)))
      have d8 : Ws.drew.cell? ⟨L.p, 8, none⟩ = some (.int .i64 u0) := SD.out.cells.2.2.2.2.2.2.2
      refine wp_region_still_tail 9 (by kernel_rfl) (by kernel_rfl) ?_
      simp only [List.take_succ_cons, List.take_zero, List.drop_succ_cons, List.drop_zero]
      repeat still_step
      still_call ((undone48 x (by have := HX.out; omega) Ws.drew).mono (fun _ _ h => ⟨h.1, h.2.symm⟩))
      repeat still_step
      refine wpStill_nil ?_
      change wpList _ _ _ _ _ Ws.drew
      clear d8
      generalize Ws.drew = wd at SD GD CD ⊢
      go_wp2_with (first
        | ((with_reducible refine gate_store (t := 3) (p := 47) (v := .tmp 45) rfl ?_); refine used_event (L := L) (m := { m with opn := del m.opn id, used := u0 }) rfl rfl u1 rfl rfl SD.out ?_
           intro w3 hs hg hm
           have S3 := Aside0.mk hs
           have G3 := Aside0.mk (GD.out.trans hg)
           have C3 := Aside0.mk (Kd.R_kept CD.out hm.kept (fun k ho hk => by rw [hk, HRO.out.2] at ho; cases ho))
           clear hs hg hm))
      go_roundg k1
      case measure => omega
      case rel => exact ⟨j + 1, rfl, ⟨by have := hjk.out; omega⟩, ⟨by rw [← HU1.out]; exact S3.out⟩, G3, C3⟩
end Go.Proofs.YtcdfdckdodgbpaaGreatDoor.QA

/-! TDone -/
namespace Go.Proofs.YtcdfdckdodgbpaaGreatDoor.QA
open Go.RowKit Go.Maps Go.Proofs.YtcdfdckdodgbpaaGreatDoorW.PrintWords Go.Proofs.YtcdfdckdodgbpaaGreatDoorW.PrintLast Go.Proofs.YtcdfdckdodgbpaaGreatDoorW.PrintMore
set_option linter.unusedVariables false
set_option linter.unusedSimpArgs false
def Role.commit (id : Int) : Role → Role
  | .t i (.page pg) => if i = id then .left pg else .t i (.page pg)
  | .t i .chgs => if i = id then .done else .t i .chgs
  | r => r
def Lay.commit (L : Lay) (id : Int) : Lay := { L with role := fun k => (L.role k).commit id }
theorem commit_other {id i : Int} (h : i ≠ id) (x : TRole) : (Role.t i x).commit id = .t i x := by
  cases x <;> simp [Role.commit, h]
theorem St.commit {w : World} {L : Lay} {m : PSt} (h : St w L none2 m) {id : Int} (hn : look m.opn id = none) : St w (L.commit id) none2 m ∧ Goes w L w (L.commit id) := by
  obtain ⟨⟨vd, c⟩, tx⟩ := h
  have hr : ∀ k r, L.role k = r → r.commit id = r → (L.commit id).role k = r := fun k r e h2 => by
    show (L.role k).commit id = r
    rw [e, h2]
  refine ⟨⟨⟨vd, ?_⟩, fun i t hl => ?_⟩, Goes.relabel rfl (fun k _ ho => hr k _ ho rfl) (fun k _ ho => hr k _ ho rfl)⟩
  · exact ⟨c.cell, done_mono c.done (fun _ _ _ => rfl) (fun k _ hk => hr k _ hk rfl), hr _ _ c.rp rfl, hr _ _ c.ro rfl, hr _ _ c.rg rfl, c.open_, c.leftA, fun i cc hi => (c.left i cc hi).mono (fun _ _ _ => rfl) (fun k _ hk => hr k _ hk rfl) rfl,
      fun k hk => hr k _ (c.fresh k hk) rfl, c.g0, hr _ _ c.r0 rfl⟩
  · have hne : i ≠ id := fun e => by rw [e, hn] at hl; cases hl
    exact (tx i t hl).mono (fun _ _ _ _ => rfl) (fun k x _ hx => hr k _ hx (commit_other hne x)) rfl rfl (fun _ _ => rfl)
def Lay.leftAt (L : Lay) (n b : Nat) : Lay := { L with lb := fun i => if i = n then some b else L.lb i }
theorem leftV_set (L : Lay) (n b len : Nat) (hn : n < len) : (leftV L len).setIfInBounds n (.map (some b)) = leftV (L.leftAt n b) len := by
  apply Array.ext_getElem?
  intro i
  rw [Array.getElem?_setIfInBounds]
  unfold leftV Lay.leftAt
  by_cases hi : i < len
  · by_cases e : n = i
    · subst e; simp [hi, lbV]
    · have e2 : ¬ i = n := fun h => e h.symm
      simp [hi, e, e2]
  · by_cases e : n = i
    · omega
    · simp [hi, e]
theorem St.setLeft {w w1 : World} {L : Lay} {m : PSt} (h : St w L none2 m) {n b : Nat} {c : Con} (hn : n < m.left.length) (hr : L.role b = .left (n : Int)) (hb : OM Tryz.prog u64S w b c)
    (hc : w1.heap[L.gl]? = some (.cells ((leftV L m.left.length).setIfInBounds n (.map (some b))) 75 (0, 0))) (hm : Mv w w1 (fun k => k = L.gl)) : St w1 (L.leftAt n b) none2 { m with left := m.left.set n c } ∧ Goes w L w1 (L.leftAt n b) := by
  obtain ⟨⟨vd, cc⟩, tx⟩ := h
  have key : ∀ k r, k < w.heap.size → L.role k = r → r ≠ .leftA → w1.heap[k]? = w.heap[k]? := fun k r hlt hr hne => hm.block k hlt (fun hs => by
    subst hs
    exact hne (hr ▸ cc.rg))
  have hlen : (m.left.set n c).length = m.left.length := List.length_set
  refine ⟨⟨⟨vd, ?_⟩, fun i s hi => (tx i s hi).mono (fun k x hlt hx => key k _ hlt hx (by simp)) (fun _ _ _ h => h) rfl rfl (fun _ _ => rfl)⟩, ⟨hm.mono (fun k hk => by rw [hk, cc.rg]; simp), fun _ _ h => h, rfl, fun _ _ h => h⟩⟩
  refine ⟨?_, done_mono cc.done (fun k hlt hk => key k _ hlt hk (by simp)) (fun _ _ h => h), cc.rp, cc.ro, cc.rg, cc.open_.block (key _ _ cc.open_.lt cc.ro (by simp)), ?_, fun i d hi => ?_, fun k hk => cc.fresh k (Nat.le_trans hm.size hk), cc.g0.block (key _ _ cc.g0.lt cc.r0 (by simp)), cc.r0⟩
  · have h1 := (key _ _ (lt_of_blk cc.cell) cc.rp (by simp)).trans cc.cell
    have h2 : stCells { m with left := m.left.set n c } (L.leftAt n b) vd = stCells m L vd := by unfold stCells Lay.leftAt; simp
    rw [h2]
    exact h1
  · show w1.heap[L.gl]? = some (.cells (leftV (L.leftAt n b) (m.left.set n c).length) 75 (0, 0))
    rw [hlen, ← leftV_set L n b _ hn]
    exact hc
  · have hi2 : (m.left.set n c)[i]? = some d := hi
    rw [List.getElem?_set] at hi2
    by_cases e : n = i
    · subst e
      rw [if_pos rfl, if_pos hn] at hi2
      injection hi2 with hi2
      subst hi2
      refine .inr ⟨b, if_pos rfl, hr, hb.block (key _ _ hb.lt hr (by simp))⟩
    · rw [if_neg e] at hi2
      exact (cc.left i d hi2).mono (fun k hlt hk => key k _ hlt hk (by simp)) (fun _ _ h => h) (if_neg (fun h => e h.symm))
/-- New blocks of one operation come to the committed ones' changes. -/
def Lay.doneTo (L : Lay) (n0 n1 : Nat) : Lay := { L with role := fun k => if n0 ≤ k ∧ k < n1 then .done else L.role k }
theorem St.addDone {w w1 w2 : World} {L : Lay} {m : PSt} {vd v1 : Value} {x : List Chg} (h : StC w L m vd) (tx : ∀ i t, look m.opn i = some t → Tx w L none2 i t)
    (hR : Kd.R kDone 45 w1 0 (fun k => L.role k = .done ∨ w.heap.size ≤ k) v1 (m.done ++ [x])) (hm : Mv w w1 (fun k => some k = vd.ownBlock)) (hc : w2.heap[L.p]? = some (.cells (stCells m L v1) 70 (0, 0))) (hm2 : Mv w1 w2 (fun k => k = L.p)) :
    St w2 (L.doneTo w.heap.size w1.heap.size) none2 { m with done := m.done ++ [x] } ∧ Goes w L w2 (L.doneTo w.heap.size w1.heap.size) := by
  have hr : ∀ k r, k < w.heap.size → L.role k = r → (L.doneTo w.heap.size w1.heap.size).role k = r := fun k r hk e => by
    show (if _ ∧ _ then _ else L.role k) = r
    rw [if_neg (by omega)]
    exact e
  have hd : ∀ k, some k = vd.ownBlock → L.role k = .done := fun k hk => h.done.1 k hk.symm
  have key : ∀ k r, k < w.heap.size → L.role k = r → r ≠ .done → r ≠ .state → w2.heap[k]? = w.heap[k]? := fun k r hlt e h1 h2 =>
    (hm2.block k (Nat.lt_of_lt_of_le hlt hm.size) (fun hk => by subst hk; exact h2 (e ▸ h.rp))).trans (hm.block k hlt (fun hk => h1 (e ▸ hd k hk)))
  have hmw : Mv w w2 (fun k => L.role k ≠ .out ∧ L.role k ≠ .glob) := ((hm.mono (S2 := fun k => L.role k ≠ .out ∧ L.role k ≠ .glob) (fun k hk => by rw [hd k hk]; simp)).then_ hm2 (fun k hk => .inl (by rw [hk, h.rp]; simp)))
  refine ⟨⟨⟨v1, ?_⟩, fun i s hi => (tx i s hi).mono (fun k y hlt hx => key k _ hlt hx (by simp) (by simp)) (fun k y hlt hx => hr k _ hlt hx) rfl rfl (fun _ _ => rfl)⟩, ⟨hmw, fun k hk ho => hr k _ hk ho, rfl, fun k hk ho => hr k _ hk ho⟩⟩
  have hpl := lt_of_blk h.cell
  refine ⟨hc, ?_, hr _ _ hpl h.rp, hr _ _ h.open_.lt h.ro, hr _ _ (lt_of_blk h.leftA) h.rg, h.open_.block (key _ _ h.open_.lt h.ro (by simp) (by simp)), (key _ _ (lt_of_blk h.leftA) h.rg (by simp) (by simp)).trans h.leftA,
    fun i d hi => (h.left i d hi).mono (fun k hlt hk => key k _ hlt hk (by simp) (by simp)) (fun k hlt hk => hr k _ hlt hk) rfl, fun k hk => ?_, h.g0.block (key _ _ h.g0.lt h.r0 (by simp) (by simp)), hr _ _ h.g0.lt h.r0⟩
  · have h1 := Kd.R_step (Kd.R_bound hR) (fun k ho hlt => hm2.block k hlt (fun hk => by
      subst hk
      rcases ho.1 with h3 | h3
      · rw [h.rp] at h3; cases h3
      · omega))
    refine Kd.R_mono h1 (fun k ho => ?_)
    show (if w.heap.size ≤ k ∧ k < w1.heap.size then Role.done else L.role k) = _
    rcases ho.1 with h3 | h3
    · by_cases e : w.heap.size ≤ k ∧ k < w1.heap.size
      · rw [if_pos e]
      · rw [if_neg e]; exact h3
    · rw [if_pos ⟨h3, ho.2.2.1⟩]
  · have h1 := hm.size
    have h2 := hm2.size
    show (if _ ∧ _ then _ else L.role k) = _
    rw [if_neg (by omega)]
    exact h.fresh k (by omega)
end Go.Proofs.YtcdfdckdodgbpaaGreatDoor.QA

/-! TCommit -/
namespace Go.Proofs.YtcdfdckdodgbpaaGreatDoor.QA
open Go.RowKit Go.Maps Go.Proofs.YtcdfdckdodgbpaaGreatDoorW.PrintWords Go.Proofs.YtcdfdckdodgbpaaGreatDoorW.PrintLast Go.Proofs.YtcdfdckdodgbpaaGreatDoorW.PrintMore
set_option linter.unusedVariables false
set_option linter.unusedSimpArgs false
/-- The pages of the list ds are the transaction's. -/
def overL (t : Txn) (ds : List (Int × Nat)) (left : List Con) : List Con := left.mapIdx fun i c => if ds.any (fun q => q.1 == (i : Int)) then (look t.pages (i : Int)).getD c else c
theorem overL_nil (t : Txn) (left : List Con) : overL t [] left = left := by
  unfold overL
  apply List.ext_getElem?
  intro i
  rw [List.getElem?_mapIdx]
  cases left[i]? <;> simp
theorem overL_length (t : Txn) (ds : List (Int × Nat)) (left : List Con) : (overL t ds left).length = left.length := by simp [overL]
theorem overL_step (t : Txn) (ds : List (Int × Nat)) (left : List Con) (n b : Nat) (c : Con) (hl : look t.pages (n : Int) = some c) : (overL t ds left).set n c = overL t (ds ++ [((n : Int), b)]) left := by
  apply List.ext_getElem?
  intro i
  rw [List.getElem?_set]
  unfold overL
  rw [List.length_mapIdx, List.getElem?_mapIdx, List.getElem?_mapIdx]
  by_cases e : n = i
  · subst e
    rw [if_pos rfl]
    by_cases h : n < left.length
    · rw [if_pos h, List.getElem?_eq_getElem h]
      simp [hl]
    · rw [if_neg h, List.getElem?_eq_none (by omega)]
      rfl
  · rw [if_neg e]
    cases left[i]? with
    | none => rfl
    | some d =>
      have : ((n : Int) == (i : Int)) = false := by rw [beq_eq_false_iff_ne]; omega
      have h2 : ((ds ++ [((n : Int), b)]).any fun q => q.1 == (i : Int)) = ds.any fun q => q.1 == (i : Int) := by rw [List.any_append]; simp; intro h; omega
      simp only [Option.map_some, h2]
theorem overL_end (t : Txn) (f : Int → Nat) (ds : List (Int × Nat)) (left : List Con) (hp : ds.Perm (t.pages.map fun q => (q.1, f q.1))) : overL t ds left = left.mapIdx fun i c => (look t.pages (i : Int)).getD c := by
  unfold overL
  congr 1
  funext i c
  by_cases h : ds.any (fun q => q.1 == (i : Int)) = true
  · rw [if_pos h]
  · rw [if_neg h]
    cases hl : look t.pages (i : Int) with
    | none => rfl
    | some d =>
      exact absurd (List.any_eq_true.2 ⟨((i : Int), f i), hp.mem_iff.2 (List.mem_map.2 ⟨_, look_mem hl, rfl⟩), by simp⟩) h
theorem infoD : (Tryz.prog.info? 45).map (fun i => (i.zero, i.size, i.bytes)) = some (some (.slice none 0 0), 1, 24) := by kernel_rfl
set_option maxHeartbeats 8000000 in
set_option maxRecDepth 100000 in
theorem over_keep {w : World} {L : Lay} {m : PSt} (h : St w L none2 m) (hk : Ok m) (id : Int) (hid : (Lit.int .i64 id).wf = true) {t : Txn} (hl : look m.opn id = some t) (hdl : m.done.length < 5000000000000) :
    Calls Tryz.prog 30 #[.pointer (some ⟨L.p, 0, none⟩), .int .i64 id, .bool false] w fun e w' => e = .returned (.tuple #[]) ∧ ∃ L', St w' L' none2 (m.over id false) ∧ Goes w L w' L' := by
  have H := Aside0.mk h
  have HK := Aside0.mk hk
  have HI := Aside0.mk hid
  have HL := Aside0.mk hl
  have HDL := Aside0.mk hdl
  obtain ⟨c0, c1, c2, c4, c5, c6, c7, c8⟩ := h.cells
  have HO := Aside0.mk (show OM Tryz.prog ptrS w L.ob (opnL m L) from h.c.elim fun _ c => c.open_)
  have HRO := Aside0.mk (show L.role L.ob = .openM ∧ L.role L.p = .state ∧ L.role L.gl = .leftA from h.c.elim fun _ c => ⟨c.ro, c.rp, c.rg⟩)
  have hlo := opnL_look m L id
  rw [hl] at hlo
  have HLO := Aside0.mk hlo
  have HTX := Aside0.mk (h.tx id t hl)
  have HOV := Aside0.mk (show m.over id false = { m with opn := del m.opn id, used := m.used + 66, left := m.left.mapIdx fun i c => (look t.pages (i : Int)).getD c, done := m.done ++ [t.changes] } from by unfold PSt.over; rw [Ok.txn_look hl]; rfl)
  have hu66 : IntKind.i64.wrap (m.used + 66) = m.used + 66 := wrp rfl (by have h1 := hk.used; have h2 := hk.room; have h3 := hk.log; have h4 : 0 ≤ m.kept := sum_nonneg (fun x hx => by obtain ⟨q, hq, rfl⟩ := List.mem_map.1 hx; have := hk.keep_nonneg q hq; omega); omega)
  have HLEN := Aside0.mk (show (m.left.length : Int) = m.pages ∧ m.pages ≤ 16 from ⟨hk.left, hk.pages.2⟩)
  clear h hk hid hl hlo hdl
  rw [HOV.out]
  go_enter Tryz.func30, Tryz.ntmps30
  go_upto_region 9 with (first
    | (at_lookup; refine om_look_ptr rfl _ _ 67 rfl 72 Tryz.underlying67 (zero85 _) rfl HO.out rfl HI.out HLO.out ?_)
    | (at_delete; refine om_del rfl _ _ 67 rfl 72 Tryz.underlying67 rfl HO.out rfl HI.out ?_
       intro w1 ho hm
       have S1 := Aside0.mk (H.out.delTxn HK.out.up ho hm)
       have X1 := Aside0.mk (HTX.out.move hm (fun k hk x e => by rw [hk, HRO.out.1] at e; cases e))
       have G1 := Aside0.mk (Goes.of_mv (L := L) hm (fun k hk => by rw [hk, HRO.out.1]; simp))
       have f8 : w1.cell? ⟨L.p, 8, none⟩ = some (.int .i64 m.used) := S1.out.cells.2.2.2.2.2.2.2
       clear ho hm)
    | ((with_reducible refine gate_store (t := 3) (p := 28) (v := .tmp 26) rfl ?_); refine used_event (L := L) (m := { m with opn := del m.opn id }) rfl rfl (m.used + 66) rfl rfl S1.out ?_
       intro w2 hs hg hm
       have S2 := Aside0.mk hs
       have G2 := Aside0.mk (G1.out.trans hg)
       have X2 := Aside0.mk (X1.out.move hm (fun k hk x e => by rw [hk, HRO.out.2.1] at e; cases e))
       clear hs hg hm f8))
  clear X1 S1 G1
  obtain ⟨L1, hL1⟩ : ∃ L1, L1 = L.commit id := ⟨_, rfl⟩
  have S3 := Aside0.mk (show St w2 L1 none2 _ from by rw [hL1]; exact (S2.out.commit (id := id) (by show look (del m.opn id) id = none; rw [look_del HK.out.up, if_pos rfl])).1)
  have G3 := Aside0.mk (show Goes w L w2 L1 from by rw [hL1]; exact G2.out.trans (S2.out.commit (id := id) (by show look (del m.opn id) id = none; rw [look_del HK.out.up, if_pos rfl])).2)
  obtain ⟨⟨vl, vc, hTC⟩, hTP⟩ := X2.out
  have HPU := Aside0.mk (OM.pure_up hTC)
  have ct0 : w2.cell? ⟨L.tb id, 0, none⟩ = some (.map (some (L.pb id))) := blk_cell hTC.cell 0
  have TC0 := Aside0.mk hTC.cell
  have TR0 := Aside0.mk (show L1.role (L.tb id) = .t id .cell ∧ L1.role (L.pb id) = .t id .pages from by rw [hL1]; exact ⟨by show (L.role _).commit id = _; rw [hTC.rt]; rfl, by show (L.role _).commit id = _; rw [hTC.rp]; rfl⟩)
  have PM := Aside0.mk hTC.pages
  have CH := Aside0.mk (show Kd.R kChg 52 w2 0 (fun k => L.role k = .t id .chgs) vc t.changes from hTC.chgs)
  have CR := Aside0.mk (show ∀ k, L.role k = .t id .chgs → L1.role k = .done from fun k hk => by rw [hL1]; show (L.role k).commit id = _; rw [hk]; exact if_pos rfl)
  have PR := Aside0.mk (show ∀ pg c, look t.pages pg = some c → OM Tryz.prog u64S w2 (L.cb id pg) c ∧ L1.role (L.cb id pg) = .left pg from fun pg c hl => ⟨hTP pg c hl (fun h => h), by rw [hL1]; show (L.role _).commit id = _; rw [hTC.rc pg c hl]; exact if_pos rfl⟩)
  have LE := Aside0.mk (show L1.p = L.p ∧ L1.gl = L.gl ∧ L1.lb = L.lb from by rw [hL1]; exact ⟨rfl, rfl, rfl⟩)
  obtain ⟨pl, hpl⟩ : ∃ pl, pl = t.pages.map fun q => (q.1, L.cb id q.1) := ⟨_, rfl⟩
  have HPL := Aside0.mk hpl
  rw [← hpl] at PM
  clear hpl hTC hTP hL1
  go_wp2_with (first
    | (at_range; refine om_range rfl _ 80 rfl 75 Tryz.underlying80 rfl PM.out ?_
       intro w3 hr0 hm0 hs0
       have R0 := Aside0.mk hr0
       have M0 := Aside0.mk hm0
       clear hr0 hm0 hs0))
  obtain ⟨r, hr⟩ : ∃ r, r = w2.heap.size := ⟨_, rfl⟩
  have HR := Aside0.mk hr
  rw [← hr] at R0
  have e1 : (⟨w2.heap.size, 0, none⟩ : Addr) = ⟨r, 0, none⟩ := by rw [hr]
  rw [e1]
  have HRR := Aside0.mk (show L1.role r = .out ∧ w2.heap.size ≤ r ∧ w.heap.size ≤ r from ⟨S3.out.c.elim fun _ c => c.fresh r (by rw [hr]; exact Nat.le_refl _), by rw [hr]; exact Nat.le_refl _, by rw [hr]; exact G3.out.mv.size⟩)
  have B3 := Aside0.mk (M0.out.below (Below.refl w2.heap.size w2) (Nat.le_refl _) (fun k hk => hk.elim))
  clear e1 hr
  go_loopg [9, 10] pl.length (fun kq v9 v10 wr => ∃ (ds : List (Int × Nat)) (Lr : Lay), Aside0 (ds.length + kq = pl.length) ∧ Aside0 (OR Tryz.prog mapS wr (L.pb id) r pl ds) ∧ Aside0 (St wr Lr none2 { m with opn := del m.opn id, used := m.used + 66, left := overL t ds m.left }) ∧ Aside0 (Goes w L wr Lr) ∧ Aside0 (Lr.role = L1.role ∧ Lr.p = L.p ∧ Lr.gl = L.gl) ∧
      Aside0 (Mv w2 wr (fun k => k = L.gl)))
  case atStart => exact ⟨[], L1, ⟨by simp⟩, R0, ⟨by rw [overL_nil]; exact S3.out.below B3.out⟩, ⟨G3.out.trans (Goes.of_below B3.out)⟩, ⟨rfl, LE.out.1, LE.out.2.1⟩, ⟨Mv.of_below B3.out _⟩⟩
  case round =>
    clear R0 M0 S3 B3 G3 G2 S2 X2
    obtain ⟨ds, Lr, hcnt, hR, hS, hG, hE, hM⟩ := hrel
    obtain ⟨Ws, hWs, hS⟩ : ∃ W, W = _ ∧ Aside0 (St W Lr none2 { m with opn := del m.opn id, used := m.used + 66, left := overL t ds m.left }) := ⟨_, rfl, hS⟩
    subst hWs
    go_wp2_with (first
      | (at_next; refine om_next_map rfl _ rfl rfl hR.out ?_ ?_))
    · intro hperm
      have hov := overL_end t (fun x => L.cb id x) ds m.left (by rw [← HPL.out]; exact hperm)
      rw [hov] at hS
      clear hperm hov
      go_upto_region 13 with fail
      obtain ⟨vd, hC⟩ := hS.out.drew.c
      have HC := Aside0.mk hC
      have BD := Aside0.mk (below_drew (Below.refl Ws.heap.size Ws))
      have MD := Aside0.mk (hM.out.then_ (Mv.of_below BD.out (fun _ => False)) (fun k h => h.elim))
      have GD := Aside0.mk (hG.out.trans (Goes.of_below (L := Lr) BD.out))
      have TX := Aside0.mk hS.out.drew.tx
      have hglr : L1.role L.gl = .leftA := by have h3 := hS.out.c.elim fun _ c => c.rg; rw [hE.out.1, hE.out.2.2] at h3; exact h3
      have d9 : Ws.drew.cell? ⟨L.p, 9, none⟩ = some vd := by have h1 := blk_cell hC.cell 9; rw [hE.out.2.1] at h1; exact h1
      have dt : Ws.drew.cell? ⟨L.tb id, 2, none⟩ = some vc := blk_cell (MD.out.blk TC0.out (fun h => by have h1 := TR0.out.1; rw [h, hglr] at h1; cases h1)) 2
      have CD := Aside0.mk (Kd.R_kept CH.out MD.out.kept (fun k ho hk => by rw [hk, HRO.out.2.2] at ho; cases ho))
      have DD := Aside0.mk (show Kd.R kDone 45 Ws.drew 0 (fun k => Lr.role k = .done ∨ Ws.drew.heap.size ≤ k) vd m.done from Kd.R_mono hC.done (fun k hk => .inl hk))
      have CP := Aside0.mk (Kd.R_apart' CD.out (fun k hk => R_own_ty DD.out hk.symm) (fun q hq => by
        have : q = 52 := by simpa [k52, Kd.iso, Kd.pair, Kd.int, Kd.bool, Kd.scalar] using hq
        rw [this]; decide))
      have HRL := Aside0.mk (show Lr.role = L1.role from hE.out.1)
      have HFZ := Aside0.mk (show ∀ w' : World, Mv Ws.drew w' (fun k => some k = vd.ownBlock) → w'.heap[L.p]? = some (.cells (stCells { m with opn := del m.opn id, used := m.used + 66, left := m.left.mapIdx fun i c => (look t.pages (i : Int)).getD c } Lr vd) 70 (0, 0)) from fun w' hm => by
        have h1 := hm.blk hC.cell (fun h => by have h2 : Lr.role Lr.p = .done := hC.done.1 _ h.symm; rw [hC.rp] at h2; cases h2)
        rw [hE.out.2.1] at h1
        exact h1)
      obtain ⟨A0, c0', hv0⟩ := Kd.R_slice DD.out
      obtain ⟨A1, c1', hv1⟩ := Kd.R_slice CD.out
      subst hv0 hv1
      have d9a : (Ws.alloc (Obj.cells #[.slice A1 t.changes.length c1'] 45)).cell? ⟨L.p, 9, none⟩ = some (.slice A0 m.done.length c0') := pw_cell_below (below_alloc (Below.refl Ws.heap.size Ws) _) d9
      clear hC hglr
      go_region_law (refine Kd.R_append_step kDone (w0 := Ws.drew) (W := Ws.drew) 0 rfl (.tmp 70) (.tmp 75) 41 45 (.slice none 0 0) 24 rfl Tryz.underlying41 infoD rfl (by decide) (by decide) _ m.done t.changes [.slice A1 t.changes.length c1'] _ _ rfl rfl ⟨_, rfl, CP.out⟩ (fun k hk => ⟨.inl (by rw [HRL.out]; exact CR.out k hk.1), hk.2⟩) (fun k hk => .inr hk) DD.out (Below.refl _ _) (Nat.zero_le _) (by have := HDL.out; omega) ?_
                     intro v1 w1 hR1 hB1 hG1 hat1
                     have hw9 : w1.cell? ⟨L.p, 9, none⟩ = some (.slice A0 m.done.length c0') := blk_cell (HFZ.out w1 ((Mv.of_grown hG1))) 9
                     have hf9 : w1.frozen? ⟨L.p, 9, none⟩ = false := blk_frozen (HFZ.out w1 ((Mv.of_grown hG1))) 9
                     obtain ⟨A2, c2', hv2⟩ := Kd.R_slice hR1
                     subst hv2
                     have R1 := Aside0.mk hR1
                     have M1 := Aside0.mk (Mv.of_grown hG1)
                     clear hR1 hB1 hG1 hat1)
      all_goals
        go_end0
        have hcf := blk_set (HFZ.out w1 M1.out) 9 (.slice A2 (m.done.length + 1) c2')
        have R2 := R1.out
        rw [show (m.done ++ [t.changes]).length = m.done.length + 1 from by simp] at R2
        have hfin := St.addDone (x := t.changes) HC.out TX.out R2 M1.out (w2 := w1.setCell ⟨L.p, 9, none⟩ (.slice A2 (m.done.length + 1) c2')) (by rw [hE.out.2.1]; exact hcf) (by rw [hE.out.2.1]; exact Mv.setCell w1 ⟨L.p, 9, none⟩ _)
        exact ⟨rfl, _, hfin.1, GD.out.trans hfin.2⟩
    · intro x c w3 hwx hin hnot hr1 hm1 hs1 hen
      have hin2 := hin
      rw [HPL.out] at hin2
      obtain ⟨q, hq, hqe⟩ := List.mem_map.1 hin2
      obtain ⟨x', cc⟩ := q
      obtain ⟨rfl, rfl⟩ : x' = x ∧ L.cb id x' = c := by injection hqe with h1 h2; exact ⟨h1, h2⟩
      have hlk := HPU.out.look hq
      have hpp := ((HK.out.txn id t HL.out).page _ _ hlk)
      obtain ⟨n, hn⟩ : ∃ n : Nat, x' = (n : Int) := ⟨x'.toNat, by omega⟩
      subst hn
      have hnl : n < m.left.length := by have := HLEN.out; omega
      have R1 := Aside0.mk hr1
      have HLK := Aside0.mk hlk
      have S4 := Aside0.mk (hS.out.move hm1 (fun k hk => by rw [hk, hE.out.1]; exact HRR.out.1))
      have G4 := Aside0.mk (show Goes w L w3 Lr from ⟨hG.out.mv.then_ hm1 (fun k hk => .inr (by rw [hk]; exact HRR.out.2.2)), hG.out.out, hG.out.p, hG.out.gl⟩)
      have M4 := Aside0.mk (hM.out.then_ hm1 (fun k hk => .inr (by rw [hk]; exact HRR.out.2.1)))
      have O4 := Aside0.mk ((PR.out _ _ hlk).1.move M4.out (fun h => by have h1 := (PR.out _ _ hlk).2; rw [h] at h1; have h2 : L1.role L.gl = .leftA := (by have h3 := hS.out.c.elim fun _ c => c.rg; rw [hE.out.1, hE.out.2.2] at h3; exact h3); rw [h2] at h1; cases h1))
      have hle := hr1.le
      rw [List.length_append, List.length_singleton] at hle
      have HLE := Aside0.mk hle
      have f7 : w3.cell? ⟨L.p, 7, none⟩ = some (.slice (some ⟨L.gl, 0, none⟩) m.left.length m.left.length) := by
        have h1 := S4.out.cells.2.2.2.2.2.2.1
        rw [hE.out.2.1, hE.out.2.2, overL_length] at h1
        exact h1
      obtain ⟨vd4, hC4⟩ := S4.out.c
      have LA := Aside0.mk (show w3.heap[L.gl]? = some (.cells (leftV Lr (overL t ds m.left).length) 75 (0, 0)) from by have h1 := hC4.leftA; rw [hE.out.2.2] at h1; exact h1)
      have hnl2 : (n : Int) < (m.left.length : Int) := by omega
      have HNL := Aside0.mk hnl
      have hls : n < (leftV Lr (overL t ds m.left).length).size := by rw [overL_length]; simp [leftV]; exact hnl
      have HLS := Aside0.mk hls
      clear hwx hin hin2 hq hqe hnot hr1 hm1 hs1 hle hlk hpp hnl hC4 hls
      go_wp2_with (first
        | ((with_reducible refine gate_store (t := 75) (p := 65) (v := .tmp 64) rfl ?_); refine put_event rfl rfl (g := L.gl) (i := n) (v := .map (some (L.cb id (n : Int)))) rfl rfl rfl rfl LA.out HLS.out (by kernel_rfl) ?_
           intro w5 hc hm
           have X5 := Aside0.mk (S4.out.setLeft (n := n) (b := L.cb id (n : Int)) (c := cc) (by show n < (overL t ds m.left).length; rw [overL_length]; exact HNL.out) (by rw [hE.out.1]; exact (PR.out _ _ HLK.out).2) O4.out (by rw [hE.out.2.2]; exact hc) (by rw [hE.out.2.2]; exact hm))
           have R5 := Aside0.mk (R1.out.move hm (fun h => by have h1 := TR0.out.2; rw [h] at h1; have h2 : L1.role L.gl = .leftA := (by have h3 := hS.out.c.elim fun _ c => c.rg; rw [hE.out.1, hE.out.2.2] at h3; exact h3); rw [h2] at h1; cases h1) (fun h => by have h1 := HRR.out.1; rw [h] at h1; have h2 : L1.role L.gl = .leftA := (by have h3 := hS.out.c.elim fun _ c => c.rg; rw [hE.out.1, hE.out.2.2] at h3; exact h3); rw [h2] at h1; cases h1))
           have M5 := Aside0.mk (M4.out.then_ hm (fun k hk => .inl hk))
           clear hc hm))
      go_roundg (gk - 1)
      case measure => have := hcnt.out; have := HLE.out; omega
      case rel =>
        refine ⟨_, Lr.leftAt n (L.cb id (n : Int)), ⟨by have := hcnt.out; have := HLE.out; rw [List.length_append, List.length_singleton]; omega⟩, R5, ⟨?_⟩, ⟨G4.out.trans X5.out.2⟩, ⟨hE.out.1, hE.out.2.1, hE.out.2.2⟩, M5⟩
        have h1 := X5.out.1
        rw [overL_step t ds m.left n (L.cb id (n : Int)) cc HLK.out] at h1
        exact h1
end Go.Proofs.YtcdfdckdodgbpaaGreatDoor.QA

/-! TEnds -/
namespace Go.Proofs.YtcdfdckdodgbpaaGreatDoor.QA
open Go.RowKit Go.Maps Go.Proofs.YtcdfdckdodgbpaaGreatDoorW.PrintWords Go.Proofs.YtcdfdckdodgbpaaGreatDoorW.PrintLast Go.Proofs.YtcdfdckdodgbpaaGreatDoorW.PrintMore
set_option linter.unusedVariables false
set_option linter.unusedSimpArgs false
theorem eql85n (w : World) : (binOp .eql 72 (.pointer none) (.pointer none)).run Tryz.prog w = .ok (.bool true) w := by kernel_rfl
theorem endE_none {m : PSt} {id : Int} (h : look m.opn id = none) : m.endE id = 160 := by unfold PSt.endE; rw [h]; rfl
theorem endE_some {m : PSt} {id : Int} {t : Txn} (h : look m.opn id = some t) : m.endE id = 0 := by unfold PSt.endE; rw [h]; rfl
set_option maxHeartbeats 4000000 in
set_option maxRecDepth 100000 in
theorem commit23 {w : World} {L : Lay} {m : PSt} (h : St w L none2 m) (hk : Ok m) (id : Int) (hid : (Lit.int .i64 id).wf = true) (hdl : m.done.length < 5000000000000) :
    Calls Tryz.prog 21 #[.pointer (some ⟨L.p, 0, none⟩), .int .i64 id] w fun e w' => e = .returned (.int .i64 (m.endE id)) ∧ ∃ L', St w' L' none2 (m.commit id) ∧ Goes w L w' L' := by
  have H := Aside0.mk h
  have HK := Aside0.mk hk
  have HI := Aside0.mk hid
  have HDL := Aside0.mk hdl
  obtain ⟨c0, c1, c2, c4, c5, c6, c7, c8⟩ := h.cells
  have HO := Aside0.mk (show OM Tryz.prog ptrS w L.ob (opnL m L) from h.c.elim fun _ c => c.open_)
  have hlo := opnL_look m L id
  clear h hk hid hdl c0 c1 c2 c4 c5 c7 c8
  cases hl : look m.opn id with
  | none =>
    rw [hl] at hlo
    have HLO := Aside0.mk hlo
    have HE := Aside0.mk (endE_none hl)
    clear hlo hl
    go_enter Tryz.func21, Tryz.ntmps21
    go_wp2_with (at_lookup; refine om_look_none rfl _ _ 67 rfl 72 Tryz.underlying67 (zero85 _) rfl HO.out rfl HI.out HLO.out ?_)
    go_ret
    refine ⟨by rw [HE.out]; rfl, L, ?_, Goes.refl _ _⟩
    unfold PSt.commit
    rw [HE.out, if_neg (by decide)]
    exact H.out
  | some t =>
    rw [hl] at hlo
    have HLO := Aside0.mk hlo
    have HE := Aside0.mk (endE_some hl)
    have HL := Aside0.mk hl
    clear hlo hl
    go_enter Tryz.func21, Tryz.ntmps21
    go_wp2_with (first
      | (at_lookup; refine om_look_ptr rfl _ _ 67 rfl 72 Tryz.underlying67 (zero85 _) rfl HO.out rfl HI.out HLO.out ?_)
      | (go_at_call 30; refine (over_keep H.out HK.out id HI.out HL.out HDL.out).mono ?_; rintro e w1 ⟨rfl, L1, hs, hg⟩
         have S1 := Aside0.mk hs
         have G1 := Aside0.mk hg
         clear hs hg))
    go_ret
    refine ⟨by rw [HE.out]; rfl, L1, ?_, G1.out⟩
    unfold PSt.commit
    rw [HE.out, if_pos rfl]
    exact S1.out
set_option maxHeartbeats 4000000 in
set_option maxRecDepth 100000 in
theorem abort28 {w : World} {L : Lay} {m : PSt} (h : St w L none2 m) (hk : Ok m) (id : Int) (hid : (Lit.int .i64 id).wf = true) :
    Calls Tryz.prog 11 #[.pointer (some ⟨L.p, 0, none⟩), .int .i64 id] w fun e w' => e = .returned (.int .i64 (m.endE id)) ∧ ∃ L', St w' L' none2 (m.abort id) ∧ Goes w L w' L' := by
  have H := Aside0.mk h
  have HK := Aside0.mk hk
  have HI := Aside0.mk hid
  obtain ⟨c0, c1, c2, c4, c5, c6, c7, c8⟩ := h.cells
  have HO := Aside0.mk (show OM Tryz.prog ptrS w L.ob (opnL m L) from h.c.elim fun _ c => c.open_)
  have hlo := opnL_look m L id
  clear h hk hid c0 c1 c2 c4 c5 c7 c8
  cases hl : look m.opn id with
  | none =>
    rw [hl] at hlo
    have HLO := Aside0.mk hlo
    have HE := Aside0.mk (endE_none hl)
    clear hlo hl
    go_enter Tryz.func11, Tryz.ntmps11
    go_wp2_with (at_lookup; refine om_look_none rfl _ _ 67 rfl 72 Tryz.underlying67 (zero85 _) rfl HO.out rfl HI.out HLO.out ?_)
    go_ret
    refine ⟨by rw [HE.out]; rfl, L, ?_, Goes.refl _ _⟩
    unfold PSt.abort
    rw [HE.out, if_neg (by decide)]
    exact H.out
  | some t =>
    rw [hl] at hlo
    have HLO := Aside0.mk hlo
    have HE := Aside0.mk (endE_some hl)
    have HL := Aside0.mk hl
    clear hlo hl
    go_enter Tryz.func11, Tryz.ntmps11
    go_wp2_with (first
      | (at_lookup; refine om_look_ptr rfl _ _ 67 rfl 72 Tryz.underlying67 (zero85 _) rfl HO.out rfl HI.out HLO.out ?_)
      | (go_at_call 30; refine (over_undo H.out HK.out id HI.out HL.out).mono ?_; rintro e w1 ⟨rfl, L1, hs, hg⟩
         have S1 := Aside0.mk hs
         have G1 := Aside0.mk hg
         clear hs hg))
    go_ret
    refine ⟨by rw [HE.out]; rfl, L1, ?_, G1.out⟩
    unfold PSt.abort
    rw [HE.out, if_pos rfl]
    exact S1.out
theorem kept_nonneg {m : PSt} (hk : Ok m) : 0 ≤ m.kept := sum_nonneg (fun x hx => by obtain ⟨q, hq, rfl⟩ := List.mem_map.1 hx; have := hk.keep_nonneg q hq; omega)
set_option maxHeartbeats 4000000 in
set_option maxRecDepth 100000 in
theorem renew30 {w : World} {L : Lay} {m : PSt} (h : St w L none2 m) :
    Calls Tryz.prog 16 #[.pointer (some ⟨L.p, 0, none⟩)] w fun e w' => e = .returned (.int .i64 m.renewE) ∧ ∃ L', St w' L' none2 m.renew ∧ Goes w L w' L' := by
  have H := Aside0.mk h
  obtain ⟨c0, c1, c2, c4, c5, c6, c7, c8⟩ := h.cells
  have HO := Aside0.mk (show OM Tryz.prog ptrS w L.ob (opnL m L) from h.c.elim fun _ c => c.open_)
  have hlen := fun ty => HO.out.own.len Tryz.underlying67 ty
  have hle : (opnL m L).length = m.opn.length := by unfold opnL; rw [List.length_map]
  rw [dat_size, hle] at hlen
  clear h hle c0 c1 c2 c4 c5 c7
  by_cases h1 : 0 < m.opn.length
  · have HE := Aside0.mk (show m.renewE = 210 from if_pos h1)
    have h2 : (0 : Int) < (m.opn.length : Int) := by omega
    clear h1
    go_enter Tryz.func16, Tryz.ntmps16
    go_wp2
    go_ret
    refine ⟨by rw [HE.out]; rfl, L, ?_, Goes.refl _ _⟩
    unfold PSt.renew
    rw [HE.out, if_neg (by decide)]
    exact H.out
  · have HE := Aside0.mk (show m.renewE = 0 from if_neg h1)
    have h2 : ¬ ((0 : Int) < (m.opn.length : Int)) := by omega
    clear h1
    go_enter Tryz.func16, Tryz.ntmps16
    go_wp2_with (first
      | ((with_reducible refine gate_store (t := 3) (p := 11) (v := .const (.int .i64 0)) rfl ?_); refine used_event (L := L) (m := m) rfl rfl 0 rfl rfl H.out ?_
         intro w2 hs hg hm
         have S2 := Aside0.mk hs
         have G2 := Aside0.mk hg
         clear hs hg hm))
    go_ret
    refine ⟨by rw [HE.out]; rfl, L, ?_, G2.out⟩
    unfold PSt.renew
    rw [HE.out, if_pos rfl]
    exact S2.out
end Go.Proofs.YtcdfdckdodgbpaaGreatDoor.QA

/-! TCheck -/
namespace Go.Proofs.YtcdfdckdodgbpaaGreatDoor.QA
open Go.RowKit Go.Maps Go.Proofs.YtcdfdckdodgbpaaGreatDoorW.PrintWords Go.Proofs.YtcdfdckdodgbpaaGreatDoorW.PrintLast Go.Proofs.YtcdfdckdodgbpaaGreatDoorW.PrintMore
set_option linter.unusedVariables false
set_option linter.unusedSimpArgs false
attribute [local go_sem] max2_int min2_int max_two min_two
set_option maxHeartbeats 4000000 in
set_option maxRecDepth 100000 in
theorem check29 {w : World} {L : Lay} {m : PSt} (h : St w L none2 m) (hk : Ok m) (d : Int) (hid : (Lit.int .i64 d).wf = true) :
    Calls Tryz.prog 39 #[.pointer (some ⟨L.p, 0, none⟩), .int .i64 d] w fun e w' => e = .returned (.int .i64 (m.checkE d)) ∧ ∃ L', St w' L' none2 (m.check d) ∧ Goes w L w' L' := by
  have H := Aside0.mk h
  have HK := Aside0.mk hk
  have SD := Aside0.mk h.drew
  have BD := Aside0.mk (below_drew (Below.refl w.heap.size w))
  obtain ⟨c0, c1, c2, c4, c5, c6, c7, c8⟩ := SD.out.cells
  have HO := Aside0.mk (show OM Tryz.prog ptrS w.drew L.ob (opnL m L) from SD.out.c.elim fun _ c => c.open_)
  have hlen := fun ty => HO.out.own.len Tryz.underlying67 ty
  have hle : (opnL m L).length = m.opn.length := by unfold opnL; rw [List.length_map]
  rw [dat_size, hle] at hlen
  have hol : (m.opn.length : Int) ≤ 8 := by have := hk.size; have := hk.table; omega
  have hp := hk.pages
  have hu := hk.used
  have hr := hk.room
  have hlg := hk.log
  have hkn := kept_nonneg hk
  obtain ⟨q, hq⟩ : ∃ q, q = min (max d 0) m.pages := ⟨_, rfl⟩
  have hq2 : 0 ≤ q ∧ q ≤ 16 := by omega
  obtain ⟨n, hn⟩ : ∃ n, n = m.checkN d := ⟨_, rfl⟩
  have hn2 : n = 35 + 26 * (m.opn.length : Int) + 9 * q := by rw [hn, hq]; rfl
  have hn3 : 0 ≤ n ∧ n ≤ 1000 := by omega
  have hw1 : IntKind.i64.wrap (26 * (m.opn.length : Int)) = 26 * (m.opn.length : Int) := wrp rfl (by omega)
  have hw2 : IntKind.i64.wrap (35 + 26 * (m.opn.length : Int)) = 35 + 26 * (m.opn.length : Int) := wrp rfl (by omega)
  have hw3 : IntKind.i64.wrap (9 * q) = 9 * q := wrp rfl (by omega)
  have hw4 : IntKind.i64.wrap (35 + 26 * (m.opn.length : Int) + 9 * q) = n := wrp hn2.symm (by omega)
  have hw5 : IntKind.i64.wrap (m.used + n) = m.used + n := wrp rfl (by omega)
  obtain ⟨q0, hq0⟩ : ∃ q0, q0 = max d 0 := ⟨_, rfl⟩
  have hqs0 : (if d < 0 then 0 else d) = q0 := by rw [hq0]; split <;> omega
  have hqs : (if m.pages < q0 then m.pages else q0) = q := by rw [hq, ← hq0]; split <;> omega
  have HN := Aside0.mk hn
  have HN3 := Aside0.mk hn3
  clear hq0 h hk hle hid hol hp hu hr hlg hkn hq hq2 hn hn2 hn3 c1 c2 c4 c5 c7
  go_enter Tryz.func39, Tryz.ntmps39
  go_upto_region 1 with fail
  go_still (by kernel_rfl)
  change Exit.then _ _ _ _ w.drew
  clear c0 c6 c8 hlen hqs hqs0
  generalize w.drew = wd at SD BD HO ⊢
  by_cases h1 : m.fits n 0 = true
  · have HE := Aside0.mk (show m.checkE d = 0 from by unfold PSt.checkE; rw [← HN.out, if_pos h1])
    go_wp2_with (first
      | (go_at_call 34; refine (fits34 SD.out HK.out n 0 (by have := HN3.out; omega) (by omega)).mono ?_; rintro e w1 ⟨rfl, hb⟩; rw [h1]
         have S1 := Aside0.mk (SD.out.below hb)
         have B1 := Aside0.mk (BD.out.trans (hb.mono BD.out.size))
         have f8 : w1.cell? ⟨L.p, 8, none⟩ = some (.int .i64 m.used) := S1.out.cells.2.2.2.2.2.2.2
         clear hb)
      | ((with_reducible refine gate_store (t := 3) (p := 35) (v := .tmp 33) rfl ?_); refine used_event (L := L) (m := m) rfl rfl (m.used + n) rfl rfl S1.out ?_
         intro w2 hs hg hm
         have S2 := Aside0.mk hs
         have G2 := Aside0.mk ((Goes.of_below (L := L) B1.out).trans hg)
         clear hs hg hm))
    go_ret
    refine ⟨by rw [HE.out]; rfl, L, ?_, G2.out⟩
    unfold PSt.check
    rw [HE.out, if_pos rfl, ← HN.out]
    exact S2.out
  · have HE := Aside0.mk (show m.checkE d = 170 from by unfold PSt.checkE; rw [← HN.out, if_neg h1])
    have h2 : m.fits n 0 = false := by cases hf : m.fits n 0 with | true => exact absurd hf h1 | false => rfl
    clear h1
    go_wp2_with (first
      | (go_at_call 34; refine (fits34 SD.out HK.out n 0 (by have := HN3.out; omega) (by omega)).mono ?_; rintro e w1 ⟨rfl, hb⟩; rw [h2]
         have B1 := Aside0.mk (BD.out.trans (hb.mono BD.out.size))
         clear hb))
    go_ret
    refine ⟨by rw [HE.out]; rfl, L, ?_, Goes.of_below B1.out⟩
    unfold PSt.check
    rw [HE.out, if_neg (by decide)]
    exact H.out.below B1.out
end Go.Proofs.YtcdfdckdodgbpaaGreatDoor.QA
