/- changed, whole; Put and Delete walked. Delete walked. does walked: one step of a script. New walked, where the Config may be. alive walked: a begin, a put and its sum. played walked: a state behind a script. What a step leaves of the sums: plain. The document's Fold puts each change in its place: it gives what the changes leave. Plain. Entries in a row: as the library's sort sees them; lists that rise. Ids walked. -/
import Derived.Test.YtcdfdckdodgbpaaDoorNTChange3a
import Derived.Test.YtcdfdckdodgbpaaDoorNTChange3b
import Derived.Test.YtcdfdckdodgbpaaDoorNTChange3c
import Derived.Test.YtcdfdckdodgbpaaDoorB
import Derived.Test.YtcdfdckdodgbpaaDoorA
import Derived.Test.YtcdfdckdodgbpaaDoorQAx6
import Derived.Test.YtcdfdckdodgbpaaDoorC
import Derived.Test.YtcdfdckdodgbpaaDoorNTOpens
import Derived.Test.YtcdfdckdodgbpaaDoorQAx4
import Derived.Shelf.GgSortFunc.InsertionK
/-! TPut -/
namespace Go.Proofs.YtcdfdckdodgbpaaDoor.QA
open Go.RowKit Go.Maps Go.Proofs.YtcdfdckdodgbpaaDoorW.PrintWords Go.Proofs.YtcdfdckdodgbpaaDoorW.PrintLast Go.Proofs.YtcdfdckdodgbpaaDoorW.PrintMore
set_option linter.unusedVariables false
set_option linter.unusedSimpArgs false
theorem changed36 {w : World} {L : Lay} {m : PSt} (h : St w L none2 m) (hk : Ok m) (id : Int) (x : Chg) (hid : (Lit.int .i64 id).wf = true) (hky : (Lit.int .i64 x.f0).wf = true) :
    Calls Tryd.prog 36 #[.pointer (some ⟨L.p, 0, none⟩), .int .i64 id, .agg #[.int .i64 x.f0, .int .u64 x.f1, .bool x.f2]] w fun e w' => ((m.changedE id x = 0 ∧ e = .returned .nilIface) ∨ (∃ v n, e = .returned v ∧ Err w' (m.changedE id x) n v)) ∧ ∃ L', St w' L' none2 (m.changed id x) ∧ Goes w L w' L' := by
  by_cases hE : m.askedE id x.f0 = 0
  · cases hF : m.full id x with
    | true =>
      have h1 : m.changedE id x = 42 := by unfold PSt.changedE; rw [if_neg (by simp [hE]), hF, if_pos rfl]
      have h2 : m.changed id x = m := by unfold PSt.changed; rw [if_neg (by simp [hE]), hF, if_pos rfl]
      refine (changed_full h hk id x hid hky hE hF).mono ?_
      rintro e w' ⟨v, n, rfl, he, L', hs, hg⟩
      exact ⟨.inr ⟨v, n, rfl, by rw [h1]; exact he⟩, L', by rw [h2]; exact hs, hg⟩
    | false =>
      have hr : ∀ (e : Ending) (w' : World), (((m.changedE id x = 0 ∧ e = .returned .nilIface) ∨ (∃ v n, m.changedE id x = 170 ∧ e = .returned v ∧ Err w' 170 n v)) ∧ ∃ L', St w' L' none2 (m.changed id x) ∧ Goes w L w' L') →
          ((m.changedE id x = 0 ∧ e = .returned .nilIface) ∨ (∃ v n, e = .returned v ∧ Err w' (m.changedE id x) n v)) ∧ ∃ L', St w' L' none2 (m.changed id x) ∧ Goes w L w' L' := by
        rintro e w' ⟨h1 | ⟨v, n, h1, h2, h3⟩, h4⟩
        · exact ⟨.inl h1, h4⟩
        · exact ⟨.inr ⟨v, n, h2, by rw [h1]; exact h3⟩, h4⟩
      cases hg : x.f2 with
      | true => rw [← hg]; exact (changed_a h hk id x hid hky hE hF hg).mono hr
      | false =>
        cases ht : (look (m.con id (x.f0.tmod m.pages)) x.f0).isSome with
        | true => rw [← hg]; exact (changed_b h hk id x hid hky hE hF hg ht).mono hr
        | false => rw [← hg]; exact (changed_c h hk id x hid hky hE hF hg ht).mono hr
  · have h1 : m.changedE id x = m.askedE id x.f0 := by unfold PSt.changedE; rw [if_pos hE]
    have h2 : m.changed id x = m := by unfold PSt.changed; rw [if_pos hE]
    refine (changed_asked h hk id x hid hky hE).mono ?_
    rintro e w' ⟨v, n, rfl, he, hb⟩
    exact ⟨.inr ⟨v, n, rfl, by rw [h1]; exact he⟩, L, by rw [h2]; exact h.below hb, Goes.of_below hb⟩
/-- changed, and the number of what it answers. -/
theorem number_of {w : World} {code : Int} {v : Value} {L : Lay} {m : PSt} (h : St w L none2 m) (hv : (code = 0 ∧ v = .nilIface) ∨ ∃ n, Err w code n v) : Calls Tryd.prog 35 #[v] w fun e w' => e = .returned (.int .i64 code) ∧ Below w.heap.size w w' := by
  rcases hv with ⟨rfl, rfl⟩ | ⟨n, he⟩
  · exact number35n w
  · exact number35 he (h.c.elim fun _ c => c.g0)
set_option maxHeartbeats 4000000 in
set_option maxRecDepth 100000 in
theorem put21 {w : World} {L : Lay} {m : PSt} (h : St w L none2 m) (hk : Ok m) (id key v : Int) (hid : (Lit.int .i64 id).wf = true) (hky : (Lit.int .i64 key).wf = true) :
    Calls Tryd.prog 21 #[.pointer (some ⟨L.p, 0, none⟩), .int .i64 id, .int .i64 key, .int .u64 v] w fun e w' => e = .returned (.int .i64 (m.changedE id ⟨key, v, false⟩)) ∧ ∃ L', St w' L' none2 (m.changed id ⟨key, v, false⟩) ∧ Goes w L w' L' := by
  have HC := Aside0.mk (changed36 h hk id ⟨key, v, false⟩ hid hky)
  obtain ⟨code, hcode⟩ : ∃ code, code = m.changedE id ⟨key, v, false⟩ := ⟨_, rfl⟩
  rw [← hcode] at HC ⊢
  obtain ⟨m2, hm2⟩ : ∃ m2, m2 = m.changed id ⟨key, v, false⟩ := ⟨_, rfl⟩
  rw [← hm2] at HC ⊢
  clear h hk hid hky hcode hm2
  dsimp only at HC
  go_enter Tryd.func21, Tryd.ntmps21
  go_wp2_with (first
    | (go_at_call 36; refine HC.out.mono ?_; rintro e w1 ⟨hv, L1, hs, hg⟩
       obtain ⟨v1, hv1, hv2⟩ : ∃ v1, e = .returned v1 ∧ ((code = 0 ∧ v1 = .nilIface) ∨ ∃ n, Err w1 code n v1) := by
         rcases hv with ⟨h1, h2⟩ | ⟨v1, n, h1, h2⟩
         · exact ⟨_, h2, .inl ⟨h1, rfl⟩⟩
         · exact ⟨_, h1, .inr ⟨n, h2⟩⟩
       subst hv1
       have V1 := Aside0.mk hv2
       have S1 := Aside0.mk hs
       have G1 := Aside0.mk hg
       clear hv hv2 hs hg)
    | (go_at_call 35; refine (number_of S1.out V1.out).mono ?_; rintro e w2 ⟨rfl, hb⟩
       have S2 := Aside0.mk (S1.out.below hb)
       have G2 := Aside0.mk (G1.out.trans (Goes.of_below (L := L1) hb))
       clear hb))
  go_ret
  exact ⟨rfl, L1, S2.out, G2.out⟩
end Go.Proofs.YtcdfdckdodgbpaaDoor.QA

/-! TDelete -/
namespace Go.Proofs.YtcdfdckdodgbpaaDoor.QA
open Go.RowKit Go.Maps Go.Proofs.YtcdfdckdodgbpaaDoorW.PrintWords Go.Proofs.YtcdfdckdodgbpaaDoorW.PrintLast Go.Proofs.YtcdfdckdodgbpaaDoorW.PrintMore
set_option linter.unusedVariables false
set_option linter.unusedSimpArgs false
theorem delE_zero {m : PSt} {id key : Int} (h : m.askedE id key = 0) : m.delE id key = if m.getB id key then (m.get id key).changedE id ⟨key, 0, true⟩ else 0 := by unfold PSt.delE; rw [if_neg (by simpa using h)]
set_option maxHeartbeats 4000000 in
set_option maxRecDepth 100000 in
theorem delete27 {w : World} {L : Lay} {m : PSt} (h : St w L none2 m) (hk : Ok m) (id key : Int) (hid : (Lit.int .i64 id).wf = true) (hky : (Lit.int .i64 key).wf = true) :
    Calls Tryd.prog 27 #[.pointer (some ⟨L.p, 0, none⟩), .int .i64 id, .int .i64 key] w fun e w' => e = .returned (.tuple #[.bool (m.delB id key), .int .i64 (m.delE id key)]) ∧ ∃ L', St w' L' none2 (m.delete id key) ∧ Goes w L w' L' := by
  have H := Aside0.mk h
  have HK := Aside0.mk hk
  have HI := Aside0.mk hid
  have HY := Aside0.mk hky
  clear h hk hid hky
  by_cases hE : m.askedE id key = 0
  · have HE := Aside0.mk hE
    have HD := Aside0.mk (delE_zero hE)
    cases hb : m.getB id key with
    | false =>
      have HR := Aside0.mk (show m.delB id key = false ∧ m.delE id key = 0 ∧ m.delete id key = m.get id key from ⟨by unfold PSt.delB; rw [hb]; rfl, by rw [HD.out, hb]; rfl, by unfold PSt.delete; rw [hb]; rfl⟩)
      rw [HR.out.1, HR.out.2.1, HR.out.2.2]
      have HB := Aside0.mk hb
      clear hE hb
      go_enter Tryd.func27, Tryd.ntmps27
      go_wp2_with (go_at_call 22; refine (get_ok H.out HK.out id key HI.out HY.out HE.out).mono ?_; rintro e w1 ⟨rfl, L1, hs, hg⟩; rw [HB.out]
                   have S1 := Aside0.mk hs
                   have G1 := Aside0.mk hg
                   clear hs hg)
      go_ret2
      exact ⟨rfl, L1, S1.out, G1.out⟩
    | true =>
      obtain ⟨code, hcode⟩ : ∃ code, code = (m.get id key).changedE id ⟨key, 0, true⟩ := ⟨_, rfl⟩
      have HR := Aside0.mk (show m.delB id key = decide (code = 0) ∧ m.delE id key = code ∧ m.delete id key = (m.get id key).changed id ⟨key, 0, true⟩ from ⟨by unfold PSt.delB; rw [hb, hcode]; rfl, by rw [HD.out, hb, hcode]; rfl, by unfold PSt.delete; rw [hb]; rfl⟩)
      rw [HR.out.1, HR.out.2.1, HR.out.2.2]
      have HB := Aside0.mk hb
      have HC := Aside0.mk hcode
      have OK1 := Aside0.mk (HK.out.get id key)
      clear hE hb hcode
      go_enter Tryd.func27, Tryd.ntmps27
      go_wp2_with (first
        | (go_at_call 22; refine (get_ok H.out HK.out id key HI.out HY.out HE.out).mono ?_; rintro e w1 ⟨rfl, L1, hs, hg⟩; rw [HB.out]
           have S1 := Aside0.mk hs
           have G1 := Aside0.mk hg
           clear hs hg)
        | (go_at_call 36; have C36 := changed36 S1.out OK1.out id ⟨key, 0, true⟩ HI.out HY.out; rw [G1.out.p] at C36; refine C36.mono ?_; clear C36; rintro e w2 ⟨hv, L2, hs, hg⟩
           obtain ⟨v1, hv1, hv2⟩ : ∃ v1, e = .returned v1 ∧ ((code = 0 ∧ v1 = .nilIface) ∨ ∃ n, Err w2 code n v1) := by
             rw [← HC.out] at hv
             rcases hv with ⟨h1, h2⟩ | ⟨v1, n, h1, h2⟩
             · exact ⟨_, h2, .inl ⟨h1, rfl⟩⟩
             · exact ⟨_, h1, .inr ⟨n, h2⟩⟩
           subst hv1
           have V2 := Aside0.mk hv2
           have S2 := Aside0.mk hs
           have G2 := Aside0.mk (G1.out.trans hg)
           clear hv hv2 hs hg)
        | (go_at_call 35; refine (number_of S2.out V2.out).mono ?_; rintro e w3 ⟨rfl, hb⟩
           have S3 := Aside0.mk (S2.out.below hb)
           have G3 := Aside0.mk (G2.out.trans (Goes.of_below (L := L2) hb))
           clear hb))
      all_goals
        go_ret2
        have hbd : decide (code = 0) = (code == 0) := by by_cases h : code = 0 <;> simp [h]
        exact ⟨by rw [hbd]; first | done | rfl, L2, S3.out, G3.out⟩
  · have HE := Aside0.mk hE
    have HR := Aside0.mk (show m.delB id key = false ∧ m.delE id key = m.askedE id key ∧ m.delete id key = m from by
      have h1 : m.getB id key = false := by unfold PSt.getB; rw [if_neg hE]
      exact ⟨by unfold PSt.delB; rw [h1]; rfl, by unfold PSt.delE; rw [if_pos hE], by unfold PSt.delete PSt.get; rw [h1]; simp [hE]⟩)
    rw [HR.out.1, HR.out.2.1, HR.out.2.2]
    obtain ⟨code, hcode⟩ : ∃ code, code = m.askedE id key := ⟨_, rfl⟩
    have hcn : (code == 0) = false := by rw [hcode]; simpa using hE
    have hcn2 : decide (code = 0) = false := by rw [hcode]; simpa using hE
    have hcn3 : ¬ (code = 0) := by rw [hcode]; exact hE
    have HC := Aside0.mk hcode
    rw [← hcode]
    clear hE hcode
    go_enter Tryd.func27, Tryd.ntmps27
    go_wp2_with (go_at_call 22; refine (get_bad H.out HK.out id key HI.out HY.out HE.out).mono ?_; rintro e w1 ⟨rfl, hb⟩; rw [← HC.out]
                 have B1 := Aside0.mk hb
                 clear hb)
    go_ret2
    exact ⟨rfl, L, H.out.below B1.out, Goes.of_below B1.out⟩
end Go.Proofs.YtcdfdckdodgbpaaDoor.QA

/-! TDoes -/
namespace Go.Proofs.YtcdfdckdodgbpaaDoor.QA
open Go.RowKit Go.Maps Go.Proofs.YtcdfdckdodgbpaaDoorW.PrintWords Go.Proofs.YtcdfdckdodgbpaaDoorW.PrintLast Go.Proofs.YtcdfdckdodgbpaaDoorW.PrintMore
set_option linter.unusedVariables false
set_option linter.unusedSimpArgs false
/-- One step of a script. -/
structure Stp where
  kind : Int
  id : Int
  key : Int
  v : Int
  n : Int
def PSt.step (m : PSt) (o : Stp) : PSt :=
  if o.kind = 1 then m.begin_ o.id else if o.kind = 2 then m.get o.id o.key else if o.kind = 3 then m.changed o.id ⟨o.key, o.v, false⟩ else if o.kind = 4 then m.delete o.id o.key
  else if o.kind = 5 then m.commit o.id else if o.kind = 6 then m.abort o.id else if o.kind = 7 then m.check o.n else if o.kind = 8 then m.renew else m
def PSt.stepE (m : PSt) (o : Stp) : Int :=
  if o.kind = 1 then m.beginE o.id else if o.kind = 2 then m.askedE o.id o.key else if o.kind = 3 then m.changedE o.id ⟨o.key, o.v, false⟩ else if o.kind = 4 then m.delE o.id o.key
  else if o.kind = 5 then m.endE o.id else if o.kind = 6 then m.endE o.id else if o.kind = 7 then m.checkE o.n else if o.kind = 8 then m.renewE else 0
structure OkStp (o : Stp) : Prop where
  id : (Lit.int .i64 o.id).wf = true
  key : (Lit.int .i64 o.key).wf = true
  v : (Lit.int .u64 o.v).wf = true
  n : (Lit.int .i64 o.n).wf = true
def stpV (o : Stp) : Value := .agg #[.int .i64 o.kind, .int .i64 o.id, .int .i64 o.key, .int .u64 o.v, .int .i64 o.n]
set_option maxHeartbeats 2000000 in
set_option maxRecDepth 100000 in
theorem does_1 {w : World} {L : Lay} {m : PSt} (h : St w L none2 m) (hk : Ok m) (kind id key v n : Int) (ho : OkStp ⟨kind, id, key, v, n⟩) (hdl : m.done.length < 5000000000000) (hkd : kind = 1) :
    Calls Tryd.prog 15 #[.pointer (some ⟨L.p, 0, none⟩), .agg #[.int .i64 kind, .int .i64 id, .int .i64 key, .int .u64 v, .int .i64 n]] w fun e w' => e = .returned (.int .i64 (m.stepE ⟨kind, id, key, v, n⟩)) ∧ ∃ L', St w' L' none2 (m.step ⟨kind, id, key, v, n⟩) ∧ Goes w L w' L' := by
  have B0 := Aside0.mk (below_alloc (Below.refl w.heap.size w) (.cells #[.int .i64 kind, .int .i64 id, .int .i64 key, .int .u64 v, .int .i64 n] 51))
  have HA := Aside0.mk (h.below B0.out)
  have G0 := Aside0.mk (Goes.of_below (L := L) B0.out)
  have HK := Aside0.mk hk
  have HI := Aside0.mk (show (Lit.int .i64 id).wf = true from ho.id)
  have HY := Aside0.mk (show (Lit.int .i64 key).wf = true from ho.key)
  have HN := Aside0.mk (show (Lit.int .i64 n).wf = true from ho.n)
  have HDL := Aside0.mk hdl
  clear h hk ho hdl
  subst hkd
  go_enter Tryd.func15, Tryd.ntmps15
  go_wp2_with (first
    | (go_at_call 20; refine (begin20 HA.out HK.out id HI.out).mono ?_; rintro e w1 ⟨rfl, L1, hs, hg⟩
       have S1 := Aside0.mk hs
       have G1 := Aside0.mk (G0.out.trans hg)
       clear hs hg)
    | (go_at_call 19; refine (num19 _ _).mono ?_; rintro e w2 ⟨rfl, rfl⟩))
  go_ret
  exact ⟨rfl, L1, S1.out, G1.out⟩
set_option maxHeartbeats 2000000 in
set_option maxRecDepth 100000 in
theorem does_2 {w : World} {L : Lay} {m : PSt} (h : St w L none2 m) (hk : Ok m) (kind id key v n : Int) (ho : OkStp ⟨kind, id, key, v, n⟩) (hdl : m.done.length < 5000000000000) (hkd : kind = 2) :
    Calls Tryd.prog 15 #[.pointer (some ⟨L.p, 0, none⟩), .agg #[.int .i64 kind, .int .i64 id, .int .i64 key, .int .u64 v, .int .i64 n]] w fun e w' => e = .returned (.int .i64 (m.stepE ⟨kind, id, key, v, n⟩)) ∧ ∃ L', St w' L' none2 (m.step ⟨kind, id, key, v, n⟩) ∧ Goes w L w' L' := by
  have B0 := Aside0.mk (below_alloc (Below.refl w.heap.size w) (.cells #[.int .i64 kind, .int .i64 id, .int .i64 key, .int .u64 v, .int .i64 n] 51))
  have HA := Aside0.mk (h.below B0.out)
  have G0 := Aside0.mk (Goes.of_below (L := L) B0.out)
  have HK := Aside0.mk hk
  have HI := Aside0.mk (show (Lit.int .i64 id).wf = true from ho.id)
  have HY := Aside0.mk (show (Lit.int .i64 key).wf = true from ho.key)
  have HN := Aside0.mk (show (Lit.int .i64 n).wf = true from ho.n)
  have HDL := Aside0.mk hdl
  clear h hk ho hdl
  subst hkd
  by_cases hE : m.askedE id key = 0
  · have HE := Aside0.mk hE
    have HR := Aside0.mk (show m.stepE ⟨2, id, key, v, n⟩ = 0 from hE)
    rw [HR.out]
    clear hE
    go_enter Tryd.func15, Tryd.ntmps15
    go_wp2_with (first
      | (go_at_call 22; refine (get_ok HA.out HK.out id key HI.out HY.out HE.out).mono ?_; rintro e w1 ⟨rfl, L1, hs, hg⟩
         have S1 := Aside0.mk hs
         have G1 := Aside0.mk (G0.out.trans hg)
         clear hs hg)
      | (go_at_call 19; refine (num19 _ _).mono ?_; rintro e w2 ⟨rfl, rfl⟩))
    go_ret
    exact ⟨rfl, L1, S1.out, G1.out⟩
  · have HE := Aside0.mk hE
    have HR := Aside0.mk (show m.step ⟨2, id, key, v, n⟩ = m from by show m.get id key = m; unfold PSt.get; rw [if_neg hE])
    rw [HR.out]
    clear hE
    go_enter Tryd.func15, Tryd.ntmps15
    go_wp2_with (first
      | (go_at_call 22; refine (get_bad HA.out HK.out id key HI.out HY.out HE.out).mono ?_; rintro e w1 ⟨rfl, hb⟩
         have S1 := Aside0.mk (HA.out.below hb)
         have G1 := Aside0.mk (G0.out.trans (Goes.of_below (L := L) hb))
         clear hb)
      | (go_at_call 19; refine (num19 _ _).mono ?_; rintro e w2 ⟨rfl, rfl⟩))
    go_ret
    exact ⟨rfl, L, S1.out, G1.out⟩
set_option maxHeartbeats 2000000 in
set_option maxRecDepth 100000 in
theorem does_3 {w : World} {L : Lay} {m : PSt} (h : St w L none2 m) (hk : Ok m) (kind id key v n : Int) (ho : OkStp ⟨kind, id, key, v, n⟩) (hdl : m.done.length < 5000000000000) (hkd : kind = 3) :
    Calls Tryd.prog 15 #[.pointer (some ⟨L.p, 0, none⟩), .agg #[.int .i64 kind, .int .i64 id, .int .i64 key, .int .u64 v, .int .i64 n]] w fun e w' => e = .returned (.int .i64 (m.stepE ⟨kind, id, key, v, n⟩)) ∧ ∃ L', St w' L' none2 (m.step ⟨kind, id, key, v, n⟩) ∧ Goes w L w' L' := by
  have B0 := Aside0.mk (below_alloc (Below.refl w.heap.size w) (.cells #[.int .i64 kind, .int .i64 id, .int .i64 key, .int .u64 v, .int .i64 n] 51))
  have HA := Aside0.mk (h.below B0.out)
  have G0 := Aside0.mk (Goes.of_below (L := L) B0.out)
  have HK := Aside0.mk hk
  have HI := Aside0.mk (show (Lit.int .i64 id).wf = true from ho.id)
  have HY := Aside0.mk (show (Lit.int .i64 key).wf = true from ho.key)
  have HN := Aside0.mk (show (Lit.int .i64 n).wf = true from ho.n)
  have HDL := Aside0.mk hdl
  clear h hk ho hdl
  subst hkd
  go_enter Tryd.func15, Tryd.ntmps15
  go_wp2_with (first
    | (go_at_call 21; refine (put21 HA.out HK.out id key v HI.out HY.out).mono ?_; rintro e w1 ⟨rfl, L1, hs, hg⟩
       have S1 := Aside0.mk hs
       have G1 := Aside0.mk (G0.out.trans hg)
       clear hs hg)
    | (go_at_call 19; refine (num19 _ _).mono ?_; rintro e w2 ⟨rfl, rfl⟩))
  go_ret
  exact ⟨rfl, L1, S1.out, G1.out⟩
set_option maxHeartbeats 2000000 in
set_option maxRecDepth 100000 in
theorem does_4 {w : World} {L : Lay} {m : PSt} (h : St w L none2 m) (hk : Ok m) (kind id key v n : Int) (ho : OkStp ⟨kind, id, key, v, n⟩) (hdl : m.done.length < 5000000000000) (hkd : kind = 4) :
    Calls Tryd.prog 15 #[.pointer (some ⟨L.p, 0, none⟩), .agg #[.int .i64 kind, .int .i64 id, .int .i64 key, .int .u64 v, .int .i64 n]] w fun e w' => e = .returned (.int .i64 (m.stepE ⟨kind, id, key, v, n⟩)) ∧ ∃ L', St w' L' none2 (m.step ⟨kind, id, key, v, n⟩) ∧ Goes w L w' L' := by
  have B0 := Aside0.mk (below_alloc (Below.refl w.heap.size w) (.cells #[.int .i64 kind, .int .i64 id, .int .i64 key, .int .u64 v, .int .i64 n] 51))
  have HA := Aside0.mk (h.below B0.out)
  have G0 := Aside0.mk (Goes.of_below (L := L) B0.out)
  have HK := Aside0.mk hk
  have HI := Aside0.mk (show (Lit.int .i64 id).wf = true from ho.id)
  have HY := Aside0.mk (show (Lit.int .i64 key).wf = true from ho.key)
  have HN := Aside0.mk (show (Lit.int .i64 n).wf = true from ho.n)
  have HDL := Aside0.mk hdl
  clear h hk ho hdl
  subst hkd
  go_enter Tryd.func15, Tryd.ntmps15
  go_wp2_with (first
    | (go_at_call 27; refine (delete27 HA.out HK.out id key HI.out HY.out).mono ?_; rintro e w1 ⟨rfl, L1, hs, hg⟩
       have S1 := Aside0.mk hs
       have G1 := Aside0.mk (G0.out.trans hg)
       clear hs hg)
    | (go_at_call 19; refine (num19 _ _).mono ?_; rintro e w2 ⟨rfl, rfl⟩))
  go_ret
  exact ⟨rfl, L1, S1.out, G1.out⟩
set_option maxHeartbeats 2000000 in
set_option maxRecDepth 100000 in
theorem does_5 {w : World} {L : Lay} {m : PSt} (h : St w L none2 m) (hk : Ok m) (kind id key v n : Int) (ho : OkStp ⟨kind, id, key, v, n⟩) (hdl : m.done.length < 5000000000000) (hkd : kind = 5) :
    Calls Tryd.prog 15 #[.pointer (some ⟨L.p, 0, none⟩), .agg #[.int .i64 kind, .int .i64 id, .int .i64 key, .int .u64 v, .int .i64 n]] w fun e w' => e = .returned (.int .i64 (m.stepE ⟨kind, id, key, v, n⟩)) ∧ ∃ L', St w' L' none2 (m.step ⟨kind, id, key, v, n⟩) ∧ Goes w L w' L' := by
  have B0 := Aside0.mk (below_alloc (Below.refl w.heap.size w) (.cells #[.int .i64 kind, .int .i64 id, .int .i64 key, .int .u64 v, .int .i64 n] 51))
  have HA := Aside0.mk (h.below B0.out)
  have G0 := Aside0.mk (Goes.of_below (L := L) B0.out)
  have HK := Aside0.mk hk
  have HI := Aside0.mk (show (Lit.int .i64 id).wf = true from ho.id)
  have HY := Aside0.mk (show (Lit.int .i64 key).wf = true from ho.key)
  have HN := Aside0.mk (show (Lit.int .i64 n).wf = true from ho.n)
  have HDL := Aside0.mk hdl
  clear h hk ho hdl
  subst hkd
  go_enter Tryd.func15, Tryd.ntmps15
  go_wp2_with (first
    | (go_at_call 23; refine (commit23 HA.out HK.out id HI.out HDL.out).mono ?_; rintro e w1 ⟨rfl, L1, hs, hg⟩
       have S1 := Aside0.mk hs
       have G1 := Aside0.mk (G0.out.trans hg)
       clear hs hg)
    | (go_at_call 19; refine (num19 _ _).mono ?_; rintro e w2 ⟨rfl, rfl⟩))
  go_ret
  exact ⟨rfl, L1, S1.out, G1.out⟩
set_option maxHeartbeats 2000000 in
set_option maxRecDepth 100000 in
theorem does_6 {w : World} {L : Lay} {m : PSt} (h : St w L none2 m) (hk : Ok m) (kind id key v n : Int) (ho : OkStp ⟨kind, id, key, v, n⟩) (hdl : m.done.length < 5000000000000) (hkd : kind = 6) :
    Calls Tryd.prog 15 #[.pointer (some ⟨L.p, 0, none⟩), .agg #[.int .i64 kind, .int .i64 id, .int .i64 key, .int .u64 v, .int .i64 n]] w fun e w' => e = .returned (.int .i64 (m.stepE ⟨kind, id, key, v, n⟩)) ∧ ∃ L', St w' L' none2 (m.step ⟨kind, id, key, v, n⟩) ∧ Goes w L w' L' := by
  have B0 := Aside0.mk (below_alloc (Below.refl w.heap.size w) (.cells #[.int .i64 kind, .int .i64 id, .int .i64 key, .int .u64 v, .int .i64 n] 51))
  have HA := Aside0.mk (h.below B0.out)
  have G0 := Aside0.mk (Goes.of_below (L := L) B0.out)
  have HK := Aside0.mk hk
  have HI := Aside0.mk (show (Lit.int .i64 id).wf = true from ho.id)
  have HY := Aside0.mk (show (Lit.int .i64 key).wf = true from ho.key)
  have HN := Aside0.mk (show (Lit.int .i64 n).wf = true from ho.n)
  have HDL := Aside0.mk hdl
  clear h hk ho hdl
  subst hkd
  go_enter Tryd.func15, Tryd.ntmps15
  go_wp2_with (first
    | (go_at_call 28; refine (abort28 HA.out HK.out id HI.out).mono ?_; rintro e w1 ⟨rfl, L1, hs, hg⟩
       have S1 := Aside0.mk hs
       have G1 := Aside0.mk (G0.out.trans hg)
       clear hs hg)
    | (go_at_call 19; refine (num19 _ _).mono ?_; rintro e w2 ⟨rfl, rfl⟩))
  go_ret
  exact ⟨rfl, L1, S1.out, G1.out⟩
set_option maxHeartbeats 2000000 in
set_option maxRecDepth 100000 in
theorem does_7 {w : World} {L : Lay} {m : PSt} (h : St w L none2 m) (hk : Ok m) (kind id key v n : Int) (ho : OkStp ⟨kind, id, key, v, n⟩) (hdl : m.done.length < 5000000000000) (hkd : kind = 7) :
    Calls Tryd.prog 15 #[.pointer (some ⟨L.p, 0, none⟩), .agg #[.int .i64 kind, .int .i64 id, .int .i64 key, .int .u64 v, .int .i64 n]] w fun e w' => e = .returned (.int .i64 (m.stepE ⟨kind, id, key, v, n⟩)) ∧ ∃ L', St w' L' none2 (m.step ⟨kind, id, key, v, n⟩) ∧ Goes w L w' L' := by
  have B0 := Aside0.mk (below_alloc (Below.refl w.heap.size w) (.cells #[.int .i64 kind, .int .i64 id, .int .i64 key, .int .u64 v, .int .i64 n] 51))
  have HA := Aside0.mk (h.below B0.out)
  have G0 := Aside0.mk (Goes.of_below (L := L) B0.out)
  have HK := Aside0.mk hk
  have HI := Aside0.mk (show (Lit.int .i64 id).wf = true from ho.id)
  have HY := Aside0.mk (show (Lit.int .i64 key).wf = true from ho.key)
  have HN := Aside0.mk (show (Lit.int .i64 n).wf = true from ho.n)
  have HDL := Aside0.mk hdl
  clear h hk ho hdl
  subst hkd
  go_enter Tryd.func15, Tryd.ntmps15
  go_wp2_with (first
    | (go_at_call 29; refine (check29 HA.out HK.out n HN.out).mono ?_; rintro e w1 ⟨rfl, L1, hs, hg⟩
       have S1 := Aside0.mk hs
       have G1 := Aside0.mk (G0.out.trans hg)
       clear hs hg)
    | (go_at_call 19; refine (num19 _ _).mono ?_; rintro e w2 ⟨rfl, rfl⟩))
  go_ret
  exact ⟨rfl, L1, S1.out, G1.out⟩
set_option maxHeartbeats 2000000 in
set_option maxRecDepth 100000 in
theorem does_8 {w : World} {L : Lay} {m : PSt} (h : St w L none2 m) (hk : Ok m) (kind id key v n : Int) (ho : OkStp ⟨kind, id, key, v, n⟩) (hdl : m.done.length < 5000000000000) (hkd : kind = 8) :
    Calls Tryd.prog 15 #[.pointer (some ⟨L.p, 0, none⟩), .agg #[.int .i64 kind, .int .i64 id, .int .i64 key, .int .u64 v, .int .i64 n]] w fun e w' => e = .returned (.int .i64 (m.stepE ⟨kind, id, key, v, n⟩)) ∧ ∃ L', St w' L' none2 (m.step ⟨kind, id, key, v, n⟩) ∧ Goes w L w' L' := by
  have B0 := Aside0.mk (below_alloc (Below.refl w.heap.size w) (.cells #[.int .i64 kind, .int .i64 id, .int .i64 key, .int .u64 v, .int .i64 n] 51))
  have HA := Aside0.mk (h.below B0.out)
  have G0 := Aside0.mk (Goes.of_below (L := L) B0.out)
  have HK := Aside0.mk hk
  have HI := Aside0.mk (show (Lit.int .i64 id).wf = true from ho.id)
  have HY := Aside0.mk (show (Lit.int .i64 key).wf = true from ho.key)
  have HN := Aside0.mk (show (Lit.int .i64 n).wf = true from ho.n)
  have HDL := Aside0.mk hdl
  clear h hk ho hdl
  subst hkd
  go_enter Tryd.func15, Tryd.ntmps15
  go_wp2_with (first
    | (go_at_call 30; refine (renew30 HA.out).mono ?_; rintro e w1 ⟨rfl, L1, hs, hg⟩
       have S1 := Aside0.mk hs
       have G1 := Aside0.mk (G0.out.trans hg)
       clear hs hg)
    | (go_at_call 19; refine (num19 _ _).mono ?_; rintro e w2 ⟨rfl, rfl⟩))
  go_ret
  exact ⟨rfl, L1, S1.out, G1.out⟩
set_option maxHeartbeats 2000000 in
set_option maxRecDepth 100000 in
theorem does_0 {w : World} {L : Lay} {m : PSt} (h : St w L none2 m) (hk : Ok m) (kind id key v n : Int) (ho : OkStp ⟨kind, id, key, v, n⟩) (hdl : m.done.length < 5000000000000) (k1 : ¬ (kind = 1)) (k2 : ¬ (kind = 2)) (k3 : ¬ (kind = 3)) (k4 : ¬ (kind = 4)) (k5 : ¬ (kind = 5)) (k6 : ¬ (kind = 6)) (k7 : ¬ (kind = 7)) (k8 : ¬ (kind = 8)) :
    Calls Tryd.prog 15 #[.pointer (some ⟨L.p, 0, none⟩), .agg #[.int .i64 kind, .int .i64 id, .int .i64 key, .int .u64 v, .int .i64 n]] w fun e w' => e = .returned (.int .i64 (m.stepE ⟨kind, id, key, v, n⟩)) ∧ ∃ L', St w' L' none2 (m.step ⟨kind, id, key, v, n⟩) ∧ Goes w L w' L' := by
  have B0 := Aside0.mk (below_alloc (Below.refl w.heap.size w) (.cells #[.int .i64 kind, .int .i64 id, .int .i64 key, .int .u64 v, .int .i64 n] 51))
  have HA := Aside0.mk (h.below B0.out)
  have G0 := Aside0.mk (Goes.of_below (L := L) B0.out)
  have HK := Aside0.mk hk
  have HI := Aside0.mk (show (Lit.int .i64 id).wf = true from ho.id)
  have HY := Aside0.mk (show (Lit.int .i64 key).wf = true from ho.key)
  have HN := Aside0.mk (show (Lit.int .i64 n).wf = true from ho.n)
  have HDL := Aside0.mk hdl
  clear h hk ho hdl
  have HR := Aside0.mk (show m.stepE ⟨kind, id, key, v, n⟩ = 0 ∧ m.step ⟨kind, id, key, v, n⟩ = m from by unfold PSt.stepE PSt.step; dsimp only; rw [if_neg k1, if_neg k2, if_neg k3, if_neg k4, if_neg k5, if_neg k6, if_neg k7, if_neg k8, if_neg k1, if_neg k2, if_neg k3, if_neg k4, if_neg k5, if_neg k6, if_neg k7, if_neg k8]; exact ⟨rfl, rfl⟩)
  rw [HR.out.1, HR.out.2]
  have b1 : (kind == 1) = false := beq_eq_false_iff_ne.mpr k1
  have b2 : (kind == 2) = false := beq_eq_false_iff_ne.mpr k2
  have b3 : (kind == 3) = false := beq_eq_false_iff_ne.mpr k3
  have b4 : (kind == 4) = false := beq_eq_false_iff_ne.mpr k4
  have b5 : (kind == 5) = false := beq_eq_false_iff_ne.mpr k5
  have b6 : (kind == 6) = false := beq_eq_false_iff_ne.mpr k6
  have b7 : (kind == 7) = false := beq_eq_false_iff_ne.mpr k7
  have b8 : (kind == 8) = false := beq_eq_false_iff_ne.mpr k8
  go_enter Tryd.func15, Tryd.ntmps15
  go_wp2
  go_ret
  exact ⟨rfl, L, HA.out, G0.out⟩
theorem does15 {w : World} {L : Lay} {m : PSt} (h : St w L none2 m) (hk : Ok m) (o : Stp) (ho : OkStp o) (hdl : m.done.length < 5000000000000) :
    Calls Tryd.prog 15 #[.pointer (some ⟨L.p, 0, none⟩), stpV o] w fun e w' => e = .returned (.int .i64 (m.stepE o)) ∧ ∃ L', St w' L' none2 (m.step o) ∧ Goes w L w' L' := by
  obtain ⟨kind, id, key, v, n⟩ := o
  show Calls Tryd.prog 15 #[.pointer (some ⟨L.p, 0, none⟩), .agg #[.int .i64 kind, .int .i64 id, .int .i64 key, .int .u64 v, .int .i64 n]] w _
  by_cases k1 : kind = 1
  · exact does_1 h hk kind id key v n ho hdl k1
  by_cases k2 : kind = 2
  · exact does_2 h hk kind id key v n ho hdl k2
  by_cases k3 : kind = 3
  · exact does_3 h hk kind id key v n ho hdl k3
  by_cases k4 : kind = 4
  · exact does_4 h hk kind id key v n ho hdl k4
  by_cases k5 : kind = 5
  · exact does_5 h hk kind id key v n ho hdl k5
  by_cases k6 : kind = 6
  · exact does_6 h hk kind id key v n ho hdl k6
  by_cases k7 : kind = 7
  · exact does_7 h hk kind id key v n ho hdl k7
  by_cases k8 : kind = 8
  · exact does_8 h hk kind id key v n ho hdl k8
  exact does_0 h hk kind id key v n ho hdl k1 k2 k3 k4 k5 k6 k7 k8
theorem Ok.step {m : PSt} (h : Ok m) (o : Stp) (ho : OkStp o) : Ok (m.step o) := by
  unfold PSt.step
  by_cases k1 : o.kind = 1
  · rw [if_pos k1]; exact h.begin_ _
  rw [if_neg k1]
  by_cases k2 : o.kind = 2
  · rw [if_pos k2]; exact h.get _ _
  rw [if_neg k2]
  by_cases k3 : o.kind = 3
  · rw [if_pos k3]; exact h.changed _ _ ho.v
  rw [if_neg k3]
  by_cases k4 : o.kind = 4
  · rw [if_pos k4]; exact h.delete _ _
  rw [if_neg k4]
  by_cases k5 : o.kind = 5
  · rw [if_pos k5]; exact h.commit _
  rw [if_neg k5]
  by_cases k6 : o.kind = 6
  · rw [if_pos k6]; exact h.abort _
  rw [if_neg k6]
  by_cases k7 : o.kind = 7
  · rw [if_pos k7]; exact h.check _
  rw [if_neg k7]
  by_cases k8 : o.kind = 8
  · rw [if_pos k8]; exact h.renew
  rw [if_neg k8]; exact h
end Go.Proofs.YtcdfdckdodgbpaaDoor.QA

/-! TNew -/
namespace Go.Proofs.YtcdfdckdodgbpaaDoor.QA
open Go.RowKit Go.Maps Go.Proofs.YtcdfdckdodgbpaaDoorW.PrintWords Go.Proofs.YtcdfdckdodgbpaaDoorW.PrintLast Go.Proofs.YtcdfdckdodgbpaaDoorW.PrintMore
set_option linter.unusedVariables false
set_option linter.unusedSimpArgs false
def newM (c0 c1 c2 c3 c4 c5 : Int) : PSt := { pages := c0, slots := c1, log := c2, frames := c3, table := c4, keys := c5, opn := [], left := List.replicate c0.toNat [], used := 0, done := [] }
theorem newM_ok {c0 c1 c2 c3 c4 c5 : Int} (h0 : 1 ≤ c0 ∧ c0 ≤ 16) (h1 : 1 ≤ c1 ∧ c1 ≤ 8) (h2 : 1024 ≤ c2 ∧ c2 ≤ 65536) (h4 : 1 ≤ c4 ∧ c4 ≤ 8) (h5 : 1 ≤ c5 ∧ c5 ≤ 1048576) : Ok (newM c0 c1 c2 c3 c4 c5) where
  pages := h0
  slots := h1
  log := h2
  table := h4
  keys := h5
  up := Up.nil
  txn := fun id t h => by cases h
  size := by show (0 : Int) ≤ c4; omega
  left := by show ((List.replicate c0.toNat ([] : Con)).length : Int) = c0; rw [List.length_replicate]; omega
  page := fun i c h => by
    have h6 : (List.replicate c0.toNat ([] : Con))[i]? = some c := h
    rw [List.getElem?_replicate] at h6
    by_cases h7 : i < c0.toNat
    · rw [if_pos h7] at h6
      injection h6 with h6
      subst h6
      exact ⟨Up.nil, by show (0 : Int) ≤ c1; omega, fun p hp => (by cases hp), fun p hp => (by cases hp)⟩
    · rw [if_neg h7] at h6; cases h6
  used := Int.le_refl _
  room := by show (0 : Int) + 0 ≤ c2; omega
  lock := fun id t id' t' pg h => by cases h
def Lay.first (p ob gl : Nat) : Lay :=
  { role := fun k => if k = 0 then .glob else if k = p then .state else if k = ob then .openM else if k = gl then .leftA else .out
    p := p, ob := ob, gl := gl, tb := fun _ => 0, pb := fun _ => 0, cb := fun _ _ => 0, lb := fun _ => none }
theorem leftV_first (p ob gl n : Nat) : madeCells #[.map none] n = leftV (Lay.first p ob gl) n := by
  apply Array.ext'
  rw [toList_madeCells_one]
  unfold leftV Lay.first lbV
  apply List.ext_getElem?
  intro i
  by_cases hi : i < n
  · simp [hi]
  · simp [hi]
theorem St.first {w : World} {p ob gl : Nat} {c0 c1 c2 c3 c4 c5 : Int} (hp : w.heap[p]? = some (.cells #[.int .i64 c0, .int .i64 c1, .int .i64 c2, .int .i64 c3, .int .i64 c4, .int .i64 c5, .map (some ob), .slice (some ⟨gl, 0, none⟩) c0.toNat c0.toNat, .int .i64 0, .slice none 0 0] 76 (0, 0)))
    (ho : OM Tryd.prog ptrS w ob []) (hg : w.heap[gl]? = some (.cells (madeCells #[.map none] c0.toNat) 59 (0, 0))) (h0 : 0 < p ∧ 0 < ob ∧ 0 < gl) (h1 : ob ≠ p ∧ gl ≠ p ∧ gl ≠ ob) (g0 : Glob w) : St w (Lay.first p ob gl) none2 (newM c0 c1 c2 c3 c4 c5) := by
  obtain ⟨p0, o0, l0⟩ := h0
  obtain ⟨n1, n2, n3⟩ := h1
  have hlen : (newM c0 c1 c2 c3 c4 c5).left.length = c0.toNat := List.length_replicate
  have rp : (Lay.first p ob gl).role p = .state := by show (if p = 0 then _ else if p = p then _ else _) = _; rw [if_neg (by omega), if_pos rfl]
  have ro : (Lay.first p ob gl).role ob = .openM := by show (if ob = 0 then _ else if ob = p then _ else if ob = ob then _ else _) = _; rw [if_neg (by omega), if_neg n1, if_pos rfl]
  have rg : (Lay.first p ob gl).role gl = .leftA := by show (if gl = 0 then _ else if gl = p then _ else if gl = ob then _ else if gl = gl then _ else _) = _; rw [if_neg (by omega), if_neg n2, if_neg n3, if_pos rfl]
  refine ⟨⟨.slice none 0 0, ?_⟩, fun id t h => by cases h⟩
  refine ⟨?_, Kd.R_nil _ _ _ _ _, rp, ro, rg, ho, ?_, fun i c hi => .inl ⟨rfl, ?_⟩, fun k hk => ?_, g0, rfl⟩
  · unfold stCells
    rw [hlen]
    exact hp
  · rw [hlen, ← leftV_first]
    exact hg
  · have h6 : (List.replicate c0.toNat ([] : Con))[i]? = some c := hi
    rw [List.getElem?_replicate] at h6
    by_cases h7 : i < c0.toNat
    · rw [if_pos h7] at h6
      injection h6 with h6
      exact h6.symm
    · rw [if_neg h7] at h6; cases h6
  · have h2 := blk_lt hp
    have h3 := blk_lt hg
    have h4 := ho.lt
    show (if k = 0 then _ else if k = p then _ else if k = ob then _ else if k = gl then _ else _) = _
    rw [if_neg (by omega), if_neg (by omega), if_neg (by omega), if_neg (by omega)]
theorem infoM : (Tryd.prog.info? 59).map (fun i => (i.zero, i.size, i.bytes)) = some (some (.map none), 1, 8) := by kernel_rfl
theorem makeLeft (n : Int) (hn : 0 ≤ n ∧ n ≤ 16) (w : World) : (Instr.makeSlice 74 (.int .i64 n) (.int .i64 n)).run Tryd.prog w = .ok (.slice (some ⟨w.heap.size, 0, none⟩) n.toNat n.toNat) (w.alloc (.cells (madeCells #[.map none] n.toNat) 59)) := by
  obtain ⟨i, hi, hz⟩ := Option.map_eq_some_iff.1 infoM
  simp only [Prod.mk.injEq] at hz
  obtain ⟨h1, h2, h3⟩ := hz
  have h := run_make (P := Tryd.prog) w 74 59 i (.map none) Tryd.underlying74 hi h1 .i64 .i64 n n hn.1 (Int.le_refl _) (by rw [h3]; omega) (by omega)
  rw [h2, Nat.mul_one] at h
  exact h
theorem three_new (W : World) (a b c : Obj) : (((W.alloc a).alloc b).alloc c).heap[W.heap.size]? = some a ∧ (((W.alloc a).alloc b).alloc c).heap[W.heap.size + 1]? = some b ∧ (((W.alloc a).alloc b).alloc c).heap[W.heap.size + 1 + 1]? = some c ∧ Below W.heap.size W (((W.alloc a).alloc b).alloc c) := by
  have s1 : (W.alloc a).heap.size = W.heap.size + 1 := by simp
  have s2 : ((W.alloc a).alloc b).heap.size = W.heap.size + 1 + 1 := by simp
  refine ⟨?_, ?_, ?_, below_alloc (below_alloc (below_alloc (Below.refl W.heap.size W) a) b) c⟩
  · rw [lt_alloc (by omega), lt_alloc (by omega)]; exact heap_alloc_new W a
  · rw [lt_alloc (by omega), ← s1]; exact heap_alloc_new _ b
  · rw [← s2]; exact heap_alloc_new _ c
theorem OM.at_new {W : World} {s : Shape Nat} {b : Nat} (h : W.heap[b]? = some (.map #[] 0)) : OM Tryd.prog s W b [] := by
  have h0 : ∃ V : World, V.heap[b]? = some (.map #[] 0) ∧ OM Tryd.prog s V b [] := by
    refine ⟨{ W with heap := (W.heap.extract 0 b).push (.map #[] 0) }, ?_, ?_⟩
    · have hlt := blk_lt h
      simp [Array.getElem?_push]
      omega
    · have hlt := blk_lt h
      have h1 := OM.made (P := Tryd.prog) { W with heap := W.heap.extract 0 b } s
      have h2 : ({ W with heap := W.heap.extract 0 b } : World).heap.size = b := by simp; omega
      rw [h2] at h1
      exact h1
  obtain ⟨V, h1, h2⟩ := h0
  exact h2.block (by rw [h, h1])
theorem new_fin {w W0 W1 : World} (B0 : Below w.heap.size w W0) (G : Glob w) {c0 c1 c2 c3 c4 c5 : Int} {ob gl : Nat} (hb : Below W0.heap.size W0 W1)
    (hp : W1.heap[W0.heap.size + 1 + 1]? = some (.cells #[.int .i64 c0, .int .i64 c1, .int .i64 c2, .int .i64 c3, .int .i64 c4, .int .i64 c5, .map (some ob), .slice (some ⟨gl, 0, none⟩) c0.toNat c0.toNat, .int .i64 0, .slice none 0 0] 76 (0, 0)))
    (ho : W1.heap[ob]? = some (.map #[] 0)) (hg : W1.heap[gl]? = some (.cells (madeCells #[.map none] c0.toNat) 59 (0, 0))) (hn : (ob = W0.heap.size ∧ gl = W0.heap.size + 1) ∨ (gl = W0.heap.size ∧ ob = W0.heap.size + 1)) :
    w.heap.size ≤ W0.heap.size + 1 + 1 ∧ Below w.heap.size w W1 ∧ ∃ L : Lay, L.p = W0.heap.size + 1 + 1 ∧ St W1 L none2 (newM c0 c1 c2 c3 c4 c5) ∧ ∀ k, 0 < k → k < w.heap.size → L.role k = .out := by
  have h1 := B0.size
  have h2 := G.lt
  have hbb := B0.trans (hb.mono B0.size)
  refine ⟨by omega, hbb, Lay.first (W0.heap.size + 1 + 1) ob gl, rfl, St.first hp (OM.at_new ho) hg ⟨by omega, by omega, by omega⟩ ⟨by omega, by omega, by omega⟩ (G.below hbb), fun k hk hk2 => ?_⟩
  show (if k = 0 then _ else if k = W0.heap.size + 1 + 1 then _ else if k = ob then _ else if k = gl then _ else _) = _
  rw [if_neg (by omega), if_neg (by omega), if_neg (by omega), if_neg (by omega)]
set_option maxHeartbeats 4000000 in
set_option maxRecDepth 100000 in
theorem new17 {w : World} (hg : Glob w) (c0 c1 c2 c3 c4 c5 : Int) (h0 : 1 ≤ c0 ∧ c0 ≤ 16) (h1 : 1 ≤ c1 ∧ c1 ≤ 8) (h2 : 1024 ≤ c2 ∧ c2 ≤ 65536) (h3 : 2 ≤ c3 ∧ c3 ≤ 16) (h4 : 1 ≤ c4 ∧ c4 ≤ 8) (h5 : 1 ≤ c5 ∧ c5 ≤ 1048576) :
    Calls Tryd.prog 17 #[.agg #[.int .i64 c0, .int .i64 c1, .int .i64 c2, .int .i64 c3, .int .i64 c4, .int .i64 c5]] w fun e w' => ∃ p, e = .returned (.tuple #[.pointer (some ⟨p, 0, none⟩), .int .i64 0]) ∧ w.heap.size ≤ p ∧ Below w.heap.size w w' ∧
      ∃ L : Lay, L.p = p ∧ St w' L none2 (newM c0 c1 c2 c3 c4 c5) ∧ ∀ k, 0 < k → k < w.heap.size → L.role k = .out := by
  have hmm := @run_makeMap Tryd.prog
  have hms := makeLeft c0 (by omega)
  have G := Aside0.mk hg
  have d0 : decide (1 ≤ c0 ∧ c0 ≤ 16) = true := decide_eq_true h0
  have d1 : decide (1 ≤ c1 ∧ c1 ≤ 8) = true := decide_eq_true h1
  have d2 : decide (1024 ≤ c2 ∧ c2 ≤ 65536) = true := decide_eq_true h2
  have d3 : decide (2 ≤ c3 ∧ c3 ≤ 16) = true := decide_eq_true h3
  have d4 : decide (1 ≤ c4 ∧ c4 ≤ 8) = true := decide_eq_true h4
  have d5 : decide (1 ≤ c5 ∧ c5 ≤ 1048576) = true := decide_eq_true h5
  clear hg h0 h1 h2 h3 h4 h5
  go_enter Tryd.func17, Tryd.ntmps17
  go_upto_region 4 with (first
    | (go_at_call 33; refine (within33 _ _ _ _).mono ?_; rintro e w1 ⟨rfl, rfl⟩; rw [d0])
    | ((with_reducible refine gate_dst (N := 14) rfl ?_); refine gate_guard rfl ?_; refine goesL_ (some 14) rfl rfl Tryd.func33 (by kernel_rfl) rfl #[.int .i64 c1, .int .i64 1, .int .i64 8] rfl (by (try simp only [List.map_toArray, List.map_cons, List.map_nil]); first | done | rfl) ?_; refine (within33 _ _ _ _).mono ?_; rintro e w1 ⟨rfl, rfl⟩; rw [d1]; refine ⟨_, rfl, ?_⟩)
    | ((with_reducible refine gate_dst (N := 20) rfl ?_); refine gate_guard rfl ?_; refine goesL_ (some 20) rfl rfl Tryd.func33 (by kernel_rfl) rfl #[.int .i64 c2, .int .i64 1024, .int .i64 65536] rfl (by (try simp only [List.map_toArray, List.map_cons, List.map_nil]); first | done | rfl) ?_; refine (within33 _ _ _ _).mono ?_; rintro e w1 ⟨rfl, rfl⟩; rw [d2]; refine ⟨_, rfl, ?_⟩)
    | ((with_reducible refine gate_dst (N := 26) rfl ?_); refine gate_guard rfl ?_; refine goesL_ (some 26) rfl rfl Tryd.func33 (by kernel_rfl) rfl #[.int .i64 c3, .int .i64 2, .int .i64 16] rfl (by (try simp only [List.map_toArray, List.map_cons, List.map_nil]); first | done | rfl) ?_; refine (within33 _ _ _ _).mono ?_; rintro e w1 ⟨rfl, rfl⟩; rw [d3]; refine ⟨_, rfl, ?_⟩)
    | ((with_reducible refine gate_dst (N := 32) rfl ?_); refine gate_guard rfl ?_; refine goesL_ (some 32) rfl rfl Tryd.func33 (by kernel_rfl) rfl #[.int .i64 c4, .int .i64 1, .int .i64 8] rfl (by (try simp only [List.map_toArray, List.map_cons, List.map_nil]); first | done | rfl) ?_; refine (within33 _ _ _ _).mono ?_; rintro e w1 ⟨rfl, rfl⟩; rw [d4]; refine ⟨_, rfl, ?_⟩)
    | ((with_reducible refine gate_dst (N := 38) rfl ?_); refine gate_guard rfl ?_; refine goesL_ (some 38) rfl rfl Tryd.func33 (by kernel_rfl) rfl #[.int .i64 c5, .int .i64 1, .int .i64 1048576] rfl (by (try simp only [List.map_toArray, List.map_cons, List.map_nil]); first | done | rfl) ?_; refine (within33 _ _ _ _).mono ?_; rintro e w1 ⟨rfl, rfl⟩; rw [d5]; refine ⟨_, rfl, ?_⟩))
  obtain ⟨W0, hW0⟩ : ∃ W0, W0 = ((w.alloc (Obj.cells #[Value.int IntKind.i64 c0, Value.int IntKind.i64 c1, Value.int IntKind.i64 c2, Value.int IntKind.i64 c3, Value.int IntKind.i64 c4, Value.int IntKind.i64 c5] 39)).alloc (Obj.cells #[Value.int IntKind.i64 c0, Value.int IntKind.i64 c1, Value.int IntKind.i64 c2] 37)) := ⟨_, rfl⟩
  rw [← hW0]
  have B0 := Aside0.mk (show Below w.heap.size w W0 from by rw [hW0]; exact below_alloc (below_alloc (Below.refl w.heap.size w) _) _)
  have K0 : W0.heap[w.heap.size]? = some (.cells #[.int .i64 c0, .int .i64 c1, .int .i64 c2, .int .i64 c3, .int .i64 c4, .int .i64 c5] 39 (0, 0)) := by
    rw [hW0, lt_alloc (by simp)]
    exact heap_alloc_new w _
  have K1 : W0.heap[w.heap.size + 1]? = some (.cells #[.int .i64 c0, .int .i64 c1, .int .i64 c2] 37 (0, 0)) := by
    rw [hW0]
    have h1 := heap_alloc_new (w.alloc (Obj.cells #[Value.int IntKind.i64 c0, Value.int IntKind.i64 c1, Value.int IntKind.i64 c2, Value.int IntKind.i64 c3, Value.int IntKind.i64 c4, Value.int IntKind.i64 c5] 39)) (Obj.cells #[Value.int IntKind.i64 c0, Value.int IntKind.i64 c1, Value.int IntKind.i64 c2] 37)
    simpa using h1
  have y0 : W0.cell? ⟨w.heap.size, 0, none⟩ = some (.int .i64 c0) := blk_cell K0 0
  have y1 : W0.cell? ⟨w.heap.size, 1, none⟩ = some (.int .i64 c1) := blk_cell K0 1
  have y2 : W0.cell? ⟨w.heap.size, 2, none⟩ = some (.int .i64 c2) := blk_cell K0 2
  have y3 : W0.cell? ⟨w.heap.size, 3, none⟩ = some (.int .i64 c3) := blk_cell K0 3
  have y4 : W0.cell? ⟨w.heap.size, 4, none⟩ = some (.int .i64 c4) := blk_cell K0 4
  have y5 : W0.cell? ⟨w.heap.size, 5, none⟩ = some (.int .i64 c5) := blk_cell K0 5
  have y6 : W0.cell? ⟨w.heap.size + 1, 0, none⟩ = some (.int .i64 c0) := blk_cell K1 0
  clear K0 K1 hW0 d0 d1 d2 d3 d4 d5
  have ka : ∀ (w1 : World) (o : Obj), (w1.cell? ⟨w.heap.size, 0, none⟩ = some (.int .i64 c0) ∧ w1.cell? ⟨w.heap.size, 1, none⟩ = some (.int .i64 c1) ∧ w1.cell? ⟨w.heap.size, 2, none⟩ = some (.int .i64 c2) ∧ w1.cell? ⟨w.heap.size, 3, none⟩ = some (.int .i64 c3) ∧ w1.cell? ⟨w.heap.size, 4, none⟩ = some (.int .i64 c4) ∧ w1.cell? ⟨w.heap.size, 5, none⟩ = some (.int .i64 c5) ∧ w1.cell? ⟨w.heap.size + 1, 0, none⟩ = some (.int .i64 c0)) → (w1.alloc o).cell? ⟨w.heap.size, 0, none⟩ = some (.int .i64 c0) ∧ (w1.alloc o).cell? ⟨w.heap.size, 1, none⟩ = some (.int .i64 c1) ∧ (w1.alloc o).cell? ⟨w.heap.size, 2, none⟩ = some (.int .i64 c2) ∧ (w1.alloc o).cell? ⟨w.heap.size, 3, none⟩ = some (.int .i64 c3) ∧ (w1.alloc o).cell? ⟨w.heap.size, 4, none⟩ = some (.int .i64 c4) ∧ (w1.alloc o).cell? ⟨w.heap.size, 5, none⟩ = some (.int .i64 c5) ∧ (w1.alloc o).cell? ⟨w.heap.size + 1, 0, none⟩ = some (.int .i64 c0) := fun w1 o ⟨a0, a1, a2, a3, a4, a5, a6⟩ => ⟨pw_cell_below (below_alloc (Below.refl _ w1) o) a0, pw_cell_below (below_alloc (Below.refl _ w1) o) a1, pw_cell_below (below_alloc (Below.refl _ w1) o) a2, pw_cell_below (below_alloc (Below.refl _ w1) o) a3, pw_cell_below (below_alloc (Below.refl _ w1) o) a4, pw_cell_below (below_alloc (Below.refl _ w1) o) a5, pw_cell_below (below_alloc (Below.refl _ w1) o) a6⟩
  have kd : ∀ (w1 : World), (w1.cell? ⟨w.heap.size, 0, none⟩ = some (.int .i64 c0) ∧ w1.cell? ⟨w.heap.size, 1, none⟩ = some (.int .i64 c1) ∧ w1.cell? ⟨w.heap.size, 2, none⟩ = some (.int .i64 c2) ∧ w1.cell? ⟨w.heap.size, 3, none⟩ = some (.int .i64 c3) ∧ w1.cell? ⟨w.heap.size, 4, none⟩ = some (.int .i64 c4) ∧ w1.cell? ⟨w.heap.size, 5, none⟩ = some (.int .i64 c5) ∧ w1.cell? ⟨w.heap.size + 1, 0, none⟩ = some (.int .i64 c0)) → w1.drew.cell? ⟨w.heap.size, 0, none⟩ = some (.int .i64 c0) ∧ w1.drew.cell? ⟨w.heap.size, 1, none⟩ = some (.int .i64 c1) ∧ w1.drew.cell? ⟨w.heap.size, 2, none⟩ = some (.int .i64 c2) ∧ w1.drew.cell? ⟨w.heap.size, 3, none⟩ = some (.int .i64 c3) ∧ w1.drew.cell? ⟨w.heap.size, 4, none⟩ = some (.int .i64 c4) ∧ w1.drew.cell? ⟨w.heap.size, 5, none⟩ = some (.int .i64 c5) ∧ w1.drew.cell? ⟨w.heap.size + 1, 0, none⟩ = some (.int .i64 c0) := fun w1 h => h
  go_region_held3 (fun w' => w'.cell? ⟨w.heap.size, 0, none⟩ = some (.int .i64 c0) ∧ w'.cell? ⟨w.heap.size, 1, none⟩ = some (.int .i64 c1) ∧ w'.cell? ⟨w.heap.size, 2, none⟩ = some (.int .i64 c2) ∧ w'.cell? ⟨w.heap.size, 3, none⟩ = some (.int .i64 c3) ∧ w'.cell? ⟨w.heap.size, 4, none⟩ = some (.int .i64 c4) ∧ w'.cell? ⟨w.heap.size, 5, none⟩ = some (.int .i64 c5) ∧ w'.cell? ⟨w.heap.size + 1, 0, none⟩ = some (.int .i64 c0)) (((repeat (first | with_reducible refine kd _ ?_ | with_reducible refine ka _ _ ?_)); with_reducible exact ⟨y0, y1, y2, y3, y4, y5, y6⟩)) (first | fail)
  all_goals
    clear ka kd y0 y1 y2 y3 y4 y5 y6 hms hmm
    go_wp2
    go_ret2
  · obtain ⟨t1, t2, t3, t4⟩ := three_new W0 (.map #[] 0) (.cells (madeCells #[.map none] c0.toNat) 59) (.cells #[.int .i64 c0, .int .i64 c1, .int .i64 c2, .int .i64 c3, .int .i64 c4, .int .i64 c5, .map (some W0.heap.size), .slice (some ⟨W0.heap.size + 1, 0, none⟩) c0.toNat c0.toNat, .int .i64 0, .slice none 0 0] 76)
    exact ⟨_, rfl, new_fin B0.out G.out (t4.trans (below_drew (Below.refl _ _))) t3 t1 t2 (.inl ⟨rfl, rfl⟩)⟩
  · obtain ⟨t1, t2, t3, t4⟩ := three_new W0 (.cells (madeCells #[.map none] c0.toNat) 59) (.map #[] 0) (.cells #[.int .i64 c0, .int .i64 c1, .int .i64 c2, .int .i64 c3, .int .i64 c4, .int .i64 c5, .map (some (W0.heap.size + 1)), .slice (some ⟨W0.heap.size, 0, none⟩) c0.toNat c0.toNat, .int .i64 0, .slice none 0 0] 76)
    exact ⟨_, rfl, new_fin B0.out G.out (t4.trans (below_drew (Below.refl _ _))) t3 t2 t1 (.inr ⟨rfl, rfl⟩)⟩
end Go.Proofs.YtcdfdckdodgbpaaDoor.QA

/-! TAlive -/
namespace Go.Proofs.YtcdfdckdodgbpaaDoor.QA
open Go.RowKit Go.Maps Go.Proofs.YtcdfdckdodgbpaaDoorW.PrintWords Go.Proofs.YtcdfdckdodgbpaaDoorW.PrintLast Go.Proofs.YtcdfdckdodgbpaaDoorW.PrintMore
set_option linter.unusedVariables false
set_option linter.unusedSimpArgs false
theorem below_goes {w wA w1 : World} {L L1 : Lay} (hb : Below w.heap.size w wA) (hg : Goes wA L w1 L1) (hr : ∀ k, 0 < k → k < w.heap.size → L.role k = .out) (h0 : L.role 0 = .glob) : Below w.heap.size w w1 :=
  ⟨hg.mv.os.trans hb.os, hg.mv.tape.trans hb.tape, hg.mv.output.trans hb.output, Nat.le_trans hb.size hg.mv.size, fun k hk => (hg.mv.block k (Nat.lt_of_lt_of_le hk hb.size) (fun h => by
    by_cases e : k = 0
    · exact h.2 (e ▸ h0)
    · exact h.1 (hr k (by omega) hk))).trans (hb.block k hk)⟩
def mA : PSt := newM 2 2 1024 2 2 100
def mB : PSt := mA.begin_ 3
def mC : PSt := mB.changed 3 ⟨8, 5, false⟩
theorem aliveM : mA.beginE 3 = 0 ∧ mB.changedE 3 ⟨8, 5, false⟩ = 0 ∧ mC.beginE 3 = 160 ∧ mC.used = 90 ∧ mC.kept = 154 ∧ mC.getV 3 8 = 5 ∧ mC.getB 3 8 = true ∧ mC.askedE 3 8 = 0 ∧ (mC.get 3 8).endE 3 = 0 ∧ (mC.get 3 8).done.length = 0 := by
  refine ⟨?_, ?_, ?_, ?_, ?_, ?_, ?_, ?_, ?_, ?_⟩ <;> kernel_rfl
set_option maxHeartbeats 4000000 in
set_option maxRecDepth 100000 in
theorem alive7 {w : World} (hg : Glob w) : Calls Tryd.prog 7 #[] w fun e w' => e = .returned (.bool true) ∧ Below w.heap.size w w' := by
  have G := Aside0.mk hg
  have okA := Aside0.mk (show Ok mA from newM_ok (by omega) (by omega) (by omega) (by omega) (by omega))
  have okB := Aside0.mk (show Ok mB from okA.out.begin_ 3)
  have okC := Aside0.mk (show Ok mC from okB.out.changed 3 ⟨8, 5, false⟩ rfl)
  have okD := Aside0.mk (show Ok (mC.get 3 8) from okC.out.get 3 8)
  have A := Aside0.mk aliveM
  have a1 := Aside0.mk A.out.1
  have a2 := Aside0.mk A.out.2.1
  have a3 := Aside0.mk A.out.2.2.1
  have a4 := Aside0.mk A.out.2.2.2.1
  have a5 := Aside0.mk A.out.2.2.2.2.1
  have a6 := Aside0.mk A.out.2.2.2.2.2.1
  have a7 := Aside0.mk A.out.2.2.2.2.2.2.1
  have a8 := Aside0.mk A.out.2.2.2.2.2.2.2.1
  have a9 := Aside0.mk A.out.2.2.2.2.2.2.2.2.1
  have a10 := Aside0.mk (show (mC.get 3 8).done.length < 5000000000000 from by rw [A.out.2.2.2.2.2.2.2.2.2]; omega)
  have HB2 := Aside0.mk (show mC.begin_ 3 = mC from by unfold PSt.begin_; rw [a3.out, if_neg (by decide)])
  clear hg A
  go_enter Tryd.func7, Tryd.ntmps7
  go_wp2_with (first
    | (go_at_call 18; refine (tidemarklaw18_small.calls 2 2 1024 2 2 100 _ rfl).mono ?_; rintro e w1 ⟨rfl, hb⟩
       have B1 := Aside0.mk hb
       clear hb)
    | (go_at_call 17; refine (new17 (G.out.below B1.out) 2 2 1024 2 2 100 (by omega) (by omega) (by omega) (by omega) (by omega) (by omega)).mono ?_; rintro e w2 ⟨p, rfl, hp, hb, L, rfl, hs, hr⟩
       have B2 := Aside0.mk (B1.out.trans (hb.mono B1.out.size))
       have S2 := Aside0.mk (show St w2 L none2 mA from hs)
       have RR := Aside0.mk (show ∀ k, 0 < k → k < w.heap.size → L.role k = .out from fun k hk hk2 => hr k hk (Nat.lt_of_lt_of_le hk2 B1.out.size))
       have R0 := Aside0.mk (show L.role 0 = .glob from hs.c.elim fun _ c => c.r0)
       obtain ⟨ps, hps⟩ : ∃ ps, ps = L.p := ⟨_, rfl⟩
       have HP := Aside0.mk hps
       rw [← hps]
       clear hp hb hs hr hps)
    | ((with_reducible refine gate_dst (N := 17) rfl ?_); refine gate_guard rfl ?_; refine goesL_ (some 17) rfl rfl Tryd.func19 (by kernel_rfl) rfl #[.int .i64 0] rfl (by (try simp only [List.map_toArray, List.map_cons, List.map_nil]); first | done | rfl) ?_; refine (num19 _ _).mono ?_; rintro e w3 ⟨rfl, rfl⟩; refine ⟨_, rfl, ?_⟩)
    | ((with_reducible refine gate_dst (N := 22) rfl ?_); refine gate_guard rfl ?_; refine goesL_ (some 22) rfl rfl Tryd.func20 (by kernel_rfl) rfl #[.pointer (some ⟨ps, 0, none⟩), .int .i64 3] rfl (by (try simp only [List.map_toArray, List.map_cons, List.map_nil]); first | done | rfl) ?_
       rw [HP.out]
       refine (begin20 S2.out okA.out 3 rfl).mono ?_; rintro e w4 ⟨rfl, L4, hs, hg⟩
       rw [a1.out, ← HP.out]
       have S4 := Aside0.mk (show St w4 L4 none2 mB from hs)
       have G4 := Aside0.mk hg
       clear hs hg
       refine ⟨_, rfl, ?_⟩)
    | ((with_reducible refine gate_dst (N := 23) rfl ?_); refine gate_guard rfl ?_; refine goesL_ (some 23) rfl rfl Tryd.func19 (by kernel_rfl) rfl #[.int .i64 0] rfl (by (try simp only [List.map_toArray, List.map_cons, List.map_nil]); first | done | rfl) ?_; refine (num19 _ _).mono ?_; rintro e w5 ⟨rfl, rfl⟩; refine ⟨_, rfl, ?_⟩)
    | ((with_reducible refine gate_dst (N := 28) rfl ?_); refine gate_guard rfl ?_; refine goesL_ (some 28) rfl rfl Tryd.func21 (by kernel_rfl) rfl #[.pointer (some ⟨ps, 0, none⟩), .int .i64 3, .int .i64 8, .int .u64 5] rfl (by (try simp only [List.map_toArray, List.map_cons, List.map_nil]); first | done | rfl) ?_
       rw [HP.out, ← G4.out.p]
       refine (put21 S4.out okB.out 3 8 5 rfl rfl).mono ?_; rintro e w6 ⟨rfl, L6, hs, hg⟩
       rw [a2.out, G4.out.p, ← HP.out]
       have S6 := Aside0.mk (show St w6 L6 none2 mC from hs)
       have G6 := Aside0.mk (G4.out.trans hg)
       clear hs hg
       refine ⟨_, rfl, ?_⟩)
    | ((with_reducible refine gate_dst (N := 29) rfl ?_); refine gate_guard rfl ?_; refine goesL_ (some 29) rfl rfl Tryd.func19 (by kernel_rfl) rfl #[.int .i64 0] rfl (by (try simp only [List.map_toArray, List.map_cons, List.map_nil]); first | done | rfl) ?_; refine (num19 _ _).mono ?_; rintro e w7 ⟨rfl, rfl⟩; refine ⟨_, rfl, ?_⟩)
    | ((with_reducible refine gate_dst (N := 34) rfl ?_); refine gate_guard rfl ?_; refine goesL_ (some 34) rfl rfl Tryd.func20 (by kernel_rfl) rfl #[.pointer (some ⟨ps, 0, none⟩), .int .i64 3] rfl (by (try simp only [List.map_toArray, List.map_cons, List.map_nil]); first | done | rfl) ?_
       rw [HP.out, ← G6.out.p]
       refine (begin20 S6.out okC.out 3 rfl).mono ?_; rintro e w8 ⟨rfl, L8, hs, hg⟩
       rw [a3.out, G6.out.p, ← HP.out]
       rw [HB2.out] at hs
       have S8 := Aside0.mk hs
       have G8 := Aside0.mk (G6.out.trans hg)
       clear hs hg
       refine ⟨_, rfl, ?_⟩)
    | ((with_reducible refine gate_dst (N := 35) rfl ?_); refine gate_guard rfl ?_; refine goesL_ (some 35) rfl rfl Tryd.func19 (by kernel_rfl) rfl #[.int .i64 160] rfl (by (try simp only [List.map_toArray, List.map_cons, List.map_nil]); first | done | rfl) ?_; refine (num19 _ _).mono ?_; rintro e w9 ⟨rfl, rfl⟩; refine ⟨_, rfl, ?_⟩)
    | (go_at_call 13; rw [HP.out, ← G8.out.p]; refine (used13 S8.out okC.out).mono ?_; rintro e w10 ⟨rfl, hb⟩
       rw [a4.out, a5.out, G8.out.p, ← HP.out]
       have S10 := Aside0.mk (S8.out.below hb)
       have G10 := Aside0.mk (G8.out.trans (Goes.of_below (L := L8) hb))
       clear hb)
    | (go_at_call 22; rw [HP.out, ← G10.out.p]; refine (get_ok S10.out okC.out 3 8 rfl rfl a8.out).mono ?_; rintro e w11 ⟨rfl, L11, hs, hg⟩
       rw [a6.out, a7.out, G10.out.p, ← HP.out]
       have S11 := Aside0.mk hs
       have G11 := Aside0.mk (G10.out.trans hg)
       clear hs hg)
    | ((with_reducible refine gate_dst (N := 64) rfl ?_); refine gate_guard rfl ?_; refine goesL_ (some 64) rfl rfl Tryd.func19 (by kernel_rfl) rfl #[.int .i64 0] rfl (by (try simp only [List.map_toArray, List.map_cons, List.map_nil]); first | done | rfl) ?_; refine (num19 _ _).mono ?_; rintro e w12 ⟨rfl, rfl⟩; refine ⟨_, rfl, ?_⟩)
    | ((with_reducible refine gate_dst (N := 69) rfl ?_); refine gate_guard rfl ?_; refine goesL_ (some 69) rfl rfl Tryd.func23 (by kernel_rfl) rfl #[.pointer (some ⟨ps, 0, none⟩), .int .i64 3] rfl (by (try simp only [List.map_toArray, List.map_cons, List.map_nil]); first | done | rfl) ?_
       rw [HP.out, ← G11.out.p]
       refine (commit23 S11.out okD.out 3 rfl a10.out).mono ?_; rintro e w13 ⟨rfl, L13, hs, hg⟩
       rw [a9.out, G11.out.p, ← HP.out]
       have G13 := Aside0.mk (G11.out.trans hg)
       clear hs hg
       refine ⟨_, rfl, ?_⟩)
    | ((with_reducible refine gate_dst (N := 70) rfl ?_); refine gate_guard rfl ?_; refine goesL_ (some 70) rfl rfl Tryd.func19 (by kernel_rfl) rfl #[.int .i64 0] rfl (by (try simp only [List.map_toArray, List.map_cons, List.map_nil]); first | done | rfl) ?_; refine (num19 _ _).mono ?_; rintro e w14 ⟨rfl, rfl⟩; refine ⟨_, rfl, ?_⟩))
  go_ret
  exact ⟨rfl, below_goes B2.out G13.out RR.out R0.out⟩
end Go.Proofs.YtcdfdckdodgbpaaDoor.QA

/-! TPlay -/
namespace Go.Proofs.YtcdfdckdodgbpaaDoor.QA
open Go.RowKit Go.Maps Go.Proofs.YtcdfdckdodgbpaaDoorW.PrintWords Go.Proofs.YtcdfdckdodgbpaaDoorW.PrintLast Go.Proofs.YtcdfdckdodgbpaaDoorW.PrintMore
set_option linter.unusedVariables false
set_option linter.unusedSimpArgs false
open Go.Deep Go.ChangeShapes Go.WideShapes Go.Opens
def kStp : Kd Stp := Kd.iso (Kd.pair (Kd.int .i64) (Kd.pair (Kd.int .i64) (Kd.pair (Kd.int .i64) (Kd.pair (Kd.int .u64) (Kd.int .i64))))) (fun x : Stp => (x.kind, x.id, x.key, x.v, x.n))
theorem kStp_open {w : World} {x : Stp} {cs : List Value} (h : kStp.K w x cs) : cs = [.int .i64 x.kind, .int .i64 x.id, .int .i64 x.key, .int .u64 x.v, .int .i64 x.n] := by
  obtain ⟨_, _, rfl, rfl, ⟨_, _, rfl, rfl, ⟨_, _, rfl, rfl, ⟨_, _, rfl, rfl, rfl⟩⟩⟩⟩ := h
  exact rfl
def zStp : Stp := ⟨0, 0, 0, 0, 0⟩
def rdStp (xs : List Stp) (i : Int) : Stp := xs.getD i.toNat zStp
theorem at_Stp {w : World} {A : Option Addr} {n : Nat} {xs : List Stp} (h : Kd.C kStp w A n xs) (i : Int) (h0 : 0 ≤ i) (h1 : i < n) : ∃ ad , A = some ad ∧ w.cell? (ad.add (i.toNat * 5)) = some (.int .i64 (rdStp xs i).kind) ∧ w.cell? ⟨(ad.add (i.toNat * 5)).block, (ad.add (i.toNat * 5)).off + 1, none⟩ = some (.int .i64 (rdStp xs i).id) ∧
    w.cell? ⟨(ad.add (i.toNat * 5)).block, (ad.add (i.toNat * 5)).off + 2, none⟩ = some (.int .i64 (rdStp xs i).key) ∧ w.cell? ⟨(ad.add (i.toNat * 5)).block, (ad.add (i.toNat * 5)).off + 3, none⟩ = some (.int .u64 (rdStp xs i).v) ∧ w.cell? ⟨(ad.add (i.toNat * 5)).block, (ad.add (i.toNat * 5)).off + 4, none⟩ = some (.int .i64 (rdStp xs i).n) := by
  obtain ⟨ad, c, e, _, hK, hc0⟩ := Kd.C_get h zStp i h0 h1
  have hc : ∀ j u, c[j]? = some u → w.cell? (ad.add (i.toNat * 5 + j)) = some u := hc0
  obtain rfl := kStp_open hK
  exact ⟨ad, e, hc 0 _ rfl, by rw [← add_field _ _ 1 (by omega)]; exact hc 1 _ rfl, by rw [← add_field _ _ 2 (by omega)]; exact hc 2 _ rfl, by rw [← add_field _ _ 3 (by omega)]; exact hc 3 _ rfl, by rw [← add_field _ _ 4 (by omega)]; exact hc 4 _ rfl⟩
section
variable {H : Type} {enc : TypeId × Value → H} {w : World} {base : Nat} {spare : Nat → Bool} {held : Bool}
theorem opens_u : Opens enc Tryd.prog w base spare held 49 (Kd.iso (Kd.int .u64) (Subtype.val : { n : Int // (Lit.int .u64 n).wf = true } → Int)) := by
  intro fuel cs x h
  obtain ⟨n, rfl, _, hw⟩ := DataW.trod_int Tryd.underlying49 h
  exact ⟨⟨n, hw⟩, rfl⟩
theorem openStp : OpensQ enc Tryd.prog w base spare held 51 kStp (fun _ x => OkStp x) := by
  intro fuel cs x h
  have hi := opens_w (enc := enc) (w := w) (base := base) (spare := spare) (held := held)
  have hu := opens_u (enc := enc) (w := w) (base := base) (spare := spare) (held := held)
  obtain ⟨a0, s0⟩ := field Tryd.underlying51 h 0 0 (by kernel_rfl) (by kernel_rfl) hi
  obtain ⟨a1, s1⟩ := field Tryd.underlying51 h 1 1 (by kernel_rfl) (by kernel_rfl) hi
  obtain ⟨a2, s2⟩ := field Tryd.underlying51 h 2 2 (by kernel_rfl) (by kernel_rfl) hi
  obtain ⟨a3, s3⟩ := field Tryd.underlying51 h 3 3 (by kernel_rfl) (by kernel_rfl) hu
  obtain ⟨a4, s4⟩ := field Tryd.underlying51 h 4 4 (by kernel_rfl) (by kernel_rfl) hi
  have t0 : Seg (Kd.int .i64) w cs 0 a0.val := s0
  have t1 : Seg (Kd.int .i64) w cs 1 a1.val := s1
  have t2 : Seg (Kd.int .i64) w cs 2 a2.val := s2
  have t3 : Seg (Kd.int .u64) w cs 3 a3.val := s3
  have t4 : Seg (Kd.int .i64) w cs 4 a4.val := s4
  refine ⟨⟨a0.val, a1.val, a2.val, a3.val, a4.val⟩, Seg.whole ((struct_len Tryd.underlying51 h).trans (by kernel_rfl)) ?_, ⟨a1.2, a2.2, a3.2, a4.2⟩⟩
  exact Seg.iso (Seg.pair t0 (Seg.pair t1 (Seg.pair t2 (Seg.pair t3 t4))))
theorem openScript : OpensQ enc Tryd.prog w base spare held 40 (Kd.slice 51 kStp) (fun D xs => xs.length ≤ Rows.uptoBulk D ∧ ∀ x ∈ xs, OkStp x) := by
  intro fuel cs x h
  obtain ⟨xs, hk, hq⟩ := opensQ_slice Tryd.underlying40 (d := kStp) (by kernel_rfl) openStp fuel cs x h
  refine ⟨xs, hk, ?_⟩
  rcases hq with rfl | ⟨elems, sp, he, hl, hall⟩
  · exact ⟨Nat.zero_le _, fun x hx => by cases hx⟩
  · rw [he]
    refine ⟨?_, fun y hy => ?_⟩
    · have h1 := length_le elems
      have h2 := bulk_slice elems sp
      omega
    · obtain ⟨i, hi⟩ := List.mem_iff_getElem?.1 hy
      obtain ⟨D', _, h2⟩ := hall i y hi
      exact h2
end
/-- A Config: six whole numbers. -/
abbrev Cfg := (Int × Int × Int) × Int × Int × Int
def kSh : Kd (Int × Int × Int) := Kd.pair (Kd.int .i64) (Kd.pair (Kd.int .i64) (Kd.int .i64))
def kCfg : Kd Cfg := Kd.pair kSh (Kd.pair (Kd.int .i64) (Kd.pair (Kd.int .i64) (Kd.int .i64)))
theorem cfg_cells {w : World} {x : Cfg} {cs : List Value} (h : kCfg.K w x cs) : cs = [.int .i64 x.1.1, .int .i64 x.1.2.1, .int .i64 x.1.2.2, .int .i64 x.2.1, .int .i64 x.2.2.1, .int .i64 x.2.2.2] := by
  obtain ⟨_, _, rfl, ⟨_, _, rfl, rfl, ⟨_, _, rfl, rfl, rfl⟩⟩, ⟨_, _, rfl, rfl, ⟨_, _, rfl, rfl, rfl⟩⟩⟩ := h
  exact rfl
section
variable {H : Type} {enc : TypeId × Value → H} {w : World} {base : Nat} {spare : Nat → Bool} {held : Bool}
theorem openSh : Opens enc Tryd.prog w base spare held 37 kSh := by
  intro fuel cs x h
  have hi := opens_int (enc := enc) (w := w) (base := base) (spare := spare) (held := held) Tryd.underlying3
  obtain ⟨a0, s0⟩ := field Tryd.underlying37 h 0 0 (by kernel_rfl) (by kernel_rfl) hi
  obtain ⟨a1, s1⟩ := field Tryd.underlying37 h 1 1 (by kernel_rfl) (by kernel_rfl) hi
  obtain ⟨a2, s2⟩ := field Tryd.underlying37 h 2 2 (by kernel_rfl) (by kernel_rfl) hi
  exact ⟨⟨a0, a1, a2⟩, Seg.whole ((struct_len Tryd.underlying37 h).trans (by kernel_rfl)) (Seg.pair s0 (Seg.pair s1 s2))⟩
theorem openCfg : Opens enc Tryd.prog w base spare held 39 kCfg := by
  intro fuel cs x h
  have hi := opens_int (enc := enc) (w := w) (base := base) (spare := spare) (held := held) Tryd.underlying3
  obtain ⟨a0, s0⟩ := field Tryd.underlying39 h 0 0 (by kernel_rfl) (by kernel_rfl) openSh
  obtain ⟨a1, s1⟩ := field Tryd.underlying39 h 1 3 (by kernel_rfl) (by kernel_rfl) hi
  obtain ⟨a2, s2⟩ := field Tryd.underlying39 h 2 4 (by kernel_rfl) (by kernel_rfl) hi
  obtain ⟨a3, s3⟩ := field Tryd.underlying39 h 3 5 (by kernel_rfl) (by kernel_rfl) hi
  exact ⟨⟨a0, a1, a2, a3⟩, Seg.whole ((struct_len Tryd.underlying39 h).trans (by kernel_rfl)) (Seg.pair s0 (Seg.pair s1 (Seg.pair s2 s3)))⟩
end
theorem done_changed (m : PSt) (id : Int) (x : Chg) : (m.changed id x).done = m.done := by
  unfold PSt.changed
  split
  · rfl
  · split
    · rfl
    · split
      · split
        · rfl
        · unfold PSt.over; rfl
      · rfl
theorem done_get (m : PSt) (id key : Int) : (m.get id key).done = m.done := by
  unfold PSt.get
  split <;> rfl
theorem done_step (m : PSt) (o : Stp) : (m.step o).done.length ≤ m.done.length + 1 := by
  unfold PSt.step
  split
  · unfold PSt.begin_; split <;> simp
  split
  · rw [done_get]; omega
  split
  · rw [done_changed]; omega
  split
  · unfold PSt.delete
    split
    · rw [done_changed, done_get]; omega
    · rw [done_get]; omega
  split
  · unfold PSt.commit PSt.over
    split <;> simp
  split
  · unfold PSt.abort PSt.over
    split <;> simp
  split
  · unfold PSt.check; split <;> simp
  split
  · unfold PSt.renew; split <;> simp
  · omega
def PSt.run (m : PSt) (l : List Stp) : PSt := l.foldl PSt.step m
theorem run_snoc (m : PSt) (l : List Stp) (i : Nat) (hi : i < l.length) : m.run (l.take (i + 1)) = (m.run (l.take i)).step l[i] := by
  unfold PSt.run
  rw [List.take_succ_eq_append_getElem hi, List.foldl_append]
  rfl
theorem Ok.run {m : PSt} (h : Ok m) : ∀ (l : List Stp), (∀ o ∈ l, OkStp o) → Ok (m.run l) := by
  intro l
  induction l generalizing m with
  | nil => intro _; exact h
  | cons a r ih => intro hl; exact ih (h.step a (hl a (List.mem_cons_self ..))) (fun o ho => hl o (List.mem_cons_of_mem _ ho))
theorem done_run (m : PSt) : ∀ (l : List Stp), (m.run l).done.length ≤ m.done.length + l.length := by
  intro l
  induction l generalizing m with
  | nil => exact Nat.le_refl _
  | cons a r ih =>
    have h1 := ih (m.step a)
    have h2 := done_step m a
    rw [List.length_cons]
    exact Nat.le_trans h1 (by omega)
set_option maxHeartbeats 4000000 in
set_option maxRecDepth 100000 in
theorem played12 {w : World} (hg : Glob w) (c0 c1 c2 c3 c4 c5 : Int) (h0 : 1 ≤ c0 ∧ c0 ≤ 16) (h1 : 1 ≤ c1 ∧ c1 ≤ 8) (h2 : 1024 ≤ c2 ∧ c2 ≤ 65536) (h3 : 2 ≤ c3 ∧ c3 ≤ 16) (h4 : 1 ≤ c4 ∧ c4 ≤ 8) (h5 : 1 ≤ c5 ∧ c5 ≤ 1048576)
    {A : Option Addr} {cap : Nat} {l : List Stp} (hC : Kd.C kStp w A l.length l) (hcap : l.length ≤ cap) (hl : l.length < 1000000000000) (ho : ∀ o ∈ l, OkStp o) :
    Calls Tryd.prog 12 #[.agg #[.int .i64 c0, .int .i64 c1, .int .i64 c2, .int .i64 c3, .int .i64 c4, .int .i64 c5], .slice A l.length cap] w fun e w' => ∃ p, e = .returned (.pointer (some ⟨p, 0, none⟩)) ∧ Below w.heap.size w w' ∧
      ∃ L : Lay, L.p = p ∧ St w' L none2 ((newM c0 c1 c2 c3 c4 c5).run l) ∧ ∀ k, 0 < k → k < w.heap.size → L.role k = .out := by
  have B0 := Aside0.mk (below_alloc (Below.refl w.heap.size w) (.cells #[.int .i64 c0, .int .i64 c1, .int .i64 c2, .int .i64 c3, .int .i64 c4, .int .i64 c5] 39))
  have HNEW := Aside0.mk (new17 (hg.below B0.out) c0 c1 c2 c3 c4 c5 h0 h1 h2 h3 h4 h5)
  have OK0 := Aside0.mk (newM_ok h0 h1 h2 h4 h5 : Ok (newM c0 c1 c2 c3 c4 c5))
  have HD0 := Aside0.mk (show (newM c0 c1 c2 c3 c4 c5).done.length = 0 from rfl)
  obtain ⟨m0, hm0⟩ : ∃ m0, m0 = newM c0 c1 c2 c3 c4 c5 := ⟨_, rfl⟩
  rw [← hm0] at HNEW OK0 HD0 ⊢
  have HC := Aside0.mk hC
  have HLL := Aside0.mk hl
  have HO := Aside0.mk ho
  clear hg h0 h1 h2 h3 h4 h5 hm0 hC hcap hl ho
  go_enter Tryd.func12, Tryd.ntmps12
  go_wp2_with (first
    | (go_at_call 17; refine HNEW.out.mono ?_; rintro e w1 ⟨p, rfl, hp, hb, L, hlp, hs, hr⟩
       have B1 := Aside0.mk (B0.out.trans (hb.mono B0.out.size))
       have S1 := Aside0.mk hs
       have RR := Aside0.mk (show ∀ k, 0 < k → k < w.heap.size → L.role k = .out from fun k hk hk2 => hr k hk (Nat.lt_of_lt_of_le hk2 B0.out.size))
       have R0 := Aside0.mk (show L.role 0 = .glob from hs.c.elim fun _ c => c.r0)
       have HLP := Aside0.mk hlp
       clear hp hb hs hr hlp)
    | ((with_reducible refine gate_dst (N := 17) rfl ?_); refine gate_guard rfl ?_; refine goesL_ (some 17) rfl rfl Tryd.func19 (by kernel_rfl) rfl #[.int .i64 0] rfl (by (try simp only [List.map_toArray, List.map_cons, List.map_nil]); first | done | rfl) ?_; refine (num19 _ _).mono ?_; rintro e w3 ⟨rfl, rfl⟩; refine ⟨_, rfl, ?_⟩))
  go_loopg [7] l.length (fun kq v7 wr => ∃ (i : Nat) (Lr : Lay), v7 = .int .i64 (i : Int) ∧ Aside0 (i + kq = l.length) ∧ Aside0 (St wr Lr none2 (m0.run (l.take i))) ∧ Aside0 (Goes w1 L wr Lr))
  case atStart => exact ⟨0, L, rfl, ⟨by omega⟩, S1, ⟨Goes.refl _ _⟩⟩
  case round =>
    obtain ⟨i, Lr, rfl, hik, hS, hG⟩ := hrel
    clear S1
    obtain ⟨Ws, hWs, hS⟩ : ∃ W, W = _ ∧ Aside0 (St W Lr none2 (m0.run (l.take i))) := ⟨_, rfl, hS⟩
    subst hWs
    cases gk with
    | zero =>
      obtain rfl : i = l.length := hik.out
      have hd1 : ¬ ((l.length : Int) < (l.length : Int)) := by omega
      rw [List.take_length] at hS
      go_wp2
      go_ret
      exact ⟨p, rfl, below_goes B1.out hG.out RR.out R0.out, Lr, hG.out.p.trans HLP.out, hS.out, fun k hk hk2 => hG.out.out k (Nat.lt_of_lt_of_le hk2 B1.out.size) (RR.out k hk hk2)⟩
    | succ kr =>
      have hi0 : i < l.length := by have := hik.out; omega
      have hi1 : (i : Int) < (l.length : Int) := by omega
      have hi2 : (0 : Int) ≤ (i : Int) := by omega
      have hbW := below_goes B1.out hG.out RR.out R0.out
      obtain ⟨ad, e0, y0, y1, y2, y3, y4⟩ := at_Stp (Kd.C_below HC.out hbW) (i : Int) (by omega) hi1
      subst e0
      obtain ⟨o, hoe⟩ : ∃ o, o = l[i] := ⟨_, rfl⟩
      have hrd : rdStp l (i : Int) = o := by rw [hoe]; unfold rdStp; simp [hi0]
      rw [Int.toNat_natCast, hrd] at y0 y1 y2 y3 y4
      have HS := Aside0.mk (show m0.run (l.take (i + 1)) = (m0.run (l.take i)).step o from by rw [hoe]; exact run_snoc m0 l i hi0)
      have HOS := Aside0.mk (show OkStp o from by rw [hoe]; exact HO.out _ (List.getElem_mem hi0))
      have HOK := Aside0.mk (OK0.out.run (l.take i) (fun o ho => HO.out o (List.mem_of_mem_take ho)))
      have HDL := Aside0.mk (show (m0.run (l.take i)).done.length < 5000000000000 from by have h1 := done_run m0 (l.take i); rw [HD0.out, List.length_take] at h1; have := HLL.out; omega)
      have hw2 : IntKind.i64.wrap ((i : Int) + 1) = ((i + 1 : Nat) : Int) := wrp (by omega) (by have := HLL.out; omega)
      obtain ⟨mi, hmi⟩ : ∃ mi, mi = m0.run (l.take i) := ⟨_, rfl⟩
      rw [← hmi] at HS HOK HDL hS
      clear hoe hrd hbW hmi
      obtain ⟨ok, oi, oy, ov, on⟩ := o
      dsimp only at y0 y1 y2 y3 y4
      go_wp2_with (first
        | (go_at_call 15; have C15 := does15 hS.out HOK.out ⟨ok, oi, oy, ov, on⟩ HOS.out HDL.out; rw [hG.out.p.trans HLP.out] at C15; refine C15.mono ?_; clear C15; rintro e w4 ⟨rfl, L4, hs, hg⟩
           have S4 := Aside0.mk hs
           have G4 := Aside0.mk (hG.out.trans hg)
           clear hs hg y0 y1 y2 y3 y4))
      go_roundg kr
      case measure => omega
      case rel => exact ⟨i + 1, L4, rfl, ⟨by have := hik.out; omega⟩, ⟨by rw [HS.out]; exact S4.out⟩, G4⟩
end Go.Proofs.YtcdfdckdodgbpaaDoor.QA

/-! PureSums -/
namespace Go.Proofs.YtcdfdckdodgbpaaDoor.QA
open Go.RowKit Go.Maps Go.Proofs.YtcdfdckdodgbpaaDoorW.PrintWords Go.Proofs.YtcdfdckdodgbpaaDoorW.PrintLast Go.Proofs.YtcdfdckdodgbpaaDoorW.PrintMore
set_option linter.unusedVariables false
set_option linter.unusedSimpArgs false
structure Same (m m' : PSt) : Prop where
  used : m'.used = m.used
  kept : m'.kept = m.kept
  len : m'.opn.length = m.opn.length
theorem Same.refl (m : PSt) : Same m m := ⟨rfl, rfl, rfl⟩
theorem same_get {m : PSt} (h : Ok m) (id key : Int) : Same m (m.get id key) := by
  unfold PSt.get
  by_cases hE : m.askedE id key = 0
  · rw [if_pos hE]
    obtain ⟨t, hl⟩ := (askedE_ok hE).1
    rw [Ok.txn_look hl]
    refine ⟨rfl, ?_, length_put_some h.up hl _⟩
    have h1 := keptL_put h.up hl (t' := t.hold (key.tmod m.pages) (m.con id (key.tmod m.pages)))
    have h2 : keepsT (t.hold (key.tmod m.pages) (m.con id (key.tmod m.pages))) = keepsT t := rfl
    show keptL (put m.opn id _) = keptL m.opn
    omega
  · rw [if_neg hE]; exact Same.refl m
/-- What a step says of the sums. -/
structure Sums (m m' : PSt) (o : Stp) (e : Int) : Prop where
  other : e ≠ 0 → e ≠ 170 → Same m m'
  log : e = 170 → o.kind ≠ 3 → o.kind ≠ 4 → Same m m'
  over : e = 170 → (o.kind = 3 ∨ o.kind = 4) → (m'.opn.length : Int) = (m.opn.length : Int) - 1 ∧ m.used < m'.used ∧ m'.kept < m.kept
theorem asked_not170 (m : PSt) (id key : Int) : m.askedE id key ≠ 170 := by
  unfold PSt.askedE
  split
  · omega
  · split
    · omega
    · split <;> omega
theorem changed_sums {m : PSt} (h : Ok m) (id : Int) (x : Chg) : (m.changedE id x ≠ 0 → m.changedE id x ≠ 170 → m.changed id x = m) ∧ (m.changedE id x = 170 → ((m.changed id x).opn.length : Int) = (m.opn.length : Int) - 1 ∧ m.used < (m.changed id x).used ∧ (m.changed id x).kept < m.kept) := by
  by_cases hE : m.askedE id x.f0 = 0
  · obtain ⟨t, hl⟩ := (askedE_ok hE).1
    cases hF : m.full id x with
    | true =>
      have h1 : m.changedE id x = 42 := by unfold PSt.changedE; rw [if_neg (by simp [hE]), hF, if_pos rfl]
      have h2 : m.changed id x = m := by unfold PSt.changed; rw [if_neg (by simp [hE]), hF, if_pos rfl]
      rw [h1, h2]
      exact ⟨fun _ _ => rfl, fun h => by omega⟩
    | false =>
      by_cases hn : 0 < m.lenC id x
      · cases hf : m.fits (updated (m.lenC id x)) (undone (m.lenC id x)) with
        | true =>
          have h1 : m.changedE id x = 0 := by unfold PSt.changedE; rw [if_neg (by simp [hE]), hF, if_neg (by simp), if_neg (by rw [hf]; simp)]
          rw [h1]
          exact ⟨fun h => absurd rfl h, fun h => by omega⟩
        | false =>
          have h1 : m.changedE id x = 170 := by unfold PSt.changedE; rw [if_neg (by simp [hE]), hF, if_neg (by simp), if_pos ⟨hn, hf⟩]
          have h2 : m.changed id x = m.over id true := by unfold PSt.changed; rw [if_neg (by simp [hE]), hF, if_neg (by simp), if_pos hn, hf, if_neg (by simp)]
          rw [h1, h2]
          refine ⟨fun _ h => absurd rfl h, fun _ => ?_⟩
          have h1 := length_del_some h.up hl
          have h2 := keptL_del h.up hl
          have h3 := keepsT_pos (fun n hn => ((h.txn id t hl).len n hn).1)
          have h4 := sumU_nonneg (fun n hn => ((h.txn id t hl).len n hn).1)
          unfold PSt.over
          rw [if_pos rfl, Ok.txn_look hl]
          refine ⟨?_, ?_, ?_⟩
          · show ((del m.opn id).length : Int) = _; omega
          · show m.used < m.used + 66 + sumU t.lengths; omega
          · show keptL (del m.opn id) < keptL m.opn; omega
      · have h1 : m.changedE id x = 0 := by unfold PSt.changedE; rw [if_neg (by simp [hE]), hF, if_neg (by simp), if_neg (fun h => hn h.1)]
        rw [h1]
        exact ⟨fun h => absurd rfl h, fun h => by omega⟩
  · have h1 : m.changedE id x = m.askedE id x.f0 := by unfold PSt.changedE; rw [if_pos hE]
    have h2 : m.changed id x = m := by unfold PSt.changed; rw [if_pos hE]
    rw [h1, h2]
    exact ⟨fun _ _ => rfl, fun h => absurd h (asked_not170 m id x.f0)⟩
theorem end_sums (m : PSt) (id : Int) (u : Bool) : (m.endE id ≠ 0 → (if m.endE id = 0 then m.over id u else m) = m) ∧ m.endE id ≠ 170 := by
  refine ⟨fun h => if_neg h, ?_⟩
  unfold PSt.endE
  split <;> omega
theorem step_sums {m : PSt} (h : Ok m) (o : Stp) : Sums m (m.step o) o (m.stepE o) := by
  unfold PSt.step PSt.stepE
  by_cases k1 : o.kind = 1
  · rw [if_pos k1, if_pos k1]
    have hb : m.beginE o.id ≠ 0 → m.begin_ o.id = m := fun hb => by unfold PSt.begin_; rw [if_neg hb]
    refine ⟨fun h1 _ => ?_, fun h1 _ _ => ?_, fun _ h2 => by omega⟩
    · rw [hb h1]; exact Same.refl m
    · rw [hb (by omega)]; exact Same.refl m
  rw [if_neg k1, if_neg k1]
  by_cases k2 : o.kind = 2
  · rw [if_pos k2, if_pos k2]
    exact ⟨fun _ _ => same_get h _ _, fun _ _ _ => same_get h _ _, fun _ h2 => by omega⟩
  rw [if_neg k2, if_neg k2]
  by_cases k3 : o.kind = 3
  · rw [if_pos k3, if_pos k3]
    have hs := changed_sums h o.id ⟨o.key, o.v, false⟩
    exact ⟨fun h1 h2 => by rw [hs.1 h1 h2]; exact Same.refl m, fun _ h2 => absurd k3 h2, fun h1 _ => hs.2 h1⟩
  rw [if_neg k3, if_neg k3]
  by_cases k4 : o.kind = 4
  · rw [if_pos k4, if_pos k4]
    have hg := same_get h o.id o.key
    have hs := changed_sums (h.get o.id o.key) o.id ⟨o.key, 0, true⟩
    by_cases hE : m.askedE o.id o.key = 0
    · rw [delE_zero hE]
      unfold PSt.delete
      cases hb : m.getB o.id o.key with
      | false => exact ⟨fun h1 => absurd rfl h1, fun h1 => absurd h1 (by simp), fun h1 => absurd h1 (by simp)⟩
      | true =>
        show Sums m ((m.get o.id o.key).changed o.id ⟨o.key, 0, true⟩) o ((m.get o.id o.key).changedE o.id ⟨o.key, 0, true⟩)
        refine ⟨fun h1 h2 => by rw [hs.1 h1 h2]; exact hg, fun _ _ h2 => absurd k4 h2, fun h1 _ => ?_⟩
        have h3 := hs.2 h1
        rw [hg.used, hg.kept, hg.len] at h3
        exact h3
    · have hb : m.getB o.id o.key = false := by unfold PSt.getB; rw [if_neg hE]
      have h1 : m.delE o.id o.key = m.askedE o.id o.key := by unfold PSt.delE; rw [if_pos hE]
      have h2 : m.delete o.id o.key = m.get o.id o.key := by unfold PSt.delete; rw [hb, if_neg (by simp)]
      rw [h1, h2]
      exact ⟨fun _ _ => hg, fun _ _ _ => hg, fun h1 => absurd h1 (asked_not170 _ _ _)⟩
  rw [if_neg k4, if_neg k4]
  by_cases k5 : o.kind = 5
  · rw [if_pos k5, if_pos k5]
    have he := end_sums m o.id false
    exact ⟨fun h1 _ => by show Same m (if m.endE o.id = 0 then m.over o.id false else m); rw [he.1 h1]; exact Same.refl m, fun h1 => absurd h1 he.2, fun h1 => absurd h1 he.2⟩
  rw [if_neg k5, if_neg k5]
  by_cases k6 : o.kind = 6
  · rw [if_pos k6, if_pos k6]
    have he := end_sums m o.id true
    exact ⟨fun h1 _ => by show Same m (if m.endE o.id = 0 then m.over o.id true else m); rw [he.1 h1]; exact Same.refl m, fun h1 => absurd h1 he.2, fun h1 => absurd h1 he.2⟩
  rw [if_neg k6, if_neg k6]
  by_cases k7 : o.kind = 7
  · rw [if_pos k7, if_pos k7]
    have hb : m.checkE o.n ≠ 0 → m.check o.n = m := fun hb => by unfold PSt.check; rw [if_neg hb]
    refine ⟨fun h1 _ => ?_, fun h1 _ _ => ?_, fun _ h2 => by omega⟩
    · rw [hb h1]; exact Same.refl m
    · rw [hb (by omega)]; exact Same.refl m
  rw [if_neg k7, if_neg k7]
  by_cases k8 : o.kind = 8
  · rw [if_pos k8, if_pos k8]
    have hb : m.renewE ≠ 0 → m.renew = m := fun hb => by unfold PSt.renew; rw [if_neg hb]
    refine ⟨fun h1 _ => ?_, fun h1 _ _ => ?_, fun _ h2 => by omega⟩
    · rw [hb h1]; exact Same.refl m
    · rw [hb (by omega)]; exact Same.refl m
  rw [if_neg k8, if_neg k8]
  exact ⟨fun h1 => absurd rfl h1, fun h1 => by omega, fun h1 => by omega⟩
/-- What holds of the sums at each step. -/
theorem ok_sums {m : PSt} (h : Ok m) : m.used + m.kept ≤ m.log ∧ 0 ≤ m.used ∧ 99 * (m.opn.length : Int) ≤ m.kept ∧ ((m.opn.length : Int) = 0 ↔ m.kept = 0) ∧ (m.opn.length : Int) ≤ m.table := by
  have hk : 99 * (m.opn.length : Int) ≤ m.kept := by
    have : ∀ l : List (Int × Txn), (∀ q ∈ l, 99 ≤ keepsT q.2) → 99 * (l.length : Int) ≤ keptL l := by
      intro l
      induction l with
      | nil => intro _; simp [keptL]
      | cons a r ih =>
        intro hl
        have h1 := hl a (List.mem_cons_self ..)
        have h2 := ih (fun q hq => hl q (List.mem_cons_of_mem _ hq))
        unfold keptL at h2 ⊢
        rw [List.map_cons, List.sum_cons, List.length_cons]
        push_cast
        omega
    exact this m.opn (fun q hq => h.keep_nonneg q hq)
  refine ⟨h.room, h.used, hk, ⟨fun h0 => ?_, fun h0 => by omega⟩, h.size⟩
  have : m.opn = [] := List.length_eq_zero_iff.1 (by omega)
  show keptL m.opn = 0
  rw [this]
  rfl
theorem step_log (m : PSt) (o : Stp) : (m.step o).log = m.log ∧ (m.step o).table = m.table := by
  have hc : ∀ (m : PSt) (id : Int) (x : Chg), (m.changed id x).log = m.log ∧ (m.changed id x).table = m.table := by
    intro m id x
    unfold PSt.changed
    split
    · exact ⟨rfl, rfl⟩
    · split
      · exact ⟨rfl, rfl⟩
      · split
        · split
          · exact ⟨rfl, rfl⟩
          · unfold PSt.over; exact ⟨rfl, rfl⟩
        · exact ⟨rfl, rfl⟩
  have hg : ∀ (m : PSt) (id key : Int), (m.get id key).log = m.log ∧ (m.get id key).table = m.table := by
    intro m id key
    unfold PSt.get
    split <;> exact ⟨rfl, rfl⟩
  unfold PSt.step
  split
  · unfold PSt.begin_; split <;> exact ⟨rfl, rfl⟩
  split
  · exact hg _ _ _
  split
  · exact hc _ _ _
  split
  · unfold PSt.delete
    split
    · exact ⟨(hc _ _ _).1.trans (hg _ _ _).1, (hc _ _ _).2.trans (hg _ _ _).2⟩
    · exact hg _ _ _
  split
  · unfold PSt.commit PSt.over
    split <;> exact ⟨rfl, rfl⟩
  split
  · unfold PSt.abort PSt.over
    split <;> exact ⟨rfl, rfl⟩
  split
  · unfold PSt.check; split <;> exact ⟨rfl, rfl⟩
  split
  · unfold PSt.renew; split <;> exact ⟨rfl, rfl⟩
  · exact ⟨rfl, rfl⟩
end Go.Proofs.YtcdfdckdodgbpaaDoor.QA

/-! PureFold -/
namespace Go.Proofs.YtcdfdckdodgbpaaDoor.QA
open Go.RowKit Go.Maps Go.Proofs.YtcdfdckdodgbpaaDoorW.PrintWords Go.Proofs.YtcdfdckdodgbpaaDoorW.PrintLast Go.Proofs.YtcdfdckdodgbpaaDoorW.PrintMore
set_option linter.unusedVariables false
set_option linter.unusedSimpArgs false
def ents (c : Con) : List S71 := c.map fun p => ⟨p.1, p.2⟩
theorem ents_length (c : Con) : (ents c).length = c.length := by simp [ents]
def goF (a b : Int) : Con → Bool → Con
  | [], laid => if laid then [] else [(a, b)]
  | p :: r, laid => (if !laid && decide (a ≤ p.1) then [(a, b)] else []) ++ (if p.1 = a then [] else [p]) ++ goF a b r (laid || decide (a ≤ p.1))
theorem w64f {n : Nat} (h : n < 8796093022208) : wrap64 ((n : Int) + 1) = ((n + 1 : Nat) : Int) := by unfold wrap64; omega
theorem l2_go (x0 : List (List S57)) (c : Con) (i j a b : Int) (g : Bool) (hc : c.length < 8796093022208) : ∀ (rest : Con) (n : Nat) (nx : List S71) (laid : Bool) (k : Nat), c.drop n = rest → nx.length + 2 * rest.length + 1 < 8796093022208 →
    tidemarkref18_Fold.l2 (k + 2 * rest.length + 1) x0 (ents c) i j nx laid (n : Int) a b g = tidemarkref18_Fold.l1 k x0 (nx ++ ents (goF a b rest laid)) i (wrap64 (j + 1))
  | [], n, nx, laid, k, hd, hb => by
    have h1 : c.length ≤ n := List.drop_eq_nil_iff.1 hd
    rw [List.length_nil] at hb
    show tidemarkref18_Fold.l2 (k + 1) x0 (ents c) i j nx laid (n : Int) a b g = _
    unfold tidemarkref18_Fold.l2
    rw [if_neg (by rw [ents_length]; omega)]
    cases laid with
    | true => rw [if_pos rfl]; simp [goF, ents]
    | false => rw [if_neg (by simp), if_pos (by omega)]; simp [goF, ents]
  | p :: r, n, nx, laid, k, hd, hb => by
    have hn : n < c.length := by
      rcases Nat.lt_or_ge n c.length with h | h
      · exact h
      · rw [List.drop_eq_nil_iff.2 h] at hd; cases hd
    have hp : c[n] = p ∧ c.drop (n + 1) = r := by
      rw [List.drop_eq_getElem_cons hn] at hd
      injection hd with h1 h2
      exact ⟨h1, h2⟩
    have hrd : rd_T71 (ents c) (n : Int) = ⟨p.1, p.2⟩ := by
      unfold rd_T71 ents
      simp [hn, hp.1]
    have hw : wrap64 ((n : Int) + 1) = ((n + 1 : Nat) : Int) := w64f (by omega)
    rw [List.length_cons] at hb
    have ih := l2_go x0 c i j a b g hc r (n + 1)
    have hlt : (n : Int) < ((ents c).length : Int) := by rw [ents_length]; omega
    show tidemarkref18_Fold.l2 (k + 2 * r.length + 1 + 1 + 1) x0 (ents c) i j nx laid (n : Int) a b g = _
    unfold tidemarkref18_Fold.l2
    rw [if_pos hlt]
    cases laid with
    | true =>
      rw [if_pos rfl]
      unfold tidemarkref18_Fold.j3
      rw [if_neg (by simp), if_pos (by omega), if_pos hlt, hrd, hw]
      dsimp only
      by_cases e : p.1 = a
      · rw [if_pos e, ih nx true k hp.2 (by omega)]
        simp [goF, e]
      · rw [if_neg e, if_pos (by omega), ih _ true k hp.2 (by rw [List.length_append, List.length_singleton]; omega)]
        simp [goF, e, ents]
    | false =>
      rw [if_neg (by simp), if_pos (by omega), hrd]
      dsimp only
      unfold tidemarkref18_Fold.j3
      by_cases h : a ≤ p.1
      · rw [if_pos (by simpa using h), if_pos (by omega), Option.bind_some, if_pos (by omega), if_pos hlt, hrd, hw]
        dsimp only
        by_cases e : p.1 = a
        · rw [if_pos e, ih _ true k hp.2 (by rw [List.length_append, List.length_singleton]; omega)]
          simp [goF, e, ents]
        · rw [if_neg e, if_pos (by rw [List.length_append, List.length_singleton]; omega), ih (nx ++ [(⟨a, b⟩ : S71)] ++ [(⟨p.1, p.2⟩ : S71)]) true k hp.2 (by rw [List.length_append, List.length_append, List.length_singleton, List.length_singleton]; omega)]
          simp [goF, e, ents, h]
      · have e : ¬ p.1 = a := by omega
        rw [if_neg (by simpa using h), if_pos (by omega), if_pos hlt, hrd, hw]
        dsimp only
        have hnx : nx.length < 8796093022208 := by omega
        rw [if_neg e, if_pos hnx, ih _ false k hp.2 (by rw [List.length_append, List.length_singleton]; omega)]
        simp [goF, e, ents, h]
theorem goF_true (a b : Int) : ∀ c : Con, goF a b c true = del c a
  | [] => rfl
  | p :: r => by
    have ih := goF_true a b r
    unfold goF
    rw [Bool.true_or, ih]
    unfold del
    by_cases e : p.1 = a
    · simp [e]
    · have : (p.1 == a) = false := by simpa using e
      simp [e, this]
theorem insK_first {p : Int × Int} : ∀ {l : Con}, (∀ q ∈ l, p.1 < q.1) → insK p l = p :: l
  | [], _ => rfl
  | a :: r, h => by
    have h1 := h a (List.mem_cons_self ..)
    unfold insK
    rw [if_pos (by omega)]
theorem goF_false (a b : Int) : ∀ c : Con, Up c → goF a b c false = put c a b
  | [], _ => rfl
  | p :: r, h => by
    have h1 := List.pairwise_cons.1 h
    have ih := goF_false a b r h1.2
    unfold goF put
    rw [Bool.false_or]
    by_cases e : p.1 = a
    · have h2 : decide (a ≤ p.1) = true := by simp; omega
      rw [h2, goF_true]
      have hd : del (p :: r) a = del r a := by unfold del; simp [e]
      rw [hd, insK_first (fun q hq => by have := h1.1 q ((mem_del _ _ _).1 hq).1; dsimp only; omega)]
      simp [e]
    · have hd : del (p :: r) a = p :: del r a := by
        have : (p.1 == a) = false := by simpa using e
        unfold del; simp [this]
      rw [hd]
      by_cases h3 : a ≤ p.1
      · have h2 : decide (a ≤ p.1) = true := by simpa using h3
        rw [h2, goF_true, insK_first (fun q hq => by
          rcases List.mem_cons.1 hq with rfl | hq
          · dsimp only; omega
          · have := h1.1 q ((mem_del _ _ _).1 hq).1; dsimp only; omega)]
        simp [e]
      · have h2 : decide (a ≤ p.1) = false := by simpa using h3
        rw [h2, ih]
        rw [show insK (a, b) (p :: del r a) = p :: insK (a, b) (del r a) from by
          show (if a < p.1 then _ else _) = _
          rw [if_neg (by omega)]]
        simp [e, put]
theorem goF_app (x : Chg) (c : Con) (h : Up c) : goF x.f0 x.f1 c x.f2 = app c x := by
  unfold app
  cases hg : x.f2 with
  | true => rw [goF_true, if_pos rfl]
  | false => rw [goF_false _ _ _ h, if_neg (by simp)]
theorem Up.app {c : Con} (h : Up c) (x : Chg) : Up (QA.app c x) := by
  unfold QA.app
  cases x.f2 with
  | true => exact h.del _
  | false => exact h.put _ _
theorem app_length (c : Con) (x : Chg) : (app c x).length ≤ c.length + 1 := by
  unfold app
  cases x.f2 with
  | true => rw [if_pos rfl]; have : (del c x.f0).length ≤ c.length := List.length_filter_le _ _; omega
  | false => rw [if_neg (by simp)]; exact length_put_le _ _ _
def as57 (x : S57) : Chg := ⟨x.f0, x.f1, x.f2⟩
def cntR (l : List (List S57)) : Nat := (l.map List.length).sum
theorem l1_row (x0 : List (List S57)) (i : Nat) (hi : i < x0.length) (r : List S71) : ∀ (n j : Nat) (c : Con), Up c → j + n = (x0[i]).length → 2 * (c.length + n) + 2 < 8796093022208 → (x0[i]).length < 8796093022208 →
    (∃ k, tidemarkref18_Fold.l0 k x0 (ents (((x0[i]).drop j).foldl (fun c x => app c (as57 x)) c)) ((i + 1 : Nat) : Int) = some r) → i + 1 < 8796093022208 → ∃ k, tidemarkref18_Fold.l1 k x0 (ents c) (i : Int) (j : Int) = some r
  | 0, j, c, hu, hj, hb, hl, ⟨k, hk⟩, hi2 => by
    refine ⟨k + 1, ?_⟩
    have hrow : rd_L5 x0 (i : Int) = x0[i] := by unfold rd_L5; simp [hi]
    unfold tidemarkref18_Fold.l1
    rw [if_pos (by omega), if_pos (by omega), hrow, if_neg (by omega), w64f (by omega)]
    rw [List.drop_eq_nil_iff.2 (by omega)] at hk
    exact hk
  | n + 1, j, c, hu, hj, hb, hl, h, hi2 => by
    have hj2 : j < (x0[i]).length := by omega
    have hrow : rd_L5 x0 (i : Int) = x0[i] := by unfold rd_L5; simp [hi]
    have hx : rd_T57 (x0[i]) (j : Int) = (x0[i])[j] := by unfold rd_T57; simp [hj2]
    obtain ⟨k, hk⟩ := l1_row x0 i hi r n (j + 1) (app c (as57 (x0[i])[j])) (hu.app _) (by omega) (by have := app_length c (as57 (x0[i])[j]); omega) hl (by
      rw [List.drop_eq_getElem_cons hj2, List.foldl_cons] at h
      exact h) hi2
    refine ⟨k + 2 * c.length + 1 + 1, ?_⟩
    unfold tidemarkref18_Fold.l1
    rw [if_pos (by omega), if_pos (by omega), hrow, if_pos (by omega), if_pos (by omega), hx]
    have h2 := l2_go x0 c (i : Int) (j : Int) (x0[i])[j].f0 (x0[i])[j].f1 (x0[i])[j].f2 (by omega) c 0 [] (x0[i])[j].f2 k rfl (by simp; omega)
    have h3 := goF_app (as57 (x0[i])[j]) c hu
    simp only [as57] at h3
    rw [h3, w64f (by omega)] at h2
    exact h2.trans hk
theorem l0_rows (x0 : List (List S57)) (hx0 : x0.length < 8796093022208) : ∀ (n i : Nat) (c : Con), Up c → i + n = x0.length → 2 * (c.length + cntR (x0.drop i)) + 2 < 8796093022208 →
    ∃ k, tidemarkref18_Fold.l0 k x0 (ents c) (i : Int) = some (ents ((x0.drop i).foldl (fun c t => t.foldl (fun c x => app c (as57 x)) c) c))
  | 0, i, c, hu, hi, hb => by
    refine ⟨1, ?_⟩
    unfold tidemarkref18_Fold.l0
    rw [if_neg (by omega), List.drop_eq_nil_iff.2 (by omega)]
    rfl
  | n + 1, i, c, hu, hi, hb => by
    have hi2 : i < x0.length := by omega
    have hup : ∀ (l : List S57) (c : Con), Up c → Up (l.foldl (fun c x => app c (as57 x)) c) ∧ (l.foldl (fun c x => app c (as57 x)) c).length ≤ c.length + l.length := by
      intro l
      induction l with
      | nil => intro c h; exact ⟨h, Nat.le_refl _⟩
      | cons a r ih => intro c h; have h1 := ih _ (h.app (as57 a)); have h2 := app_length c (as57 a); rw [List.foldl_cons, List.length_cons]; exact ⟨h1.1, Nat.le_trans h1.2 (by omega)⟩
    rw [List.drop_eq_getElem_cons hi2, List.foldl_cons]
    have hcn : cntR (x0.drop i) = (x0[i]).length + cntR (x0.drop (i + 1)) := by rw [List.drop_eq_getElem_cons hi2]; unfold cntR; rw [List.map_cons, List.sum_cons]
    have h3 := hup (x0[i]) c hu
    obtain ⟨k, hk⟩ := l0_rows x0 hx0 n (i + 1) _ h3.1 (by omega) (Nat.lt_of_le_of_lt (Nat.add_le_add_right (Nat.mul_le_mul_left 2 (Nat.add_le_add_right h3.2 _)) 2) (by omega))
    obtain ⟨k2, hk2⟩ := l1_row x0 i hi2 _ (x0[i]).length 0 c hu (by omega) (by omega) (by omega) ⟨k, hk⟩ (by omega)
    refine ⟨k2 + 1, ?_⟩
    unfold tidemarkref18_Fold.l0
    rw [if_pos (by omega)]
    exact hk2
theorem ref_fold (x0 : List (List S57)) (hx0 : x0.length < 8796093022208) (hb : 2 * cntR x0 + 2 < 8796093022208) : ∃ k, tidemarkref18_Fold.f k x0 = some (ents (foldC (x0.map fun t => t.map as57))) := by
  obtain ⟨k, hk⟩ := l0_rows x0 hx0 x0.length 0 [] Up.nil (by omega) (by simp; omega)
  refine ⟨k, ?_⟩
  unfold tidemarkref18_Fold.f foldC
  rw [List.foldl_map]
  simp only [List.foldl_map]
  exact hk
end Go.Proofs.YtcdfdckdodgbpaaDoor.QA

/-! PureSortE -/
namespace Go.Proofs.YtcdfdckdodgbpaaDoor.QA
open Go.RowKit Go.Maps Go.Proofs.YtcdfdckdodgbpaaDoorW.PrintWords Go.Proofs.YtcdfdckdodgbpaaDoorW.PrintLast Go.Proofs.YtcdfdckdodgbpaaDoorW.PrintMore
set_option linter.unusedVariables false
set_option linter.unusedSimpArgs false
open Go.Sort Go.Proofs
def entV (x : S71) : List Value := [.int .i64 x.f0, .int .u64 x.f1]
instance : Inhabited S71 := ⟨z71⟩
theorem entV_len (x : S71) : (entV x).length = 2 := rfl
/-- The cells of a row of entries, as a flat list. -/
theorem reps_flat {R : S71 → List Value → Prop} (hR : ∀ x cs, R x cs → cs = entV x) {xs : List S71} {inner : List Value} (h : Reps R 2 xs inner) : inner.toArray = flatK entV 2 xs.toArray := by
  apply Array.ext
  · rw [size_flatK]; simpa using h.1
  · intro t h1 h2
    have ht : t < xs.toArray.size * 2 := by rw [size_flatK] at h2; exact h2
    have h3 := get_flatK entV 2 xs.toArray t ht
    rw [getElem!_pos _ t h2] at h3
    rw [h3]
    have hq : t / 2 < xs.length := by simp at ht; omega
    have h4 := hR _ _ (h.2 (t / 2) xs[t / 2] (List.getElem?_eq_getElem hq))
    have h5 : ((inner.drop (t / 2 * 2)).take 2)[t % 2]? = inner[t]? := by
      rw [List.getElem?_take_of_lt (by omega), List.getElem?_drop]
      congr 1
      omega
    rw [h4] at h5
    have h6 : t < inner.length := by simpa using h1
    rw [List.getElem?_eq_getElem h6] at h5
    have h7 : xs.toArray[t / 2]! = xs[t / 2] := by rw [getElem!_pos _ _ (by simpa using hq)]; simp
    rw [h7]
    have h8 : t % 2 < (entV xs[t / 2]).length := by rw [entV_len]; omega
    rw [getElem!_pos (entV xs[t / 2]) (t % 2) h8]
    rw [List.getElem?_eq_getElem h8] at h5
    injection h5 with h5
    simpa using h5.symm
theorem flat_reps {R : S71 → List Value → Prop} (hR : ∀ x, R x (entV x)) (ys : List S71) : Reps R 2 ys (flatK entV 2 ys.toArray).toList := by
  refine ⟨by simp, fun j p hj => ?_⟩
  obtain ⟨hl, hp⟩ := List.getElem?_eq_some_iff.1 hj
  have he : (((flatK entV 2 ys.toArray).toList.drop (j * 2)).take 2) = entV p := by
    apply List.ext_getElem?
    intro i
    by_cases hi : i < 2
    · have ht : j * 2 + i < ys.toArray.size * 2 := by simp; omega
      have h3 := get_flatK entV 2 ys.toArray (j * 2 + i) ht
      rw [getElem!_pos _ _ (by rw [size_flatK]; exact ht)] at h3
      rw [List.getElem?_take_of_lt hi, List.getElem?_drop, List.getElem?_eq_getElem (by simp; omega), Array.getElem_toList, h3]
      have h1 : (j * 2 + i) / 2 = j := by omega
      have h2 : (j * 2 + i) % 2 = i := by omega
      have h7 : ys.toArray[j]! = p := by rw [getElem!_pos _ _ (by simpa using hl)]; simpa using hp
      rw [h1, h2, h7, getElem!_pos _ _ (by rw [entV_len]; exact hi), List.getElem?_eq_getElem (by rw [entV_len]; exact hi)]
    · rw [List.getElem?_take_eq_none (by omega), List.getElem?_eq_none (by rw [entV_len]; omega)]
  rw [he]
  exact hR p
theorem holds_of_blockV {w : World} {g : Nat} {cur : Array Value} {e : TypeId} {ss : List Value} (hb : w.heap[g]? = some (.cells cur e (0, 0))) (ht : cur.toList.take ss.length = ss) : Holds id w g 0 ss.toArray := by
  intro j hj
  have hj' : j < ss.length := by simpa using hj
  refine ⟨?_, by simp [World.frozen?, hb]⟩
  have h1 : (cur.toList.take ss.length)[j]? = ss[j]? := by rw [ht]
  rw [List.getElem?_take_of_lt hj'] at h1
  simp only [World.cell?, hb, Nat.zero_add]
  simp only [Option.isSome_none, Bool.false_eq_true, if_false]
  rw [← Array.getElem?_toList, h1]
  simp [hj']
theorem heap_sortedV {w : World} {g n : Nat} {os : Array Obj} {cur : Array Value} {e : TypeId} {fr : Nat × Nat} (d : Array Value) (hb : w.heap[g]? = some (.cells cur e fr)) :
    (grow (putRow id (Sort.ahead w n) g 0 d) os).heap[g]? = some (.cells (putCells id 0 d cur) e fr) := by
  have hg : g < w.heap.size := (Array.getElem?_eq_some_iff.1 hb).1
  rw [heap_grow_old _ _ (by simpa using hg)]
  simp [putRow, mapBlock, Sort.ahead, Array.getElem?_modify, hb, onCells]
theorem grownBy_sortedV {w : World} {g n : Nat} {os : Array Obj} (d : Array Value) : w.grownBy (grow (putRow id (Sort.ahead w n) g 0 d) os) (some g) := by
  refine ⟨rfl, rfl, rfl, by simp, fun k hk hne => ?_⟩
  rw [heap_grow_old _ _ (by simpa using hk)]
  have : g ≠ k := fun e => hne (by rw [e])
  simp [putRow, mapBlock, Sort.ahead, Array.getElem?_modify, this]
theorem take_putCellsV (cur : Array Value) (ts : List Value) (h : ts.length ≤ cur.size) : (putCells id 0 ts.toArray cur).toList.take ts.length = ts := by
  apply List.ext_getElem?
  intro j
  by_cases hj : j < ts.length
  · rw [List.getElem?_take_of_lt hj, Array.getElem?_toList]
    simp [putCells, hj, show j < cur.size by omega]
  · rw [List.getElem?_take_eq_none (by omega), List.getElem?_eq_none (by omega)]
theorem ownsRow_sortedV {w : World} {base g cap n len : Nat} {e : TypeId} {os : Array Obj} {cur : Array Value} {ts : List Value} (hl : ts.length = len * 2) (hbase : base ≤ g) (hb : w.heap[g]? = some (.cells cur e (0, 0)))
    (h1 : len ≤ cap) (h2 : cap ≤ maxLen) (h3 : cur.size = cap * 2) :
    (grow (putRow id (Sort.ahead w n) g 0 ts.toArray) os).ownsRow base e 2 (.slice (some ⟨g, 0, none⟩) len cap) len ts :=
  ⟨hl, .inr ⟨g, cap, _, rfl, hbase, heap_sortedV _ hb, h1, h2, by simp [putCells, h3], by rw [← hl]; exact take_putCellsV cur ts (by omega)⟩⟩
/-- A list of entries that do not fall, and hold what a content holds, is the content. -/
theorem ents_is {ys : List S71} {ds c : Con} (hp : ys.Perm (ents ds)) (hd : ds.Perm c) (hu : Up c) (hs : ys.Pairwise fun a b => ¬ b.f0 < a.f0) : ys = ents c := by
  have h1 : (ys.map fun e => (e.f0, e.f1)).Perm c := by
    have h2 := hp.map (fun e : S71 => (e.f0, e.f1))
    have h3 : (ents ds).map (fun e : S71 => (e.f0, e.f1)) = ds := by unfold ents; rw [List.map_map]; exact List.map_id' ds
    rw [h3] at h2
    exact h2.trans hd
  have hn : (c.map (·.1)).Nodup := by rw [List.Nodup, List.pairwise_map]; exact hu.imp (fun h e => by omega)
  have hn2 : ((ys.map fun e => (e.f0, e.f1)).map (·.1)).Nodup := (h1.map _).nodup_iff.2 hn
  have hu2 : Up (ys.map fun e => (e.f0, e.f1)) := by
    rw [List.map_map, List.Nodup, List.pairwise_map] at hn2
    unfold Up
    rw [List.pairwise_map]
    refine (hs.and hn2).imp ?_
    rintro a b ⟨h4, h5⟩
    have h6 : a.f0 ≠ b.f0 := h5
    show a.f0 < b.f0
    omega
  have h7 := hu2.ext_mem hu (fun p => h1.mem_iff)
  rw [← h7]
  unfold ents
  rw [List.map_map]
  exact (List.map_id' ys).symm
end Go.Proofs.YtcdfdckdodgbpaaDoor.QA

/-! TIds -/
namespace Go.Proofs.YtcdfdckdodgbpaaDoor.QA
open Go.RowKit Go.Maps Go.Proofs.YtcdfdckdodgbpaaDoorW.PrintWords Go.Proofs.YtcdfdckdodgbpaaDoorW.PrintLast Go.Proofs.YtcdfdckdodgbpaaDoorW.PrintMore
set_option linter.unusedVariables false
set_option linter.unusedSimpArgs false
def sorted (xs : List Int) : List Int := xs.mergeSort fun x y => decide (x ≤ y)
theorem holds_of_blockI {w : World} {g : Nat} {cur : Array Value} {e : TypeId} {ss : List Int} (hb : w.heap[g]? = some (.cells cur e (0, 0))) (ht : cur.toList.take ss.length = ss.map (Value.int .i64)) : Go.Sort.Holds (Value.int .i64) w g 0 ss.toArray := by
  intro j hj
  have hj' : j < ss.length := by simpa using hj
  refine ⟨?_, by simp [World.frozen?, hb]⟩
  have h1 : (cur.toList.take ss.length)[j]? = (ss.map (Value.int .i64))[j]? := by rw [ht]
  rw [List.getElem?_take_of_lt hj'] at h1
  simp only [World.cell?, hb, Nat.zero_add]
  simp only [Option.isSome_none, Bool.false_eq_true, if_false]
  rw [← Array.getElem?_toList, h1]
  simp [hj']
theorem heap_sortedI {w : World} {g n : Nat} {os : Array Obj} {cur : Array Value} {e : TypeId} {fr : Nat × Nat} (d : Array Int) (hb : w.heap[g]? = some (.cells cur e fr)) :
    (Go.Sort.grow (Go.Sort.putRow (Value.int .i64) (Go.Sort.ahead w n) g 0 d) os).heap[g]? = some (.cells (Go.Sort.putCells (Value.int .i64) 0 d cur) e fr) := by
  have hg : g < w.heap.size := (Array.getElem?_eq_some_iff.1 hb).1
  rw [Go.Sort.heap_grow_old _ _ (by simpa using hg)]
  simp [Go.Sort.putRow, Go.Sort.mapBlock, Go.Sort.ahead, Array.getElem?_modify, hb, Go.Sort.onCells]
theorem grownBy_sortedI {w : World} {g n : Nat} {os : Array Obj} (d : Array Int) : w.grownBy (Go.Sort.grow (Go.Sort.putRow (Value.int .i64) (Go.Sort.ahead w n) g 0 d) os) (some g) := by
  refine ⟨rfl, rfl, rfl, by simp, fun k hk hne => ?_⟩
  rw [Go.Sort.heap_grow_old _ _ (by simpa using hk)]
  have : g ≠ k := fun e => hne (by rw [e])
  simp [Go.Sort.putRow, Go.Sort.mapBlock, Go.Sort.ahead, Array.getElem?_modify, this]
theorem take_putCellsI (cur : Array Value) (ts : List Int) (h : ts.length ≤ cur.size) : (Go.Sort.putCells (Value.int .i64) 0 ts.toArray cur).toList.take ts.length = ts.map (Value.int .i64) := by
  apply List.ext_getElem?
  intro j
  by_cases hj : j < ts.length
  · rw [List.getElem?_take_of_lt hj, Array.getElem?_toList]
    simp [Go.Sort.putCells, hj, show j < cur.size by omega]
  · rw [List.getElem?_take_eq_none (by omega), List.getElem?_eq_none (by simp; omega)]
theorem sort26 {w : World} {base : Nat} {ok : Nat → Prop} {v : Value} {xs : List Int} (h : Kd.R (Kd.int .i64) 3 w base ok v xs) (hl : xs.length < 4611686018427387904) :
    Calls Tryd.prog 26 #[v] w fun e w' => e = .returned (.tuple #[]) ∧ Kd.R (Kd.int .i64) 3 w' base ok v (sorted xs) ∧ Mv w w' (fun k => some k = v.ownBlock) := by
  have hown := Kd.own_of_R h
  rcases hown.2 with ⟨he, h0⟩ | ⟨g, cap, cur, he, hbg, hg, hnc, hcm, hcs, htk⟩
  · have hnil : xs = [] := List.length_eq_zero_iff.1 h0
    subst hnil
    subst he
    refine (Tryd.slices_Sort_int_none none 0 w).mono ?_
    rintro e w' ⟨rfl, rfl⟩
    exact ⟨rfl, by rw [show sorted [] = [] from by simp [sorted]]; exact h, Mv.refl _ _⟩
  · have ht : cur.toList.take xs.length = xs.map (Value.int .i64) := by
      rw [Nat.mul_one] at htk
      rw [htk]
      rfl
    subst he
    refine (Tryd.slices_Sort_int g 0 cap xs w (holds_of_blockI hg ht) (blk_lt hg) hl).mono ?_
    rintro e w' ⟨rfl, n, os, rfl⟩
    have hsl : (sorted xs).length = xs.length := List.length_mergeSort xs
    refine ⟨rfl, ?_, ?_⟩
    · refine Kd.R_of_own (e := 3) (base := base) (enc := Value.int .i64) (h1 := fun _ => rfl) (ok := ok) (xs := sorted xs) ?_ (fun k hk => h.1 k hk)
      rw [hsl]
      refine ⟨by simp [encs, hsl], .inr ⟨g, cap, _, rfl, hbg, heap_sortedI _ hg, hnc, hcm, by simp [Go.Sort.putCells, hcs], ?_⟩⟩
      have h2 := take_putCellsI cur (sorted xs) (by rw [hsl]; omega)
      rw [hsl] at h2
      rw [Nat.mul_one]
      exact h2
    · exact Mv.of_grown (grownBy_sortedI _)
theorem sorted_mem (xs : List Int) (x : Int) : x ∈ sorted xs ↔ x ∈ xs := (List.mergeSort_perm xs fun x y => decide (x ≤ y)).mem_iff
theorem sorted_is (xs m : List Int) (hp : xs.Perm m) (hm : m.Pairwise (· < ·)) : sorted xs = m := by
  have h1 : (sorted xs).Perm m := (List.mergeSort_perm xs fun x y => decide (x ≤ y)).trans hp
  have hs : (sorted xs).Pairwise (fun x y => decide (x ≤ y) = true) := List.pairwise_mergeSort (fun a b c h1 h2 => by simp at h1 h2 ⊢; omega) (fun a b => by simp; omega) xs
  have hn : (sorted xs).Nodup := h1.nodup_iff.2 (hm.imp (fun h e => by omega))
  have hu : Up ((sorted xs).map fun x => (x, ())) := by
    unfold Up
    rw [List.pairwise_map]
    refine (hs.and hn).imp ?_
    rintro a b ⟨h2, h3⟩
    simp at h2
    show a < b
    omega
  have hu2 : Up (m.map fun x => (x, ())) := by
    unfold Up
    rw [List.pairwise_map]
    exact hm
  have h4 := hu.ext_mem hu2 (fun p => by rw [List.mem_map, List.mem_map]; exact ⟨fun ⟨a, h5, h6⟩ => ⟨a, h1.mem_iff.1 h5, h6⟩, fun ⟨a, h5, h6⟩ => ⟨a, h1.mem_iff.2 h5, h6⟩⟩)
  have h5 := congrArg (List.map (·.1)) h4
  rw [List.map_map, List.map_map] at h5
  have h6 : ∀ l : List Int, l.map ((fun p : Int × Unit => p.1) ∘ fun x => (x, ())) = l := fun l => List.map_id' l
  rw [h6, h6] at h5
  exact h5
theorem infoIds : (Tryd.prog.info? 3).map (fun i => (i.zero, i.size, i.bytes)) = some (some (.int .i64 0), 1, 8) := by kernel_rfl
def PSt.ids (m : PSt) : List Int := m.opn.map (·.1)
set_option maxHeartbeats 2000000 in
set_option maxRecDepth 100000 in
theorem ids14 {w : World} {L : Lay} {m : PSt} (h : St w L none2 m) (hk : Ok m) :
    Calls Tryd.prog 14 #[.pointer (some ⟨L.p, 0, none⟩)] w fun e w' => ∃ v, e = .returned v ∧ Kd.R (Kd.int .i64) 3 w' w.heap.size (fun _ => True) v m.ids ∧ Below w.heap.size w w' := by
  have HO := Aside0.mk (show OM Tryd.prog ptrS w L.ob (opnL m L) from h.c.elim fun _ c => c.open_)
  have HOL := Aside0.mk (show (opnL m L).length ≤ 8 from by have h4 := hk.size; have h5 := hk.table; rw [show (opnL m L).length = m.opn.length from by unfold opnL; rw [List.length_map]]; omega)
  have HID := Aside0.mk (show (opnL m L).map (·.1) = m.ids from by unfold opnL PSt.ids; rw [List.map_map]; rfl)
  have HUP := Aside0.mk (show (m.ids).Pairwise (· < ·) from by unfold PSt.ids; rw [List.pairwise_map]; exact hk.up)
  obtain ⟨c0, c1, c2, c4, c5, c6, c7, c8⟩ := h.cells
  clear h hk c0 c1 c2 c4 c5 c7 c8
  obtain ⟨pl, hpl⟩ : ∃ pl, pl = opnL m L := ⟨_, rfl⟩
  rw [← hpl] at HO HOL HID
  clear hpl
  go_enter Tryd.func14, Tryd.ntmps14
  go_wp2_with (first
    | (at_range; refine om_range rfl _ 73 rfl 85 Tryd.underlying73 rfl HO.out ?_
       intro w2 hr0 hm0 hs0
       have R0 := Aside0.mk hr0
       have B2 := Aside0.mk (hm0.below (Below.refl w.heap.size w) (Nat.le_refl _) (fun k hk => hk.elim))
       clear hr0 hm0 hs0))
  go_frame
  obtain ⟨r, hr⟩ : ∃ r, r = w.heap.size := ⟨_, rfl⟩
  have HR := Aside0.mk hr
  rw [← hr] at R0
  have e1 : (⟨w.heap.size, 0, none⟩ : Addr) = ⟨r, 0, none⟩ := by rw [hr]
  rw [e1]
  clear e1 hr c6
  go_loopg [3, 4] pl.length (fun kq v3 v4 wr => ∃ (ds : List (Int × Nat)), Aside0 (ds.length + kq = pl.length) ∧ Aside0 (OR Tryd.prog ptrS wr L.ob r pl ds) ∧ Aside0 (Kd.R (Kd.int .i64) 3 wr w.heap.size (fun k => k ≠ r) v3 (ds.map (·.1))) ∧ Aside0 (Below w.heap.size w wr))
  case atStart => exact ⟨[], ⟨by simp⟩, R0, ⟨Kd.R_nil _ _ _ _ _⟩, B2⟩
  case round =>
    clear R0 B2
    obtain ⟨ds, hcnt, hR, hO, hB⟩ := hrel
    obtain ⟨Ws, hWs, hB⟩ : ∃ W, W = _ ∧ Aside0 (Below w.heap.size w W) := ⟨_, rfl, hB⟩
    subst hWs
    go_wp2_with (first
      | (at_next; refine om_next_ptr rfl _ rfl rfl hR.out ?_ ?_))
    · intro hperm
      have HS := Aside0.mk (sorted_is (ds.map (·.1)) m.ids (by rw [← HID.out]; exact hperm.map _) HUP.out)
      have HLN := Aside0.mk (show (ds.map (·.1)).length < 4611686018427387904 from by rw [List.length_map, hperm.length_eq]; have := HOL.out; omega)
      clear hperm
      go_wp2_with (first
        | (go_at_call 26; refine (sort26 hO.out HLN.out).mono ?_
           rintro e w4 ⟨rfl, hr, hm⟩
           have R4 := Aside0.mk hr
           have B4 := Aside0.mk (hm.below hB.out hB.out.size (fun k hk => own_base (Kd.R_own hO.out).choose_spec k hk.symm))
           clear hr hm))
      go_ret
      exact ⟨_, rfl, by rw [← HS.out]; exact Kd.R_mono R4.out (fun _ _ => trivial), B4.out⟩
    · intro x z w3 hwx hin hnot hr1 hm1 hs1 hen
      have R1 := Aside0.mk hr1
      have hB1 := Aside0.mk (hm1.below hB.out hB.out.size (fun k hk => by subst hk; have := HR.out; omega))
      have hO1 := Aside0.mk (Kd.R_step hO.out (fun k hk hlt => hm1.block k hlt hk))
      have hle := hr1.le
      rw [List.length_append, List.length_singleton] at hle
      have HLE := Aside0.mk hle
      have HLT := Aside0.mk hr1.lt
      clear hwx hin hnot hr1 hm1 hs1 hle
      go_wp2_with (first
        | ((with_reducible refine gate_builtin (b := .append) rfl ?_); at_builtin
           refine Kd.R_append (Kd.int .i64) (w0 := w) w.heap.size rfl (.tmp 14) (.tmp 16) 46 3 (.int .i64 0) 8 rfl Tryd.underlying46 infoIds rfl (by decide) (by omega) u3 (ds.map (·.1)) x [.int .i64 x] (fun k => k ≠ r) (fun _ => False) rfl rfl rfl (fun _ hk => hk.elim) (fun k hk => by have := HLT.out; omega) hO1.out hB1.out hB1.out.size (by rw [List.length_map]; have := HLE.out; have := HOL.out; omega) ?_
           intro v1 w4 ho hb hg hat
           have R4 := Aside0.mk ho
           have B4 := Aside0.mk hb
           have N4 := Aside0.mk (R1.out.move (Mv.of_grown hg) (fun h => by obtain ⟨cs, hc⟩ := own_typed (Kd.R_own hO1.out).choose_spec L.ob h.symm; exact R1.out.owns.ne_cells hc rfl) (fun h => hO1.out.1 r h.symm rfl))
           clear ho hb hg hat))
      go_roundg (gk - 1)
      case measure => have := hcnt.out; have := HLE.out; omega
      case rel =>
        refine ⟨_, ⟨by have := hcnt.out; have := HLE.out; rw [List.length_append, List.length_singleton]; omega⟩, N4, ⟨?_⟩, B4⟩
        rw [List.map_append]
        exact R4.out
end Go.Proofs.YtcdfdckdodgbpaaDoor.QA
