/- changed, whole; Put and Delete walked. Delete walked. does walked: one step of a script. New walked, where the Config may be. alive walked: a begin, a put and its sum. played walked: a state behind a script. What a step leaves of the sums: plain. What is there is what the committed ones did, one after the other: plain. A Config that may be, made of any; what a run keeps. -/
import Derived.Test.YtcdfdckdodgbpaaGreatDoorNTChange3a
import Derived.Test.YtcdfdckdodgbpaaGreatDoorNTChange3b
import Derived.Test.YtcdfdckdodgbpaaGreatDoorNTChange3c
import Derived.Test.YtcdfdckdodgbpaaGreatDoorB
import Derived.Test.YtcdfdckdodgbpaaGreatDoorA
import Derived.Test.YtcdfdckdodgbpaaGreatDoorQAx3
import Derived.Test.YtcdfdckdodgbpaaGreatDoorC
import Derived.Test.YtcdfdckdodgbpaaGreatDoorNTOpens
import Derived.Test.YtcdfdckdodgbpaaGreatDoorE
/-! TPut -/
namespace Go.Proofs.YtcdfdckdodgbpaaGreatDoor.QA
open Go.RowKit Go.Maps Go.Proofs.YtcdfdckdodgbpaaGreatDoorW.PrintWords Go.Proofs.YtcdfdckdodgbpaaGreatDoorW.PrintLast Go.Proofs.YtcdfdckdodgbpaaGreatDoorW.PrintMore
set_option linter.unusedVariables false
set_option linter.unusedSimpArgs false
theorem changed36 {w : World} {L : Lay} {m : PSt} (h : St w L none2 m) (hk : Ok m) (id : Int) (x : Chg) (hid : (Lit.int .i64 id).wf = true) (hky : (Lit.int .i64 x.f0).wf = true) :
    Calls Tryz.prog 37 #[.pointer (some ⟨L.p, 0, none⟩), .int .i64 id, .agg #[.int .i64 x.f0, .int .u64 x.f1, .bool x.f2]] w fun e w' => ((m.changedE id x = 0 ∧ e = .returned .nilIface) ∨ (∃ v n, e = .returned v ∧ Err w' (m.changedE id x) n v)) ∧ ∃ L', St w' L' none2 (m.changed id x) ∧ Goes w L w' L' := by
  by_cases hE : m.askedE id x.f0 = 0
  · cases hF : m.full id x with
    | true =>
      have h1 : m.changedE id x = 42 := by unfold PSt.changedE; rw [if_neg (by simp [hE]), hF, if_pos rfl]
      have h2 : m.changed id x = m := by unfold PSt.changed; rw [if_neg (by simp [hE]), hF, if_pos rfl]
      refine (changed_full h hk id x hid hky hE hF).mono ?_
      rintro e w' ⟨v, n, rfl, he, L', hs, hg⟩
      exact ⟨.inr ⟨v, n, rfl, by rw [h1]; exact he⟩, L', by rw [h2]; exact hs, hg⟩
    | false =>
      have hr : ∀ (e : Ending) (w' : World), (((m.changedE id x = 0 ∧ e = .returned .nilIface) ∨ (∃ v n, m.changedE id x = 170 ∧ e = .returned v ∧ Err w' 170 n v)) ∧ ∃ L', St w' L' none2 (m.changed id x) ∧ Goes w L w' L') →
          ((m.changedE id x = 0 ∧ e = .returned .nilIface) ∨ (∃ v n, e = .returned v ∧ Err w' (m.changedE id x) n v)) ∧ ∃ L', St w' L' none2 (m.changed id x) ∧ Goes w L w' L' := by
        rintro e w' ⟨h1 | ⟨v, n, h1, h2, h3⟩, h4⟩
        · exact ⟨.inl h1, h4⟩
        · exact ⟨.inr ⟨v, n, h2, by rw [h1]; exact h3⟩, h4⟩
      cases hg : x.f2 with
      | true => rw [← hg]; exact (changed_a h hk id x hid hky hE hF hg).mono hr
      | false =>
        cases ht : (look (m.con id (x.f0.tmod m.pages)) x.f0).isSome with
        | true => rw [← hg]; exact (changed_b h hk id x hid hky hE hF hg ht).mono hr
        | false => rw [← hg]; exact (changed_c h hk id x hid hky hE hF hg ht).mono hr
  · have h1 : m.changedE id x = m.askedE id x.f0 := by unfold PSt.changedE; rw [if_pos hE]
    have h2 : m.changed id x = m := by unfold PSt.changed; rw [if_pos hE]
    refine (changed_asked h hk id x hid hky hE).mono ?_
    rintro e w' ⟨v, n, rfl, he, hb⟩
    exact ⟨.inr ⟨v, n, rfl, by rw [h1]; exact he⟩, L, by rw [h2]; exact h.below hb, Goes.of_below hb⟩
/-- changed, and the number of what it answers. -/
theorem number_of {w : World} {code : Int} {v : Value} {L : Lay} {m : PSt} (h : St w L none2 m) (hv : (code = 0 ∧ v = .nilIface) ∨ ∃ n, Err w code n v) : Calls Tryz.prog 36 #[v] w fun e w' => e = .returned (.int .i64 code) ∧ Below w.heap.size w w' := by
  rcases hv with ⟨rfl, rfl⟩ | ⟨n, he⟩
  · exact number35n w
  · exact number35 he (h.c.elim fun _ c => c.g0)
set_option maxHeartbeats 4000000 in
set_option maxRecDepth 100000 in
theorem put21 {w : World} {L : Lay} {m : PSt} (h : St w L none2 m) (hk : Ok m) (id key v : Int) (hid : (Lit.int .i64 id).wf = true) (hky : (Lit.int .i64 key).wf = true) :
    Calls Tryz.prog 20 #[.pointer (some ⟨L.p, 0, none⟩), .int .i64 id, .int .i64 key, .int .u64 v] w fun e w' => e = .returned (.int .i64 (m.changedE id ⟨key, v, false⟩)) ∧ ∃ L', St w' L' none2 (m.changed id ⟨key, v, false⟩) ∧ Goes w L w' L' := by
  have HC := Aside0.mk (changed36 h hk id ⟨key, v, false⟩ hid hky)
  obtain ⟨code, hcode⟩ : ∃ code, code = m.changedE id ⟨key, v, false⟩ := ⟨_, rfl⟩
  rw [← hcode] at HC ⊢
  obtain ⟨m2, hm2⟩ : ∃ m2, m2 = m.changed id ⟨key, v, false⟩ := ⟨_, rfl⟩
  rw [← hm2] at HC ⊢
  clear h hk hid hky hcode hm2
  dsimp only at HC
  go_enter Tryz.func20, Tryz.ntmps20
  go_wp2_with (first
    | (go_at_call 37; refine HC.out.mono ?_; rintro e w1 ⟨hv, L1, hs, hg⟩
       obtain ⟨v1, hv1, hv2⟩ : ∃ v1, e = .returned v1 ∧ ((code = 0 ∧ v1 = .nilIface) ∨ ∃ n, Err w1 code n v1) := by
         rcases hv with ⟨h1, h2⟩ | ⟨v1, n, h1, h2⟩
         · exact ⟨_, h2, .inl ⟨h1, rfl⟩⟩
         · exact ⟨_, h1, .inr ⟨n, h2⟩⟩
       subst hv1
       have V1 := Aside0.mk hv2
       have S1 := Aside0.mk hs
       have G1 := Aside0.mk hg
       clear hv hv2 hs hg)
    | (go_at_call 36; refine (number_of S1.out V1.out).mono ?_; rintro e w2 ⟨rfl, hb⟩
       have S2 := Aside0.mk (S1.out.below hb)
       have G2 := Aside0.mk (G1.out.trans (Goes.of_below (L := L1) hb))
       clear hb))
  go_ret
  exact ⟨rfl, L1, S2.out, G2.out⟩
end Go.Proofs.YtcdfdckdodgbpaaGreatDoor.QA

/-! TDelete -/
namespace Go.Proofs.YtcdfdckdodgbpaaGreatDoor.QA
open Go.RowKit Go.Maps Go.Proofs.YtcdfdckdodgbpaaGreatDoorW.PrintWords Go.Proofs.YtcdfdckdodgbpaaGreatDoorW.PrintLast Go.Proofs.YtcdfdckdodgbpaaGreatDoorW.PrintMore
set_option linter.unusedVariables false
set_option linter.unusedSimpArgs false
theorem delE_zero {m : PSt} {id key : Int} (h : m.askedE id key = 0) : m.delE id key = if m.getB id key then (m.get id key).changedE id ⟨key, 0, true⟩ else 0 := by unfold PSt.delE; rw [if_neg (by simpa using h)]
set_option maxHeartbeats 4000000 in
set_option maxRecDepth 100000 in
theorem delete27 {w : World} {L : Lay} {m : PSt} (h : St w L none2 m) (hk : Ok m) (id key : Int) (hid : (Lit.int .i64 id).wf = true) (hky : (Lit.int .i64 key).wf = true) :
    Calls Tryz.prog 38 #[.pointer (some ⟨L.p, 0, none⟩), .int .i64 id, .int .i64 key] w fun e w' => e = .returned (.tuple #[.bool (m.delB id key), .int .i64 (m.delE id key)]) ∧ ∃ L', St w' L' none2 (m.delete id key) ∧ Goes w L w' L' := by
  have H := Aside0.mk h
  have HK := Aside0.mk hk
  have HI := Aside0.mk hid
  have HY := Aside0.mk hky
  clear h hk hid hky
  by_cases hE : m.askedE id key = 0
  · have HE := Aside0.mk hE
    have HD := Aside0.mk (delE_zero hE)
    cases hb : m.getB id key with
    | false =>
      have HR := Aside0.mk (show m.delB id key = false ∧ m.delE id key = 0 ∧ m.delete id key = m.get id key from ⟨by unfold PSt.delB; rw [hb]; rfl, by rw [HD.out, hb]; rfl, by unfold PSt.delete; rw [hb]; rfl⟩)
      rw [HR.out.1, HR.out.2.1, HR.out.2.2]
      have HB := Aside0.mk hb
      clear hE hb
      go_enter Tryz.func38, Tryz.ntmps38
      go_wp2_with (go_at_call 19; refine (get_ok H.out HK.out id key HI.out HY.out HE.out).mono ?_; rintro e w1 ⟨rfl, L1, hs, hg⟩; rw [HB.out]
                   have S1 := Aside0.mk hs
                   have G1 := Aside0.mk hg
                   clear hs hg)
      go_ret2
      exact ⟨rfl, L1, S1.out, G1.out⟩
    | true =>
      obtain ⟨code, hcode⟩ : ∃ code, code = (m.get id key).changedE id ⟨key, 0, true⟩ := ⟨_, rfl⟩
      have HR := Aside0.mk (show m.delB id key = decide (code = 0) ∧ m.delE id key = code ∧ m.delete id key = (m.get id key).changed id ⟨key, 0, true⟩ from ⟨by unfold PSt.delB; rw [hb, hcode]; rfl, by rw [HD.out, hb, hcode]; rfl, by unfold PSt.delete; rw [hb]; rfl⟩)
      rw [HR.out.1, HR.out.2.1, HR.out.2.2]
      have HB := Aside0.mk hb
      have HC := Aside0.mk hcode
      have OK1 := Aside0.mk (HK.out.get id key)
      clear hE hb hcode
      go_enter Tryz.func38, Tryz.ntmps38
      go_wp2_with (first
        | (go_at_call 19; refine (get_ok H.out HK.out id key HI.out HY.out HE.out).mono ?_; rintro e w1 ⟨rfl, L1, hs, hg⟩; rw [HB.out]
           have S1 := Aside0.mk hs
           have G1 := Aside0.mk hg
           clear hs hg)
        | (go_at_call 37; have C36 := changed36 S1.out OK1.out id ⟨key, 0, true⟩ HI.out HY.out; rw [G1.out.p] at C36; refine C36.mono ?_; clear C36; rintro e w2 ⟨hv, L2, hs, hg⟩
           obtain ⟨v1, hv1, hv2⟩ : ∃ v1, e = .returned v1 ∧ ((code = 0 ∧ v1 = .nilIface) ∨ ∃ n, Err w2 code n v1) := by
             rw [← HC.out] at hv
             rcases hv with ⟨h1, h2⟩ | ⟨v1, n, h1, h2⟩
             · exact ⟨_, h2, .inl ⟨h1, rfl⟩⟩
             · exact ⟨_, h1, .inr ⟨n, h2⟩⟩
           subst hv1
           have V2 := Aside0.mk hv2
           have S2 := Aside0.mk hs
           have G2 := Aside0.mk (G1.out.trans hg)
           clear hv hv2 hs hg)
        | (go_at_call 36; refine (number_of S2.out V2.out).mono ?_; rintro e w3 ⟨rfl, hb⟩
           have S3 := Aside0.mk (S2.out.below hb)
           have G3 := Aside0.mk (G2.out.trans (Goes.of_below (L := L2) hb))
           clear hb))
      all_goals
        go_ret2
        have hbd : decide (code = 0) = (code == 0) := by by_cases h : code = 0 <;> simp [h]
        exact ⟨by rw [hbd]; first | done | rfl, L2, S3.out, G3.out⟩
  · have HE := Aside0.mk hE
    have HR := Aside0.mk (show m.delB id key = false ∧ m.delE id key = m.askedE id key ∧ m.delete id key = m from by
      have h1 : m.getB id key = false := by unfold PSt.getB; rw [if_neg hE]
      exact ⟨by unfold PSt.delB; rw [h1]; rfl, by unfold PSt.delE; rw [if_pos hE], by unfold PSt.delete PSt.get; rw [h1]; simp [hE]⟩)
    rw [HR.out.1, HR.out.2.1, HR.out.2.2]
    obtain ⟨code, hcode⟩ : ∃ code, code = m.askedE id key := ⟨_, rfl⟩
    have hcn : (code == 0) = false := by rw [hcode]; simpa using hE
    have hcn2 : decide (code = 0) = false := by rw [hcode]; simpa using hE
    have hcn3 : ¬ (code = 0) := by rw [hcode]; exact hE
    have HC := Aside0.mk hcode
    rw [← hcode]
    clear hE hcode
    go_enter Tryz.func38, Tryz.ntmps38
    go_wp2_with (go_at_call 19; refine (get_bad H.out HK.out id key HI.out HY.out HE.out).mono ?_; rintro e w1 ⟨rfl, hb⟩; rw [← HC.out]
                 have B1 := Aside0.mk hb
                 clear hb)
    go_ret2
    exact ⟨rfl, L, H.out.below B1.out, Goes.of_below B1.out⟩
end Go.Proofs.YtcdfdckdodgbpaaGreatDoor.QA

/-! TDoes -/
namespace Go.Proofs.YtcdfdckdodgbpaaGreatDoor.QA
open Go.RowKit Go.Maps Go.Proofs.YtcdfdckdodgbpaaGreatDoorW.PrintWords Go.Proofs.YtcdfdckdodgbpaaGreatDoorW.PrintLast Go.Proofs.YtcdfdckdodgbpaaGreatDoorW.PrintMore
set_option linter.unusedVariables false
set_option linter.unusedSimpArgs false
/-- One step of a script. -/
structure Stp where
  kind : Int
  id : Int
  key : Int
  v : Int
  n : Int
def PSt.step (m : PSt) (o : Stp) : PSt :=
  if o.kind = 1 then m.begin_ o.id else if o.kind = 2 then m.get o.id o.key else if o.kind = 3 then m.changed o.id ⟨o.key, o.v, false⟩ else if o.kind = 4 then m.delete o.id o.key
  else if o.kind = 5 then m.commit o.id else if o.kind = 6 then m.abort o.id else if o.kind = 7 then m.check o.n else if o.kind = 8 then m.renew else m
def PSt.stepE (m : PSt) (o : Stp) : Int :=
  if o.kind = 1 then m.beginE o.id else if o.kind = 2 then m.askedE o.id o.key else if o.kind = 3 then m.changedE o.id ⟨o.key, o.v, false⟩ else if o.kind = 4 then m.delE o.id o.key
  else if o.kind = 5 then m.endE o.id else if o.kind = 6 then m.endE o.id else if o.kind = 7 then m.checkE o.n else if o.kind = 8 then m.renewE else 0
structure OkStp (o : Stp) : Prop where
  id : (Lit.int .i64 o.id).wf = true
  key : (Lit.int .i64 o.key).wf = true
  v : (Lit.int .u64 o.v).wf = true
  n : (Lit.int .i64 o.n).wf = true
def stpV (o : Stp) : Value := .agg #[.int .i64 o.kind, .int .i64 o.id, .int .i64 o.key, .int .u64 o.v, .int .i64 o.n]
set_option maxHeartbeats 2000000 in
set_option maxRecDepth 100000 in
theorem does_1 {w : World} {L : Lay} {m : PSt} (h : St w L none2 m) (hk : Ok m) (kind id key v n : Int) (ho : OkStp ⟨kind, id, key, v, n⟩) (hdl : m.done.length < 5000000000000) (hkd : kind = 1) :
    Calls Tryz.prog 26 #[.pointer (some ⟨L.p, 0, none⟩), .agg #[.int .i64 kind, .int .i64 id, .int .i64 key, .int .u64 v, .int .i64 n]] w fun e w' => e = .returned (.int .i64 (m.stepE ⟨kind, id, key, v, n⟩)) ∧ ∃ L', St w' L' none2 (m.step ⟨kind, id, key, v, n⟩) ∧ Goes w L w' L' := by
  have B0 := Aside0.mk (below_alloc (Below.refl w.heap.size w) (.cells #[.int .i64 kind, .int .i64 id, .int .i64 key, .int .u64 v, .int .i64 n] 63))
  have HA := Aside0.mk (h.below B0.out)
  have G0 := Aside0.mk (Goes.of_below (L := L) B0.out)
  have HK := Aside0.mk hk
  have HI := Aside0.mk (show (Lit.int .i64 id).wf = true from ho.id)
  have HY := Aside0.mk (show (Lit.int .i64 key).wf = true from ho.key)
  have HN := Aside0.mk (show (Lit.int .i64 n).wf = true from ho.n)
  have HDL := Aside0.mk hdl
  clear h hk ho hdl
  subst hkd
  go_enter Tryz.func26, Tryz.ntmps26
  go_wp2_with (first
    | (go_at_call 17; refine (begin20 HA.out HK.out id HI.out).mono ?_; rintro e w1 ⟨rfl, L1, hs, hg⟩
       have S1 := Aside0.mk hs
       have G1 := Aside0.mk (G0.out.trans hg)
       clear hs hg)
    | (go_at_call 10; refine (num19 _ _).mono ?_; rintro e w2 ⟨rfl, rfl⟩))
  go_ret
  exact ⟨rfl, L1, S1.out, G1.out⟩
set_option maxHeartbeats 2000000 in
set_option maxRecDepth 100000 in
theorem does_2 {w : World} {L : Lay} {m : PSt} (h : St w L none2 m) (hk : Ok m) (kind id key v n : Int) (ho : OkStp ⟨kind, id, key, v, n⟩) (hdl : m.done.length < 5000000000000) (hkd : kind = 2) :
    Calls Tryz.prog 26 #[.pointer (some ⟨L.p, 0, none⟩), .agg #[.int .i64 kind, .int .i64 id, .int .i64 key, .int .u64 v, .int .i64 n]] w fun e w' => e = .returned (.int .i64 (m.stepE ⟨kind, id, key, v, n⟩)) ∧ ∃ L', St w' L' none2 (m.step ⟨kind, id, key, v, n⟩) ∧ Goes w L w' L' := by
  have B0 := Aside0.mk (below_alloc (Below.refl w.heap.size w) (.cells #[.int .i64 kind, .int .i64 id, .int .i64 key, .int .u64 v, .int .i64 n] 63))
  have HA := Aside0.mk (h.below B0.out)
  have G0 := Aside0.mk (Goes.of_below (L := L) B0.out)
  have HK := Aside0.mk hk
  have HI := Aside0.mk (show (Lit.int .i64 id).wf = true from ho.id)
  have HY := Aside0.mk (show (Lit.int .i64 key).wf = true from ho.key)
  have HN := Aside0.mk (show (Lit.int .i64 n).wf = true from ho.n)
  have HDL := Aside0.mk hdl
  clear h hk ho hdl
  subst hkd
  by_cases hE : m.askedE id key = 0
  · have HE := Aside0.mk hE
    have HR := Aside0.mk (show m.stepE ⟨2, id, key, v, n⟩ = 0 from hE)
    rw [HR.out]
    clear hE
    go_enter Tryz.func26, Tryz.ntmps26
    go_wp2_with (first
      | (go_at_call 19; refine (get_ok HA.out HK.out id key HI.out HY.out HE.out).mono ?_; rintro e w1 ⟨rfl, L1, hs, hg⟩
         have S1 := Aside0.mk hs
         have G1 := Aside0.mk (G0.out.trans hg)
         clear hs hg)
      | (go_at_call 10; refine (num19 _ _).mono ?_; rintro e w2 ⟨rfl, rfl⟩))
    go_ret
    exact ⟨rfl, L1, S1.out, G1.out⟩
  · have HE := Aside0.mk hE
    have HR := Aside0.mk (show m.step ⟨2, id, key, v, n⟩ = m from by show m.get id key = m; unfold PSt.get; rw [if_neg hE])
    rw [HR.out]
    clear hE
    go_enter Tryz.func26, Tryz.ntmps26
    go_wp2_with (first
      | (go_at_call 19; refine (get_bad HA.out HK.out id key HI.out HY.out HE.out).mono ?_; rintro e w1 ⟨rfl, hb⟩
         have S1 := Aside0.mk (HA.out.below hb)
         have G1 := Aside0.mk (G0.out.trans (Goes.of_below (L := L) hb))
         clear hb)
      | (go_at_call 10; refine (num19 _ _).mono ?_; rintro e w2 ⟨rfl, rfl⟩))
    go_ret
    exact ⟨rfl, L, S1.out, G1.out⟩
set_option maxHeartbeats 2000000 in
set_option maxRecDepth 100000 in
theorem does_3 {w : World} {L : Lay} {m : PSt} (h : St w L none2 m) (hk : Ok m) (kind id key v n : Int) (ho : OkStp ⟨kind, id, key, v, n⟩) (hdl : m.done.length < 5000000000000) (hkd : kind = 3) :
    Calls Tryz.prog 26 #[.pointer (some ⟨L.p, 0, none⟩), .agg #[.int .i64 kind, .int .i64 id, .int .i64 key, .int .u64 v, .int .i64 n]] w fun e w' => e = .returned (.int .i64 (m.stepE ⟨kind, id, key, v, n⟩)) ∧ ∃ L', St w' L' none2 (m.step ⟨kind, id, key, v, n⟩) ∧ Goes w L w' L' := by
  have B0 := Aside0.mk (below_alloc (Below.refl w.heap.size w) (.cells #[.int .i64 kind, .int .i64 id, .int .i64 key, .int .u64 v, .int .i64 n] 63))
  have HA := Aside0.mk (h.below B0.out)
  have G0 := Aside0.mk (Goes.of_below (L := L) B0.out)
  have HK := Aside0.mk hk
  have HI := Aside0.mk (show (Lit.int .i64 id).wf = true from ho.id)
  have HY := Aside0.mk (show (Lit.int .i64 key).wf = true from ho.key)
  have HN := Aside0.mk (show (Lit.int .i64 n).wf = true from ho.n)
  have HDL := Aside0.mk hdl
  clear h hk ho hdl
  subst hkd
  go_enter Tryz.func26, Tryz.ntmps26
  go_wp2_with (first
    | (go_at_call 20; refine (put21 HA.out HK.out id key v HI.out HY.out).mono ?_; rintro e w1 ⟨rfl, L1, hs, hg⟩
       have S1 := Aside0.mk hs
       have G1 := Aside0.mk (G0.out.trans hg)
       clear hs hg)
    | (go_at_call 10; refine (num19 _ _).mono ?_; rintro e w2 ⟨rfl, rfl⟩))
  go_ret
  exact ⟨rfl, L1, S1.out, G1.out⟩
set_option maxHeartbeats 2000000 in
set_option maxRecDepth 100000 in
theorem does_4 {w : World} {L : Lay} {m : PSt} (h : St w L none2 m) (hk : Ok m) (kind id key v n : Int) (ho : OkStp ⟨kind, id, key, v, n⟩) (hdl : m.done.length < 5000000000000) (hkd : kind = 4) :
    Calls Tryz.prog 26 #[.pointer (some ⟨L.p, 0, none⟩), .agg #[.int .i64 kind, .int .i64 id, .int .i64 key, .int .u64 v, .int .i64 n]] w fun e w' => e = .returned (.int .i64 (m.stepE ⟨kind, id, key, v, n⟩)) ∧ ∃ L', St w' L' none2 (m.step ⟨kind, id, key, v, n⟩) ∧ Goes w L w' L' := by
  have B0 := Aside0.mk (below_alloc (Below.refl w.heap.size w) (.cells #[.int .i64 kind, .int .i64 id, .int .i64 key, .int .u64 v, .int .i64 n] 63))
  have HA := Aside0.mk (h.below B0.out)
  have G0 := Aside0.mk (Goes.of_below (L := L) B0.out)
  have HK := Aside0.mk hk
  have HI := Aside0.mk (show (Lit.int .i64 id).wf = true from ho.id)
  have HY := Aside0.mk (show (Lit.int .i64 key).wf = true from ho.key)
  have HN := Aside0.mk (show (Lit.int .i64 n).wf = true from ho.n)
  have HDL := Aside0.mk hdl
  clear h hk ho hdl
  subst hkd
  go_enter Tryz.func26, Tryz.ntmps26
  go_wp2_with (first
    | (go_at_call 38; refine (delete27 HA.out HK.out id key HI.out HY.out).mono ?_; rintro e w1 ⟨rfl, L1, hs, hg⟩
       have S1 := Aside0.mk hs
       have G1 := Aside0.mk (G0.out.trans hg)
       clear hs hg)
    | (go_at_call 10; refine (num19 _ _).mono ?_; rintro e w2 ⟨rfl, rfl⟩))
  go_ret
  exact ⟨rfl, L1, S1.out, G1.out⟩
set_option maxHeartbeats 2000000 in
set_option maxRecDepth 100000 in
theorem does_5 {w : World} {L : Lay} {m : PSt} (h : St w L none2 m) (hk : Ok m) (kind id key v n : Int) (ho : OkStp ⟨kind, id, key, v, n⟩) (hdl : m.done.length < 5000000000000) (hkd : kind = 5) :
    Calls Tryz.prog 26 #[.pointer (some ⟨L.p, 0, none⟩), .agg #[.int .i64 kind, .int .i64 id, .int .i64 key, .int .u64 v, .int .i64 n]] w fun e w' => e = .returned (.int .i64 (m.stepE ⟨kind, id, key, v, n⟩)) ∧ ∃ L', St w' L' none2 (m.step ⟨kind, id, key, v, n⟩) ∧ Goes w L w' L' := by
  have B0 := Aside0.mk (below_alloc (Below.refl w.heap.size w) (.cells #[.int .i64 kind, .int .i64 id, .int .i64 key, .int .u64 v, .int .i64 n] 63))
  have HA := Aside0.mk (h.below B0.out)
  have G0 := Aside0.mk (Goes.of_below (L := L) B0.out)
  have HK := Aside0.mk hk
  have HI := Aside0.mk (show (Lit.int .i64 id).wf = true from ho.id)
  have HY := Aside0.mk (show (Lit.int .i64 key).wf = true from ho.key)
  have HN := Aside0.mk (show (Lit.int .i64 n).wf = true from ho.n)
  have HDL := Aside0.mk hdl
  clear h hk ho hdl
  subst hkd
  go_enter Tryz.func26, Tryz.ntmps26
  go_wp2_with (first
    | (go_at_call 21; refine (commit23 HA.out HK.out id HI.out HDL.out).mono ?_; rintro e w1 ⟨rfl, L1, hs, hg⟩
       have S1 := Aside0.mk hs
       have G1 := Aside0.mk (G0.out.trans hg)
       clear hs hg)
    | (go_at_call 10; refine (num19 _ _).mono ?_; rintro e w2 ⟨rfl, rfl⟩))
  go_ret
  exact ⟨rfl, L1, S1.out, G1.out⟩
set_option maxHeartbeats 2000000 in
set_option maxRecDepth 100000 in
theorem does_6 {w : World} {L : Lay} {m : PSt} (h : St w L none2 m) (hk : Ok m) (kind id key v n : Int) (ho : OkStp ⟨kind, id, key, v, n⟩) (hdl : m.done.length < 5000000000000) (hkd : kind = 6) :
    Calls Tryz.prog 26 #[.pointer (some ⟨L.p, 0, none⟩), .agg #[.int .i64 kind, .int .i64 id, .int .i64 key, .int .u64 v, .int .i64 n]] w fun e w' => e = .returned (.int .i64 (m.stepE ⟨kind, id, key, v, n⟩)) ∧ ∃ L', St w' L' none2 (m.step ⟨kind, id, key, v, n⟩) ∧ Goes w L w' L' := by
  have B0 := Aside0.mk (below_alloc (Below.refl w.heap.size w) (.cells #[.int .i64 kind, .int .i64 id, .int .i64 key, .int .u64 v, .int .i64 n] 63))
  have HA := Aside0.mk (h.below B0.out)
  have G0 := Aside0.mk (Goes.of_below (L := L) B0.out)
  have HK := Aside0.mk hk
  have HI := Aside0.mk (show (Lit.int .i64 id).wf = true from ho.id)
  have HY := Aside0.mk (show (Lit.int .i64 key).wf = true from ho.key)
  have HN := Aside0.mk (show (Lit.int .i64 n).wf = true from ho.n)
  have HDL := Aside0.mk hdl
  clear h hk ho hdl
  subst hkd
  go_enter Tryz.func26, Tryz.ntmps26
  go_wp2_with (first
    | (go_at_call 11; refine (abort28 HA.out HK.out id HI.out).mono ?_; rintro e w1 ⟨rfl, L1, hs, hg⟩
       have S1 := Aside0.mk hs
       have G1 := Aside0.mk (G0.out.trans hg)
       clear hs hg)
    | (go_at_call 10; refine (num19 _ _).mono ?_; rintro e w2 ⟨rfl, rfl⟩))
  go_ret
  exact ⟨rfl, L1, S1.out, G1.out⟩
set_option maxHeartbeats 2000000 in
set_option maxRecDepth 100000 in
theorem does_7 {w : World} {L : Lay} {m : PSt} (h : St w L none2 m) (hk : Ok m) (kind id key v n : Int) (ho : OkStp ⟨kind, id, key, v, n⟩) (hdl : m.done.length < 5000000000000) (hkd : kind = 7) :
    Calls Tryz.prog 26 #[.pointer (some ⟨L.p, 0, none⟩), .agg #[.int .i64 kind, .int .i64 id, .int .i64 key, .int .u64 v, .int .i64 n]] w fun e w' => e = .returned (.int .i64 (m.stepE ⟨kind, id, key, v, n⟩)) ∧ ∃ L', St w' L' none2 (m.step ⟨kind, id, key, v, n⟩) ∧ Goes w L w' L' := by
  have B0 := Aside0.mk (below_alloc (Below.refl w.heap.size w) (.cells #[.int .i64 kind, .int .i64 id, .int .i64 key, .int .u64 v, .int .i64 n] 63))
  have HA := Aside0.mk (h.below B0.out)
  have G0 := Aside0.mk (Goes.of_below (L := L) B0.out)
  have HK := Aside0.mk hk
  have HI := Aside0.mk (show (Lit.int .i64 id).wf = true from ho.id)
  have HY := Aside0.mk (show (Lit.int .i64 key).wf = true from ho.key)
  have HN := Aside0.mk (show (Lit.int .i64 n).wf = true from ho.n)
  have HDL := Aside0.mk hdl
  clear h hk ho hdl
  subst hkd
  go_enter Tryz.func26, Tryz.ntmps26
  go_wp2_with (first
    | (go_at_call 39; refine (check29 HA.out HK.out n HN.out).mono ?_; rintro e w1 ⟨rfl, L1, hs, hg⟩
       have S1 := Aside0.mk hs
       have G1 := Aside0.mk (G0.out.trans hg)
       clear hs hg)
    | (go_at_call 10; refine (num19 _ _).mono ?_; rintro e w2 ⟨rfl, rfl⟩))
  go_ret
  exact ⟨rfl, L1, S1.out, G1.out⟩
set_option maxHeartbeats 2000000 in
set_option maxRecDepth 100000 in
theorem does_8 {w : World} {L : Lay} {m : PSt} (h : St w L none2 m) (hk : Ok m) (kind id key v n : Int) (ho : OkStp ⟨kind, id, key, v, n⟩) (hdl : m.done.length < 5000000000000) (hkd : kind = 8) :
    Calls Tryz.prog 26 #[.pointer (some ⟨L.p, 0, none⟩), .agg #[.int .i64 kind, .int .i64 id, .int .i64 key, .int .u64 v, .int .i64 n]] w fun e w' => e = .returned (.int .i64 (m.stepE ⟨kind, id, key, v, n⟩)) ∧ ∃ L', St w' L' none2 (m.step ⟨kind, id, key, v, n⟩) ∧ Goes w L w' L' := by
  have B0 := Aside0.mk (below_alloc (Below.refl w.heap.size w) (.cells #[.int .i64 kind, .int .i64 id, .int .i64 key, .int .u64 v, .int .i64 n] 63))
  have HA := Aside0.mk (h.below B0.out)
  have G0 := Aside0.mk (Goes.of_below (L := L) B0.out)
  have HK := Aside0.mk hk
  have HI := Aside0.mk (show (Lit.int .i64 id).wf = true from ho.id)
  have HY := Aside0.mk (show (Lit.int .i64 key).wf = true from ho.key)
  have HN := Aside0.mk (show (Lit.int .i64 n).wf = true from ho.n)
  have HDL := Aside0.mk hdl
  clear h hk ho hdl
  subst hkd
  go_enter Tryz.func26, Tryz.ntmps26
  go_wp2_with (first
    | (go_at_call 16; refine (renew30 HA.out).mono ?_; rintro e w1 ⟨rfl, L1, hs, hg⟩
       have S1 := Aside0.mk hs
       have G1 := Aside0.mk (G0.out.trans hg)
       clear hs hg)
    | (go_at_call 10; refine (num19 _ _).mono ?_; rintro e w2 ⟨rfl, rfl⟩))
  go_ret
  exact ⟨rfl, L1, S1.out, G1.out⟩
set_option maxHeartbeats 2000000 in
set_option maxRecDepth 100000 in
theorem does_0 {w : World} {L : Lay} {m : PSt} (h : St w L none2 m) (hk : Ok m) (kind id key v n : Int) (ho : OkStp ⟨kind, id, key, v, n⟩) (hdl : m.done.length < 5000000000000) (k1 : ¬ (kind = 1)) (k2 : ¬ (kind = 2)) (k3 : ¬ (kind = 3)) (k4 : ¬ (kind = 4)) (k5 : ¬ (kind = 5)) (k6 : ¬ (kind = 6)) (k7 : ¬ (kind = 7)) (k8 : ¬ (kind = 8)) :
    Calls Tryz.prog 26 #[.pointer (some ⟨L.p, 0, none⟩), .agg #[.int .i64 kind, .int .i64 id, .int .i64 key, .int .u64 v, .int .i64 n]] w fun e w' => e = .returned (.int .i64 (m.stepE ⟨kind, id, key, v, n⟩)) ∧ ∃ L', St w' L' none2 (m.step ⟨kind, id, key, v, n⟩) ∧ Goes w L w' L' := by
  have B0 := Aside0.mk (below_alloc (Below.refl w.heap.size w) (.cells #[.int .i64 kind, .int .i64 id, .int .i64 key, .int .u64 v, .int .i64 n] 63))
  have HA := Aside0.mk (h.below B0.out)
  have G0 := Aside0.mk (Goes.of_below (L := L) B0.out)
  have HK := Aside0.mk hk
  have HI := Aside0.mk (show (Lit.int .i64 id).wf = true from ho.id)
  have HY := Aside0.mk (show (Lit.int .i64 key).wf = true from ho.key)
  have HN := Aside0.mk (show (Lit.int .i64 n).wf = true from ho.n)
  have HDL := Aside0.mk hdl
  clear h hk ho hdl
  have HR := Aside0.mk (show m.stepE ⟨kind, id, key, v, n⟩ = 0 ∧ m.step ⟨kind, id, key, v, n⟩ = m from by unfold PSt.stepE PSt.step; dsimp only; rw [if_neg k1, if_neg k2, if_neg k3, if_neg k4, if_neg k5, if_neg k6, if_neg k7, if_neg k8, if_neg k1, if_neg k2, if_neg k3, if_neg k4, if_neg k5, if_neg k6, if_neg k7, if_neg k8]; exact ⟨rfl, rfl⟩)
  rw [HR.out.1, HR.out.2]
  have b1 : (kind == 1) = false := beq_eq_false_iff_ne.mpr k1
  have b2 : (kind == 2) = false := beq_eq_false_iff_ne.mpr k2
  have b3 : (kind == 3) = false := beq_eq_false_iff_ne.mpr k3
  have b4 : (kind == 4) = false := beq_eq_false_iff_ne.mpr k4
  have b5 : (kind == 5) = false := beq_eq_false_iff_ne.mpr k5
  have b6 : (kind == 6) = false := beq_eq_false_iff_ne.mpr k6
  have b7 : (kind == 7) = false := beq_eq_false_iff_ne.mpr k7
  have b8 : (kind == 8) = false := beq_eq_false_iff_ne.mpr k8
  go_enter Tryz.func26, Tryz.ntmps26
  go_wp2
  go_ret
  exact ⟨rfl, L, HA.out, G0.out⟩
theorem does15 {w : World} {L : Lay} {m : PSt} (h : St w L none2 m) (hk : Ok m) (o : Stp) (ho : OkStp o) (hdl : m.done.length < 5000000000000) :
    Calls Tryz.prog 26 #[.pointer (some ⟨L.p, 0, none⟩), stpV o] w fun e w' => e = .returned (.int .i64 (m.stepE o)) ∧ ∃ L', St w' L' none2 (m.step o) ∧ Goes w L w' L' := by
  obtain ⟨kind, id, key, v, n⟩ := o
  show Calls Tryz.prog 26 #[.pointer (some ⟨L.p, 0, none⟩), .agg #[.int .i64 kind, .int .i64 id, .int .i64 key, .int .u64 v, .int .i64 n]] w _
  by_cases k1 : kind = 1
  · exact does_1 h hk kind id key v n ho hdl k1
  by_cases k2 : kind = 2
  · exact does_2 h hk kind id key v n ho hdl k2
  by_cases k3 : kind = 3
  · exact does_3 h hk kind id key v n ho hdl k3
  by_cases k4 : kind = 4
  · exact does_4 h hk kind id key v n ho hdl k4
  by_cases k5 : kind = 5
  · exact does_5 h hk kind id key v n ho hdl k5
  by_cases k6 : kind = 6
  · exact does_6 h hk kind id key v n ho hdl k6
  by_cases k7 : kind = 7
  · exact does_7 h hk kind id key v n ho hdl k7
  by_cases k8 : kind = 8
  · exact does_8 h hk kind id key v n ho hdl k8
  exact does_0 h hk kind id key v n ho hdl k1 k2 k3 k4 k5 k6 k7 k8
theorem Ok.step {m : PSt} (h : Ok m) (o : Stp) (ho : OkStp o) : Ok (m.step o) := by
  unfold PSt.step
  by_cases k1 : o.kind = 1
  · rw [if_pos k1]; exact h.begin_ _
  rw [if_neg k1]
  by_cases k2 : o.kind = 2
  · rw [if_pos k2]; exact h.get _ _
  rw [if_neg k2]
  by_cases k3 : o.kind = 3
  · rw [if_pos k3]; exact h.changed _ _ ho.v
  rw [if_neg k3]
  by_cases k4 : o.kind = 4
  · rw [if_pos k4]; exact h.delete _ _
  rw [if_neg k4]
  by_cases k5 : o.kind = 5
  · rw [if_pos k5]; exact h.commit _
  rw [if_neg k5]
  by_cases k6 : o.kind = 6
  · rw [if_pos k6]; exact h.abort _
  rw [if_neg k6]
  by_cases k7 : o.kind = 7
  · rw [if_pos k7]; exact h.check _
  rw [if_neg k7]
  by_cases k8 : o.kind = 8
  · rw [if_pos k8]; exact h.renew
  rw [if_neg k8]; exact h
end Go.Proofs.YtcdfdckdodgbpaaGreatDoor.QA

/-! TNew -/
namespace Go.Proofs.YtcdfdckdodgbpaaGreatDoor.QA
open Go.RowKit Go.Maps Go.Proofs.YtcdfdckdodgbpaaGreatDoorW.PrintWords Go.Proofs.YtcdfdckdodgbpaaGreatDoorW.PrintLast Go.Proofs.YtcdfdckdodgbpaaGreatDoorW.PrintMore
set_option linter.unusedVariables false
set_option linter.unusedSimpArgs false
def newM (c0 c1 c2 c3 c4 c5 : Int) : PSt := { pages := c0, slots := c1, log := c2, frames := c3, table := c4, keys := c5, opn := [], left := List.replicate c0.toNat [], used := 0, done := [] }
theorem newM_ok {c0 c1 c2 c3 c4 c5 : Int} (h0 : 1 ≤ c0 ∧ c0 ≤ 16) (h1 : 1 ≤ c1 ∧ c1 ≤ 8) (h2 : 1024 ≤ c2 ∧ c2 ≤ 65536) (h4 : 1 ≤ c4 ∧ c4 ≤ 8) (h5 : 1 ≤ c5 ∧ c5 ≤ 1048576) : Ok (newM c0 c1 c2 c3 c4 c5) where
  pages := h0
  slots := h1
  log := h2
  table := h4
  keys := h5
  up := Up.nil
  txn := fun id t h => by cases h
  size := by show (0 : Int) ≤ c4; omega
  left := by show ((List.replicate c0.toNat ([] : Con)).length : Int) = c0; rw [List.length_replicate]; omega
  page := fun i c h => by
    have h6 : (List.replicate c0.toNat ([] : Con))[i]? = some c := h
    rw [List.getElem?_replicate] at h6
    by_cases h7 : i < c0.toNat
    · rw [if_pos h7] at h6
      injection h6 with h6
      subst h6
      exact ⟨Up.nil, by show (0 : Int) ≤ c1; omega, fun p hp => (by cases hp), fun p hp => (by cases hp)⟩
    · rw [if_neg h7] at h6; cases h6
  used := Int.le_refl _
  room := by show (0 : Int) + 0 ≤ c2; omega
  lock := fun id t id' t' pg h => by cases h
def Lay.first (p ob gl : Nat) : Lay :=
  { role := fun k => if k = 0 then .glob else if k = p then .state else if k = ob then .openM else if k = gl then .leftA else .out
    p := p, ob := ob, gl := gl, tb := fun _ => 0, pb := fun _ => 0, cb := fun _ _ => 0, lb := fun _ => none }
theorem leftV_first (p ob gl n : Nat) : madeCells #[.map none] n = leftV (Lay.first p ob gl) n := by
  apply Array.ext'
  rw [toList_madeCells_one]
  unfold leftV Lay.first lbV
  apply List.ext_getElem?
  intro i
  by_cases hi : i < n
  · simp [hi]
  · simp [hi]
theorem St.first {w : World} {p ob gl : Nat} {c0 c1 c2 c3 c4 c5 : Int} (hp : w.heap[p]? = some (.cells #[.int .i64 c0, .int .i64 c1, .int .i64 c2, .int .i64 c3, .int .i64 c4, .int .i64 c5, .map (some ob), .slice (some ⟨gl, 0, none⟩) c0.toNat c0.toNat, .int .i64 0, .slice none 0 0] 70 (0, 0)))
    (ho : OM Tryz.prog ptrS w ob []) (hg : w.heap[gl]? = some (.cells (madeCells #[.map none] c0.toNat) 75 (0, 0))) (h0 : 0 < p ∧ 0 < ob ∧ 0 < gl) (h1 : ob ≠ p ∧ gl ≠ p ∧ gl ≠ ob) (g0 : Glob w) : St w (Lay.first p ob gl) none2 (newM c0 c1 c2 c3 c4 c5) := by
  obtain ⟨p0, o0, l0⟩ := h0
  obtain ⟨n1, n2, n3⟩ := h1
  have hlen : (newM c0 c1 c2 c3 c4 c5).left.length = c0.toNat := List.length_replicate
  have rp : (Lay.first p ob gl).role p = .state := by show (if p = 0 then _ else if p = p then _ else _) = _; rw [if_neg (by omega), if_pos rfl]
  have ro : (Lay.first p ob gl).role ob = .openM := by show (if ob = 0 then _ else if ob = p then _ else if ob = ob then _ else _) = _; rw [if_neg (by omega), if_neg n1, if_pos rfl]
  have rg : (Lay.first p ob gl).role gl = .leftA := by show (if gl = 0 then _ else if gl = p then _ else if gl = ob then _ else if gl = gl then _ else _) = _; rw [if_neg (by omega), if_neg n2, if_neg n3, if_pos rfl]
  refine ⟨⟨.slice none 0 0, ?_⟩, fun id t h => by cases h⟩
  refine ⟨?_, Kd.R_nil _ _ _ _ _, rp, ro, rg, ho, ?_, fun i c hi => .inl ⟨rfl, ?_⟩, fun k hk => ?_, g0, rfl⟩
  · unfold stCells
    rw [hlen]
    exact hp
  · rw [hlen, ← leftV_first]
    exact hg
  · have h6 : (List.replicate c0.toNat ([] : Con))[i]? = some c := hi
    rw [List.getElem?_replicate] at h6
    by_cases h7 : i < c0.toNat
    · rw [if_pos h7] at h6
      injection h6 with h6
      exact h6.symm
    · rw [if_neg h7] at h6; cases h6
  · have h2 := blk_lt hp
    have h3 := blk_lt hg
    have h4 := ho.lt
    show (if k = 0 then _ else if k = p then _ else if k = ob then _ else if k = gl then _ else _) = _
    rw [if_neg (by omega), if_neg (by omega), if_neg (by omega), if_neg (by omega)]
theorem infoM : (Tryz.prog.info? 75).map (fun i => (i.zero, i.size, i.bytes)) = some (some (.map none), 1, 8) := by kernel_rfl
theorem makeLeft (n : Int) (hn : 0 ≤ n ∧ n ≤ 16) (w : World) : (Instr.makeSlice 68 (.int .i64 n) (.int .i64 n)).run Tryz.prog w = .ok (.slice (some ⟨w.heap.size, 0, none⟩) n.toNat n.toNat) (w.alloc (.cells (madeCells #[.map none] n.toNat) 75)) := by
  obtain ⟨i, hi, hz⟩ := Option.map_eq_some_iff.1 infoM
  simp only [Prod.mk.injEq] at hz
  obtain ⟨h1, h2, h3⟩ := hz
  have h := run_make (P := Tryz.prog) w 68 75 i (.map none) Tryz.underlying68 hi h1 .i64 .i64 n n hn.1 (Int.le_refl _) (by rw [h3]; omega) (by omega)
  rw [h2, Nat.mul_one] at h
  exact h
theorem three_new (W : World) (a b c : Obj) : (((W.alloc a).alloc b).alloc c).heap[W.heap.size]? = some a ∧ (((W.alloc a).alloc b).alloc c).heap[W.heap.size + 1]? = some b ∧ (((W.alloc a).alloc b).alloc c).heap[W.heap.size + 1 + 1]? = some c ∧ Below W.heap.size W (((W.alloc a).alloc b).alloc c) := by
  have s1 : (W.alloc a).heap.size = W.heap.size + 1 := by simp
  have s2 : ((W.alloc a).alloc b).heap.size = W.heap.size + 1 + 1 := by simp
  refine ⟨?_, ?_, ?_, below_alloc (below_alloc (below_alloc (Below.refl W.heap.size W) a) b) c⟩
  · rw [lt_alloc (by omega), lt_alloc (by omega)]; exact heap_alloc_new W a
  · rw [lt_alloc (by omega), ← s1]; exact heap_alloc_new _ b
  · rw [← s2]; exact heap_alloc_new _ c
theorem OM.at_new {W : World} {s : Shape Nat} {b : Nat} (h : W.heap[b]? = some (.map #[] 0)) : OM Tryz.prog s W b [] := by
  have h0 : ∃ V : World, V.heap[b]? = some (.map #[] 0) ∧ OM Tryz.prog s V b [] := by
    refine ⟨{ W with heap := (W.heap.extract 0 b).push (.map #[] 0) }, ?_, ?_⟩
    · have hlt := blk_lt h
      simp [Array.getElem?_push]
      omega
    · have hlt := blk_lt h
      have h1 := OM.made (P := Tryz.prog) { W with heap := W.heap.extract 0 b } s
      have h2 : ({ W with heap := W.heap.extract 0 b } : World).heap.size = b := by simp; omega
      rw [h2] at h1
      exact h1
  obtain ⟨V, h1, h2⟩ := h0
  exact h2.block (by rw [h, h1])
theorem new_fin {w W0 W1 : World} (B0 : Below w.heap.size w W0) (G : Glob w) {c0 c1 c2 c3 c4 c5 : Int} {ob gl : Nat} (hb : Below W0.heap.size W0 W1)
    (hp : W1.heap[W0.heap.size + 1 + 1]? = some (.cells #[.int .i64 c0, .int .i64 c1, .int .i64 c2, .int .i64 c3, .int .i64 c4, .int .i64 c5, .map (some ob), .slice (some ⟨gl, 0, none⟩) c0.toNat c0.toNat, .int .i64 0, .slice none 0 0] 70 (0, 0)))
    (ho : W1.heap[ob]? = some (.map #[] 0)) (hg : W1.heap[gl]? = some (.cells (madeCells #[.map none] c0.toNat) 75 (0, 0))) (hn : (ob = W0.heap.size ∧ gl = W0.heap.size + 1) ∨ (gl = W0.heap.size ∧ ob = W0.heap.size + 1)) :
    w.heap.size ≤ W0.heap.size + 1 + 1 ∧ Below w.heap.size w W1 ∧ ∃ L : Lay, L.p = W0.heap.size + 1 + 1 ∧ St W1 L none2 (newM c0 c1 c2 c3 c4 c5) ∧ ∀ k, 0 < k → k < w.heap.size → L.role k = .out := by
  have h1 := B0.size
  have h2 := G.lt
  have hbb := B0.trans (hb.mono B0.size)
  refine ⟨by omega, hbb, Lay.first (W0.heap.size + 1 + 1) ob gl, rfl, St.first hp (OM.at_new ho) hg ⟨by omega, by omega, by omega⟩ ⟨by omega, by omega, by omega⟩ (G.below hbb), fun k hk hk2 => ?_⟩
  show (if k = 0 then _ else if k = W0.heap.size + 1 + 1 then _ else if k = ob then _ else if k = gl then _ else _) = _
  rw [if_neg (by omega), if_neg (by omega), if_neg (by omega), if_neg (by omega)]
set_option maxHeartbeats 4000000 in
set_option maxRecDepth 100000 in
theorem new17 {w : World} (hg : Glob w) (c0 c1 c2 c3 c4 c5 : Int) (h0 : 1 ≤ c0 ∧ c0 ≤ 16) (h1 : 1 ≤ c1 ∧ c1 ≤ 8) (h2 : 1024 ≤ c2 ∧ c2 ≤ 65536) (h3 : 2 ≤ c3 ∧ c3 ≤ 16) (h4 : 1 ≤ c4 ∧ c4 ≤ 8) (h5 : 1 ≤ c5 ∧ c5 ≤ 1048576) :
    Calls Tryz.prog 25 #[.agg #[.int .i64 c0, .int .i64 c1, .int .i64 c2, .int .i64 c3, .int .i64 c4, .int .i64 c5]] w fun e w' => ∃ p, e = .returned (.tuple #[.pointer (some ⟨p, 0, none⟩), .int .i64 0]) ∧ w.heap.size ≤ p ∧ Below w.heap.size w w' ∧
      ∃ L : Lay, L.p = p ∧ St w' L none2 (newM c0 c1 c2 c3 c4 c5) ∧ ∀ k, 0 < k → k < w.heap.size → L.role k = .out := by
  have hmm := @run_makeMap Tryz.prog
  have hms := makeLeft c0 (by omega)
  have G := Aside0.mk hg
  have d0 : decide (1 ≤ c0 ∧ c0 ≤ 16) = true := decide_eq_true h0
  have d1 : decide (1 ≤ c1 ∧ c1 ≤ 8) = true := decide_eq_true h1
  have d2 : decide (1024 ≤ c2 ∧ c2 ≤ 65536) = true := decide_eq_true h2
  have d3 : decide (2 ≤ c3 ∧ c3 ≤ 16) = true := decide_eq_true h3
  have d4 : decide (1 ≤ c4 ∧ c4 ≤ 8) = true := decide_eq_true h4
  have d5 : decide (1 ≤ c5 ∧ c5 ≤ 1048576) = true := decide_eq_true h5
  clear hg h0 h1 h2 h3 h4 h5
  go_enter Tryz.func25, Tryz.ntmps25
  go_upto_region 4 with (first
    | (go_at_call 33; refine (within33 _ _ _ _).mono ?_; rintro e w1 ⟨rfl, rfl⟩; rw [d0])
    | ((with_reducible refine gate_dst (N := 14) rfl ?_); refine gate_guard rfl ?_; refine goesL_ (some 14) rfl rfl Tryz.func33 (by kernel_rfl) rfl #[.int .i64 c1, .int .i64 1, .int .i64 8] rfl (by (try simp only [List.map_toArray, List.map_cons, List.map_nil]); first | done | rfl) ?_; refine (within33 _ _ _ _).mono ?_; rintro e w1 ⟨rfl, rfl⟩; rw [d1]; refine ⟨_, rfl, ?_⟩)
    | ((with_reducible refine gate_dst (N := 20) rfl ?_); refine gate_guard rfl ?_; refine goesL_ (some 20) rfl rfl Tryz.func33 (by kernel_rfl) rfl #[.int .i64 c2, .int .i64 1024, .int .i64 65536] rfl (by (try simp only [List.map_toArray, List.map_cons, List.map_nil]); first | done | rfl) ?_; refine (within33 _ _ _ _).mono ?_; rintro e w1 ⟨rfl, rfl⟩; rw [d2]; refine ⟨_, rfl, ?_⟩)
    | ((with_reducible refine gate_dst (N := 26) rfl ?_); refine gate_guard rfl ?_; refine goesL_ (some 26) rfl rfl Tryz.func33 (by kernel_rfl) rfl #[.int .i64 c3, .int .i64 2, .int .i64 16] rfl (by (try simp only [List.map_toArray, List.map_cons, List.map_nil]); first | done | rfl) ?_; refine (within33 _ _ _ _).mono ?_; rintro e w1 ⟨rfl, rfl⟩; rw [d3]; refine ⟨_, rfl, ?_⟩)
    | ((with_reducible refine gate_dst (N := 32) rfl ?_); refine gate_guard rfl ?_; refine goesL_ (some 32) rfl rfl Tryz.func33 (by kernel_rfl) rfl #[.int .i64 c4, .int .i64 1, .int .i64 8] rfl (by (try simp only [List.map_toArray, List.map_cons, List.map_nil]); first | done | rfl) ?_; refine (within33 _ _ _ _).mono ?_; rintro e w1 ⟨rfl, rfl⟩; rw [d4]; refine ⟨_, rfl, ?_⟩)
    | ((with_reducible refine gate_dst (N := 38) rfl ?_); refine gate_guard rfl ?_; refine goesL_ (some 38) rfl rfl Tryz.func33 (by kernel_rfl) rfl #[.int .i64 c5, .int .i64 1, .int .i64 1048576] rfl (by (try simp only [List.map_toArray, List.map_cons, List.map_nil]); first | done | rfl) ?_; refine (within33 _ _ _ _).mono ?_; rintro e w1 ⟨rfl, rfl⟩; rw [d5]; refine ⟨_, rfl, ?_⟩))
  obtain ⟨W0, hW0⟩ : ∃ W0, W0 = ((w.alloc (Obj.cells #[Value.int IntKind.i64 c0, Value.int IntKind.i64 c1, Value.int IntKind.i64 c2, Value.int IntKind.i64 c3, Value.int IntKind.i64 c4, Value.int IntKind.i64 c5] 25)).alloc (Obj.cells #[Value.int IntKind.i64 c0, Value.int IntKind.i64 c1, Value.int IntKind.i64 c2] 23)) := ⟨_, rfl⟩
  rw [← hW0]
  have B0 := Aside0.mk (show Below w.heap.size w W0 from by rw [hW0]; exact below_alloc (below_alloc (Below.refl w.heap.size w) _) _)
  have K0 : W0.heap[w.heap.size]? = some (.cells #[.int .i64 c0, .int .i64 c1, .int .i64 c2, .int .i64 c3, .int .i64 c4, .int .i64 c5] 25 (0, 0)) := by
    rw [hW0, lt_alloc (by simp)]
    exact heap_alloc_new w _
  have K1 : W0.heap[w.heap.size + 1]? = some (.cells #[.int .i64 c0, .int .i64 c1, .int .i64 c2] 23 (0, 0)) := by
    rw [hW0]
    have h1 := heap_alloc_new (w.alloc (Obj.cells #[Value.int IntKind.i64 c0, Value.int IntKind.i64 c1, Value.int IntKind.i64 c2, Value.int IntKind.i64 c3, Value.int IntKind.i64 c4, Value.int IntKind.i64 c5] 25)) (Obj.cells #[Value.int IntKind.i64 c0, Value.int IntKind.i64 c1, Value.int IntKind.i64 c2] 23)
    simpa using h1
  have y0 : W0.cell? ⟨w.heap.size, 0, none⟩ = some (.int .i64 c0) := blk_cell K0 0
  have y1 : W0.cell? ⟨w.heap.size, 1, none⟩ = some (.int .i64 c1) := blk_cell K0 1
  have y2 : W0.cell? ⟨w.heap.size, 2, none⟩ = some (.int .i64 c2) := blk_cell K0 2
  have y3 : W0.cell? ⟨w.heap.size, 3, none⟩ = some (.int .i64 c3) := blk_cell K0 3
  have y4 : W0.cell? ⟨w.heap.size, 4, none⟩ = some (.int .i64 c4) := blk_cell K0 4
  have y5 : W0.cell? ⟨w.heap.size, 5, none⟩ = some (.int .i64 c5) := blk_cell K0 5
  have y6 : W0.cell? ⟨w.heap.size + 1, 0, none⟩ = some (.int .i64 c0) := blk_cell K1 0
  clear K0 K1 hW0 d0 d1 d2 d3 d4 d5
  have ka : ∀ (w1 : World) (o : Obj), (w1.cell? ⟨w.heap.size, 0, none⟩ = some (.int .i64 c0) ∧ w1.cell? ⟨w.heap.size, 1, none⟩ = some (.int .i64 c1) ∧ w1.cell? ⟨w.heap.size, 2, none⟩ = some (.int .i64 c2) ∧ w1.cell? ⟨w.heap.size, 3, none⟩ = some (.int .i64 c3) ∧ w1.cell? ⟨w.heap.size, 4, none⟩ = some (.int .i64 c4) ∧ w1.cell? ⟨w.heap.size, 5, none⟩ = some (.int .i64 c5) ∧ w1.cell? ⟨w.heap.size + 1, 0, none⟩ = some (.int .i64 c0)) → (w1.alloc o).cell? ⟨w.heap.size, 0, none⟩ = some (.int .i64 c0) ∧ (w1.alloc o).cell? ⟨w.heap.size, 1, none⟩ = some (.int .i64 c1) ∧ (w1.alloc o).cell? ⟨w.heap.size, 2, none⟩ = some (.int .i64 c2) ∧ (w1.alloc o).cell? ⟨w.heap.size, 3, none⟩ = some (.int .i64 c3) ∧ (w1.alloc o).cell? ⟨w.heap.size, 4, none⟩ = some (.int .i64 c4) ∧ (w1.alloc o).cell? ⟨w.heap.size, 5, none⟩ = some (.int .i64 c5) ∧ (w1.alloc o).cell? ⟨w.heap.size + 1, 0, none⟩ = some (.int .i64 c0) := fun w1 o ⟨a0, a1, a2, a3, a4, a5, a6⟩ => ⟨pw_cell_below (below_alloc (Below.refl _ w1) o) a0, pw_cell_below (below_alloc (Below.refl _ w1) o) a1, pw_cell_below (below_alloc (Below.refl _ w1) o) a2, pw_cell_below (below_alloc (Below.refl _ w1) o) a3, pw_cell_below (below_alloc (Below.refl _ w1) o) a4, pw_cell_below (below_alloc (Below.refl _ w1) o) a5, pw_cell_below (below_alloc (Below.refl _ w1) o) a6⟩
  have kd : ∀ (w1 : World), (w1.cell? ⟨w.heap.size, 0, none⟩ = some (.int .i64 c0) ∧ w1.cell? ⟨w.heap.size, 1, none⟩ = some (.int .i64 c1) ∧ w1.cell? ⟨w.heap.size, 2, none⟩ = some (.int .i64 c2) ∧ w1.cell? ⟨w.heap.size, 3, none⟩ = some (.int .i64 c3) ∧ w1.cell? ⟨w.heap.size, 4, none⟩ = some (.int .i64 c4) ∧ w1.cell? ⟨w.heap.size, 5, none⟩ = some (.int .i64 c5) ∧ w1.cell? ⟨w.heap.size + 1, 0, none⟩ = some (.int .i64 c0)) → w1.drew.cell? ⟨w.heap.size, 0, none⟩ = some (.int .i64 c0) ∧ w1.drew.cell? ⟨w.heap.size, 1, none⟩ = some (.int .i64 c1) ∧ w1.drew.cell? ⟨w.heap.size, 2, none⟩ = some (.int .i64 c2) ∧ w1.drew.cell? ⟨w.heap.size, 3, none⟩ = some (.int .i64 c3) ∧ w1.drew.cell? ⟨w.heap.size, 4, none⟩ = some (.int .i64 c4) ∧ w1.drew.cell? ⟨w.heap.size, 5, none⟩ = some (.int .i64 c5) ∧ w1.drew.cell? ⟨w.heap.size + 1, 0, none⟩ = some (.int .i64 c0) := fun w1 h => h
  go_region_held3 (fun w' => w'.cell? ⟨w.heap.size, 0, none⟩ = some (.int .i64 c0) ∧ w'.cell? ⟨w.heap.size, 1, none⟩ = some (.int .i64 c1) ∧ w'.cell? ⟨w.heap.size, 2, none⟩ = some (.int .i64 c2) ∧ w'.cell? ⟨w.heap.size, 3, none⟩ = some (.int .i64 c3) ∧ w'.cell? ⟨w.heap.size, 4, none⟩ = some (.int .i64 c4) ∧ w'.cell? ⟨w.heap.size, 5, none⟩ = some (.int .i64 c5) ∧ w'.cell? ⟨w.heap.size + 1, 0, none⟩ = some (.int .i64 c0)) (((repeat (first | with_reducible refine kd _ ?_ | with_reducible refine ka _ _ ?_)); with_reducible exact ⟨y0, y1, y2, y3, y4, y5, y6⟩)) (first | fail)
  all_goals
    clear ka kd y0 y1 y2 y3 y4 y5 y6 hms hmm
    go_wp2
    go_ret2
  · obtain ⟨t1, t2, t3, t4⟩ := three_new W0 (.map #[] 0) (.cells (madeCells #[.map none] c0.toNat) 75) (.cells #[.int .i64 c0, .int .i64 c1, .int .i64 c2, .int .i64 c3, .int .i64 c4, .int .i64 c5, .map (some W0.heap.size), .slice (some ⟨W0.heap.size + 1, 0, none⟩) c0.toNat c0.toNat, .int .i64 0, .slice none 0 0] 70)
    exact ⟨_, rfl, new_fin B0.out G.out (t4.trans (below_drew (Below.refl _ _))) t3 t1 t2 (.inl ⟨rfl, rfl⟩)⟩
  · obtain ⟨t1, t2, t3, t4⟩ := three_new W0 (.cells (madeCells #[.map none] c0.toNat) 75) (.map #[] 0) (.cells #[.int .i64 c0, .int .i64 c1, .int .i64 c2, .int .i64 c3, .int .i64 c4, .int .i64 c5, .map (some (W0.heap.size + 1)), .slice (some ⟨W0.heap.size, 0, none⟩) c0.toNat c0.toNat, .int .i64 0, .slice none 0 0] 70)
    exact ⟨_, rfl, new_fin B0.out G.out (t4.trans (below_drew (Below.refl _ _))) t3 t2 t1 (.inr ⟨rfl, rfl⟩)⟩
end Go.Proofs.YtcdfdckdodgbpaaGreatDoor.QA

/-! TAlive -/
namespace Go.Proofs.YtcdfdckdodgbpaaGreatDoor.QA
open Go.RowKit Go.Maps Go.Proofs.YtcdfdckdodgbpaaGreatDoorW.PrintWords Go.Proofs.YtcdfdckdodgbpaaGreatDoorW.PrintLast Go.Proofs.YtcdfdckdodgbpaaGreatDoorW.PrintMore
set_option linter.unusedVariables false
set_option linter.unusedSimpArgs false
theorem below_goes {w wA w1 : World} {L L1 : Lay} (hb : Below w.heap.size w wA) (hg : Goes wA L w1 L1) (hr : ∀ k, 0 < k → k < w.heap.size → L.role k = .out) (h0 : L.role 0 = .glob) : Below w.heap.size w w1 :=
  ⟨hg.mv.os.trans hb.os, hg.mv.tape.trans hb.tape, hg.mv.output.trans hb.output, Nat.le_trans hb.size hg.mv.size, fun k hk => (hg.mv.block k (Nat.lt_of_lt_of_le hk hb.size) (fun h => by
    by_cases e : k = 0
    · exact h.2 (e ▸ h0)
    · exact h.1 (hr k (by omega) hk))).trans (hb.block k hk)⟩
def mA : PSt := newM 2 2 1024 2 2 100
def mB : PSt := mA.begin_ 3
def mC : PSt := mB.changed 3 ⟨8, 5, false⟩
theorem aliveM : mA.beginE 3 = 0 ∧ mB.changedE 3 ⟨8, 5, false⟩ = 0 ∧ mC.beginE 3 = 160 ∧ mC.used = 90 ∧ mC.kept = 154 ∧ mC.getV 3 8 = 5 ∧ mC.getB 3 8 = true ∧ mC.askedE 3 8 = 0 ∧ (mC.get 3 8).endE 3 = 0 ∧ (mC.get 3 8).done.length = 0 := by
  refine ⟨?_, ?_, ?_, ?_, ?_, ?_, ?_, ?_, ?_, ?_⟩ <;> kernel_rfl
set_option maxHeartbeats 4000000 in
set_option maxRecDepth 100000 in
theorem alive7 {w : World} (hg : Glob w) : Calls Tryz.prog 8 #[] w fun e w' => e = .returned (.bool true) ∧ Below w.heap.size w w' := by
  have G := Aside0.mk hg
  have okA := Aside0.mk (show Ok mA from newM_ok (by omega) (by omega) (by omega) (by omega) (by omega))
  have okB := Aside0.mk (show Ok mB from okA.out.begin_ 3)
  have okC := Aside0.mk (show Ok mC from okB.out.changed 3 ⟨8, 5, false⟩ rfl)
  have okD := Aside0.mk (show Ok (mC.get 3 8) from okC.out.get 3 8)
  have A := Aside0.mk aliveM
  have a1 := Aside0.mk A.out.1
  have a2 := Aside0.mk A.out.2.1
  have a3 := Aside0.mk A.out.2.2.1
  have a4 := Aside0.mk A.out.2.2.2.1
  have a5 := Aside0.mk A.out.2.2.2.2.1
  have a6 := Aside0.mk A.out.2.2.2.2.2.1
  have a7 := Aside0.mk A.out.2.2.2.2.2.2.1
  have a8 := Aside0.mk A.out.2.2.2.2.2.2.2.1
  have a9 := Aside0.mk A.out.2.2.2.2.2.2.2.2.1
  have a10 := Aside0.mk (show (mC.get 3 8).done.length < 5000000000000 from by rw [A.out.2.2.2.2.2.2.2.2.2]; omega)
  have HB2 := Aside0.mk (show mC.begin_ 3 = mC from by unfold PSt.begin_; rw [a3.out, if_neg (by decide)])
  clear hg A
  go_enter Tryz.func8, Tryz.ntmps8
  go_wp2_with (first
    | (go_at_call 27; refine (tidemarklaw18_small.calls 2 2 1024 2 2 100 _ rfl).mono ?_; rintro e w1 ⟨rfl, hb⟩
       have B1 := Aside0.mk hb
       clear hb)
    | (go_at_call 25; refine (new17 (G.out.below B1.out) 2 2 1024 2 2 100 (by omega) (by omega) (by omega) (by omega) (by omega) (by omega)).mono ?_; rintro e w2 ⟨p, rfl, hp, hb, L, rfl, hs, hr⟩
       have B2 := Aside0.mk (B1.out.trans (hb.mono B1.out.size))
       have S2 := Aside0.mk (show St w2 L none2 mA from hs)
       have RR := Aside0.mk (show ∀ k, 0 < k → k < w.heap.size → L.role k = .out from fun k hk hk2 => hr k hk (Nat.lt_of_lt_of_le hk2 B1.out.size))
       have R0 := Aside0.mk (show L.role 0 = .glob from hs.c.elim fun _ c => c.r0)
       obtain ⟨ps, hps⟩ : ∃ ps, ps = L.p := ⟨_, rfl⟩
       have HP := Aside0.mk hps
       rw [← hps]
       clear hp hb hs hr hps)
    | ((with_reducible refine gate_dst (N := 17) rfl ?_); refine gate_guard rfl ?_; refine goesL_ (some 17) rfl rfl Tryz.func10 (by kernel_rfl) rfl #[.int .i64 0] rfl (by (try simp only [List.map_toArray, List.map_cons, List.map_nil]); first | done | rfl) ?_; refine (num19 _ _).mono ?_; rintro e w3 ⟨rfl, rfl⟩; refine ⟨_, rfl, ?_⟩)
    | ((with_reducible refine gate_dst (N := 22) rfl ?_); refine gate_guard rfl ?_; refine goesL_ (some 22) rfl rfl Tryz.func17 (by kernel_rfl) rfl #[.pointer (some ⟨ps, 0, none⟩), .int .i64 3] rfl (by (try simp only [List.map_toArray, List.map_cons, List.map_nil]); first | done | rfl) ?_
       rw [HP.out]
       refine (begin20 S2.out okA.out 3 rfl).mono ?_; rintro e w4 ⟨rfl, L4, hs, hg⟩
       rw [a1.out, ← HP.out]
       have S4 := Aside0.mk (show St w4 L4 none2 mB from hs)
       have G4 := Aside0.mk hg
       clear hs hg
       refine ⟨_, rfl, ?_⟩)
    | ((with_reducible refine gate_dst (N := 23) rfl ?_); refine gate_guard rfl ?_; refine goesL_ (some 23) rfl rfl Tryz.func10 (by kernel_rfl) rfl #[.int .i64 0] rfl (by (try simp only [List.map_toArray, List.map_cons, List.map_nil]); first | done | rfl) ?_; refine (num19 _ _).mono ?_; rintro e w5 ⟨rfl, rfl⟩; refine ⟨_, rfl, ?_⟩)
    | ((with_reducible refine gate_dst (N := 28) rfl ?_); refine gate_guard rfl ?_; refine goesL_ (some 28) rfl rfl Tryz.func20 (by kernel_rfl) rfl #[.pointer (some ⟨ps, 0, none⟩), .int .i64 3, .int .i64 8, .int .u64 5] rfl (by (try simp only [List.map_toArray, List.map_cons, List.map_nil]); first | done | rfl) ?_
       rw [HP.out, ← G4.out.p]
       refine (put21 S4.out okB.out 3 8 5 rfl rfl).mono ?_; rintro e w6 ⟨rfl, L6, hs, hg⟩
       rw [a2.out, G4.out.p, ← HP.out]
       have S6 := Aside0.mk (show St w6 L6 none2 mC from hs)
       have G6 := Aside0.mk (G4.out.trans hg)
       clear hs hg
       refine ⟨_, rfl, ?_⟩)
    | ((with_reducible refine gate_dst (N := 29) rfl ?_); refine gate_guard rfl ?_; refine goesL_ (some 29) rfl rfl Tryz.func10 (by kernel_rfl) rfl #[.int .i64 0] rfl (by (try simp only [List.map_toArray, List.map_cons, List.map_nil]); first | done | rfl) ?_; refine (num19 _ _).mono ?_; rintro e w7 ⟨rfl, rfl⟩; refine ⟨_, rfl, ?_⟩)
    | ((with_reducible refine gate_dst (N := 34) rfl ?_); refine gate_guard rfl ?_; refine goesL_ (some 34) rfl rfl Tryz.func17 (by kernel_rfl) rfl #[.pointer (some ⟨ps, 0, none⟩), .int .i64 3] rfl (by (try simp only [List.map_toArray, List.map_cons, List.map_nil]); first | done | rfl) ?_
       rw [HP.out, ← G6.out.p]
       refine (begin20 S6.out okC.out 3 rfl).mono ?_; rintro e w8 ⟨rfl, L8, hs, hg⟩
       rw [a3.out, G6.out.p, ← HP.out]
       rw [HB2.out] at hs
       have S8 := Aside0.mk hs
       have G8 := Aside0.mk (G6.out.trans hg)
       clear hs hg
       refine ⟨_, rfl, ?_⟩)
    | ((with_reducible refine gate_dst (N := 35) rfl ?_); refine gate_guard rfl ?_; refine goesL_ (some 35) rfl rfl Tryz.func10 (by kernel_rfl) rfl #[.int .i64 160] rfl (by (try simp only [List.map_toArray, List.map_cons, List.map_nil]); first | done | rfl) ?_; refine (num19 _ _).mono ?_; rintro e w9 ⟨rfl, rfl⟩; refine ⟨_, rfl, ?_⟩)
    | (go_at_call 28; rw [HP.out, ← G8.out.p]; refine (used13 S8.out okC.out).mono ?_; rintro e w10 ⟨rfl, hb⟩
       rw [a4.out, a5.out, G8.out.p, ← HP.out]
       have S10 := Aside0.mk (S8.out.below hb)
       have G10 := Aside0.mk (G8.out.trans (Goes.of_below (L := L8) hb))
       clear hb)
    | (go_at_call 19; rw [HP.out, ← G10.out.p]; refine (get_ok S10.out okC.out 3 8 rfl rfl a8.out).mono ?_; rintro e w11 ⟨rfl, L11, hs, hg⟩
       rw [a6.out, a7.out, G10.out.p, ← HP.out]
       have S11 := Aside0.mk hs
       have G11 := Aside0.mk (G10.out.trans hg)
       clear hs hg)
    | ((with_reducible refine gate_dst (N := 64) rfl ?_); refine gate_guard rfl ?_; refine goesL_ (some 64) rfl rfl Tryz.func10 (by kernel_rfl) rfl #[.int .i64 0] rfl (by (try simp only [List.map_toArray, List.map_cons, List.map_nil]); first | done | rfl) ?_; refine (num19 _ _).mono ?_; rintro e w12 ⟨rfl, rfl⟩; refine ⟨_, rfl, ?_⟩)
    | ((with_reducible refine gate_dst (N := 69) rfl ?_); refine gate_guard rfl ?_; refine goesL_ (some 69) rfl rfl Tryz.func21 (by kernel_rfl) rfl #[.pointer (some ⟨ps, 0, none⟩), .int .i64 3] rfl (by (try simp only [List.map_toArray, List.map_cons, List.map_nil]); first | done | rfl) ?_
       rw [HP.out, ← G11.out.p]
       refine (commit23 S11.out okD.out 3 rfl a10.out).mono ?_; rintro e w13 ⟨rfl, L13, hs, hg⟩
       rw [a9.out, G11.out.p, ← HP.out]
       have G13 := Aside0.mk (G11.out.trans hg)
       clear hs hg
       refine ⟨_, rfl, ?_⟩)
    | ((with_reducible refine gate_dst (N := 70) rfl ?_); refine gate_guard rfl ?_; refine goesL_ (some 70) rfl rfl Tryz.func10 (by kernel_rfl) rfl #[.int .i64 0] rfl (by (try simp only [List.map_toArray, List.map_cons, List.map_nil]); first | done | rfl) ?_; refine (num19 _ _).mono ?_; rintro e w14 ⟨rfl, rfl⟩; refine ⟨_, rfl, ?_⟩))
  go_ret
  exact ⟨rfl, below_goes B2.out G13.out RR.out R0.out⟩
end Go.Proofs.YtcdfdckdodgbpaaGreatDoor.QA

/-! TPlay -/
namespace Go.Proofs.YtcdfdckdodgbpaaGreatDoor.QA
open Go.RowKit Go.Maps Go.Proofs.YtcdfdckdodgbpaaGreatDoorW.PrintWords Go.Proofs.YtcdfdckdodgbpaaGreatDoorW.PrintLast Go.Proofs.YtcdfdckdodgbpaaGreatDoorW.PrintMore
set_option linter.unusedVariables false
set_option linter.unusedSimpArgs false
open Go.Deep Go.ChangeShapes Go.WideShapes Go.Opens
def kStp : Kd Stp := Kd.iso (Kd.pair (Kd.int .i64) (Kd.pair (Kd.int .i64) (Kd.pair (Kd.int .i64) (Kd.pair (Kd.int .u64) (Kd.int .i64))))) (fun x : Stp => (x.kind, x.id, x.key, x.v, x.n))
theorem kStp_open {w : World} {x : Stp} {cs : List Value} (h : kStp.K w x cs) : cs = [.int .i64 x.kind, .int .i64 x.id, .int .i64 x.key, .int .u64 x.v, .int .i64 x.n] := by
  obtain ⟨_, _, rfl, rfl, ⟨_, _, rfl, rfl, ⟨_, _, rfl, rfl, ⟨_, _, rfl, rfl, rfl⟩⟩⟩⟩ := h
  exact rfl
def zStp : Stp := ⟨0, 0, 0, 0, 0⟩
def rdStp (xs : List Stp) (i : Int) : Stp := xs.getD i.toNat zStp
theorem at_Stp {w : World} {A : Option Addr} {n : Nat} {xs : List Stp} (h : Kd.C kStp w A n xs) (i : Int) (h0 : 0 ≤ i) (h1 : i < n) : ∃ ad , A = some ad ∧ w.cell? (ad.add (i.toNat * 5)) = some (.int .i64 (rdStp xs i).kind) ∧ w.cell? ⟨(ad.add (i.toNat * 5)).block, (ad.add (i.toNat * 5)).off + 1, none⟩ = some (.int .i64 (rdStp xs i).id) ∧
    w.cell? ⟨(ad.add (i.toNat * 5)).block, (ad.add (i.toNat * 5)).off + 2, none⟩ = some (.int .i64 (rdStp xs i).key) ∧ w.cell? ⟨(ad.add (i.toNat * 5)).block, (ad.add (i.toNat * 5)).off + 3, none⟩ = some (.int .u64 (rdStp xs i).v) ∧ w.cell? ⟨(ad.add (i.toNat * 5)).block, (ad.add (i.toNat * 5)).off + 4, none⟩ = some (.int .i64 (rdStp xs i).n) := by
  obtain ⟨ad, c, e, _, hK, hc0⟩ := Kd.C_get h zStp i h0 h1
  have hc : ∀ j u, c[j]? = some u → w.cell? (ad.add (i.toNat * 5 + j)) = some u := hc0
  obtain rfl := kStp_open hK
  exact ⟨ad, e, hc 0 _ rfl, by rw [← add_field _ _ 1 (by omega)]; exact hc 1 _ rfl, by rw [← add_field _ _ 2 (by omega)]; exact hc 2 _ rfl, by rw [← add_field _ _ 3 (by omega)]; exact hc 3 _ rfl, by rw [← add_field _ _ 4 (by omega)]; exact hc 4 _ rfl⟩
section
variable {H : Type} {enc : TypeId × Value → H} {w : World} {base : Nat} {spare : Nat → Bool} {held : Bool}
theorem opens_u : Opens enc Tryz.prog w base spare held 47 (Kd.iso (Kd.int .u64) (Subtype.val : { n : Int // (Lit.int .u64 n).wf = true } → Int)) := by
  intro fuel cs x h
  obtain ⟨n, rfl, _, hw⟩ := DataW.trod_int Tryz.underlying47 h
  exact ⟨⟨n, hw⟩, rfl⟩
theorem openStp : OpensQ enc Tryz.prog w base spare held 63 kStp (fun _ x => OkStp x) := by
  intro fuel cs x h
  have hi := opens_w (enc := enc) (w := w) (base := base) (spare := spare) (held := held)
  have hu := opens_u (enc := enc) (w := w) (base := base) (spare := spare) (held := held)
  obtain ⟨a0, s0⟩ := field Tryz.underlying63 h 0 0 (by kernel_rfl) (by kernel_rfl) hi
  obtain ⟨a1, s1⟩ := field Tryz.underlying63 h 1 1 (by kernel_rfl) (by kernel_rfl) hi
  obtain ⟨a2, s2⟩ := field Tryz.underlying63 h 2 2 (by kernel_rfl) (by kernel_rfl) hi
  obtain ⟨a3, s3⟩ := field Tryz.underlying63 h 3 3 (by kernel_rfl) (by kernel_rfl) hu
  obtain ⟨a4, s4⟩ := field Tryz.underlying63 h 4 4 (by kernel_rfl) (by kernel_rfl) hi
  have t0 : Seg (Kd.int .i64) w cs 0 a0.val := s0
  have t1 : Seg (Kd.int .i64) w cs 1 a1.val := s1
  have t2 : Seg (Kd.int .i64) w cs 2 a2.val := s2
  have t3 : Seg (Kd.int .u64) w cs 3 a3.val := s3
  have t4 : Seg (Kd.int .i64) w cs 4 a4.val := s4
  refine ⟨⟨a0.val, a1.val, a2.val, a3.val, a4.val⟩, Seg.whole ((struct_len Tryz.underlying63 h).trans (by kernel_rfl)) ?_, ⟨a1.2, a2.2, a3.2, a4.2⟩⟩
  exact Seg.iso (Seg.pair t0 (Seg.pair t1 (Seg.pair t2 (Seg.pair t3 t4))))
theorem openScript : OpensQ enc Tryz.prog w base spare held 26 (Kd.slice 63 kStp) (fun D xs => xs.length ≤ Rows.uptoBulk D ∧ ∀ x ∈ xs, OkStp x) := by
  intro fuel cs x h
  obtain ⟨xs, hk, hq⟩ := opensQ_slice Tryz.underlying26 (d := kStp) (by kernel_rfl) openStp fuel cs x h
  refine ⟨xs, hk, ?_⟩
  rcases hq with rfl | ⟨elems, sp, he, hl, hall⟩
  · exact ⟨Nat.zero_le _, fun x hx => by cases hx⟩
  · rw [he]
    refine ⟨?_, fun y hy => ?_⟩
    · have h1 := length_le elems
      have h2 := bulk_slice elems sp
      omega
    · obtain ⟨i, hi⟩ := List.mem_iff_getElem?.1 hy
      obtain ⟨D', _, h2⟩ := hall i y hi
      exact h2
end
/-- A Config: six whole numbers. -/
abbrev Cfg := (Int × Int × Int) × Int × Int × Int
def kSh : Kd (Int × Int × Int) := Kd.pair (Kd.int .i64) (Kd.pair (Kd.int .i64) (Kd.int .i64))
def kCfg : Kd Cfg := Kd.pair kSh (Kd.pair (Kd.int .i64) (Kd.pair (Kd.int .i64) (Kd.int .i64)))
theorem cfg_cells {w : World} {x : Cfg} {cs : List Value} (h : kCfg.K w x cs) : cs = [.int .i64 x.1.1, .int .i64 x.1.2.1, .int .i64 x.1.2.2, .int .i64 x.2.1, .int .i64 x.2.2.1, .int .i64 x.2.2.2] := by
  obtain ⟨_, _, rfl, ⟨_, _, rfl, rfl, ⟨_, _, rfl, rfl, rfl⟩⟩, ⟨_, _, rfl, rfl, ⟨_, _, rfl, rfl, rfl⟩⟩⟩ := h
  exact rfl
section
variable {H : Type} {enc : TypeId × Value → H} {w : World} {base : Nat} {spare : Nat → Bool} {held : Bool}
theorem openSh : Opens enc Tryz.prog w base spare held 23 kSh := by
  intro fuel cs x h
  have hi := opens_int (enc := enc) (w := w) (base := base) (spare := spare) (held := held) Tryz.underlying3
  obtain ⟨a0, s0⟩ := field Tryz.underlying23 h 0 0 (by kernel_rfl) (by kernel_rfl) hi
  obtain ⟨a1, s1⟩ := field Tryz.underlying23 h 1 1 (by kernel_rfl) (by kernel_rfl) hi
  obtain ⟨a2, s2⟩ := field Tryz.underlying23 h 2 2 (by kernel_rfl) (by kernel_rfl) hi
  exact ⟨⟨a0, a1, a2⟩, Seg.whole ((struct_len Tryz.underlying23 h).trans (by kernel_rfl)) (Seg.pair s0 (Seg.pair s1 s2))⟩
theorem openCfg : Opens enc Tryz.prog w base spare held 25 kCfg := by
  intro fuel cs x h
  have hi := opens_int (enc := enc) (w := w) (base := base) (spare := spare) (held := held) Tryz.underlying3
  obtain ⟨a0, s0⟩ := field Tryz.underlying25 h 0 0 (by kernel_rfl) (by kernel_rfl) openSh
  obtain ⟨a1, s1⟩ := field Tryz.underlying25 h 1 3 (by kernel_rfl) (by kernel_rfl) hi
  obtain ⟨a2, s2⟩ := field Tryz.underlying25 h 2 4 (by kernel_rfl) (by kernel_rfl) hi
  obtain ⟨a3, s3⟩ := field Tryz.underlying25 h 3 5 (by kernel_rfl) (by kernel_rfl) hi
  exact ⟨⟨a0, a1, a2, a3⟩, Seg.whole ((struct_len Tryz.underlying25 h).trans (by kernel_rfl)) (Seg.pair s0 (Seg.pair s1 (Seg.pair s2 s3)))⟩
end
theorem done_changed (m : PSt) (id : Int) (x : Chg) : (m.changed id x).done = m.done := by
  unfold PSt.changed
  split
  · rfl
  · split
    · rfl
    · split
      · split
        · rfl
        · unfold PSt.over; rfl
      · rfl
theorem done_get (m : PSt) (id key : Int) : (m.get id key).done = m.done := by
  unfold PSt.get
  split <;> rfl
theorem done_step (m : PSt) (o : Stp) : (m.step o).done.length ≤ m.done.length + 1 := by
  unfold PSt.step
  split
  · unfold PSt.begin_; split <;> simp
  split
  · rw [done_get]; omega
  split
  · rw [done_changed]; omega
  split
  · unfold PSt.delete
    split
    · rw [done_changed, done_get]; omega
    · rw [done_get]; omega
  split
  · unfold PSt.commit PSt.over
    split <;> simp
  split
  · unfold PSt.abort PSt.over
    split <;> simp
  split
  · unfold PSt.check; split <;> simp
  split
  · unfold PSt.renew; split <;> simp
  · omega
def PSt.run (m : PSt) (l : List Stp) : PSt := l.foldl PSt.step m
theorem run_snoc (m : PSt) (l : List Stp) (i : Nat) (hi : i < l.length) : m.run (l.take (i + 1)) = (m.run (l.take i)).step l[i] := by
  unfold PSt.run
  rw [List.take_succ_eq_append_getElem hi, List.foldl_append]
  rfl
theorem Ok.run {m : PSt} (h : Ok m) : ∀ (l : List Stp), (∀ o ∈ l, OkStp o) → Ok (m.run l) := by
  intro l
  induction l generalizing m with
  | nil => intro _; exact h
  | cons a r ih => intro hl; exact ih (h.step a (hl a (List.mem_cons_self ..))) (fun o ho => hl o (List.mem_cons_of_mem _ ho))
theorem done_run (m : PSt) : ∀ (l : List Stp), (m.run l).done.length ≤ m.done.length + l.length := by
  intro l
  induction l generalizing m with
  | nil => exact Nat.le_refl _
  | cons a r ih =>
    have h1 := ih (m.step a)
    have h2 := done_step m a
    rw [List.length_cons]
    exact Nat.le_trans h1 (by omega)
set_option maxHeartbeats 4000000 in
set_option maxRecDepth 100000 in
theorem played12 {w : World} (hg : Glob w) (c0 c1 c2 c3 c4 c5 : Int) (h0 : 1 ≤ c0 ∧ c0 ≤ 16) (h1 : 1 ≤ c1 ∧ c1 ≤ 8) (h2 : 1024 ≤ c2 ∧ c2 ≤ 65536) (h3 : 2 ≤ c3 ∧ c3 ≤ 16) (h4 : 1 ≤ c4 ∧ c4 ≤ 8) (h5 : 1 ≤ c5 ∧ c5 ≤ 1048576)
    {A : Option Addr} {cap : Nat} {l : List Stp} (hC : Kd.C kStp w A l.length l) (hcap : l.length ≤ cap) (hl : l.length < 4000000000000) (ho : ∀ o ∈ l, OkStp o) :
    Calls Tryz.prog 6 #[.agg #[.int .i64 c0, .int .i64 c1, .int .i64 c2, .int .i64 c3, .int .i64 c4, .int .i64 c5], .slice A l.length cap] w fun e w' => ∃ p, e = .returned (.pointer (some ⟨p, 0, none⟩)) ∧ Below w.heap.size w w' ∧
      ∃ L : Lay, L.p = p ∧ St w' L none2 ((newM c0 c1 c2 c3 c4 c5).run l) ∧ ∀ k, 0 < k → k < w.heap.size → L.role k = .out := by
  have B0 := Aside0.mk (below_alloc (Below.refl w.heap.size w) (.cells #[.int .i64 c0, .int .i64 c1, .int .i64 c2, .int .i64 c3, .int .i64 c4, .int .i64 c5] 25))
  have HNEW := Aside0.mk (new17 (hg.below B0.out) c0 c1 c2 c3 c4 c5 h0 h1 h2 h3 h4 h5)
  have OK0 := Aside0.mk (newM_ok h0 h1 h2 h4 h5 : Ok (newM c0 c1 c2 c3 c4 c5))
  have HD0 := Aside0.mk (show (newM c0 c1 c2 c3 c4 c5).done.length = 0 from rfl)
  obtain ⟨m0, hm0⟩ : ∃ m0, m0 = newM c0 c1 c2 c3 c4 c5 := ⟨_, rfl⟩
  rw [← hm0] at HNEW OK0 HD0 ⊢
  have HC := Aside0.mk hC
  have HLL := Aside0.mk hl
  have HO := Aside0.mk ho
  clear hg h0 h1 h2 h3 h4 h5 hm0 hC hcap hl ho
  go_enter Tryz.func6, Tryz.ntmps6
  go_wp2_with (first
    | (go_at_call 25; refine HNEW.out.mono ?_; rintro e w1 ⟨p, rfl, hp, hb, L, hlp, hs, hr⟩
       have B1 := Aside0.mk (B0.out.trans (hb.mono B0.out.size))
       have S1 := Aside0.mk hs
       have RR := Aside0.mk (show ∀ k, 0 < k → k < w.heap.size → L.role k = .out from fun k hk hk2 => hr k hk (Nat.lt_of_lt_of_le hk2 B0.out.size))
       have R0 := Aside0.mk (show L.role 0 = .glob from hs.c.elim fun _ c => c.r0)
       have HLP := Aside0.mk hlp
       clear hp hb hs hr hlp)
    | ((with_reducible refine gate_dst (N := 17) rfl ?_); refine gate_guard rfl ?_; refine goesL_ (some 17) rfl rfl Tryz.func10 (by kernel_rfl) rfl #[.int .i64 0] rfl (by (try simp only [List.map_toArray, List.map_cons, List.map_nil]); first | done | rfl) ?_; refine (num19 _ _).mono ?_; rintro e w3 ⟨rfl, rfl⟩; refine ⟨_, rfl, ?_⟩))
  go_loopg [7] l.length (fun kq v7 wr => ∃ (i : Nat) (Lr : Lay), v7 = .int .i64 (i : Int) ∧ Aside0 (i + kq = l.length) ∧ Aside0 (St wr Lr none2 (m0.run (l.take i))) ∧ Aside0 (Goes w1 L wr Lr))
  case atStart => exact ⟨0, L, rfl, ⟨by omega⟩, S1, ⟨Goes.refl _ _⟩⟩
  case round =>
    obtain ⟨i, Lr, rfl, hik, hS, hG⟩ := hrel
    clear S1
    obtain ⟨Ws, hWs, hS⟩ : ∃ W, W = _ ∧ Aside0 (St W Lr none2 (m0.run (l.take i))) := ⟨_, rfl, hS⟩
    subst hWs
    cases gk with
    | zero =>
      obtain rfl : i = l.length := hik.out
      have hd1 : ¬ ((l.length : Int) < (l.length : Int)) := by omega
      rw [List.take_length] at hS
      go_wp2
      go_ret
      exact ⟨p, rfl, below_goes B1.out hG.out RR.out R0.out, Lr, hG.out.p.trans HLP.out, hS.out, fun k hk hk2 => hG.out.out k (Nat.lt_of_lt_of_le hk2 B1.out.size) (RR.out k hk hk2)⟩
    | succ kr =>
      have hi0 : i < l.length := by have := hik.out; omega
      have hi1 : (i : Int) < (l.length : Int) := by omega
      have hi2 : (0 : Int) ≤ (i : Int) := by omega
      have hbW := below_goes B1.out hG.out RR.out R0.out
      obtain ⟨ad, e0, y0, y1, y2, y3, y4⟩ := at_Stp (Kd.C_below HC.out hbW) (i : Int) (by omega) hi1
      subst e0
      obtain ⟨o, hoe⟩ : ∃ o, o = l[i] := ⟨_, rfl⟩
      have hrd : rdStp l (i : Int) = o := by rw [hoe]; unfold rdStp; simp [hi0]
      rw [Int.toNat_natCast, hrd] at y0 y1 y2 y3 y4
      have HS := Aside0.mk (show m0.run (l.take (i + 1)) = (m0.run (l.take i)).step o from by rw [hoe]; exact run_snoc m0 l i hi0)
      have HOS := Aside0.mk (show OkStp o from by rw [hoe]; exact HO.out _ (List.getElem_mem hi0))
      have HOK := Aside0.mk (OK0.out.run (l.take i) (fun o ho => HO.out o (List.mem_of_mem_take ho)))
      have HDL := Aside0.mk (show (m0.run (l.take i)).done.length < 5000000000000 from by have h1 := done_run m0 (l.take i); rw [HD0.out, List.length_take] at h1; have := HLL.out; omega)
      have hw2 : IntKind.i64.wrap ((i : Int) + 1) = ((i + 1 : Nat) : Int) := wrp (by omega) (by have := HLL.out; omega)
      obtain ⟨mi, hmi⟩ : ∃ mi, mi = m0.run (l.take i) := ⟨_, rfl⟩
      rw [← hmi] at HS HOK HDL hS
      clear hoe hrd hbW hmi
      obtain ⟨ok, oi, oy, ov, on⟩ := o
      dsimp only at y0 y1 y2 y3 y4
      go_wp2_with (first
        | (go_at_call 26; have C15 := does15 hS.out HOK.out ⟨ok, oi, oy, ov, on⟩ HOS.out HDL.out; rw [hG.out.p.trans HLP.out] at C15; refine C15.mono ?_; clear C15; rintro e w4 ⟨rfl, L4, hs, hg⟩
           have S4 := Aside0.mk hs
           have G4 := Aside0.mk (hG.out.trans hg)
           clear hs hg y0 y1 y2 y3 y4))
      go_roundg kr
      case measure => omega
      case rel => exact ⟨i + 1, L4, rfl, ⟨by have := hik.out; omega⟩, ⟨by rw [HS.out]; exact S4.out⟩, G4⟩
end Go.Proofs.YtcdfdckdodgbpaaGreatDoor.QA

/-! PureSums -/
namespace Go.Proofs.YtcdfdckdodgbpaaGreatDoor.QA
open Go.RowKit Go.Maps Go.Proofs.YtcdfdckdodgbpaaGreatDoorW.PrintWords Go.Proofs.YtcdfdckdodgbpaaGreatDoorW.PrintLast Go.Proofs.YtcdfdckdodgbpaaGreatDoorW.PrintMore
set_option linter.unusedVariables false
set_option linter.unusedSimpArgs false
structure Same (m m' : PSt) : Prop where
  used : m'.used = m.used
  kept : m'.kept = m.kept
  len : m'.opn.length = m.opn.length
theorem Same.refl (m : PSt) : Same m m := ⟨rfl, rfl, rfl⟩
theorem same_get {m : PSt} (h : Ok m) (id key : Int) : Same m (m.get id key) := by
  unfold PSt.get
  by_cases hE : m.askedE id key = 0
  · rw [if_pos hE]
    obtain ⟨t, hl⟩ := (askedE_ok hE).1
    rw [Ok.txn_look hl]
    refine ⟨rfl, ?_, length_put_some h.up hl _⟩
    have h1 := keptL_put h.up hl (t' := t.hold (key.tmod m.pages) (m.con id (key.tmod m.pages)))
    have h2 : keepsT (t.hold (key.tmod m.pages) (m.con id (key.tmod m.pages))) = keepsT t := rfl
    show keptL (put m.opn id _) = keptL m.opn
    omega
  · rw [if_neg hE]; exact Same.refl m
/-- What a step says of the sums. -/
structure Sums (m m' : PSt) (o : Stp) (e : Int) : Prop where
  other : e ≠ 0 → e ≠ 170 → Same m m'
  log : e = 170 → o.kind ≠ 3 → o.kind ≠ 4 → Same m m'
  over : e = 170 → (o.kind = 3 ∨ o.kind = 4) → (m'.opn.length : Int) = (m.opn.length : Int) - 1 ∧ m.used < m'.used ∧ m'.kept < m.kept
theorem asked_not170 (m : PSt) (id key : Int) : m.askedE id key ≠ 170 := by
  unfold PSt.askedE
  split
  · omega
  · split
    · omega
    · split <;> omega
theorem changed_sums {m : PSt} (h : Ok m) (id : Int) (x : Chg) : (m.changedE id x ≠ 0 → m.changedE id x ≠ 170 → m.changed id x = m) ∧ (m.changedE id x = 170 → ((m.changed id x).opn.length : Int) = (m.opn.length : Int) - 1 ∧ m.used < (m.changed id x).used ∧ (m.changed id x).kept < m.kept) := by
  by_cases hE : m.askedE id x.f0 = 0
  · obtain ⟨t, hl⟩ := (askedE_ok hE).1
    cases hF : m.full id x with
    | true =>
      have h1 : m.changedE id x = 42 := by unfold PSt.changedE; rw [if_neg (by simp [hE]), hF, if_pos rfl]
      have h2 : m.changed id x = m := by unfold PSt.changed; rw [if_neg (by simp [hE]), hF, if_pos rfl]
      rw [h1, h2]
      exact ⟨fun _ _ => rfl, fun h => by omega⟩
    | false =>
      by_cases hn : 0 < m.lenC id x
      · cases hf : m.fits (updated (m.lenC id x)) (undone (m.lenC id x)) with
        | true =>
          have h1 : m.changedE id x = 0 := by unfold PSt.changedE; rw [if_neg (by simp [hE]), hF, if_neg (by simp), if_neg (by rw [hf]; simp)]
          rw [h1]
          exact ⟨fun h => absurd rfl h, fun h => by omega⟩
        | false =>
          have h1 : m.changedE id x = 170 := by unfold PSt.changedE; rw [if_neg (by simp [hE]), hF, if_neg (by simp), if_pos ⟨hn, hf⟩]
          have h2 : m.changed id x = m.over id true := by unfold PSt.changed; rw [if_neg (by simp [hE]), hF, if_neg (by simp), if_pos hn, hf, if_neg (by simp)]
          rw [h1, h2]
          refine ⟨fun _ h => absurd rfl h, fun _ => ?_⟩
          have h1 := length_del_some h.up hl
          have h2 := keptL_del h.up hl
          have h3 := keepsT_pos (fun n hn => ((h.txn id t hl).len n hn).1)
          have h4 := sumU_nonneg (fun n hn => ((h.txn id t hl).len n hn).1)
          unfold PSt.over
          rw [if_pos rfl, Ok.txn_look hl]
          refine ⟨?_, ?_, ?_⟩
          · show ((del m.opn id).length : Int) = _; omega
          · show m.used < m.used + 66 + sumU t.lengths; omega
          · show keptL (del m.opn id) < keptL m.opn; omega
      · have h1 : m.changedE id x = 0 := by unfold PSt.changedE; rw [if_neg (by simp [hE]), hF, if_neg (by simp), if_neg (fun h => hn h.1)]
        rw [h1]
        exact ⟨fun h => absurd rfl h, fun h => by omega⟩
  · have h1 : m.changedE id x = m.askedE id x.f0 := by unfold PSt.changedE; rw [if_pos hE]
    have h2 : m.changed id x = m := by unfold PSt.changed; rw [if_pos hE]
    rw [h1, h2]
    exact ⟨fun _ _ => rfl, fun h => absurd h (asked_not170 m id x.f0)⟩
theorem end_sums (m : PSt) (id : Int) (u : Bool) : (m.endE id ≠ 0 → (if m.endE id = 0 then m.over id u else m) = m) ∧ m.endE id ≠ 170 := by
  refine ⟨fun h => if_neg h, ?_⟩
  unfold PSt.endE
  split <;> omega
theorem step_sums {m : PSt} (h : Ok m) (o : Stp) : Sums m (m.step o) o (m.stepE o) := by
  unfold PSt.step PSt.stepE
  by_cases k1 : o.kind = 1
  · rw [if_pos k1, if_pos k1]
    have hb : m.beginE o.id ≠ 0 → m.begin_ o.id = m := fun hb => by unfold PSt.begin_; rw [if_neg hb]
    refine ⟨fun h1 _ => ?_, fun h1 _ _ => ?_, fun _ h2 => by omega⟩
    · rw [hb h1]; exact Same.refl m
    · rw [hb (by omega)]; exact Same.refl m
  rw [if_neg k1, if_neg k1]
  by_cases k2 : o.kind = 2
  · rw [if_pos k2, if_pos k2]
    exact ⟨fun _ _ => same_get h _ _, fun _ _ _ => same_get h _ _, fun _ h2 => by omega⟩
  rw [if_neg k2, if_neg k2]
  by_cases k3 : o.kind = 3
  · rw [if_pos k3, if_pos k3]
    have hs := changed_sums h o.id ⟨o.key, o.v, false⟩
    exact ⟨fun h1 h2 => by rw [hs.1 h1 h2]; exact Same.refl m, fun _ h2 => absurd k3 h2, fun h1 _ => hs.2 h1⟩
  rw [if_neg k3, if_neg k3]
  by_cases k4 : o.kind = 4
  · rw [if_pos k4, if_pos k4]
    have hg := same_get h o.id o.key
    have hs := changed_sums (h.get o.id o.key) o.id ⟨o.key, 0, true⟩
    by_cases hE : m.askedE o.id o.key = 0
    · rw [delE_zero hE]
      unfold PSt.delete
      cases hb : m.getB o.id o.key with
      | false => exact ⟨fun h1 => absurd rfl h1, fun h1 => absurd h1 (by simp), fun h1 => absurd h1 (by simp)⟩
      | true =>
        show Sums m ((m.get o.id o.key).changed o.id ⟨o.key, 0, true⟩) o ((m.get o.id o.key).changedE o.id ⟨o.key, 0, true⟩)
        refine ⟨fun h1 h2 => by rw [hs.1 h1 h2]; exact hg, fun _ _ h2 => absurd k4 h2, fun h1 _ => ?_⟩
        have h3 := hs.2 h1
        rw [hg.used, hg.kept, hg.len] at h3
        exact h3
    · have hb : m.getB o.id o.key = false := by unfold PSt.getB; rw [if_neg hE]
      have h1 : m.delE o.id o.key = m.askedE o.id o.key := by unfold PSt.delE; rw [if_pos hE]
      have h2 : m.delete o.id o.key = m.get o.id o.key := by unfold PSt.delete; rw [hb, if_neg (by simp)]
      rw [h1, h2]
      exact ⟨fun _ _ => hg, fun _ _ _ => hg, fun h1 => absurd h1 (asked_not170 _ _ _)⟩
  rw [if_neg k4, if_neg k4]
  by_cases k5 : o.kind = 5
  · rw [if_pos k5, if_pos k5]
    have he := end_sums m o.id false
    exact ⟨fun h1 _ => by show Same m (if m.endE o.id = 0 then m.over o.id false else m); rw [he.1 h1]; exact Same.refl m, fun h1 => absurd h1 he.2, fun h1 => absurd h1 he.2⟩
  rw [if_neg k5, if_neg k5]
  by_cases k6 : o.kind = 6
  · rw [if_pos k6, if_pos k6]
    have he := end_sums m o.id true
    exact ⟨fun h1 _ => by show Same m (if m.endE o.id = 0 then m.over o.id true else m); rw [he.1 h1]; exact Same.refl m, fun h1 => absurd h1 he.2, fun h1 => absurd h1 he.2⟩
  rw [if_neg k6, if_neg k6]
  by_cases k7 : o.kind = 7
  · rw [if_pos k7, if_pos k7]
    have hb : m.checkE o.n ≠ 0 → m.check o.n = m := fun hb => by unfold PSt.check; rw [if_neg hb]
    refine ⟨fun h1 _ => ?_, fun h1 _ _ => ?_, fun _ h2 => by omega⟩
    · rw [hb h1]; exact Same.refl m
    · rw [hb (by omega)]; exact Same.refl m
  rw [if_neg k7, if_neg k7]
  by_cases k8 : o.kind = 8
  · rw [if_pos k8, if_pos k8]
    have hb : m.renewE ≠ 0 → m.renew = m := fun hb => by unfold PSt.renew; rw [if_neg hb]
    refine ⟨fun h1 _ => ?_, fun h1 _ _ => ?_, fun _ h2 => by omega⟩
    · rw [hb h1]; exact Same.refl m
    · rw [hb (by omega)]; exact Same.refl m
  rw [if_neg k8, if_neg k8]
  exact ⟨fun h1 => absurd rfl h1, fun h1 => by omega, fun h1 => by omega⟩
/-- What holds of the sums at each step. -/
theorem ok_sums {m : PSt} (h : Ok m) : m.used + m.kept ≤ m.log ∧ 0 ≤ m.used ∧ 99 * (m.opn.length : Int) ≤ m.kept ∧ ((m.opn.length : Int) = 0 ↔ m.kept = 0) ∧ (m.opn.length : Int) ≤ m.table := by
  have hk : 99 * (m.opn.length : Int) ≤ m.kept := by
    have : ∀ l : List (Int × Txn), (∀ q ∈ l, 99 ≤ keepsT q.2) → 99 * (l.length : Int) ≤ keptL l := by
      intro l
      induction l with
      | nil => intro _; simp [keptL]
      | cons a r ih =>
        intro hl
        have h1 := hl a (List.mem_cons_self ..)
        have h2 := ih (fun q hq => hl q (List.mem_cons_of_mem _ hq))
        unfold keptL at h2 ⊢
        rw [List.map_cons, List.sum_cons, List.length_cons]
        push_cast
        omega
    exact this m.opn (fun q hq => h.keep_nonneg q hq)
  refine ⟨h.room, h.used, hk, ⟨fun h0 => ?_, fun h0 => by omega⟩, h.size⟩
  have : m.opn = [] := List.length_eq_zero_iff.1 (by omega)
  show keptL m.opn = 0
  rw [this]
  rfl
theorem step_log (m : PSt) (o : Stp) : (m.step o).log = m.log ∧ (m.step o).table = m.table := by
  have hc : ∀ (m : PSt) (id : Int) (x : Chg), (m.changed id x).log = m.log ∧ (m.changed id x).table = m.table := by
    intro m id x
    unfold PSt.changed
    split
    · exact ⟨rfl, rfl⟩
    · split
      · exact ⟨rfl, rfl⟩
      · split
        · split
          · exact ⟨rfl, rfl⟩
          · unfold PSt.over; exact ⟨rfl, rfl⟩
        · exact ⟨rfl, rfl⟩
  have hg : ∀ (m : PSt) (id key : Int), (m.get id key).log = m.log ∧ (m.get id key).table = m.table := by
    intro m id key
    unfold PSt.get
    split <;> exact ⟨rfl, rfl⟩
  unfold PSt.step
  split
  · unfold PSt.begin_; split <;> exact ⟨rfl, rfl⟩
  split
  · exact hg _ _ _
  split
  · exact hc _ _ _
  split
  · unfold PSt.delete
    split
    · exact ⟨(hc _ _ _).1.trans (hg _ _ _).1, (hc _ _ _).2.trans (hg _ _ _).2⟩
    · exact hg _ _ _
  split
  · unfold PSt.commit PSt.over
    split <;> exact ⟨rfl, rfl⟩
  split
  · unfold PSt.abort PSt.over
    split <;> exact ⟨rfl, rfl⟩
  split
  · unfold PSt.check; split <;> exact ⟨rfl, rfl⟩
  split
  · unfold PSt.renew; split <;> exact ⟨rfl, rfl⟩
  · exact ⟨rfl, rfl⟩
end Go.Proofs.YtcdfdckdodgbpaaGreatDoor.QA

/-! PureSerial -/
namespace Go.Proofs.YtcdfdckdodgbpaaGreatDoor.QA
open Go.RowKit Go.Maps Go.Proofs.YtcdfdckdodgbpaaGreatDoorW.PrintWords Go.Proofs.YtcdfdckdodgbpaaGreatDoorW.PrintLast Go.Proofs.YtcdfdckdodgbpaaGreatDoorW.PrintMore
set_option linter.unusedVariables false
set_option linter.unusedSimpArgs false
/-- What a change does to a key. -/
def kstep (k : Int) (o : Option Int) (x : Chg) : Option Int := if x.f0 = k then (if x.f2 then none else some x.f1) else o
theorem look_app {c : Con} (h : Up c) (x : Chg) (k : Int) : look (app c x) k = kstep k (look c k) x := by
  unfold app kstep
  cases hg : x.f2 with
  | true =>
    rw [if_pos rfl, look_del h]
    by_cases e : x.f0 = k
    · rw [if_pos e.symm, if_pos e]; rfl
    · rw [if_neg (fun h => e h.symm), if_neg e]
  | false =>
    rw [if_neg (by simp), look_put h]
    by_cases e : x.f0 = k
    · rw [if_pos e.symm, if_pos e, if_neg (by simp)]
    · rw [if_neg (fun h => e h.symm), if_neg e]
theorem Up.foldT : ∀ (t : List Chg) {c : Con}, Up c → Up (QA.foldT c t) := by
  intro t
  induction t with
  | nil => intro c h; exact h
  | cons a r ih => intro c h; exact ih (h.app a)
theorem look_foldT (k : Int) : ∀ (t : List Chg) {c : Con}, Up c → look (foldT c t) k = t.foldl (kstep k) (look c k) := by
  intro t
  induction t with
  | nil => intro c h; rfl
  | cons a r ih =>
    intro c h
    show look (foldT (app c a) r) k = _
    rw [ih (h.app a), look_app h, List.foldl_cons]
theorem kstep_none (k : Int) : ∀ (t : List Chg) (o : Option Int), (∀ x ∈ t, x.f0 ≠ k) → t.foldl (kstep k) o = o := by
  intro t
  induction t with
  | nil => intro o _; rfl
  | cons a r ih =>
    intro o h
    rw [List.foldl_cons]
    have h1 : kstep k o a = o := by unfold kstep; rw [if_neg (h a (List.mem_cons_self ..))]
    rw [h1]
    exact ih o (fun x hx => h x (List.mem_cons_of_mem _ hx))
theorem Up.foldC (l : List (List Chg)) : Up (QA.foldC l) := by
  unfold QA.foldC
  have : ∀ (l : List (List Chg)) {c : Con}, Up c → Up (l.foldl (fun a t => t.foldl QA.app a) c) := by
    intro l
    induction l with
    | nil => intro c h; exact h
    | cons a r ih => intro c h; exact ih (Up.foldT a h)
  exact this l Up.nil
theorem foldC_append (l : List (List Chg)) (t : List Chg) : foldC (l ++ [t]) = foldT (foldC l) t := by
  unfold foldC foldT
  rw [List.foldl_append]
  rfl
/-- The key's page. -/
def PSt.pg (m : PSt) (k : Int) : Int := k.tmod m.pages
def PSt.pageOf (m : PSt) (k : Int) : Con := m.left.getD (m.pg k).toNat []
/-- An open transaction's pages are the committed ones with its changes put to them. -/
structure SerT (m : PSt) (t : Txn) : Prop where
  key : ∀ x ∈ t.changes, 0 ≤ x.f0 ∧ x.f0 < m.keys ∧ holds t (m.pg x.f0) = true
  page : ∀ k, 0 ≤ k → k < m.keys → ∀ c, look t.pages (m.pg k) = some c → look c k = t.changes.foldl (kstep k) (look (m.pageOf k) k)
structure Ser (m : PSt) : Prop where
  keys : ∀ t ∈ m.done, ∀ x ∈ t, 0 ≤ x.f0 ∧ x.f0 < m.keys
  left : ∀ k, 0 ≤ k → k < m.keys → look (m.pageOf k) k = look (foldC m.done) k
  txn : ∀ id t, look m.opn id = some t → SerT m t
theorem Ser.setT {m : PSt} (h : Ser m) (hk : Ok m) {id : Int} {t' : Txn} (ht : SerT m t') (u : Int) : Ser { m.setT id t' with used := u } := by
  refine ⟨h.keys, h.left, fun i s hi => ?_⟩
  have hi2 : look (put m.opn id t') i = some s := hi
  rw [look_put hk.up] at hi2
  by_cases e : i = id
  · rw [if_pos e] at hi2; injection hi2 with hi2; subst hi2; exact ⟨ht.key, ht.page⟩
  · rw [if_neg e] at hi2
    have h1 := h.txn i s hi2
    exact ⟨h1.key, h1.page⟩
theorem holds_put {t : Txn} (h : Up t.pages) (pg q : Int) (c : Con) (ls : List Int) (cs : List Chg) : holds ⟨put t.pages pg c, ls, cs⟩ q = true ↔ q = pg ∨ holds t q = true := by
  unfold holds
  rw [look_put h]
  by_cases e : q = pg
  · rw [if_pos e]; simp [e]
  · rw [if_neg e]; simp [e]
theorem con_look {m : PSt} {id key : Int} {t : Txn} (hl : look m.opn id = some t) : m.con id (key.tmod m.pages) = (look t.pages (m.pg key)).getD (m.pageOf key) := by
  unfold PSt.con PSt.pageOf PSt.pg
  rw [Ok.txn_look hl]
/-- The page of the key is held; with what the transaction has of it. -/
theorem SerT.hold {m : PSt} {t : Txn} (h : SerT m t) (hu : Up t.pages) (key : Int) : SerT m (t.hold (m.pg key) ((look t.pages (m.pg key)).getD (m.pageOf key))) := by
  refine ⟨fun x hx => ?_, fun k h1 h2 c hc => ?_⟩
  · obtain ⟨a, b, c⟩ := h.key x hx
    exact ⟨a, b, (holds_put hu _ _ _ _ _).2 (.inr c)⟩
  · have hc2 : look (put t.pages (m.pg key) ((look t.pages (m.pg key)).getD (m.pageOf key))) (m.pg k) = some c := hc
    rw [look_put hu] at hc2
    by_cases e : m.pg k = m.pg key
    · rw [if_pos e] at hc2
      injection hc2 with hc2
      cases hp : look t.pages (m.pg key) with
      | some d =>
        rw [hp] at hc2
        have hd : d = c := hc2
        subst hd
        exact h.page k h1 h2 d (by rw [e]; exact hp)
      | none =>
        rw [hp] at hc2
        have hd : m.pageOf key = c := hc2
        subst hd
        have h3 : m.pageOf k = m.pageOf key := by unfold PSt.pageOf; rw [e]
        rw [← h3]
        refine (kstep_none k t.changes _ (fun x hx ex => ?_)).symm
        have h4 := (h.key x hx).2.2
        rw [ex, e] at h4
        unfold holds at h4
        rw [hp] at h4
        cases h4
    · rw [if_neg e] at hc2
      exact h.page k h1 h2 c hc2
theorem Ser.get {m : PSt} (h : Ser m) (hk : Ok m) (id key : Int) : Ser (m.get id key) := by
  unfold PSt.get
  by_cases hE : m.askedE id key = 0
  · rw [if_pos hE]
    obtain ⟨t, hl⟩ := (askedE_ok hE).1
    rw [Ok.txn_look hl, con_look hl]
    exact h.setT hk ((h.txn id t hl).hold (hk.txn id t hl).up key) m.used
  · rw [if_neg hE]; exact h
theorem Ser.over {m : PSt} (h : Ser m) (hk : Ok m) {id : Int} {t : Txn} (hl : look m.opn id = some t) (undo : Bool) : Ser (m.over id undo) := by
  have ht := h.txn id t hl
  unfold PSt.over
  rw [Ok.txn_look hl]
  have htx : ∀ i s, look (del m.opn id) i = some s → i ≠ id ∧ look m.opn i = some s := fun i s hi => by
    rw [look_del hk.up] at hi
    by_cases e : i = id
    · rw [if_pos e] at hi; cases hi
    · rw [if_neg e] at hi; exact ⟨e, hi⟩
  cases undo with
  | true =>
    rw [if_pos rfl]
    exact ⟨h.keys, h.left, fun i s hi => by have h1 := h.txn i s (htx i s hi).2; exact ⟨h1.key, h1.page⟩⟩
  | false =>
    rw [if_neg (by simp)]
    have hpg : ∀ k, 0 ≤ k → (m.left.mapIdx fun i c => (look t.pages (i : Int)).getD c).getD (m.pg k).toNat [] = (look t.pages (m.pg k)).getD (m.pageOf k) := fun k h0 => by
      have h1 := page_range hk h0
      have h2 := hk.left
      have h3 : (m.pg k).toNat < m.left.length := by unfold PSt.pg; omega
      have h4 : ((m.pg k).toNat : Int) = m.pg k := by unfold PSt.pg; omega
      unfold PSt.pageOf
      rw [List.getD_eq_getElem?_getD, List.getD_eq_getElem?_getD, List.getElem?_mapIdx, List.getElem?_eq_getElem h3]
      simp [h4]
    refine ⟨fun s hs x hx => ?_, fun k h0 h1 => ?_, fun i s hi => ?_⟩
    · have hs2 : s ∈ m.done ++ [t.changes] := hs
      rw [List.mem_append, List.mem_singleton] at hs2
      rcases hs2 with hs2 | rfl
      · exact h.keys s hs2 x hx
      · exact ⟨(ht.key x hx).1, (ht.key x hx).2.1⟩
    · show look ((m.left.mapIdx fun i c => (look t.pages (i : Int)).getD c).getD (m.pg k).toNat []) k = look (foldC (m.done ++ [t.changes])) k
      rw [hpg k h0, foldC_append, look_foldT k _ (Up.foldC _), ← h.left k h0 h1]
      cases hp : look t.pages (m.pg k) with
      | some c => exact ht.page k h0 h1 c hp
      | none =>
        refine (kstep_none k t.changes _ (fun x hx ex => ?_)).symm
        have h4 := (ht.key x hx).2.2
        rw [ex] at h4
        unfold holds at h4
        rw [hp] at h4
        cases h4
    · obtain ⟨hne, hs⟩ := htx i s hi
      have h1 := h.txn i s hs
      refine ⟨h1.key, fun k h0 h2 c hc => ?_⟩
      show look c k = s.changes.foldl (kstep k) (look ((m.left.mapIdx fun i c => (look t.pages (i : Int)).getD c).getD (m.pg k).toNat []) k)
      rw [hpg k h0]
      have hnone : look t.pages (m.pg k) = none := by
        cases hp : look t.pages (m.pg k) with
        | none => rfl
        | some d => exact absurd (hk.lock i s id t (m.pg k) hs hl (by unfold holds; rw [show look s.pages (m.pg k) = some c from hc]; rfl) (by unfold holds; rw [hp]; rfl)) hne
      rw [hnone]
      exact h1.page k h0 h2 c hc
theorem Ser.changed {m : PSt} (h : Ser m) (hk : Ok m) (id : Int) (x : Chg) : Ser (m.changed id x) := by
  by_cases hE : m.askedE id x.f0 = 0
  · obtain ⟨t, hl⟩ := (askedE_ok hE).1
    have hkr := (askedE_ok hE).2.1
    have ht := h.txn id t hl
    have hu := (hk.txn id t hl).up
    unfold PSt.changed
    rw [if_neg (by simp [hE])]
    cases hF : m.full id x with
    | true => rw [if_pos rfl]; exact h
    | false =>
      rw [if_neg (by simp)]
      by_cases hn : 0 < m.lenC id x
      · rw [if_pos hn]
        cases hf : m.fits (updated (m.lenC id x)) (undone (m.lenC id x)) with
        | false => rw [if_neg (by simp)]; exact h.over hk hl true
        | true =>
          rw [if_pos rfl, Ok.txn_look hl, con_look hl]
          have hc := con_ok hk hE hl
          rw [con_look hl] at hc
          have hh := ht.hold hu x.f0
          refine h.setT hk ⟨fun y hy => ?_, fun k h1 h2 c hc2 => ?_⟩ _
          · have hy2 : y ∈ t.changes ++ [x] := hy
            rw [List.mem_append, List.mem_singleton] at hy2
            rcases hy2 with hy2 | rfl
            · obtain ⟨a, b, c⟩ := ht.key y hy2
              exact ⟨a, b, (holds_put hu _ _ _ _ _).2 (.inr c)⟩
            · exact ⟨hkr.1, by omega, (holds_put hu _ _ _ _ _).2 (.inl rfl)⟩
          · have hc3 : look (put t.pages (m.pg x.f0) (app ((look t.pages (m.pg x.f0)).getD (m.pageOf x.f0)) x)) (m.pg k) = some c := hc2
            show look c k = (t.changes ++ [x]).foldl (kstep k) (look (m.pageOf k) k)
            rw [List.foldl_append, List.foldl_cons, List.foldl_nil]
            rw [look_put hu] at hc3
            by_cases e : m.pg k = m.pg x.f0
            · rw [if_pos e] at hc3
              injection hc3 with hc3
              rw [← hc3, look_app hc.up]
              have h3 := hh.page k h1 h2 ((look t.pages (m.pg x.f0)).getD (m.pageOf x.f0)) (by show look (put t.pages _ _) _ = _; rw [look_put hu, if_pos e])
              have h4 : look ((look t.pages (m.pg x.f0)).getD (m.pageOf x.f0)) k = t.changes.foldl (kstep k) (look (m.pageOf k) k) := h3
              rw [h4]
            · rw [if_neg e] at hc3
              rw [← ht.page k h1 h2 c hc3]
              unfold kstep
              rw [if_neg (fun e2 => e (by rw [e2]))]
      · rw [if_neg hn, Ok.txn_look hl, con_look hl]
        exact h.setT hk (ht.hold hu x.f0) m.used
  · unfold PSt.changed
    rw [if_pos hE]; exact h
theorem Ser.setU {m : PSt} (h : Ser m) (u : Int) : Ser { m with used := u } := ⟨h.keys, h.left, fun i s hi => by have h1 := h.txn i s hi; exact ⟨h1.key, h1.page⟩⟩
theorem Ser.begin_ {m : PSt} (h : Ser m) (hk : Ok m) (id : Int) : Ser (m.begin_ id) := by
  unfold PSt.begin_
  by_cases hE : m.beginE id = 0
  · rw [if_pos hE]
    refine ⟨h.keys, h.left, fun i s hi => ?_⟩
    have hi2 : look (put m.opn id txn0) i = some s := hi
    rw [look_put hk.up] at hi2
    by_cases e : i = id
    · rw [if_pos e] at hi2
      injection hi2 with hi2
      subst hi2
      exact ⟨fun x hx => (by cases hx), fun k _ _ c hc => (by cases hc)⟩
    · rw [if_neg e] at hi2
      have h1 := h.txn i s hi2
      exact ⟨h1.key, h1.page⟩
  · rw [if_neg hE]; exact h
theorem Ser.end_ {m : PSt} (h : Ser m) (hk : Ok m) (id : Int) (undo : Bool) : Ser (if m.endE id = 0 then m.over id undo else m) := by
  by_cases hE : m.endE id = 0
  · rw [if_pos hE]
    cases hl : look m.opn id with
    | none => rw [endE_none hl] at hE; cases hE
    | some t => exact h.over hk hl undo
  · rw [if_neg hE]; exact h
theorem Ser.step {m : PSt} (h : Ser m) (hk : Ok m) (o : Stp) (ho : OkStp o) : Ser (m.step o) := by
  unfold PSt.step
  by_cases k1 : o.kind = 1
  · rw [if_pos k1]; exact h.begin_ hk _
  rw [if_neg k1]
  by_cases k2 : o.kind = 2
  · rw [if_pos k2]; exact h.get hk _ _
  rw [if_neg k2]
  by_cases k3 : o.kind = 3
  · rw [if_pos k3]; exact h.changed hk _ _
  rw [if_neg k3]
  by_cases k4 : o.kind = 4
  · rw [if_pos k4]
    unfold PSt.delete
    by_cases hb : m.getB o.id o.key = true
    · rw [if_pos hb]; exact (h.get hk _ _).changed (hk.get _ _) _ _
    · rw [if_neg hb]; exact h.get hk _ _
  rw [if_neg k4]
  by_cases k5 : o.kind = 5
  · rw [if_pos k5]; exact h.end_ hk _ false
  rw [if_neg k5]
  by_cases k6 : o.kind = 6
  · rw [if_pos k6]; exact h.end_ hk _ true
  rw [if_neg k6]
  by_cases k7 : o.kind = 7
  · rw [if_pos k7]
    unfold PSt.check
    split
    · exact h.setU _
    · exact h
  rw [if_neg k7]
  by_cases k8 : o.kind = 8
  · rw [if_pos k8]
    unfold PSt.renew
    split
    · exact h.setU _
    · exact h
  rw [if_neg k8]; exact h
theorem Ser.run {m : PSt} (h : Ser m) (hk : Ok m) : ∀ (l : List Stp), (∀ o ∈ l, OkStp o) → Ser (m.run l) := by
  intro l
  induction l generalizing m with
  | nil => intro _; exact h
  | cons a r ih => intro hl; exact ih (h.step hk a (hl a (List.mem_cons_self ..))) (hk.step a (hl a (List.mem_cons_self ..))) (fun o ho => hl o (List.mem_cons_of_mem _ ho))
theorem newM_ser (c0 c1 c2 c3 c4 c5 : Int) : Ser (newM c0 c1 c2 c3 c4 c5) := by
  refine ⟨fun t ht => (by cases ht), fun k _ _ => ?_, fun id t h => (by cases h)⟩
  show look ((List.replicate c0.toNat ([] : Con)).getD _ []) k = look [] k
  have : ∀ i : Nat, (List.replicate c0.toNat ([] : Con)).getD i [] = [] := fun i => by
    rw [List.getD_eq_getElem?_getD, List.getElem?_replicate]
    by_cases hi : i < c0.toNat
    · rw [if_pos hi]; rfl
    · rw [if_neg hi]; rfl
  rw [this]
/-! ### all keys and their values -/
def addC (a c : Con) : Con := c.foldl (fun a p => put a p.1 p.2) a
theorem Up.addC : ∀ (c : Con) {a : Con}, Up a → Up (QA.addC a c) := by
  intro c
  induction c with
  | nil => intro a h; exact h
  | cons q r ih => intro a h; exact ih (h.put q.1 q.2)
theorem look_addC (k : Int) : ∀ (c : Con) {a : Con}, Up a → Up c → look (addC a c) k = (look c k).or (look a k) := by
  intro c
  induction c with
  | nil => intro a _ _; rfl
  | cons q r ih =>
    intro a ha hc
    have h1 := List.pairwise_cons.1 hc
    show look (addC (put a q.1 q.2) r) k = _
    rw [ih (ha.put q.1 q.2) h1.2, look_put ha, look_cons]
    by_cases e : q.1 = k
    · have hn : look r k = none := look_of h1.2 k none (fun c => ⟨fun h => (by cases h), fun h => (by have h9 : q.1 < k := h1.1 (k, c) h; omega)⟩)
      rw [if_pos e.symm, if_pos e, hn]
      rfl
    · rw [if_neg (fun h => e h.symm), if_neg e]
def allOf (l : List Con) : Con := l.foldl addC []
theorem all_eq (m : PSt) : m.all = allOf m.left := rfl
theorem Up.allOf (l : List Con) : Up (QA.allOf l) := by
  have : ∀ (l : List Con) {a : Con}, Up a → Up (l.foldl QA.addC a) := by
    intro l
    induction l with
    | nil => intro a h; exact h
    | cons c r ih => intro a h; exact ih (Up.addC c h)
  exact this l Up.nil
theorem look_all {m : PSt} (hk : Ok m) (k : Int) : look m.all k = if 0 ≤ k ∧ k < m.keys then look (m.pageOf k) k else none := by
  have hgen : ∀ (l : List Con) (a : Con), Up a → (∀ c ∈ l, Up c) → look (l.foldl addC a) k = l.foldl (fun o c => (look c k).or o) (look a k) := by
    intro l
    induction l with
    | nil => intro a _ _; rfl
    | cons c r ih =>
      intro a ha hl
      rw [List.foldl_cons, List.foldl_cons, ih _ (Up.addC c ha) (fun d hd => hl d (List.mem_cons_of_mem _ hd)), look_addC k c ha (hl c (List.mem_cons_self ..))]
  rw [all_eq]
  unfold allOf
  have hup : ∀ c ∈ m.left, Up c := fun c hc => by
    obtain ⟨i, hi⟩ := List.mem_iff_getElem?.1 hc
    exact (hk.page i c hi).up
  rw [hgen m.left [] Up.nil hup]
  have hkey : ∀ (i : Nat) (c : Con) (d : Int), m.left[i]? = some c → look c k = some d → 0 ≤ k ∧ k < m.keys ∧ m.pg k = (i : Int) := fun i c d hi hd => (hk.page i c hi).key (k, d) (look_mem hd)
  by_cases h0 : 0 ≤ k ∧ k < m.keys
  · rw [if_pos h0]
    have h1 := page_range hk h0.1
    have h2 := hk.left
    have h3 : (m.pg k).toNat < m.left.length := by unfold PSt.pg; omega
    have hpo : m.pageOf k = m.left[(m.pg k).toNat] := by unfold PSt.pageOf; simp [h3]
    have hn : ∀ (l : List Con) (o : Option Int), (∀ c ∈ l, look c k = none) → l.foldl (fun o c => (look c k).or o) o = o := by
      intro l
      induction l with
      | nil => intro o _; rfl
      | cons c r ih =>
        intro o hl
        rw [List.foldl_cons, hl c (List.mem_cons_self ..)]
        exact ih _ (fun d hd => hl d (List.mem_cons_of_mem _ hd))
    have hsplit : m.left = m.left.take (m.pg k).toNat ++ m.left[(m.pg k).toNat] :: m.left.drop ((m.pg k).toNat + 1) := by
      rw [← List.drop_eq_getElem_cons h3, List.take_append_drop]
    have hother : ∀ (i : Nat) (c : Con), m.left[i]? = some c → i ≠ (m.pg k).toNat → look c k = none := fun i c hi hne => by
      cases hd : look c k with
      | none => rfl
      | some d =>
        have h4 := (hkey i c d hi hd).2.2
        exact absurd (by rw [h4]; rfl) hne
    conv => lhs; rw [hsplit]
    rw [List.foldl_append, List.foldl_cons, hn (m.left.take (m.pg k).toNat) _ (fun c hc => ?_), hn (m.left.drop ((m.pg k).toNat + 1)) _ (fun c hc => ?_), hpo]
    · show (look m.left[(m.pg k).toNat] k).or none = _
      cases look m.left[(m.pg k).toNat] k <;> rfl
    · obtain ⟨i, hi⟩ := List.mem_iff_getElem?.1 hc
      rw [List.getElem?_drop] at hi
      exact hother _ c hi (by omega)
    · obtain ⟨i, hi⟩ := List.mem_iff_getElem?.1 hc
      have hil : i < (m.left.take (m.pg k).toNat).length := (List.getElem?_eq_some_iff.1 hi).1
      rw [List.length_take] at hil
      rw [List.getElem?_take_of_lt (by omega)] at hi
      exact hother i c hi (by omega)
  · rw [if_neg h0]
    have hn : ∀ (l : List Con) (o : Option Int), (∀ c ∈ l, look c k = none) → l.foldl (fun o c => (look c k).or o) o = o := by
      intro l
      induction l with
      | nil => intro o _; rfl
      | cons c r ih =>
        intro o hl
        rw [List.foldl_cons, hl c (List.mem_cons_self ..)]
        exact ih _ (fun d hd => hl d (List.mem_cons_of_mem _ hd))
    rw [hn m.left _ (fun c hc => ?_)]
    · rfl
    · obtain ⟨i, hi⟩ := List.mem_iff_getElem?.1 hc
      cases hd : look c k with
      | none => rfl
      | some d => exact absurd ⟨(hkey i c d hi hd).1, (hkey i c d hi hd).2.1⟩ h0
/-- What is there is what the committed ones did. -/
theorem Ser.all {m : PSt} (h : Ser m) (hk : Ok m) : m.all = foldC m.done := by
  refine (show Up m.all from Up.allOf m.left).ext (Up.foldC m.done) (fun k => ?_)
  rw [look_all hk]
  by_cases h0 : 0 ≤ k ∧ k < m.keys
  · rw [if_pos h0]; exact h.left k h0.1 h0.2
  · rw [if_neg h0]
    have hn : ∀ (l : List (List Chg)) (c : Con), Up c → look c k = none → (∀ t ∈ l, ∀ x ∈ t, x.f0 ≠ k) → look (l.foldl (fun a t => t.foldl app a) c) k = none := by
      intro l
      induction l with
      | nil => intro c _ hc _; exact hc
      | cons t r ih =>
        intro c hu hc hl
        rw [List.foldl_cons]
        refine ih _ (Up.foldT t hu) ?_ (fun s hs => hl s (List.mem_cons_of_mem _ hs))
        show look (foldT c t) k = none
        rw [look_foldT k t hu, hc, kstep_none k t none (hl t (List.mem_cons_self ..))]
    exact (hn m.done [] Up.nil rfl (fun t ht x hx e => h0 (by have := h.keys t ht x hx; rw [e] at this; exact this))).symm
end Go.Proofs.YtcdfdckdodgbpaaGreatDoor.QA

/-! WalkMay -/
namespace Go.Proofs.YtcdfdckdodgbpaaGreatDoor.QA
open Go.RowKit Go.Maps Go.Proofs.YtcdfdckdodgbpaaGreatDoorW.PrintWords Go.Proofs.YtcdfdckdodgbpaaGreatDoorW.PrintLast Go.Proofs.YtcdfdckdodgbpaaGreatDoorW.PrintMore
set_option linter.unusedVariables false
set_option linter.unusedSimpArgs false
theorem rest_some (n m : Int) (h : 0 < m ∧ m ≤ 2097152) : ∃ r, tidemarklaw18_rest.f n m = some r ∧ 0 ≤ r ∧ r < m := by
  unfold tidemarklaw18_rest.f
  rw [if_neg (by omega)]
  have h1 := Int.tmod_lt_of_pos n h.1
  have h2 := Int.lt_tmod_of_pos n h.1
  by_cases hn : Int.tmod n m < 0
  · rw [if_pos hn]
    have hw : wrap64 (Int.tmod n m + m) = Int.tmod n m + m := w64s (by omega)
    rw [hw]
    exact ⟨_, rfl, by omega, by omega⟩
  · rw [if_neg hn]
    exact ⟨_, rfl, by omega, by omega⟩
theorem may_some (a0 a1 a2 a3 a4 a5 : Int) : ∃ c0 c1 c2 c3 c4 c5, tidemarklaw18_may.f a0 a1 a2 a3 a4 a5 = some (c0, c1, c2, c3, c4, c5) ∧ (1 ≤ c0 ∧ c0 ≤ 16) ∧ (1 ≤ c1 ∧ c1 ≤ 8) ∧ (1024 ≤ c2 ∧ c2 ≤ 65536) ∧ (2 ≤ c3 ∧ c3 ≤ 16) ∧ (1 ≤ c4 ∧ c4 ≤ 8) ∧ (1 ≤ c5 ∧ c5 ≤ 1048576) := by
  obtain ⟨r0, e0, h0⟩ := rest_some a0 16 (by omega)
  obtain ⟨r1, e1, h1⟩ := rest_some a1 8 (by omega)
  obtain ⟨r2, e2, h2⟩ := rest_some a2 64513 (by omega)
  obtain ⟨r3, e3, h3⟩ := rest_some a3 15 (by omega)
  obtain ⟨r4, e4, h4⟩ := rest_some a4 8 (by omega)
  obtain ⟨r5, e5, h5⟩ := rest_some a5 1048576 (by omega)
  refine ⟨1 + r0, 1 + r1, 1024 + r2, 2 + r3, 1 + r4, 1 + r5, ?_, by omega, by omega, by omega, by omega, by omega, by omega⟩
  unfold tidemarklaw18_may.f
  rw [e0, e1, e2, e3, e4, e5]
  simp only [Option.bind_some]
  rw [w64s (n := 1 + r0) (by omega), w64s (n := 1 + r1) (by omega), w64s (n := 1024 + r2) (by omega), w64s (n := 2 + r3) (by omega), w64s (n := 1 + r4) (by omega), w64s (n := 1 + r5) (by omega)]
theorem run_log (m : PSt) : ∀ l : List Stp, (m.run l).log = m.log ∧ (m.run l).table = m.table := by
  intro l
  induction l generalizing m with
  | nil => exact ⟨rfl, rfl⟩
  | cons a r ih => exact ⟨(ih (m.step a)).1.trans (step_log m a).1, (ih (m.step a)).2.trans (step_log m a).2⟩
theorem ids_len (m : PSt) : m.ids.length = m.opn.length := by unfold PSt.ids; rw [List.length_map]
end Go.Proofs.YtcdfdckdodgbpaaGreatDoor.QA
