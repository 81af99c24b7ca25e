/- The log that the statements of chapter 12 write themselves, as lists and numbers. -/
import Derived.Test.YtijlcahikeeigaaQAx0
namespace Go.Proofs.Ytijlcahikeeigaa.Log
open Go.RowKit Go.Proofs.Ytijlcahikeeigaa.QA
/-- An open transaction of the plan. -/
structure Run where
  all : List Int
  left : List Int
  back : Bool
def noRun : Run := ⟨[], [], false⟩
def into (n top : Int) : Int := if Int.tmod n top < 0 then Int.tmod n top + top else Int.tmod n top
theorem into_range (n top : Int) (h : 0 < top) : 0 ≤ into n top ∧ into n top < top := by
  unfold into
  have h1 := Int.lt_tmod_of_pos n h
  have h2 := Int.tmod_lt_of_pos n h
  split <;> omega
structure Log where
  lines : List S43
  ways : List (List Int)
  runs : List Run
  lsn : Int
def start : Log := ⟨[], [], [noRun, noRun, noRun, noRun], 0⟩
def blank (kind birth prev id : Int) : S41 := { z41 with f0 := kind, f1 := birth, f2 := prev, f3 := id }
/-- What the next record is, and its transaction behind it (before the record's own place is laid to it). -/
def record (x : Run) (k what lsn : Int) : S41 × Run :=
  match x.all with
  | [] => (blank 1 0 0 (k + 1), x)
  | b :: _ =>
    let r := blank 2 b (x.all.getLastD 0) 0
    if into what 4 = 1 ∧ x.back = false then ({ r with f0 := 5 }, { x with back := true })
    else if into what 4 = 2 ∧ 0 < x.left.length then
      ({ r with f0 := 3, f8 := if 1 < x.left.length then x.left.getD (x.left.length - 2) 0 else 0 }, { x with back := true, left := x.left.take (x.left.length - 1) })
    else if into what 4 = 3 ∨ x.back = true then ({ r with f0 := 6 }, x)
    else (r, { x with left := x.left ++ [lsn] })
def step (s : Log) (by_ what gap : Int) : Log :=
  let k := into by_ 4
  let lsn := s.lsn + 1 + into gap 50
  let p := record (s.runs.getD k.toNat noRun) k what lsn
  let x : Run := { p.2 with all := p.2.all ++ [lsn] }
  { lines := s.lines ++ [⟨lsn, p.1⟩], ways := s.ways ++ [x.all.reverse], runs := s.runs.set k.toNat (if p.1.f0 = 6 then noRun else x), lsn := lsn }
def written (plan : List (Int × Int × Int)) : Log := (plan.take 300).foldl (fun s a => step s a.1 a.2.1 a.2.2) start
end Go.Proofs.Ytijlcahikeeigaa.Log
