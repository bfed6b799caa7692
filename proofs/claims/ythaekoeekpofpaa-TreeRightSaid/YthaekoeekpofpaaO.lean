/- A tree behind operations, in plain words; the chapter's example. -/
import Derived.Test.YthaekoeekpofpaaN
namespace Go.Proofs.Ythaekoeekpofpaa

/-- a node behind an operation that it takes -/
def turnN (xs : List Nd) (x : TOp) (y : Nd) : Option Nd :=
  if x.kind = 2 then (if takesB x.par xs && !decide (x.node ∈ chainN xs x.par) then some { y with par := x.par, nm := x.nm } else none)
  else if x.kind = 3 then (if y.dir then none else some { y with mf := x.mf })
  else if x.kind = 4 then some { y with par := (0, 1) }
  else none
/-- where a node is put -/
def atN (xs : List Nd) (s : St) : Nat := (xs.findIdx? fun z => lessS s z.id).getD xs.length
def growN (xs : List Nd) (y : Nd) : List Nd := xs.take (atN xs y.id) ++ y :: xs.drop (atN xs y.id)
/-- a tree behind an operation -/
def doN (xs : List Nd) (x : TOp) : List Nd :=
  match xs.findIdx? (isId x.node) with
  | none => if x.kind = 1 then growN xs ⟨x.node, x.dir, if takesB x.par xs then x.par else (0, 1), x.nm, x.mf⟩ else xs
  | some i => if x.kind = 1 then xs else match turnN xs x (xs.getD i nd0) with
    | some y => xs.set i y
    | none => xs
def foldN (l : List TOp) : List Nd := l.foldl doN []

theorem atN_first (xs : List Nd) (s : St) : (atN xs s : Int) = if firstI (fun z => lessS s z.id) xs < 0 then (xs.length : Int) else firstI (fun z => lessS s z.id) xs := by
  unfold atN firstI
  cases xs.findIdx? (fun z => lessS s z.id) with
  | none => rfl
  | some k => simp; omega
def mkN (a p : Int) : TOp := ⟨(a, 0), 0, 1, (a, 0), true, (p, 0), [110], []⟩
theorem example_fold : foldN [mkN 1 0, mkN 2 1, ⟨(0, 0), 0, 2, (1, 0), false, (2, 0), [109], []⟩] = [⟨(1, 0), true, (0, 0), [110], []⟩, ⟨(2, 0), true, (1, 0), [110], []⟩] := by decide
theorem example_chain : chainN (doN [⟨(1, 0), true, (0, 0), [110], []⟩, ⟨(2, 0), true, (1, 0), [110], []⟩] ⟨(0, 0), 0, 4, (1, 0), false, (0, 0), [], []⟩) (2, 0) = [(2, 0), (1, 0), (0, 1)] := by decide
end Go.Proofs.Ythaekoeekpofpaa
