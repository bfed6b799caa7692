/- few and some, their answers known ahead. -/
import Derived.Test.YtaglomhmnoldlaaV
namespace Go.Proofs.Ytaglomhmnoldlaa
open Go.RowKit
attribute [local go_sem] bs_size bs_getElem bs_list bs_append

def some1 (x : Nd) : Bool := !decide (((x.nm.length : Nat) : Int) > 200) && !decide (((x.mf.length : Nat) : Int) > 1000)
def someB (xs : List Nd) : Bool := decide (xs.length ≤ 150) && xs.all some1
theorem someB_le {xs : List Nd} (h : someB xs = true) : xs.length ≤ 150 := by
  unfold someB at h
  rw [Bool.and_eq_true] at h
  exact of_decide_eq_true h.1
def few1 (x : TOp) : Bool := !decide (((x.nm.length : Nat) : Int) > 200) && !decide (((x.mf.length : Nat) : Int) > 1000)
def fewB (xs : List TOp) : Bool := decide (xs.length ≤ 150) && xs.all few1
theorem fewB_le {xs : List TOp} (h : fewB xs = true) : xs.length ≤ 150 := by
  unfold fewB at h
  rw [Bool.and_eq_true] at h
  exact of_decide_eq_true h.1

end Go.Proofs.Ytaglomhmnoldlaa
