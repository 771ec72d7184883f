/- From some number of rounds on: the steps that the plain laws take. -/
import Derived.Test.YthnbmlpjbhhamaaPa
import Derived.Test.YthnbmlpjbhhamaaHw
namespace Go.Proofs.Ythnbmlpjbhhamaa.J
open Go.RowKit Go.Proofs.YthnbmlpjbhhamaaW.PrintWords
set_option linter.unusedVariables false

theorem follows11_ev : Ev (fun k => hoggetlaw11_follows.f k) true := ev_some (fun _ => rfl)
theorem follows11_then {c : Bool} (h : c = true) : Ev (fun k => (hoggetlaw11_follows.f k).bind fun t => if t = true then some c else some false) true :=
  Ev.bind follows11_ev (pos_ev rfl (h ▸ Ev.now true))
theorem follows11_end : Ev (fun k => (hoggetlaw11_follows.f k).bind fun t => some t) true := Ev.bind follows11_ev (Ev.now true)
end Go.Proofs.Ythnbmlpjbhhamaa.J
