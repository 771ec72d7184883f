/- From some number of rounds on: the steps that the plain laws take. -/
import Derived.Test.YthnbmlpjbhhamaaPa
import Derived.Test.YthnbmlpjbhhamaaHw
namespace Go.Proofs.Ythnbmlpjbhhamaa.J
open Go.RowKit Go.Proofs.YthnbmlpjbhhamaaW.PrintWords
set_option linter.unusedVariables false

theorem follows11_ev : Ev (fun k => hoggetlaw11_follows.f k) true := ev_some (fun _ => rfl)
theorem ite_ev {α : Type} {c : Prop} [Decidable c] {f g : Nat → Option α} {r : α} (hf : c → Ev f r) (hg : ¬ c → Ev g r) : Ev (fun k => if c then f k else g k) r := by
  by_cases h : c
  · exact Ev.congr (fun k => if_pos h) (hf h)
  · exact Ev.congr (fun k => if_neg h) (hg h)
theorem pos_ev {α : Type} {c : Prop} [Decidable c] {f g : Nat → Option α} {r : α} (h : c) (hf : Ev f r) : Ev (fun k => if c then f k else g k) r := Ev.congr (fun k => if_pos h) hf
theorem neg_ev {α : Type} {c : Prop} [Decidable c] {f g : Nat → Option α} {r : α} (h : ¬ c) (hg : Ev g r) : Ev (fun k => if c then f k else g k) r := Ev.congr (fun k => if_neg h) hg
theorem next_ev {α : Type} {g : Nat → Option α} {r : α} (h : Ev (fun k => g (k + 1)) r) : Ev g r := Ev.step (fun _ => rfl) h
theorem some_ev {α β : Type} {a : α} {f : Nat → α → Option β} {r : β} (h : Ev (fun k => f k a) r) : Ev (fun k => (some a).bind (f k)) r := h
theorem follows11_then {c : Bool} (h : c = true) : Ev (fun k => (hoggetlaw11_follows.f k).bind fun t => if t = true then some c else some false) true :=
  Ev.bind follows11_ev (pos_ev rfl (h ▸ Ev.now true))
theorem follows11_end : Ev (fun k => (hoggetlaw11_follows.f k).bind fun t => some t) true := Ev.bind follows11_ev (Ev.now true)
end Go.Proofs.Ythnbmlpjbhhamaa.J
