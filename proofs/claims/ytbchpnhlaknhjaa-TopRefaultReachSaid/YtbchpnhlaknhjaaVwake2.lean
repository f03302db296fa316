/-
  The chapter's examples, as the statements' 'awake19' asks them: it answers true.
-/
import Derived.Test.YtbchpnhlaknhjaaQ208
namespace Go.Proofs.Ytbchpnhlaknhjaa.V
open Go.RowKit Go.Proofs.Ytbchpnhlaknhjaa.Q Go.Proofs.Ytbchpnhlaknhjaa.Sd Go.Proofs.YtbchpnhlaknhjaaW.PrintWords Go.Proofs.YtbchpnhlaknhjaaW.PrintLast
set_option maxRecDepth 100000 in
theorem awake19_ev : Ev (fun k => estoverstop_awake19.f k) true := Ev.of (fun k => estoverstop_awake19.mono k) (k := 60) (by decide +kernel)
end Go.Proofs.Ytbchpnhlaknhjaa.V
