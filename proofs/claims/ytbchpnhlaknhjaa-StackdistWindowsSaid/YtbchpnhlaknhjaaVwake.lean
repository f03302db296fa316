/-
  The chapter's examples, as the statements' 'awake' asks them: it answers true.
-/
import Derived.Test.YtbchpnhlaknhjaaQ201
namespace Go.Proofs.Ytbchpnhlaknhjaa.V
open Go.RowKit Go.Proofs.Ytbchpnhlaknhjaa.Q Go.Proofs.Ytbchpnhlaknhjaa.Sd Go.Proofs.YtbchpnhlaknhjaaW.PrintWords Go.Proofs.YtbchpnhlaknhjaaW.PrintLast
set_option maxRecDepth 100000 in
theorem awake_ev : Ev (fun k => estoverslaw37_awake.f k) true := Ev.of (fun k => estoverslaw37_awake.mono k) (k := 60) (by decide +kernel)
end Go.Proofs.Ytbchpnhlaknhjaa.V
