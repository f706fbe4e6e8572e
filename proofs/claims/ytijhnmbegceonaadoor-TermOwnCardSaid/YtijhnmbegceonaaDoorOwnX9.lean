-- Words and walks printed by the kit and by programs of this session, and texts by hand, cut to what this law uses (wip/pack.py).
import Derived.Test.YtijhnmbegceonaaDoorOwnX6
import Derived.Laws.Externs
import GoSem.Extern.MathBitsCarry
namespace Go.Proofs.YtijhnmbegceonaaDoor.PRat
open Go Go.RowKit Go.Proofs.YtijhnmbegceonaaDoorW.PrintWords Go.Proofs.YtijhnmbegceonaaDoorW.PrintLast Go.Proofs.YtijhnmbegceonaaDoorW.PrintMore
def XCalls (P : Program) (f : FuncId) (args : Array Value) (w : World) (R : Ending → World → Prop) : Prop :=
  ∃ v, (callFunc f args).run P w = .ok (.value v) w ∧ R (.returned v) w
theorem XCalls.mono {P : Program} {f : FuncId} {args : Array Value} {w : World} {R S : Ending → World → Prop} (h : XCalls P f args w R) (k : ∀ e w', R e w' → S e w') : XCalls P f args w S := by
  obtain ⟨v, hv, hr⟩ := h
  exact ⟨v, hv, k _ _ hr⟩
end Go.Proofs.YtijhnmbegceonaaDoor.PRat
