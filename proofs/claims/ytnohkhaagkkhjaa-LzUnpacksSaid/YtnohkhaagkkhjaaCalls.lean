/- A call's world, looked at first. -/
import Derived.Test.YtnohkhaagkkhjaaBase
namespace Go.Proofs.Ytnohkhaagkkhjaa
open Go.RowKit
theorem at_cw {P : Program} {f : FuncId} {args : Array Value} {Q : Ending → World → Prop} (w : World) (h : Calls P f args w Q) : Calls P f args w Q := h
end Go.Proofs.Ytnohkhaagkkhjaa
