/- The digests of 118 to 130 bytes 0: their first four bytes. Evaluated by the kernel. -/
import Derived.Test.YtnfbficpodnglaaDoorShaKey1
namespace Go.Proofs.YtnfbficpodnglaaDoor
open Go.RowKit Go.Proofs.YtnfbficpodnglaaDoorW.PrintWords Go.Proofs.YtnfbficpodnglaaDoorW.PrintMore
theorem keys118 : (List.range' 118 4).map key = [24818871, 4128682197, 1860018031, 3625098724] := by decide +kernel
theorem keys122 : (List.range' 122 4).map key = [292644460, 1083867011, 2072955101, 1121360345] := by decide +kernel
theorem keys126 : (List.range' 126 4).map key = [3955522838, 366667159, 947010094, 746611101] := by decide +kernel
theorem keys130 : (List.range' 130 1).map key = [3847904295] := by decide +kernel
end Go.Proofs.YtnfbficpodnglaaDoor
