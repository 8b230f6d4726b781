/- The digests of 88 to 117 bytes 0: their first four bytes. Evaluated by the kernel. -/
import Derived.Test.YtnfbficpodnglaaDoorShaKey1
namespace Go.Proofs.YtnfbficpodnglaaDoor
open Go.RowKit Go.Proofs.YtnfbficpodnglaaDoorW.PrintWords Go.Proofs.YtnfbficpodnglaaDoorW.PrintMore
theorem keys88 : (List.range' 88 6).map key = [284095109, 2696905651, 2559183305, 664136851, 1655785575, 3687828599] := by decide +kernel
theorem keys94 : (List.range' 94 6).map key = [3548305469, 2235721748, 782871441, 325964199, 807882522, 1261011032] := by decide +kernel
theorem keys100 : (List.range' 100 6).map key = [3439387282, 3767392662, 3290016044, 927229301, 972259213, 1379680582] := by decide +kernel
theorem keys106 : (List.range' 106 6).map key = [886822591, 2734464934, 1997750083, 3045754337, 4063465816, 616112379] := by decide +kernel
theorem keys112 : (List.range' 112 6).map key = [3053300600, 2501581973, 2150350609, 600663941, 1532066130, 4276343713] := by decide +kernel
end Go.Proofs.YtnfbficpodnglaaDoor
