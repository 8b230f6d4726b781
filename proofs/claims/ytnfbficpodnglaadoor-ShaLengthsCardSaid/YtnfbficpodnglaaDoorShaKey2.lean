/- The digests of 58 to 87 bytes 0: their first four bytes. Evaluated by the kernel. -/
import Derived.Test.YtnfbficpodnglaaDoorShaKey1
namespace Go.Proofs.YtnfbficpodnglaaDoor
open Go.RowKit Go.Proofs.YtnfbficpodnglaaDoorW.PrintWords Go.Proofs.YtnfbficpodnglaaDoorW.PrintMore
theorem keys58 : (List.range' 58 6).map key = [1723115698, 3718538892, 1573657432, 3336727614, 515582940, 3346153377] := by decide +kernel
theorem keys64 : (List.range' 64 6).map key = [4121296194, 2563654366, 4022010807, 467841945, 391228434, 3439706664] := by decide +kernel
theorem keys70 : (List.range' 70 6).map key = [2197618002, 134601948, 2202693787, 2622944394, 3498052817, 913598452] := by decide +kernel
theorem keys76 : (List.range' 76 6).map key = [4072723781, 123036143, 1431467147, 1097342864, 1534047630, 1735968711] := by decide +kernel
theorem keys82 : (List.range' 82 6).map key = [281820216, 8432119, 1340759658, 1782223617, 921197452, 1772410763] := by decide +kernel
end Go.Proofs.YtnfbficpodnglaaDoor
