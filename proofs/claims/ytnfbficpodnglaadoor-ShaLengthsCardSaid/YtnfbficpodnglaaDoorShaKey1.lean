/- The digests of 0 to 57 bytes 0: their first four bytes. Evaluated by the kernel. -/
import Derived.Test.YtnfbficpodnglaaDoorShaRef4
namespace Go.Proofs.YtnfbficpodnglaaDoor
open Go.RowKit Go.Proofs.YtnfbficpodnglaaDoorW.PrintWords Go.Proofs.YtnfbficpodnglaaDoorW.PrintMore
def key (n : Nat) : Int := let d := shaL (List.replicate n 0); rd d 0 * 16777216 + rd d 1 * 65536 + rd d 2 * 256 + rd d 3
theorem keys0 : (List.range' 0 12).map key = [3820012610, 1848904604, 2527237842, 1889435848, 3745472920, 2287292554, 2968939228, 2205713864, 2941612277, 1047558141, 30689455, 1907802581] := by decide +kernel
theorem keys12 : (List.range' 12 12).map key = [367819760, 3712402414, 3891063740, 1394802383, 927402239, 176689432, 1624941477, 3606930165, 3729246642, 3372364376, 1783133661, 22181350] := by decide +kernel
theorem keys24 : (List.range' 24 12).map key = [2643496655, 1628597729, 1704801994, 3930696351, 987626260, 300167618, 108602477, 4245208725, 1718123181, 2140970545, 3943967500, 223688161] := by decide +kernel
theorem keys36 : (List.range' 36 12).map key = [1840668629, 2871306591, 1982530102, 2495684307, 741658141, 2652321476, 155994417, 2241278649, 2239077176, 2316312675, 2274308855, 336517701] := by decide +kernel
theorem keys48 : (List.range' 48 10).map key = [397440543, 2022145960, 3425142497, 2391794814, 2035665709, 893376040, 3932527836, 41391206, 3565255333, 1705077943] := by decide +kernel
end Go.Proofs.YtnfbficpodnglaaDoor
