/- The digests of 0 to 130 bytes 0 are one another's none. -/
import Derived.Test.YtnfbficpodnglaaDoorShaLengths
import Derived.Test.YtnfbficpodnglaaDoorShaKey1
import Derived.Test.YtnfbficpodnglaaDoorShaKey2
import Derived.Test.YtnfbficpodnglaaDoorShaKey3
import Derived.Test.YtnfbficpodnglaaDoorShaKey4
namespace Go.Proofs.YtnfbficpodnglaaDoor
open Go.RowKit Go.Proofs.YtnfbficpodnglaaDoorW.PrintWords Go.Proofs.YtnfbficpodnglaaDoorW.PrintMore
def keyT : List Int := [3820012610, 1848904604, 2527237842, 1889435848, 3745472920, 2287292554, 2968939228, 2205713864, 2941612277, 1047558141, 30689455, 1907802581, 367819760, 3712402414, 3891063740, 1394802383, 927402239, 176689432, 1624941477, 3606930165, 3729246642, 3372364376, 1783133661, 22181350, 2643496655, 1628597729, 1704801994, 3930696351, 987626260, 300167618, 108602477, 4245208725, 1718123181, 2140970545, 3943967500, 223688161, 1840668629, 2871306591, 1982530102, 2495684307, 741658141, 2652321476, 155994417, 2241278649, 2239077176, 2316312675, 2274308855, 336517701, 397440543, 2022145960, 3425142497, 2391794814, 2035665709, 893376040, 3932527836, 41391206, 3565255333, 1705077943, 1723115698, 3718538892, 1573657432, 3336727614, 515582940, 3346153377, 4121296194, 2563654366, 4022010807, 467841945, 391228434, 3439706664, 2197618002, 134601948, 2202693787, 2622944394, 3498052817, 913598452, 4072723781, 123036143, 1431467147, 1097342864, 1534047630, 1735968711, 281820216, 8432119, 1340759658, 1782223617, 921197452, 1772410763, 284095109, 2696905651, 2559183305, 664136851, 1655785575, 3687828599, 3548305469, 2235721748, 782871441, 325964199, 807882522, 1261011032, 3439387282, 3767392662, 3290016044, 927229301, 972259213, 1379680582, 886822591, 2734464934, 1997750083, 3045754337, 4063465816, 616112379, 3053300600, 2501581973, 2150350609, 600663941, 1532066130, 4276343713, 24818871, 4128682197, 1860018031, 3625098724, 292644460, 1083867011, 2072955101, 1121360345, 3955522838, 366667159, 947010094, 746611101, 3847904295]
theorem keys_all : (List.range' 0 131).map key = keyT := by
  have e : List.range' 0 131 = List.range' 0 12 ++ List.range' 12 12 ++ List.range' 24 12 ++ List.range' 36 12 ++ List.range' 48 10 ++ List.range' 58 6 ++ List.range' 64 6 ++ List.range' 70 6 ++ List.range' 76 6 ++ List.range' 82 6 ++ List.range' 88 6 ++ List.range' 94 6 ++ List.range' 100 6 ++ List.range' 106 6 ++ List.range' 112 6 ++ List.range' 118 4 ++ List.range' 122 4 ++ List.range' 126 4 ++ List.range' 130 1 := by decide +kernel
  rw [e]
  simp only [List.map_append, keys0, keys12, keys24, keys36, keys48, keys58, keys64, keys70, keys76, keys82, keys88, keys94, keys100, keys106, keys112, keys118, keys122, keys126, keys130]
  rfl
theorem keyT_nodup : keyT.Nodup := by decide +kernel
theorem key_inj (a b : Nat) (ha : a < 131) (hb : b < 131) (h : shaL (List.replicate a 0) = shaL (List.replicate b 0)) : a = b := by
  have hk : key a = key b := by unfold key; rw [h]
  have at_ : ∀ n, n < 131 → keyT[n]? = some (key n) := fun n hn => by
    rw [← keys_all, List.getElem?_map, List.getElem?_range' hn]
    simp
  have ea := at_ a ha
  have eb := at_ b hb
  rw [hk] at ea
  have la : a < keyT.length := (List.getElem?_eq_some_iff.1 ea).1
  exact (List.getElem?_inj la keyT_nodup).1 (ea.trans eb.symm)
end Go.Proofs.YtnfbficpodnglaaDoor
