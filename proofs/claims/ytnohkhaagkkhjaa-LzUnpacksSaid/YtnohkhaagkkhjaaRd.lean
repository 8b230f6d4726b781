/- An element of bytes that are read. Plain lemmas. -/
import Derived.Test.YtnohkhaagkkhjaaBase
namespace Go.Proofs.Ytnohkhaagkkhjaa
open Go.RowKit Go.Proofs.YtnohkhaagkkhjaaW.PrintWords Go.Proofs.YtnohkhaagkkhjaaW.PrintMore
theorem rdB_at {w : World} {ad : Addr} {n : Nat} {xs : List Int} (h : RdB w (some ad) n xs) (i : Nat) (hi : i < n) : w.cell? (ad.add i) = some (.int .u8 (rd xs i)) := by
  obtain ⟨ad', e, hx⟩ := Kd.at_int h (i : Int) (by omega) (by omega)
  cases e
  exact hx
end Go.Proofs.Ytnohkhaagkkhjaa
