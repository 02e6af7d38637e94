/- The table of cyclotomic polynomials, checked by the kernel's own reckoning. -/
import Derived.Test.YtdgigbehdmhflaaCycM
namespace Go.Proofs.Ytdgigbehdmhflaa.Cyc
theorem phi_checked : (List.range 64).all (fun i => phiOk (i + 1)) = true := by decide +kernel
theorem tab_len : (List.range 64).all (fun i => decide (1 ≤ (T (i + 1)).length)) = true := by decide +kernel
end Go.Proofs.Ytdgigbehdmhflaa.Cyc
