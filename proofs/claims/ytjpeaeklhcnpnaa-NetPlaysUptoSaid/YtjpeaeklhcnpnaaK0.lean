/- Scripts open as rows of ops. No condition. -/
import Derived.Test.YtjpeaeklhcnpnaaStructs
namespace Go.Proofs.Ytjpeaeklhcnpnaa.K
open Go.RowKit
theorem Try.cells22 : Try.prog.cellsOf 22 = 1 := by kernel_rfl
theorem Try.bytes56 : Try.prog.bytesOf 56 = 480 := by kernel_rfl
theorem kOps_opens : ∀ N, (Kd.slice 480 kOp).Opens Try.prog 22 N := Kd.opens_slice_all Try.underlying22 Try.cells22 Try.bytes56 (by decide) kOp_opens
end Go.Proofs.Ytjpeaeklhcnpnaa.K
