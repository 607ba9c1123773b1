import Derived.Test.YtkkobemhbicjgaaGreatDoorQ35
namespace Go.Proofs.YtkkobemhbicjgaaGreatDoor
open Go.RowKit
theorem el_fn : ElemI Tryz.prog 45 53 2 16 := ElemI.mk' (z := .agg #[.int .i64 0, .int .i64 0]) Tryz.underlying45 (by kernel_rfl) rfl (by decide)
end Go.Proofs.YtkkobemhbicjgaaGreatDoor
