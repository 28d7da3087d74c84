/- Any text is read as a bucket, or refused; the pure side. No condition beside the size that an argument can have. -/
import Derived.Test.YtdieanikopjbjaaQSlotUnEv
namespace Go.Proofs.Ytdieanikopjbjaa.Pure
open Go.RowKit Go.Proofs.Ytdieanikopjbjaa.QSlotUn Go.Proofs.YtdieanikopjbjaaW.PrintWords Go.Proofs.YtdieanikopjbjaaW.PrintLast
theorem SlotUnpacks : aumbrylaw15_SlotUnpacks.Pure := QSlotUn.slotUnpacks_pure
end Go.Proofs.Ytdieanikopjbjaa.Pure
