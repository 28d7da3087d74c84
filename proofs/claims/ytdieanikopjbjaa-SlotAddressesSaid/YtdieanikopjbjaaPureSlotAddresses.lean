/- What addresses are, and their parts; the pure side. No condition beside the sizes that an argument can have. -/
import Derived.Test.YtdieanikopjbjaaQSlotBEv
namespace Go.Proofs.Ytdieanikopjbjaa.Pure
open Go.RowKit Go.Proofs.Ytdieanikopjbjaa.QSlotB Go.Proofs.YtdieanikopjbjaaW.PrintWords Go.Proofs.YtdieanikopjbjaaW.PrintLast
theorem SlotAddresses : aumbrylaw15_SlotAddresses.Pure := QSlotB.slotAddresses_pure
end Go.Proofs.Ytdieanikopjbjaa.Pure
