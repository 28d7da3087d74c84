/- The hash of any content, or why there is none; the pure side. No condition beside the sizes that an argument can have. -/
import Derived.Test.YtdieanikopjbjaaQSlotBEv
namespace Go.Proofs.Ytdieanikopjbjaa.Pure
open Go.RowKit Go.Proofs.Ytdieanikopjbjaa.QSlotB Go.Proofs.YtdieanikopjbjaaW.PrintWords Go.Proofs.YtdieanikopjbjaaW.PrintLast
theorem SlotHashes : aumbrylaw15_SlotHashes.Pure := QSlotB.slotHashes_pure
end Go.Proofs.Ytdieanikopjbjaa.Pure
