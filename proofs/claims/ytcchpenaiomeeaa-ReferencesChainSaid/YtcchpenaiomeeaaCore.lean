/- What every text on bytes and strings rests on. -/
import Derived.Test.YtcchpenaiomeeaaReplyB
namespace Go.Proofs.Ytcchpenaiomeeaa
end Go.Proofs.Ytcchpenaiomeeaa
