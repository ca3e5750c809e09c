/- LexerJoined, the plain statement. -/
import Derived.Test.YtjihcncajpmgiaaM9
namespace Go.Proofs.Ytjihcncajpmgiaa.Pure
open Go.RowKit Go.Proofs.Ytjihcncajpmgiaa.A Go.Proofs.YtjihcncajpmgiaaW.PrintWords Go.Proofs.YtjihcncajpmgiaaW.PrintLast

theorem LexerJoined : vinculumlaw18_LexerJoined.Pure := fun a0 h0 => M.joined_pure a0 h0

end Go.Proofs.Ytjihcncajpmgiaa.Pure
