/- LexerPlaces, the plain statement. -/
import Derived.Test.YtjihcncajpmgiaaM7
namespace Go.Proofs.Ytjihcncajpmgiaa.Pure
open Go.RowKit Go.Proofs.Ytjihcncajpmgiaa.A Go.Proofs.YtjihcncajpmgiaaW.PrintWords Go.Proofs.YtjihcncajpmgiaaW.PrintLast

theorem LexerPlaces : vinculumlaw18_LexerPlaces.Pure := fun a0 h0 => M.places_pure a0 h0

end Go.Proofs.Ytjihcncajpmgiaa.Pure
