/- AesApart: the walk, as the row's frame wants it. -/
import Derived.Test.YtnaidfcehmdmcaaApartWalk
namespace Go.Proofs.Ytnaidfcehmdmcaa.Key
open Go.RowKit
theorem apart_row (k a b : ByteArray) (w : World) (_h0 : k.size ≤ 140737488351232) (_h1 : a.size ≤ 140737488351232) (_h2 : b.size ≤ 140737488351232) : Calls Try.prog 11 #[.string k, .string a, .string b] w fun e w' => e = .returned (.bool true) ∧ Below w.heap.size w w' := apart_all k a b w
end Go.Proofs.Ytnaidfcehmdmcaa.Key
