/- The walk of the law FractionMakes. -/
import Derived.Test.YtmochehkkadjnaaGreatDoorLawMkA
import Derived.Test.YtmochehkkadjnaaGreatDoorLawMkB
import Derived.Test.YtmochehkkadjnaaGreatDoorLawMkC
import Derived.Test.YtmochehkkadjnaaGreatDoorLawMkD
namespace Go.Proofs.YtmochehkkadjnaaGreatDoor
open Go.RowKit Go.Shelf

theorem makes_walk {w : World} {V1 V2 : Value} {na nb : Bool} {xs ys : List Nat} {n0 n1 : Int} (h1 : IntArg w V1 na xs) (h2 : IntArg w V2 nb ys) (ht : PowTab w) (l2 : xs.length ≤ 35184372088832) (l3 : ys.length ≤ 35184372088832)
    (hn0 : -9223372036854775808 ≤ n0 ∧ n0 ≤ 9223372036854775807) (hn1 : -9223372036854775808 ≤ n1 ∧ n1 ≤ 9223372036854775807) :
    Calls Tryz.prog 3 #[V1, V2, .agg #[.int .i64 n0, .int .i64 n1]] w fun e w' => e = .returned (.bool true) ∧ Keeps w w' := by
  by_cases l1 : 8 < xs.length + ys.length
  · exact mk_long h1 h2 ht l1 l2 l3
  · have l1 : xs.length + ys.length ≤ 8 := by omega
    by_cases hb : cnt nb ys = 0
    · by_cases hn : n1 = 0
      · exact mk_11 h1 h2 ht l1 hn0 hn1 hb hn
      · exact mk_10 h1 h2 ht l1 hn0 hn1 hb hn
    · by_cases hn : n1 = 0
      · exact mk_01 h1 h2 ht l1 hn0 hn1 hb hn
      · exact mk_00 h1 h2 ht l1 hn0 hn1 hb hn
end Go.Proofs.YtmochehkkadjnaaGreatDoor
