/- Lemmas for MixValidSaid, which YtmmkocokfdheiaaFin7 proves. -/
/- That the code does what the shallow programs do, function by function. Written by a program (gen.py). -/
import Derived.Test.YtmmkocokfdheiaaSh
import Derived.Test.YtmmkocokfdheiaaProg
import Derived.KernelRfl
namespace Go.Lift
open Go.RowKit
open Go.Proofs
theorem mixed : Try.prog.follows .mixedOrders = true := by kernel_rfl
theorem ag22 : aggB Try.prog 22 false = true := by kernel_rfl
theorem ag23 : aggB Try.prog 23 false = true := by kernel_rfl
theorem ag25 : aggB Try.prog 25 true = true := by kernel_rfl
theorem ag27 : aggB Try.prog 27 true = true := by kernel_rfl
theorem ag28 : aggB Try.prog 28 false = true := by kernel_rfl
theorem ag29 : aggB Try.prog 29 false = true := by kernel_rfl
theorem ag3 : aggB Try.prog 3 false = true := by kernel_rfl
theorem ag31 : aggB Try.prog 31 true = true := by kernel_rfl
theorem ag35 : aggB Try.prog 35 false = true := by kernel_rfl
theorem ag37 : aggB Try.prog 37 true = true := by kernel_rfl
theorem ag4 : aggB Try.prog 4 false = true := by kernel_rfl
theorem ag5 : aggB Try.prog 5 false = true := by kernel_rfl
theorem ag52 : aggB Try.prog 52 true = true := by kernel_rfl
theorem ag59 : aggB Try.prog 59 false = true := by kernel_rfl
theorem ag61 : aggB Try.prog 61 true = true := by kernel_rfl
theorem ag65 : aggB Try.prog 65 false = true := by kernel_rfl
theorem ag66 : aggB Try.prog 66 false = true := by kernel_rfl
theorem ag77 : aggB Try.prog 77 true = true := by kernel_rfl
theorem ag80 : aggB Try.prog 80 false = true := by kernel_rfl
theorem bo4 : boolB Try.prog 4 = true := by kernel_rfl
theorem byt3 : bytesB Try.prog 3 8 = true := by kernel_rfl
theorem byt37 : bytesB Try.prog 37 72 = true := by kernel_rfl
theorem byt4 : bytesB Try.prog 4 1 = true := by kernel_rfl
theorem byt52 : bytesB Try.prog 52 24 = true := by kernel_rfl
theorem byt61 : bytesB Try.prog 61 80 = true := by kernel_rfl
theorem byt65 : bytesB Try.prog 65 24 = true := by kernel_rfl
theorem byt80 : bytesB Try.prog 80 1 = true := by kernel_rfl
theorem fld25_0 : fieldB Try.prog 25 0 0 = true := by kernel_rfl
theorem fld25_1 : fieldB Try.prog 25 1 1 = true := by kernel_rfl
theorem fld25_2 : fieldB Try.prog 25 2 2 = true := by kernel_rfl
theorem fld25_3 : fieldB Try.prog 25 3 3 = true := by kernel_rfl
theorem fld27_0 : fieldB Try.prog 27 0 0 = true := by kernel_rfl
theorem fld27_1 : fieldB Try.prog 27 1 1 = true := by kernel_rfl
theorem fld27_2 : fieldB Try.prog 27 2 2 = true := by kernel_rfl
theorem fld31_0 : fieldB Try.prog 31 0 0 = true := by kernel_rfl
theorem fld31_1 : fieldB Try.prog 31 1 1 = true := by kernel_rfl
theorem fld31_2 : fieldB Try.prog 31 2 2 = true := by kernel_rfl
theorem fld31_3 : fieldB Try.prog 31 3 3 = true := by kernel_rfl
theorem fld37_0 : fieldB Try.prog 37 0 0 = true := by kernel_rfl
theorem fld37_1 : fieldB Try.prog 37 1 1 = true := by kernel_rfl
theorem fld37_2 : fieldB Try.prog 37 2 2 = true := by kernel_rfl
theorem fld61_0 : fieldB Try.prog 61 0 0 = true := by kernel_rfl
theorem fld61_1 : fieldB Try.prog 61 1 1 = true := by kernel_rfl
theorem fld61_2 : fieldB Try.prog 61 2 2 = true := by kernel_rfl
theorem fld61_3 : fieldB Try.prog 61 3 3 = true := by kernel_rfl
theorem fld61_4 : fieldB Try.prog 61 4 4 = true := by kernel_rfl
theorem fld61_5 : fieldB Try.prog 61 5 5 = true := by kernel_rfl
theorem fld77_0 : fieldB Try.prog 77 0 0 = true := by kernel_rfl
theorem fld77_1 : fieldB Try.prog 77 1 1 = true := by kernel_rfl
theorem fld77_2 : fieldB Try.prog 77 2 2 = true := by kernel_rfl
theorem fld77_3 : fieldB Try.prog 77 3 3 = true := by kernel_rfl
theorem fld77_4 : fieldB Try.prog 77 4 4 = true := by kernel_rfl
theorem fld77_5 : fieldB Try.prog 77 5 5 = true := by kernel_rfl
theorem gd11 : goodFn Try.prog 11 = true := by kernel_rfl
theorem gd12 : goodFn Try.prog 12 = true := by kernel_rfl
theorem gd13 : goodFn Try.prog 13 = true := by kernel_rfl
theorem gd14 : goodFn Try.prog 14 = true := by kernel_rfl
theorem gd15 : goodFn Try.prog 15 = true := by kernel_rfl
theorem gd16 : goodFn Try.prog 16 = true := by kernel_rfl
theorem gd17 : goodFn Try.prog 17 = true := by kernel_rfl
theorem gd18 : goodFn Try.prog 18 = true := by kernel_rfl
theorem gd19 : goodFn Try.prog 19 = true := by kernel_rfl
theorem gd20 : goodFn Try.prog 20 = true := by kernel_rfl
theorem gd21 : goodFn Try.prog 21 = true := by kernel_rfl
theorem gd22 : goodFn Try.prog 22 = true := by kernel_rfl
theorem gd23 : goodFn Try.prog 23 = true := by kernel_rfl
theorem gd24 : goodFn Try.prog 24 = true := by kernel_rfl
theorem gd25 : goodFn Try.prog 25 = true := by kernel_rfl
theorem gd27 : goodFn Try.prog 27 = true := by kernel_rfl
theorem gd28 : goodFn Try.prog 28 = true := by kernel_rfl
theorem gd29 : goodFn Try.prog 29 = true := by kernel_rfl
theorem gd30 : goodFn Try.prog 30 = true := by kernel_rfl
theorem gd31 : goodFn Try.prog 31 = true := by kernel_rfl
theorem gd32 : goodFn Try.prog 32 = true := by kernel_rfl
theorem gd33 : goodFn Try.prog 33 = true := by kernel_rfl
theorem gd34 : goodFn Try.prog 34 = true := by kernel_rfl
theorem gd37 : goodFn Try.prog 37 = true := by kernel_rfl
theorem gd38 : goodFn Try.prog 38 = true := by kernel_rfl
theorem gd39 : goodFn Try.prog 39 = true := by kernel_rfl
theorem gd40 : goodFn Try.prog 40 = true := by kernel_rfl
theorem gd41 : goodFn Try.prog 41 = true := by kernel_rfl
theorem gd42 : goodFn Try.prog 42 = true := by kernel_rfl
theorem gd43 : goodFn Try.prog 43 = true := by kernel_rfl
theorem gd44 : goodFn Try.prog 44 = true := by kernel_rfl
theorem gd45 : goodFn Try.prog 45 = true := by kernel_rfl
theorem gd46 : goodFn Try.prog 46 = true := by kernel_rfl
theorem gd47 : goodFn Try.prog 47 = true := by kernel_rfl
theorem gd48 : goodFn Try.prog 48 = true := by kernel_rfl
theorem gd49 : goodFn Try.prog 49 = true := by kernel_rfl
theorem gd50 : goodFn Try.prog 50 = true := by kernel_rfl
theorem gd52 : goodFn Try.prog 52 = true := by kernel_rfl
theorem gd53 : goodFn Try.prog 53 = true := by kernel_rfl
theorem gd54 : goodFn Try.prog 54 = true := by kernel_rfl
theorem gd55 : goodFn Try.prog 55 = true := by kernel_rfl
theorem gd56 : goodFn Try.prog 56 = true := by kernel_rfl
theorem gd57 : goodFn Try.prog 57 = true := by kernel_rfl
theorem gd58 : goodFn Try.prog 58 = true := by kernel_rfl
theorem gd59 : goodFn Try.prog 59 = true := by kernel_rfl
theorem gd60 : goodFn Try.prog 60 = true := by kernel_rfl
theorem gd61 : goodFn Try.prog 61 = true := by kernel_rfl
theorem gd62 : goodFn Try.prog 62 = true := by kernel_rfl
theorem gd64 : goodFn Try.prog 64 = true := by kernel_rfl
theorem gd66 : goodFn Try.prog 66 = true := by kernel_rfl
theorem gd67 : goodFn Try.prog 67 = true := by kernel_rfl
theorem gd68 : goodFn Try.prog 68 = true := by kernel_rfl
theorem gd69 : goodFn Try.prog 69 = true := by kernel_rfl
theorem gd70 : goodFn Try.prog 70 = true := by kernel_rfl
theorem gd72 : goodFn Try.prog 72 = true := by kernel_rfl
theorem gd73 : goodFn Try.prog 73 = true := by kernel_rfl
theorem gd74 : goodFn Try.prog 74 = true := by kernel_rfl
theorem gd75 : goodFn Try.prog 75 = true := by kernel_rfl
theorem gd76 : goodFn Try.prog 76 = true := by kernel_rfl
theorem gd79 : goodFn Try.prog 79 = true := by kernel_rfl
theorem gd80 : goodFn Try.prog 80 = true := by kernel_rfl
theorem gd81 : goodFn Try.prog 81 = true := by kernel_rfl
theorem in3 : intB Try.prog 3 .i64 = true := by kernel_rfl
theorem in80 : intB Try.prog 80 .u8 = true := by kernel_rfl
theorem pl27 : placesB Try.prog 27 = some [(0, 1), (1, 1), (2, 1)] := by kernel_rfl
theorem pl31 : placesB Try.prog 31 = some [(0, 1), (1, 1), (2, 1), (3, 1)] := by kernel_rfl
theorem pl37 : placesB Try.prog 37 = some [(0, 1), (1, 1), (2, 1)] := by kernel_rfl
theorem pl52 : placesB Try.prog 52 = some [(0, 1), (1, 1), (2, 1)] := by kernel_rfl
theorem pl61 : placesB Try.prog 61 = some [(0, 1), (1, 1), (2, 1), (3, 1), (4, 1), (5, 1)] := by kernel_rfl
theorem seq52 : seqB Try.prog 52 = some [0, 0, 0] := by kernel_rfl
theorem slc22 : sliceB Try.prog 22 5 = true := by kernel_rfl
theorem slc23 : sliceB Try.prog 23 77 = true := by kernel_rfl
theorem slc28 : sliceB Try.prog 28 3 = true := by kernel_rfl
theorem slc29 : sliceB Try.prog 29 61 = true := by kernel_rfl
theorem slc35 : sliceB Try.prog 35 80 = true := by kernel_rfl
theorem slc39 : sliceB Try.prog 39 52 = true := by kernel_rfl
theorem slc48 : sliceB Try.prog 48 37 = true := by kernel_rfl
theorem slc59 : sliceB Try.prog 59 65 = true := by kernel_rfl
theorem slc65 : sliceB Try.prog 65 4 = true := by kernel_rfl
theorem so3 : (Try.prog.underlying 3).isSome = true := by kernel_rfl
theorem so5 : (Try.prog.underlying 5).isSome = true := by kernel_rfl
theorem so80 : (Try.prog.underlying 80).isSome = true := by kernel_rfl
theorem sz25 : szB Try.prog 25 4 = true := by kernel_rfl
theorem sz27 : szB Try.prog 27 3 = true := by kernel_rfl
theorem sz28 : szB Try.prog 28 1 = true := by kernel_rfl
theorem sz29 : szB Try.prog 29 1 = true := by kernel_rfl
theorem sz3 : szB Try.prog 3 1 = true := by kernel_rfl
theorem sz31 : szB Try.prog 31 4 = true := by kernel_rfl
theorem sz35 : szB Try.prog 35 1 = true := by kernel_rfl
theorem sz37 : szB Try.prog 37 3 = true := by kernel_rfl
theorem sz4 : szB Try.prog 4 1 = true := by kernel_rfl
theorem sz5 : szB Try.prog 5 1 = true := by kernel_rfl
theorem sz52 : szB Try.prog 52 3 = true := by kernel_rfl
theorem sz59 : szB Try.prog 59 1 = true := by kernel_rfl
theorem sz61 : szB Try.prog 61 6 = true := by kernel_rfl
theorem sz65 : szB Try.prog 65 1 = true := by kernel_rfl
theorem sz77 : szB Try.prog 77 6 = true := by kernel_rfl
theorem sz80 : szB Try.prog 80 1 = true := by kernel_rfl
theorem zv27 : zeroB Try.prog 27 = some (.agg #[.slice none 0 0, .slice none 0 0, .slice none 0 0]) := by kernel_rfl
theorem zv3 : zeroB Try.prog 3 = some (.int .i64 0) := by kernel_rfl
theorem zv31 : zeroB Try.prog 31 = some (.agg #[.slice none 0 0, .slice none 0 0, .slice none 0 0, .slice none 0 0]) := by kernel_rfl
theorem zv37 : zeroB Try.prog 37 = some (.agg #[.slice none 0 0, .slice none 0 0, .slice none 0 0]) := by kernel_rfl
theorem zv4 : zeroB Try.prog 4 = some (.bool false) := by kernel_rfl
theorem zv52 : zeroB Try.prog 52 = some (.agg #[.int .i64 0, .int .i64 0, .int .i64 0]) := by kernel_rfl
theorem zv61 : zeroB Try.prog 61 = some (.agg #[.int .i64 0, .int .i64 0, .int .i64 0, .bool false, .slice none 0 0, .slice none 0 0]) := by kernel_rfl
theorem zv65 : zeroB Try.prog 65 = some (.slice none 0 0) := by kernel_rfl
theorem zv77 : zeroB Try.prog 77 = some (.agg #[.int .u8 0, .int .u8 0, .int .u8 0, .bool false, .int .u16 0, .int .u16 0]) := by kernel_rfl
theorem zv80 : zeroB Try.prog 80 = some (.int .u8 0) := by kernel_rfl
end Go.Lift
