/- The tie's facts: words, kinds. -/
import Derived.Test.YtakkdddfihpeiaaGreatDoorFacts
import Derived.LaidByTextLater
import Derived.LaidOnce
import Derived.SevenTiedAt
set_option linter.all false

section
namespace Go.Proofs.YtakkdddfihpeiaaGreatDoor
open Go
set_option maxRecDepth 100000
def laid8 : List (String × DataW Unit) := [("internal/strconv.uint64pow10", Rows.laid_internal_strconv_uint64pow10), ("math/bits.deBruijn32tab", Rows.laid_math_bits_deBruijn32tab), ("math/bits.deBruijn64tab", Rows.laid_math_bits_deBruijn64tab), ("customs/calendar.monthLengths", Rows.laid_customs_calendar_monthLengths), ("customs/nomenclature.lengths", Rows.laid_customs_nomenclature_lengths), ("unicode/utf8.acceptRanges", Rows.laid_unicode_utf8_acceptRanges), ("strconv.ErrSyntax", Rows.laid_strconv_ErrSyntax), ("strconv.ErrRange", Rows.laid_strconv_ErrRange)]
end Go.Proofs.YtakkdddfihpeiaaGreatDoor
end

section
namespace Go.Proofs.YtakkdddfihpeiaaGreatDoor
open Go
set_option maxRecDepth 100000
theorem ti1 : Tryz.prog.worded (varsWordLater true) = true := by kernel_rfl
theorem ti2 : Tryz.prog.worded (varsWordLater !true) = false := by kernel_rfl
theorem ti3 : Tryz.prog.worded rootWordLater = true := by kernel_rfl
theorem ti5 : (Tryz.prog.funcNamed "gosem.cut.vars").isSome = true := by kernel_rfl
end Go.Proofs.YtakkdddfihpeiaaGreatDoor
end

section
namespace Go.Proofs.YtakkdddfihpeiaaGreatDoor
open Go
set_option maxRecDepth 100000
theorem ti4 : laid8.map (fun x => Tryz.prog.kindOfLater x.1) = [LaidKind.data, .data, .data, .data, .data, .data, .sentinel, .sentinel].map some := by kernel_rfl
end Go.Proofs.YtakkdddfihpeiaaGreatDoor
end
