/- The tie, out of its facts. -/
import Derived.Test.YtakkdddfihpeiaaGreatDoorTieC
import Derived.Test.YtakkdddfihpeiaaGreatDoorTieD
import Derived.Test.YtakkdddfihpeiaaGreatDoorTieE
import Derived.Test.YtakkdddfihpeiaaGreatDoorTieA
import Derived.Test.YtakkdddfihpeiaaGreatDoorTieB
set_option linter.all false

section
namespace Go.Proofs.YtakkdddfihpeiaaGreatDoor
open Go
theorem vB : Tryz.prog.callsLaidAlone (varsId Tryz.prog) vcode = true := by
  have h := vB4
  rw [Bool.and_eq_true] at h
  unfold Program.callsLaidAlone
  rw [vB1, vB2, vB3, h.1, h.2]
  rfl
theorem ti6 : varsNamedLaterB Tryz.prog (varsId Tryz.prog) laid8 = true := by
  unfold varsNamedLaterB
  rw [vcode_eq]
  simp only [vst_eq]
  rw [Bool.and_eq_true, Bool.and_eq_true]
  exact ⟨⟨vA, vB⟩, vC⟩
end Go.Proofs.YtakkdddfihpeiaaGreatDoor
end

section
namespace Go.Proofs.YtakkdddfihpeiaaGreatDoor
open Go
set_option maxRecDepth 100000
theorem tie8 : Tryz.prog.laidByTextLater laid8 [.data, .data, .data, .data, .data, .data, .sentinel, .sentinel] true :=
  Program.laidByTextLater_by_one 123 8 109 ti1 ti2 ti3 ti4 ti5 ti6 ti7
theorem pin_first : Tryz.pinned.checked.prog.pinnedFits "unicode/utf8.first" = true := by kernel_rfl
theorem pin_datum : Pinned.datum "unicode/utf8.first" = some Rows.laid_unicode_utf8_first := by kernel_rfl
theorem noOwnUnsafeT : Tryz.pinned.checked.prog.headLifts.contains "ownunsafe" = false := by kernel_rfl
theorem fitsT : Tryz.pinned.checked.prog.listedFits [("internal/strconv.uint64pow10", Rows.laid_internal_strconv_uint64pow10), ("math/bits.deBruijn32tab", Rows.laid_math_bits_deBruijn32tab), ("math/bits.deBruijn64tab", Rows.laid_math_bits_deBruijn64tab), ("customs/calendar.monthLengths", Rows.laid_customs_calendar_monthLengths), ("customs/nomenclature.lengths", Rows.laid_customs_nomenclature_lengths), ("unicode/utf8.first", Rows.laid_unicode_utf8_first), ("unicode/utf8.acceptRanges", Rows.laid_unicode_utf8_acceptRanges), ("strconv.ErrSyntax", Rows.laid_strconv_ErrSyntax), ("strconv.ErrRange", Rows.laid_strconv_ErrRange)] = true := by
  unfold Program.listedFits
  rw [noOwnUnsafeT]
  kernel_rfl
end Go.Proofs.YtakkdddfihpeiaaGreatDoor
end
