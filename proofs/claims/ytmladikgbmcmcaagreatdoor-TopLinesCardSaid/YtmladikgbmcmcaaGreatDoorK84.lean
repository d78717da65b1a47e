/- a part of the proof of TopLines. -/
import Derived.Test.YtmladikgbmcmcaaGreatDoorK81
import Derived.Test.YtmladikgbmcmcaaGreatDoorK82
import Derived.Test.YtmladikgbmcmcaaGreatDoorK83
import Derived.Test.YtmladikgbmcmcaaGreatDoorRows
import Derived.LaidByTextLater
import Derived.SevenTiedAt
set_option linter.all false
namespace Go.Proofs.YtmladikgbmcmcaaGreatDoor
open Go
theorem pin_laid_unicode_utf8_first : Tryz.pinned.checked.prog.pinnedFits "unicode/utf8.first" = true := by kernel_rfl
theorem noOwnUnsafe : Tryz.pinned.checked.prog.headLifts.contains "ownunsafe" = false := by kernel_rfl
theorem fits1 : Tryz.pinned.checked.prog.listedFits [("diaeresis/relex.errFull", Rows.laid_diaeresis_relex_errFull), ("diaeresis/relex.errRange", Rows.laid_diaeresis_relex_errRange), ("unicode/utf8.first", Rows.laid_unicode_utf8_first), ("unicode/utf8.acceptRanges", Rows.laid_unicode_utf8_acceptRanges), ("diaeresis/group.errGroup", Rows.laid_diaeresis_group_errGroup), ("errors.errorType", Rows.laid_errors_errorType), ("diaeresis/parse.errSyntax", Rows.laid_diaeresis_parse_errSyntax), ("diaeresis/node.errNode", Rows.laid_diaeresis_node_errNode), ("internal/strconv.uint64pow10", Rows.laid_internal_strconv_uint64pow10), ("math/bits.deBruijn32tab", Rows.laid_math_bits_deBruijn32tab), ("math/bits.deBruijn64tab", Rows.laid_math_bits_deBruijn64tab), ("diaeresis/edit.errEdit", Rows.laid_diaeresis_edit_errEdit), ("strconv.ErrSyntax", Rows.laid_strconv_ErrSyntax), ("strconv.ErrRange", Rows.laid_strconv_ErrRange), ("diaeresis/eval.errNone", Rows.laid_diaeresis_eval_errNone), ("diaeresis/number.errOver", Rows.laid_diaeresis_number_errOver), ("diaeresis/number.errDivide", Rows.laid_diaeresis_number_errDivide)] = true := by
 unfold Program.listedFits
 rw[noOwnUnsafe]
 kernel_rfl
theorem tieL:Tryz.prog.laidByTextLater laidL kindsL true:=Program.laidByTextLater_by_run_h 400 8 t_hw t_hw2 t_root t_hk t_hg t_hn t_hd t_h1 t_h2 t_h3
theorem topLines_row_tie:Rows.topLinesRow.laidByTextAt .later Tryz.pinned [.sentinel,.sentinel,.pinned,.data,.sentinel,.handle,.sentinel,.sentinel,.data,.data,.data,.sentinel,.sentinel,.sentinel,.sentinel,.sentinel,.sentinel] true:=
 OpenClaim.laidByTextAt_pinned rfl rfl tieL rfl rfl rfl rfl (fun y hy _e=>by
  simp only[Rows.topLinesRow,List.zip_cons_cons,List.zip_nil_right,List.mem_cons,List.mem_nil_iff,or_false] at hy
  rcases hy with rfl|rfl|rfl|rfl|rfl|rfl|rfl|rfl|rfl|rfl|rfl|rfl|rfl|rfl|rfl|rfl|rfl
  ·cases _e
  ·cases _e
  ·exact⟨pin_laid_unicode_utf8_first,by kernel_rfl⟩
  ·cases _e
  ·cases _e
  ·cases _e
  ·cases _e
  ·cases _e
  ·cases _e
  ·cases _e
  ·cases _e
  ·cases _e
  ·cases _e
  ·cases _e
  ·cases _e
  ·cases _e
  ·cases _e) fits1
end Go.Proofs.YtmladikgbmcmcaaGreatDoor
