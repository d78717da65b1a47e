/- a part of the proof of TopLines. -/
import Derived.Test.YtmladikgbmcmcaaGreatDoorRows
import Derived.LaidByTextLater
import Derived.SevenTiedAt
set_option linter.all false
namespace Go.Proofs.YtmladikgbmcmcaaGreatDoor
open Go
abbrev laidL : List (String × DataW Unit) := [("diaeresis/relex.errFull", Rows.laid_diaeresis_relex_errFull), ("diaeresis/relex.errRange", Rows.laid_diaeresis_relex_errRange), ("unicode/utf8.acceptRanges", Rows.laid_unicode_utf8_acceptRanges), ("diaeresis/group.errGroup", Rows.laid_diaeresis_group_errGroup), ("errors.errorType", Rows.laid_errors_errorType), ("diaeresis/parse.errSyntax", Rows.laid_diaeresis_parse_errSyntax), ("diaeresis/node.errNode", Rows.laid_diaeresis_node_errNode), ("internal/strconv.uint64pow10", Rows.laid_internal_strconv_uint64pow10), ("math/bits.deBruijn32tab", Rows.laid_math_bits_deBruijn32tab), ("math/bits.deBruijn64tab", Rows.laid_math_bits_deBruijn64tab), ("diaeresis/edit.errEdit", Rows.laid_diaeresis_edit_errEdit), ("strconv.ErrSyntax", Rows.laid_strconv_ErrSyntax), ("strconv.ErrRange", Rows.laid_strconv_ErrRange), ("diaeresis/eval.errNone", Rows.laid_diaeresis_eval_errNone), ("diaeresis/number.errOver", Rows.laid_diaeresis_number_errOver), ("diaeresis/number.errDivide", Rows.laid_diaeresis_number_errDivide)]
abbrev kindsL:List LaidKind:=[.sentinel,.sentinel,.data,.sentinel,.handle,.sentinel,.sentinel,.data,.data,.data,.sentinel,.sentinel,.sentinel,.sentinel,.sentinel,.sentinel]
theorem t_hw:Tryz.prog.worded (varsWordLater true)=true:=by kernel_rfl
theorem t_hw2:Tryz.prog.worded (varsWordLater !true)=false:=by kernel_rfl
theorem t_root:Tryz.prog.worded rootWordLater=true:=by kernel_rfl
theorem t_hk:laidL.map (fun x=>Tryz.prog.kindOfLater x.1)=kindsL.map some:=by kernel_rfl
theorem t_hg : (Tryz.prog.funcNamed "gosem.cut.vars").isSome = true := by kernel_rfl
theorem t_hn:varsNamedLaterB Tryz.prog (varsId Tryz.prog) laidL=true:=by kernel_rfl
end Go.Proofs.YtmladikgbmcmcaaGreatDoor
