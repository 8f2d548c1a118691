/- The data of a line. -/
set_option linter.unusedSimpArgs false
set_option linter.unusedVariables false
namespace Go.Eng.Sv
abbrev Line:=ByteArray×Int×Int×Int×Int×Int
end Go.Eng.Sv
