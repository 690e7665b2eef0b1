/- Joined texts: LexLaw. -/
import Derived.WalkKit
set_option linter.unusedVariables false
set_option linter.unusedSimpArgs false
/- The lexer as a function of bytes: no program is named here. -/
namespace Go.Chalk
abbrev Bs:=List UInt8
def smallB (c:UInt8):Bool:=decide (97<=c.toNat)&&decide (c.toNat<=122)
def digitB (c:UInt8):Bool:=decide (48<=c.toNat)&&decide (c.toNat<=57)
def innerB (c:UInt8):Bool:=smallB c||digitB c||c.toNat==95
end Go.Chalk
