/-
  A command as an argument reads. No program is named here.
-/
import Derived.Test.YtdpakoefdpmebaaGreatUnitMore
namespace Go.Sl.UnM
open Go Go.Sl Go.Sl.BitM Go.Sl.SpM Go.Sl.RsM Go.Sl.ByM
set_option linter.unusedVariables false
/-- A command as an argument reads. -/
structure CmX where
  kind : Int
  at_ : Int
  n : Int
  ax : Option Addr
  ac : Nat
  bs : List UInt8
  key : Int
  new : Int
  typ : Int
  force : Bool
def CmX.cells (c : CmX) : List Value := [.int .i64 c.kind, .int .i64 c.at_, .int .i64 c.n, .slice c.ax c.bs.length c.ac, .int .u64 c.key, .int .u64 c.new, .int .i64 c.typ, .bool c.force]
def CmX.cm (c : CmX) : Cm := ⟨c.kind, c.at_, c.n, c.bs, c.key, c.new, c.typ, c.force⟩
end Go.Sl.UnM
