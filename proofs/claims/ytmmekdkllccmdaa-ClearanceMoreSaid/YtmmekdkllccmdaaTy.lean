/-
  The structures of the program as typed data.
-/
import Derived.Test.YtmmekdkllccmdaaEgZ
namespace Go.Proofs.Ytmmekdkllccmdaa
open Go.RowKit
set_option linter.unusedVariables false
namespace Eng
structure api_Finding where
  Number : Int
  Schemes : Int
  From : Int
  Until : Int
  Mille : Int
  deriving Inhabited, DecidableEq
def api_Finding.av (x : api_Finding) : List D := [(iD x.Number), (iD x.Schemes), (iD x.From), (iD x.Until), (iD x.Mille)]
structure api_Spent where
  Year : Int
  Scheme : Int
  Amount : Int
  deriving Inhabited, DecidableEq
def api_Spent.av (x : api_Spent) : List D := [(iD x.Year), (iD x.Scheme), (iD x.Amount)]
structure api_Window where
  From : Int
  Until : Int
  deriving Inhabited, DecidableEq
def api_Window.av (x : api_Window) : List D := [(iD x.From), (iD x.Until)]
structure Arr2_Int where
  e0 : Int
  e1 : Int
  deriving Inhabited, DecidableEq
def Arr2_Int.av (x : Arr2_Int) : List D := [(iD x.e0), (iD x.e1)]
structure api_Measured where
  Area : Int
  Border : Int
  deriving Inhabited, DecidableEq
def api_Measured.av (x : api_Measured) : List D := [(iD x.Area), (iD x.Border)]
structure api_Report where
  Number : Int
  Farm : Int
  Day : Int
  Kind : Int
  Line : Int
  Measured : api_Measured
  deriving Inhabited, DecidableEq
def api_Report.av (x : api_Report) : List D := [(iD x.Number), (iD x.Farm), (iD x.Day), (iD x.Kind), (iD x.Line), (iD x.Measured.Area), (iD x.Measured.Border)]
structure api_Seen where
  Kind : Int
  Measured : api_Measured
  deriving Inhabited, DecidableEq
def api_Seen.av (x : api_Seen) : List D := [(iD x.Kind), (iD x.Measured.Area), (iD x.Measured.Border)]
structure landaidkeep_Tape where
  l : List Int
  at_ : Int
  deriving Inhabited, DecidableEq
def landaidkeep_Tape.av (x : landaidkeep_Tape) : List D := [(.sl 1 (x.l.map avI)), (iD x.at_)]
structure api_Late where
  Due : Int
  Last : Int
  Mille : Int
  deriving Inhabited, DecidableEq
def api_Late.av (x : api_Late) : List D := [(iD x.Due), (iD x.Last), (iD x.Mille)]
structure exact_wide where
  high : Int
  low : Int
  deriving Inhabited, DecidableEq
def exact_wide.av (x : exact_wide) : List D := [(.v (.int .u64 x.high)), (.v (.int .u64 x.low))]
end Eng
end Go.Proofs.Ytmmekdkllccmdaa
