/-
  Texts of the proof of TopAmended, part GA.
-/
import Derived.WalkKit
import Derived.WalkSpells
import Derived.WalkLawsBesides
import Derived.BigQuiet
import Derived.Deep.QuietTactic
import Derived.Deep.MidRow
import Derived.Lib.Hide
import Derived.Lib.QuietBelow
import Derived.Laws.OwnMore
import Derived.LoopN
import Derived.Laws.IdiomCopy
import Derived.Deep.AppendSrc
import Derived.Deep.Upon
import Derived.IntWalk
import Derived.Laws.StructEq
import Derived.Great.BuildSlice
set_option linter.unusedVariables false
noncomputable section
namespace Go.Proofs.YtjcjdgmojkkioaaGreatDoor
namespace RE
open Go.RowKit
structure api_Rect where
 Left:Int
 Low:Int
 Right:Int
 High:Int
 deriving Inhabited,DecidableEq
structure api_Region where
 Rects:List api_Rect
 deriving Inhabited,DecidableEq
structure api_Line where
 Parcel:Int
 Region:api_Region
 Crop:Int
 Schemes:Int
 deriving Inhabited,DecidableEq
structure api_Version where
 Day:Int
 Lines:List api_Line
 deriving Inhabited,DecidableEq
structure api_Application where
 Farm:Int
 Year:Int
 Versions:List api_Version
 deriving Inhabited,DecidableEq
structure arr2_i64 where
 e0:Int
 e1:Int
 deriving Inhabited,DecidableEq
structure api_Parcel where
 Number:Int
 From:Int
 Until:Int
 Parents:List Int
 Days:List Int
 Regions:List api_Region
 deriving Inhabited,DecidableEq
structure api_Edit where
 Day:Int
 Known:Int
 Kind:Int
 Parcels:List Int
 Regions:List api_Region
 deriving Inhabited,DecidableEq
structure landaidkeep_Tape where
 l:List Int
 at_:Int
 deriving Inhabited,DecidableEq
structure api_Bracket where
 Up:Int
 Rate:Int
 deriving Inhabited,DecidableEq
structure api_Place where
 Application:Int
 Line:Int
 deriving Inhabited,DecidableEq
structure crosscheck_face where
 rects:List api_Rect
 claims:List api_Place
 deriving Inhabited,DecidableEq
structure api_Double where
 Region:api_Region
 Claims:List api_Place
 deriving Inhabited,DecidableEq
structure api_Point where
 X:Int
 Y:Int
 deriving Inhabited,DecidableEq
structure outline_edge where
 from_:api_Point
 to:api_Point
 deriving Inhabited,DecidableEq
structure outline_wall where
 x:Int
 low:Int
 high:Int
 deriving Inhabited,DecidableEq
structure api_Crop where
 Name:ByteArray
 Family:Int
 Marks:Int
 deriving Inhabited,DecidableEq
structure application_days where
 open_:Int
 last:Int
 end_:Int
 deriving Inhabited,DecidableEq
structure crosscheck_line where
 place:api_Place
 rects:List api_Rect
 deriving Inhabited,DecidableEq
structure parcel_register where
 l:List api_Parcel
 deriving Inhabited,DecidableEq
structure region_Span where
 Left:Int
 Right:Int
 deriving Inhabited,DecidableEq
structure region_band where
 low:Int
 high:Int
 spans:List region_Span
 deriving Inhabited,DecidableEq
structure exact_wide where
 high:Int
 low:Int
 deriving Inhabited,DecidableEq
structure application_version where
 lines:List api_Line
 deriving Inhabited,DecidableEq
inductive Sn where
 |api_Rect|api_Region|api_Line|api_Version|api_Application|arr2_i64|api_Parcel|api_Edit|landaidkeep_Tape|api_Bracket|api_Place|crosscheck_face|api_Double|api_Point|outline_edge|outline_wall|api_Crop|application_days|crosscheck_line|parcel_register|region_Span|region_band|exact_wide|application_version
inductive Ty where
 |int (k:IntKind)
 |bool
 |str
 |sl (t:Ty)
 |st (s:Sn)
def car:Sn->Type
 | .api_Rect=>api_Rect
 | .api_Region=>api_Region
 | .api_Line=>api_Line
 | .api_Version=>api_Version
 | .api_Application=>api_Application
 | .arr2_i64=>arr2_i64
 | .api_Parcel=>api_Parcel
 | .api_Edit=>api_Edit
 | .landaidkeep_Tape=>landaidkeep_Tape
 | .api_Bracket=>api_Bracket
 | .api_Place=>api_Place
 | .crosscheck_face=>crosscheck_face
 | .api_Double=>api_Double
 | .api_Point=>api_Point
 | .outline_edge=>outline_edge
 | .outline_wall=>outline_wall
 | .api_Crop=>api_Crop
 | .application_days=>application_days
 | .crosscheck_line=>crosscheck_line
 | .parcel_register=>parcel_register
 | .region_Span=>region_Span
 | .region_band=>region_band
 | .exact_wide=>exact_wide
 | .application_version=>application_version
def sdflt:(s:Sn)->car s
 | .api_Rect=>(default:api_Rect)
 | .api_Region=>(default:api_Region)
 | .api_Line=>(default:api_Line)
 | .api_Version=>(default:api_Version)
 | .api_Application=>(default:api_Application)
 | .arr2_i64=>(default:arr2_i64)
 | .api_Parcel=>(default:api_Parcel)
 | .api_Edit=>(default:api_Edit)
 | .landaidkeep_Tape=>(default:landaidkeep_Tape)
 | .api_Bracket=>(default:api_Bracket)
 | .api_Place=>(default:api_Place)
 | .crosscheck_face=>(default:crosscheck_face)
 | .api_Double=>(default:api_Double)
 | .api_Point=>(default:api_Point)
 | .outline_edge=>(default:outline_edge)
 | .outline_wall=>(default:outline_wall)
 | .api_Crop=>(default:api_Crop)
 | .application_days=>(default:application_days)
 | .crosscheck_line=>(default:crosscheck_line)
 | .parcel_register=>(default:parcel_register)
 | .region_Span=>(default:region_Span)
 | .region_band=>(default:region_band)
 | .exact_wide=>(default:exact_wide)
 | .application_version=>(default:application_version)
def den:Ty->Type
 | .int _=>Int
 | .bool=>Bool
 | .str=>ByteArray
 | .sl t=>List (den t)
 | .st s=>car s
def dens:List Ty->Type
 |[]=>Unit
 |t::ts=>den t×dens ts
def flds:Sn->List Ty
 | .api_Rect=>[.int .i64,.int .i64,.int .i64,.int .i64]
 | .api_Region=>[.sl (.st .api_Rect)]
 | .api_Line=>[.int .i64,.sl (.st .api_Rect),.int .i64,.int .i64]
 | .api_Version=>[.int .i64,.sl (.st .api_Line)]
 | .api_Application=>[.int .i64,.int .i64,.sl (.st .api_Version)]
 | .arr2_i64=>[.int .i64,.int .i64]
 | .api_Parcel=>[.int .i64,.int .i64,.int .i64,.sl (.int .i64),.sl (.int .i64),.sl (.st .api_Region)]
 | .api_Edit=>[.int .i64,.int .i64,.int .i64,.sl (.int .i64),.sl (.st .api_Region)]
 | .landaidkeep_Tape=>[.sl (.int .i64),.int .i64]
 | .api_Bracket=>[.int .i64,.int .i64]
 | .api_Place=>[.int .i64,.int .i64]
 | .crosscheck_face=>[.sl (.st .api_Rect),.sl (.st .api_Place)]
 | .api_Double=>[.sl (.st .api_Rect),.sl (.st .api_Place)]
 | .api_Point=>[.int .i64,.int .i64]
 | .outline_edge=>[.int .i64,.int .i64,.int .i64,.int .i64]
 | .outline_wall=>[.int .i64,.int .i64,.int .i64]
 | .api_Crop=>[.str,.int .i64,.int .i64]
 | .application_days=>[.int .i64,.int .i64,.int .i64]
 | .crosscheck_line=>[.int .i64,.int .i64,.sl (.st .api_Rect)]
 | .parcel_register=>[.sl (.st .api_Parcel)]
 | .region_Span=>[.int .i64,.int .i64]
 | .region_band=>[.int .i64,.int .i64,.sl (.st .region_Span)]
 | .exact_wide=>[.int .u64,.int .u64]
 | .application_version=>[.sl (.st .api_Line)]
def un:(s:Sn)->car s->dens (flds s)
 | .api_Rect,(x:api_Rect)=>(x.Left,x.Low,x.Right,x.High,())
 | .api_Region,(x:api_Region)=>(x.Rects,())
 | .api_Line,(x:api_Line)=>(x.Parcel,x.Region.Rects,x.Crop,x.Schemes,())
 | .api_Version,(x:api_Version)=>(x.Day,x.Lines,())
 | .api_Application,(x:api_Application)=>(x.Farm,x.Year,x.Versions,())
 | .arr2_i64,(x:arr2_i64)=>(x.e0,x.e1,())
 | .api_Parcel,(x:api_Parcel)=>(x.Number,x.From,x.Until,x.Parents,x.Days,x.Regions,())
 | .api_Edit,(x:api_Edit)=>(x.Day,x.Known,x.Kind,x.Parcels,x.Regions,())
 | .landaidkeep_Tape,(x:landaidkeep_Tape)=>(x.l,x.at_,())
 | .api_Bracket,(x:api_Bracket)=>(x.Up,x.Rate,())
 | .api_Place,(x:api_Place)=>(x.Application,x.Line,())
 | .crosscheck_face,(x:crosscheck_face)=>(x.rects,x.claims,())
 | .api_Double,(x:api_Double)=>(x.Region.Rects,x.Claims,())
 | .api_Point,(x:api_Point)=>(x.X,x.Y,())
 | .outline_edge,(x:outline_edge)=>(x.from_.X,x.from_.Y,x.to.X,x.to.Y,())
 | .outline_wall,(x:outline_wall)=>(x.x,x.low,x.high,())
 | .api_Crop,(x:api_Crop)=>(x.Name,x.Family,x.Marks,())
 | .application_days,(x:application_days)=>(x.open_,x.last,x.end_,())
 | .crosscheck_line,(x:crosscheck_line)=>(x.place.Application,x.place.Line,x.rects,())
 | .parcel_register,(x:parcel_register)=>(x.l,())
 | .region_Span,(x:region_Span)=>(x.Left,x.Right,())
 | .region_band,(x:region_band)=>(x.low,x.high,x.spans,())
 | .exact_wide,(x:exact_wide)=>(x.high,x.low,())
 | .application_version,(x:application_version)=>(x.lines,())
def mk:(s:Sn)->dens (flds s)->car s
 | .api_Rect,y=>(⟨y.1,y.2.1,y.2.2.1,y.2.2.2.1⟩:api_Rect)
 | .api_Region,y=>(⟨y.1⟩:api_Region)
 | .api_Line,y=>(⟨y.1,(⟨y.2.1⟩:api_Region),y.2.2.1,y.2.2.2.1⟩:api_Line)
 | .api_Version,y=>(⟨y.1,y.2.1⟩:api_Version)
 | .api_Application,y=>(⟨y.1,y.2.1,y.2.2.1⟩:api_Application)
 | .arr2_i64,y=>(⟨y.1,y.2.1⟩:arr2_i64)
 | .api_Parcel,y=>(⟨y.1,y.2.1,y.2.2.1,y.2.2.2.1,y.2.2.2.2.1,y.2.2.2.2.2.1⟩:api_Parcel)
 | .api_Edit,y=>(⟨y.1,y.2.1,y.2.2.1,y.2.2.2.1,y.2.2.2.2.1⟩:api_Edit)
 | .landaidkeep_Tape,y=>(⟨y.1,y.2.1⟩:landaidkeep_Tape)
 | .api_Bracket,y=>(⟨y.1,y.2.1⟩:api_Bracket)
 | .api_Place,y=>(⟨y.1,y.2.1⟩:api_Place)
 | .crosscheck_face,y=>(⟨y.1,y.2.1⟩:crosscheck_face)
 | .api_Double,y=>(⟨(⟨y.1⟩:api_Region),y.2.1⟩:api_Double)
 | .api_Point,y=>(⟨y.1,y.2.1⟩:api_Point)
 | .outline_edge,y=>(⟨(⟨y.1,y.2.1⟩:api_Point),(⟨y.2.2.1,y.2.2.2.1⟩:api_Point)⟩:outline_edge)
 | .outline_wall,y=>(⟨y.1,y.2.1,y.2.2.1⟩:outline_wall)
 | .api_Crop,y=>(⟨y.1,y.2.1,y.2.2.1⟩:api_Crop)
 | .application_days,y=>(⟨y.1,y.2.1,y.2.2.1⟩:application_days)
 | .crosscheck_line,y=>(⟨(⟨y.1,y.2.1⟩:api_Place),y.2.2.1⟩:crosscheck_line)
 | .parcel_register,y=>(⟨y.1⟩:parcel_register)
 | .region_Span,y=>(⟨y.1,y.2.1⟩:region_Span)
 | .region_band,y=>(⟨y.1,y.2.1,y.2.2.1⟩:region_band)
 | .exact_wide,y=>(⟨y.1,y.2.1⟩:exact_wide)
 | .application_version,y=>(⟨y.1⟩:application_version)
theorem un_mk:∀(s:Sn)(y:dens (flds s)),un s (mk s y)=y
 | .api_Rect,y=>rfl
 | .api_Region,y=>rfl
 | .api_Line,y=>rfl
 | .api_Version,y=>rfl
 | .api_Application,y=>rfl
 | .arr2_i64,y=>rfl
 | .api_Parcel,y=>rfl
 | .api_Edit,y=>rfl
 | .landaidkeep_Tape,y=>rfl
 | .api_Bracket,y=>rfl
 | .api_Place,y=>rfl
 | .crosscheck_face,y=>rfl
 | .api_Double,y=>rfl
 | .api_Point,y=>rfl
 | .outline_edge,y=>rfl
 | .outline_wall,y=>rfl
 | .api_Crop,y=>rfl
 | .application_days,y=>rfl
 | .crosscheck_line,y=>rfl
 | .parcel_register,y=>rfl
 | .region_Span,y=>rfl
 | .region_band,y=>rfl
 | .exact_wide,y=>rfl
 | .application_version,y=>rfl
def snum:Sn->Nat
 | .api_Rect=>0| .api_Region=>1| .api_Line=>2| .api_Version=>3| .api_Application=>4| .arr2_i64=>5| .api_Parcel=>6| .api_Edit=>7| .landaidkeep_Tape=>8| .api_Bracket=>9| .api_Place=>10| .crosscheck_face=>11| .api_Double=>12| .api_Point=>13| .outline_edge=>14| .outline_wall=>15| .api_Crop=>16| .application_days=>17| .crosscheck_line=>18| .parcel_register=>19| .region_Span=>20| .region_band=>21| .exact_wide=>22| .application_version=>23
def sof:Nat->Sn
 |0=> .api_Rect|1=> .api_Region|2=> .api_Line|3=> .api_Version|4=> .api_Application|5=> .arr2_i64|6=> .api_Parcel|7=> .api_Edit|8=> .landaidkeep_Tape|9=> .api_Bracket|10=> .api_Place|11=> .crosscheck_face|12=> .api_Double|13=> .api_Point|14=> .outline_edge|15=> .outline_wall|16=> .api_Crop|17=> .application_days|18=> .crosscheck_line|19=> .parcel_register|20=> .region_Span|21=> .region_band|22=> .exact_wide|_=> .application_version
theorem sof_num:∀s,sof (snum s)=s
 | .api_Rect=>rfl| .api_Region=>rfl| .api_Line=>rfl| .api_Version=>rfl| .api_Application=>rfl| .arr2_i64=>rfl| .api_Parcel=>rfl| .api_Edit=>rfl| .landaidkeep_Tape=>rfl| .api_Bracket=>rfl| .api_Place=>rfl| .crosscheck_face=>rfl| .api_Double=>rfl| .api_Point=>rfl| .outline_edge=>rfl| .outline_wall=>rfl| .api_Crop=>rfl| .application_days=>rfl| .crosscheck_line=>rfl| .parcel_register=>rfl| .region_Span=>rfl| .region_band=>rfl| .exact_wide=>rfl| .application_version=>rfl
def lookT:List (Nat×Ty)->Nat->Option Ty
 |[],_=>none
 |(k,t)::r,x=>bif Nat.beq k x then some t else lookT r x
def keepT:List Nat:=[]
def tau:TypeId->Option Ty:=lookT [(2,.int .i64),(3,.int .i64),(4,.bool),(5,.int .u8),(9,.str),(12,.int .u64),(21,.int .i32),(22,.sl (.int .i64)),(25,.sl (.st .api_Crop)),(26,.sl (.st .api_Version)),(27,.sl (.st .api_Region)),(31,.sl (.st .api_Line)),(32,.st .api_Version),(33,.st .api_Version),(34,.st .api_Application),(35,.st .api_Application),(36,.int .i64),(41,.sl (.st .api_Double)),(46,.sl (.st .api_Edit)),(47,.sl (.st .api_Parcel)),(54,.sl (.st .api_Rect)),(55,.st .api_Region),(56,.st .api_Region),(59,.sl (.sl (.st .api_Point))),(64,.sl (.st .arr2_i64)),(68,.st .arr2_i64),(70,.st .api_Parcel),(71,.st .api_Parcel),(77,.st .api_Rect),(78,.st .api_Rect),(79,.st .api_Edit),(80,.st .api_Edit),(83,.st .landaidkeep_Tape),(84,.st .landaidkeep_Tape),(94,.st .api_Bracket),(95,.st .api_Bracket),(96,.sl (.st .api_Bracket)),(99,.sl (.sl (.str))),(103,.sl (.st .api_Point)),(110,.sl (.st .crosscheck_line)),(113,.sl (.st .crosscheck_face)),(115,.sl (.st .api_Place)),(116,.st .crosscheck_face),(117,.st .crosscheck_face),(118,.st .api_Double),(119,.st .api_Double),(122,.st .api_Place),(123,.st .api_Place),(126,.st .api_Line),(127,.st .api_Line),(140,.sl (.st .outline_edge)),(143,.st .api_Point),(144,.st .api_Point),(145,.st .outline_edge),(146,.st .outline_edge),(156,.sl (.st .outline_wall)),(158,.st .outline_wall),(159,.st .outline_wall),(163,.sl (.st .region_Span)),(175,.sl (.str)),(176,.st .api_Crop),(177,.st .api_Crop),(200,.st .application_days),(201,.st .application_days),(208,.st .crosscheck_line),(209,.st .crosscheck_line),(213,.int .u64),(224,.st .parcel_register),(225,.st .parcel_register),(236,.st .region_Span),(237,.st .region_Span),(249,.sl (.st .region_band)),(250,.st .region_band),(251,.st .region_band),(258,.sl (.sl (.st .api_Rect))),(271,.int .u64),(272,.st .exact_wide),(273,.st .exact_wide),(281,.st .application_version),(282,.st .application_version),(285,.int .i64),(293,.int .u32),(339,.int .u64),(354,.sl (.sl (.st .region_Span)))]
def dcol:Ty->Nat->Option (TypeId×Ty)
 | .st .api_Parcel,3=>some (3,.int .i64)
 | .st .api_Parcel,4=>some (3,.int .i64)
 | .st .api_Parcel,5=>some (56,.st .api_Region)
 |_,_=>none
def Ty.beq:Ty->Ty->Bool
 | .int a,.int b=>decide (a=b)
 | .bool,.bool=>true
 | .str,.str=>true
 | .sl a,.sl b=>a.beq b
 | .st a,.st b=>Nat.beq (snum a) (snum b)
 |_,_=>false
theorem Ty.beq_eq:∀{a b:Ty},a.beq b=true->a=b
 | .int a,.int b,h=>by simp only[Ty.beq,decide_eq_true_eq] at h;rw[h]
 | .bool,.bool,_=>rfl
 | .str,.str,_=>rfl
 | .sl a,.sl b,h=>by simp only[Ty.beq] at h;rw[Ty.beq_eq h]
 | .st a,.st b,h=>by
  simp only[Ty.beq] at h
  have:=congrArg sof (Nat.eq_of_beq_eq_true h)
  rw[sof_num,sof_num] at this;rw[this]
 | .int _,.bool,h| .int _,.str,h| .int _,.sl _,h| .int _,.st _,h=>by simp[Ty.beq] at h
 | .bool,.int _,h| .bool,.str,h| .bool,.sl _,h| .bool,.st _,h=>by simp[Ty.beq] at h
 | .str,.int _,h| .str,.bool,h| .str,.sl _,h| .str,.st _,h=>by simp[Ty.beq] at h
 | .sl _,.int _,h| .sl _,.bool,h| .sl _,.str,h| .sl _,.st _,h=>by simp[Ty.beq] at h
 | .st _,.int _,h| .st _,.bool,h| .st _,.str,h| .st _,.sl _,h=>by simp[Ty.beq] at h
def dflt:(t:Ty)->den t
 | .int _=>(0:Int)
 | .bool=>false
 | .str=>ByteArray.empty
 | .sl _=>[]
 | .st s=>sdflt s
instance (t:Ty):Inhabited (den t):=⟨dflt t⟩
inductive D where
 |v (x:Value)
 |fn (f:FuncId) (caps:List D)
 |agg (cs:List D)
 |tup (cs:List D)
 |sl (t:Ty) (l:List (den t))
 |p (cs:List D)
instance:Inhabited D:=⟨.v default⟩
def encA:(t:Ty)->den t->D
 | .int k,(z:Int)=> .v (.int k z)
 | .bool,(b:Bool)=> .v (.bool b)
 | .str,(s:ByteArray)=> .v (.string s)
 | .sl t,(l:List (den t))=> .sl t l
 | .st _,_=> .v undef
def encs:(ts:List Ty)->dens ts->List D
 |[],_=>[]
 |t::ts,x=>encA t x.1::encs ts x.2
def enc:(t:Ty)->den t->List D
 | .st s,x=>encs (flds s) (RE.un s x)
 | .int k,x=>[encA (.int k) x]
 | .bool,x=>[encA .bool x]
 | .str,x=>[encA .str x]
 | .sl t,x=>[encA (.sl t) x]
def size:Ty->Nat
 | .st s=>(flds s).length
 |_=>1
theorem encs_len:∀(ts:List Ty)(x:dens ts),(encs ts x).length=ts.length
 |[],_=>rfl
 |t::ts,x=>by simp[encs,encs_len ts x.2]
theorem enc_len:∀(t:Ty)(x:den t),(enc t x).length=size t
 | .st s,x=>encs_len _ _
 | .int _,_=>rfl
 | .bool,_=>rfl
 | .str,_=>rfl
 | .sl _,_=>rfl
def tv:(t:Ty)->den t->D
 | .st s,x=> .agg (encs (flds s) (RE.un s x))
 | .int k,x=>encA (.int k) x
 | .bool,x=>encA .bool x
 | .str,x=>encA .str x
 | .sl t,x=>encA (.sl t) x
def castL (t t':Ty)(l:List (den t')):Option (List (den t)):=if h:t'.beq t=true then some ((Ty.beq_eq h) ▸ l) else none
def decI (k:IntKind):D->Option Int
 | .v (.int k' z)=>if k'=k then some z else none
 |_=>none
def decB:D->Option Bool
 | .v (.bool b)=>some b
 |_=>none
def decS:D->Option ByteArray
 | .v (.string s)=>some s
 |_=>none
def isNil:Value->Bool
 | .slice none 0 0=>true
 |_=>false
def decL (t:Ty):D->Option (List (den t))
 | .sl t' l=>castL t t' l
 | .v x=>bif isNil x then some [] else none
 |_=>none
def decA:(t:Ty)->D->Option (den t)
 | .int k,d=>decI k d
 | .bool,d=>decB d
 | .str,d=>decS d
 | .sl t,d=>decL t d
 | .st _,_=>none
def decs:(ts:List Ty)->List D->Option (dens ts)
 |[],[]=>some ()
 |t::ts,d::ds=>match decA t d,decs ts ds with
  |some x,some r=>some (x,r)
  |_,_=>none
 |_,_=>none
def decOne (t:Ty):List D->Option (den t)
 |[c]=>decA t c
 |_=>none
def decSt (s:Sn)(cs:List D):Option (car s):=match decs (flds s) cs with
 |some y=>some (RE.mk s y)
 |none=>none
def dec:(t:Ty)->List D->Option (den t)
 | .st s,cs=>decSt s cs
 | .int k,cs=>decOne (.int k) cs
 | .bool,cs=>decOne .bool cs
 | .str,cs=>decOne .str cs
 | .sl t,cs=>decOne (.sl t) cs
def decAgg (s:Sn):D->Option (car s)
 | .agg cs=>decSt s cs
 |_=>none
def undoT:(t:Ty)->D->Option (den t)
 | .st s,d=>decAgg s d
 | .int k,d=>decI k d
 | .bool,d=>decB d
 | .str,d=>decS d
 | .sl t,d=>decL t d
abbrev Cells:=Nat->Nat->Prop
inductive Rd (S:Cells) (w:World):D->Value->Prop
 |v (x:Value):Rd S w (.v x) x
 |fn (f:FuncId) (cs:List D) (us:List Value) (hl:us.length=cs.length) (h:∀(i:Nat)(c:D)(u:Value),cs[i]? =some c->us[i]? =some u->Rd S w c u):Rd S w (.fn f cs) (.func (.func f) #[] us.toArray)
 |agg (cs:List D) (us:List Value) (hl:us.length=cs.length) (h1:∀u∈us,u.oneCell'=true) (h:∀(i:Nat)(c:D)(u:Value),cs[i]? =some c->us[i]? =some u->Rd S w c u):Rd S w (.agg cs) (.agg us.toArray)
 |tup (cs:List D) (us:List Value) (hl:us.length=cs.length) (h:∀(i:Nat)(c:D)(u:Value),cs[i]? =some c->us[i]? =some u->Rd S w c u):Rd S w (.tup cs) (.tuple us.toArray)
 |sl (t:Ty) (l:List (den t)) (ad:Option Addr) (cap b off:Nat) (f:Nat->Nat->Value) (hc:l.length<=cap) (hm:cap<=maxLen) (ha:l=[]\/ad=some ⟨b,off,none⟩)
  (hx:∀(i:Nat),i<l.length->∀j,j<size t->S b (off+i * size t+j)/\w.cell? ⟨b,off+i * size t+j,none⟩=some (f i j)/\(f i j).oneCell'=true)
  (h:∀(i:Nat)(x:den t)(j:Nat)(c:D),l[i]? =some x->(enc t x)[j]? =some c->Rd S w c (f i j)):Rd S w (.sl t l) (.slice ad l.length cap)
 |p (cs:List D) (b off:Nat) (f:Nat->Value) (hx:∀j,j<cs.length->S b (off+j)/\w.cell? ⟨b,off+j,none⟩=some (f j)/\(f j).oneCell'=true)
  (h:∀(j:Nat)(c:D),cs[j]? =some c->Rd S w c (f j)):Rd S w (.p cs) (.pointer (some ⟨b,off,none⟩))
theorem Rd.mono {S S':Cells}{w w':World}(hS:∀b o,S b o->S' b o)(hw:∀b o,S b o->w'.cell? ⟨b,o,none⟩=w.cell? ⟨b,o,none⟩){x:D}{u:Value}(h:Rd S w x u):Rd S' w' x u:=by
 induction h with
 |v x=>exact .v x
 |fn f cs us hl h ih=>exact .fn f cs us hl ih
 |agg cs us hl h1 h ih=>exact .agg cs us hl h1 ih
 |tup cs us hl h ih=>exact .tup cs us hl ih
 |sl t l ad cap b off f hc hm ha hx h ih=>
  refine .sl t l ad cap b off f hc hm ha (λi hi j hj=> ?_) ih
  obtain⟨h1,h2,h3⟩:=hx i hi j hj
  exact⟨hS _ _ h1,(hw _ _ h1).trans h2,h3⟩
 |p cs b off f hx h ih=>
  refine .p cs b off f (λj hj=> ?_) ih
  obtain⟨h1,h2,h3⟩:=hx j hj
  exact⟨hS _ _ h1,(hw _ _ h1).trans h2,h3⟩
theorem rd_v {S:Cells}{w:World}{x u:Value}(h:Rd S w (.v x) u):u=x:=by cases h;rfl
theorem Rd.nil {S:Cells}{w:World}(t:Ty)(ad:Option Addr)(cap:Nat)(hm:cap<=maxLen):Rd S w (.sl t []) (.slice ad 0 cap):=
 Rd.sl t [] ad cap 0 0 (λ_ _=>undef) (Nat.zero_le _) hm (.inl rfl) (λi h=>by simp at h) (λi x j c h=>by simp at h)
theorem castL_rd {t t':Ty}{l:List (den t')}{l':List (den t)}(h:castL t t' l=some l'){S:Cells}{w:World}{u:Value}(hr:Rd S w (.sl t' l) u):Rd S w (.sl t l') u:=by
 unfold castL at h
 split at h
 ·rename_i hb
  have e:=Ty.beq_eq hb
  subst e
  injection h with h
  subst h
  exact hr
 ·cases h
theorem isNil_eq {x:Value}(h:isNil x=true):x= .slice none 0 0:=by
 unfold isNil at h
 split at h
 ·rfl
 ·cases h
theorem decA_rd:∀{t:Ty}{d:D}{x:den t},decA t d=some x->∀{S:Cells}{w:World}{u:Value},Rd S w d u->Rd S w (encA t x) u:=by
 intro t d x h S w u hr
 cases t with
 |int k=>
  have h:decI k d=some x:=h
  unfold decI at h
  split at h
  ·split at h
   ·rename_i he;subst he;injection h with h;subst h;exact hr
   ·cases h
  ·cases h
 |bool=>
  have h:decB d=some x:=h
  unfold decB at h
  split at h
  ·injection h with h;subst h;exact hr
  ·cases h
 |str=>
  have h:decS d=some x:=h
  unfold decS at h
  split at h
  ·injection h with h;subst h;exact hr
  ·cases h
 |sl t=>
  have h':decL t d=some x:=h
  clear h
  unfold decL at h'
  split at h'
  ·exact castL_rd h' hr
  ·rename_i y
   cases hn:isNil y with
   |false=>rw[hn] at h';cases h'
   |true=>
    rw[hn] at h'
    injection h' with h'
    subst h'
    rw[rd_v hr,isNil_eq hn]
    exact Rd.nil _ _ _ (Nat.zero_le _)
  ·cases h'
 |st s=>cases h
theorem decs_rd:∀{ts:List Ty}{ds:List D}{y:dens ts},decs ts ds=some y->ds.length=ts.length/\∀(i:Nat)(c d:D),(encs ts y)[i]? =some c->ds[i]? =some d->∀{S:Cells}{w:World}{u:Value},Rd S w d u->Rd S w c u
 |[],[],y,_=>⟨rfl,λi c d h=>by simp[encs] at h⟩
 |[],d::ds,y,h=>by simp[decs] at h
 |t::ts,[],y,h=>by simp[decs] at h
 |t::ts,d::ds,y,h=>by
  unfold decs at h
  split at h
  ·rename_i x r h1 h2
   injection h with h
   subst h
   obtain⟨k1,k2⟩:=decs_rd h2
   refine⟨by simp[k1],λi c d' hc hd S w u hr=> ?_⟩
   cases i with
   |zero=>simp[encs] at hc hd;subst hc hd;exact decA_rd h1 hr
   |succ i=>simp[encs] at hc hd;exact k2 i c d' hc hd hr
  ·cases h
theorem one_rd {t:Ty}{ds:List D}{x:den t}(hs:∀y:den t,enc t y=[encA t y])(h:decOne t ds=some x)(h1:size t=1):
 ds.length=size t/\∀(i:Nat)(c d:D),(enc t x)[i]? =some c->ds[i]? =some d->∀{S:Cells}{w:World}{u:Value},Rd S w d u->Rd S w c u:=by
 unfold decOne at h
 split at h
 ·rename_i d
  refine⟨by rw[h1];rfl,λi c d' hc hd' S w u hr=> ?_⟩
  rw[hs] at hc
  cases i with
  |zero=>simp at hc hd';subst hc hd';exact decA_rd h hr
  |succ i=>simp at hc
 ·cases h
theorem decSt_rd {s:Sn}{ds:List D}{x:car s}(h:decSt s ds=some x):ds.length=(flds s).length/\∀(i:Nat)(c d:D),(encs (flds s) (RE.un s x))[i]? =some c->ds[i]? =some d->∀{S:Cells}{w:World}{u:Value},Rd S w d u->Rd S w c u:=by
 unfold decSt at h
 split at h
 ·rename_i y hy
  injection h with h
  subst h
  have:=decs_rd hy
  refine⟨this.1,λi c d hc hd=>this.2 i c d ?_ hd⟩
  rw[un_mk] at hc
  exact hc
 ·cases h
theorem dec_rd:∀{t:Ty}{ds:List D}{x:den t},dec t ds=some x->ds.length=size t/\∀(i:Nat)(c d:D),(enc t x)[i]? =some c->ds[i]? =some d->∀{S:Cells}{w:World}{u:Value},Rd S w d u->Rd S w c u
 | .st s,ds,x,h=>decSt_rd (x:=x) h
 | .int k,ds,x,h=>one_rd (t:= .int k) (λ_=>rfl) h rfl
 | .bool,ds,x,h=>one_rd (t:= .bool) (λ_=>rfl) h rfl
 | .str,ds,x,h=>one_rd (t:= .str) (λ_=>rfl) h rfl
 | .sl t,ds,x,h=>one_rd (t:= .sl t) (λ_=>rfl) h rfl
theorem decA_sl {t t':Ty}{l:List (den t')}{x:den t}(h:decA t (.sl t' l)=some x):encA t x= .sl t' l:=by
 cases t with
 |int k=>cases h
 |bool=>cases h
 |str=>cases h
 |st s=>cases h
 |sl t=>
  have h:castL t t' l=some x:=h
  unfold castL at h
  split at h
  ·rename_i hb
   have e:=Ty.beq_eq hb
   subst e
   injection h with h
   subst h
   rfl
  ·cases h
theorem decs_sl:∀{ts:List Ty}{ds:List D}{y:dens ts},decs ts ds=some y->∀{k:Nat}{t':Ty}{l:List (den t')},ds[k]? =some (.sl t' l)->(encs ts y)[k]? =some (.sl t' l)
 |[],[],y,_,k,t',l,h=>by simp at h
 |[],d::ds,y,h,_,_,_,_=>by simp[decs] at h
 |t::ts,[],y,h,_,_,_,_=>by simp[decs] at h
 |t::ts,d::ds,y,h,k,t',l,hk=>by
  unfold decs at h
  split at h
  ·rename_i x r h1 h2
   injection h with h
   subst h
   cases k with
   |zero=>simp at hk;subst hk;simp[encs,decA_sl h1]
   |succ k=>simp at hk;simpa [encs] using decs_sl h2 hk
  ·cases h
theorem dec_sl:∀{t:Ty}{ds:List D}{x:den t},dec t ds=some x->∀{k:Nat}{t':Ty}{l:List (den t')},ds[k]? =some (.sl t' l)->(enc t x)[k]? =some (.sl t' l):=by
 intro t ds x h k t' l hk
 have one:∀(t:Ty)(x:den t)(hs:∀y:den t,enc t y=[encA t y]),decOne t ds=some x->(enc t x)[k]? =some (.sl t' l):=λt x hs h=>by
  unfold decOne at h
  split at h
  ·rename_i d
   cases k with
   |zero=>simp at hk;subst hk;rw[hs];simp[decA_sl h]
   |succ k=>simp at hk
  ·cases h
 cases t with
 |int k=>exact one (.int k) x (λ_=>rfl) h
 |bool=>exact one .bool x (λ_=>rfl) h
 |str=>exact one .str x (λ_=>rfl) h
 |sl t=>exact one (.sl t) x (λ_=>rfl) h
 |st s=>
  have h:decSt s ds=some x:=h
  unfold decSt at h
  split at h
  ·rename_i y hy
   injection h with h
   subst h
   show (encs (flds s) (RE.un s (RE.mk s y)))[k]? =_
   rw[un_mk]
   exact decs_sl hy hk
  ·cases h
theorem undoT_rd:∀{t:Ty}{d:D}{x:den t},undoT t d=some x->∀{S:Cells}{w:World}{u:Value},Rd S w d u->Rd S w (tv t x) u
 | .st s,d,x,h,S,w,u,hr=>by
  have h:decAgg s d=some x:=h
  cases d with
  |agg cs=>
   obtain⟨k1,k2⟩:=decSt_rd (x:=x) (ds:=cs) h
   cases hr with
   |agg _ us hl h1 hh=>
    refine Rd.agg _ us (by rw[hl,k1,encs_len]) h1 λi c v hc hv=> ?_
    have hi:i<cs.length:=by rw[<-hl];exact (List.getElem?_eq_some_iff.1 hv).1
    exact k2 i c cs[i] hc (List.getElem?_eq_getElem hi) (hh i _ v (List.getElem?_eq_getElem hi) hv)
  |_=>cases h
 | .int k,d,x,h,S,w,u,hr=>decA_rd (t:= .int k) (x:=x) h hr
 | .bool,d,x,h,S,w,u,hr=>decA_rd (t:= .bool) (x:=x) h hr
 | .str,d,x,h,S,w,u,hr=>decA_rd (t:= .str) (x:=x) h hr
 | .sl t,d,x,h,S,w,u,hr=>decA_rd (t:= .sl t) (x:=x) h hr
inductive SV where
 |d (x:D)
 |bx (id off:Nat)
 |os (id:Nat)
 |sub (id sz:Nat) (a b:Int)
 |op (id:Nat) (i:Int) (sz j:Nat)
 |agg (cs:List SV)
 |tup (cs:List SV)
 |fn (f:FuncId) (cs:List SV)
 |cnd (q:Nat) (want g:Bool) (x:SV)
 |tp
 |un
 |ns (id:Nat)
 |np (id:Nat) (i:Int) (sz j:Nat)
 |inn (id:Nat) (i:Int)
 |ip (id:Nat) (i z:Int) (sz j:Nat)
instance:Inhabited SV:=⟨.un⟩
mutual
def SV.inU (U:Nat->Prop):SV->Prop
 | .bx id _=>U id
 | .os id=>U id
 | .sub id _ _ _=>U id
 | .op id _ _ _=>U id
 | .agg cs=>inUL U cs
 | .tup cs=>inUL U cs
 | .fn _ cs=>inUL U cs
 | .cnd _ _ _ x=>x.inU U
 | .d _=>True
 | .tp=>True
 | .un=>True
 | .ns id=>U id
 | .np id _ _ _=>U id
 | .inn id _=>U id
 | .ip id _ _ _ _=>U id
def inUL (U:Nat->Prop):List SV->Prop
 |[]=>True
 |s::r=>s.inU U/\inUL U r
end
theorem inUL_get {U:Nat->Prop}:∀{cs:List SV},inUL U cs->∀{i:Nat}{s:SV},cs[i]? =some s->s.inU U
 |[],_,i,s,h=>by simp at h
 |x::r,hu,i,s,h=>by
  cases i with
  |zero=>simp at h;subst h;exact hu.1
  |succ i=>simp at h;exact inUL_get hu.2 h
theorem inUL_of {U:Nat->Prop}:∀{cs:List SV},(∀(i:Nat)(s:SV),cs[i]? =some s->s.inU U)->inUL U cs
 |[],_=>trivial
 |x::r,h=>⟨h 0 x rfl,inUL_of λi s hs=>h (i+1) s (by simpa using hs)⟩
mutual
theorem SV.inU_mono {U U':Nat->Prop}(h:∀k,U k->U' k):∀(s:SV),s.inU U->s.inU U'
 | .bx id _,k=>h _ k
 | .os id,k=>h _ k
 | .sub id _ _ _,k=>h _ k
 | .op id _ _ _,k=>h _ k
 | .agg cs,k=>inUL_mono h cs k
 | .tup cs,k=>inUL_mono h cs k
 | .fn _ cs,k=>inUL_mono h cs k
 | .cnd _ _ _ x,k=>SV.inU_mono h x k
 | .d _,_=>trivial
 | .tp,_=>trivial
 | .un,_=>trivial
 | .ns id,k=>h _ k
 | .np id _ _ _,k=>h _ k
 | .inn id _,k=>h _ k
 | .ip id _ _ _ _,k=>h _ k
theorem inUL_mono {U U':Nat->Prop}(h:∀k,U k->U' k):∀(cs:List SV),inUL U cs->inUL U' cs
 |[],_=>trivial
 |s::r,k=>⟨SV.inU_mono h s k.1,inUL_mono h r k.2⟩
end
structure Cx where
 S:Cells
 H:Nat->Value
 F:Nat->Nat->Prop
 T:Option Nat
def subV (sz a b:Nat):Value->Value
 | .slice ad n cap=> .slice (if cap=a then ad else ad.map (·.add (a * sz))) (b-a) (cap-a)
 |v=>v
inductive SRel (c:Cx) (w:World):SV->Value->Prop
 |d (x:D) (u:Value) (h:Rd c.S w x u):SRel c w (.d x) u
 |bx (id off b:Nat) (h:c.H id= .pointer (some ⟨b,0,none⟩)):SRel c w (.bx id off) (.pointer (some ⟨b,off,none⟩))
 |os (id:Nat):SRel c w (.os id) (c.H id)
 |sub (id sz:Nat) (a b:Int) (ad:Option Addr) (n cap:Nat) (h:c.H id= .slice ad n cap) (hab:0<=a/\a<=b/\b<=(n:Int)):SRel c w (.sub id sz a b) (subV sz a.toNat b.toNat (.slice ad n cap))
 |op (id:Nat) (i:Int) (sz j g n cap:Nat) (h:c.H id= .slice (some ⟨g,0,none⟩) n cap) (hi:0<=i/\i<(n:Int)):SRel c w (.op id i sz j) (.pointer (some ⟨g,i.toNat * sz+j,none⟩))
 |agg (cs:List SV) (us:List Value) (hl:us.length=cs.length) (h1:∀u∈us,u.oneCell'=true) (h:∀(i:Nat)(s:SV)(u:Value),cs[i]? =some s->us[i]? =some u->SRel c w s u):SRel c w (.agg cs) (.agg us.toArray)
 |tup (cs:List SV) (us:List Value) (hl:us.length=cs.length) (h:∀(i:Nat)(s:SV)(u:Value),cs[i]? =some s->us[i]? =some u->SRel c w s u):SRel c w (.tup cs) (.tuple us.toArray)
 |fn (f:FuncId) (cs:List SV) (us:List Value) (hl:us.length=cs.length) (h:∀(i:Nat)(s:SV)(u:Value),cs[i]? =some s->us[i]? =some u->SRel c w s u):SRel c w (.fn f cs) (.func (.func f) #[] us.toArray)
 |cnd (q:Nat) (want g:Bool) (x:SV) (u:Value) (h:g=true->SRel c w x u) (h':g=false->u=undef):SRel c w (.cnd q want g x) u
 |tp (T:Nat) (h:c.T=some T):SRel c w .tp (.pointer (some ⟨T,0,none⟩))
 |un (u:Value):SRel c w .un u
 |ns (id:Nat) (v:Value) (vs:List Value) (h:c.H id= .tuple (v::vs).toArray):SRel c w (.ns id) v
 |np (id:Nat) (i:Int) (sz j g n cap:Nat) (vs:List Value) (h:c.H id= .tuple (Value.slice (some ⟨g,0,none⟩) n cap::vs).toArray) (hi:0<=i/\i<(n:Int)):SRel c w (.np id i sz j) (.pointer (some ⟨g,i.toNat * sz+j,none⟩))
 |inn (id:Nat) (i:Int) (v:Value) (vs:List Value) (u:Value) (h:c.H id= .tuple (v::vs).toArray) (hi:0<=i) (hu:vs[i.toNat]? =some u):SRel c w (.inn id i) u
 |ip (id:Nat) (i z:Int) (sz j g n cap:Nat) (v:Value) (vs:List Value) (h:c.H id= .tuple (v::vs).toArray) (hi:0<=i) (hu:vs[i.toNat]? =some (.slice (some ⟨g,0,none⟩) n cap)) (hz:0<=z/\z<(n:Int)):SRel c w (.ip id i z sz j) (.pointer (some ⟨g,z.toNat * sz+j,none⟩))
theorem SRel.mono {c c':Cx}{w w':World}{U:Nat->Prop}(hS:∀b o,c.S b o->c'.S b o)(hw:∀b o,c.S b o->w'.cell? ⟨b,o,none⟩=w.cell? ⟨b,o,none⟩)(hT:∀T,c.T=some T->c'.T=some T)(hH:∀id,U id->c'.H id=c.H id)
 {s:SV} {u:Value} (h:SRel c w s u):s.inU U->SRel c' w' s u:=by
 induction h with
 |d x u h=>exact λ_=> .d x u (h.mono hS hw)
 |bx id off b h=>exact λhu=> .bx id off b ((hH id hu).trans h)
 |os id=>exact λhu=>by rw[<-hH id hu];exact .os id
 |sub id sz a b ad n cap h hab=>exact λhu=> .sub id sz a b ad n cap ((hH id hu).trans h) hab
 |op id i sz j g n cap h hi=>exact λhu=> .op id i sz j g n cap ((hH id hu).trans h) hi
 |agg cs us hl h1 h ih=>exact λhu=> .agg cs us hl h1 λi s u hs hv=>ih i s u hs hv (inUL_get hu hs)
 |tup cs us hl h ih=>exact λhu=> .tup cs us hl λi s u hs hv=>ih i s u hs hv (inUL_get hu hs)
 |fn f cs us hl h ih=>exact λhu=> .fn f cs us hl λi s u hs hv=>ih i s u hs hv (inUL_get hu hs)
 |cnd q want g x u h h' ih=>exact λhu=> .cnd q want g x u (λhg=>ih hg hu) h'
 |tp T h=>exact λ_=> .tp T (hT T h)
 |un u=>exact λ_=> .un u
 |ns id v vs h=>exact λhu=> .ns id v vs ((hH id hu).trans h)
 |np id i sz j g n cap vs h hi=>exact λhu=> .np id i sz j g n cap vs ((hH id hu).trans h) hi
 |inn id i v vs u h hi hu=>exact λhu'=> .inn id i v vs u ((hH id hu').trans h) hi hu
 |ip id i z sz j g n cap v vs h hi hu hz=>exact λhu'=> .ip id i z sz j g n cap v vs ((hH id hu').trans h) hi hu hz
theorem srel_d {c:Cx}{w:World}{x:D}{u:Value}(h:SRel c w (.d x) u):Rd c.S w x u:=by cases h;assumption
theorem srel_v {c:Cx}{w:World}{x u:Value}(h:SRel c w (.d (.v x)) u):u=x:=rd_v (srel_d h)
theorem v_srel {c:Cx}{w:World}(x:Value):SRel c w (.d (.v x)) x:= .d _ _ (.v x)
theorem srel_bx {c:Cx}{w:World}{id off:Nat}{u:Value}(h:SRel c w (.bx id off) u):∃b,c.H id= .pointer (some ⟨b,0,none⟩)/\u= .pointer (some ⟨b,off,none⟩):=by cases h;exact⟨_,by assumption,rfl⟩
theorem srel_os {c:Cx}{w:World}{id:Nat}{u:Value}(h:SRel c w (.os id) u):u=c.H id:=by cases h;rfl
theorem srel_sub {c:Cx}{w:World}{id sz:Nat}{a b:Int}{u:Value}(h:SRel c w (.sub id sz a b) u):∃ad n cap,c.H id= .slice ad n cap/\u=subV sz a.toNat b.toNat (.slice ad n cap)/\0<=a/\a<=b/\b<=(n:Int):=by
 cases h with
 |sub _ _ _ _ ad n cap h hab=>exact⟨ad,n,cap,h,rfl,hab⟩
theorem srel_op {c:Cx}{w:World}{id:Nat}{i:Int}{sz j:Nat}{u:Value}(h:SRel c w (.op id i sz j) u):∃g n cap,c.H id= .slice (some ⟨g,0,none⟩) n cap/\u= .pointer (some ⟨g,i.toNat * sz+j,none⟩)/\0<=i/\i<(n:Int):=by
 cases h with
 |op _ _ _ _ g n cap h hi=>exact⟨g,n,cap,h,rfl,hi⟩
theorem srel_ns {c:Cx}{w:World}{id:Nat}{u:Value}(h:SRel c w (.ns id) u):∃vs,c.H id= .tuple (u::vs).toArray:=by
 cases h with
 |ns _ _ vs h=>exact⟨vs,h⟩
theorem srel_np {c:Cx}{w:World}{id:Nat}{i:Int}{sz j:Nat}{u:Value}(h:SRel c w (.np id i sz j) u):∃g n cap vs,c.H id= .tuple (Value.slice (some ⟨g,0,none⟩) n cap::vs).toArray/\u= .pointer (some ⟨g,i.toNat * sz+j,none⟩)/\0<=i/\i<(n:Int):=by
 cases h with
 |np _ _ _ _ g n cap vs h hi=>exact⟨g,n,cap,vs,h,rfl,hi⟩
theorem srel_inn {c:Cx}{w:World}{id:Nat}{i:Int}{u:Value}(h:SRel c w (.inn id i) u):∃v vs,c.H id= .tuple (v::vs).toArray/\0<=i/\vs[i.toNat]? =some u:=by
 cases h with
 |inn _ _ v vs _ h hi hu=>exact⟨v,vs,h,hi,hu⟩
theorem srel_ip {c:Cx}{w:World}{id:Nat}{i z:Int}{sz j:Nat}{u:Value}(h:SRel c w (.ip id i z sz j) u):∃v vs g n cap,c.H id= .tuple (v::vs).toArray/\0<=i/\vs[i.toNat]? =some (.slice (some ⟨g,0,none⟩) n cap)/\u= .pointer (some ⟨g,z.toNat * sz+j,none⟩)/\0<=z/\z<(n:Int):=by
 cases h with
 |ip _ _ _ _ _ g n cap v vs h hi hu hz=>exact⟨v,vs,g,n,cap,h,hi,hu,rfl,hz⟩
theorem srel_tp {c:Cx}{w:World}{u:Value}(h:SRel c w .tp u):∃T,c.T=some T/\u= .pointer (some ⟨T,0,none⟩):=by cases h;exact⟨_,by assumption,rfl⟩
theorem srel_cnd {c:Cx}{w:World}{q:Nat}{want g:Bool}{x:SV}{u:Value}(h:SRel c w (.cnd q want g x) u):(g=true->SRel c w x u)/\(g=false->u=undef):=by cases h;exact⟨by assumption,by assumption⟩
theorem srel_agg {c:Cx}{w:World}{cs:List SV}{u:Value}(h:SRel c w (.agg cs) u):∃us:List Value,u= .agg us.toArray/\us.length=cs.length/\(∀u∈us,u.oneCell'=true)/\∀(i:Nat)(s:SV)(u:Value),cs[i]? =some s->us[i]? =some u->SRel c w s u:=by
 cases h;exact⟨_,rfl,by assumption,by assumption,by assumption⟩
inductive Ob where
 |box (cs:List SV)
 |row (e:TypeId) (t:Ty) (l:List (den t))
 |fro (t:Ty) (l:List (den t))
 |nst (e:TypeId) (t:Ty) (k:Nat) (e':TypeId) (t':Ty) (l:List (den t))
 |nfr (t:Ty) (l:List (den t))
 |mp (sym:Bool) (es:List (Int×D))
 |dp (e:TypeId) (t:Ty) (l:List (den t))
 |foc (e:TypeId) (t:Ty) (l:List (den t)) (k:Int) (cs:List SV)
 |als (k:Nat)
 |mw (es:List (List Int×SV))
 |it (s:ByteArray) (pos:Nat)
def Ob.own:Ob->Bool
 | .fro _ _=>false
 | .nfr _ _=>false
 | .als _=>false
 |_=>true
def Ob.inU (U:Nat->Prop):Ob->Prop
 | .box cs=>inUL U cs
 | .foc _ _ _ _ cs=>inUL U cs
 | .als k=>U k
 | .mw es=>inUL U (es.map (·.2))
 |_=>True
theorem Ob.inU_mono {U U':Nat->Prop}(h:∀k,U k->U' k):∀{o:Ob},o.inU U->o.inU U'
 | .box cs,k=>inUL_mono h cs k
 | .row _ _ _,_=>trivial
 | .fro _ _,_=>trivial
 | .nst _ _ _ _ _ _,_=>trivial
 | .nfr _ _,_=>trivial
 | .mp _ _,_=>trivial
 | .dp _ _ _,_=>trivial
 | .foc _ _ _ _ cs,k=>inUL_mono h cs k
 | .als _,k=>h _ k
 | .mw _,k=>inUL_mono h _ k
 | .it _ _,_=>trivial
def RowAt (w:World)(S:Cells)(v:Value)(F:Nat->Prop)(e:TypeId)(t:Ty)(l:List (den t)):Prop:=
 0<size t/\((l=[]/\(∃ad,v= .slice ad 0 0)/\∀b,¬F b)\/
 ∃g cap cur,v= .slice (some ⟨g,0,none⟩) l.length cap/\(∀b,F b↔b=g)/\w.heap[g]? =some (.cells cur e (0,0))/\l.length<=cap/\cap<=maxLen/\cur.size=cap * size t/\
  ∀(i:Nat)(x:den t),l[i]? =some x->∀(j:Nat)(c:D),(enc t x)[j]? =some c->∃u:Value,cur[i * size t+j]? =some u/\u.oneCell'=true/\Rd S w c u)
def NstAt (w:World)(S:Cells)(H:Value)(F:Nat->Prop)(e:TypeId)(t:Ty)(k:Nat)(e':TypeId)(t':Ty)(l:List (den t)):Prop:=
 0<size t/\k<size t/\∃(v:Value)(vs:List Value)(Fi:Nat->Nat->Prop),H= .tuple (v::vs).toArray/\vs.length=l.length/\
  ((l=[]/\(∃ad,v= .slice ad 0 0)/\∀b,¬F b)\/
  ∃g cap cur,v= .slice (some ⟨g,0,none⟩) l.length cap/\(∀b,F b↔b=g\/∃i,i<l.length/\Fi i b)/\(∀i,¬Fi i g)/\(∀i j b,Fi i b->Fi j b->i=j)/\w.heap[g]? =some (.cells cur e (0,0))/\l.length<=cap/\cap<=maxLen/\cur.size=cap * size t/\
   ∀(i:Nat)(x:den t),l[i]? =some x->(∀(j:Nat)(c:D),j≠k->(enc t x)[j]? =some c->∃u:Value,cur[i * size t+j]? =some u/\u.oneCell'=true/\Rd S w c u)/\
    ∃(li:List (den t'))(u:Value),(enc t x)[k]? =some (.sl t' li)/\vs[i]? =some u/\cur[i * size t+k]? =some u/\RowAt w S u (Fi i) e' t' li)
def CellD (w:World)(S:Cells)(F:Nat->Prop)(t:Ty)(j:Nat)(d:D)(u:Value):Prop:=match dcol t j with
 |none=>Rd S w d u
 |some (e',t')=>∃li:List (den t'),d= .sl t' li/\RowAt w S u F e' t' li
def DpAt (w:World)(S:Cells)(v:Value)(F:Nat->Prop)(e:TypeId)(t:Ty)(l:List (den t)):Prop:=
 0<size t/\((l=[]/\(∃ad,v= .slice ad 0 0)/\∀b,¬F b)\/
 ∃g cap cur,∃Fi:Nat->Nat->Nat->Prop,v= .slice (some ⟨g,0,none⟩) l.length cap/\(∀b,F b↔b=g\/∃i j,i<l.length/\Fi i j b)/\(∀i j,i<l.length->¬Fi i j g)/\(∀i j i' j' b,i<l.length->i'<l.length->Fi i j b->Fi i' j' b->i=i'/\j=j')/\w.heap[g]? =some (.cells cur e (0,0))/\l.length<=cap/\cap<=maxLen/\cur.size=cap * size t/\
  ∀(i:Nat)(x:den t),l[i]? =some x->∀(j:Nat)(d:D),(enc t x)[j]? =some d->∃u:Value,cur[i * size t+j]? =some u/\u.oneCell'=true/\CellD w S (Fi i j) t j d u)
def MapAt (w:World)(S:Cells)(v:Value)(F:Nat->Prop)(es:List (Int×D)):Prop:=
 ∃b arr clock,v= .map (some b)/\(∀x,F x↔x=b)/\w.heap[b]? =some (.map arr clock)/\arr.size=es.length/\∀(i:Nat)(k:Int)(d:D)(m:MapEntry),es[i]? =some (k,d)->arr[i]? =some m->m.key= .int .i64 k/\Rd S w d m.val
def BoxAt (w:World)(c:Cx)(id:Nat)(cs:List SV):Prop:=
 ∃b arr t,c.H id= .pointer (some ⟨b,0,none⟩)/\(∀x,c.F id x↔x=b)/\w.heap[b]? =some (.cells (List.toArray arr) t (0,0))/\arr.length=cs.length/\(∀u∈arr,u.oneCell'=true)/\∀(j:Nat)(s:SV)(u:Value),cs[j]? =some s->arr[j]? =some u->SRel c w s u
def FocAt (w:World)(c:Cx)(id:Nat)(e:TypeId)(t:Ty)(l:List (den t))(k:Int)(cs:List SV):Prop:=
 0<size t/\0<=k/\k<(l.length:Int)/\cs.length=size t/\∃g cap cur,c.H id= .slice (some ⟨g,0,none⟩) l.length cap/\(∀b,c.F id b↔b=g)/\w.heap[g]? =some (.cells cur e (0,0))/\l.length<=cap/\cap<=maxLen/\cur.size=cap * size t/\
  (∀(i:Nat)(x:den t),l[i]? =some x->i≠k.toNat->∀(j:Nat)(d:D),(enc t x)[j]? =some d->∃u:Value,cur[i * size t+j]? =some u/\u.oneCell'=true/\Rd c.S w d u)/\
  ∀(j:Nat)(s:SV),cs[j]? =some s->∃u:Value,cur[k.toNat * size t+j]? =some u/\u.oneCell'=true/\SRel c w s u
def keyV (k:List Int):Value:= .agg (k.map λz=>Value.int .i64 z).toArray
def MwAt (w:World)(c:Cx)(id:Nat)(es:List (List Int×SV)):Prop:=
 ∃b arr,c.H id= .map (some b)/\(∀x,c.F id x↔x=b)/\w.heap[b]? =some (.map arr es.length)/\arr.size=es.length/\∀(i:Nat)(k:List Int)(s:SV)(m:MapEntry),es[i]? =some (k,s)->arr[i]? =some m->m.key=keyV k/\m.born=i/\SRel c w s m.val
def ItAt (w:World)(v:Value)(F:Nat->Prop)(s:ByteArray)(pos:Nat):Prop:=∃b,v= .pointer (some ⟨b,0,none⟩)/\(∀x,F x↔x=b)/\w.heap[b]? =some (.stringIter s pos)
def ObAt (w:World)(c:Cx)(id:Nat):Ob->Prop
 | .box cs=>BoxAt w c id cs
 | .row e t l=>RowAt w c.S (c.H id) (c.F id) e t l
 | .fro t l=>Rd c.S w (.sl t l) (c.H id)/\(l=[]\/∃b n cap,c.H id= .slice (some ⟨b,0,none⟩) n cap)
 | .nst e t k e' t' l=>NstAt w c.S (c.H id) (c.F id) e t k e' t' l
 | .nfr t l=>∃v vs,c.H id= .tuple (List.toArray (v::vs))/\Rd c.S w (.sl t l) v
 | .mp _ es=>MapAt w c.S (c.H id) (c.F id) es
 | .dp e t l=>DpAt w c.S (c.H id) (c.F id) e t l
 | .foc e t l k cs=>FocAt w c id e t l k cs
 | .als k=>c.H id=c.H k
 | .mw es=>MwAt w c id es
 | .it s pos=>ItAt w (c.H id) (c.F id) s pos
def rowOb (r:TypeId×Sigma λt:Ty=>List (den t)):Ob:=bif Nat.ble 1000000 r.1 then .dp (r.1-1000000) r.2.1 r.2.2 else .row r.1 r.2.1 r.2.2
def RwAt (w:World)(S:Cells)(v:Value)(F:Nat->Prop)(r:TypeId×Sigma λt:Ty=>List (den t)):Prop:=bif Nat.ble 1000000 r.1 then DpAt w S v F (r.1-1000000) r.2.1 r.2.2 else RowAt w S v F r.1 r.2.1 r.2.2
theorem rowOb_cases (r:TypeId×Sigma λt:Ty=>List (den t)):rowOb r= .row r.1 r.2.1 r.2.2\/rowOb r= .dp (r.1-1000000) r.2.1 r.2.2:=by
 unfold rowOb
 cases Nat.ble 1000000 r.1 with
 |false=>exact .inl rfl
 |true=>exact .inr rfl
theorem rowOb_own (r:TypeId×Sigma λt:Ty=>List (den t)):(rowOb r).own=true:=by
 rcases rowOb_cases r with h|h<;>rw[h]<;>rfl
theorem rowOb_inU (r:TypeId×Sigma λt:Ty=>List (den t))(U:Nat->Prop):(rowOb r).inU U:=by
 rcases rowOb_cases r with h|h<;>rw[h]<;>trivial
theorem rowOb_row (e:TypeId)(t:Ty)(l:List (den t))(h:Nat.ble 1000000 e=false):rowOb (e,⟨t,l⟩)= .row e t l:=by
 unfold rowOb;rw[h];rfl
theorem rowOb_dp (e:TypeId)(t:Ty)(l:List (den t)):rowOb (e+1000000,⟨t,l⟩)= .dp e t l:=by
 unfold rowOb
 rw[show Nat.ble 1000000 (e+1000000)=true from Nat.ble_eq_true_of_le (Nat.le_add_left _ _)]
 show Ob.dp (e+1000000-1000000) t l=_
 rw[Nat.add_sub_cancel]
theorem obAt_rowOb (w:World)(c:Cx)(id:Nat)(r:TypeId×Sigma λt:Ty=>List (den t)):ObAt w c id (rowOb r)=RwAt w c.S (c.H id) (c.F id) r:=by
 unfold rowOb RwAt
 cases Nat.ble 1000000 r.1<;>rfl
theorem RwAt.nil {w:World}{S:Cells}{r:TypeId×Sigma λt:Ty=>List (den t)}(h1:r.2.2=[])(h2:1<=size r.2.1):RwAt w S (.slice none 0 0) (λ_=>False) r:=by
 unfold RwAt
 cases Nat.ble 1000000 r.1 with
 |false=>show RowAt _ _ _ _ _ _ _;rw[h1];exact⟨h2,.inl ⟨rfl,⟨none,rfl⟩,λ_ h=>h⟩⟩
 |true=>show DpAt _ _ _ _ _ _ _;rw[h1];exact⟨h2,.inl ⟨rfl,⟨none,rfl⟩,λ_ h=>h⟩⟩
def TapeS (w:World)(T:Nat)(S:Cells):Prop:=∃(a:Option Addr)(len cap at_:Nat)(t:TypeId),w.heap[T]? =some (.cells #[.slice a len cap,.int .i64 (at_:Nat)] t (0,0))/\at_<=len/\len<=400/\
 (0<len->∃bl off:Nat,a=some ⟨bl,off,none⟩/\∀i,i<len->S bl (off+i)/\∃z:Int,w.cell? ⟨bl,off+i,none⟩=some (.int .i64 z))
theorem TapeS.lt {w:World}{T:Nat}{S:Cells}(h:TapeS w T S):T<w.heap.size:=by
 obtain⟨a,len,cap,at_,t,hb,_⟩:=h
 exact (Array.getElem?_eq_some_iff.1 hb).1
theorem TapeS.mono {w w':World}{T:Nat}{S S':Cells}(h:TapeS w T S)(hS:∀b o,S b o->S' b o)(hw:∀b o,S b o->w'.cell? ⟨b,o,none⟩=w.cell? ⟨b,o,none⟩)(hT:w'.heap[T]? =w.heap[T]?):TapeS w' T S':=by
 obtain⟨a,len,cap,at_,t,hb,h1,h2,h3⟩:=h
 refine⟨a,len,cap,at_,t,hT.trans hb,h1,h2,λhl=> ?_⟩
 obtain⟨bl,off,ha,hc⟩:=h3 hl
 exact⟨bl,off,ha,λi hi=>⟨hS _ _ (hc i hi).1,by obtain⟨z,hz⟩:=(hc i hi).2;exact⟨z,(hw _ _ (hc i hi).1).trans hz⟩⟩⟩
abbrev Obs:=Nat->Option Ob
structure OX (ob:Obs)(U:Nat->Prop)(tp:Bool)(w:World)(c:Cx):Prop where
 sb:∀b o,c.S b o->b<w.heap.size
 objs:∀id x,ob id=some x->U id/\x.inU U/\ObAt w c id x
 fb:∀id x,ob id=some x->x.own=true->∀b,c.F id b->b<w.heap.size/\(∀k,¬c.S b k)/\c.T≠some b
 dj:∀i j x y,ob i=some x->x.own=true->ob j=some y->y.own=true->i≠j->∀b,c.F i b->¬c.F j b
 nT:∀T,c.T=some T->T<w.heap.size/\∀k,¬c.S T k
 tpe:tp=true->∃T,c.T=some T/\TapeS w T c.S
 tF:tp=false->c.T=none
def FP (ob:Obs)(c:Cx)(b:Nat):Prop:=∃id x,ob id=some x/\x.own=true/\c.F id b
structure Tr (ob:Obs)(U:Nat->Prop)(w:World)(c:Cx)(ob':Obs)(U':Nat->Prop)(w':World)(c':Cx):Prop where
 os:w'.os=w.os
 tape:w'.tape=w.tape
 output:w'.output=w.output
 sz:w.heap.size<=w'.heap.size
 tK:∀T,c.T=some T->c'.T=some T
 tN:∀T,c'.T=some T->c.T=some T\/w.heap.size<=T
 uU:∀k,U k->U' k
 hH:∀k,U k->c'.H k=c.H k/\c'.F k=c.F k
 sS:∀b o,c.S b o->c'.S b o
 sN:∀b o,c'.S b o->c.S b o\/FP ob c b\/w.heap.size<=b
 blk:∀b,b<w.heap.size->¬FP ob c b->c.T≠some b->w'.heap[b]? =w.heap[b]?
 fp:∀b,FP ob' c' b->FP ob c b\/w.heap.size<=b
theorem Tr.refl {ob:Obs}{U:Nat->Prop}{w:World}{c:Cx}:Tr ob U w c ob U w c:=
 ⟨rfl,rfl,rfl,Nat.le_refl _,λ_ h=>h,λ_ h=> .inl h,λ_ h=>h,λ_ _=>⟨rfl,rfl⟩,λ_ _ h=>h,λ_ _ h=> .inl h,λ_ _ _ _=>rfl,λ_ h=> .inl h⟩
theorem Tr.trans {ob ob1 ob2:Obs}{U U1 U2:Nat->Prop}{w w1 w2:World}{c c1 c2:Cx}(h:Tr ob U w c ob1 U1 w1 c1)(k:Tr ob1 U1 w1 c1 ob2 U2 w2 c2):Tr ob U w c ob2 U2 w2 c2:=by
 refine⟨k.os.trans h.os,k.tape.trans h.tape,k.output.trans h.output,Nat.le_trans h.sz k.sz,λT hT=>k.tK T (h.tK T hT),λT hT=> ?_,λx hx=>k.uU x (h.uU x hx),λx hx=>⟨(k.hH x (h.uU x hx)).1.trans (h.hH x hx).1,(k.hH x (h.uU x hx)).2.trans (h.hH x hx).2⟩,λb o hb=>k.sS b o (h.sS b o hb),λb o hb=> ?_,λb hb hf hT=> ?_,λb hb=> ?_⟩
 ·rcases k.tN T hT with e|e
  ·exact h.tN T e
  ·exact .inr (Nat.le_trans h.sz e)
 ·rcases k.sN b o hb with hb|hb|hb
  ·exact h.sN b o hb
  ·rcases h.fp b hb with hb|hb
   ·exact .inr (.inl hb)
   ·exact .inr (.inr hb)
  ·exact .inr (.inr (Nat.le_trans h.sz hb))
 ·refine (k.blk b (Nat.lt_of_lt_of_le hb h.sz) (λhf'=> ?_) (λe=> ?_)).trans (h.blk b hb hf hT)
  ·rcases h.fp b hf' with e|e
   ·exact hf e
   ·omega
  ·rcases h.tN b e with e|e
   ·exact hT e
   ·omega
 ·rcases k.fp b hb with hb|hb
  ·exact h.fp b hb
  ·exact .inr (Nat.le_trans h.sz hb)
theorem OX.notFP {ob:Obs}{U:Nat->Prop}{tp:Bool}{w:World}{c:Cx}(h:OX ob U tp w c){b k:Nat}(hs:c.S b k):¬FP ob c b:=by
 rintro ⟨id,o,ho,hoo,hf⟩
 exact (h.fb id o ho hoo b hf).2.1 k hs
section
variable {ob ob':Obs} {U U':Nat->Prop} {tp:Bool} {w w':World} {c c':Cx}
theorem Tr.cell (t:Tr ob U w c ob' U' w' c')(h:OX ob U tp w c):∀b o,c.S b o->w'.cell? ⟨b,o,none⟩=w.cell? ⟨b,o,none⟩:=λb o hs=>
 World.cell?_of_block (t.blk b (h.sb b o hs) (h.notFP hs) (λe=>(h.nT b e).2 o hs))
theorem Tr.srel (t:Tr ob U w c ob' U' w' c')(h:OX ob U tp w c){s:SV}{u:Value}(hr:SRel c w s u)(hu:s.inU U):SRel c' w' s u:=
 SRel.mono t.sS (t.cell h) t.tK (λid hid=>(t.hH id hid).1) hr hu
theorem Tr.rd (t:Tr ob U w c ob' U' w' c')(h:OX ob U tp w c){x:D}{u:Value}(hr:Rd c.S w x u):Rd c'.S w' x u:=hr.mono t.sS (t.cell h)
theorem RowAt.keep {S S':Cells}{v:Value}{F:Nat->Prop}{e:TypeId}{t:Ty}{l:List (den t)}(h:RowAt w S v F e t l)(k1:∀b o,S b o->S' b o)(k2:∀b o,S b o->w'.cell? ⟨b,o,none⟩=w.cell? ⟨b,o,none⟩)(hb:∀b,F b->w'.heap[b]? =w.heap[b]?):RowAt w' S' v F e t l:=by
 obtain⟨h0,h|⟨g,cap,cur,hv,hF,hg,h1,h2,h3,h4⟩⟩:=h
 ·exact⟨h0,.inl h⟩
 ·refine⟨h0,.inr ⟨g,cap,cur,hv,hF,(hb g ((hF g).2 rfl)).trans hg,h1,h2,h3,λi x hx j c hc=> ?_⟩⟩
  obtain⟨u,u1,u2,u3⟩:=h4 i x hx j c hc
  exact⟨u,u1,u2,u3.mono k1 k2⟩
theorem NstAt.keep {S S':Cells}{H:Value}{F:Nat->Prop}{e:TypeId}{t:Ty}{k:Nat}{e':TypeId}{t':Ty}{l:List (den t)}(h:NstAt w S H F e t k e' t' l)(k1:∀b o,S b o->S' b o)(k2:∀b o,S b o->w'.cell? ⟨b,o,none⟩=w.cell? ⟨b,o,none⟩)(hb:∀b,F b->w'.heap[b]? =w.heap[b]?):NstAt w' S' H F e t k e' t' l:=by
 obtain⟨h0,hk,v,vs,Fi,hH,hvs,h|⟨g,cap,cur,hv,hF,hg1,hg2,hg,h1,h2,h3,h4⟩⟩:=h
 ·exact⟨h0,hk,v,vs,Fi,hH,hvs,.inl h⟩
 ·refine⟨h0,hk,v,vs,Fi,hH,hvs,.inr ⟨g,cap,cur,hv,hF,hg1,hg2,(hb g ((hF g).2 (.inl rfl))).trans hg,h1,h2,h3,λi x hx=> ?_⟩⟩
  obtain⟨q1,li,u,u1,u2,u3,u4⟩:=h4 i x hx
  refine⟨λj c hj hc=> ?_,li,u,u1,u2,u3,u4.keep k1 k2 λb hfb=>hb b ((hF b).2 (.inr ⟨i,(List.getElem?_eq_some_iff.1 hx).1,hfb⟩))⟩
  obtain⟨u,u1,u2,u3⟩:=q1 j c hj hc
  exact⟨u,u1,u2,u3.mono k1 k2⟩
theorem MapAt.keep {S S':Cells}{v:Value}{F:Nat->Prop}{es:List (Int×D)}(h:MapAt w S v F es)(k1:∀b o,S b o->S' b o)(k2:∀b o,S b o->w'.cell? ⟨b,o,none⟩=w.cell? ⟨b,o,none⟩)(hb:∀b,F b->w'.heap[b]? =w.heap[b]?):MapAt w' S' v F es:=by
 obtain⟨b,arr,clock,hv,hF,hg,h1,h2⟩:=h
 exact⟨b,arr,clock,hv,hF,(hb b ((hF b).2 rfl)).trans hg,h1,λi k d m hi hm=>⟨(h2 i k d m hi hm).1,(h2 i k d m hi hm).2.mono k1 k2⟩⟩
theorem CellD.keep {S S':Cells}{F:Nat->Prop}{t:Ty}{j:Nat}{d:D}{u:Value}(h:CellD w S F t j d u)(k1:∀b o,S b o->S' b o)(k2:∀b o,S b o->w'.cell? ⟨b,o,none⟩=w.cell? ⟨b,o,none⟩)(hb:∀b,F b->w'.heap[b]? =w.heap[b]?):CellD w' S' F t j d u:=by
 unfold CellD at h ⊢
 split at h
 ·exact Rd.mono k1 k2 h
 ·obtain⟨li,e,hr⟩:=h
  exact⟨li,e,hr.keep k1 k2 hb⟩
theorem DpAt.keep {S S':Cells}{v:Value}{F:Nat->Prop}{e:TypeId}{t:Ty}{l:List (den t)}(h:DpAt w S v F e t l)(k1:∀b o,S b o->S' b o)(k2:∀b o,S b o->w'.cell? ⟨b,o,none⟩=w.cell? ⟨b,o,none⟩)(hb:∀b,F b->w'.heap[b]? =w.heap[b]?):DpAt w' S' v F e t l:=by
 obtain⟨h0,h|⟨g,cap,cur,Fi,hv,hF,hg1,hg2,hg,h1,h2,h3,h4⟩⟩:=h
 ·exact⟨h0,.inl h⟩
 ·refine⟨h0,.inr ⟨g,cap,cur,Fi,hv,hF,hg1,hg2,(hb g ((hF g).2 (.inl rfl))).trans hg,h1,h2,h3,λi x hx j d hd=> ?_⟩⟩
  obtain⟨u,u1,u2,u3⟩:=h4 i x hx j d hd
  exact⟨u,u1,u2,u3.keep k1 k2 λb hf=>hb b ((hF b).2 (.inr ⟨i,j,(List.getElem?_eq_some_iff.1 hx).1,hf⟩))⟩
theorem ObAt.keep {c c':Cx}{id:Nat}{x:Ob}(h:ObAt w c id x)(hx:x.inU U)(k1:∀b o,c.S b o->c'.S b o)(k2:∀b o,c.S b o->w'.cell? ⟨b,o,none⟩=w.cell? ⟨b,o,none⟩)(kT:∀T,c.T=some T->c'.T=some T)(kH:∀k,U k->c'.H k=c.H k)(hH:c'.H id=c.H id/\c'.F id=c.F id)
 (hb:x.own=true->∀b,c.F id b->w'.heap[b]? =w.heap[b]?):ObAt w' c' id x:=by
 cases x with
 |box cs=>
  obtain⟨b,arr,t,h1,h2,h3,h4,h5,h6⟩:=h
  refine⟨b,arr,t,hH.1.trans h1,λx=>by rw[hH.2];exact h2 x,(hb rfl b ((h2 b).2 rfl)).trans h3,h4,h5,λj s u hs hu=> ?_⟩
  exact SRel.mono k1 k2 kT kH (h6 j s u hs hu) (inUL_get hx hs)
 |row e t l=>
  show RowAt _ _ _ _ _ _ _
  rw[hH.1,hH.2]
  exact RowAt.keep h k1 k2 (hb rfl)
 |fro t l=>
  refine⟨?_,by rw[hH.1];exact h.2⟩
  rw[hH.1]
  exact h.1.mono k1 k2
 |nst e t k e' t' l=>
  show NstAt _ _ _ _ _ _ _ _ _ _
  rw[hH.1,hH.2]
  exact NstAt.keep h k1 k2 (hb rfl)
 |nfr t l=>
  obtain⟨v,vs,h1,h2⟩:=h
  exact⟨v,vs,hH.1.trans h1,h2.mono k1 k2⟩
 |mp sym es=>
  show MapAt _ _ _ _ _
  rw[hH.1,hH.2]
  exact MapAt.keep h k1 k2 (hb rfl)
 |dp e t l=>
  show DpAt _ _ _ _ _ _ _
  rw[hH.1,hH.2]
  exact DpAt.keep h k1 k2 (hb rfl)
 |foc e t l k cs=>
  obtain⟨h0,h1,h2,h3,g,cap,cur,q1,q2,q3,q4,q5,q6,q7,q8⟩:=h
  refine⟨h0,h1,h2,h3,g,cap,cur,hH.1.trans q1,λb=>by rw[hH.2];exact q2 b,(hb rfl g ((q2 g).2 rfl)).trans q3,q4,q5,q6,λi x hx hi j d hd=> ?_,λj s hs=> ?_⟩
  ·obtain⟨u,u1,u2,u3⟩:=q7 i x hx hi j d hd
   exact⟨u,u1,u2,u3.mono k1 k2⟩
  ·obtain⟨u,u1,u2,u3⟩:=q8 j s hs
   exact⟨u,u1,u2,SRel.mono k1 k2 kT kH u3 (inUL_get hx hs)⟩
 |als k=>
  show c'.H id=c'.H k
  rw[hH.1,kH k hx];exact h
 |mw es=>
  obtain⟨b,arr,h1,h2,h3,h4,h5⟩:=h
  refine⟨b,arr,hH.1.trans h1,λx=>by rw[hH.2];exact h2 x,(hb rfl b ((h2 b).2 rfl)).trans h3,h4,λi k s m hi hm=> ?_⟩
  obtain⟨q1,q2,q3⟩:=h5 i k s m hi hm
  exact⟨q1,q2,SRel.mono k1 k2 kT kH q3 (inUL_get hx (by rw[List.getElem?_map,hi];rfl))⟩
 |it s pos=>
  obtain⟨b,h1,h2,h3⟩:=h
  exact⟨b,hH.1.trans h1,λx=>by rw[hH.2];exact h2 x,(hb rfl b ((h2 b).2 rfl)).trans h3⟩
def over (ob' ob obs:Obs):Obs:=λid=>match ob' id with
 |some x=>some x
 |none=>match ob id with
  |some _=>none
  |none=>obs id
theorem OX.sub (h:OX ob U tp w c)(hs:∀id x,ob' id=some x->ob id=some x):OX ob' U tp w c:=
 ⟨h.sb,λid x hx=>h.objs id x (hs id x hx),λid x hx=>h.fb id x (hs id x hx),λi j x y hx ox hy oy=>h.dj i j x y (hs i x hx) ox (hs j y hy) oy,h.nT,h.tpe,h.tF⟩
theorem over_some {ob' ob obs:Obs}{id:Nat}{x:Ob}(h:over ob' ob obs id=some x):ob' id=some x\/(ob' id=none/\ob id=none/\obs id=some x):=by
 unfold over at h
 split at h
 ·rename_i y hy;exact .inl (by rw[hy,<-h])
 ·rename_i hy
  split at h
  ·cases h
  ·rename_i hz;exact .inr ⟨hy,hz,h⟩
theorem OX.lift {obs:Obs}{tp':Bool}(h:OX obs U tp w c)(hs:∀id x,ob id=some x->obs id=some x)(t:Tr ob U w c ob' U' w' c')(h':OX ob' U' tp' w' c'):OX (over ob' ob obs) U' tp' w' c'/\Tr obs U w c (over ob' ob obs) U' w' c':=by
 have hsub:=h.sub hs
 have hcell:=t.cell hsub
 have hfp:∀id x,ob id=none->obs id=some x->x.own=true->∀b,c.F id b->¬FP ob c b:=λid x hn hx ho b hb ⟨j,y,hy,oy,hj⟩=>
  h.dj id j x y hx ho (hs j y hy) oy (λe=>by rw[<-e,hn] at hy;cases hy) b hb hj
 have hF:∀id x,obs id=some x->c'.F id=c.F id:=λid x hx=>(t.hH id (h.objs id x hx).1).2
 refine⟨⟨h'.sb,λid x hx=> ?_,λid x hx ho b hb=> ?_,λi j x y hx ho hy oy hne b hb hb'=> ?_,h'.nT,h'.tpe,h'.tF⟩,⟨t.os,t.tape,t.output,t.sz,t.tK,t.tN,t.uU,t.hH,t.sS,λb o hb=> ?_,λb hb hf hT=> ?_,λb hb=> ?_⟩⟩
 ·rcases over_some hx with hx|⟨h1,h2,h3⟩
  ·exact h'.objs id x hx
  ·obtain⟨k1,k2,k3⟩:=h.objs id x h3
   refine⟨t.uU id k1,Ob.inU_mono t.uU k2,k3.keep k2 t.sS hcell t.tK (λk hk=>(t.hH k hk).1) (t.hH id k1) λho b hb=> ?_⟩
   exact t.blk b (h.fb id x h3 ho b hb).1 (hfp id x h2 h3 ho b hb) (h.fb id x h3 ho b hb).2.2
 ·rcases over_some hx with hx|⟨h1,h2,h3⟩
  ·exact h'.fb id x hx ho b hb
  ·rw[hF id x h3] at hb
   obtain⟨k1,k2,k3⟩:=h.fb id x h3 ho b hb
   refine⟨Nat.lt_of_lt_of_le k1 t.sz,λk hk=> ?_,λe=> ?_⟩
   ·rcases t.sN b k hk with e|e|e
    ·exact k2 k e
    ·exact hfp id x h2 h3 ho b hb e
    ·omega
   ·rcases t.tN b e with e|e
    ·exact k3 e
    ·omega
 ·rcases over_some hx with hx|⟨h1,h2,h3⟩
  ·rcases over_some hy with hy|⟨k1,k2,k3⟩
   ·exact h'.dj i j x y hx ho hy oy hne b hb hb'
   ·rw[hF j y k3] at hb'
    rcases t.fp b ⟨i,x,hx,ho,hb⟩ with e|e
    ·exact hfp j y k2 k3 oy b hb' e
    ·have:=(h.fb j y k3 oy b hb').1;omega
  ·rw[hF i x h3] at hb
   rcases over_some hy with hy|⟨k1,k2,k3⟩
   ·rcases t.fp b ⟨j,y,hy,oy,hb'⟩ with e|e
    ·exact hfp i x h2 h3 ho b hb e
    ·have:=(h.fb i x h3 ho b hb).1;omega
   ·rw[hF j y k3] at hb'
    exact h.dj i j x y h3 ho k3 oy hne b hb hb'
 ·rcases t.sN b o hb with e|⟨j,y,hy,oy,hj⟩|e
  ·exact .inl e
  ·exact .inr (.inl ⟨j,y,hs j y hy,oy,hj⟩)
  ·exact .inr (.inr e)
 ·exact t.blk b hb (λ⟨j,y,hy,oy,hj⟩=>hf ⟨j,y,hs j y hy,oy,hj⟩) hT
 ·obtain⟨j,y,hy,oy,hj⟩:=hb
  rcases over_some hy with hy|⟨k1,k2,k3⟩
  ·rcases t.fp b ⟨j,y,hy,oy,hj⟩ with⟨i,x,hx,ox,hi⟩|e
   ·exact .inl ⟨i,x,hs i x hx,ox,hi⟩
   ·exact .inr e
  ·rw[hF j y k3] at hj
   exact .inl ⟨j,y,k3,oy,hj⟩
end
variable {P:Program}
structure Mem where
 ob:Obs
 U:Nat->Prop
 tp:Bool
inductive Cnd where
 |pp (p:Prop)
 |inb (n:Nat) (z:Int)
 |in2 (z m y:Int) (n:Nat)
 |nn (b:Int)
 |ne (b:Int)
 |sub (a b n:Int)
 |sx (a lo hi:Int) (n:Nat)
 |s3 (lo hi mx:Int) (n:Nat)
 |fr (a b a':Int)
 |ap (bs n m:Nat)
def Cnd.pr:Cnd->Prop
 | .pp p=>p
 | .inb n z=>0<=z/\z<(n:Int)
 | .in2 z m y n=>(0<=z/\z<m)/\0<=y/\y<(n:Int)
 | .nn b=>0<=b
 | .ne b=>b≠0
 | .sub a b n=>0<=a/\a<=b/\b<=n
 | .sx a lo hi n=>a=0/\0<=lo/\lo<=hi/\hi<=(n:Int)
 | .s3 lo hi mx n=>0<=lo/\lo<=hi/\hi<=mx/\mx<=(n:Int)
 | .fr a b a'=>a=0/\b<=a'
 | .ap bs n m=>(n+m) * bs<=140737488355328
structure PRes where
 ps:List Cnd
 fs:List Prop
 r:SV
def allL:List Prop->Prop
 |[]=>True
 |p::r=>p/\allL r
abbrev allC (l:List Cnd):Prop:=allL (l.map Cnd.pr)
structure Rels (m:Mem)(ρ:Operand->SV)(a:Act)(w:World)(c:Cx):Prop where
 ox:OX m.ob m.U m.tp w c
 op:∀x,SRel c w (ρ x) (a.eval x)
 iu:∀x,(ρ x).inU m.U
def ok (r:SV):Option PRes:=some ⟨[],[],r⟩
def okp (p:Cnd)(r:SV):Option PRes:=some ⟨[p],[],r⟩
def okf (f:Prop)(r:SV):Option PRes:=some ⟨[],[f],r⟩
theorem ok_eq {r:SV}{R:PRes}(h:ok r=some R):R=⟨[],[],r⟩:=(Option.some.inj h).symm
theorem okp_eq {p:Cnd}{r:SV}{R:PRes}(h:okp p r=some R):R=⟨[p],[],r⟩:=(Option.some.inj h).symm
theorem okf_eq {p:Prop}{r:SV}{R:PRes}(h:okf p r=some R):R=⟨[],[p],r⟩:=(Option.some.inj h).symm
def bI (k:IntKind)(z:Int):SV:= .d (.v (.int k z))
def bB (b:Bool):SV:= .d (.v (.bool b))
def w64 (z:Int):Int:=IntKind.i64.wrap z
theorem w64_eq {z:Int}(h1: -9223372036854775808<=z)(h2:z<=9223372036854775807):w64 z=z:=IntWalk.i64_in z ⟨h1,h2⟩
def wr (k:IntKind)(z:Int):Int:=match k with
 | .i64=>w64 z
 |k=>k.wrap z
theorem wr_eq (k:IntKind)(z:Int):wr k z=k.wrap z:=by cases k<;>rfl
def shrK (k:IntKind)(a b:Int):Int:=a.fdiv (2^(min b.toNat k.bits))
def shlK (k:IntKind)(a b:Int):Int:=k.wrap (a * 2^(min b.toNat k.bits))
def andK (k:IntKind)(a b:Int):Int:=k.wrap ((BitVec.ofInt k.bits a&&& BitVec.ofInt k.bits b).toNat:Int)
def orK (k:IntKind)(a b:Int):Int:=k.wrap ((BitVec.ofInt k.bits a|||BitVec.ofInt k.bits b).toNat:Int)
def xorK (k:IntKind)(a b:Int):Int:=k.wrap ((BitVec.ofInt k.bits a^^^BitVec.ofInt k.bits b).toNat:Int)
def andNotK (k:IntKind)(a b:Int):Int:=k.wrap ((BitVec.ofInt k.bits a&&& ~~~(BitVec.ofInt k.bits b)).toNat:Int)
def pBinI (op:BinOp)(k k':IntKind)(a b:Int):Option PRes:=
 match op with
 | .shl=>okp (.nn b) (bI k (shlK k a b))
 | .shr=>okp (.nn b) (bI k (shrK k a b))
 |op=>bif decide (k=k') then match op with
  | .add=>ok (bI k (wr k (a+b)))
  | .sub=>ok (bI k (wr k (a-b)))
  | .mul=>ok (bI k (wr k (a * b)))
  | .quo=>bif decide (k= .i64) then okp (.ne b) (bI .i64 (w64 (a.tdiv b))) else okp (.ne b) (bI k (k.wrap (a.tdiv b)))
  | .rem=>okp (.ne b) (bI k (a.tmod b))
  | .and=>ok (bI k (andK k a b))
  | .or=>ok (bI k (orK k a b))
  | .xor=>ok (bI k (xorK k a b))
  | .andNot=>ok (bI k (andNotK k a b))
  | .lss=>ok (bB (decide (a<b)))
  | .leq=>ok (bB (decide (a<=b)))
  | .gtr=>ok (bB (decide (b<a)))
  | .geq=>ok (bB (decide (b<=a)))
  | .eql=>ok (bB (decide (a=b)))
  | .neq=>ok (bB (!decide (a=b)))
  |_=>none
  else none
theorem bin_int {op:BinOp}{t:TypeId}{x y:Operand}{k k':IntKind}{a b:Int}:∀w,(do eqGuard op t x y (.int k a) (.int k' b);binOp op t (.int k a) (.int k' b):Sem Value).run P w=(binOp op t (.int k a) (.int k' b)).run P w:=by
 intro w
 unfold eqGuard
 split<;>simp
theorem binI_run {op:BinOp}{k k':IntKind}{a b:Int}{R:PRes}(h:pBinI op k k' a b=some R)(hp:allC R.ps)(t:TypeId)(w:World):∃v,(binOp op t (.int k a) (.int k' b)).run P w= .ok v w/\R.r= .d (.v v)/\allL R.fs:=by
 unfold pBinI at h
 split at h
 ·cases okp_eq h;exact⟨.int k (shlK k a b),by have:0<=b:=hp.1;simp[binOp,Op.shift,shlK,Int.not_lt.2 this],rfl,trivial⟩
 ·cases okp_eq h;exact⟨.int k (shrK k a b),by have:0<=b:=hp.1;simp[binOp,Op.shift,shrK,Int.not_lt.2 this],rfl,trivial⟩
 ·cases hk:decide (k=k') with
  |false=>rw[hk] at h;cases h
  |true=>
   rw[hk] at h
   have hk:=of_decide_eq_true hk
   subst hk
   simp only[cond_true] at h
   split at h
   ·cases ok_eq h;exact⟨_,by simp[binOp,Op.intArith];rfl,by rw[bI,wr_eq],trivial⟩
   ·cases ok_eq h;exact⟨_,by simp[binOp,Op.intArith];rfl,by rw[bI,wr_eq],trivial⟩
   ·cases ok_eq h;exact⟨_,by simp[binOp,Op.intArith];rfl,by rw[bI,wr_eq],trivial⟩
   ·cases hi:decide (k= .i64) with
    |false=>
     rw[hi] at h
     cases okp_eq h;exact⟨.int k (k.wrap (a.tdiv b)),by have h0:b≠0:=hp.1;simp[binOp,Op.intDiv,h0],rfl,trivial⟩
    |true=>
     rw[hi] at h
     have hi:=of_decide_eq_true hi
     subst hi
     cases okp_eq h;exact⟨.int .i64 (w64 (a.tdiv b)),by have h0:b≠0:=hp.1;simp[binOp,Op.intDiv,h0,w64],rfl,trivial⟩
   ·cases okp_eq h;exact⟨.int k (a.tmod b),by have h0:b≠0:=hp.1;simp[binOp,Op.intDiv,h0],rfl,trivial⟩
   ·cases ok_eq h;exact⟨.int k (andK k a b),by simp[binOp,Op.intBits,andK],rfl,trivial⟩
   ·cases ok_eq h;exact⟨.int k (orK k a b),by simp[binOp,Op.intBits,orK],rfl,trivial⟩
   ·cases ok_eq h;exact⟨.int k (xorK k a b),by simp[binOp,Op.intBits,xorK],rfl,trivial⟩
   ·cases ok_eq h;exact⟨.int k (andNotK k a b),by simp[binOp,Op.intBits,andNotK],rfl,trivial⟩
   ·cases ok_eq h;exact⟨.bool (decide (a<b)),by simp[binOp,Op.intCmp],rfl,trivial⟩
   ·cases ok_eq h;exact⟨.bool (decide (a<=b)),by simp[binOp,Op.intCmp],rfl,trivial⟩
   ·cases ok_eq h;exact⟨.bool (decide (b<a)),by simp[binOp,Op.intCmp],rfl,trivial⟩
   ·cases ok_eq h;exact⟨.bool (decide (b<=a)),by simp[binOp,Op.intCmp],rfl,trivial⟩
   ·cases ok_eq h;exact⟨.bool (decide (a=b)),by simp[binOp,Op.intCmp];rw[Bool.eq_iff_iff];simp,rfl,trivial⟩
   ·cases ok_eq h;exact⟨.bool (!decide (a=b)),by simp[binOp,Op.intCmp];rw[Bool.eq_iff_iff];simp,rfl,trivial⟩
   ·cases h
def oneTy (P:Program)(t:TypeId):Bool:=match P.underlying t with
 |some (.struct _)|some (.array _ _)|none=>false
 |_=>true
def rowTy (P:Program)(t:TypeId):Bool:=match P.underlying t with
 |some (.struct _)|some (.array _ _)=>true
 |_=>false
def tsz (P:Program)(t:TypeId):Nat:=match P.info? t with
 |some i=>i.size
 |none=>0
def hasTy (P:Program)(t:TypeId):Bool:=(P.info? t).isSome
def fldOff (P:Program)(s f:Nat):Option Nat:=match P.underlying s with
 |some (.struct fs)=>match fs[f]? with
  |some fd=>bif hasTy P fd.type&& !(Nat.beq (tsz P fd.type) 0) then some fd.offset else none
  |none=>none
 |_=>none
def elemOf (P:Program)(t:TypeId):Option TypeId:=match P.underlying t with
 |some (.slice e)=>bif hasTy P e then some e else none
 |_=>none
theorem hasTy_spec {t:TypeId}(h:hasTy P t=true):∃i,P.info? t=some i/\tsz P t=i.size:=by
 obtain⟨i,hi⟩:=Option.isSome_iff_exists.1 h
 exact⟨i,hi,by unfold tsz;rw[hi]⟩
theorem fldOff_spec {s f k:Nat}(h:fldOff P s f=some k):∃fs fd i,P.underlying s=some (.struct fs)/\fs[f]? =some fd/\fd.offset=k/\P.info? fd.type=some i/\i.size≠0:=by
 unfold fldOff at h
 split at h
 ·rename_i fs hu
  split at h
  ·rename_i fd hf
   cases hb:(hasTy P fd.type&& !(Nat.beq (tsz P fd.type) 0)) with
   |false=>rw[hb] at h;cases h
   |true=>
    rw[hb] at h
    obtain⟨h1,h2⟩:=Bool.and_eq_true_iff.1 hb
    obtain⟨i,hi,hs⟩:=hasTy_spec h1
    refine⟨fs,fd,i,hu,hf,by injection h,hi,λe=> ?_⟩
    rw[hs,e] at h2
    cases h2
  ·cases h
 ·cases h
theorem elemOf_spec {t e:TypeId}(h:elemOf P t=some e):∃i,P.underlying t=some (.slice e)/\P.info? e=some i/\i.size=tsz P e:=by
 unfold elemOf at h
 split at h
 ·rename_i e' hu
  cases hb:hasTy P e' with
  |false=>rw[hb] at h;cases h
  |true=>
   rw[hb] at h
   injection h with h
   subst h
   obtain⟨i,hi,hs⟩:=hasTy_spec hb
   exact⟨i,hu,hi,hs.symm⟩
 ·cases h
theorem beq_eq {a b:Nat}(h:Nat.beq a b=true):a=b:=Nat.eq_of_beq_eq_true h
theorem run_load_one {t:TypeId}(ht:oneTy P t=true){w:World}{b o:Nat}{u:Value}(h:w.cell? ⟨b,o,none⟩=some u):(Instr.loadAt t (.pointer (some ⟨b,o,none⟩))).run P w= .ok u w:=by
 unfold oneTy at ht
 cases hu:P.underlying t with
 |none=>rw[hu] at ht;cases ht
 |some d=>
  rw[hu] at ht
  cases d<;>simp_all[Instr.loadAt,Instr.sureAddr,loadVar,isAgg,run_underlying hu,load,Sem.run]
theorem addr_add (b o j:Nat):(⟨b,o,none⟩:Addr).add j=⟨b,o+j,none⟩:=by unfold Addr.add;split<;>simp_all
theorem run_load_agg {t:TypeId}{cs:List Value}(ht:rowTy P t=true)(hh:hasTy P t=true)(hs:cs.length=tsz P t){w:World}{b o:Nat}(h:∀j u,cs[j]? =some u->w.cell? ⟨b,o+j,none⟩=some u):(Instr.loadAt t (.pointer (some ⟨b,o,none⟩))).run P w= .ok (.agg cs.toArray) w:=by
 obtain⟨i,hi,hsz⟩:=hasTy_spec hh
 have hd:∃d,P.underlying t=some d/\d.isRow=true:=by
  unfold rowTy at ht
  split at ht
  ·rename_i fs hu;exact⟨_,hu,rfl⟩
  ·rename_i n e hu;exact⟨_,hu,rfl⟩
  ·cases ht
 obtain⟨d,hu,hd⟩:=hd
 have:=run_loadVar_mid (P:=P) w b o t cs d (λj v hv=>h j v hv) hu hd (by rw[hi];simp[hs,hsz])
 simp[Instr.loadAt,Instr.sureAddr,this]
def dOf:List SV->Option (List D)
 |[]=>some []
 | .d x::r=>match dOf r with
  |some l=>some (x::l)
  |none=>none
 |_::_=>none
theorem dOf_spec:∀{ss:List SV}{ds:List D},dOf ss=some ds->ss=ds.map SV.d
 |[],ds,h=>by simp[dOf] at h;subst h;rfl
 | .d x::r,ds,h=>by
  unfold dOf at h
  split at h
  ·rename_i l hl
   injection h with h
   rw[<-h,dOf_spec hl];rfl
  ·cases h
 | .bx _ _::_,_,h=>by simp[dOf] at h
 | .os _::_,_,h=>by simp[dOf] at h
 | .sub _ _ _ _::_,_,h=>by simp[dOf] at h
 | .op _ _ _ _::_,_,h=>by simp[dOf] at h
 | .agg _::_,_,h=>by simp[dOf] at h
 | .tup _::_,_,h=>by simp[dOf] at h
 | .fn _ _::_,_,h=>by simp[dOf] at h
 | .cnd _ _ _ _::_,_,h=>by simp[dOf] at h
 | .tp::_,_,h=>by simp[dOf] at h
 | .un::_,_,h=>by simp[dOf] at h
def mkAgg (ks:List SV):SV:=match dOf ks with
 |some ds=> .d (.agg ds)
 |none=> .agg ks
theorem srel_mkAgg {c:Cx}{w:World}{ks:List SV}{us:List Value}(hl:us.length=ks.length)(h1:∀u∈us,u.oneCell'=true)(h:∀(i:Nat)(s:SV)(u:Value),ks[i]? =some s->us[i]? =some u->SRel c w s u):SRel c w (mkAgg ks) (.agg us.toArray):=by
 unfold mkAgg
 split
 ·rename_i ds hd
  have:=dOf_spec hd
  subst this
  refine .d _ _ (Rd.agg ds us (by simpa using hl) h1 λi x u hx hu=>srel_d (h i (.d x) u (by rw[List.getElem?_map,hx];rfl) hu))
 ·exact .agg ks us hl h1 h
theorem mkAgg_inU {U:Nat->Prop}{ks:List SV}(h:inUL U ks):(mkAgg ks).inU U:=by
 unfold mkAgg
 split
 ·trivial
 ·exact h
theorem inUL_drop {U:Nat->Prop}{ks:List SV}(h:inUL U ks)(n m:Nat):inUL U ((ks.drop n).take m):=inUL_of λi s hs=>by
 rw[List.getElem?_take] at hs
 split at hs
 ·rw[List.getElem?_drop] at hs;exact inUL_get h hs
 ·cases hs
def inb {α:Type}(l:List α)(i:Int):Prop:=0<=i/\i<(l.length:Int)
def ix {α:Type}[Inhabited α](l:List α)(i:Int):α:=l.getD i.toNat default
theorem ix_get {α:Type}[Inhabited α]{l:List α}{i:Int}(h:inb l i):l[i.toNat]? =some (ix l i):=by
 obtain⟨h1,h2⟩:=h
 have h3:i.toNat<l.length:=by omega
 unfold ix
 rw[List.getD_eq_getElem?_getD,List.getElem?_eq_getElem h3];rfl
def rowOf (m:Mem)(id:Nat):Option (Sigma λt:Ty=>List (den t)):=match m.ob id with
 |some (.row _ t l)=>some ⟨t,l⟩
 |some (.fro t l)=>some ⟨t,l⟩
 |_=>none
def dpOf (m:Mem)(id:Nat):Option (Sigma λt:Ty=>List (den t)):=match m.ob id with
 |some (.dp _ t l)=>some ⟨t,l⟩
 |_=>none
theorem DpAt.slice {w:World}{S:Cells}{v:Value}{F:Nat->Prop}{e:TypeId}{t:Ty}{l:List (den t)}(h:DpAt w S v F e t l):∃ad cap,v= .slice ad l.length cap/\l.length<=cap/\cap<=maxLen:=by
 obtain⟨h0,h|⟨g,cap,cur,Fi,hv,hF,hg1,hg2,hg,h1,h2,h3,h4⟩⟩:=h
 ·obtain⟨h1,⟨ad,h2⟩,_⟩:=h
  subst h1
  exact⟨ad,0,h2,Nat.le_refl _,Nat.zero_le _⟩
 ·exact⟨_,cap,hv,h1,h2⟩
theorem dpOf_rel {m:Mem}{w:World}{c:Cx}(ox:OX m.ob m.U m.tp w c){id:Nat}{t:Ty}{l:List (den t)}(h:dpOf m id=some ⟨t,l⟩):∃ad cap,c.H id= .slice ad l.length cap/\l.length<=cap/\cap<=maxLen:=by
 unfold dpOf at h
 split at h
 ·rename_i e t1 l1 hr
  injection h with h
  cases h
  exact DpAt.slice (ox.objs id _ hr).2.2
 ·cases h
theorem cell_row {w:World}{g:Nat}{cur:Array Value}{e:TypeId}{fr:Nat×Nat}(h:w.heap[g]? =some (.cells cur e fr))(j:Nat):w.cell? ⟨g,j,none⟩=cur[j]? :=by
 have:=cell_of_row w g j cur e fr h
 exact this
theorem Rd.slInv {S:Cells}{w:World}{t:Ty}{l:List (den t)}{u:Value}(h:Rd S w (.sl t l) u):∃(ad:Option Addr)(cap b off:Nat)(f:Nat->Nat->Value),u= .slice ad l.length cap/\l.length<=cap/\cap<=maxLen/\(l=[]\/ad=some ⟨b,off,none⟩)/\
 (∀(i:Nat),i<l.length->∀j,j<size t->S b (off+i * size t+j)/\w.cell? ⟨b,off+i * size t+j,none⟩=some (f i j)/\(f i j).oneCell'=true)/\
 ∀(i:Nat)(x:den t)(j:Nat)(c:D),l[i]? =some x->(enc t x)[j]? =some c->Rd S w c (f i j):=by
 cases h with
 |sl _ _ ad cap b off f hc hm ha hx h=>exact⟨ad,cap,b,off,f,rfl,hc,hm,ha,hx,h⟩
theorem rowOf_rel {m:Mem}{w:World}{c:Cx}(ox:OX m.ob m.U m.tp w c){id:Nat}{t:Ty}{l:List (den t)}(h:rowOf m id=some ⟨t,l⟩):
 ∃ad cap,c.H id= .slice ad l.length cap/\l.length<=cap/\cap<=maxLen/\(∀i x,l[i]? =some x->∃g,ad=some ⟨g,0,none⟩/\∀j d,(enc t x)[j]? =some d->∃u,w.cell? ⟨g,i * size t+j,none⟩=some u/\u.oneCell'=true/\Rd c.S w d u):=by
 unfold rowOf at h
 split at h
 ·rename_i e t' l' hr
  injection h with h
  cases h
  obtain⟨_,h|⟨g,cap,cur,hv,hF,hg,h1,h2,h3,h4⟩⟩:=(ox.objs id _ hr).2.2
  ·obtain⟨h1,⟨ad,h2⟩,_⟩:=h
   subst h1
   exact⟨ad,0,h2,Nat.le_refl _,Nat.zero_le _,λi x hx=>by simp at hx⟩
  ·refine⟨_,cap,hv,h1,h2,λi x hx=>⟨g,rfl,λj d hd=> ?_⟩⟩
   obtain⟨u,u1,u2,u3⟩:=h4 i x hx j d hd
   exact⟨u,by rw[cell_row hg];exact u1,u2,u3⟩
 ·rename_i t' l' hr
  injection h with h
  cases h
  obtain⟨hrd,h0⟩:=(ox.objs id _ hr).2.2
  obtain⟨ad,cap,b,off,f,hu,hc,hm,ha,hx,hh⟩:=hrd.slInv
  refine⟨ad,cap,hu,hc,hm,λi x hi=> ?_⟩
  have hil:=(List.getElem?_eq_some_iff.1 hi).1
  rcases ha with ha|ha
  ·rw[ha] at hil;simp at hil
  ·have hz:off=0:=by
    rcases h0 with h0|⟨b',n,cap',h0⟩
    ·rw[h0] at hil;simp at hil
    ·rw[hu,ha] at h0
     injection h0 with h0
     injection h0 with h0
     injection h0
   subst hz
   refine⟨b,ha,λj d hd=> ?_⟩
   have hjl:j<size t:=by have:=(List.getElem?_eq_some_iff.1 hd).1;rwa [enc_len] at this
   obtain⟨_,k2,k3⟩:=hx i hil j hjl
   exact⟨f i j,by rw[Nat.zero_add] at k2;exact k2,k3,hh i x j d hi hd⟩
 ·cases h
theorem castL_same0 (t:Ty)(l:List (den t)):castL t t l=some l:=by
 have hb:∀t:Ty,t.beq t=true:=λt=>by
  induction t with
  |int _=>simp[Ty.beq]
  |bool=>rfl
  |str=>rfl
  |sl t ih=>exact ih
  |st _=>exact Nat.beq_refl _
 unfold castL
 rw[dif_pos (hb t)]
def kth (t:Ty)(k:Nat)(t':Ty)(x:den t):List (den t'):=match (enc t x)[k]? with
 |some d=>(decL t' d).getD []
 |none=>[]
theorem kth_eq {t:Ty}{k:Nat}{t':Ty}{x:den t}{li:List (den t')}(h:(enc t x)[k]? =some (.sl t' li)):kth t k t' x=li:=by
 unfold kth
 rw[h]
 show (castL t' t' li).getD []=li
 rw[castL_same0];rfl
def nstOf (m:Mem)(id:Nat):Option (Sigma λt:Ty=>Nat×Ty×List (den t)):=match m.ob id with
 |some (.nst _ t k _ t' l)=>some ⟨t,k,t',l⟩
 |_=>none
theorem RowAt.slice {w:World}{S:Cells}{v:Value}{F:Nat->Prop}{e:TypeId}{t:Ty}{l:List (den t)}(h:RowAt w S v F e t l):0<size t/\∃ad cap,v= .slice ad l.length cap/\l.length<=cap/\cap<=maxLen/\
 ∀i x,l[i]? =some x->∃g,ad=some ⟨g,0,none⟩/\F g/\∀j d,(enc t x)[j]? =some d->∃u,w.cell? ⟨g,i * size t+j,none⟩=some u/\u.oneCell'=true/\Rd S w d u:=by
 obtain⟨h0,h|⟨g,cap,cur,hv,hF,hg,h1,h2,h3,h4⟩⟩:=h
 ·obtain⟨h1,⟨ad,h2⟩,_⟩:=h
  subst h1
  exact⟨h0,ad,0,h2,Nat.le_refl _,Nat.zero_le _,λi x hx=>by simp at hx⟩
 ·refine⟨h0,_,cap,hv,h1,h2,λi x hx=>⟨g,rfl,(hF g).2 rfl,λj d hd=> ?_⟩⟩
  obtain⟨u,u1,u2,u3⟩:=h4 i x hx j d hd
  exact⟨u,by rw[cell_row hg];exact u1,u2,u3⟩
theorem nstOf_rel {m:Mem}{w:World}{c:Cx}(ox:OX m.ob m.U m.tp w c){id:Nat}{t:Ty}{k:Nat}{t':Ty}{l:List (den t)}(h:nstOf m id=some ⟨t,k,t',l⟩):
 ∃ad cap vs,c.H id= .tuple (Value.slice ad l.length cap::vs).toArray/\l.length<=cap/\cap<=maxLen/\vs.length=l.length/\k<size t/\
  ∀i x,l[i]? =some x->∃g,ad=some ⟨g,0,none⟩/\c.F id g/\(∀j d,j≠k->(enc t x)[j]? =some d->∃u,w.cell? ⟨g,i * size t+j,none⟩=some u/\u.oneCell'=true/\Rd c.S w d u)/\
   ∃ad' cap',vs[i]? =some (.slice ad' (kth t k t' x).length cap')/\w.cell? ⟨g,i * size t+k,none⟩=some (.slice ad' (kth t k t' x).length cap')/\(kth t k t' x).length<=cap'/\cap'<=maxLen/\0<size t'/\
    ∀z y,(kth t k t' x)[z]? =some y->∃g',ad'=some ⟨g',0,none⟩/\c.F id g'/\∀j d,(enc t' y)[j]? =some d->∃u,w.cell? ⟨g',z * size t'+j,none⟩=some u/\u.oneCell'=true/\Rd c.S w d u:=by
 unfold nstOf at h
 split at h
 ·rename_i e t1 k1 e1 t1' l1 hr
  injection h with h
  cases h
  obtain⟨_,hk,v,vs,Fi,hH,hvs,h|⟨g,cap,cur,hv,hF,hg1,hg2,hg,h1,h2,h3,h4⟩⟩:=(ox.objs id _ hr).2.2
  ·obtain⟨h1,⟨ad,h2⟩,_⟩:=h
   subst h1 h2
   exact⟨ad,0,vs,hH,Nat.le_refl _,Nat.zero_le _,hvs,hk,λi x hx=>by simp at hx⟩
  ·subst hv
   refine⟨_,cap,vs,hH,h1,h2,hvs,hk,λi x hx=>⟨g,rfl,(hF g).2 (.inl rfl),λj d hj hd=> ?_,?_⟩⟩
   ·obtain⟨u,u1,u2,u3⟩:=(h4 i x hx).1 j d hj hd
    exact⟨u,by rw[cell_row hg];exact u1,u2,u3⟩
   ·obtain⟨li,u,q1,q2,q3,q4⟩:=(h4 i x hx).2
    obtain⟨r0,ad',cap',rfl,r1,r2,r3⟩:=q4.slice
    rw[kth_eq q1]
    refine⟨ad',cap',q2,by rw[cell_row hg];exact q3,r1,r2,r0,λz y hy=> ?_⟩
    obtain⟨g',s1,s2,s3⟩:=r3 z y hy
    exact⟨g',s1,(hF g').2 (.inr ⟨i,(List.getElem?_eq_some_iff.1 hx).1,s2⟩),s3⟩
 ·cases h
theorem load_cellsR {α:Type}{R:α->Value->Prop}{w:World}{b off:Nat}{cs:List α}(h:∀j d,cs[j]? =some d->∃u,w.cell? ⟨b,off+j,none⟩=some u/\u.oneCell'=true/\R d u):
 ∃us:List Value,us.length=cs.length/\(∀j u,us[j]? =some u->w.cell? ⟨b,off+j,none⟩=some u)/\(∀u∈us,u.oneCell'=true)/\∀(i:Nat)(d:α)(u:Value),cs[i]? =some d->us[i]? =some u->R d u:=by
 have hex:∀j (hj:j<cs.length),∃u:Value,w.cell? ⟨b,off+j,none⟩=some u/\u.oneCell'=true/\R cs[j] u:=λj hj=>h j cs[j] (List.getElem?_eq_getElem hj)
 let us:List Value:=(List.range cs.length).map λj=>if hj:j<cs.length then (hex j hj).choose else undef
 have hlen:us.length=cs.length:=by simp[us]
 have hget:∀j u (hj:j<cs.length),us[j]? =some u->w.cell? ⟨b,off+j,none⟩=some u/\u.oneCell'=true/\R cs[j] u:=λj u hjl hj=>by
  simp only[us,List.getElem?_map,List.getElem?_range hjl,Option.map_some,hjl,dif_pos,Option.some.injEq] at hj
  rw[<-hj]
  exact (hex j hjl).choose_spec
 have hlt:∀{j u},us[j]? =some u->j<cs.length:=λhj=>by have:=(List.getElem?_eq_some_iff.1 hj).1;rwa [hlen] at this
 refine⟨us,hlen,λj u hj=>(hget j u (hlt hj) hj).1,λu hu=> ?_,λi d u hd hu=> ?_⟩
 ·obtain⟨j,hj,rfl⟩:=List.getElem_of_mem hu
  exact (hget j _ (by rwa [hlen] at hj) (List.getElem?_eq_getElem hj)).2.1
 ·have hil:=(List.getElem?_eq_some_iff.1 hd).1
  have:=(hget i u hil hu).2.2
  rw[List.getElem?_eq_getElem hil] at hd
  injection hd with hd
  rw[<-hd];exact this
theorem load_cells {c:Cx}{w:World}{g:Addr}{off:Nat}{cs:List D}(hg:g.spot=none)(h:∀j d,cs[j]? =some d->∃u,w.cell? (g.add (off+j))=some u/\u.oneCell'=true/\Rd c.S w d u):
 ∃us:List Value,us.length=cs.length/\(∀j u,us[j]? =some u->w.cell? ⟨g.block,g.off+off+j,none⟩=some u)/\(∀u∈us,u.oneCell'=true)/\∀(i:Nat)(d:D)(u:Value),cs[i]? =some d->us[i]? =some u->Rd c.S w d u:=by
 have hga:∀j,g.add (off+j)=⟨g.block,g.off+off+j,none⟩:=λj=>by
  cases g with
  |mk b o s=>simp only at hg;subst hg;rw[addr_add,Nat.add_assoc]
 have hex:∀j,j<cs.length->∃u:Value,w.cell? ⟨g.block,g.off+off+j,none⟩=some u/\u.oneCell'=true/\Rd c.S w cs[j]! u:=λj hj=>by
  obtain⟨u,q⟩:=h j cs[j] (List.getElem?_eq_getElem hj)
  rw[hga] at q
  exact⟨u,by rw[getElem!_pos cs j hj];exact q⟩
 let us:List Value:=(List.range cs.length).map λj=>if hj:j<cs.length then (hex j hj).choose else undef
 have hlen:us.length=cs.length:=by simp[us]
 have hget:∀j u,us[j]? =some u->w.cell? ⟨g.block,g.off+off+j,none⟩=some u/\u.oneCell'=true/\Rd c.S w cs[j]! u:=λj u hj=>by
  have hjl:j<cs.length:=by have:=(List.getElem?_eq_some_iff.1 hj).1;rwa [hlen] at this
  simp only[us,List.getElem?_map,List.getElem?_range hjl,Option.map_some,hjl,dif_pos,Option.some.injEq] at hj
  rw[<-hj]
  exact (hex j hjl).choose_spec
 refine⟨us,hlen,λj u hj=>(hget j u hj).1,λu hu=> ?_,λi d u hd hu=> ?_⟩
 ·obtain⟨j,hj,rfl⟩:=List.getElem_of_mem hu
  exact (hget j _ (List.getElem?_eq_getElem hj)).2.1
 ·have hil:=(List.getElem?_eq_some_iff.1 hd).1
  have:=(hget i u hu).2.2
  rw[getElem!_pos cs i hil] at this
  rw[List.getElem?_eq_getElem hil] at hd
  injection hd with hd
  rw[<-hd];exact this
def pCells (P:Program)(t:TypeId)(cs:List SV):Option SV:=
 bif oneTy P t then cs[0]? else bif rowTy P t&&hasTy P t&&Nat.ble (tsz P t) cs.length then some (mkAgg (cs.take (tsz P t))) else none
theorem pCells_run {t:TypeId}{cs:List SV}{r:SV}(h:pCells P t cs=some r){c:Cx}{w:World}{U:Nat->Prop}{b o:Nat}{us:List Value}(hl:us.length=cs.length)(h1:∀u∈us,u.oneCell'=true)(hc:∀j u,us[j]? =some u->w.cell? ⟨b,o+j,none⟩=some u)
 (hr:∀(i:Nat)(s:SV)(u:Value),cs[i]? =some s->us[i]? =some u->SRel c w s u) (hU:inUL U cs):∃v,(Instr.loadAt t (.pointer (some ⟨b,o,none⟩))).run P w= .ok v w/\SRel c w r v/\r.inU U:=by
 unfold pCells at h
 cases ho:oneTy P t with
 |true=>
  rw[ho] at h
  simp only[cond_true] at h
  have h0:0<us.length:=by rw[hl];exact (List.getElem?_eq_some_iff.1 h).1
  exact⟨us[0],run_load_one ho (by simpa using hc 0 us[0] (List.getElem?_eq_getElem h0)),hr 0 r _ h (List.getElem?_eq_getElem h0),inUL_get hU h⟩
 |false=>
  rw[ho] at h
  simp only[cond_false] at h
  cases hb:(rowTy P t&&hasTy P t&&Nat.ble (tsz P t) cs.length) with
  |false=>rw[hb] at h;cases h
  |true=>
   rw[hb] at h
   simp only[cond_true,Option.some.injEq] at h
   simp only[Bool.and_eq_true] at hb
   obtain⟨⟨k1,k2⟩,k3⟩:=hb
   have k3:=Nat.le_of_ble_eq_true k3
   subst h
   refine⟨.agg (us.take (tsz P t)).toArray,run_load_agg k1 k2 (by rw[List.length_take];omega) (λj u hj=> ?_),srel_mkAgg (by rw[List.length_take,List.length_take];omega) (λu hu=>h1 u (List.mem_of_mem_take hu)) (λi s u hs hu=> ?_),mkAgg_inU ?_⟩
   ·rw[List.getElem?_take] at hj
    split at hj
    ·exact hc j u hj
    ·cases hj
   ·rw[List.getElem?_take] at hs hu
    split at hs
    ·rename_i hi;rw[if_pos hi] at hu;exact hr i s u hs hu
    ·cases hs
   ·have:=inUL_drop hU 0 (tsz P t)
    simpa using this
theorem inUL_map (U:Nat->Prop)(cs:List D):inUL U (cs.map SV.d):=inUL_of λi s hs=>by
 rw[List.getElem?_map,Option.map_eq_some_iff] at hs
 obtain⟨x,_,rfl⟩:=hs
 trivial
def pLoad (P:Program)(m:Mem)(t:TypeId):SV->Option SV
 | .d (.p cs)=>pCells P t (cs.map SV.d)
 | .bx id off=>match m.ob id with
  |some (.box cs)=>pCells P t (cs.drop off)
  |_=>none
 | .op id z sz j=>match rowOf m id with
  |some ⟨ty,l⟩=>bif Nat.beq sz (size ty)&&Nat.ble j sz then pCells P t (((enc ty (ix l z)).drop j).map SV.d) else none
  |none=>none
 | .np id z sz j=>match nstOf m id with
  |some ⟨ty,k,_,l⟩=>bif Nat.beq sz (size ty)&&Nat.ble j sz then pCells P t ((((enc ty (ix l z)).map SV.d).set k (.inn id z)).drop j) else none
  |none=>none
 | .ip id i z sz j=>match nstOf m id with
  |some ⟨ty,k,t',l⟩=>bif Nat.beq sz (size t')&&Nat.ble j sz then pCells P t (((enc t' (ix (kth ty k t' (ix l i)) z)).drop j).map SV.d) else none
  |none=>none
 |_=>none
theorem np_cells {m:Mem}{c:Cx}{w:World}(ox:OX m.ob m.U m.tp w c){id:Nat}{z:Int}{j:Nat}{u:Value}{ty:Ty}{k:Nat}{t':Ty}{l:List (den ty)}(hn:nstOf m id=some ⟨ty,k,t',l⟩)(hs:SRel c w (.np id z (size ty) j) u):
 ∃(b o:Nat)(us:List Value),u= .pointer (some ⟨b,o,none⟩)/\c.F id b/\us.length=((((enc ty (ix l z)).map SV.d).set k (.inn id z)).drop j).length/\(∀q u,us[q]? =some u->w.cell? ⟨b,o+q,none⟩=some u)/\(∀u∈us,u.oneCell'=true)/\∀(i:Nat)(d:SV)(u:Value),((((enc ty (ix l z)).map SV.d).set k (.inn id z)).drop j)[i]? =some d->us[i]? =some u->SRel c w d u:=by
 obtain⟨g,n,cap,vs,hH,rfl,hz⟩:=srel_np hs
 obtain⟨ad,cap',vs',hv,hc,hm,hl,hk,hcell⟩:=nstOf_rel ox hn
 rw[hH] at hv
 injection hv with hv
 have hv:=congrArg Array.toList hv
 simp only[List.cons.injEq] at hv
 obtain⟨e0,e4⟩:=hv
 injection e0 with e1 e2 e3
 subst e1 e2 e3 e4
 obtain⟨g',hg',hF,hcc,ad',cap2,w1,w2,w3,w4,w5,w6⟩:=hcell z.toNat _ (ix_get (l:=l) (i:=z) ⟨hz.1,hz.2⟩)
 injection hg' with hg'
 injection hg' with hg'
 subst hg'
 obtain⟨us,u1,u2,u3,u4⟩:=load_cellsR (R:=SRel c w) (w:=w) (b:=g) (off:=z.toNat * size ty+j) (cs:=(((enc ty (ix l z)).map SV.d).set k (.inn id z)).drop j) (λq d hd=>by
  rw[List.getElem?_drop,List.getElem?_set] at hd
  rw[Nat.add_assoc]
  by_cases hq:k=j+q
  ·rw[if_pos hq] at hd
   split at hd
   ·injection hd with hd
    subst hd
    exact⟨_,by rw[<-hq];exact w2,rfl,.inn id z _ vs _ hH hz.1 w1⟩
   ·cases hd
  ·rw[if_neg hq,List.getElem?_map,Option.map_eq_some_iff] at hd
   obtain⟨y,hy,rfl⟩:=hd
   obtain⟨u,q1,q2,q3⟩:=hcc (j+q) y (λe=>hq e.symm) hy
   exact⟨u,q1,q2,.d _ _ q3⟩)
 exact⟨g,_,us,rfl,hF,u1,u2,u3,u4⟩
theorem ip_cells {m:Mem}{c:Cx}{w:World}(ox:OX m.ob m.U m.tp w c){id:Nat}{i z:Int}{j:Nat}{u:Value}{ty:Ty}{k:Nat}{t':Ty}{l:List (den ty)}(hn:nstOf m id=some ⟨ty,k,t',l⟩)(hs:SRel c w (.ip id i z (size t') j) u):
 ∃(b o:Nat)(us:List Value),u= .pointer (some ⟨b,o,none⟩)/\c.F id b/\us.length=(((enc t' (ix (kth ty k t' (ix l i)) z)).drop j).map SV.d).length/\(∀q u,us[q]? =some u->w.cell? ⟨b,o+q,none⟩=some u)/\(∀u∈us,u.oneCell'=true)/\∀(q:Nat)(d:SV)(u:Value),(((enc t' (ix (kth ty k t' (ix l i)) z)).drop j).map SV.d)[q]? =some d->us[q]? =some u->SRel c w d u:=by
 obtain⟨v,vs,g,n,cap,hH,hi,hu,rfl,hz⟩:=srel_ip hs
 obtain⟨ad,cap',vs',hv,hc,hm,hl,hk,hcell⟩:=nstOf_rel ox hn
 rw[hH] at hv
 injection hv with hv
 have hv:=congrArg Array.toList hv
 simp only[List.cons.injEq] at hv
 obtain⟨e0,e4⟩:=hv
 subst e0 e4
 have hil:i.toNat<l.length:=by have:=(List.getElem?_eq_some_iff.1 hu).1;omega
 obtain⟨g',hg',hF,hcc,ad',cap2,w1,w2,w3,w4,w5,w6⟩:=hcell i.toNat _ (ix_get (l:=l) (i:=i) ⟨hi,by omega⟩)
 rw[hu] at w1
 injection w1 with w1
 injection w1 with a1 a2 a3
 subst a1 a2 a3
 obtain⟨g2,s1,s2,s3⟩:=w6 z.toNat _ (ix_get (l:=kth ty k t' (ix l i)) (i:=z) hz)
 injection s1 with s1
 injection s1 with s1
 subst s1
 obtain⟨us,u1,u2,u3,u4⟩:=load_cellsR (R:=SRel c w) (w:=w) (b:=g) (off:=z.toNat * size t'+j) (cs:=((enc t' (ix (kth ty k t' (ix l i)) z)).drop j).map SV.d) (λq d hd=>by
  rw[List.getElem?_map,Option.map_eq_some_iff] at hd
  obtain⟨y,hy,rfl⟩:=hd
  rw[List.getElem?_drop] at hy
  rw[Nat.add_assoc]
  obtain⟨u,q1,q2,q3⟩:=s3 (j+q) y hy
  exact⟨u,q1,q2,.d _ _ q3⟩)
 exact⟨g,_,us,rfl,s2,u1,u2,u3,u4⟩
theorem pLoad_run {m:Mem}{t:TypeId}{s r:SV}(h:pLoad P m t s=some r){c:Cx}{w:World}{u:Value}(ox:OX m.ob m.U m.tp w c)(hs:SRel c w s u)(hu:s.inU m.U):∃v,(Instr.loadAt t u).run P w= .ok v w/\SRel c w r v/\r.inU m.U:=by
 unfold pLoad at h
 split at h
 ·rename_i cs
  have hrd:=srel_d hs
  cases hrd with
  |p _ b off f h1 h2=>
   refine pCells_run h (us:=(List.range cs.length).map f) (by simp) (λu hu=> ?_) (λj u hj=> ?_) (λi s u hs hu=> ?_) (inUL_map _ _)
   ·simp at hu;obtain⟨j,hj,rfl⟩:=hu;exact (h1 j hj).2.2
   ·have hjl:j<cs.length:=by have:=(List.getElem?_eq_some_iff.1 hj).1;simpa using this
    simp[hjl] at hj;subst hj;exact (h1 j hjl).2.1
   ·rw[List.getElem?_map,Option.map_eq_some_iff] at hs
    obtain⟨x,hx,rfl⟩:=hs
    have hi:=(List.getElem?_eq_some_iff.1 hx).1
    simp[hi] at hu;subst hu;exact .d _ _ (h2 i x hx)
 ·rename_i id off
  split at h
  ·rename_i cs hob
   obtain⟨b,hb,rfl⟩:=srel_bx hs
   obtain⟨_,hU,b',arr,t',h1,h2,h3,h4,h5,h6⟩:=ox.objs id _ hob
   rw[h1] at hb
   injection hb with hb
   injection hb with hb
   injection hb with hb
   subst hb
   refine pCells_run h (us:=arr.drop off) (by simp[h4]) (λu hu=>h5 u (List.mem_of_mem_drop hu)) (λj u hj=> ?_) (λi s u hs hu=> ?_) ?_
   ·rw[List.getElem?_drop] at hj
    rw[cell_row h3];simpa using hj
   ·rw[List.getElem?_drop] at hs hu;exact h6 _ s u hs hu
   ·exact inUL_of λi s hs=>by rw[List.getElem?_drop] at hs;exact inUL_get hU hs
  ·cases h
 ·rename_i id z sz j
  split at h
  ·rename_i ty l hrow
   cases hb:(Nat.beq sz (size ty)&&Nat.ble j sz) with
   |false=>rw[hb] at h;cases h
   |true=>
    rw[hb] at h
    simp only[cond_true] at h
    obtain⟨k1,k2⟩:=Bool.and_eq_true_iff.1 hb
    have k1:=beq_eq k1
    subst k1
    obtain⟨g,n,cap,hH,rfl,hz⟩:=srel_op hs
    obtain⟨ad,cap',hv,hc,hm,hcell⟩:=rowOf_rel ox hrow
    rw[hH] at hv
    injection hv with e1 e2 e3
    subst e1 e2 e3
    obtain⟨g',hg',hcc⟩:=hcell z.toNat _ (ix_get (l:=l) (i:=z) ⟨hz.1,hz.2⟩)
    injection hg' with hg'
    injection hg' with hg'
    subst hg'
    obtain⟨us,u1,u2,u3,u4⟩:=load_cells (c:=c) (w:=w) (g:=⟨g,0,none⟩) (off:=z.toNat * size ty+j) (cs:=(enc ty (ix l z)).drop j) rfl (λj' d hd=>by
     rw[List.getElem?_drop] at hd
     have:=hcc _ d hd
     rw[<-Nat.add_assoc] at this
     rw[addr_add,Nat.zero_add];exact this)
    refine pCells_run h (us:=us) (by simp[u1]) u3 (λj' u hj'=> ?_) (λi s u hs hu=> ?_) (inUL_map _ _)
    ·have:=u2 j' u hj'
     simpa using this
    ·rw[List.getElem?_map,Option.map_eq_some_iff] at hs
     obtain⟨x,hx,rfl⟩:=hs
     exact .d _ _ (u4 i x u hx hu)
  ·cases h
 ·rename_i id z sz j
  split at h
  ·rename_i ty k t' l hn
   cases hb:(Nat.beq sz (size ty)&&Nat.ble j sz) with
   |false=>rw[hb] at h;cases h
   |true=>
    rw[hb] at h
    simp only[cond_true] at h
    have k1:=beq_eq (Bool.and_eq_true_iff.1 hb).1
    subst k1
    obtain⟨b,o,us,rfl,_,u1,u2,u3,u4⟩:=np_cells ox hn hs
    refine pCells_run h (us:=us) u1 u3 u2 u4 (inUL_of λi s hs'=> ?_)
    rw[List.getElem?_drop,List.getElem?_set] at hs'
    split at hs'
    ·split at hs'
     ·injection hs' with hs'
      subst hs'
      exact hu
     ·cases hs'
    ·rw[List.getElem?_map,Option.map_eq_some_iff] at hs'
     obtain⟨y,_,rfl⟩:=hs'
     trivial
  ·cases h
 ·rename_i id i z sz j
  split at h
  ·rename_i ty k t' l hn
   cases hb:(Nat.beq sz (size t')&&Nat.ble j sz) with
   |false=>rw[hb] at h;cases h
   |true=>
    rw[hb] at h
    simp only[cond_true] at h
    have k1:=beq_eq (Bool.and_eq_true_iff.1 hb).1
    subst k1
    obtain⟨b,o,us,rfl,_,u1,u2,u3,u4⟩:=ip_cells ox hn hs
    exact pCells_run h (us:=us) u1 u3 u2 u4 (inUL_map _ _)
  ·cases h
 ·cases h
def pField (P:Program)(s f:Nat)(x:SV):Option SV:=match fldOff P s f with
 |none=>none
 |some k=>match x with
  | .d (.p cs)=>some (.d (.p (cs.drop k)))
  | .bx id off=>some (.bx id (off+k))
  | .op id z sz j=>some (.op id z sz (j+k))
  | .np id z sz j=>some (.np id z sz (j+k))
  | .ip id i z sz j=>some (.ip id i z sz (j+k))
  |_=>none
theorem run_field {s f k:Nat}(h:fldOff P s f=some k)(b o:Nat)(w:World):(Instr.fieldAt s (.pointer (some ⟨b,o,none⟩)) f).run P w= .ok (.pointer (some ⟨b,o+k,none⟩)) w:=by
 obtain⟨fs,fd,i,hu',hf,hk,hi,hz⟩:=fldOff_spec h
 simp[Instr.fieldAt,run_underlying hu',hf,Instr.sureAddr,fieldPlace,sizeOf,typeInfo,hi,hz,addr_add,hk]
theorem pField_run {s f:Nat}{x r:SV}(h:pField P s f x=some r){m:Mem}{c:Cx}{w:World}{u:Value}(hs:SRel c w x u)(hu:x.inU m.U):∃v,(Instr.fieldAt s u f).run P w= .ok v w/\SRel c w r v/\r.inU m.U:=by
 unfold pField at h
 split at h
 ·cases h
 ·rename_i k hk
  split at h
  ·injection h with h
   subst h
   cases srel_d hs with
   |p cs b off g h1 h2=>
    refine⟨_,run_field hk b off w,.d _ _ (Rd.p _ b (off+k) (λj=>g (k+j)) (λj hj=> ?_) (λj c hc=> ?_)),trivial⟩
    ·rw[List.length_drop] at hj
     have:=h1 (k+j) (by omega)
     rw[show off+k+j=off+(k+j) by omega]
     exact this
    ·rw[List.getElem?_drop] at hc
     exact h2 _ _ hc
  ·rename_i id off
   injection h with h
   subst h
   obtain⟨b,hb,rfl⟩:=srel_bx hs
   exact⟨_,run_field hk b off w,.bx id (off+k) b hb,hu⟩
  ·rename_i id z sz j
   injection h with h
   subst h
   obtain⟨g,n,cap,hH,rfl,hz⟩:=srel_op hs
   refine⟨_,run_field hk g _ w,?_,hu⟩
   have:=SRel.op (c:=c) (w:=w) id z sz (j+k) g n cap hH hz
   rwa [<-Nat.add_assoc] at this
  ·rename_i id z sz j
   injection h with h
   subst h
   obtain⟨g,n,cap,vs,hH,rfl,hz⟩:=srel_np hs
   refine⟨_,run_field hk g _ w,?_,hu⟩
   have:=SRel.np (c:=c) (w:=w) id z sz (j+k) g n cap vs hH hz
   rwa [<-Nat.add_assoc] at this
  ·rename_i id i z sz j
   injection h with h
   subst h
   obtain⟨v,vs,g,n,cap,hH,hi,hu',rfl,hz⟩:=srel_ip hs
   refine⟨_,run_field hk g _ w,?_,hu⟩
   have:=SRel.ip (c:=c) (w:=w) id i z sz (j+k) g n cap v vs hH hi hu' hz
   rwa [<-Nat.add_assoc] at this
  ·cases h
def pIndexS (P:Program)(m:Mem)(t:TypeId)(x:SV)(y:SV):Option PRes:=
 match elemOf P t,y with
 |some e,.d (.v (.int _ z))=>match x with
  | .d (.sl ty l)=>bif Nat.beq (tsz P e) (size ty) then okp (.inb l.length z) (.d (.p (enc ty (ix l z)))) else none
  | .os id=>match rowOf m id with
   |some ⟨ty,l⟩=>bif Nat.beq (tsz P e) (size ty) then okp (.inb l.length z) (.op id z (size ty) 0) else none
   |none=>none
  | .sub id sz a b=>match rowOf m id with
   |some ⟨ty,l⟩=>bif Nat.beq (tsz P e) (size ty)&&Nat.beq sz (size ty) then okp (.in2 z (b-a) (a+z) l.length) (.op id (a+z) (size ty) 0) else none
   |none=>none
  | .ns id=>match nstOf m id with
   |some ⟨ty,_,_,l⟩=>bif Nat.beq (tsz P e) (size ty) then okp (.inb l.length z) (.np id z (size ty) 0) else none
   |none=>none
  | .inn id i=>match nstOf m id with
   |some ⟨ty,k,t',l⟩=>bif Nat.beq (tsz P e) (size t') then okp (.inb (kth ty k t' (ix l i)).length z) (.ip id i z (size t') 0) else none
   |none=>none
  |_=>none
 |_,_=>none
theorem run_index {t e:TypeId}(h:elemOf P t=some e){ad:Addr}{n cap:Nat}{k:IntKind}{z:Int}(hz:0<=z/\z<(n:Int))(w:World):(Instr.indexAt t (.slice (some ad) n cap) (.int k z)).run P w= .ok (.pointer (some (ad.add (z.toNat * tsz P e)))) w:=by
 obtain⟨inf,hu',hi',hs⟩:=elemOf_spec h
 have h1:¬z<0:=by omega
 have h2:¬(n:Int)<=z:=by omega
 simp[Instr.indexAt,asIntOf,run_underlying hu',sizeOf,typeInfo,hi',hs]
 omega
theorem pIndexS_run {m:Mem}{t:TypeId}{x y:SV}{R:PRes}(h:pIndexS P m t x y=some R){c:Cx}{w:World}{u v:Value}(ox:OX m.ob m.U m.tp w c)(hx:SRel c w x u)(hxu:x.inU m.U)(hy:SRel c w y v)(hp:allC R.ps):
 ∃r,(Instr.indexAt t u v).run P w= .ok r w/\SRel c w R.r r/\R.r.inU m.U/\allL R.fs:=by
 unfold pIndexS at h
 split at h
 ·rename_i e k z he
  have hv:=srel_v hy
  subst hv
  split at h
  ·rename_i ty l
   cases hb:Nat.beq (tsz P e) (size ty) with
   |false=>rw[hb] at h;cases h
   |true=>
    rw[hb] at h
    have hb:=beq_eq hb
    cases okp_eq h
    have hz:=hp.1
    obtain⟨ad,cap,b,off,f,rfl,hc,hm,ha,h1,h2⟩:=(srel_d hx).slInv
    have had:ad=some ⟨b,off,none⟩:=by
     rcases ha with ha|ha
     ·obtain⟨z1,z2⟩:=hz;rw[ha] at z2;simp at z2;omega
     ·exact ha
    subst had
    refine⟨_,run_index he hz w,.d _ _ ?_,trivial,trivial⟩
    rw[addr_add,hb]
    have hzl:z.toNat<l.length:=by obtain⟨z1,z2⟩:=hz;omega
    refine Rd.p _ b _ (f z.toNat) (λj hj=> ?_) (λj c hc=>h2 _ _ j c (ix_get hz) hc)
    rw[enc_len] at hj
    exact h1 _ hzl j hj
  ·rename_i id
   split at h
   ·rename_i ty l hrow
    cases hb:Nat.beq (tsz P e) (size ty) with
    |false=>rw[hb] at h;cases h
    |true=>
     rw[hb] at h
     have hb:=beq_eq hb
     cases okp_eq h
     have hz:=hp.1
     obtain⟨ad,cap,hv,hc,hm,hcell⟩:=rowOf_rel ox hrow
     have hu:=srel_os hx
     rw[hv] at hu
     subst hu
     obtain⟨g,hg,hcc⟩:=hcell z.toNat _ (ix_get hz)
     subst hg
     refine⟨_,run_index he hz w,?_,hxu,trivial⟩
     rw[addr_add,hb]
     have:=SRel.op (c:=c) (w:=w) id z (size ty) 0 g _ _ hv hz
     rw[Nat.add_zero] at this
     rw[Nat.zero_add];exact this
   ·cases h
  ·rename_i id sz a b
   split at h
   ·rename_i ty l hrow
    cases hb:(Nat.beq (tsz P e) (size ty)&&Nat.beq sz (size ty)) with
    |false=>rw[hb] at h;cases h
    |true=>
     rw[hb] at h
     rw[Bool.and_eq_true] at hb
     have hb1:=beq_eq hb.1
     have hb2:=beq_eq hb.2
     cases okp_eq h
     obtain⟨hz,hza⟩:=hp.1
     obtain⟨ad,cap,hv,hc,hm,hcell⟩:=rowOf_rel ox hrow
     cases hx with
     |sub _ _ _ _ ad' n' cap' hH hab=>
      rw[hv] at hH
      injection hH with e1 e2 e3
      subst e1 e2 e3
      obtain⟨g,hg,hcc⟩:=hcell (a+z).toNat _ (ix_get hza)
      subst hg
      have hne:¬cap=a.toNat:=by
       have:=hza.2
       omega
      have hlen:((b.toNat-a.toNat:Nat):Int)=b-a:=by omega
      refine⟨_,(by
       simp only[subV,if_neg hne,Option.map_some]
       exact run_index he (by omega) w),?_,hxu,trivial⟩
      rw[addr_add,addr_add,hb1,hb2]
      have:=SRel.op (c:=c) (w:=w) id (a+z) (size ty) 0 g _ _ hv hza
      rw[Nat.add_zero] at this
      have e:(a+z).toNat=a.toNat+z.toNat:=by omega
      rw[e,Nat.add_mul] at this
      rw[Nat.zero_add];exact this
   ·cases h
  ·rename_i id
   split at h
   ·rename_i ty k t' l hn
    cases hb:Nat.beq (tsz P e) (size ty) with
    |false=>rw[hb] at h;cases h
    |true=>
     rw[hb] at h
     have hb:=beq_eq hb
     cases okp_eq h
     have hz:=hp.1
     obtain⟨vs,hH⟩:=srel_ns hx
     obtain⟨ad,cap,vs',hv,hc,hm,hl,hk,hcell⟩:=nstOf_rel ox hn
     have hH0:=hH
     rw[hv] at hH
     injection hH with hH
     have hH:=congrArg Array.toList hH
     simp only[List.cons.injEq] at hH
     obtain⟨e0,e4⟩:=hH
     subst e0 e4
     obtain⟨g,hg,_⟩:=hcell z.toNat _ (ix_get hz)
     subst hg
     refine⟨_,run_index he hz w,?_,hxu,trivial⟩
     rw[addr_add,hb]
     have:=SRel.np (c:=c) (w:=w) id z (size ty) 0 g _ _ _ hv hz
     rw[Nat.add_zero] at this
     rw[Nat.zero_add];exact this
   ·cases h
  ·rename_i id i
   split at h
   ·rename_i ty k t' l hn
    cases hb:Nat.beq (tsz P e) (size t') with
    |false=>rw[hb] at h;cases h
    |true=>
     rw[hb] at h
     have hb:=beq_eq hb
     cases okp_eq h
     have hz:=hp.1
     obtain⟨v,vs,hH,hi,hu⟩:=srel_inn hx
     obtain⟨ad,cap,vs',hv,hc,hm,hl,hk,hcell⟩:=nstOf_rel ox hn
     have hH0:=hH
     rw[hv] at hH
     injection hH with hH
     have hH:=congrArg Array.toList hH
     simp only[List.cons.injEq] at hH
     obtain⟨e0,e4⟩:=hH
     subst e0 e4
     have hil:i.toNat<l.length:=by have:=(List.getElem?_eq_some_iff.1 hu).1;omega
     obtain⟨g,hg,hF,hcc,ad',cap2,w1,w2,w3,w4,w5,w6⟩:=hcell i.toNat _ (ix_get (l:=l) (i:=i) ⟨hi,by omega⟩)
     rw[hu] at w1
     injection w1 with w1
     subst w1
     obtain⟨g',s1,_⟩:=w6 z.toNat _ (ix_get hz)
     subst s1
     refine⟨_,run_index he hz w,?_,hxu,trivial⟩
     rw[addr_add,hb]
     have:=SRel.ip (c:=c) (w:=w) id i z (size t') 0 g' _ _ _ vs' hv hi hu hz
     rw[Nat.add_zero] at this
     rw[Nat.zero_add];exact this
   ·cases h
  ·cases h
 ·cases h
def arrOf (P:Program)(t:TypeId):Option (Nat×TypeId):=match P.underlying t with
 |some (.array n e)=>bif hasTy P e then some (n,e) else none
 |_=>none
theorem arrOf_spec {t e:TypeId}{n:Nat}(h:arrOf P t=some (n,e)):∃i,P.underlying t=some (.array n e)/\P.info? e=some i/\i.size=tsz P e:=by
 unfold arrOf at h
 split at h
 ·rename_i n' e' hu
  cases hb:hasTy P e' with
  |false=>rw[hb] at h;cases h
  |true=>
   rw[hb] at h
   injection h with h
   injection h with h1 h2
   subst h1 h2
   obtain⟨i,hi,hs⟩:=hasTy_spec hb
   exact⟨i,hu,hi,hs.symm⟩
 ·cases h
def pMove (k:Nat)(x:SV):Option SV:=match x with
 | .d (.p cs)=>some (.d (.p (cs.drop k)))
 | .bx id off=>some (.bx id (off+k))
 | .op id z sz j=>some (.op id z sz (j+k))
 |_=>none
def pIndex (P:Program)(m:Mem)(t:TypeId)(x:SV)(y:SV):Option PRes:=match arrOf P t,y with
 |some (n,e),.d (.v (.int _ z))=>bif decide (0<=z)&&decide (z<(n:Int)) then match pMove (z.toNat * tsz P e) x with
  |some r=>ok r
  |none=>none
  else none
 |_,_=>pIndexS P m t x y
theorem run_arr {t e:TypeId}{n:Nat}(h:arrOf P t=some (n,e)){k:IntKind}{z:Int}(hz:0<=z/\z<(n:Int))(b o:Nat)(w:World):(Instr.indexAt t (.pointer (some ⟨b,o,none⟩)) (.int k z)).run P w= .ok (.pointer (some ⟨b,o+z.toNat * tsz P e,none⟩)) w:=by
 obtain⟨i,hu',hi,hs⟩:=arrOf_spec h
 have h1:¬z<0:=by omega
 have h2:¬(n:Int)<=z:=by omega
 simp[Instr.indexAt,asIntOf,run_underlying hu',Instr.sureAddr,sizeOf,typeInfo,hi,hs,addr_add]
 omega
theorem pIndex_run {m:Mem}{t:TypeId}{x y:SV}{R:PRes}(h:pIndex P m t x y=some R){c:Cx}{w:World}{u v:Value}(ox:OX m.ob m.U m.tp w c)(hx:SRel c w x u)(hxu:x.inU m.U)(hy:SRel c w y v)(hp:allC R.ps):
 ∃r,(Instr.indexAt t u v).run P w= .ok r w/\SRel c w R.r r/\R.r.inU m.U/\allL R.fs:=by
 unfold pIndex at h
 split at h
 ·rename_i n e kk z he
  cases hb:(decide (0<=z)&&decide (z<(n:Int))) with
  |false=>rw[hb] at h;cases h
  |true=>
   rw[hb] at h
   rw[Bool.and_eq_true,decide_eq_true_eq,decide_eq_true_eq] at hb
   have hv:=srel_v hy
   subst hv
   have h':(match pMove (z.toNat * tsz P e) x with|some r=>ok r|none=>none)=some R:=h
   clear h
   generalize hk:z.toNat * tsz P e=k at h'
   unfold pMove at h'
   split at h'
   ·rename_i r hr
    unfold ok at h'
    injection h' with h'
    subst h'
    split at hr
    ·injection hr with hr
     subst hr
     cases srel_d hx with
     |p cs b off g h1 h2=>
      refine⟨_,run_arr he hb b off w,.d _ _ ?_,trivial,trivial⟩
      rw[hk]
      refine Rd.p _ b (off+k) (λj=>g (k+j)) (λj hj=> ?_) (λj c hc=> ?_)
      ·rw[List.length_drop] at hj
       have:=h1 (k+j) (by omega)
       rw[show off+k+j=off+(k+j) by omega]
       exact this
      ·rw[List.getElem?_drop] at hc
       exact h2 _ _ hc
    ·rename_i id off
     injection hr with hr
     subst hr
     obtain⟨b,hb',rfl⟩:=srel_bx hx
     refine⟨_,run_arr he hb b off w,?_,hxu,trivial⟩
     rw[hk]
     exact .bx id (off+k) b hb'
    ·rename_i id z' sz j
     injection hr with hr
     subst hr
     obtain⟨g,n',cap,hH,rfl,hz⟩:=srel_op hx
     refine⟨_,run_arr he hb g _ w,?_,hxu,trivial⟩
     rw[hk]
     have:=SRel.op (c:=c) (w:=w) id z' sz (j+k) g n' cap hH hz
     rwa [<-Nat.add_assoc] at this
    ·cases hr
   ·cases h'
 ·exact pIndexS_run h ox hx hxu hy hp
def cmpFields (P:Program)(g:TypeId->Option (List Bool)):List Field->Nat->Option (List Bool)
 |[],_=>some []
 |f::fs,off=>bif (f.name != "_")&&Nat.beq f.offset off then
  match g f.type,P.info? f.type with
  |some ks,some i=>bif Nat.beq i.size ks.length then (cmpFields P g fs (off+ks.length)).map (ks++·) else none
  |_,_=>none
  else none
def cmpTy (P:Program):Nat->TypeId->Option (List Bool)
 |0,_=>none
 |d+1,t=>match P.underlying t with
  |some (.int _)=>some [false]
  |some .bool=>some [true]
  |some (.struct fs)=>bif P.stoodInHeld t then none else cmpFields P (cmpTy P d) fs.toList 0
  |_=>none
def eqS:List Bool->List D->List D->Option Bool
 |[],[],[]=>some true
 |false::ks,.v (.int k a)::xs,.v (.int k' b)::ys=>if k=k' then (eqS ks xs ys).map (decide (a=b)&&·) else none
 |true::ks,.v (.bool a)::xs,.v (.bool b)::ys=>(eqS ks xs ys).map ((a==b)&&·)
 |_,_,_=>none
def valOf:D->Value
 | .v x=>x
 |_=>undef
theorem eqS_length:∀{ks:List Bool}{xs ys:List D}{r:Bool},eqS ks xs ys=some r->xs.length=ks.length/\ys.length=ks.length
 |[],[],[],r,_=>⟨rfl,rfl⟩
 |[],[],_::_,r,h=>by simp[eqS] at h
 |[],_::_,_,r,h=>by simp[eqS] at h
 |false::ks,[],_,r,h=>by simp[eqS] at h
 |true::ks,[],_,r,h=>by simp[eqS] at h
 |k::ks,x::xs,[],r,h=>by
  cases k<;>cases x<;>first|(simp[eqS] at h;done)|(rename_i v;cases v<;>simp[eqS] at h)
 |k::ks,x::xs,y::ys,r,h=>by
  cases k<;>cases x<;>cases y<;>first|(simp[eqS] at h;done)|(rename_i v v';cases v<;>cases v'<;>first|(simp[eqS] at h;done)|skip)
  ·unfold eqS at h
   split at h
   ·cases hr:eqS ks xs ys with
    |none=>rw[hr] at h;cases h
    |some r'=>obtain⟨h1,h2⟩:=eqS_length hr;simp[h1,h2]
   ·cases h
  ·unfold eqS at h
   cases hr:eqS ks xs ys with
   |none=>rw[hr] at h;cases h
   |some r'=>obtain⟨h1,h2⟩:=eqS_length hr;simp[h1,h2]
theorem eqS_append:∀{ks1 ks2:List Bool}{xs ys:List D}{r:Bool},eqS (ks1++ks2) xs ys=some r->∃r1 r2,eqS ks1 (xs.take ks1.length) (ys.take ks1.length)=some r1/\eqS ks2 (xs.drop ks1.length) (ys.drop ks1.length)=some r2/\r=(r1&&r2)
 |[],ks2,xs,ys,r,h=>⟨true,r,by simp[eqS],by simpa using h,by simp⟩
 |k::ks1,ks2,[],ys,r,h=>by cases k<;>simp[eqS] at h
 |k::ks1,ks2,x::xs,[],r,h=>by
  have:=(eqS_length h).2;simp at this
 |k::ks1,ks2,x::xs,y::ys,r,h=>by
  cases k<;>cases x<;>cases y<;>first|(simp[eqS] at h;done)|(rename_i v v';cases v<;>cases v'<;>first|(simp[eqS] at h;done)|skip)
  ·rename_i k1 a k2 b
   simp only[List.cons_append] at h
   unfold eqS at h
   split at h
   ·rename_i he
    cases hr:eqS (ks1++ks2) xs ys with
    |none=>rw[hr] at h;cases h
    |some r'=>
     rw[hr] at h
     simp only[Option.map_some,Option.some.injEq] at h
     obtain⟨r1,r2,h1,h2,h3⟩:=eqS_append hr
     refine⟨decide (a=b)&&r1,r2,?_,by simpa using h2,?_⟩
     ·simp only[List.length_cons,List.take_succ_cons]
      unfold eqS
      rw[if_pos he,h1];rfl
     ·rw[<-h,h3,Bool.and_assoc]
   ·cases h
  ·rename_i a b
   simp only[List.cons_append] at h
   unfold eqS at h
   cases hr:eqS (ks1++ks2) xs ys with
   |none=>rw[hr] at h;cases h
   |some r'=>
    rw[hr] at h
    simp only[Option.map_some,Option.some.injEq] at h
    obtain⟨r1,r2,h1,h2,h3⟩:=eqS_append hr
    refine⟨(a==b)&&r1,r2,?_,by simpa using h2,?_⟩
    ·simp only[List.length_cons,List.take_succ_cons]
     unfold eqS
     rw[h1];rfl
    ·rw[<-h,h3,Bool.and_assoc]
theorem run_part_at {d:Nat}{t:TypeId}{ks:List Bool}(h:cmpTy P d t=some ks){i:TypeInfo}(hi:P.info? t=some i)(hs:i.size=ks.length)(w:World)(us:List Value)(off:Nat)(hl:off+ks.length<=us.length):
 (part t us.toArray off).run P w= .ok (match P.underlying t with|some (.struct _)=> .agg ((us.drop off).take ks.length).toArray|_=>us.getD off undef) w:=by
 cases d with
 |zero=>simp[cmpTy] at h
 |succ d=>
  unfold cmpTy at h
  split at h
  ·rename_i k hu
   injection h with h
   subst h
   simp at hl
   have hl:off<us.length:=by omega
   simp[part,isAgg,run_underlying hu,hu,hl]
  ·rename_i hu
   injection h with h
   subst h
   simp at hl
   have hl:off<us.length:=by omega
   simp[part,isAgg,run_underlying hu,hu,hl]
  ·rename_i fs hu
   simp[part,isAgg,run_underlying hu,hu,sizeOf,typeInfo,hi,hs]
  ·cases h
theorem eqS_int {x y:D}{r:Bool}(h:eqS [false] [x] [y]=some r):∃k a b,x= .v (.int k a)/\y= .v (.int k b)/\r=decide (a=b):=by
 cases x with
 |v u=>
  cases y with
  |v v=>
   cases u with
   |int k a=>
    cases v with
    |int k' b=>
     simp only[eqS] at h
     split at h
     ·rename_i he
      subst he
      simp at h
      exact⟨k,a,b,rfl,rfl,h.symm⟩
     ·cases h
    |_=>simp[eqS] at h
   |_=>simp[eqS] at h
  |_=>cases u<;>simp[eqS] at h
 |_=>simp[eqS] at h
theorem eqS_bool {x y:D}{r:Bool}(h:eqS [true] [x] [y]=some r):∃a b,x= .v (.bool a)/\y= .v (.bool b)/\r=(a==b):=by
 cases x with
 |v u=>
  cases y with
  |v v=>
   cases u with
   |bool a=>
    cases v with
    |bool b=>
     simp[eqS] at h
     exact⟨a,b,rfl,rfl,h.symm⟩
    |_=>simp[eqS] at h
   |_=>simp[eqS] at h
  |_=>cases u<;>simp[eqS] at h
 |_=>simp[eqS] at h
theorem eq_run:∀(d:Nat)(t:TypeId)(ks:List Bool),cmpTy P d t=some ks->∀(w:World)(xs ys:List D)(r:Bool),eqS ks xs ys=some r->
 (Op.equalIn d t (match P.underlying t with|some (.struct _)=> .agg (xs.map valOf).toArray|_=>(xs.map valOf).getD 0 undef) (match P.underlying t with|some (.struct _)=> .agg (ys.map valOf).toArray|_=>(ys.map valOf).getD 0 undef)).run P w= .ok r w
 |0,t,ks,h,_,_,_,_,_=>by simp[cmpTy] at h
 |d+1,t,ks,h,w,xs,ys,r,hr=>by
  obtain⟨hlx,hly⟩:=eqS_length hr
  unfold cmpTy at h
  split at h
  ·rename_i k hu
   injection h with h
   subst h
   obtain⟨x,rfl⟩:=List.length_eq_one_iff.1 (show xs.length=1 from hlx)
   obtain⟨y,rfl⟩:=List.length_eq_one_iff.1 (show ys.length=1 from hly)
   obtain⟨k1,a,b,rfl,rfl,rfl⟩:=eqS_int hr
   simp[hu,valOf,run_equalIn_int (P:=P) w d t k1 k a b hu]
   rw[Bool.eq_iff_iff];simp
  ·rename_i hu
   injection h with h
   subst h
   obtain⟨x,rfl⟩:=List.length_eq_one_iff.1 (show xs.length=1 from hlx)
   obtain⟨y,rfl⟩:=List.length_eq_one_iff.1 (show ys.length=1 from hly)
   obtain⟨a,b,rfl,rfl,rfl⟩:=eqS_bool hr
   simp[hu,valOf,Op.equalIn,run_underlying hu]
  ·rename_i fs hu
   cases hst:P.stoodInHeld t with
   |true=>simp only[hst,cond_true] at h;cases h
   |false=>
    simp only[hst,cond_false] at h
    have hfo:P.fieldsOf t=fs:=by unfold Program.fieldsOf;rw[hu]
    simp only[hu]
    rw[run_equalIn_struct w d t _ _ (by rw[hfo];exact hu) hst,hfo]
    have key:∀(fs:List Field)(off:Nat)(ks:List Bool),cmpFields P (cmpTy P d) fs off=some ks->off+ks.length<=xs.length->off+ks.length<=ys.length->∀r,eqS ks ((xs.drop off).take ks.length) ((ys.drop off).take ks.length)=some r->
     (Op.eqFields d (xs.map valOf).toArray (ys.map valOf).toArray fs).run P w= .ok r w:=by
     intro fs
     induction fs with
     |nil=>
      intro off ks hc _ _ r hr
      simp[cmpFields] at hc
      subst hc
      simp[eqS] at hr
      subst hr
      simp[Op.eqFields]
     |cons f fs ih=>
      intro off ks hc hx hy r hr
      unfold cmpFields at hc
      cases hb:(f.name != "_" &&Nat.beq f.offset off) with
      |false=>simp only[hb,cond_false] at hc;cases hc
      |true=>
       simp only[hb,cond_true] at hc
       simp only[Bool.and_eq_true,bne_iff_ne,ne_eq] at hb
       obtain⟨hb1,hb2⟩:=hb
       have hb2:=beq_eq hb2
       split at hc
       ·rename_i ks1 i hk1 hi
        cases hb3:Nat.beq i.size ks1.length with
        |false=>simp only[hb3,cond_false] at hc;cases hc
        |true=>
         simp only[hb3,cond_true] at hc
         have hb3:=beq_eq hb3
         cases hk2:cmpFields P (cmpTy P d) fs (off+ks1.length) with
         |none=>rw[hk2] at hc;cases hc
         |some ks2=>
          rw[hk2] at hc
          simp only[Option.map_some,Option.some.injEq] at hc
          subst hc
          rw[List.length_append] at hx hy hr
          obtain⟨r1,r2,h1,h2,rfl⟩:=eqS_append hr
          have e1:∀(l:List D),((l.drop off).take (ks1.length+ks2.length)).take ks1.length=(l.drop off).take ks1.length:=λl=>by rw[List.take_take];congr 1;omega
          have e2:∀(l:List D),((l.drop off).take (ks1.length+ks2.length)).drop ks1.length=(l.drop (off+ks1.length)).take ks2.length:=λl=>by rw[List.drop_take,List.drop_drop];congr 1;omega
          rw[e1,e1] at h1
          rw[e2,e2] at h2
          have ih':=ih (off+ks1.length) ks2 hk2 (by omega) (by omega) r2 h2
          have p1:=run_part_at hk1 hi hb3 w (xs.map valOf) off (by rw[List.length_map];omega)
          have p2:=run_part_at hk1 hi hb3 w (ys.map valOf) off (by rw[List.length_map];omega)
          have q:=eq_run d f.type ks1 hk1 w _ _ r1 h1
          have m1:∀(l:List D),off+ks1.length<=l.length->(match P.underlying f.type with|some (.struct _)=>Value.agg (((l.map valOf).drop off).take ks1.length).toArray|_=>(l.map valOf).getD off undef)=(match P.underlying f.type with|some (.struct _)=> .agg (((l.drop off).take ks1.length).map valOf).toArray|_=>(((l.drop off).take ks1.length).map valOf).getD 0 undef):=by
           intro l hl
           have hk1':=hk1
           cases d with
           |zero=>simp[cmpTy] at hk1'
           |succ d=>
            unfold cmpTy at hk1'
            split at hk1'
            ·rename_i k hu1
             injection hk1' with hk1'
             subst hk1'
             simp only[hu1]
             have hl:off<l.length:=by simp at hl;omega
             simp[hl,List.getD_eq_getElem?_getD]
            ·rename_i hu1
             injection hk1' with hk1'
             subst hk1'
             simp only[hu1]
             have hl:off<l.length:=by simp at hl;omega
             simp[hl,List.getD_eq_getElem?_getD]
            ·rename_i fs1 hu1
             simp only[hu1]
             rw[List.map_take,List.map_drop]
            ·cases hk1'
          rw[m1 xs (by omega)] at p1
          rw[m1 ys (by omega)] at p2
          unfold Op.eqFields
          rw[if_pos hb1]
          simp only[Sem.run_bind,hb2,p1,p2,Result.andThen_ok,q]
          cases r1 with
          |false=>simp
          |true=>simp[ih']
       ·cases hc
    exact key fs.toList 0 ks h (by omega) (by omega) r (by simpa [hlx,hly,List.take_of_length_le] using hr)
  ·cases h
theorem flat_vals {S:Cells}{w:World}{xs:List D}{us:List Value}{ks:List Bool}{ys:List D}{r:Bool}(hl:us.length=xs.length)(h:∀(i:Nat)(c:D)(u:Value),xs[i]? =some c->us[i]? =some u->Rd S w c u)(hv:∀x∈xs,∃v,x= .v v):us=xs.map valOf:=by
 apply List.ext_getElem?
 intro i
 by_cases hi:i<xs.length
 ·have hi':i<us.length:=by omega
  have h1:=h i xs[i] us[i] (List.getElem?_eq_getElem hi) (List.getElem?_eq_getElem hi')
  obtain⟨v,hv'⟩:=hv xs[i] (List.getElem_mem hi)
  rw[List.getElem?_map,List.getElem?_eq_getElem hi,List.getElem?_eq_getElem hi']
  rw[hv'] at h1 ⊢
  cases h1;rfl
 ·rw[List.getElem?_eq_none (by omega),List.getElem?_eq_none (by simp;omega)]
theorem eqS_vals:∀{ks:List Bool}{xs ys:List D}{r:Bool},eqS ks xs ys=some r->(∀x∈xs,∃v,x= .v v)/\∀y∈ys,∃v,y= .v v
 |[],[],[],r,_=>⟨λx h=>by simp at h,λx h=>by simp at h⟩
 |[],[],_::_,r,h=>by simp[eqS] at h
 |[],_::_,_,r,h=>by simp[eqS] at h
 |k::ks,[],_,r,h=>by cases k<;>simp[eqS] at h
 |k::ks,x::xs,[],r,h=>by have:=(eqS_length h).2;simp at this
 |k::ks,x::xs,y::ys,r,h=>by
  cases k<;>cases x<;>cases y<;>first|(simp[eqS] at h;done)|(rename_i v v';cases v<;>cases v'<;>first|(simp[eqS] at h;done)|skip)
  ·unfold eqS at h
   split at h
   ·cases hr:eqS ks xs ys with
    |none=>rw[hr] at h;cases h
    |some r'=>
     obtain⟨h1,h2⟩:=eqS_vals hr
     exact⟨λx hx=>(List.mem_cons.1 hx).elim (λe=>⟨_,e⟩) (h1 x),λx hx=>(List.mem_cons.1 hx).elim (λe=>⟨_,e⟩) (h2 x)⟩
   ·cases h
  ·unfold eqS at h
   cases hr:eqS ks xs ys with
   |none=>rw[hr] at h;cases h
   |some r'=>
    obtain⟨h1,h2⟩:=eqS_vals hr
    exact⟨λx hx=>(List.mem_cons.1 hx).elim (λe=>⟨_,e⟩) (h1 x),λx hx=>(List.mem_cons.1 hx).elim (λe=>⟨_,e⟩) (h2 x)⟩
def boolTy (P:Program)(t:TypeId):Bool:=cmpTy P 10000 t==some [true]&&(match P.underlying t with
 |some .bool=>true
 |_=>false)
theorem eqB_run {t:TypeId}(ht:boolTy P t=true)(a b:Bool)(w:World):(Op.equal t (.bool a) (.bool b)).run P w= .ok (a==b) w:=by
 unfold boolTy at ht
 simp only[Bool.and_eq_true] at ht
 obtain⟨h1,h2⟩:=ht
 have h1:cmpTy P 10000 t=some [true]:=by simpa using h1
 have hq:=eq_run 10000 t [true] h1 w [.v (.bool a)] [.v (.bool b)] (a==b) (by simp[eqS])
 split at h2
 ·rename_i hu
  rw[hu] at hq
  exact hq
 ·cases h2
def stTy (P:Program)(t:TypeId):Bool:= !(P.eqGuardType P.depth t)&&(match P.underlying t with|some (.struct _)=>true|_=>false)
def arTy (P:Program)(t:TypeId):Bool:= !(P.eqGuardType P.depth t)&&(match P.underlying t with
 |some (.array n e)=>Nat.beq n 2&&(match P.underlying e,P.info? e with
  |some (.int _),some i=>Nat.beq i.size 1
  |_,_=>false)
 |_=>false)
theorem arr_run {t:TypeId}(ht:arTy P t=true){xs ys:List D}{r:Bool}(h:eqS [false,false] xs ys=some r)(w:World):(Op.equal t (.agg (xs.map valOf).toArray) (.agg (ys.map valOf).toArray)).run P w= .ok r w:=by
 unfold arTy at ht
 simp only[Bool.and_eq_true] at ht
 obtain⟨_,ht⟩:=ht
 split at ht
 ·rename_i n e hu
  simp only[Bool.and_eq_true] at ht
  obtain⟨hn,ht⟩:=ht
  have hn:=beq_eq hn
  subst hn
  split at ht
  ·rename_i k i he hi
   have hs:=beq_eq ht
   obtain⟨h1,h2⟩:=eqS_length h
   have h':eqS ([false]++[false]) xs ys=some r:=h
   obtain⟨r1,r2,q1,q2,rfl⟩:=eqS_append h'
   match xs,ys,h1,h2 with
   |[x0,x1],[y0,y1],_,_=>
    obtain⟨k1,a,b,rfl,rfl,rfl⟩:=eqS_int (show eqS [false] [x0] [y0]=some r1 from q1)
    obtain⟨k2,c,d,rfl,rfl,rfl⟩:=eqS_int (show eqS [false] [x1] [y1]=some r2 from q2)
    have p1:∀(u v:Value)w,(part e #[u,v] 0).run P w= .ok u w:=λu v w=>by simp[part,isAgg,run_underlying he]
    have p2:∀(u v:Value)w,(part e #[u,v] 1).run P w= .ok v w:=λu v w=>by simp[part,isAgg,run_underlying he]
    have z:∀w,(sizeOf e).run P w= .ok 1 w:=λw=>by simp[sizeOf,typeInfo,hi,hs]
    have g:∀(k:IntKind)(a b:Int)(w:World),(Op.equalIn 9999 e (.int k a) (.int k b)).run P w= .ok (a==b) w:=λk a b w=>run_equalIn_int (P:=P) w 9998 e k _ a b he
    unfold Op.equal
    rw[show Op.maxDepth=9999+1 from rfl,Op.equalIn]
    simp only[Sem.run_bind,run_underlying hu,Result.andThen_ok,List.map_cons,List.map_nil,valOf]
    simp only[Std.Legacy.Range.forIn_eq_forIn_range',Std.Legacy.Range.size,Nat.sub_zero,Nat.add_sub_cancel,Nat.div_one,List.range'_succ,List.range'_zero,List.forIn_cons,List.forIn_nil]
    simp only[Sem.run_bind,z,Result.andThen_ok,Nat.zero_mul,Nat.zero_add,Nat.one_mul,p1,g]
    by_cases h1:a=b<;>by_cases h2:c=d<;>simp[h1,h2,p2,g,Sem.run_bind]
  ·cases ht
 ·cases ht
def pEq (P:Program)(t:TypeId):SV->SV->Option Bool
 | .d (.v (.bool a)),.d (.v (.bool b))=>bif boolTy P t then some (a==b) else none
 | .d (.agg xs),.d (.agg ys)=>bif stTy P t then match cmpTy P 10000 t with
  |some ks=>eqS ks xs ys
  |none=>none
  else bif arTy P t then eqS [false,false] xs ys else none
 |_,_=>none
theorem pEq_run {t:TypeId}{x y:SV}{r:Bool}(h:pEq P t x y=some r){c:Cx}{w:World}{u v:Value}(hx:SRel c w x u)(hy:SRel c w y v)(p q:Operand)(op:BinOp)(hop:op= .eql\/op= .neq):
 (do eqGuard op t p q u v;binOp op t u v:Sem Value).run P w= .ok (.bool (if op= .eql then r else !r)) w:=by
 unfold pEq at h
 split at h
 ·rename_i a b
  cases srel_v hx
  cases srel_v hy
  cases hb:boolTy P t with
  |false=>rw[hb] at h;cases h
  |true=>
   rw[hb] at h
   injection h with h
   subst h
   have:=eqB_run (P:=P) hb a b w
   unfold eqGuard
   rcases hop with rfl|rfl<;>split<;>simp[binOp,this]
 ·rename_i xs ys
  cases hb:stTy P t with
  |false=>
   rw[hb] at h
   simp only[cond_false] at h
   cases ha:arTy P t with
   |false=>rw[ha] at h;cases h
   |true=>
    rw[ha] at h
    simp only[cond_true] at h
    obtain⟨v1,v2⟩:=eqS_vals h
    cases srel_d hx with
    |agg _ us hl _ hu=>
     cases srel_d hy with
     |agg _ vs hl' _ hv=>
      have e1:us=xs.map valOf:=flat_vals (ks:=[false,false]) (ys:=ys) (r:=r) hl hu v1
      have e2:vs=ys.map valOf:=flat_vals (ks:=[false,false]) (ys:=xs) (r:=r) hl' hv v2
      subst e1 e2
      have hq':=arr_run (P:=P) ha h w
      have h2:P.eqGuardType P.depth t=false:=by
       unfold arTy at ha
       simp only[Bool.and_eq_true,Bool.not_eq_true'] at ha
       exact ha.1
      rcases hop with rfl|rfl
      ·simp[eqGuard,h2,binOp,hq']
      ·simp[eqGuard,h2,binOp,hq']
  |true=>
   rw[hb] at h
   simp only[cond_true] at h
   split at h
   ·rename_i ks hks
    unfold stTy at hb
    simp only[Bool.and_eq_true,Bool.not_eq_true'] at hb
    obtain⟨h2,h3⟩:=hb
    obtain⟨v1,v2⟩:=eqS_vals h
    cases srel_d hx with
    |agg _ us hl _ hu=>
     cases srel_d hy with
     |agg _ vs hl' _ hv=>
      have e1:us=xs.map valOf:=flat_vals (ks:=ks) (ys:=ys) (r:=r) hl hu v1
      have e2:vs=ys.map valOf:=flat_vals (ks:=ks) (ys:=xs) (r:=r) hl' hv v2
      subst e1 e2
      have hq:=eq_run 10000 t ks hks w xs ys r h
      cases hu:P.underlying t with
      |none=>rw[hu] at h3;cases h3
      |some d=>
       cases d<;>simp only[hu] at h3 hq<;>first|(cases h3;done)|skip
       have hq':(Op.equal t (.agg (xs.map valOf).toArray) (.agg (ys.map valOf).toArray)).run P w= .ok r w:=hq
       rcases hop with rfl|rfl
       ·simp[eqGuard,h2,binOp,hq']
       ·simp[eqGuard,h2,binOp,hq']
   ·cases h
 ·cases h
def gx (want b:Bool):Bool:=bif want then b else !b
def CnOK (ρ:Operand->SV):Prop:=∀x q w g y b,ρ x= .cnd q w g y->ρ (.tmp q)= .d (.v (.bool b))->g=gx w b
def strip (q:Nat)(want:Bool):SV->Option SV
 | .cnd q' w _ x=>bif Nat.beq q' q&&(w==want) then some x else none
 |s=>some s
theorem strip_rel {ρ:Operand->SV}(hcn:CnOK ρ){q:Nat}{t want:Bool}(hq:ρ (.tmp q)= .d (.v (.bool t))){x:Operand}{s:SV}(h:strip q want (ρ x)=some s)(ht:gx want t=true){c:Cx}{w:World}{u:Value}(hr:SRel c w (ρ x) u){U:Nat->Prop}(hU:(ρ x).inU U):SRel c w s u/\s.inU U:=by
 have k:=λq w g y b=>hcn x q w g y b
 generalize ρ x=sx at h hr hU k
 unfold strip at h
 split at h
 ·rename_i q' w' g y
  cases hb:(Nat.beq q' q&&(w'==want)) with
  |false=>rw[hb] at h;cases h
  |true=>
   rw[hb] at h
   injection h with h
   subst h
   obtain⟨h1,h2⟩:=Bool.and_eq_true_iff.1 hb
   have h1:=beq_eq h1
   have h2:w'=want:=by simpa using h2
   subst h1 h2
   have:=k q' w' g y t rfl hq
   exact⟨(srel_cnd hr).1 (this.trans ht),hU⟩
 ·injection h with h;subst h;exact⟨hr,hU⟩
def isC (b:Bool):Operand->Bool
 | .const (.bool b')=>b'==b
 |_=>false
def pick2 (t:Bool)(oa ob:Operand):SV->SV->Option SV
 | .d (.v (.bool x)),.d (.v (.bool y))=>some (bB (bif isC false ob then t&&x else bif isC true oa then t||y else bif t then x else y))
 | .d (.v (.int k x)),.d (.v (.int k' y))=>bif decide (k=k') then some (bI k (if t=true then x else y)) else none
 |_,_=>none
def pPick (ρ:Operand->SV):Operand->Operand->Operand->Option SV
 | .tmp q,x,y=>match ρ (.tmp q) with
  | .d (.v (.bool t))=>match strip q true (ρ x),strip q false (ρ y) with
   |some a,some b=>pick2 t x y a b
   |_,_=>none
  |_=>none
 |_,_,_=>none
theorem pick2_rel {t:Bool}{oa ob:Operand}{x y r:SV}(h:pick2 t oa ob x y=some r){c:Cx}{w:World}{u v:Value}(hx:t=true->SRel c w x u)(hy:t=false->SRel c w y v)(ha:isC true oa=true->u= .bool true)(hb:isC false ob=true->v= .bool false):SRel c w r (if t then u else v):=by
 unfold pick2 at h
 split at h
 ·rename_i a b
  injection h with h
  subst h
  have e1:t=true->u= .bool a:=λht=>srel_v (hx ht)
  have e2:t=false->v= .bool b:=λht=>srel_v (hy ht)
  have:(if t then u else v)= .bool (bif isC false ob then t&&a else bif isC true oa then t||b else bif t then a else b):=by
   cases h1:isC false ob with
   |true=>
    have:=hb h1
    cases t with
    |true=>simp[e1 rfl]
    |false=>simp[this]
   |false=>
    cases h2:isC true oa with
    |true=>
     have:=ha h2
     cases t with
     |true=>simp[this]
     |false=>simp[e2 rfl]
    |false=>
     cases t with
     |true=>simp[e1 rfl]
     |false=>simp[e2 rfl]
  rw[this];exact v_srel _
 ·rename_i k a k' b
  cases hk:decide (k=k') with
  |false=>rw[hk] at h;cases h
  |true=>
   rw[hk] at h
   have hk:=of_decide_eq_true hk
   subst hk
   injection h with h
   subst h
   cases t with
   |true=>have:=srel_v (hx rfl);subst this;exact v_srel _
   |false=>have:=srel_v (hy rfl);subst this;exact v_srel _
 ·cases h
theorem isC_eval {b:Bool}{o:Operand}(h:isC b o=true)(a:Act):a.eval o= .bool b:=by
 unfold isC at h
 split at h
 ·rename_i b'
  have:b'=b:=by simpa using h
  subst this;rfl
 ·cases h
def pUn (op:UnOp):SV->Option SV
 | .d (.v (.bool b))=>match op with
  | .not=>some (bB (!b))
  |_=>none
 | .d (.v (.int .i64 z))=>match op with
  | .neg=>some (bI .i64 (w64 (-z)))
  |_=>none
 |_=>none
theorem pUn_run {op:UnOp}{x r:SV}(h:pUn op x=some r){c:Cx}{w:World}{u:Value}(hx:SRel c w x u):∃v,(Op.unary op u).run P w= .ok v w/\r= .d (.v v):=by
 unfold pUn at h
 split at h
 ·rename_i b
  cases srel_v hx
  split at h
  ·injection h with h;exact⟨.bool (!b),by simp[Op.unary],h.symm⟩
  ·cases h
 ·rename_i z
  cases srel_v hx
  split at h
  ·injection h with h;exact⟨.int .i64 (w64 (-z)),by simp[Op.unary,Op.intArith,w64],h.symm⟩
  ·cases h
 ·cases h
def intTy (P:Program)(t:TypeId):Option IntKind:=match P.underlying t with
 |some (.int k)=>some k
 |_=>none
def pConv (P:Program)(s d:TypeId):SV->Option SV
 | .d (.v (.int _ z))=>bif (P.underlying s).isSome then match intTy P d with
  |some k=>some (bI k (wr k z))
  |none=>none
  else none
 |_=>none
theorem pConv_run {s d:TypeId}{x r:SV}(h:pConv P s d x=some r){c:Cx}{w:World}{u:Value}(hx:SRel c w x u):∃v,(convert s d u).run P w= .ok v w/\r= .d (.v v):=by
 unfold pConv at h
 split at h
 ·rename_i k0 z
  cases srel_v hx
  cases hs:(P.underlying s).isSome with
  |false=>rw[hs] at h;cases h
  |true=>
   rw[hs] at h
   simp only[cond_true] at h
   split at h
   ·rename_i k hk
    injection h with h
    have hd:P.underlying d=some (.int k):=by
     unfold intTy at hk
     split at hk
     ·rename_i k0 hu;rw[hu];injection hk with hk;rw[hk]
     ·cases hk
    obtain⟨ds,hds⟩:=Option.isSome_iff_exists.1 hs
    refine⟨.int k (k.wrap z),?_,by rw[<-h,bI,wr_eq]⟩
    simp[convert,run_underlying hd,run_underlying hds,Conv.intToInt]
   ·cases h
 ·cases h
def pExtract (i:Nat):SV->Option SV
 | .d (.tup cs)=>match cs[i]? with
  |some d=>some (.d d)
  |none=>none
 | .tup cs=>cs[i]?
 |_=>none
theorem pExtract_run {i:Nat}{x r:SV}(h:pExtract i x=some r){c:Cx}{w:World}{u:Value}{U:Nat->Prop}(hx:SRel c w x u)(hu:x.inU U):∃v,(Instr.extract u i).run P w= .ok v w/\SRel c w r v/\r.inU U:=by
 unfold pExtract at h
 split at h
 ·rename_i cs
  split at h
  ·rename_i d hd
   injection h with h
   subst h
   cases srel_d hx with
   |tup _ us hl h1=>
    have hi:i<us.length:=by rw[hl];exact (List.getElem?_eq_some_iff.1 hd).1
    exact⟨us[i],by simp[Instr.extract,hi],.d _ _ (h1 i d _ hd (List.getElem?_eq_getElem hi)),trivial⟩
  ·cases h
 ·rename_i cs
  cases hx with
  |tup _ us hl h1=>
   have hi:i<us.length:=by rw[hl];exact (List.getElem?_eq_some_iff.1 h).1
   exact⟨us[i],by simp[Instr.extract,hi],h1 i r _ h (List.getElem?_eq_getElem hi),inUL_get hu h⟩
 ·cases h
def fldTy (P:Program)(s f:Nat):Option (Nat×TypeId):=match P.underlying s with
 |some (.struct fs)=>match fs[f]? with
  |some fd=>some (fd.offset,fd.type)
  |none=>none
 |_=>none
def aggOf:SV->Option (List SV)
 | .d (.agg cs)=>some (cs.map SV.d)
 | .agg cs=>some cs
 |_=>none
theorem aggOf_rel {x:SV}{ks:List SV}(h:aggOf x=some ks){c:Cx}{w:World}{u:Value}{U:Nat->Prop}(hx:SRel c w x u)(hu:x.inU U):∃us:List Value,u= .agg us.toArray/\us.length=ks.length/\(∀u∈us,u.oneCell'=true)/\(∀(i:Nat)(s:SV)(u:Value),ks[i]? =some s->us[i]? =some u->SRel c w s u)/\inUL U ks:=by
 unfold aggOf at h
 split at h
 ·injection h with h
  subst h
  cases srel_d hx with
  |agg cs us hl h1 h2=>
   refine⟨us,rfl,by simp[hl],h1,λi s u hs hu=> ?_,inUL_map _ _⟩
   rw[List.getElem?_map,Option.map_eq_some_iff] at hs
   obtain⟨x,hx,rfl⟩:=hs
   exact .d _ _ (h2 i x u hx hu)
 ·injection h with h
  subst h
  obtain⟨us,h1,h2,h3,h4⟩:=srel_agg hx
  exact⟨us,h1,h2,h3,h4,hu⟩
 ·cases h
theorem run_part1 {t:TypeId}(ht:oneTy P t=true){cs:Array Value}{k:Nat}{u:Value}(h:cs[k]? =some u)(w:World):(part t cs k).run P w= .ok u w:=by
 unfold oneTy at ht
 cases hu:P.underlying t with
 |none=>rw[hu] at ht;cases ht
 |some d=>
  rw[hu] at ht
  cases d<;>simp_all[part,isAgg,run_underlying hu]
theorem run_partN {t:TypeId}(h1:rowTy P t=true)(h2:hasTy P t=true)(cs:Array Value)(k:Nat)(w:World):(part t cs k).run P w= .ok (.agg (cs.extract k (k+tsz P t))) w:=by
 obtain⟨i,hi,hs⟩:=hasTy_spec h2
 have hsz:(sizeOf t).run P w= .ok (tsz P t) w:=by simp[sizeOf,typeInfo,hi,hs]
 unfold rowTy at h1
 split at h1
 ·rename_i fs hu;simp_all[part,isAgg,run_underlying hu]
 ·rename_i n e hu;simp_all[part,isAgg,run_underlying hu]
 ·cases h1
def pPart (P:Program)(t:TypeId)(k:Nat)(ks:List SV):Option SV:=
 bif oneTy P t then ks[k]? else bif rowTy P t&&hasTy P t&&Nat.ble (k+tsz P t) ks.length then some (mkAgg ((ks.drop k).take (tsz P t))) else none
theorem pPart_run {t:TypeId}{k:Nat}{ks:List SV}{r:SV}(h:pPart P t k ks=some r){c:Cx}{w:World}{us:List Value}{U:Nat->Prop}(hl:us.length=ks.length)(h1:∀u∈us,u.oneCell'=true)(h2:∀(i:Nat)(s:SV)(u:Value),ks[i]? =some s->us[i]? =some u->SRel c w s u)(hU:inUL U ks):∃v,(part t us.toArray k).run P w= .ok v w/\SRel c w r v/\r.inU U:=by
 unfold pPart at h
 cases ho:oneTy P t with
 |true=>
  rw[ho] at h
  simp only[cond_true] at h
  have hlt:k<us.length:=by rw[hl];exact (List.getElem?_eq_some_iff.1 h).1
  exact⟨us[k],run_part1 ho (by simp[hlt]) w,h2 k r _ h (List.getElem?_eq_getElem hlt),inUL_get hU h⟩
 |false=>
  rw[ho] at h
  simp only[cond_false] at h
  cases hb:(rowTy P t&&hasTy P t&&Nat.ble (k+tsz P t) ks.length) with
  |false=>rw[hb] at h;cases h
  |true=>
   rw[hb] at h
   simp only[cond_true,Option.some.injEq] at h
   simp only[Bool.and_eq_true] at hb
   obtain⟨⟨k1,k2⟩,k3⟩:=hb
   have k3:=Nat.le_of_ble_eq_true k3
   subst h
   refine⟨_,run_partN k1 k2 us.toArray k w,?_,mkAgg_inU (inUL_drop hU k _)⟩
   have e:us.toArray.extract k (k+tsz P t)=((us.drop k).take (tsz P t)).toArray:=by
    apply Array.ext'
    simp[List.extract_eq_take_drop]
   rw[e]
   refine srel_mkAgg (by simp[hl]) (λv hv=>h1 v (List.mem_of_mem_drop (List.mem_of_mem_take hv))) (λi s v hs hv=> ?_)
   rw[List.getElem?_take] at hs hv
   split at hs
   ·rename_i hi
    rw[if_pos hi] at hv
    rw[List.getElem?_drop] at hs hv
    exact h2 _ s v hs hv
   ·cases hs
def pFld (P:Program)(s f:Nat)(x:SV):Option SV:=match fldTy P s f,aggOf x with
 |some (k,t),some ks=>pPart P t k ks
 |_,_=>none
theorem pFld_run {s f:Nat}{x r:SV}(h:pFld P s f x=some r){c:Cx}{w:World}{u:Value}{U:Nat->Prop}(hx:SRel c w x u)(hu:x.inU U):∃v,(Instr.field s u f).run P w= .ok v w/\SRel c w r v/\r.inU U:=by
 unfold pFld at h
 split at h
 ·rename_i k t ks hf ha
  obtain⟨us,rfl,hl,h1,h2,hU⟩:=aggOf_rel ha hx hu
  obtain⟨v,hv,k1,k2⟩:=pPart_run h hl h1 h2 hU (w:=w)
  refine⟨v,?_,k1,k2⟩
  unfold fldTy at hf
  split at hf
  ·rename_i fs hus
   split at hf
   ·rename_i fd hfd
    injection hf with hf
    injection hf with e1 e2
    subst e1 e2
    simp[Instr.field,run_underlying hus,hfd,asAgg,hv]
   ·cases hf
  ·cases hf
 ·cases h
def isPtr:SV->Bool
 | .d (.p _)=>true
 | .bx _ _=>true
 | .op _ _ _ _=>true
 | .tp=>true
 | .np _ _ _ _=>true
 | .ip _ _ _ _ _=>true
 |_=>false
theorem isPtr_rel {x:SV}(h:isPtr x=true){c:Cx}{w:World}{u:Value}(hx:SRel c w x u):∃a,u= .pointer (some a):=by
 unfold isPtr at h
 split at h
 ·cases srel_d hx;exact⟨_,rfl⟩
 ·obtain⟨b,_,e⟩:=srel_bx hx;exact⟨_,e⟩
 ·obtain⟨g,n,cap,_,e,_⟩:=srel_op hx;exact⟨_,e⟩
 ·obtain⟨T,_,e⟩:=srel_tp hx;exact⟨_,e⟩
 ·obtain⟨g,n,cap,vs,_,e,_⟩:=srel_np hx;exact⟨_,e⟩
 ·obtain⟨v,vs,g,n,cap,_,_,_,e,_⟩:=srel_ip hx;exact⟨_,e⟩
 ·cases h
def LenOK {α:Type}(l:List α):Prop:=(l.length:Int)<=9223372036854775807
theorem lenOK {α:Type}{l:List α}{cap:Nat}(h:l.length<=cap)(hm:cap<=maxLen):LenOK l:=by
 unfold maxLen at hm
 unfold LenOK
 omega
def isStrT (P:Program)(t:TypeId):Bool:=match P.underlying t with
 |some .string=>true
 |_=>false
theorem isStrT_spec {t:TypeId}(h:isStrT P t=true):P.underlying t=some .string:=by
 unfold isStrT at h
 split at h
 ·assumption
 ·cases h
def pLenS (P:Program)(t:TypeId):SV->Option PRes
 | .d (.v (.string s))=>bif isStrT P t then ok (bI .i64 (s.size:Nat)) else none
 |_=>none
def pLen (P:Program)(m:Mem)(t:TypeId)(x:SV):Option PRes:=match elemOf P t with
 |none=>pLenS P t x
 |some _=>match x with
  | .d (.sl _ l)=>okf (LenOK l) (bI .i64 (l.length:Nat))
  | .os id=>match rowOf m id with
   |some ⟨_,l⟩=>okf (LenOK l) (bI .i64 (l.length:Nat))
   |none=>none
  | .d (.v x)=>bif isNil x then ok (bI .i64 0) else none
  | .ns id=>match nstOf m id with
   |some ⟨_,_,_,l⟩=>okf (LenOK l) (bI .i64 (l.length:Nat))
   |none=>none
  | .inn id i=>match nstOf m id with
   |some ⟨ty,k,t',l⟩=>okf (LenOK (kth ty k t' (ix l i))) (bI .i64 ((kth ty k t' (ix l i)).length:Nat))
   |none=>none
  |_=>none
theorem pLen_run {m:Mem}{t ty0:TypeId}{x:SV}{R:PRes}(h:pLen P m t x=some R){c:Cx}{w:World}{u:Value}(ox:OX m.ob m.U m.tp w c)(hx:SRel c w x u):∃v,(Builtin.len_ #[t] ty0 #[u]).run P w= .ok v w/\R.r= .d (.v v)/\allL R.fs:=by
 unfold pLen at h
 split at h
 ·unfold pLenS at h
  split at h
  ·rename_i s
   cases hs:isStrT P t with
   |false=>rw[hs] at h;cases h
   |true=>
    rw[hs] at h
    cases ok_eq h
    have:=srel_v hx
    subst this
    exact⟨_,by simp[Builtin.len_,goInt,run_underlying (isStrT_spec hs)],rfl,trivial⟩
  ·cases h
 ·rename_i e he
  obtain⟨inf,hu',_⟩:=elemOf_spec he
  split at h
  ·cases okf_eq h
   obtain⟨ad,cap,b,off,f,rfl,hc,hm,_⟩:=(srel_d hx).slInv
   exact⟨_,by simp[Builtin.len_,goInt,run_underlying hu'],rfl,lenOK hc hm,trivial⟩
  ·split at h
   ·rename_i id ty l hrow
    cases okf_eq h
    obtain⟨ad,cap,hv,hc,hm,_⟩:=rowOf_rel ox hrow
    have:=srel_os hx
    rw[hv] at this
    subst this
    exact⟨_,by simp[Builtin.len_,goInt,run_underlying hu'],rfl,lenOK hc hm,trivial⟩
   ·cases h
  ·rename_i y
   cases hn:isNil y with
   |false=>rw[hn] at h;cases h
   |true=>
    rw[hn] at h
    cases ok_eq h
    have:=srel_v hx
    rw[isNil_eq hn] at this
    subst this
    exact⟨.int .i64 0,by simp[Builtin.len_,goInt,run_underlying hu'],rfl,trivial⟩
  ·rename_i id
   split at h
   ·rename_i ty k t' l hn
    cases okf_eq h
    obtain⟨vs,hH⟩:=srel_ns hx
    obtain⟨ad,cap,vs',hv,hc,hm,hl,hk,hcell⟩:=nstOf_rel ox hn
    rw[hv] at hH
    injection hH with hH
    have hH:=congrArg Array.toList hH
    simp only[List.cons.injEq] at hH
    obtain⟨e0,e4⟩:=hH
    subst e0 e4
    exact⟨_,by simp[Builtin.len_,goInt,run_underlying hu'],rfl,lenOK hc hm,trivial⟩
   ·cases h
  ·rename_i id i
   split at h
   ·rename_i ty k t' l hn
    cases okf_eq h
    obtain⟨v,vs,hH,hi,hu⟩:=srel_inn hx
    obtain⟨ad,cap,vs',hv,hc,hm,hl,hk,hcell⟩:=nstOf_rel ox hn
    rw[hv] at hH
    injection hH with hH
    have hH:=congrArg Array.toList hH
    simp only[List.cons.injEq] at hH
    obtain⟨e0,e4⟩:=hH
    subst e0 e4
    have hil:i.toNat<l.length:=by have:=(List.getElem?_eq_some_iff.1 hu).1;omega
    obtain⟨g,hg,hF,hcc,ad',cap2,w1,w2,w3,w4,w5,w6⟩:=hcell i.toNat _ (ix_get (l:=l) (i:=i) ⟨hi,by omega⟩)
    rw[hu] at w1
    injection w1 with w1
    subst w1
    exact⟨_,by simp[Builtin.len_,goInt,run_underlying hu'],rfl,lenOK w3 w4,trivial⟩
   ·cases h
  ·cases h
def pMax (f:Int->Int->Int):List SV->Option Int
 |[.d (.v (.int .i64 a)),.d (.v (.int .i64 b))]=>some (f a b)
 |[.d (.v (.int .i64 a)),.d (.v (.int .i64 b)),.d (.v (.int .i64 c))]=>some (f (f a b) c)
 |_=>none
theorem max_if (a b:Int):(if a<b then b else a)=max a b:=by simp only[Int.max_def];split<;>split<;>omega
theorem min_if (a b:Int):(if b<a then b else a)=min a b:=by simp only[Int.min_def];split<;>split<;>omega
theorem pMax_run {xs:List SV}{z:Int}{us:List Value}{c:Cx}{w:World}(hx:xs.length=us.length/\∀(i:Nat)(s:SV)(u:Value),xs[i]? =some s->us[i]? =some u->SRel c w s u){tys:Array TypeId}{ty:TypeId}:
 (pMax max xs=some z->(Builtin.max_ tys ty us.toArray).run P w= .ok (.int .i64 z) w)/\(pMax min xs=some z->(Builtin.min_ tys ty us.toArray).run P w= .ok (.int .i64 z) w):=by
 obtain⟨hl,hr⟩:=hx
 refine⟨λh=> ?_,λh=> ?_⟩
 ·unfold pMax at h
  split at h
  ·rename_i a b
   match us,hl with
   |[u,v],_=>
    cases srel_v (hr 0 _ u rfl rfl)
    cases srel_v (hr 1 _ v rfl rfl)
    injection h with h
    subst h
    simp[Builtin.max_,Builtin.max2,max_if]
  ·rename_i a b c
   match us,hl with
   |[u,v,x],_=>
    cases srel_v (hr 0 _ u rfl rfl)
    cases srel_v (hr 1 _ v rfl rfl)
    cases srel_v (hr 2 _ x rfl rfl)
    injection h with h
    subst h
    simp[Builtin.max_,Builtin.max2,max_if]
  ·cases h
 ·unfold pMax at h
  split at h
  ·rename_i a b
   match us,hl with
   |[u,v],_=>
    cases srel_v (hr 0 _ u rfl rfl)
    cases srel_v (hr 1 _ v rfl rfl)
    injection h with h
    subst h
    simp[Builtin.min_,Builtin.min2,min_if]
  ·rename_i a b c
   match us,hl with
   |[u,v,x],_=>
    cases srel_v (hr 0 _ u rfl rfl)
    cases srel_v (hr 1 _ v rfl rfl)
    cases srel_v (hr 2 _ x rfl rfl)
    injection h with h
    subst h
    simp[Builtin.min_,Builtin.min2,min_if]
  ·cases h
def pFn (ρ:Operand->SV)(f:Fn)(first:Array Operand)(xs:Array Operand):Option SV:=match f,first.toList with
 | .func f,[]=>some (.fn f (xs.toList.map ρ))
 |_,_=>none
def liftS:Option SV->Option PRes
 |some r=>ok r
 |none=>none
theorem liftS_eq {x:Option SV}{R:PRes}(h:liftS x=some R):∃r,x=some r/\R=⟨[],[],r⟩:=by
 cases x with
 |none=>cases h
 |some r=>exact⟨r,rfl,(ok_eq h)⟩
def binV (op:BinOp)(P:Program)(t:TypeId)(x y:SV):Option PRes:=match x,y with
 | .d (.v (.int k a)),.d (.v (.int k' b))=>pBinI op k k' a b
 |x,y=>match op with
  | .eql=>match pEq P t x y with
   |some b=>ok (bB b)
   |none=>none
  | .neq=>match pEq P t x y with
   |some b=>ok (bB (!b))
   |none=>none
  |_=>none
def byteAt (s:ByteArray)(z:Int):Int:=((s[z.toNat]?).getD 0).toNat
def pByte (P:Program)(t:TypeId):SV->SV->Option PRes
 | .d (.v (.string s)),.d (.v (.int _ z))=>match P.underlying t with
  |some .string=>okp (.inb s.size z) (bI .u8 (byteAt s z))
  |_=>none
 |_,_=>none
theorem pByte_run {t:TypeId}{x y:SV}{R:PRes}(h:pByte P t x y=some R){c:Cx}{w:World}{u v:Value}(hx:SRel c w x u)(hy:SRel c w y v)(hp:allC R.ps):∃r,(Instr.index t u v).run P w= .ok r w/\R.r= .d (.v r)/\allL R.fs:=by
 unfold pByte at h
 split at h
 ·rename_i s k z
  split at h
  ·rename_i hu
   cases okp_eq h
   obtain⟨⟨h1,h2⟩,_⟩:=hp
   have e1:=srel_v hx
   have e2:=srel_v hy
   subst e1 e2
   have hz:z.toNat<s.size:=by omega
   refine⟨_,?_,rfl,trivial⟩
   unfold Instr.index byteAt
   simp[asIntOf,run_underlying hu,h1,hz]
  ·cases h
 ·cases h
def pop (P:Program)(m:Mem)(ρ:Operand->SV)(o:Oper):Option PRes:=
 match o.op with
 | .move x=>ok (ρ x)
 | .assign x=>ok (ρ x)
 | .pick q x y=>liftS (pPick ρ q x y)
 | .binOp op t x y _=>binV op P t (ρ x) (ρ y)
 | .unOp op _ x=>liftS (pUn op (ρ x))
 | .convert s d x=>liftS (pConv P s d (ρ x))
 | .load t x=>liftS (pLoad P m t (ρ x))
 | .fieldAddr s x f=>liftS (pField P s f (ρ x))
 | .field s x f=>liftS (pFld P s f (ρ x))
 | .indexAddr t x y=>pIndex P m t (ρ x) (ρ y)
 | .index t x y=>pByte P t (ρ x) (ρ y)
 | .extract x i=>liftS (pExtract i (ρ x))
 | .nilCheck x=>bif isPtr (ρ x) then ok (ρ x) else none
 | .makeFunc f first xs=>liftS (pFn ρ f first xs)
 | .call ⟨.builtin b,args,tys⟩=>match b with
  | .len=>match args.toList,tys.toList with
   |[x],[t]=>pLen P m t (ρ x)
   |_,_=>none
  | .max=>match pMax max (args.toList.map ρ) with
   |some z=>ok (bI .i64 z)
   |none=>none
  | .min=>match pMax min (args.toList.map ρ) with
   |some z=>ok (bI .i64 z)
   |none=>none
  |_=>none
 |_=>none
structure RelsC (m:Mem)(ρ:Operand->SV)(a:Act)(w:World)(c:Cx):Prop extends Rels m ρ a w c where
 cn:CnOK ρ
theorem arr1 {α:Type}{a:Array α}{l:List α}(h:a.toList=l):a=l.toArray:=by rw[<-h]
theorem pop_run {m:Mem}{ρ:Operand->SV}{o:Oper}{R:PRes}(h:pop P m ρ o=some R){a:Act}{w:World}{c:Cx}(hr:RelsC m ρ a w c)(hp:allC R.ps):∃v,(execOp a.eval o).run P w= .ok (.value v) w/\SRel c w R.r v/\R.r.inU m.U/\allL R.fs:=by
 obtain⟨⟨ox,hop,hiu⟩,hcn⟩:=hr
 have fin:∀{v:Value}{r:SV}(s:Sem Value),(execOp a.eval o)=(do pure (.value (<-s)))->s.run P w= .ok v w->SRel c w r v->r.inU m.U->R=⟨[],[],r⟩->∃v,(execOp a.eval o).run P w= .ok (.value v) w/\SRel c w R.r v/\R.r.inU m.U/\allL R.fs:=by
  intro v r s he hs h1 h2 hR
  subst hR
  refine⟨v,?_,h1,h2,trivial⟩
  rw[he];simp[hs]
 unfold pop at h
 split at h
 ·rename_i x e
  cases ok_eq h
  exact⟨a.eval x,by simp[execOp,e],hop x,hiu x,trivial⟩
 ·rename_i x e
  cases ok_eq h
  exact⟨a.eval x,by simp[execOp,e],hop x,hiu x,trivial⟩
 ·rename_i q x y e
  obtain⟨r,hr,rfl⟩:=liftS_eq h
  unfold pPick at hr
  split at hr
  ·rename_i q
   split at hr
   ·rename_i t hq
    split at hr
    ·rename_i s1 s2 h1 h2
     have hqv:a.eval (.tmp q)= .bool t:=by have:=hop (.tmp q);rw[hq] at this;exact srel_v this
     refine⟨if t then a.eval x else a.eval y,by simp[execOp,e,hqv,asBool],?_,?_,trivial⟩
     ·exact pick2_rel hr (λht=>(strip_rel hcn hq h1 (by rw[ht];rfl) (hop x) (hiu x)).1) (λht=>(strip_rel hcn hq h2 (by rw[ht];rfl) (hop y) (hiu y)).1) (λhc=>isC_eval hc a) (λhc=>isC_eval hc a)
     ·unfold pick2 at hr
      split at hr
      ·injection hr with hr;subst hr;trivial
      ·rename_i k _ k' _
       cases hk:decide (k=k') with
       |false=>rw[hk] at hr;cases hr
       |true=>rw[hk] at hr;injection hr with hr;subst hr;trivial
      ·cases hr
    ·cases hr
   ·cases hr
  ·cases hr
 ·rename_i op t x y ty e
  have hx:=hop x
  have hy:=hop y
  have he:execOp a.eval o=(do pure (.value (<-(do eqGuard op t x y (a.eval x) (a.eval y);binOp op t (a.eval x) (a.eval y):Sem Value)))):=by simp[execOp,e]
  generalize hsx:ρ x=sx at h hx
  generalize hsy:ρ y=sy at h hy
  unfold binV at h
  split at h
  ·rename_i k z k' z'
   have e1:=srel_v hx
   have e2:=srel_v hy
   obtain⟨v,h1,h2,h3⟩:=binI_run (P:=P) h hp t w
   refine⟨v,?_,by rw[h2];exact v_srel v,by rw[h2];trivial,h3⟩
   have:=bin_int (P:=P) (op:=op) (t:=t) (x:=x) (y:=y) (k:=k) (k':=k') (a:=z) (b:=z') w
   rw[h1] at this
   rw[he,e1,e2]
   simp only[Sem.run_bind,this,Result.andThen_ok]
   rfl
  ·split at h
   ·split at h
    ·rename_i b hb
     cases ok_eq h
     have:=pEq_run (P:=P) hb hx hy x y .eql (.inl rfl)
     exact fin _ he this (v_srel _) trivial rfl
    ·cases h
   ·split at h
    ·rename_i b hb
     cases ok_eq h
     have:=pEq_run (P:=P) hb hx hy x y .neq (.inr rfl)
     exact fin _ he this (v_srel _) trivial rfl
    ·cases h
   ·cases h
 ·rename_i op t x e
  obtain⟨r,hr,rfl⟩:=liftS_eq h
  obtain⟨v,h1,h2⟩:=pUn_run (P:=P) hr (hop x)
  exact fin _ (by simp[execOp,e]) h1 (by rw[h2];exact v_srel v) (by rw[h2];trivial) rfl
 ·rename_i s d x e
  obtain⟨r,hr,rfl⟩:=liftS_eq h
  obtain⟨v,h1,h2⟩:=pConv_run (P:=P) hr (hop x)
  exact fin _ (by simp[execOp,e]) h1 (by rw[h2];exact v_srel v) (by rw[h2];trivial) rfl
 ·rename_i t x e
  obtain⟨r,hr,rfl⟩:=liftS_eq h
  obtain⟨v,h1,h2,h3⟩:=pLoad_run (P:=P) hr ox (hop x) (hiu x)
  exact fin _ (by simp[execOp,e]) h1 h2 h3 rfl
 ·rename_i s x f e
  obtain⟨r,hr,rfl⟩:=liftS_eq h
  obtain⟨v,h1,h2,h3⟩:=pField_run (P:=P) (m:=m) hr (hop x) (hiu x)
  exact fin _ (by simp[execOp,e]) h1 h2 h3 rfl
 ·rename_i s x f e
  obtain⟨r,hr,rfl⟩:=liftS_eq h
  obtain⟨v,h1,h2,h3⟩:=pFld_run (P:=P) hr (hop x) (hiu x)
  exact fin _ (by simp[execOp,e]) h1 h2 h3 rfl
 ·rename_i t x y e
  obtain⟨v,h1,h2,h3,h4⟩:=pIndex_run (P:=P) h ox (hop x) (hiu x) (hop y) hp
  refine⟨v,?_,h2,h3,h4⟩
  simp[execOp,e,h1]
 ·rename_i t x y e
  obtain⟨v,h1,h2,h3⟩:=pByte_run (P:=P) h (hop x) (hop y) hp
  exact⟨v,by simp[execOp,e,h1],by rw[h2];exact v_srel v,by rw[h2];trivial,h3⟩
 ·rename_i x i e
  obtain⟨r,hr,rfl⟩:=liftS_eq h
  obtain⟨v,h1,h2,h3⟩:=pExtract_run (P:=P) hr (hop x) (hiu x)
  exact fin _ (by simp[execOp,e]) h1 h2 h3 rfl
 ·rename_i x e
  cases hb:isPtr (ρ x) with
  |false=>rw[hb] at h;cases h
  |true=>
   rw[hb] at h
   cases ok_eq h
   obtain⟨ad,ha⟩:=isPtr_rel hb (hop x)
   exact⟨a.eval x,by simp[execOp,e,ha],hop x,hiu x,trivial⟩
 ·rename_i f first xs e
  obtain⟨r,hr,rfl⟩:=liftS_eq h
  unfold pFn at hr
  split at hr
  ·rename_i f hf
   injection hr with hr
   subst hr
   have hf':first= #[]:=by simpa using hf
   refine⟨.func (.func f) #[] (xs.toList.map a.eval).toArray,?_,?_,?_,trivial⟩
   ·simp[execOp,e,hf',Instr.makeFunc]
    apply Array.ext';simp
   ·refine .fn f _ _ (by simp) λi s u hs hu=> ?_
    rw[List.getElem?_map,Option.map_eq_some_iff] at hs hu
    obtain⟨x,hx,rfl⟩:=hs
    obtain⟨y,hy,rfl⟩:=hu
    rw[hx] at hy
    injection hy with hy
    subst hy
    exact hop x
   ·refine inUL_of λi s hs=> ?_
    rw[List.getElem?_map,Option.map_eq_some_iff] at hs
    obtain⟨x,hx,rfl⟩:=hs
    exact hiu x
  ·cases hr
 ·rename_i b args tys e
  split at h
  ·split at h
   ·rename_i x t ha ht
    obtain⟨v,h1,h2,h3⟩:=pLen_run (P:=P) (ty0:=o.type) h ox (hop x)
    have e1:=arr1 ha
    have e2:=arr1 ht
    refine⟨v,?_,by rw[h2];exact v_srel v,by rw[h2];trivial,h3⟩
    subst e1 e2
    simp[execOp,e,resolve,invoke,builtin,h1]
   ·cases h
  ·split at h
   ·rename_i z hz
    cases ok_eq h
    have:=(pMax_run (P:=P) (z:=z) (xs:=args.toList.map ρ) (us:=args.toList.map a.eval) (c:=c) (w:=w) (tys:=tys) (ty:=o.type) ⟨by simp,λi s u hs hu=>by
     rw[List.getElem?_map,Option.map_eq_some_iff] at hs hu
     obtain⟨x,hx,rfl⟩:=hs
     obtain⟨y,hy,rfl⟩:=hu
     rw[hx] at hy
     injection hy with hy
     subst hy
     exact hop x⟩).1 hz
    refine⟨_,?_,v_srel (.int .i64 z),trivial,trivial⟩
    have e1:(args.toList.map a.eval).toArray=args.map a.eval:=by apply Array.ext';simp
    rw[e1] at this
    simp[execOp,e,resolve,invoke,builtin,this]
   ·cases h
  ·split at h
   ·rename_i z hz
    cases ok_eq h
    have:=(pMax_run (P:=P) (z:=z) (xs:=args.toList.map ρ) (us:=args.toList.map a.eval) (c:=c) (w:=w) (tys:=tys) (ty:=o.type) ⟨by simp,λi s u hs hu=>by
     rw[List.getElem?_map,Option.map_eq_some_iff] at hs hu
     obtain⟨x,hx,rfl⟩:=hs
     obtain⟨y,hy,rfl⟩:=hu
     rw[hx] at hy
     injection hy with hy
     subst hy
     exact hop x⟩).2 hz
    refine⟨_,?_,v_srel (.int .i64 z),trivial,trivial⟩
    have e1:(args.toList.map a.eval).toArray=args.map a.eval:=by apply Array.ext';simp
    rw[e1] at this
    simp[execOp,e,resolve,invoke,builtin,this]
   ·cases h
  ·cases h
 ·cases h
theorem OX.upd {ob ob':Obs}{U U':Nat->Prop}{tp:Bool}{w w':World}{c c':Cx}(h:OX ob U tp w c)(k:Nat)(x:Ob)(keep:Nat->Prop)
 (hU:∀i,U i->U' i) (hUk:U' k) (hk:ob' k=some x) (hob:∀i y,ob' i=some y->i≠k->keep i/\ob i=some y) (hkk:¬keep k)
 (hH:∀i,U i->c'.H i=c.H i/\c'.F i=c.F i) (hS:∀b o,c.S b o->c'.S b o) (hSn:∀b o,c'.S b o->c.S b o\/(∃i y,ob i=some y/\y.own=true/\¬keep i/\c.F i b)\/w.heap.size<=b) (hSb:∀b o,c'.S b o->b<w'.heap.size)
 (hT:c'.T=c.T) (hos:w'.os=w.os) (htape:w'.tape=w.tape) (hout:w'.output=w.output) (hsz:w.heap.size<=w'.heap.size)
 (hblk:∀b,b<w.heap.size->(∀i y,ob i=some y->y.own=true->¬keep i->¬c.F i b)->w'.heap[b]? =w.heap[b]?)
 (hat:ObAt w' c' k x) (hxU:x.inU U') (hF:x.own=true->∀b,c'.F k b->(∃i y,ob i=some y/\y.own=true/\¬keep i/\c.F i b)\/w.heap.size<=b) (hFb:x.own=true->∀b,c'.F k b->b<w'.heap.size/\∀o,¬c'.S b o):
 OX ob' U' tp w' c'/\Tr ob U w c ob' U' w' c':=by
 have hg:∀i y j z,ob i=some y->y.own=true->keep i->ob j=some z->z.own=true->¬keep j->∀b,c.F i b->¬c.F j b:=λi y j z hi oi ki hj oj kj b hb=>h.dj i j y z hi oi hj oj (λe=>kj (e ▸ ki)) b hb
 have hcell:∀b o,c.S b o->w'.cell? ⟨b,o,none⟩=w.cell? ⟨b,o,none⟩:=λb o hs=>World.cell?_of_block (hblk b (h.sb b o hs) λi y hi oi _ hf=>(h.fb i y hi oi b hf).2.1 o hs)
 have hgT:∀i y b,ob i=some y->y.own=true->c.F i b->c.T≠some b:=λi y b hi oi hf=>(h.fb i y hi oi b hf).2.2
 refine⟨⟨hSb,λi y hi=> ?_,λi y hi oi b hb=> ?_,λi j y z hi oi hj oj hne b hb hb'=> ?_,λT hTs=> ?_,λhtp=> ?_,λhtp=>hT.trans (h.tF htp)⟩,⟨hos,htape,hout,hsz,λT hTs=>by rw[hT];exact hTs,λT hTs=> .inl (by rw[<-hT];exact hTs),hU,hH,hS,λb o hb=> ?_,λb hb hf hTb=> ?_,λb hb=> ?_⟩⟩
 ·by_cases e:i=k
  ·subst e
   rw[hk] at hi
   injection hi with hi
   subst hi
   exact⟨hUk,hxU,hat⟩
  ·obtain⟨k1,k2⟩:=hob i y hi e
   obtain⟨q1,q2,q3⟩:=h.objs i y k2
   refine⟨hU i q1,Ob.inU_mono hU q2,q3.keep q2 hS hcell (λT hTs=>by rw[hT];exact hTs) (λj hj=>(hH j hj).1) (hH i q1) λoi b hb=> ?_⟩
   exact hblk b (h.fb i y k2 oi b hb).1 λj z hj oj kj=>hg i y j z k2 oi k1 hj oj kj b hb
 ·by_cases e:i=k
  ·subst e
   rw[hk] at hi
   injection hi with hi
   subst hi
   refine⟨(hFb oi b hb).1,(hFb oi b hb).2,?_⟩
   rw[hT]
   rcases hF oi b hb with⟨j,z,hj,oj,_,hf⟩|hn
   ·exact hgT j z b hj oj hf
   ·intro e;have:=(h.nT b e).1;omega
  ·obtain⟨k1,k2⟩:=hob i y hi e
   rw[(hH i (h.objs i y k2).1).2] at hb
   obtain⟨q1,q2,q3⟩:=h.fb i y k2 oi b hb
   refine⟨Nat.lt_of_lt_of_le q1 hsz,λo ho=> ?_,by rw[hT];exact q3⟩
   rcases hSn b o ho with e1|⟨j,z,hj,oj,kj,hf⟩|e1
   ·exact q2 o e1
   ·exact hg i y j z k2 oi k1 hj oj kj b hb hf
   ·omega
 ·have main:x.own=true->∀i y,ob' i=some y->y.own=true->i≠k->∀b,c'.F k b->¬c'.F i b:=λox i y hi oi e b hb hb'=>by
   obtain⟨k1,k2⟩:=hob i y hi e
   rw[(hH i (h.objs i y k2).1).2] at hb'
   rcases hF ox b hb with⟨j,z,hj,oj,kj,hf⟩|hn
   ·exact hg i y j z k2 oi k1 hj oj kj b hb' hf
   ·have:=(h.fb i y k2 oi b hb').1;omega
  by_cases e:i=k
  ·subst e
   rw[hk] at hi
   injection hi with hi
   subst hi
   exact main oi j z hj oj (λe=>hne e.symm) b hb hb'
  ·by_cases e2:j=k
   ·subst e2
    rw[hk] at hj
    injection hj with hj
    subst hj
    exact main oj i y hi oi e b hb' hb
   ·obtain⟨k1,k2⟩:=hob i y hi e
    obtain⟨q1,q2⟩:=hob j z hj e2
    rw[(hH i (h.objs i y k2).1).2] at hb
    rw[(hH j (h.objs j z q2).1).2] at hb'
    exact h.dj i j y z k2 oi q2 oj hne b hb hb'
 ·rw[hT] at hTs
  obtain⟨q1,q2⟩:=h.nT T hTs
  refine⟨Nat.lt_of_lt_of_le q1 hsz,λo ho=> ?_⟩
  rcases hSn T o ho with e1|⟨j,z,hj,oj,kj,hf⟩|e1
  ·exact q2 o e1
  ·exact hgT j z T hj oj hf hTs
  ·omega
 ·obtain⟨T,hTs,ht⟩:=h.tpe htp
  refine⟨T,hT.trans hTs,ht.mono hS hcell (hblk T ht.lt λi y hi oi _ hf=>hgT i y T hi oi hf hTs)⟩
 ·rcases hSn b o hb with e1|⟨j,z,hj,oj,kj,hf⟩|e1
  ·exact .inl e1
  ·exact .inr (.inl ⟨j,z,hj,oj,hf⟩)
  ·exact .inr (.inr e1)
 ·exact hblk b hb λi y hi oi _ hf'=>hf ⟨i,y,hi,oi,hf'⟩
 ·obtain⟨i,y,hi,oi,hb⟩:=hb
  by_cases e:i=k
  ·subst e
   rw[hk] at hi
   injection hi with hi
   subst hi
   rcases hF oi b hb with⟨j,z,hj,oj,_,hf⟩|hn
   ·exact .inl ⟨j,z,hj,oj,hf⟩
   ·exact .inr hn
  ·obtain⟨k1,k2⟩:=hob i y hi e
   rw[(hH i (h.objs i y k2).1).2] at hb
   exact .inl ⟨i,y,k2,oi,hb⟩
def put {α:Type}(f:Nat->α)(k:Nat)(x:α):Nat->α:=λi=>if i=k then x else f i
theorem put_same {α:Type}(f:Nat->α)(k:Nat)(x:α):put f k x k=x:=if_pos rfl
theorem put_ne {α:Type}(f:Nat->α){k i:Nat}(x:α)(h:i≠k):put f k x i=f i:=if_neg h
def addU (U:Nat->Prop)(k:Nat):Nat->Prop:=λi=>U i\/i=k
theorem OX.new {ob:Obs}{U:Nat->Prop}{tp:Bool}{w:World}{c:Cx}(h:OX ob U tp w c){k:Nat}(hk:¬U k){x:Ob}{v:Value}(o:Obj)(hx:x.inU U)
 (hat:∀c',c'.H k=v->(∀b,c'.F k b↔b=w.heap.size)->c'.S=c.S->(∀T,c.T=some T->c'.T=some T)->(∀i,U i->c'.H i=c.H i)->ObAt (w.alloc o) c' k x):
 OX (put ob k (some x)) (addU U k) tp (w.alloc o) ⟨c.S,put c.H k v,put c.F k (·=w.heap.size),c.T⟩/\Tr ob U w c (put ob k (some x)) (addU U k) (w.alloc o) ⟨c.S,put c.H k v,put c.F k (·=w.heap.size),c.T⟩:=by
 have hne:∀i,U i->i≠k:=λi hi e=>hk (e ▸ hi)
 have hsz:w.heap.size<=(w.alloc o).heap.size:=by simp
 refine h.upd k x (λi=>i≠k) (λi hi=> .inl hi) (.inr rfl) (put_same _ _ _) (λi y hi e=>⟨e,by rw[put_ne _ _ e] at hi;exact hi⟩) (λe=>e rfl) (λi hi=>⟨put_ne _ _ (hne i hi),put_ne _ _ (hne i hi)⟩) (λ_ _ h=>h) (λ_ _ h=> .inl h) (λb o' hb=>Nat.lt_of_lt_of_le (h.sb b o' hb) hsz)
  rfl rfl rfl rfl hsz (λb hb _=>heap_alloc_old w o hb) (hat _ (put_same _ _ _) (λb=>by show put c.F k _ k b↔_;rw[put_same]) rfl (λ_ h=>h) (λi hi=>put_ne _ _ (hne i hi))) (Ob.inU_mono (λi hi=> .inl hi) hx) (λ_ b hb=> ?_) (λ_ b hb=> ?_)
 ·have hb':put c.F k (·=w.heap.size) k b:=hb
  rw[put_same] at hb'
  exact .inr (Nat.le_of_eq hb'.symm)
 ·have hb':put c.F k (·=w.heap.size) k b:=hb
  rw[put_same] at hb'
  subst hb'
  exact⟨by simp,λo' ho=>by have:=h.sb _ _ ho;omega⟩
theorem OX.box {ob:Obs}{U:Nat->Prop}{tp:Bool}{w:World}{c:Cx}(h:OX ob U tp w c){k:Nat}(hk:¬U k)(t:TypeId){arr:List Value}{cs:List SV}(hl:arr.length=cs.length)(h1:∀u∈arr,u.oneCell'=true)
 (hr:∀(j:Nat)(s:SV)(u:Value),cs[j]? =some s->arr[j]? =some u->SRel c w s u) (hU:inUL U cs):
 ∃c',OX (put ob k (some (.box cs))) (addU U k) tp (w.alloc (.cells arr.toArray t)) c'/\Tr ob U w c (put ob k (some (.box cs))) (addU U k) (w.alloc (.cells arr.toArray t)) c'/\c'.H k= .pointer (some ⟨w.heap.size,0,none⟩):=by
 obtain⟨k1,k2⟩:=h.new hk (x:= .box cs) (v:= .pointer (some ⟨w.heap.size,0,none⟩)) (.cells arr.toArray t) hU λc' e1 e2 e3 e4 e5=>by
  refine⟨w.heap.size,arr,t,e1,e2,heap_alloc_new w _,hl,h1,λj s u hs hu=> ?_⟩
  refine SRel.mono (U:=U) (λb o hb=>by rw[e3];exact hb) (λb o hb=> ?_) e4 e5 (hr j s u hs hu) (inUL_get hU hs)
  exact World.cell?_of_block (heap_alloc_old w _ (h.sb b o hb))
 exact⟨_,k1,k2,put_same _ _ _⟩
theorem row_lt {sz i j n:Nat}(hi:i<n)(hj:j<sz):i * sz+j<n * sz:=by
 have h1:(i+1) * sz<=n * sz:=Nat.mul_le_mul_right _ hi
 have h2:(i+1) * sz=i * sz+sz:=Nat.succ_mul _ _
 omega
theorem enc_lt {t:Ty}{x:den t}{j:Nat}{d:D}(h:(enc t x)[j]? =some d):j<size t:=by
 have:=(List.getElem?_eq_some_iff.1 h).1;rwa [enc_len] at this
theorem OX.freeze {ob:Obs}{U:Nat->Prop}{tp:Bool}{w:World}{c:Cx}(h:OX ob U tp w c){id:Nat}{e:TypeId}{t:Ty}{l:List (den t)}(hid:ob id=some (.row e t l)):
 ∃c',OX (put ob id (some (.fro t l))) U tp w c'/\Tr ob U w c (put ob id (some (.fro t l))) U w c'/\c'.H=c.H/\c'.T=c.T:=by
 obtain⟨hU,_,hat⟩:=h.objs id _ hid
 let S':Cells:=λb o=>c.S b o\/(c.F id b/\o<l.length * size t)
 have hS:∀b o,c.S b o->S' b o:=λ_ _ h=> .inl h
 obtain⟨k1,k2⟩:=h.upd (ob':=put ob id (some (.fro t l))) (w':=w) (c':=⟨S',c.H,c.F,c.T⟩) id (.fro t l) (λi=>i≠id) (λ_ h=>h) hU (put_same _ _ _) (λi y hi e=>⟨e,by rw[put_ne _ _ e] at hi;exact hi⟩) (λe=>e rfl) (λ_ _=>⟨rfl,rfl⟩) hS
  (λb o hb=>by
   rcases hb with hb|⟨hb,_⟩
   ·exact .inl hb
   ·exact .inr (.inl ⟨id,_,hid,rfl,λe=>e rfl,hb⟩))
  (λb o hb=>by
   rcases hb with hb|⟨hb,_⟩
   ·exact h.sb b o hb
   ·exact (h.fb id _ hid rfl b hb).1) rfl rfl rfl rfl (Nat.le_refl _) (λ_ _ _=>rfl) (by
   obtain⟨h0,⟨hl,⟨ad,hv⟩,_⟩|⟨g,cap,cur,hv,hF,hg,h1,h2,h3,h4⟩⟩:=hat
   ·subst hl
    refine⟨?_,.inl rfl⟩
    show Rd S' w _ (c.H id)
    rw[hv];exact Rd.nil _ _ _ (Nat.zero_le _)
   ·refine⟨?_,.inr ⟨g,_,_,hv⟩⟩
    show Rd S' w _ (c.H id)
    rw[hv]
    have hcell:∀i (hi:i<l.length)j,j<size t->∃u,cur[i * size t+j]? =some u/\u.oneCell'=true/\cur.getD (i * size t+j) undef=u:=λi hi j hj=>by
     have hje:j<(enc t l[i]).length:=by rw[enc_len];exact hj
     have hd:(enc t l[i])[j]? =some ((enc t l[i])[j]):=List.getElem?_eq_getElem hje
     obtain⟨u,u1,u2,u3⟩:=h4 i l[i] (List.getElem?_eq_getElem hi) j _ hd
     exact⟨u,u1,u2,by rw[Array.getD_eq_getD_getElem?,u1];rfl⟩
    refine Rd.sl t l _ cap g 0 (λi j=>cur.getD (i * size t+j) undef) h1 h2 (.inr rfl) (λi hi j hj=> ?_) (λi x j d hi hd=> ?_)
    ·obtain⟨u,u1,u2,u3⟩:=hcell i hi j hj
     refine⟨.inr ⟨(hF g).2 rfl,by rw[Nat.zero_add];exact row_lt hi hj⟩,?_,by show (cur.getD _ _).oneCell'=true;rw[u3];exact u2⟩
     show _=some (cur.getD _ _)
     rw[Nat.zero_add,cell_row hg,u1,u3]
    ·obtain⟨u,u1,u2,u3⟩:=h4 i x hi j d hd
     have:cur.getD (i * size t+j) undef=u:=by rw[Array.getD_eq_getD_getElem?,u1];rfl
     rw[this]
     exact u3.mono hS (λ_ _ _=>rfl)) trivial (λe=>by cases e) (λe=>by cases e)
 exact⟨_,k1,k2,rfl,rfl⟩
theorem RowAt.rd {w:World}{S S':Cells}{v:Value}{F:Nat->Prop}{e:TypeId}{t:Ty}{l:List (den t)}(h:RowAt w S v F e t l)(hS:∀b o,S b o->S' b o)(hF':∀b,F b->∀o,S' b o):Rd S' w (.sl t l) v:=by
 obtain⟨h0,⟨hl,⟨ad,hv⟩,_⟩|⟨g,cap,cur,hv,hF,hg,h1,h2,h3,h4⟩⟩:=h
 ·subst hl
  rw[hv];exact Rd.nil _ _ _ (Nat.zero_le _)
 ·rw[hv]
  have hcell:∀i (hi:i<l.length)j,j<size t->∃u,cur[i * size t+j]? =some u/\u.oneCell'=true/\cur.getD (i * size t+j) undef=u:=λi hi j hj=>by
   have hje:j<(enc t l[i]).length:=by rw[enc_len];exact hj
   have hd:(enc t l[i])[j]? =some ((enc t l[i])[j]):=List.getElem?_eq_getElem hje
   obtain⟨u,u1,u2,u3⟩:=h4 i l[i] (List.getElem?_eq_getElem hi) j _ hd
   exact⟨u,u1,u2,by rw[Array.getD_eq_getD_getElem?,u1];rfl⟩
  refine Rd.sl t l _ cap g 0 (λi j=>cur.getD (i * size t+j) undef) h1 h2 (.inr rfl) (λi hi j hj=> ?_) (λi x j d hi hd=> ?_)
  ·obtain⟨u,u1,u2,u3⟩:=hcell i hi j hj
   refine⟨hF' _ ((hF g).2 rfl) _,?_,by show (cur.getD _ _).oneCell'=true;rw[u3];exact u2⟩
   show _=some (cur.getD _ _)
   rw[Nat.zero_add,cell_row hg,u1,u3]
  ·obtain⟨u,u1,u2,u3⟩:=h4 i x hi j d hd
   have:cur.getD (i * size t+j) undef=u:=by rw[Array.getD_eq_getD_getElem?,u1];rfl
   rw[this]
   exact u3.mono hS (λ_ _ _=>rfl)
theorem NstAt.rd {w:World}{S S':Cells}{H:Value}{F:Nat->Prop}{e:TypeId}{t:Ty}{k:Nat}{e':TypeId}{t':Ty}{l:List (den t)}(h:NstAt w S H F e t k e' t' l)(hS:∀b o,S b o->S' b o)(hF':∀b,F b->∀o,S' b o):∃v vs,H= .tuple (List.toArray (v::vs))/\Rd S' w (.sl t l) v:=by
 obtain⟨h0,hk,v,vs,Fi,hH,hvs,⟨hl,⟨ad,hv⟩,_⟩|⟨g,cap,cur,hv,hF,hg1,hg2,hg,h1,h2,h3,h4⟩⟩:=h
 ·subst hl
  refine⟨v,vs,hH,?_⟩
  rw[hv];exact Rd.nil _ _ _ (Nat.zero_le _)
 ·refine⟨v,vs,hH,?_⟩
  rw[hv]
  have hall:∀i x,l[i]? =some x->∀j d,(enc t x)[j]? =some d->∃u,cur[i * size t+j]? =some u/\u.oneCell'=true/\Rd S' w d u:=λi x hi j d hd=>by
   obtain⟨q1,li,u,q2,q3,q4,q5⟩:=h4 i x hi
   by_cases hj:j=k
   ·subst hj
    rw[q2] at hd
    injection hd with hd
    subst hd
    refine⟨u,q4,?_,q5.rd hS λb hb o=>hF' b ((hF b).2 (.inr ⟨i,(List.getElem?_eq_some_iff.1 hi).1,hb⟩)) o⟩
    obtain⟨_,ad,cap',e1,_⟩:=q5.slice
    rw[e1];rfl
   ·obtain⟨u,u1,u2,u3⟩:=q1 j d hj hd
    exact⟨u,u1,u2,u3.mono hS (λ_ _ _=>rfl)⟩
  refine Rd.sl t l _ cap g 0 (λi j=>cur.getD (i * size t+j) undef) h1 h2 (.inr rfl) (λi hi j hj=> ?_) (λi x j d hi hd=> ?_)
  ·obtain⟨u,u1,u2,u3⟩:=hall i l[i] (List.getElem?_eq_getElem hi) j _ (List.getElem?_eq_getElem (by rw[enc_len];exact hj))
   have hgd:cur.getD (i * size t+j) undef=u:=by rw[Array.getD_eq_getD_getElem?,u1];rfl
   refine⟨hF' _ ((hF g).2 (.inl rfl)) _,?_,by show (cur.getD _ _).oneCell'=true;rw[hgd];exact u2⟩
   show _=some (cur.getD _ _)
   rw[Nat.zero_add,cell_row hg,u1,hgd]
  ·obtain⟨u,u1,u2,u3⟩:=hall i x hi j d hd
   have:cur.getD (i * size t+j) undef=u:=by rw[Array.getD_eq_getD_getElem?,u1];rfl
   rw[this]
   exact u3
theorem OX.freezeN {ob:Obs}{U:Nat->Prop}{tp:Bool}{w:World}{c:Cx}(h:OX ob U tp w c){id:Nat}{e:TypeId}{t:Ty}{k:Nat}{e':TypeId}{t':Ty}{l:List (den t)}(hid:ob id=some (.nst e t k e' t' l)):
 ∃c',OX (put ob id (some (.nfr t l))) U tp w c'/\Tr ob U w c (put ob id (some (.nfr t l))) U w c'/\c'.H=c.H/\c'.T=c.T:=by
 obtain⟨hU,_,hat⟩:=h.objs id _ hid
 let S':Cells:=λb o=>c.S b o\/c.F id b
 have hS:∀b o,c.S b o->S' b o:=λ_ _ h=> .inl h
 obtain⟨k1,k2⟩:=h.upd (ob':=put ob id (some (.nfr t l))) (w':=w) (c':=⟨S',c.H,c.F,c.T⟩) id (.nfr t l) (λi=>i≠id) (λ_ h=>h) hU (put_same _ _ _) (λi y hi e=>⟨e,by rw[put_ne _ _ e] at hi;exact hi⟩) (λe=>e rfl) (λ_ _=>⟨rfl,rfl⟩) hS
  (λb o hb=>by
   rcases hb with hb|hb
   ·exact .inl hb
   ·exact .inr (.inl ⟨id,_,hid,rfl,λe=>e rfl,hb⟩))
  (λb o hb=>by
   rcases hb with hb|hb
   ·exact h.sb b o hb
   ·exact (h.fb id _ hid rfl b hb).1) rfl rfl rfl rfl (Nat.le_refl _) (λ_ _ _=>rfl) (by
   obtain⟨h0,hk,v,vs,Fi,hH,hvs,⟨hl,⟨ad,hv⟩,_⟩|⟨g,cap,cur,hv,hF,hg1,hg2,hg,h1,h2,h3,h4⟩⟩:=hat
   ·subst hl
    refine⟨v,vs,hH,?_⟩
    show Rd S' w _ v
    rw[hv];exact Rd.nil _ _ _ (Nat.zero_le _)
   ·refine⟨v,vs,hH,?_⟩
    show Rd S' w _ v
    rw[hv]
    have hall:∀i x,l[i]? =some x->∀j d,(enc t x)[j]? =some d->∃u,cur[i * size t+j]? =some u/\u.oneCell'=true/\Rd S' w d u:=λi x hi j d hd=>by
     obtain⟨q1,li,u,q2,q3,q4,q5⟩:=h4 i x hi
     by_cases hj:j=k
     ·subst hj
      rw[q2] at hd
      injection hd with hd
      subst hd
      refine⟨u,q4,?_,q5.rd hS λb hb o=> .inr ((hF b).2 (.inr ⟨i,(List.getElem?_eq_some_iff.1 hi).1,hb⟩))⟩
      obtain⟨_,ad,cap',e1,_⟩:=q5.slice
      rw[e1];rfl
     ·obtain⟨u,u1,u2,u3⟩:=q1 j d hj hd
      exact⟨u,u1,u2,u3.mono hS (λ_ _ _=>rfl)⟩
    refine Rd.sl t l _ cap g 0 (λi j=>cur.getD (i * size t+j) undef) h1 h2 (.inr rfl) (λi hi j hj=> ?_) (λi x j d hi hd=> ?_)
    ·obtain⟨u,u1,u2,u3⟩:=hall i l[i] (List.getElem?_eq_getElem hi) j _ (List.getElem?_eq_getElem (by rw[enc_len];exact hj))
     have hgd:cur.getD (i * size t+j) undef=u:=by rw[Array.getD_eq_getD_getElem?,u1];rfl
     refine⟨.inr ((hF g).2 (.inl rfl)),?_,by show (cur.getD _ _).oneCell'=true;rw[hgd];exact u2⟩
     show _=some (cur.getD _ _)
     rw[Nat.zero_add,cell_row hg,u1,hgd]
    ·obtain⟨u,u1,u2,u3⟩:=hall i x hi j d hd
     have:cur.getD (i * size t+j) undef=u:=by rw[Array.getD_eq_getD_getElem?,u1];rfl
     rw[this]
     exact u3) trivial (λe=>by cases e) (λe=>by cases e)
 exact⟨_,k1,k2,rfl,rfl⟩
theorem heap_setCell_at {w:World}{b o:Nat}{v:Value}{arr:List Value}{t:TypeId}{fr:Nat×Nat}(h:w.heap[b]? =some (.cells arr.toArray t fr)):(w.setCell ⟨b,o,none⟩ v).heap[b]? =some (.cells (arr.set o v).toArray t fr):=by
 simp[World.setCell,Array.getElem?_modify,h]
def spl {α:Type}(cs:List α)(off:Nat)(ks:List α):List α:=cs.take off++ks++cs.drop (off+ks.length)
theorem spl_get {α:Type}{cs ks:List α}{off:Nat}(ho:off+ks.length<=cs.length)(j:Nat):(spl cs off ks)[j]? =if j<off then cs[j]? else if j<off+ks.length then ks[j-off]? else cs[j]? :=by
 unfold spl
 simp only[List.getElem?_append,List.length_append,List.length_take,List.getElem?_take,List.getElem?_drop]
 rw[show min off cs.length=off by omega]
 by_cases h1:j<off
 ·rw[if_pos (by omega),if_pos h1,if_pos h1,if_pos h1]
 ·by_cases h2:j<off+ks.length
  ·rw[if_pos (by omega),if_neg h1,if_neg h1,if_pos h2]
  ·rw[if_neg (by omega),if_neg h1,if_neg h2];congr 1;omega
theorem spl_len {α:Type}{cs ks:List α}{off:Nat}(h:off+ks.length<=cs.length):(spl cs off ks).length=cs.length:=by
 simp[spl];omega
theorem heap_setCells_at (b:Nat):∀(vs:List Value)(o:Nat)(w:World)(arr:List Value)(t:TypeId)(fr:Nat×Nat),w.heap[b]? =some (.cells arr.toArray t fr)->o+vs.length<=arr.length->
 (w.setCells b o vs).heap[b]? =some (.cells (spl arr o vs).toArray t fr)
 |[],o,w,arr,t,fr,h,hl=>by simp[World.setCells,h,spl]
 |v::vs,o,w,arr,t,fr,h,hl=>by
  simp at hl
  rw[World.setCells,heap_setCells_at b vs (o+1) _ (arr.set o v) t fr (heap_setCell_at h) (by simp;omega)]
  congr 3
  apply List.ext_getElem?
  intro j
  rw[spl_get (by simp;omega),spl_get (by simp;omega),List.getElem?_set]
  simp only[List.length_cons]
  by_cases h1:j<o
  ·rw[if_pos (by omega),if_pos h1,if_neg (by omega)]
  ·by_cases h2:j=o
   ·subst h2
    rw[if_pos (by omega),if_neg h1,if_pos (by omega)]
    simp;omega
   ·by_cases h3:j<o+1+vs.length
    ·rw[if_neg (by omega),if_pos h3,if_neg h1,if_pos (by omega)]
     rw[show j-o=(j-(o+1))+1 by omega,List.getElem?_cons_succ]
    ·rw[if_neg (by omega),if_neg (by omega),if_neg h1,if_neg (by omega),if_neg (by omega)]
theorem setCells_os (b:Nat):∀(vs:List Value)(o:Nat)(w:World),(w.setCells b o vs).os=w.os/\(w.setCells b o vs).tape=w.tape/\(w.setCells b o vs).output=w.output/\(w.setCells b o vs).heap.size=w.heap.size/\∀k,k≠b->(w.setCells b o vs).heap[k]? =w.heap[k]?
 |[],o,w=>⟨rfl,rfl,rfl,rfl,λ_ _=>rfl⟩
 |v::vs,o,w=>by
  obtain⟨h1,h2,h3,h4,h5⟩:=setCells_os b vs (o+1) (w.setCell ⟨b,o,none⟩ v)
  rw[World.setCells]
  refine⟨h1.trans rfl,h2.trans rfl,h3.trans rfl,h4.trans (by simp[World.setCell]),λk hk=>(h5 k hk).trans (Below.heap_setCell _ _ _ _ (by intro e;exact hk e))⟩
theorem OX.store {ob:Obs}{U:Nat->Prop}{tp:Bool}{w:World}{c:Cx}(h:OX ob U tp w c){id off b:Nat}{cs ks:List SV}{vs:List Value}(hid:ob id=some (.box cs))(hb:c.H id= .pointer (some ⟨b,0,none⟩))(hl:vs.length=ks.length)(ho:off+ks.length<=cs.length)
 (h1:∀u∈vs,u.oneCell'=true) (hr:∀(j:Nat)(s:SV)(u:Value),ks[j]? =some s->vs[j]? =some u->SRel c w s u) (hU:inUL U ks):
 OX (put ob id (some (.box (spl cs off ks)))) U tp (w.setCells b off vs) c/\Tr ob U w c (put ob id (some (.box (spl cs off ks)))) U (w.setCells b off vs) c:=by
 obtain⟨hUid,hUcs,b',arr,t,e1,hF,hh,hal,h1a,hra⟩:=h.objs id _ hid
 rw[hb] at e1
 injection e1 with e1
 injection e1 with e1
 injection e1 with e1
 subst e1
 have hf:=h.fb id _ hid rfl b ((hF b).2 rfl)
 obtain⟨o1,o2,o3,o4,o5⟩:=setCells_os b vs off w
 refine h.upd id (.box (spl cs off ks)) (λi=>i≠id) (λ_ h=>h) hUid (put_same _ _ _) (λi y hi e=>⟨e,by rw[put_ne _ _ e] at hi;exact hi⟩) (λe=>e rfl) (λ_ _=>⟨rfl,rfl⟩) (λ_ _ h=>h) (λ_ _ h=> .inl h) (λb' o hb'=>by rw[o4];exact h.sb b' o hb') rfl o1 o2 o3 (Nat.le_of_eq o4.symm)
  (λk hk hn=>o5 k (λe=>hn id _ hid rfl (λe=>e rfl) (by rw[e];exact (hF b).2 rfl))) ?_ ?_ (λ_ k hk=> .inl ⟨id,_,hid,rfl,λe=>e rfl,hk⟩) (λ_ k hk=>by rw[o4];exact⟨(h.fb id _ hid rfl k hk).1,(h.fb id _ hid rfl k hk).2.1⟩)
 ·have hsr:∀{s:SV}{u:Value},s.inU U->SRel c w s u->SRel c (w.setCells b off vs) s u:=λhu hr=>SRel.mono (U:=U) (λ_ _ h=>h) (λb' o hs=>World.cell?_of_block (o5 b' (λe=>hf.2.1 o (e ▸ hs)))) (λ_ h=>h) (λ_ _=>rfl) hr hu
  refine⟨b,spl arr off vs,t,hb,hF,heap_setCells_at b vs off w arr t (0,0) hh (by omega),by rw[spl_len (by omega),spl_len ho];exact hal,λu hu=> ?_,λj s u hs hu=> ?_⟩
  ·unfold spl at hu
   simp only[List.mem_append] at hu
   rcases hu with (hu|hu)|hu
   ·exact h1a u (List.mem_of_mem_take hu)
   ·exact h1 u hu
   ·exact h1a u (List.mem_of_mem_drop hu)
  ·rw[spl_get ho] at hs
   rw[spl_get (by omega),hl] at hu
   by_cases h1:j<off
   ·rw[if_pos h1] at hs hu;exact hsr (inUL_get hUcs hs) (hra j s u hs hu)
   ·by_cases h2:j<off+ks.length
    ·rw[if_neg h1,if_pos h2] at hs hu;exact hsr (inUL_get hU hs) (hr (j-off) s u hs hu)
    ·rw[if_neg h1,if_neg h2] at hs hu;exact hsr (inUL_get hUcs hs) (hra j s u hs hu)
 ·refine inUL_of λj s hs=> ?_
  rw[spl_get ho] at hs
  split at hs
  ·exact inUL_get hUcs hs
  ·split at hs
   ·exact inUL_get hU hs
   ·exact inUL_get hUcs hs
theorem OX.storeRow {ob:Obs}{U:Nat->Prop}{tp:Bool}{w:World}{c:Cx}(h:OX ob U tp w c){id i j g n cap:Nat}{e:TypeId}{t:Ty}{l:List (den t)}{x x':den t}{ks:List D}{vs:List Value}(hid:ob id=some (.row e t l))(hH:c.H id= .slice (some ⟨g,0,none⟩) n cap)(hi:l[i]? =some x)(hl:vs.length=ks.length)(ho:j+ks.length<=size t)
 (h1:∀u∈vs,u.oneCell'=true) (hr:∀(q:Nat)(d:D)(u:Value),ks[q]? =some d->vs[q]? =some u->Rd c.S w d u) (hx':dec t (spl (enc t x) j ks)=some x'):
 (∀q,q<vs.length->(w.cell? ⟨g,i * size t+j+q,none⟩).isSome=true/\w.frozen? ⟨g,i * size t+j+q,none⟩=false)/\
 OX (put ob id (some (.row e t (l.set i x')))) U tp (w.setCells g (i * size t+j) vs) c/\Tr ob U w c (put ob id (some (.row e t (l.set i x')))) U (w.setCells g (i * size t+j) vs) c:=by
 obtain⟨hUid,_,h0,⟨e1,_⟩|⟨g',cap',cur,hv,hF,hg,k1,k2,k3,k4⟩⟩:=h.objs id _ hid
 ·rw[e1] at hi;simp at hi
 rw[hH] at hv
 injection hv with e1 e2 e3
 injection e1 with e1
 injection e1 with e1
 subst e1 e2 e3
 have hil:=(List.getElem?_eq_some_iff.1 hi).1
 have hf:=h.fb id _ hid rfl g ((hF g).2 rfl)
 obtain⟨o1,o2,o3,o4,o5⟩:=setCells_os g vs (i * size t+j) w
 have hfit:i * size t+j+vs.length<=cur.size:=by
  rw[k3]
  have a1:(i+1) * size t<=cap * size t:=Nat.mul_le_mul_right _ (by omega)
  have a2:(i+1) * size t=i * size t+size t:=Nat.succ_mul _ _
  omega
 refine⟨λq hq=>⟨by rw[cell_row hg,Array.getElem?_eq_getElem (by omega)];rfl,by simp[World.frozen?,hg]⟩,?_⟩
 refine h.upd id (.row e t (l.set i x')) (λi=>i≠id) (λ_ h=>h) hUid (put_same _ _ _) (λi y hi e=>⟨e,by rw[put_ne _ _ e] at hi;exact hi⟩) (λe=>e rfl) (λ_ _=>⟨rfl,rfl⟩) (λ_ _ h=>h) (λ_ _ h=> .inl h) (λb' o hb'=>by rw[o4];exact h.sb b' o hb') rfl o1 o2 o3 (Nat.le_of_eq o4.symm)
  (λk hk hn=>o5 k (λe=>hn id _ hid rfl (λe=>e rfl) (by rw[e];exact (hF g).2 rfl))) ?_ trivial (λ_ k hk=> .inl ⟨id,_,hid,rfl,λe=>e rfl,hk⟩) (λ_ k hk=>by rw[o4];exact⟨(h.fb id _ hid rfl k hk).1,(h.fb id _ hid rfl k hk).2.1⟩)
 have hrd:∀{d:D}{u:Value},Rd c.S w d u->Rd c.S (w.setCells g (i * size t+j) vs) d u:=λhr=>hr.mono (λ_ _ h=>h) (λb' o hs=>World.cell?_of_block (o5 b' (λe=>hf.2.1 o (e ▸ hs))))
 have hg':w.heap[g]? =some (.cells cur.toList.toArray e (0,0)):=by simpa using hg
 have hh:=heap_setCells_at g vs (i * size t+j) w cur.toList e (0,0) hg' (by simpa using hfit)
 refine⟨h0,.inr ⟨g,cap,_,by rw[hH,List.length_set],hF,hh,by rw[List.length_set];exact k1,k2,?_,λq y hq p d hd=> ?_⟩⟩
 ·rw[List.size_toArray,spl_len (by simpa using hfit)];simpa using k3
 ·have hp:=enc_lt hd
  rw[List.getElem?_toArray,spl_get (by simpa using hfit)]
  rw[List.getElem?_set] at hq
  by_cases hqi:i=q
  ·subst hqi
   rw[if_pos rfl,if_pos hil] at hq
   injection hq with hq
   subst hq
   obtain⟨q1,q2⟩:=dec_rd hx'
   have hsl:(spl (enc t x) j ks).length=size t:=by rw[spl_len (by rw[enc_len];exact ho),enc_len]
   obtain⟨d',hd'⟩:∃d',(spl (enc t x) j ks)[p]? =some d':=⟨_,List.getElem?_eq_getElem (by rw[hsl];exact hp)⟩
   have hd2:=hd'
   rw[spl_get (by rw[enc_len];exact ho)] at hd2
   by_cases c1:p<j
   ·rw[if_pos c1] at hd2
    obtain⟨u,u1,u2,u3⟩:=k4 i x hi p d' hd2
    refine⟨u,by rw[if_pos (by omega)];simpa using u1,u2,hrd (q2 p d d' hd hd' u3)⟩
   ·by_cases c2:p<j+ks.length
    ·rw[if_neg c1,if_pos c2] at hd2
     have hvl:p-j<vs.length:=by omega
     refine⟨vs[p-j],?_,h1 _ (List.getElem_mem hvl),hrd (q2 p d d' hd hd' (hr (p-j) d' _ hd2 (List.getElem?_eq_getElem hvl)))⟩
     rw[if_neg (by omega),if_pos (by omega),show i * size t+p-(i * size t+j)=p-j by omega]
     exact List.getElem?_eq_getElem hvl
    ·rw[if_neg c1,if_neg c2] at hd2
     obtain⟨u,u1,u2,u3⟩:=k4 i x hi p d' hd2
     refine⟨u,by rw[if_neg (by omega),if_neg (by omega)];simpa using u1,u2,hrd (q2 p d d' hd hd' u3)⟩
  ·rw[if_neg hqi] at hq
   obtain⟨u,u1,u2,u3⟩:=k4 q y hq p d hd
   refine⟨u,?_,u2,hrd u3⟩
   have hne:q * size t+p<i * size t+j\/i * size t+j+vs.length<=q * size t+p:=by
    rcases Nat.lt_or_ge q i with c1|c1
    ·left
     have a1:(q+1) * size t<=i * size t:=Nat.mul_le_mul_right _ c1
     have a2:(q+1) * size t=q * size t+size t:=Nat.succ_mul _ _
     omega
    ·right
     have a1:(i+1) * size t<=q * size t:=Nat.mul_le_mul_right _ (by omega)
     have a2:(i+1) * size t=i * size t+size t:=Nat.succ_mul _ _
     omega
   rcases hne with c1|c1
   ·rw[if_pos c1];simpa using u1
   ·rw[if_neg (by omega),if_neg (by omega)];simpa using u1
theorem RowAt.store {w:World}{S:Cells}{v:Value}{F:Nat->Prop}{e:TypeId}{t:Ty}{l:List (den t)}(h:RowAt w S v F e t l){i j g n cap:Nat}{x x':den t}{ks:List D}{vs:List Value}(hv0:v= .slice (some ⟨g,0,none⟩) n cap)(hi:l[i]? =some x)(hl:vs.length=ks.length)(ho:j+ks.length<=size t)
 (h1:∀u∈vs,u.oneCell'=true) (hr:∀(q:Nat)(d:D)(u:Value),ks[q]? =some d->vs[q]? =some u->Rd S w d u) (hx':dec t (spl (enc t x) j ks)=some x') (hS:∀b o,S b o->b≠g):
 F g/\(∀q,q<vs.length->(w.cell? ⟨g,i * size t+j+q,none⟩).isSome=true/\w.frozen? ⟨g,i * size t+j+q,none⟩=false)/\
 RowAt (w.setCells g (i * size t+j) vs) S v F e t (l.set i x'):=by
 obtain⟨h0,⟨e1,_⟩|⟨g',cap',cur,hv,hF,hg,k1,k2,k3,k4⟩⟩:=h
 ·rw[e1] at hi;simp at hi
 rw[hv0] at hv
 injection hv with e1 e2 e3
 injection e1 with e1
 injection e1 with e1
 subst e1 e2 e3
 have hil:=(List.getElem?_eq_some_iff.1 hi).1
 obtain⟨o1,o2,o3,o4,o5⟩:=setCells_os g vs (i * size t+j) w
 have hfit:i * size t+j+vs.length<=cur.size:=by
  rw[k3]
  have a1:(i+1) * size t<=cap * size t:=Nat.mul_le_mul_right _ (by omega)
  have a2:(i+1) * size t=i * size t+size t:=Nat.succ_mul _ _
  omega
 refine⟨(hF g).2 rfl,λq hq=>⟨by rw[cell_row hg,Array.getElem?_eq_getElem (by omega)];rfl,by simp[World.frozen?,hg]⟩,?_⟩
 have hrd:∀{d:D}{u:Value},Rd S w d u->Rd S (w.setCells g (i * size t+j) vs) d u:=λhr=>hr.mono (λ_ _ h=>h) (λb' o hs=>World.cell?_of_block (o5 b' (hS b' o hs)))
 have hg':w.heap[g]? =some (.cells cur.toList.toArray e (0,0)):=by simpa using hg
 have hh:=heap_setCells_at g vs (i * size t+j) w cur.toList e (0,0) hg' (by simpa using hfit)
 refine⟨h0,.inr ⟨g,cap,_,by rw[hv0,List.length_set],hF,hh,by rw[List.length_set];exact k1,k2,?_,λq y hq p d hd=> ?_⟩⟩
 ·rw[List.size_toArray,spl_len (by simpa using hfit)];simpa using k3
 ·have hp:=enc_lt hd
  rw[List.getElem?_toArray,spl_get (by simpa using hfit)]
  rw[List.getElem?_set] at hq
  by_cases hqi:i=q
  ·subst hqi
   rw[if_pos rfl,if_pos hil] at hq
   injection hq with hq
   subst hq
   obtain⟨q1,q2⟩:=dec_rd hx'
   have hsl:(spl (enc t x) j ks).length=size t:=by rw[spl_len (by rw[enc_len];exact ho),enc_len]
   obtain⟨d',hd'⟩:∃d',(spl (enc t x) j ks)[p]? =some d':=⟨_,List.getElem?_eq_getElem (by rw[hsl];exact hp)⟩
   have hd2:=hd'
   rw[spl_get (by rw[enc_len];exact ho)] at hd2
   by_cases c1:p<j
   ·rw[if_pos c1] at hd2
    obtain⟨u,u1,u2,u3⟩:=k4 i x hi p d' hd2
    refine⟨u,by rw[if_pos (by omega)];simpa using u1,u2,hrd (q2 p d d' hd hd' u3)⟩
   ·by_cases c2:p<j+ks.length
    ·rw[if_neg c1,if_pos c2] at hd2
     have hvl:p-j<vs.length:=by omega
     refine⟨vs[p-j],?_,h1 _ (List.getElem_mem hvl),hrd (q2 p d d' hd hd' (hr (p-j) d' _ hd2 (List.getElem?_eq_getElem hvl)))⟩
     rw[if_neg (by omega),if_pos (by omega),show i * size t+p-(i * size t+j)=p-j by omega]
     exact List.getElem?_eq_getElem hvl
    ·rw[if_neg c1,if_neg c2] at hd2
     obtain⟨u,u1,u2,u3⟩:=k4 i x hi p d' hd2
     refine⟨u,by rw[if_neg (by omega),if_neg (by omega)];simpa using u1,u2,hrd (q2 p d d' hd hd' u3)⟩
  ·rw[if_neg hqi] at hq
   obtain⟨u,u1,u2,u3⟩:=k4 q y hq p d hd
   refine⟨u,?_,u2,hrd u3⟩
   have hne:q * size t+p<i * size t+j\/i * size t+j+vs.length<=q * size t+p:=by
    rcases Nat.lt_or_ge q i with c1|c1
    ·left
     have a1:(q+1) * size t<=i * size t:=Nat.mul_le_mul_right _ c1
     have a2:(q+1) * size t=q * size t+size t:=Nat.succ_mul _ _
     omega
    ·right
     have a1:(i+1) * size t<=q * size t:=Nat.mul_le_mul_right _ (by omega)
     have a2:(i+1) * size t=i * size t+size t:=Nat.succ_mul _ _
     omega
   rcases hne with c1|c1
   ·rw[if_pos c1];simpa using u1
   ·rw[if_neg (by omega),if_neg (by omega)];simpa using u1
theorem OX.storeNst {ob:Obs}{U:Nat->Prop}{tp:Bool}{w:World}{c:Cx}(h:OX ob U tp w c){id i z j g n cap:Nat}{e:TypeId}{t:Ty}{k:Nat}{e':TypeId}{t':Ty}{l:List (den t)}{x x':den t}{y y':den t'}{ks:List D}{vs us:List Value}{v:Value}(hid:ob id=some (.nst e t k e' t' l))(hH:c.H id= .tuple (v::us).toArray)(hu:us[i]? =some (.slice (some ⟨g,0,none⟩) n cap))
 (hi:l[i]? =some x) (hz:(kth t k t' x)[z]? =some y) (hl:vs.length=ks.length) (ho:j+ks.length<=size t')
 (h1:∀u∈vs,u.oneCell'=true) (hr:∀(q:Nat)(d:D)(u:Value),ks[q]? =some d->vs[q]? =some u->Rd c.S w d u) (hy':dec t' (spl (enc t' y) j ks)=some y') (hx':dec t ((enc t x).set k (.sl t' ((kth t k t' x).set z y')))=some x'):
 (∀q,q<vs.length->(w.cell? ⟨g,z * size t'+j+q,none⟩).isSome=true/\w.frozen? ⟨g,z * size t'+j+q,none⟩=false)/\
 OX (put ob id (some (.nst e t k e' t' (l.set i x')))) U tp (w.setCells g (z * size t'+j) vs) c/\Tr ob U w c (put ob id (some (.nst e t k e' t' (l.set i x')))) U (w.setCells g (z * size t'+j) vs) c:=by
 obtain⟨hUid,_,h0,hk,v',us',Fi,hH',hvs,⟨e1,_⟩|⟨gO,capO,cur,hv,hF,hg1,hg2,hg,k1,k2,k3,k4⟩⟩:=h.objs id _ hid
 ·rw[e1] at hi;simp at hi
 rw[hH] at hH'
 injection hH' with hH'
 have hH':=congrArg Array.toList hH'
 simp only[List.cons.injEq] at hH'
 obtain⟨a1,a2⟩:=hH'
 subst a1 a2
 have hil:=(List.getElem?_eq_some_iff.1 hi).1
 obtain⟨q1,li,u,q2,q3,q4,q5⟩:=k4 i x hi
 rw[kth_eq q2] at hz hx'
 rw[hu] at q3
 injection q3 with q3
 subst q3
 have hfi:∀b,Fi i b->c.F id b:=λb hb=>(hF b).2 (.inr ⟨i,hil,hb⟩)
 have hgF:Fi i g:=by
  obtain⟨_,⟨q0,_⟩|⟨g',cap',cur',hv',hF',_⟩⟩:=q5
  ·rw[q0] at hz;simp at hz
  ·injection hv' with b1
   injection b1 with b1
   injection b1 with b1
   subst b1
   exact (hF' g).2 rfl
 have hgS:∀b o,c.S b o->b≠g:=λb o hs e=>(h.fb id _ hid rfl g (hfi g hgF)).2.1 o (e ▸ hs)
 obtain⟨r1,r2,r3⟩:=q5.store (j:=j) (vs:=vs) rfl hz hl ho h1 hr hy' hgS
 obtain⟨o1,o2,o3,o4,o5⟩:=setCells_os g vs (z * size t'+j) w
 have hrd:∀{d:D}{u:Value},Rd c.S w d u->Rd c.S (w.setCells g (z * size t'+j) vs) d u:=λhr=>hr.mono (λ_ _ h=>h) (λb' o hs=>World.cell?_of_block (o5 b' (hgS b' o hs)))
 refine⟨r2,?_⟩
 refine h.upd id (.nst e t k e' t' (l.set i x')) (λi=>i≠id) (λ_ h=>h) hUid (put_same _ _ _) (λi y hi e=>⟨e,by rw[put_ne _ _ e] at hi;exact hi⟩) (λe=>e rfl) (λ_ _=>⟨rfl,rfl⟩) (λ_ _ h=>h) (λ_ _ h=> .inl h) (λb' o hb'=>by rw[o4];exact h.sb b' o hb') rfl o1 o2 o3 (Nat.le_of_eq o4.symm)
  (λb hb hn=>o5 b (λe=>hn id _ hid rfl (λe=>e rfl) (by rw[e];exact hfi g hgF))) ?_ trivial (λ_ b hb=> .inl ⟨id,_,hid,rfl,λe=>e rfl,hb⟩) (λ_ b hb=>by rw[o4];exact⟨(h.fb id _ hid rfl b hb).1,(h.fb id _ hid rfl b hb).2.1⟩)
 have hgO:gO≠g:=λe=>hg1 i (e ▸ hgF)
 refine⟨h0,hk,v,us,Fi,hH,by rw[hvs,List.length_set],.inr ⟨gO,capO,cur,by rw[List.length_set];exact hv,λb=>by rw[List.length_set];exact hF b,hg1,hg2,(o5 gO hgO).trans hg,by rw[List.length_set];exact k1,k2,k3,λq xq hq=> ?_⟩⟩
 rw[List.getElem?_set] at hq
 by_cases hqi:i=q
 ·subst hqi
  rw[if_pos rfl,if_pos hil] at hq
  injection hq with hq
  subst hq
  obtain⟨d1,d2⟩:=dec_rd hx'
  refine⟨λp d hp hd=> ?_,li.set z y',_,?_,hu,q4,r3⟩
  ·have hpl:=enc_lt hd
   have hd':((enc t x).set k (.sl t' (li.set z y')))[p]? =some ((enc t x)[p]'(by rw[enc_len];exact hpl)):=by
    rw[List.getElem?_set,if_neg (λe=>hp e.symm)]
    exact List.getElem?_eq_getElem _
   obtain⟨u,u1,u2,u3⟩:=q1 p _ hp (List.getElem?_eq_getElem (by rw[enc_len];exact hpl))
   exact⟨u,u1,u2,hrd (d2 p d _ hd hd' u3)⟩
  ·refine dec_sl hx' ?_
   rw[List.getElem?_set,if_pos rfl,if_pos (by rw[enc_len];exact hk)]
 ·rw[if_neg hqi] at hq
  obtain⟨p1,li2,u2,p2,p3,p4,p5⟩:=k4 q xq hq
  refine⟨λp d hp hd=> ?_,li2,u2,p2,p3,p4,p5.keep (λ_ _ h=>h) (λb' o hs=>World.cell?_of_block (o5 b' (hgS b' o hs))) λb hb=>o5 b λe=>hqi (hg2 i q g hgF (e ▸ hb))⟩
  obtain⟨u,u1,u2,u3⟩:=p1 p d hp hd
  exact⟨u,u1,u2,hrd u3⟩
def SrcOK (P:Program)(w:World)(S:Cells)(t:TypeId)(τ:Ty)(l:List (den τ))(v:Value):Prop:=
 ∃fy:Nat->Nat->Value,Src P (size τ) t v l.length ((List.range (l.length * size τ)).map (λq=>fy (q/size τ) (q % size τ))) w/\(∀i,i<l.length->∀j,j<size τ->(fy i j).oneCell'=true)/\
  ∀(i:Nat)(x:den τ)(j:Nat)(d:D),l[i]? =some x->(enc τ x)[j]? =some d->Rd S w d (fy i j)
theorem getElem?_flat {f:Nat->Nat->Value}{m sz q:Nat}(hq:q<m * sz):((List.range (m * sz)).map (λq=>f (q/sz) (q % sz)))[q]? =some (f (q/sz) (q % sz)):=by
 simp[hq]
theorem div_mod_at {sz i j:Nat}(hj:j<sz):(i * sz+j)/sz=i/\(i * sz+j) % sz=j:=by
 have h:0<sz:=by omega
 rw[Nat.add_comm,Nat.add_mul_div_right _ _ h,Nat.add_mul_mod_self_right,Nat.div_eq_of_lt hj,Nat.mod_eq_of_lt hj]
 exact⟨by omega,rfl⟩
theorem SrcOK.of {w:World}{S:Cells}{t:TypeId}{τ:Ty}{l:List (den τ)}{e:TypeId}(ht:P.underlying t=some (.slice e))(h0:0<size τ){ad:Option Addr}{cap:Nat}
 (ha:l=[]\/∃b off,ad=some ⟨b,off,none⟩/\∃f:Nat->Nat->Value,(∀(i:Nat),i<l.length->∀j,j<size τ->w.cell? ⟨b,off+i * size τ+j,none⟩=some (f i j)/\(f i j).oneCell'=true)/\
  ∀(i:Nat)(x:den τ)(j:Nat)(d:D),l[i]? =some x->(enc τ x)[j]? =some d->Rd S w d (f i j)):SrcOK P w S t τ l (.slice ad l.length cap):=by
 rcases ha with ha|⟨b,off,rfl,f,hx,hr⟩
 ·subst ha
  refine⟨λ_ _=>undef,?_,λi hi=>by simp at hi,λi x j d hi=>by simp at hi⟩
  cases ad with
  |none=>simpa using Src.ofNil (P:=P) w (size:=size τ) ht cap
  |some a=>simpa using Src.ofSlice (P:=P) w (size:=size τ) ht a 0 cap [] (by simp) (λj u h=>by simp at h) (λu h=>by simp at h)
 ·have hone:∀q,q<l.length * size τ->w.cell? ⟨b,off+q,none⟩=some (f (q/size τ) (q % size τ))/\(f (q/size τ) (q % size τ)).oneCell'=true:=λq hq=>by
   have h1:q/size τ<l.length:=Nat.div_lt_of_lt_mul (by rwa [Nat.mul_comm] at hq)
   have h2:q % size τ<size τ:=Nat.mod_lt _ h0
   have:=hx (q/size τ) h1 (q % size τ) h2
   rw[show off+q/size τ * size τ+q % size τ=off+q by rw[Nat.add_assoc,Nat.div_add_mod']] at this
   exact this
  refine⟨f,Src.ofSlice w ht _ _ _ _ (by simp) (λj u hj=> ?_) (λu hu=> ?_),λi hi j hj=>(hx i hi j hj).2,hr⟩
  ·have hj':j<l.length * size τ:=by have:=(List.getElem?_eq_some_iff.1 hj).1;simpa using this
   rw[getElem?_flat hj'] at hj
   injection hj with hj
   rw[addr_add,<-hj];exact (hone j hj').1
  ·simp at hu
   obtain⟨q,hq,rfl⟩:=hu
   exact (hone q hq).2
theorem SrcOK.ofRd {w:World}{S:Cells}{t:TypeId}{τ:Ty}{l:List (den τ)}{e:TypeId}(ht:P.underlying t=some (.slice e))(h0:0<size τ){v:Value}(h:Rd S w (.sl τ l) v):SrcOK P w S t τ l v:=by
 obtain⟨ad,cap,b,off,f,rfl,hc,hm,ha,hx,hr⟩:=h.slInv
 refine SrcOK.of ht h0 ?_
 rcases ha with ha|ha
 ·exact .inl ha
 ·exact .inr ⟨b,off,ha,f,λi hi j hj=>(hx i hi j hj).2,hr⟩
theorem rowCells {w:World}{S:Cells}{τ:Ty}{l:List (den τ)}{g:Nat}(h:∀i x,l[i]? =some x->∀j d,(enc τ x)[j]? =some d->∃u,w.cell? ⟨g,i * size τ+j,none⟩=some u/\u.oneCell'=true/\Rd S w d u):
 ∃f:Nat->Nat->Value,(∀(i:Nat),i<l.length->∀j,j<size τ->w.cell? ⟨g,i * size τ+j,none⟩=some (f i j)/\(f i j).oneCell'=true)/\∀(i:Nat)(x:den τ)(j:Nat)(d:D),l[i]? =some x->(enc τ x)[j]? =some d->Rd S w d (f i j):=by
 refine⟨λi j=>(w.cell? ⟨g,i * size τ+j,none⟩).getD undef,λi hi j hj=> ?_,λi x j d hi hd=> ?_⟩
 ·have hje:j<(enc τ l[i]).length:=by rw[enc_len];exact hj
  obtain⟨u,u1,u2,_⟩:=h i l[i] (List.getElem?_eq_getElem hi) j _ (List.getElem?_eq_getElem hje)
  show _=some ((w.cell? ⟨g,i * size τ+j,none⟩).getD undef)/\((w.cell? ⟨g,i * size τ+j,none⟩).getD undef).oneCell'=true
  rw[u1];exact⟨rfl,u2⟩
 ·obtain⟨u,u1,_,u3⟩:=h i x hi j d hd
  show Rd S w d ((w.cell? ⟨g,i * size τ+j,none⟩).getD undef)
  rw[u1];exact u3
theorem app_run (w:World)(t ty e:TypeId)(i:TypeInfo)(z:Value)(τ:Ty)(ht:P.underlying t=some (.slice e))(hi:P.info? e=some i)(hz:i.zero=some z)(hsize:i.size=size τ)(hzs:z.cells.size=size τ)
 {S:Cells} {v:Value} {F:Nat->Prop} {l:List (den τ)} (ho:RowAt w S v F e τ l) {x:Value} {m:Nat} {news:List Value} (hs:Src P (size τ) t x m news w) (h63:l.length+m<=maxLen) (hb:(l.length+m) * i.bytes<=140737488355328):
 ∃v' w',(Builtin.append_ #[t,t] ty #[v,x]).run P w= .ok v' w'/\((m=0/\v'=v/\w'=w)\/
  ∃(g cap:Nat)(arr:Array Value),v'= .slice (some ⟨g,0,none⟩) (l.length+m) cap/\l.length+m<=cap/\cap<=maxLen/\w'.heap[g]? =some (.cells arr e (0,0))/\arr.size=cap * size τ/\
   (∀(g0 c0:Nat)(cur:Array Value),v= .slice (some ⟨g0,0,none⟩) l.length c0->w.heap[g0]? =some (.cells cur e (0,0))->∀q,q<l.length * size τ->arr[q]? =cur[q]?)/\
   (∀(q:Nat)(u:Value),news[q]? =some u->arr[l.length * size τ+q]? =some u)/\w'.os=w.os/\w'.tape=w.tape/\w'.output=w.output/\w.heap.size<=w'.heap.size/\(∀k,k<w.heap.size->k≠g->w'.heap[k]? =w.heap[k]?)/\g<w'.heap.size/\((g=w.heap.size)\/F g)):=by
 rw[<-hsize] at hs hzs ⊢
 obtain⟨n,hn0⟩:∃n,l.length=n:=⟨_,rfl⟩
 rw[hn0] at h63 hb
 have hsmall:n+m<=9223372036854775807:=by simp only[maxLen] at h63;omega
 obtain⟨h00,⟨hl,⟨ad,hv⟩,_⟩|⟨g,cap,cur,hv,hF,hg,hn,hcm,hcs,hr⟩⟩:=ho
 ·subst hl
  simp at hn0
  subst hn0
  by_cases hm:m=0
  ·subst hm
   have hnw:news=[]:=List.eq_nil_of_length_eq_zero (by simpa using hs.newsLen)
   subst hnw
   subst hv
   exact⟨_,_,run_append_nothing (P:=P) w t t ty e i ht hi ad 0 0 (Nat.le_refl _) x hs,.inl ⟨rfl,rfl,rfl⟩⟩
  ·have hfc:(Builtin.firstCells i.size 0 (.slice ad 0 0)).run P w.drew= .ok #[] w.drew:=by
    cases ad with
    |none=>exact run_firstCells_none (P:=P) w.drew i.size 0 0 0
    |some a=>exact run_firstCells_some w.drew i.size 0 a 0 0 [] (by simp) (λj v h=>by simp at h)
   have hrun:=run_append_grow_src (P:=P) w t t ty e i z ht hi hz ad 0 0 [] hfc x m news hs (by omega) (by omega) (growslice_fits (by omega) hb)
   rw[hv]
   refine⟨_,_,hrun,.inr ⟨w.heap.size,_,_,rfl,grownCap_ge w (0+m) 0 e,grownCap_le_maxLen w (0+m) 0 e h63,heap_alloc_new w.drew _,?_,λg0 c0 cur hv0=> ?_,λq u hq=> ?_,rfl,rfl,rfl,by simp,λk hk _=>heap_alloc_old w.drew _ hk,by simp,.inl rfl⟩⟩
   ·have hge:=grownCap_ge w (0+m) 0 e
    simp only[Array.size_append,List.size_toArray,List.length_append,size_zeroCells,hzs,hs.newsLen,List.length_nil,Nat.zero_add,<-Nat.add_mul] at hge ⊢
    first|done|(congr 1;omega)
   ·intro _ q hq;simp at hq
   ·have hl:q<news.length:=(List.getElem?_eq_some_iff.1 hq).1
    simp only[List.length_nil,Nat.zero_mul,Nat.zero_add,List.nil_append]
    rw[Array.getElem?_append_left (by simpa using hl)]
    simpa using hq
 ·have hv2:v= .slice (some ⟨g,0,none⟩) n cap:=by rw[hv];simp[hn0]
  have hn2:n<=cap:=by rw[<-hn0];exact hn
  have hcs2:cur.size=cap * i.size:=by rw[hsize];exact hcs
  have hgl:=(Array.getElem?_eq_some_iff.1 hg).1
  by_cases hroom:n+m<=cap
  ·have hlen:n * i.size+news.length<=cur.size:=by rw[hs.newsLen,hcs2,<-Nat.add_mul];exact Nat.mul_le_mul_right _ hroom
   have hrun:=run_append_room_src (P:=P) w t t ty e i ht hi g 0 n cap x m news hs hroom (λj hj=>by rw[cell_row hg,Array.getElem?_eq_getElem (by rw[Nat.zero_add];omega)];rfl) (λj hj=>by simp[World.frozen?,hg])
   rw[<-hv2] at hrun
   have hg':w.heap[g]? =some (.cells cur.toList.toArray e (0,0)):=by simpa using hg
   rw[hn0]
   obtain⟨o1,o2,o3,o4,o5⟩:=setCells_os g news (0+n * i.size) w
   have hfit:0+n * i.size+news.length<=cur.toList.length:=by have e:cur.toList.length=cur.size:=Array.length_toList;omega
   refine⟨_,_,hrun,.inr ⟨g,cap,_,rfl,hroom,hcm,heap_setCells_at g news (0+n * i.size) w cur.toList e (0,0) hg' hfit,?_,λg0 c0 cur0 hv0 hg0 q hq=> ?_,λq u hq=> ?_,o1,o2,o3,Nat.le_of_eq o4.symm,λk _ hk=>o5 k hk,by rw[o4];exact hgl,.inr ((hF g).2 rfl)⟩⟩
   ·rw[List.size_toArray,spl_len hfit,Array.length_toList];exact hcs2
   ·rw[hv2] at hv0
    injection hv0 with e1 e2 e3
    injection e1 with e1
    injection e1 with e1
    subst e1
    rw[hg] at hg0
    injection hg0 with hg0
    injection hg0 with hg0
    subst hg0
    rw[List.getElem?_toArray,spl_get hfit,if_pos (by omega)]
    simp
   ·have hl:q<news.length:=(List.getElem?_eq_some_iff.1 hq).1
    rw[List.getElem?_toArray,spl_get hfit,if_neg (by omega),if_pos (by omega),show n * i.size+q-(0+n * i.size)=q by omega]
    exact hq
  ·have hol:(cur.toList.take (n * i.size)).length=n * i.size:=by
    rw[List.length_take,Array.length_toList,hcs2]
    exact Nat.min_eq_left (Nat.mul_le_mul_right _ hn2)
   have hfc:(Builtin.firstCells i.size n (.slice (some ⟨g,0,none⟩) n cap)).run P w.drew= .ok (cur.toList.take (n * i.size)).toArray w.drew:=
    run_firstCells_some w.drew i.size n ⟨g,0,none⟩ n cap _ hol (λj u hj=>by
     rw[addr_add]
     have hjl:j<n * i.size:=by have:=(List.getElem?_eq_some_iff.1 hj).1;rwa [hol] at this
     rw[List.getElem?_take,if_pos hjl] at hj
     have:=cell_of_row w g j cur e (0,0) hg
     simp at hj
     simpa [this] using hj)
   have hrun:=run_append_grow_src (P:=P) w t t ty e i z ht hi hz (some ⟨g,0,none⟩) n cap _ hfc x m news hs (by omega) (by omega) (growslice_fits (by omega) hb)
   rw[<-hv2] at hrun
   rw[hn0]
   refine⟨_,_,hrun,.inr ⟨w.heap.size,_,_,rfl,grownCap_ge w (n+m) cap e,grownCap_le_maxLen w (n+m) cap e h63,heap_alloc_new w.drew _,?_,λg0 c0 cur0 hv0 hg0 q hq=> ?_,λq u hq=> ?_,rfl,rfl,rfl,by simp,λk hk _=>heap_alloc_old w.drew _ hk,by simp,.inl rfl⟩⟩
   ·have hge:=grownCap_ge w (n+m) cap e
    simp only[Array.size_append,List.size_toArray,List.length_append,size_zeroCells,hzs,hs.newsLen,hol,<-Nat.add_mul]
    congr 1;omega
   ·rw[hv2] at hv0
    injection hv0 with e1 e2 e3
    injection e1 with e1
    injection e1 with e1
    subst e1
    rw[hg] at hg0
    injection hg0 with hg0
    injection hg0 with hg0
    subst hg0
    rw[Array.getElem?_append_left (by simp only[List.size_toArray,List.length_append,hol];omega),List.getElem?_toArray,List.getElem?_append_left (by rw[hol];exact hq),List.getElem?_take,if_pos hq]
    simp
   ·have hl:q<news.length:=(List.getElem?_eq_some_iff.1 hq).1
    rw[Array.getElem?_append_left (by simp only[List.size_toArray,List.length_append,hol];omega),List.getElem?_toArray,List.getElem?_append_right (by rw[hol];omega),hol,Nat.add_sub_cancel_left]
    exact hq
def dropO (ob:Obs):Option Nat->Obs
 |none=>ob
 |some id=>put ob id none
theorem dropO_some {ob:Obs}{old:Option Nat}{i:Nat}{y:Ob}(h:dropO ob old i=some y):old≠some i/\ob i=some y:=by
 cases old with
 |none=>exact⟨λe=>(by cases e),h⟩
 |some id=>
  by_cases e:i=id
  ·subst e;rw[show dropO ob (some i) i=none from put_same _ _ _] at h;cases h
  ·rw[show dropO ob (some id) i=ob i from put_ne _ _ e] at h
   exact⟨λe2=>e (by injection e2 with e2;exact e2.symm),h⟩
theorem OX.append {ob:Obs}{U:Nat->Prop}{tp:Bool}{w:World}{c:Cx}(h:OX ob U tp w c){k:Nat}(hk:¬U k){old:Option Nat}(t ty e:TypeId)(i:TypeInfo)(z:Value)(τ:Ty)(ht:P.underlying t=some (.slice e))(hi:P.info? e=some i)(hz:i.zero=some z)(hsize:i.size=size τ)(hzs:z.cells.size=size τ)
 {v:Value} {F:Nat->Prop} {l l2:List (den τ)} (ho:RowAt w c.S v F e τ l) (hF:∀b,F b->∃id y,old=some id/\ob id=some y/\y.own=true/\c.F id b) {x:Value} (hs:SrcOK P w c.S t τ l2 x) (h63:l.length+l2.length<=maxLen) (hb:(l.length+l2.length) * i.bytes<=140737488355328):
 ∃v' w' c',(Builtin.append_ #[t,t] ty #[v,x]).run P w= .ok v' w'/\c'.H k=v'/\OX (put (dropO ob old) k (some (.row e τ (l++l2)))) (addU U k) tp w' c'/\Tr ob U w c (put (dropO ob old) k (some (.row e τ (l++l2)))) (addU U k) w' c':=by
 obtain⟨fy,hsrc,hy1,hy2⟩:=hs
 obtain⟨v',w',hrun,hres⟩:=app_run (P:=P) w t ty e i z τ ht hi hz hsize hzs ho hsrc h63 hb
 have hne:∀i,U i->i≠k:=λi hi e=>hk (e ▸ hi)
 have hkeep:∀j y,put (dropO ob old) k (some (.row e τ (l++l2))) j=some y->j≠k->(j≠k/\old≠some j)/\ob j=some y:=λj y hj e=>by
  rw[put_ne _ _ e] at hj
  obtain⟨q1,q2⟩:=dropO_some hj
  exact⟨⟨e,q1⟩,q2⟩
 have hgone:∀b,F b->∃i y,ob i=some y/\y.own=true/\¬(i≠k/\old≠some i)/\c.F i b:=λb hb=>by
  obtain⟨id,y,e1,e2,e3,e4⟩:=hF b hb
  exact⟨id,y,e2,e3,λq=>q.2 e1,e4⟩
 have hold2:∀id,old=some id->∀j y,ob j=some y->¬(j≠k/\old≠some j)->j=id:=λid e j y hj q=>by
  have:j≠k:=hne j (h.objs j y hj).1
  rw[e] at q
  by_cases hji:j=id
  ·exact hji
  ·exact absurd ⟨this,λe2=>hji (by injection e2 with e2;exact e2.symm)⟩ q
 rcases hres with⟨hm,rfl,rfl⟩|⟨g,cap,arr,rfl,hcap,hcm,hg,harr,hold,hnew,o1,o2,o3,o4,o5,o6,hwhere⟩
 ·have hye:l2=[]:=List.eq_nil_of_length_eq_zero hm
  subst hye
  refine⟨_,_,⟨c.S,put c.H k v',put c.F k F,c.T⟩,hrun,put_same _ _ _,h.upd k (.row e τ (l++[])) (λj=>j≠k/\old≠some j) (λ_ h=> .inl h) (.inr rfl) (put_same _ _ _) hkeep (λe=>e.1 rfl) (λi hi=>⟨put_ne _ _ (hne i hi),put_ne _ _ (hne i hi)⟩) (λ_ _ h=>h) (λ_ _ h=> .inl h) (λb o hb=>h.sb b o hb)
   rfl rfl rfl rfl (Nat.le_refl _) (λ_ _ _=>rfl) ?_ trivial (λ_ b hb=> ?_) (λ_ b hb=> ?_)⟩
  ·show RowAt w' c.S (put c.H k v' k) (put c.F k F k) _ _ _
   rw[put_same,put_same,List.append_nil];exact ho
  ·have hb':put c.F k F k b:=hb
   rw[put_same] at hb'
   exact .inl (hgone b hb')
  ·have hb':put c.F k F k b:=hb
   rw[put_same] at hb'
   obtain⟨id,y,e1,e2,e3,e4⟩:=hF b hb'
   exact⟨(h.fb id y e2 e3 b e4).1,(h.fb id y e2 e3 b e4).2.1⟩
 ·have hgS:∀o,¬c.S g o:=λo hs=>by
   rcases hwhere with e1|e1
   ·have:=h.sb _ _ hs;omega
   ·obtain⟨id,y,_,e2,e3,e4⟩:=hF g e1
    exact (h.fb id y e2 e3 g e4).2.1 o hs
  have k2:∀b o,c.S b o->w'.cell? ⟨b,o,none⟩=w.cell? ⟨b,o,none⟩:=λb o hs=>World.cell?_of_block (o5 b (h.sb b o hs) (λe=>hgS o (e ▸ hs)))
  refine⟨_,_,⟨c.S,put c.H k (.slice (some ⟨g,0,none⟩) (l.length+l2.length) cap),put c.F k (·=g),c.T⟩,hrun,put_same _ _ _,h.upd k (.row e τ (l++l2)) (λj=>j≠k/\old≠some j) (λ_ h=> .inl h) (.inr rfl) (put_same _ _ _) hkeep (λe=>e.1 rfl) (λi hi=>⟨put_ne _ _ (hne i hi),put_ne _ _ (hne i hi)⟩) (λ_ _ h=>h) (λ_ _ h=> .inl h) (λb o hb=>Nat.lt_of_lt_of_le (h.sb b o hb) o4)
   rfl o1 o2 o3 o4 (λb hb hn=>o5 b hb (λe1=> ?_)) ?_ trivial (λ_ b hb=> ?_) (λ_ b hb=> ?_)⟩
  ·subst e1
   rcases hwhere with e1|e1
   ·omega
   ·obtain⟨j,y,q1,q2,q3,q4⟩:=hgone b e1
    exact hn j y q1 q2 q3 q4
  ·refine⟨ho.1,.inr ⟨g,cap,arr,?_,λb=>by show put c.F k (·=g) k b↔_;rw[put_same],hg,by simpa using hcap,hcm,harr,λq x hq j d hd=> ?_⟩⟩
   ·show put c.H k _ k=_
    rw[put_same];simp
   ·have hj:=enc_lt hd
    by_cases h1:q<l.length
    ·rw[List.getElem?_append_left h1] at hq
     obtain⟨_,⟨hl,_⟩|⟨g0,cap0,cur,e1,_,hg0,_,_,_,hr0⟩⟩:=ho
     ·subst hl;simp at h1
     ·obtain⟨u,u1,u2,u3⟩:=hr0 q x hq j d hd
      refine⟨u,?_,u2,u3.mono (λ_ _ h=>h) k2⟩
      rw[hold g0 cap0 cur e1 hg0 (q * size τ+j) (row_lt h1 hj)];exact u1
    ·rw[List.getElem?_append_right (by omega)] at hq
     have hil:q-l.length<l2.length:=(List.getElem?_eq_some_iff.1 hq).1
     refine⟨fy (q-l.length) j,?_,hy1 _ hil j hj,(hy2 _ x j d hq hd).mono (λ_ _ h=>h) k2⟩
     have e1:q * size τ=l.length * size τ+(q-l.length) * size τ:=by rw[<-Nat.add_mul];congr 1;omega
     have:=hnew ((q-l.length) * size τ+j) (fy (q-l.length) j) (by rw[getElem?_flat (row_lt hil hj),(div_mod_at hj).1,(div_mod_at hj).2])
     rw[e1,Nat.add_assoc];exact this
  ·have hb':put c.F k (·=g) k b:=hb
   rw[put_same] at hb'
   subst hb'
   rcases hwhere with e1|e1
   ·exact .inr (Nat.le_of_eq e1.symm)
   ·exact .inl (hgone b e1)
  ·have hb':put c.F k (·=g) k b:=hb
   rw[put_same] at hb'
   subst hb'
   exact⟨o6,hgS⟩
theorem rd_cells {w:World}{S:Cells}{τ:Ty}{l:List (den τ)}{g cap:Nat}(h1:l.length<=cap)(h2:cap<=maxLen)(h:∀i x,l[i]? =some x->∀j d,(enc τ x)[j]? =some d->∃u,w.cell? ⟨g,i * size τ+j,none⟩=some u/\u.oneCell'=true/\Rd S w d u)(hg:∀o,S g o):Rd S w (.sl τ l) (.slice (some ⟨g,0,none⟩) l.length cap):=by
 obtain⟨f,f1,f2⟩:=rowCells h
 refine Rd.sl τ l _ cap g 0 f h1 h2 (.inr rfl) (λi hi j hj=>⟨hg _,?_,(f1 i hi j hj).2⟩) f2
 rw[Nat.zero_add];exact (f1 i hi j hj).1
theorem OX.appendF {ob:Obs}{U:Nat->Prop}{tp:Bool}{w:World}{c:Cx}(h:OX ob U tp w c){k:Nat}(hk:¬U k){id:Nat}(t ty e:TypeId)(i:TypeInfo)(z:Value)(τ:Ty)(ht:P.underlying t=some (.slice e))(hi:P.info? e=some i)(hz:i.zero=some z)(hsize:i.size=size τ)(hzs:z.cells.size=size τ)
 {l l2:List (den τ)} (hid:ob id=some (.row e τ l)) {x:Value} (hs:SrcOK P w c.S t τ l2 x) (h63:l.length+l2.length<=maxLen) (hb:(l.length+l2.length) * i.bytes<=140737488355328):
 ∃v' w' c',(Builtin.append_ #[t,t] ty #[c.H id,x]).run P w= .ok v' w'/\c'.H k=v'/\OX (put (put (dropO ob (some id)) k (some (.fro τ (l++l2)))) id (some (.fro τ l))) (addU U k) tp w' c'/\Tr ob U w c (put (put (dropO ob (some id)) k (some (.fro τ (l++l2)))) id (some (.fro τ l))) (addU U k) w' c':=by
 obtain⟨hUid,_,ho⟩:=h.objs id _ hid
 have ho:RowAt w c.S (c.H id) (c.F id) e τ l:=ho
 have hfid:=h.fb id _ hid rfl
 obtain⟨fy,hsrc,hy1,hy2⟩:=hs
 obtain⟨v',w',hrun,hres⟩:=app_run (P:=P) w t ty e i z τ ht hi hz hsize hzs ho hsrc h63 hb
 have hne:∀i,U i->i≠k:=λi hi e=>hk (e ▸ hi)
 have hidk:id≠k:=hne id hUid
 have hkeep:∀j y,put (dropO ob (some id)) k (some (.fro τ (l++l2))) j=some y->j≠k->(j≠k/\some id≠some j)/\ob j=some y:=λj y hj e=>by
  rw[put_ne _ _ e] at hj
  obtain⟨q1,q2⟩:=dropO_some hj
  exact⟨⟨e,q1⟩,q2⟩
 have last:∀(S':Cells)(v':Value)(F':Nat->Prop)(w':World),(∀b o,c.S b o->S' b o)->Rd S' w' (.sl τ l) (c.H id)->(l=[]\/∃b n cap,c.H id= .slice (some ⟨b,0,none⟩) n cap)->
  OX (put (dropO ob (some id)) k (some (.fro τ (l++l2)))) (addU U k) tp w' ⟨S',put c.H k v',put c.F k F',c.T⟩->Tr ob U w c (put (dropO ob (some id)) k (some (.fro τ (l++l2)))) (addU U k) w' ⟨S',put c.H k v',put c.F k F',c.T⟩->
  OX (put (put (dropO ob (some id)) k (some (.fro τ (l++l2)))) id (some (.fro τ l))) (addU U k) tp w' ⟨S',put c.H k v',put c.F k F',c.T⟩/\Tr ob U w c (put (put (dropO ob (some id)) k (some (.fro τ (l++l2)))) id (some (.fro τ l))) (addU U k) w' ⟨S',put c.H k v',put c.F k F',c.T⟩:=λS' v' F' w' hS hrd hsl hox htr=>by
  obtain⟨k1,k2⟩:=hox.upd (ob':=put (put (dropO ob (some id)) k (some (.fro τ (l++l2)))) id (some (.fro τ l))) (w':=w') (c':=⟨S',put c.H k v',put c.F k F',c.T⟩) id (.fro τ l) (λi=>i≠id) (λ_ h=>h) (.inl hUid) (put_same _ _ _) (λi y hi e=>⟨e,by rw[put_ne _ _ e] at hi;exact hi⟩) (λe=>e rfl) (λ_ _=>⟨rfl,rfl⟩) (λ_ _ h=>h) (λ_ _ h=> .inl h) (λb o hb=>hox.sb b o hb) rfl rfl rfl rfl (Nat.le_refl _) (λ_ _ _=>rfl)
   (by
    have e1:put c.H k v' id=c.H id:=put_ne _ _ hidk
    refine⟨?_,?_⟩
    ·show Rd S' w' _ (put c.H k v' id)
     rw[e1];exact hrd
    ·show l=[]\/∃b n cap,put c.H k v' id=_
     rw[e1];exact hsl) trivial (λe=>by cases e) (λe=>by cases e)
  exact⟨k1,htr.trans k2⟩
 have hslice:∀(l3:List (den τ))(v:Value)(F:Nat->Prop)(w:World)(S:Cells),RowAt w S v F e τ l3->(l3=[]\/∃b n cap,v= .slice (some ⟨b,0,none⟩) n cap):=λl3 v F w S hr=>by
  obtain⟨_,⟨q,_⟩|⟨g,cap,_,q,_⟩⟩:=hr
  ·exact .inl q
  ·exact .inr ⟨g,_,_,q⟩
 rcases hres with⟨hm,rfl,rfl⟩|⟨g,cap,arr,rfl,hcap,hcm,hg,harr,hold,hnew,o1,o2,o3,o4,o5,o6,hwhere⟩
 ·have hye:l2=[]:=List.eq_nil_of_length_eq_zero hm
  subst hye
  let S':Cells:=λb o=>c.S b o\/c.F id b
  have hS:∀b o,c.S b o->S' b o:=λ_ _ h=> .inl h
  have hrd:Rd S' w' (.sl τ l) (c.H id):=ho.rd hS λb hb o=> .inr hb
  obtain⟨k1,k2⟩:=h.upd (ob':=put (dropO ob (some id)) k (some (.fro τ (l++[])))) (U':=addU U k) (w':=w') (c':=⟨S',put c.H k (c.H id),put c.F k (c.F id),c.T⟩) k (.fro τ (l++[])) (λj=>j≠k/\some id≠some j) (λ_ h=> .inl h) (.inr rfl) (put_same _ _ _) hkeep (λe=>e.1 rfl) (λi hi=>⟨put_ne _ _ (hne i hi),put_ne _ _ (hne i hi)⟩) hS
   (λb o hb=>by
    rcases hb with hb|hb
    ·exact .inl hb
    ·exact .inr (.inl ⟨id,_,hid,rfl,λe=>e.2 rfl,hb⟩))
   (λb o hb=>by
    rcases hb with hb|hb
    ·exact h.sb b o hb
    ·exact (hfid b hb).1) rfl rfl rfl rfl (Nat.le_refl _) (λ_ _ _=>rfl)
   (by
    refine⟨?_,?_⟩
    ·show Rd S' w' _ (put c.H k (c.H id) k)
     rw[put_same,List.append_nil];exact hrd
    ·show l++[]=[]\/∃b n cap,put c.H k (c.H id) k=_
     rw[put_same,List.append_nil];exact hslice l _ _ _ _ ho) trivial (λe=>by cases e) (λe=>by cases e)
  obtain⟨q1,q2⟩:=last S' (c.H id) (c.F id) w' hS hrd (hslice l _ _ _ _ ho) k1 k2
  exact⟨_,_,_,hrun,put_same _ _ _,q1,q2⟩
 ·have hgS:∀o,¬c.S g o:=λo hs=>by
   rcases hwhere with e1|e1
   ·have:=h.sb _ _ hs;omega
   ·exact (hfid g e1).2.1 o hs
  have k2:∀b o,c.S b o->w'.cell? ⟨b,o,none⟩=w.cell? ⟨b,o,none⟩:=λb o hs=>World.cell?_of_block (o5 b (h.sb b o hs) (λe=>hgS o (e ▸ hs)))
  let S':Cells:=λb o=>c.S b o\/c.F id b\/b=g
  have hS:∀b o,c.S b o->S' b o:=λ_ _ h=> .inl h
  have hnewrow:RowAt w' c.S (.slice (some ⟨g,0,none⟩) (l++l2).length cap) (·=g) e τ (l++l2):=by
   refine⟨ho.1,.inr ⟨g,cap,arr,rfl,λb=>Iff.rfl,hg,by simpa using hcap,hcm,harr,λq x hq j d hd=> ?_⟩⟩
   have hj:=enc_lt hd
   by_cases h1:q<l.length
   ·rw[List.getElem?_append_left h1] at hq
    obtain⟨_,⟨hl,_⟩|⟨g0,cap0,cur,e1,_,hg0,_,_,_,hr0⟩⟩:=ho
    ·subst hl;simp at h1
    ·obtain⟨u,u1,u2,u3⟩:=hr0 q x hq j d hd
     refine⟨u,?_,u2,u3.mono (λ_ _ h=>h) k2⟩
     rw[hold g0 cap0 cur e1 hg0 (q * size τ+j) (row_lt h1 hj)];exact u1
   ·rw[List.getElem?_append_right (by omega)] at hq
    have hil:q-l.length<l2.length:=(List.getElem?_eq_some_iff.1 hq).1
    refine⟨fy (q-l.length) j,?_,hy1 _ hil j hj,(hy2 _ x j d hq hd).mono (λ_ _ h=>h) k2⟩
    have e1:q * size τ=l.length * size τ+(q-l.length) * size τ:=by rw[<-Nat.add_mul];congr 1;omega
    have:=hnew ((q-l.length) * size τ+j) (fy (q-l.length) j) (by rw[getElem?_flat (row_lt hil hj),(div_mod_at hj).1,(div_mod_at hj).2])
    rw[e1,Nat.add_assoc];exact this
  have hrd1:Rd S' w' (.sl τ l) (c.H id):=by
   obtain⟨h0,⟨hl,⟨ad,hv⟩,hn⟩|⟨g0,cap0,cur,e1,eF,hg0,hc1,hc2,hc3,hr0⟩⟩:=ho
   ·subst hl
    rw[hv];exact Rd.nil _ _ _ (Nat.zero_le _)
   ·rw[e1]
    refine rd_cells hc1 hc2 (λq x hq j d hd=> ?_) λo=> .inr (.inl ((eF g0).2 rfl))
    obtain⟨u,u1,u2,u3⟩:=hr0 q x hq j d hd
    have hql:=(List.getElem?_eq_some_iff.1 hq).1
    refine⟨u,?_,u2,u3.mono hS k2⟩
    by_cases hgg:g0=g
    ·rw[hgg,cell_row hg,hold g0 cap0 cur e1 hg0 (q * size τ+j) (row_lt hql (enc_lt hd))];exact u1
    ·rw[cell_row ((o5 g0 (Array.getElem?_eq_some_iff.1 hg0).1 hgg).trans hg0)];exact u1
  have hrd2:Rd S' w' (.sl τ (l++l2)) (.slice (some ⟨g,0,none⟩) (l++l2).length cap):=hnewrow.rd hS λb hb o=> .inr (.inr hb)
  have el:(l++l2).length=l.length+l2.length:=List.length_append ..
  rw[el] at hrd2
  obtain⟨k1,k2'⟩:=h.upd (ob':=put (dropO ob (some id)) k (some (.fro τ (l++l2)))) (U':=addU U k) (w':=w') (c':=⟨S',put c.H k (.slice (some ⟨g,0,none⟩) (l.length+l2.length) cap),put c.F k (·=g),c.T⟩) k (.fro τ (l++l2)) (λj=>j≠k/\some id≠some j) (λ_ h=> .inl h) (.inr rfl) (put_same _ _ _) hkeep (λe=>e.1 rfl) (λi hi=>⟨put_ne _ _ (hne i hi),put_ne _ _ (hne i hi)⟩) hS
   (λb o hb=>by
    rcases hb with hb|hb|hb
    ·exact .inl hb
    ·exact .inr (.inl ⟨id,_,hid,rfl,λe=>e.2 rfl,hb⟩)
    ·subst hb
     rcases hwhere with e1|e1
     ·exact .inr (.inr (Nat.le_of_eq e1.symm))
     ·exact .inr (.inl ⟨id,_,hid,rfl,λe=>e.2 rfl,e1⟩))
   (λb o hb=>by
    rcases hb with hb|hb|hb
    ·exact Nat.lt_of_lt_of_le (h.sb b o hb) o4
    ·exact Nat.lt_of_lt_of_le (hfid b hb).1 o4
    ·subst hb;exact o6) rfl o1 o2 o3 o4
   (λb hb hn=>o5 b hb (λe1=>by
    subst e1
    rcases hwhere with e1|e1
    ·omega
    ·exact hn id _ hid rfl (λe=>e.2 rfl) e1))
   (by
    refine⟨?_,?_⟩
    ·show Rd S' w' _ (put c.H k _ k)
     rw[put_same];exact hrd2
    ·show l++l2=[]\/∃b n cap,put c.H k _ k=_
     rw[put_same];exact .inr ⟨_,_,_,rfl⟩) trivial (λe=>by cases e) (λe=>by cases e)
  obtain⟨q1,q2⟩:=last S' _ _ w' hS hrd1 (hslice l _ _ _ _ ho) k1 k2'
  exact⟨_,_,_,hrun,put_same _ _ _,q1,q2⟩
def cellsOf:SV->List SV
 | .d (.agg cs)=>cs.map SV.d
 | .agg cs=>cs
 |x=>[x]
def okc:SV->Bool
 | .d (.v (.agg _))=>false
 | .d (.v x)=>x.oneCell'
 | .d (.tup _)=>false
 | .d _=>true
 | .tup _=>false
 | .cnd _ _ _ _=>false
 | .un=>false
 | .sub _ _ _ _=>false
 | .ns _=>false
 | .inn _ _=>false
 |_=>true
def hOne (m:Mem):SV->Bool
 | .os id=>(rowOf m id).isSome||(dpOf m id).isSome
 |_=>true
theorem hOne_spec {m:Mem}{w:World}{c:Cx}(ox:OX m.ob m.U m.tp w c){s:SV}(h:hOne m s=true):∀id,s= .os id->(c.H id).cells= #[c.H id]/\(c.H id).oneCell'=true:=by
 rintro id rfl
 have h:((rowOf m id).isSome||(dpOf m id).isSome)=true:=h
 rcases (Bool.or_eq_true_iff).1 h with h|h
 ·obtain⟨⟨t,l⟩,hx⟩:=Option.isSome_iff_exists.1 h
  obtain⟨ad,cap,hv,_⟩:=rowOf_rel ox hx
  rw[hv];exact⟨rfl,rfl⟩
 ·obtain⟨⟨t,l⟩,hx⟩:=Option.isSome_iff_exists.1 h
  obtain⟨ad,cap,hv,_⟩:=dpOf_rel ox hx
  rw[hv];exact⟨rfl,rfl⟩
theorem cells_rd {c:Cx}{w:World}{x:SV}{u:Value}(h:SRel c w x u)(h1:okc x=true)(hO:∀id,x= .os id->(c.H id).cells= #[c.H id]/\(c.H id).oneCell'=true):
 u.cells.toList.length=(cellsOf x).length/\(∀v∈u.cells.toList,v.oneCell'=true)/\∀(j:Nat)(s:SV)(v:Value),(cellsOf x)[j]? =some s->u.cells.toList[j]? =some v->SRel c w s v:=by
 have one:∀(u:Value),(∀cs,u≠.agg cs)->u.cells= #[u]:=λu h=>by cases u<;>first|rfl|exact absurd rfl (h _)
 have fin:∀(x:SV)(u:Value),cellsOf x=[x]->SRel c w x u->u.cells= #[u]->u.oneCell'=true->u.cells.toList.length=(cellsOf x).length/\(∀v∈u.cells.toList,v.oneCell'=true)/\∀(j:Nat)(s:SV)(v:Value),(cellsOf x)[j]? =some s->u.cells.toList[j]? =some v->SRel c w s v:=by
  intro x u hx hr hu ho
  rw[hx,hu]
  refine⟨rfl,λv hv=>by simp at hv;rw[hv];exact ho,λj s v hs hv=> ?_⟩
  cases j with
  |zero=>simp at hs hv;rw[<-hs,<-hv];exact hr
  |succ j=>simp at hs
 cases h with
 |d x u h=>
  cases h with
  |v=>
   have hne:∀cs,u≠.agg cs:=λcs e=>by subst e;simp[okc] at h1
   refine fin _ _ rfl (.d _ _ (.v u)) (one u hne) ?_
   cases u<;>first|rfl|(exfalso;exact hne _ rfl)|(simp[okc,Value.oneCell'] at h1)
  |fn f cs us hl h=>exact fin _ _ rfl (.d _ _ (.fn f cs us hl h)) rfl rfl
  |agg cs us hl ho h=>
   refine⟨by simpa [Value.cells,cellsOf] using hl,λv hv=>ho v (by simpa [Value.cells] using hv),λj s v hs hv=> ?_⟩
   simp only[cellsOf,List.getElem?_map,Option.map_eq_some_iff] at hs
   obtain⟨y,hy,rfl⟩:=hs
   exact .d _ _ (h j y v hy (by simpa [Value.cells] using hv))
  |tup cs us hl h=>simp[okc] at h1
  |sl t l ad cap b off f hc hm ha hx h=>exact fin _ _ rfl (.d _ _ (.sl t l ad cap b off f hc hm ha hx h)) rfl rfl
  |p cs b off f hx h=>exact fin _ _ rfl (.d _ _ (.p cs b off f hx h)) rfl rfl
 |bx id off b h=>exact fin _ _ rfl (.bx id off b h) rfl rfl
 |os id=>
  obtain⟨e1,e2⟩:=hO id rfl
  exact fin _ _ rfl (.os id) e1 e2
 |sub id sz a b ad n cap h hab=>simp[okc] at h1
 |op id i sz j g n cap h hi=>exact fin _ _ rfl (.op id i sz j g n cap h hi) rfl rfl
 |agg cs us hl ho h=>exact⟨by simpa [Value.cells,cellsOf] using hl,λv hv=>ho v (by simpa [Value.cells] using hv),λj s v hs hv=>h j s v hs (by simpa [Value.cells] using hv)⟩
 |tup cs us hl h=>simp[okc] at h1
 |fn f cs us hl h=>exact fin _ _ rfl (.fn f cs us hl h) rfl rfl
 |cnd q wt g x u h h'=>simp[okc] at h1
 |tp T h=>exact fin _ _ rfl (.tp T h) rfl rfl
 |un=>simp[okc] at h1
 |ns=>simp[okc] at h1
 |inn=>simp[okc] at h1
 |np id i sz j g n cap vs h hi=>exact fin _ _ rfl (.np id i sz j g n cap vs h hi) rfl rfl
 |ip id i z sz j g n cap v vs h hi hu hz=>exact fin _ _ rfl (.ip id i z sz j g n cap v vs h hi hu hz) rfl rfl
theorem cellsOf_inU {U:Nat->Prop}{x:SV}(h:x.inU U):inUL U (cellsOf x):=by
 cases x with
 |d y=>cases y<;>first|exact inUL_map _ _|exact⟨trivial,trivial⟩
 |agg cs=>exact h
 |_=>exact⟨h,trivial⟩
theorem foldl_set:∀(vs:List Value)(k off:Nat)(cs:Array Value),off+k+vs.length<=cs.size->
 ((vs.zipIdx k).foldl (λ(cs:Array Value) (p:Value×Nat)=>cs.setIfInBounds (off+p.2) p.1) cs).toList=spl cs.toList (off+k) vs
 |[],k,off,cs,h=>by simp[spl]
 |v::vs,k,off,cs,h=>by
  simp at h
  rw[List.zipIdx_cons,List.foldl_cons,foldl_set vs (k+1) off _ (by simp;omega)]
  apply List.ext_getElem?
  intro j
  rw[spl_get (by simp;omega),spl_get (by simp;omega)]
  simp only[Array.toList_setIfInBounds,List.getElem?_set,List.length_cons,Array.length_toList]
  by_cases h1:j<off+k
  ·rw[if_pos (by omega),if_neg (by omega),if_pos h1]
  ·by_cases h2:j=off+k
   ·subst h2
    rw[if_pos (by omega),if_pos rfl,if_pos (by omega),if_neg (by omega),if_pos (by omega)];simp
   ·by_cases h3:j<off+k+(vs.length+1)
    ·rw[if_neg (by omega),if_pos (by omega),if_neg h1,if_pos h3,show j-(off+k)=(j-(off+(k+1)))+1 by omega];simp
    ·rw[if_neg (by omega),if_neg (by omega),if_neg (by omega),if_neg h1,if_neg h3]
def fillS (pl:List (Nat×Nat)):List SV->List (Nat×SV)->Option (List SV)
 |cells,[]=>some cells
 |cells,(i,s)::rest=>match pl[i]? with
  |some (off,sz)=>bif Nat.beq (cellsOf s).length sz&&Nat.ble (off+sz) cells.length&&okc s then fillS pl (spl cells off (cellsOf s)) rest else none
  |none=>none
theorem fill_rel {c:Cx}{w:World}{pl:List (Nat×Nat)}{place:Nat->Option (Nat×Nat)}(hp:∀i p,pl[i]? =some p->place i=some p):∀(parts:List (Nat×SV))(vals:List (Nat×Value))(cells:List SV)(arr:Array Value)(cs:List SV),
 vals.length=parts.length->(∀(i:Nat)(p:Nat×SV)(q:Nat×Value),parts[i]? =some p->vals[i]? =some q->p.1=q.1/\SRel c w p.2 q.2/\∀id,p.2= .os id->(c.H id).cells= #[c.H id]/\(c.H id).oneCell'=true)->
 arr.toList.length=cells.length->(∀u∈arr.toList,u.oneCell'=true)->(∀(j:Nat)(s:SV)(u:Value),cells[j]? =some s->arr.toList[j]? =some u->SRel c w s u)->fillS pl cells parts=some cs->
 ∃arr',Instr.fill place arr vals=some arr'/\arr'.toList.length=cs.length/\(∀u∈arr'.toList,u.oneCell'=true)/\∀(j:Nat)(s:SV)(u:Value),cs[j]? =some s->arr'.toList[j]? =some u->SRel c w s u
 |[],vals,cells,arr,cs,hl,hv,h1,h2,h3,h4=>by
  have:vals=[]:=List.eq_nil_of_length_eq_zero (by simpa using hl)
  subst this
  simp only[fillS,Option.some.injEq] at h4
  subst h4
  exact⟨arr,rfl,h1,h2,h3⟩
 |(i,s)::parts,[],cells,arr,cs,hl,_,_,_,_,_=>by simp at hl
 |(i,s)::parts,(i',u)::vals,cells,arr,cs,hl,hv,h1,h2,h3,h4=>by
  obtain⟨e,hs,hos⟩:=hv 0 (i,s) (i',u) rfl rfl
  simp only at e hs hos
  subst e
  unfold fillS at h4
  cases hpl:pl[i]? with
  |none=>rw[hpl] at h4;cases h4
  |some p=>
   obtain⟨off,sz⟩:=p
   rw[hpl] at h4
   cases hb:(Nat.beq (cellsOf s).length sz&&Nat.ble (off+sz) cells.length&&okc s) with
   |false=>simp only[hb,cond_false] at h4;cases h4
   |true=>
    simp only[hb,cond_true] at h4
    simp only[Bool.and_eq_true] at hb
    obtain⟨⟨hb1,hb2⟩,hb3⟩:=hb
    have hb1:=beq_eq hb1
    have hb2:=Nat.le_of_ble_eq_true hb2
    obtain⟨k1,k2,k3⟩:=cells_rd hs hb3 hos
    have hsz:u.cells.size=sz:=by rw[<-Array.length_toList];omega
    have hfold:(u.cells.zipIdx.foldl (λ(cs:Array Value) (p:Value×Nat)=>cs.setIfInBounds (off+p.2) p.1) arr).toList=spl arr.toList off u.cells.toList:=by
     rw[<-Array.foldl_toList,Array.toList_zipIdx]
     exact foldl_set u.cells.toList 0 off arr (by rw[Array.length_toList,hsz,<-Array.length_toList,h1];omega)
    obtain⟨arr',q1,q2,q3,q4⟩:=fill_rel hp parts vals (spl cells off (cellsOf s)) (u.cells.zipIdx.foldl (λ(cs:Array Value) (p:Value×Nat)=>cs.setIfInBounds (off+p.2) p.1) arr) cs (by simpa using hl) (λj p q hj hq=>hv (j+1) p q (by simpa using hj) (by simpa using hq)) (by rw[hfold,spl_len (by omega),spl_len (by omega)];exact h1) (λv hv'=>by
     rw[hfold] at hv'
     simp only[spl,List.mem_append] at hv'
     rcases hv' with (hv'|hv')|hv'
     ·exact h2 v (List.mem_of_mem_take hv')
     ·exact k2 v hv'
     ·exact h2 v (List.mem_of_mem_drop hv')) (λj s' v hs' hv'=>by
     rw[hfold,spl_get (by omega)] at hv'
     rw[spl_get (by omega)] at hs'
     by_cases g1:j<off
     ·rw[if_pos g1] at hs' hv';exact h3 j s' v hs' hv'
     ·by_cases g2:j<off+(cellsOf s).length
      ·rw[if_neg g1,if_pos g2] at hs'
       rw[if_neg g1,if_pos (by omega)] at hv'
       exact k3 _ s' v hs' hv'
      ·rw[if_neg g1,if_neg g2] at hs'
       rw[if_neg g1,if_neg (by omega)] at hv'
       exact h3 j s' v hs' hv') h4
    refine⟨arr',?_,q2,q3,q4⟩
    unfold Instr.fill
    rw[hp i _ hpl]
    have hnot:¬(u.cells.size≠sz\/arr.size<off+u.cells.size):=by
     rw[hsz]
     have:arr.size=cells.length:=by rw[<-Array.length_toList];exact h1
     omega
    simp only[hsz,ne_eq,not_true_eq_false,decide_false,Bool.false_or]
    rw[if_neg (by simp;have:arr.size=cells.length:=by rw[<-Array.length_toList];exact h1
                  omega)]
    exact q1
theorem fillS_inU {U:Nat->Prop}{pl:List (Nat×Nat)}:∀(parts:List (Nat×SV))(cells cs:List SV),inUL U cells->(∀p∈parts,p.2.inU U)->fillS pl cells parts=some cs->inUL U cs
 |[],cells,cs,h,_,h4=>by simp only[fillS,Option.some.injEq] at h4;subst h4;exact h
 |(i,s)::parts,cells,cs,h,hp,h4=>by
  unfold fillS at h4
  split at h4
  ·rename_i off sz _
   cases hb:(Nat.beq (cellsOf s).length sz&&Nat.ble (off+sz) cells.length&&okc s) with
   |false=>rw[hb] at h4;cases h4
   |true=>
    rw[hb] at h4
    simp only[Bool.and_eq_true] at hb
    have hb1:=beq_eq hb.1.1
    have hb2:=Nat.le_of_ble_eq_true hb.1.2
    refine fillS_inU parts _ cs (inUL_of λj s' hs'=> ?_) (λp hp'=>hp p (by simp[hp'])) h4
    rw[spl_get (by omega)] at hs'
    split at hs'
    ·exact inUL_get h hs'
    ·split at hs'
     ·exact inUL_get (cellsOf_inU (hp (i,s) (by simp))) hs'
     ·exact inUL_get h hs'
  ·cases h4
def places (P:Program)(t:TypeId)(n:Nat):Option (List (Nat×Nat)):=match P.underlying t with
 |some (.struct fs)=>fs.toList.mapM (λf=>(P.info? f.type).map λi=>(f.offset,i.size))
 |some (.array _ e)=>match P.info? e with
  |some i=>some ((List.range n).map λk=>(k * i.size,i.size))
  |none=>none
 |_=>none
theorem places_spec {t n:Nat}{pl:List (Nat×Nat)}{z:Value}(h:places P t n=some pl)(hz:(P.info? t).bind (·.zero)=some z):∃place:Nat->Option (Nat×Nat),(∀i p,pl[i]? =some p->place i=some p)/\∀vals arr,Instr.fill place z.cells vals=some arr->P.built t vals=some arr:=by
 cases hi:P.info? t with
 |none=>rw[hi] at hz;cases hz
 |some it=>
  rw[hi] at hz
  simp only[Option.bind_some] at hz
  unfold places at h
  split at h
  ·rename_i fs hu
   refine⟨λi=>pl.toArray[i]?,λi p hp=>by simpa using hp,λvals arr hf=> ?_⟩
   unfold Program.built
   simp only[hi,hu,hz,h]
   exact hf
  ·rename_i m e hu
   split at h
   ·rename_i ie hie
    injection h with h
    subst h
    refine⟨λi=>some (i * ie.size,ie.size),λi p hp=> ?_,λvals arr hf=> ?_⟩
    ·have hl:=(List.getElem?_eq_some_iff.1 hp).1
     simp only[List.length_map,List.length_range] at hl
     simp[hl] at hp
     rw[<-hp]
    ·unfold Program.built
     simp only[hi,hu,hz,hie]
     exact hf
   ·cases h
  ·cases h
def zeroOf (P:Program)(t:TypeId):Option (List Value):=match P.info? t with
 |some i=>match i.zero with
  |some z=>bif z.cells.toList.all (·.oneCell') then some z.cells.toList else none
  |none=>none
 |none=>none
theorem zeroOf_spec {t:TypeId}{zs:List Value}(h:zeroOf P t=some zs):∃i z,P.info? t=some i/\i.zero=some z/\z.cells.toList=zs/\∀u∈zs,u.oneCell'=true:=by
 unfold zeroOf at h
 split at h
 ·rename_i i hi
  split at h
  ·rename_i z hz
   cases hb:z.cells.toList.all (·.oneCell') with
   |false=>rw[hb] at h;cases h
   |true=>
    rw[hb] at h
    injection h with h
    exact⟨i,z,hi,hz,h,λu hu=>List.all_eq_true.1 hb u (h ▸ hu)⟩
  ·cases h
 ·cases h
def partsOf (ρ:Operand->SV)(xs:List (Nat×Operand)):List (Nat×SV):=xs.map λy=>(y.1,ρ y.2)
def pBuild (P:Program)(m:Mem)(ρ:Operand->SV)(t:TypeId)(xs:Array (Nat×Operand)):Option SV:=
 match zeroOf P t,places P t xs.size with
 |some zs,some pl=>bif (partsOf ρ xs.toList).all (λp=>hOne m p.2) then match fillS pl (zs.map λu=>SV.d (.v u)) (partsOf ρ xs.toList) with
  |some cs=>some (mkAgg cs)
  |none=>none
  else none
 |_,_=>none
theorem parts_rel {m:Mem}{ρ:Operand->SV}{a:Act}{w:World}{c:Cx}(hr:Rels m ρ a w c){xs:List (Nat×Operand)}(h:(partsOf ρ xs).all (λp=>hOne m p.2)=true):
 ∀(i:Nat)(p:Nat×SV)(q:Nat×Value),(partsOf ρ xs)[i]? =some p->(xs.map λy=>(y.1,a.eval y.2))[i]? =some q->p.1=q.1/\SRel c w p.2 q.2/\∀id,p.2= .os id->(c.H id).cells= #[c.H id]/\(c.H id).oneCell'=true:=by
 intro i p q hp hq
 have hone:hOne m p.2=true:=List.all_eq_true.1 h p (List.mem_of_getElem? hp)
 unfold partsOf at hp
 rw[List.getElem?_map,Option.map_eq_some_iff] at hp hq
 obtain⟨y,hy,rfl⟩:=hp
 obtain⟨y',hy',rfl⟩:=hq
 rw[hy] at hy'
 injection hy' with hy'
 subst hy'
 exact⟨rfl,hr.op y.2,hOne_spec hr.ox hone⟩
theorem pBuild_run {m:Mem}{ρ:Operand->SV}{t:TypeId}{xs:Array (Nat×Operand)}{r:SV}(h:pBuild P m ρ t xs=some r){a:Act}{w:World}{c:Cx}(hr:Rels m ρ a w c):∃v,(Instr.build t (xs.map λ(i,x)=>(i,a.eval x))).run P w= .ok v w/\SRel c w r v/\r.inU m.U:=by
 unfold pBuild at h
 split at h
 ·rename_i zs pl hz hpl
  cases hb:(partsOf ρ xs.toList).all (λp=>hOne m p.2) with
  |false=>rw[hb] at h;cases h
  |true=>
   rw[hb] at h
   simp only[cond_true] at h
   split at h
   ·rename_i cs hf
    injection h with h
    subst h
    obtain⟨i,z,hi,hz',hzc,h1⟩:=zeroOf_spec hz
    subst hzc
    obtain⟨place,hp1,hp2⟩:=places_spec (z:=z) hpl (by rw[hi];exact hz')
    obtain⟨arr,q1,q2,q3,q4⟩:=fill_rel (c:=c) (w:=w) (pl:=pl) (place:=place) hp1 (partsOf ρ xs.toList) (xs.toList.map λy=>(y.1,a.eval y.2)) _ z.cells cs (by simp[partsOf]) (parts_rel hr hb) (by simp) h1 (λj s u hj hu=>by
     rw[List.getElem?_map,hu] at hj;simp at hj;subst hj;exact .d _ _ (.v u)) hf
    have hparts:(xs.map λ(i,x)=>(i,a.eval x)).toList=xs.toList.map λy=>(y.1,a.eval y.2):=by simp
    have hrun:=run_build (P:=P) w t (xs.map λ(i,x)=>(i,a.eval x)) arr (by rw[hparts];exact hp2 _ _ q1)
    refine⟨_,hrun,?_,mkAgg_inU (fillS_inU _ _ _ (by
     have:=inUL_map m.U (z.cells.toList.map D.v)
     rwa [List.map_map] at this) (λp hp=> ?_) hf)⟩
    ·have:=srel_mkAgg (c:=c) (w:=w) q2 q3 q4
     simpa using this
    ·unfold partsOf at hp
     obtain⟨y,_,rfl⟩:=List.mem_map.1 hp
     exact hr.iu y.2
   ·cases h
 ·cases h
def lookU:List (Nat×Option Ob)->Nat->Option (Option Ob)
 |[],_=>none
 |(k,o)::r,x=>bif Nat.beq k x then some o else lookU r x
def ovr (ob:Obs)(l:List (Nat×Option Ob)):Obs:=λi=>match lookU l i with
 |some o=>o
 |none=>ob i
theorem lookU_cons (k:Nat)(o:Option Ob)(r:List (Nat×Option Ob))(i:Nat):lookU ((k,o)::r) i=if k=i then some o else lookU r i:=by
 show (bif Nat.beq k i then _ else _)=_
 by_cases h:k=i
 ·subst h;simp
 ·have:Nat.beq k i=false:=by
   cases hb:Nat.beq k i with
   |false=>rfl
   |true=>exact absurd (beq_eq hb) h
  rw[this,if_neg h];rfl
theorem ovr_cons (ob:Obs)(k:Nat)(o:Option Ob)(r:List (Nat×Option Ob)):ovr ob ((k,o)::r)=put (ovr ob r) k o:=by
 funext i
 unfold ovr put
 rw[lookU_cons]
 by_cases h:i=k
 ·subst h;simp
 ·rw[if_neg h,if_neg (λe=>h e.symm)]
theorem ovr_nil (ob:Obs):ovr ob []=ob:=rfl
def addN (U:Nat->Prop)(k n:Nat):Nat->Prop:=λi=>U i\/(k<=i/\i<k+n)
theorem addN_zero (U:Nat->Prop)(k:Nat):addN U k 0=U:=by
 funext i
 exact propext ⟨λh=>h.elim id (λh=>absurd h.2 (by omega)),.inl⟩
theorem addN_one (U:Nat->Prop)(k:Nat):addN U k 1=addU U k:=by
 funext i
 exact propext ⟨λh=>h.elim .inl (λh=> .inr (by omega)),λh=>h.elim .inl (λh=> .inr (by omega))⟩
mutual
def dataOf (m:Mem):SV->Option (D×List Nat)
 | .d x=>some (x,[])
 | .os id=>match m.ob id with
  |some (.row _ t l)=>some (.sl t l,[id])
  |some (.fro t l)=>some (.sl t l,[])
  |_=>none
 | .ns id=>match m.ob id with
  |some (.nst _ t _ _ _ l)=>some (.sl t l,[id])
  |some (.nfr t l)=>some (.sl t l,[])
  |_=>none
 | .agg cs=>match dataL m cs with
  |some (ds,ids)=>some (.agg ds,ids)
  |none=>none
 | .fn f cs=>match dataL m cs with
  |some (ds,ids)=>some (.fn f ds,ids)
  |none=>none
 |_=>none
def dataL (m:Mem):List SV->Option (List D×List Nat)
 |[]=>some ([],[])
 |s::r=>match dataOf m s,dataL m r with
  |some (d,i),some (ds,is)=>some (d::ds,i++is)
  |_,_=>none
end
def fzU (ob:Obs):List Nat->List (Nat×Option Ob)
 |[]=>[]
 |id::r=>match ob id with
  |some (.row _ t l)=>(id,some (.fro t l))::fzU ob r
  |some (.nst _ t _ _ _ l)=>(id,some (.nfr t l))::fzU ob r
  |_=>fzU ob r
theorem fzU_at (ob:Obs):∀(ids:List Nat)(i:Nat),(ovr ob (fzU ob ids) i=ob i/\(i∈ids->(∀e t l,ob i≠some (.row e t l))/\∀e t k e' t' l,ob i≠some (.nst e t k e' t' l)))\/(∃e t l,ob i=some (.row e t l)/\ovr ob (fzU ob ids) i=some (.fro t l)/\i∈ids)\/∃e t k e' t' l,ob i=some (.nst e t k e' t' l)/\ovr ob (fzU ob ids) i=some (.nfr t l)/\i∈ids
 |[],i=> .inl ⟨rfl,λh=>by cases h⟩
 |id::r,i=>by
  have ih:=fzU_at ob r i
  unfold fzU
  split
  ·rename_i e t l hid
   rw[ovr_cons]
   by_cases h:i=id
   ·subst h
    exact .inr (.inl ⟨e,t,l,hid,put_same _ _ _,by simp⟩)
   ·rw[put_ne _ _ h]
    rcases ih with⟨h1,h2⟩|⟨e',t',l',h1,h2,h3⟩|⟨e',t',k,a1,a2,l',h1,h2,h3⟩
    ·exact .inl ⟨h1,λhm=>h2 (by simpa [h] using hm)⟩
    ·exact .inr (.inl ⟨e',t',l',h1,h2,by simp[h3]⟩)
    ·exact .inr (.inr ⟨e',t',k,a1,a2,l',h1,h2,by simp[h3]⟩)
  ·rename_i e t k a1 a2 l hid
   rw[ovr_cons]
   by_cases h:i=id
   ·subst h
    exact .inr (.inr ⟨e,t,k,a1,a2,l,hid,put_same _ _ _,by simp⟩)
   ·rw[put_ne _ _ h]
    rcases ih with⟨h1,h2⟩|⟨e',t',l',h1,h2,h3⟩|⟨e',t',k,a1,a2,l',h1,h2,h3⟩
    ·exact .inl ⟨h1,λhm=>h2 (by simpa [h] using hm)⟩
    ·exact .inr (.inl ⟨e',t',l',h1,h2,by simp[h3]⟩)
    ·exact .inr (.inr ⟨e',t',k,a1,a2,l',h1,h2,by simp[h3]⟩)
  ·rename_i hn hn2
   rcases ih with⟨h1,h2⟩|⟨e',t',l',h1,h2,h3⟩|⟨e',t',k,a1,a2,l',h1,h2,h3⟩
   ·refine .inl ⟨h1,λhm=> ?_⟩
    rcases List.mem_cons.1 hm with e|e
    ·subst e;exact⟨λe t l he=>hn e t l he,λe t k a b l he=>hn2 e t k a b l he⟩
    ·exact h2 e
   ·exact .inr (.inl ⟨e',t',l',h1,h2,by simp[h3]⟩)
   ·exact .inr (.inr ⟨e',t',k,a1,a2,l',h1,h2,by simp[h3]⟩)
theorem OX.freezes {ob:Obs}{U:Nat->Prop}{tp:Bool}{w:World}{c:Cx}(h:OX ob U tp w c):∀(ids:List Nat),∃c',OX (ovr ob (fzU ob ids)) U tp w c'/\Tr ob U w c (ovr ob (fzU ob ids)) U w c'/\c'.H=c.H/\c'.T=c.T
 |[]=>⟨c,h,.refl,rfl,rfl⟩
 |id::r=>by
  obtain⟨c1,h1,t1,e1,e2⟩:=h.freezes r
  unfold fzU
  split
  ·rename_i e t l hid
   rw[ovr_cons]
   rcases fzU_at ob r id with⟨q1,q2⟩|⟨e',t',l',q1,q2,q3⟩|⟨e',t',k,a1,a2,l',q1,q2,q3⟩
   ·obtain⟨c2,h2,t2,e3,e4⟩:=h1.freeze (id:=id) (e:=e) (t:=t) (l:=l) (q1.trans hid)
    exact⟨c2,h2,t1.trans t2,e3.trans e1,e4.trans e2⟩
   ·rw[hid] at q1
    injection q1 with q1
    injection q1 with a1 a2 a3
    subst a2
    have a3:=eq_of_heq a3
    subst a3
    have:put (ovr ob (fzU ob r)) id (some (.fro t l))=ovr ob (fzU ob r):=by
     funext i
     by_cases hi:i=id
     ·subst hi;rw[put_same,q2]
     ·rw[put_ne _ _ hi]
    rw[this]
    exact⟨c1,h1,t1,e1,e2⟩
   ·rw[hid] at q1;cases q1
  ·rename_i e t k b1 b2 l hid
   rw[ovr_cons]
   rcases fzU_at ob r id with⟨q1,q2⟩|⟨e',t',l',q1,q2,q3⟩|⟨e',t',k,a1,a2,l',q1,q2,q3⟩
   ·obtain⟨c2,h2,t2,e3,e4⟩:=h1.freezeN (id:=id) (e:=e) (t:=t) (l:=l) (q1.trans hid)
    exact⟨c2,h2,t1.trans t2,e3.trans e1,e4.trans e2⟩
   ·rw[hid] at q1;cases q1
   ·rw[hid] at q1
    injection q1 with q1
    injection q1 with d1 d2 d3 d4 d5 d6
    subst d2
    have d6:=eq_of_heq d6
    subst d6
    have:put (ovr ob (fzU ob r)) id (some (.nfr t l))=ovr ob (fzU ob r):=by
     funext i
     by_cases hi:i=id
     ·subst hi;rw[put_same,q2]
     ·rw[put_ne _ _ hi]
    rw[this]
    exact⟨c1,h1,t1,e1,e2⟩
  ·exact⟨c1,h1,t1,e1,e2⟩
mutual
theorem dataOf_rel {m:Mem}{c c':Cx}{w:World}(h:OX m.ob m.U m.tp w c){ids0:List Nat}(h':OX (ovr m.ob (fzU m.ob ids0)) m.U m.tp w c')(t:Tr m.ob m.U w c (ovr m.ob (fzU m.ob ids0)) m.U w c')(hH:c'.H=c.H):
 ∀(s:SV){x:D}{ids:List Nat},dataOf m s=some (x,ids)->(∀i∈ids,i∈ids0)->∀{u:Value},SRel c w s u->Rd c'.S w x u
 | .d y,x,ids,hd,_,u,hr=>by
  simp only[dataOf,Option.some.injEq,Prod.mk.injEq] at hd
  rw[<-hd.1];exact t.rd h (srel_d hr)
 | .os id,x,ids,hd,hi,u,hr=>by
  unfold dataOf at hd
  rw[srel_os hr,<-hH]
  split at hd
  ·rename_i e ty l hob
   injection hd with hd
   injection hd with e1 e2
   subst e1 e2
   rcases fzU_at m.ob ids0 id with⟨q1,q2⟩|⟨e',t',l',q1,q2,q3⟩|⟨e',t',k,a1,a2,l',q1,q2,q3⟩
   ·exact absurd hob ((q2 (hi id (by simp))).1 e ty l)
   ·rw[hob] at q1
    injection q1 with q1
    injection q1 with a1 a2 a3
    subst a2
    have a3:=eq_of_heq a3
    subst a3
    exact (h'.objs id _ q2).2.2.1
   ·rw[hob] at q1;cases q1
  ·rename_i ty l hob
   injection hd with hd
   injection hd with e1 e2
   subst e1 e2
   rcases fzU_at m.ob ids0 id with⟨q1,q2⟩|⟨e',t',l',q1,q2,q3⟩|⟨e',t',k,a1,a2,l',q1,q2,q3⟩
   ·exact (h'.objs id _ (q1.trans hob)).2.2.1
   ·rw[hob] at q1;cases q1
   ·rw[hob] at q1;cases q1
  ·cases hd
 | .ns id,x,ids,hd,hi,u,hr=>by
  unfold dataOf at hd
  obtain⟨vs0,hH0⟩:=srel_ns hr
  rw[<-hH] at hH0
  split at hd
  ·rename_i e ty k e2 t2 l hob
   injection hd with hd
   injection hd with e1 e2
   subst e1 e2
   rcases fzU_at m.ob ids0 id with⟨q1,q2⟩|⟨e',t',l',q1,q2,q3⟩|⟨e',t',k,a1,a2,l',q1,q2,q3⟩
   ·exact absurd hob ((q2 (hi id (by simp))).2 _ _ _ _ _ _)
   ·rw[hob] at q1;cases q1
   ·rw[hob] at q1
    injection q1 with q1
    injection q1 with d1 d2 d3 d4 d5 d6
    subst d2
    have d6:=eq_of_heq d6
    subst d6
    obtain⟨v,vs,g1,g2⟩:=(h'.objs id _ q2).2.2
    rw[hH0] at g1
    injection g1 with g1
    have g1:=congrArg Array.toList g1
    simp only[List.cons.injEq] at g1
    rw[g1.1];exact g2
  ·rename_i ty l hob
   injection hd with hd
   injection hd with e1 e2
   subst e1 e2
   rcases fzU_at m.ob ids0 id with⟨q1,q2⟩|⟨e',t',l',q1,q2,q3⟩|⟨e',t',k,a1,a2,l',q1,q2,q3⟩
   ·obtain⟨v,vs,g1,g2⟩:=(h'.objs id _ (q1.trans hob)).2.2
    rw[hH0] at g1
    injection g1 with g1
    have g1:=congrArg Array.toList g1
    simp only[List.cons.injEq] at g1
    rw[g1.1];exact g2
   ·rw[hob] at q1;cases q1
   ·rw[hob] at q1;cases q1
  ·cases hd
 | .agg cs,x,ids,hd,hi,u,hr=>by
  unfold dataOf at hd
  split at hd
  ·rename_i ds is hl
   injection hd with hd
   injection hd with e1 e2
   subst e1 e2
   obtain⟨us,rfl,h1,h2,h3⟩:=srel_agg hr
   obtain⟨k1,k2⟩:=dataL_rel h h' t hH cs hl hi
   exact Rd.agg ds us (by omega) h2 λi d u hd hu=>by
    have hil:i<cs.length:=by have:=(List.getElem?_eq_some_iff.1 hd).1;omega
    exact k2 i cs[i] d (List.getElem?_eq_getElem hil) hd (h3 i cs[i] u (List.getElem?_eq_getElem hil) hu)
  ·cases hd
 | .fn f cs,x,ids,hd,hi,u,hr=>by
  unfold dataOf at hd
  split at hd
  ·rename_i ds is hl
   injection hd with hd
   injection hd with e1 e2
   subst e1 e2
   obtain⟨k1,k2⟩:=dataL_rel h h' t hH cs hl hi
   cases hr with
   |fn _ _ us h1 h3=>
    exact Rd.fn f ds us (by omega) λi d u hd hu=>by
     have hil:i<cs.length:=by have:=(List.getElem?_eq_some_iff.1 hd).1;omega
     exact k2 i cs[i] d (List.getElem?_eq_getElem hil) hd (h3 i cs[i] u (List.getElem?_eq_getElem hil) hu)
  ·cases hd
 | .bx _ _,_,_,hd,_,_,_| .sub _ _ _ _,_,_,hd,_,_,_| .op _ _ _ _,_,_,hd,_,_,_| .tup _,_,_,hd,_,_,_| .cnd _ _ _ _,_,_,hd,_,_,_| .tp,_,_,hd,_,_,_| .un,_,_,hd,_,_,_| .np _ _ _ _,_,_,hd,_,_,_| .inn _ _,_,_,hd,_,_,_| .ip _ _ _ _ _,_,_,hd,_,_,_=>by simp[dataOf] at hd
theorem dataL_rel {m:Mem}{c c':Cx}{w:World}(h:OX m.ob m.U m.tp w c){ids0:List Nat}(h':OX (ovr m.ob (fzU m.ob ids0)) m.U m.tp w c')(t:Tr m.ob m.U w c (ovr m.ob (fzU m.ob ids0)) m.U w c')(hH:c'.H=c.H):
 ∀(ss:List SV){ds:List D}{ids:List Nat},dataL m ss=some (ds,ids)->(∀i∈ids,i∈ids0)->ss.length=ds.length/\∀(i:Nat)(s:SV)(d:D),ss[i]? =some s->ds[i]? =some d->∀{u:Value},SRel c w s u->Rd c'.S w d u
 |[],ds,ids,hd,_=>by
  simp only[dataL,Option.some.injEq,Prod.mk.injEq] at hd
  rw[<-hd.1]
  exact⟨rfl,λi s d h=>by simp at h⟩
 |s::r,ds,ids,hd,hi=>by
  unfold dataL at hd
  split at hd
  ·rename_i d i1 ds' is h1 h2
   injection hd with hd
   injection hd with e1 e2
   subst e1 e2
   obtain⟨k1,k2⟩:=dataL_rel h h' t hH r h2 (λi hm=>hi i (by simp[hm]))
   refine⟨by simp[k1],λi s' d' hs hd u hr=> ?_⟩
   cases i with
   |zero=>simp at hs hd;subst hs hd;exact dataOf_rel h h' t hH s h1 (λi hm=>hi i (by simp[hm])) hr
   |succ i=>simp at hs hd;exact k2 i s' d' hs hd hr
  ·cases hd
end
structure ERes where
 ps:List Cnd
 fs:List Prop
 r:SV
 ob:List (Nat×Option Ob)
 cnt:Nat
def EffR (P:Program)(o:Oper)(m:Mem)(ρ:Operand->SV)(k:Nat)(R:ERes):Prop:=
 ∀a w c,RelsC m ρ a w c->(∀i,k<=i->i<k+R.cnt->¬m.U i)->allC R.ps->∀(K:Act->World->Prop)(Q:Exit->Act->World->Prop),
  (∀v c' w',OX (ovr m.ob R.ob) (addN m.U k R.cnt) m.tp w' c'->Tr m.ob m.U w c (ovr m.ob R.ob) (addN m.U k R.cnt) w' c'->SRel c' w' R.r v->R.r.inU (addN m.U k R.cnt)->allL R.fs->K (a.put o.dst v) w')->o.wp P a w K Q
theorem wp_value {o:Oper}{a:Act}{w w':World}{v:Value}{K:Act->World->Prop}{Q:Exit->Act->World->Prop}(h:(execOp a.eval o).run P w= .ok (.value v) w')(k:K (a.put o.dst v) w'):o.wp P a w K Q:=by
 unfold Oper.wp;rw[h];exact k
theorem wp_skip' {o:Oper}{a:Act}{w w':World}{K:Act->World->Prop}{Q:Exit->Act->World->Prop}(h:(execOp a.eval o).run P w= .ok .skip w')(k:K (a.put o.dst undef) w'):o.wp P a w K Q:=by
 unfold Oper.wp;rw[h];exact k
def eBox (k:Nat)(cs:List SV):ERes:=⟨[],[],.bx k 0,[(k,some (.box cs))],1⟩
theorem box_fin {o:Oper}{m:Mem}{ρ:Operand->SV}{k:Nat}{cs:List SV}{a:Act}{w:World}{c:Cx}(hr:RelsC m ρ a w c)(hk:∀i,k<=i->i<k+1->¬m.U i){arr:List Value}{t:TypeId}(hrun:(execOp a.eval o).run P w= .ok (.value (.pointer (some ⟨w.heap.size,0,none⟩))) (w.alloc (.cells arr.toArray t)))
 (hl:arr.length=cs.length) (h1:∀u∈arr,u.oneCell'=true) (hs:∀(j:Nat)(s:SV)(u:Value),cs[j]? =some s->arr[j]? =some u->SRel c w s u) (hU:inUL m.U cs) {K:Act->World->Prop} {Q:Exit->Act->World->Prop}
 (hK:∀v c' w',OX (ovr m.ob (eBox k cs).ob) (addN m.U k (eBox k cs).cnt) m.tp w' c'->Tr m.ob m.U w c (ovr m.ob (eBox k cs).ob) (addN m.U k (eBox k cs).cnt) w' c'->SRel c' w' (eBox k cs).r v->(eBox k cs).r.inU (addN m.U k (eBox k cs).cnt)->allL (eBox k cs).fs->K (a.put o.dst v) w'):o.wp P a w K Q:=by
 obtain⟨c',k1,k2,k3⟩:=hr.ox.box (hk k (Nat.le_refl _) (by omega)) t hl h1 hs hU
 refine wp_value hrun (hK _ c' _ ?_ ?_ (.bx k 0 _ k3) (.inr ⟨Nat.le_refl _,by show k<k+1;omega⟩) trivial)
 ·show OX (ovr m.ob [(k,some (.box cs))]) (addN m.U k 1) _ _ _
  rw[ovr_cons,ovr_nil,addN_one];exact k1
 ·show Tr _ _ _ _ (ovr m.ob [(k,some (.box cs))]) (addN m.U k 1) _ _
  rw[ovr_cons,ovr_nil,addN_one];exact k2
def eAlloc (P:Program)(k:Nat)(e:TypeId):Option ERes:=match zeroOf P e with
 |some zs=>some (eBox k (zs.map λu=>SV.d (.v u)))
 |none=>none
theorem eAlloc_ok {o:Oper}{m:Mem}{ρ:Operand->SV}{k:Nat}{e:TypeId}{R:ERes}(he:o.op= .alloc e)(h:eAlloc P k e=some R):EffR P o m ρ k R:=by
 intro a w c hr hk hp K Q hK
 unfold eAlloc at h
 split at h
 ·rename_i zs hz
  injection h with h
  subst h
  obtain⟨i,z,hi,hz',hzc,h1⟩:=zeroOf_spec hz
  subst hzc
  refine box_fin (t:=e) (arr:=z.cells.toList) hr hk ?_ (by simp) h1 (λj s u hs hu=> ?_) ?_ hK
  ·simp[execOp,he,Instr.alloc,zeroValue,typeInfo,hi,hz',newVar,newRow]
  ·rw[List.getElem?_map,hu] at hs;simp at hs;subst hs;exact .d _ _ (.v u)
  ·have:=inUL_map m.U (z.cells.toList.map D.v)
   rwa [List.map_map] at this
 ·cases h
def eBoxV (m:Mem)(k:Nat)(s:SV):Option ERes:=bif okc s&&hOne m s then some (eBox k (cellsOf s)) else none
theorem eBoxV_ok {o:Oper}{m:Mem}{ρ:Operand->SV}{k:Nat}{e:TypeId}{x:Operand}{R:ERes}(he:o.op= .box e x)(h:eBoxV m k (ρ x)=some R):EffR P o m ρ k R:=by
 intro a w c hr hk hp K Q hK
 unfold eBoxV at h
 cases hb:(okc (ρ x)&&hOne m (ρ x)) with
 |false=>rw[hb] at h;cases h
 |true=>
  rw[hb] at h
  injection h with h
  subst h
  obtain⟨b1,b2⟩:=Bool.and_eq_true_iff.1 hb
  obtain⟨k1,k2,k3⟩:=cells_rd (hr.op x) b1 (hOne_spec hr.ox b2)
  refine box_fin (t:=e) (arr:=(a.eval x).cells.toList) hr hk ?_ k1 k2 k3 (cellsOf_inU (hr.iu x)) hK
  simp[execOp,he,Instr.box,newVar,newRow]
def szTy (P:Program)(t sz:Nat):Bool:=match P.info? t with
 |some i=>Nat.beq i.size sz
 |none=>false
theorem run_store (t:TypeId)(w:World)(b o:Nat)(u:Value)(h:szTy P t u.cells.toList.length=true)(hc:∀j,j<u.cells.toList.length->(w.cell? ⟨b,o+j,none⟩).isSome=true)(hf:∀j,j<u.cells.toList.length->w.frozen? ⟨b,o+j,none⟩=false)
 (h1:∀v∈u.cells.toList,v.oneCell'=true):(Instr.storeAt t (.pointer (some ⟨b,o,none⟩)) u).run P w= .ok () (w.setCells b o u.cells.toList):=by
 unfold szTy at h
 cases hi:P.info? t with
 |none=>rw[hi] at h;cases h
 |some i=>
  rw[hi] at h
  have hs:i.size=u.cells.size:=by simpa using beq_eq h
  have:=run_storeCells_cells (P:=P) b o u.cells.toList 0 w (by simpa using hc) (by simpa using hf) h1
  rw[Nat.add_zero] at this
  simp[Instr.storeAt,Instr.sureAddr,storeVar,sizeOf,typeInfo,hi,hs,this]
def eStore (P:Program)(m:Mem)(t:TypeId)(x y:SV):Option ERes:=match x with
 | .bx id off=>match m.ob id with
  |some (.box cs)=>bif okc y&&hOne m y&&szTy P t (cellsOf y).length&&Nat.ble (off+(cellsOf y).length) cs.length then some ⟨[],[],.un,[(id,some (.box (spl cs off (cellsOf y))))],0⟩ else none
  |_=>none
 | .op id z sz j=>match dataOf m y with
  |some (d,ids)=>match ovr m.ob (fzU m.ob ids) id with
   |some (.row e ty l)=>match dec ty (spl (enc ty (ix l z)) j (dCells d)) with
    |some x'=>bif okc (.d d)&&Nat.beq sz (size ty)&&szTy P t (dCells d).length&&Nat.ble (j+(dCells d).length) sz then some ⟨[],[],.un,(id,some (.row e ty (l.set z.toNat x')))::fzU m.ob ids,0⟩ else none
    |none=>none
   |_=>none
  |none=>none
 | .ip id i z sz j=>match dataOf m y with
  |some (d,ids)=>match ovr m.ob (fzU m.ob ids) id with
   |some (.nst e ty kk e' t' l)=>match dec t' (spl (enc t' (ix (kth ty kk t' (ix l i)) z)) j (dCells d)) with
    |some y'=>match dec ty ((enc ty (ix l i)).set kk (.sl t' ((kth ty kk t' (ix l i)).set z.toNat y'))) with
     |some x'=>bif okc (.d d)&&Nat.beq sz (size t')&&szTy P t (dCells d).length&&Nat.ble (j+(dCells d).length) sz then some ⟨[],[],.un,(id,some (.nst e ty kk e' t' (l.set i.toNat x')))::fzU m.ob ids,0⟩ else none
     |none=>none
    |none=>none
   |_=>none
  |none=>none
 |_=>none
where dCells:D->List D
 | .agg cs=>cs
 |x=>[x]
theorem dCells_eq (d:D):cellsOf (.d d)=(eStore.dCells d).map SV.d:=by cases d<;>rfl
theorem eStore_ok {o:Oper}{m:Mem}{ρ:Operand->SV}{k:Nat}{t:TypeId}{x y:Operand}{R:ERes}(he:o.op= .store t x y)(h:eStore P m t (ρ x) (ρ y)=some R):EffR P o m ρ k R:=by
 intro a w c hr hk hp K Q hK
 unfold eStore at h
 have hx:=hr.op x
 split at h
 ·rename_i id off hxe
  rw[hxe] at hx
  split at h
  ·rename_i cs hob
   cases hb:(okc (ρ y)&&hOne m (ρ y)&&szTy P t (cellsOf (ρ y)).length&&Nat.ble (off+(cellsOf (ρ y)).length) cs.length) with
   |false=>rw[hb] at h;cases h
   |true=>
    rw[hb] at h
    injection h with h
    subst h
    simp only[Bool.and_eq_true] at hb
    obtain⟨⟨⟨b1,b2⟩,b3⟩,b4⟩:=hb
    have b4:=Nat.le_of_ble_eq_true b4
    obtain⟨k1,k2,k3⟩:=cells_rd (hr.op y) b1 (hOne_spec hr.ox b2)
    obtain⟨b,hbH,hbu⟩:=srel_bx hx
    obtain⟨_,_,b',arr,t',q1,q2,q3,q4,q5,q6⟩:=hr.ox.objs id _ hob
    rw[hbH] at q1
    injection q1 with q1
    injection q1 with q1
    injection q1 with q1
    subst q1
    have hst:=run_store (P:=P) t w b off (a.eval y) (by rw[k1];exact b3) (λj hj=>by rw[cell_row q3,List.getElem?_toArray,List.getElem?_eq_getElem (by omega)];rfl) (λj hj=>by simp[World.frozen?,q3]) k2
    obtain⟨r1,r2⟩:=hr.ox.store (off:=off) hob hbH k1 b4 k2 k3 (cellsOf_inU (hr.iu y))
    refine wp_skip' (w':=w.setCells b off (a.eval y).cells.toList) (by simp[execOp,he,hbu,hst]) (hK _ c _ ?_ ?_ (.un _) trivial trivial)
    ·show OX (ovr m.ob [_]) (addN m.U k 0) _ _ _
     rw[ovr_cons,ovr_nil,addN_zero];exact r1
    ·show Tr _ _ _ _ (ovr m.ob [_]) (addN m.U k 0) _ _
     rw[ovr_cons,ovr_nil,addN_zero];exact r2
  ·cases h
 ·rename_i id z sz j hxe
  rw[hxe] at hx
  split at h
  ·rename_i d ids hd
   split at h
   ·rename_i e ty l hob
    split at h
    ·rename_i x' hx'
     cases hb:(okc (.d d)&&Nat.beq sz (size ty)&&szTy P t (eStore.dCells d).length&&Nat.ble (j+(eStore.dCells d).length) sz) with
     |false=>rw[hb] at h;cases h
     |true=>
      rw[hb] at h
      injection h with h
      subst h
      simp only[Bool.and_eq_true] at hb
      obtain⟨⟨⟨b1,b2⟩,b3⟩,b4⟩:=hb
      have b4:=Nat.le_of_ble_eq_true b4
      have b2:=beq_eq b2
      subst b2
      obtain⟨c1,ox1,t1,e1,e2⟩:=hr.ox.freezes ids
      have hrd:=dataOf_rel hr.ox ox1 t1 e1 (ρ y) hd (λ_ h=>h) (hr.op y)
      obtain⟨k1,k2,k3⟩:=cells_rd (c:=c1) (.d _ _ hrd) b1 (λid e=>by cases e)
      rw[dCells_eq,List.length_map] at k1
      rw[dCells_eq] at k3
      obtain⟨g,n,cap,hH,hu,hz⟩:=srel_op hx
      rw[<-e1] at hH
      have hnl:n=l.length:=by
       obtain⟨_,⟨q0,⟨ad,q1⟩,_⟩|⟨g',cap',cur,q1,_⟩⟩:=(ox1.objs id _ hob).2.2
       ·rw[hH] at q1;injection q1 with a1 a2 a3;rw[a2,q0];rfl
       ·rw[hH] at q1;injection q1
      subst hnl
      obtain⟨r0,r1,r2⟩:=ox1.storeRow (id:=id) (i:=z.toNat) (j:=j) (vs:=(a.eval y).cells.toList) hob hH (ix_get (l:=l) (i:=z) ⟨hz.1,hz.2⟩) k1 b4 k2 (λq d' u hq hu=>srel_d (k3 q (.d d') u (by rw[List.getElem?_map,hq];rfl) hu)) hx'
      have hst:=run_store (P:=P) t w g (z.toNat * size ty+j) (a.eval y) (by rw[k1];exact b3) (λq hq=>(r0 q hq).1) (λq hq=>(r0 q hq).2) k2
      refine wp_skip' (w':=w.setCells g (z.toNat * size ty+j) (a.eval y).cells.toList) (by simp[execOp,he,hu,hst]) (hK _ c1 _ ?_ ?_ (.un _) trivial trivial)
      ·show OX (ovr m.ob (_::_)) (addN m.U k 0) _ _ _
       rw[ovr_cons,addN_zero];exact r1
      ·show Tr _ _ _ _ (ovr m.ob (_::_)) (addN m.U k 0) _ _
       rw[ovr_cons,addN_zero];exact t1.trans r2
    ·cases h
   ·cases h
  ·cases h
 ·rename_i id i z sz j hxe
  rw[hxe] at hx
  split at h
  ·rename_i d ids hd
   split at h
   ·rename_i e ty kk e' t' l hob
    split at h
    ·rename_i y' hy'
     split at h
     ·rename_i x' hx'
      cases hb:(okc (.d d)&&Nat.beq sz (size t')&&szTy P t (eStore.dCells d).length&&Nat.ble (j+(eStore.dCells d).length) sz) with
      |false=>rw[hb] at h;cases h
      |true=>
       rw[hb] at h
       injection h with h
       subst h
       simp only[Bool.and_eq_true] at hb
       obtain⟨⟨⟨b1,b2⟩,b3⟩,b4⟩:=hb
       have b4:=Nat.le_of_ble_eq_true b4
       have b2:=beq_eq b2
       subst b2
       obtain⟨c1,ox1,t1,e1,e2⟩:=hr.ox.freezes ids
       have hrd:=dataOf_rel hr.ox ox1 t1 e1 (ρ y) hd (λ_ h=>h) (hr.op y)
       obtain⟨k1,k2,k3⟩:=cells_rd (c:=c1) (.d _ _ hrd) b1 (λid e=>by cases e)
       rw[dCells_eq,List.length_map] at k1
       rw[dCells_eq] at k3
       obtain⟨v,vs,g,n,cap,hH,hi,hu,hue,hz⟩:=srel_ip hx
       rw[<-e1] at hH
       have hnst:nstOf ⟨ovr m.ob (fzU m.ob ids),m.U,m.tp⟩ id=some ⟨ty,kk,t',l⟩:=by unfold nstOf;rw[show (Mem.mk (ovr m.ob (fzU m.ob ids)) m.U m.tp).ob id=some (.nst e ty kk e' t' l) from hob]
       obtain⟨ad,cap',vs',hv,hc,hm,hl,hkk,hcell⟩:=nstOf_rel (m:=⟨ovr m.ob (fzU m.ob ids),m.U,m.tp⟩) ox1 hnst
       have hH0:=hH
       rw[hv] at hH0
       injection hH0 with hH0
       have hH0:=congrArg Array.toList hH0
       simp only[List.cons.injEq] at hH0
       obtain⟨a0,a1⟩:=hH0
       subst a0 a1
       have hil:i.toNat<l.length:=by have:=(List.getElem?_eq_some_iff.1 hu).1;omega
       obtain⟨_,_,_,_,ad',cap2,w1,_⟩:=hcell i.toNat _ (ix_get (l:=l) (i:=i) ⟨hi,by omega⟩)
       have w1':=w1
       rw[hu] at w1'
       injection w1' with w1'
       injection w1' with f1 f2 f3
       subst f1 f2 f3
       obtain⟨r0,r1,r2⟩:=ox1.storeNst (id:=id) (i:=i.toNat) (z:=z.toNat) (j:=j) (vs:=(a.eval y).cells.toList) hob hH hu (ix_get (l:=l) (i:=i) ⟨hi,by omega⟩) (ix_get (l:=kth ty kk t' (ix l i)) (i:=z) hz) k1 b4 k2 (λq d' u hq hu=>srel_d (k3 q (.d d') u (by rw[List.getElem?_map,hq];rfl) hu)) hy' hx'
       have hst:=run_store (P:=P) t w g (z.toNat * size t'+j) (a.eval y) (by rw[k1];exact b3) (λq hq=>(r0 q hq).1) (λq hq=>(r0 q hq).2) k2
       refine wp_skip' (w':=w.setCells g (z.toNat * size t'+j) (a.eval y).cells.toList) (by simp[execOp,he,hue,hst]) (hK _ c1 _ ?_ ?_ (.un _) trivial trivial)
       ·show OX (ovr m.ob (_::_)) (addN m.U k 0) _ _ _
        rw[ovr_cons,addN_zero];exact r1
       ·show Tr _ _ _ _ (ovr m.ob (_::_)) (addN m.U k 0) _ _
        rw[ovr_cons,addN_zero];exact t1.trans r2
     ·cases h
    ·cases h
   ·cases h
  ·cases h
 ·cases h
def sub {α:Type}(l:List α)(a b:Int):List α:=(l.take b.toNat).drop a.toNat
def SubOK (a b n:Int):Prop:=0<=a/\a<=b/\b<=n
theorem subV_len {sz a b:Nat}{ad:Option Addr}{n cap:Nat}:subV sz a b (.slice ad n cap)= .slice (if cap=a then ad else ad.map (·.add (a * sz))) (b-a) (cap-a):=rfl
theorem sub_get {α:Type}{l:List α}{a b:Int}{i:Nat}{x:α}(h:(sub l a b)[i]? =some x):l[a.toNat+i]? =some x:=by
 unfold sub at h
 rw[List.getElem?_drop,List.getElem?_take] at h
 split at h
 ·exact h
 ·cases h
theorem sub_len {α:Type}{l:List α}{a b:Int}(h:SubOK a b l.length):(sub l a b).length=b.toNat-a.toNat:=by
 obtain⟨h1,h2,h3⟩:=h
 unfold sub
 rw[List.length_drop,List.length_take]
 omega
theorem Rd.sub {S:Cells}{w:World}{t:Ty}{l:List (den t)}{ad:Option Addr}{n cap:Nat}(h:Rd S w (.sl t l) (.slice ad n cap)){a b:Int}(hab:SubOK a b l.length):Rd S w (.sl t (RE.sub l a b)) (subV (size t) a.toNat b.toNat (.slice ad n cap)):=by
 obtain⟨ad',cap',bl,off,f,e,hc,hm,ha,hx,hr⟩:=h.slInv
 injection e with e1 e2 e3
 subst e1 e2 e3
 have hl:=sub_len hab
 obtain⟨h1,h2,h3⟩:=hab
 rw[subV_len,<-hl]
 by_cases he:a.toNat=b.toNat
 ·have e0:RE.sub l a b=[]:=List.eq_nil_of_length_eq_zero (by omega)
  rw[e0]
  exact Rd.nil _ _ _ (by simp only[maxLen] at hm ⊢;omega)
 ·have hne:l≠[]:=λe=>by rw[e] at h3;simp at h3;omega
  have had:ad=some ⟨bl,off,none⟩:=ha.resolve_left hne
  subst had
  rw[if_neg (by omega)]
  refine Rd.sl t _ _ (cap-a.toNat) bl (off+a.toNat * size t) (λi j=>f (a.toNat+i) j) (by omega) (by simp only[maxLen] at hm ⊢;omega) (.inr (by simp[addr_add])) (λi hi j hj=> ?_) (λi x j d hi hd=>hr (a.toNat+i) x j d (sub_get hi) hd)
  have e:off+a.toNat * size t+i * size t+j=off+(a.toNat+i) * size t+j:=by rw[Nat.add_mul];omega
  rw[e]
  exact hx (a.toNat+i) (by omega) j hj
def intS:SV->Option (Option Int)
 | .d (.v (.int .i64 z))=>some (some z)
 |_=>none
def optI (ρ:Operand->SV):Option Operand->Option (Option Int)
 |none=>some none
 |some x=>intS (ρ x)
def pSliceS (P:Program)(ρ:Operand->SV)(t:TypeId)(x:SV)(lo hi:Option Operand):Option PRes:=
 match x,optI ρ lo,optI ρ hi with
 | .d (.v (.string s)),some lo,some hi=>bif isStrT P t then okp (.sub (lo.getD 0) (hi.getD (s.size:Nat)) (s.size:Nat)) (.d (.v (.string (s.extract (lo.getD 0).toNat (hi.getD (s.size:Nat)).toNat)))) else none
 |_,_,_=>none
theorem optI_key {ρ:Operand->SV}{a:Act}{w:World}{c:Cx}(hop:∀x,SRel c w (ρ x) (a.eval x)){o:Option Operand}{z:Option Int}(h:optI ρ o=some z):o.map a.eval=z.map (λz=>Value.int .i64 z):=by
 cases o with
 |none=>simp only[optI,Option.some.injEq] at h;subst h;rfl
 |some x=>
  have hx:=hop x
  have h:intS (ρ x)=some z:=h
  unfold intS at h
  split at h
  ·rename_i z' hz
   injection h with h
   subst h
   rw[hz] at hx
   simp[srel_v hx]
  ·cases h
theorem pSliceS_run {m:Mem}{ρ:Operand->SV}{t:TypeId}{x:Operand}{lo hi:Option Operand}{R:PRes}(h:pSliceS P ρ t (ρ x) lo hi=some R){a:Act}{w:World}{c:Cx}(hr:Rels m ρ a w c)(hp:allC R.ps):
 ∃v,(Instr.sliceAt t (a.eval x) (lo.map a.eval) (hi.map a.eval) none).run P w= .ok v w/\SRel c w R.r v/\R.r.inU m.U/\allL R.fs:=by
 unfold pSliceS at h
 have hx:=hr.op x
 split at h
 ·rename_i s zlo zhi hxe hlo hhi
  rw[hxe] at hx
  have hx:=srel_v hx
  cases hb:isStrT P t with
  |false=>rw[hb] at h;cases h
  |true=>
   rw[hb] at h
   cases okp_eq h
   have hu:=isStrT_spec hb
   have hp1:0<=zlo.getD 0/\zlo.getD 0<=zhi.getD (s.size:Nat)/\zhi.getD (s.size:Nat)<=((s.size:Nat):Int):=hp.1
   obtain⟨h1,h2,h3⟩:=hp1
   refine⟨.string (s.extract (zlo.getD 0).toNat (zhi.getD (s.size:Nat)).toNat),?_,v_srel _,trivial,trivial⟩
   rw[hx,optI_key hr.op hlo,optI_key hr.op hhi]
   cases zlo with
   |none=>
    cases zhi with
    |none=>simp[Instr.sliceAt,Instr.slice,run_underlying hu,Instr.sliceBounds]
    |some q=>
     simp at h1 h2 h3
     have b1:0<=q/\q<=(s.size:Int):=by omega
     simp[Instr.sliceAt,Instr.slice,run_underlying hu,Instr.sliceBounds,Instr.sliceBound,asIntOf,b1]
   |some p=>
    cases zhi with
    |none=>
     simp at h1 h2 h3
     have b2:0<=p/\p<=(s.size:Int):=by omega
     simp[Instr.sliceAt,Instr.slice,run_underlying hu,Instr.sliceBounds,Instr.sliceBound,asIntOf,b2]
    |some q=>
     simp at h1 h2 h3
     have b1:0<=q/\q<=(s.size:Int):=by omega
     have b2:0<=p/\p<=((q.toNat:Nat):Int):=by omega
     simp[Instr.sliceAt,Instr.slice,run_underlying hu,Instr.sliceBounds,Instr.sliceBound,asIntOf,b1,b2]
     try exact λhh=>absurd hh (by omega)
 ·cases h
def pSlice (P:Program)(m:Mem)(ρ:Operand->SV)(t:TypeId)(x:SV)(lo hi:Option Operand):Option PRes:=
 match elemOf P t,optI ρ lo,optI ρ hi with
 |some e,some lo,some hi=>match x with
  | .d (.sl ty l)=>bif Nat.beq (tsz P e) (size ty) then okp (.sub (lo.getD 0) (hi.getD (l.length:Nat)) (l.length:Nat)) (.d (.sl ty (sub l (lo.getD 0) (hi.getD (l.length:Nat))))) else none
  | .os id=>match rowOf m id with
   |some ⟨ty,l⟩=>bif Nat.beq (tsz P e) (size ty) then okp (.sub (lo.getD 0) (hi.getD (l.length:Nat)) (l.length:Nat)) (.sub id (size ty) (lo.getD 0) (hi.getD (l.length:Nat))) else none
   |none=>none
  |_=>none
 |_,_,_=>pSliceS P ρ t x lo hi
theorem slice_run {m:Mem}{ρ:Operand->SV}{t e:TypeId}(he:elemOf P t=some e){lo hi:Option Operand}{zlo zhi:Option Int}(hlo:optI ρ lo=some zlo)(hhi:optI ρ hi=some zhi){a:Act}{w:World}{c:Cx}(hop:∀x,SRel c w (ρ x) (a.eval x)){ad:Option Addr}{n cap:Nat}(hc:n<=cap)
 (hb:SubOK (zlo.getD 0) (zhi.getD (n:Nat)) (n:Nat)):(Instr.sliceAt t (.slice ad n cap) (lo.map a.eval) (hi.map a.eval) none).run P w= .ok (subV (tsz P e) (zlo.getD 0).toNat (zhi.getD (n:Nat)).toNat (.slice ad n cap)) w:=by
 obtain⟨inf,hu,hi',hs⟩:=elemOf_spec he
 have key:∀{o:Option Operand}{z:Option Int},optI ρ o=some z->o.map a.eval=z.map (λz=>Value.int .i64 z):=λ{o z} h=>by
  cases o with
  |none=>simp only[optI,Option.some.injEq] at h;subst h;rfl
  |some x=>
   have hx:=hop x
   have h:intS (ρ x)=some z:=h
   unfold intS at h
   split at h
   ·rename_i z' hz
    injection h with h
    subst h
    rw[hz] at hx
    simp[srel_v hx]
   ·cases h
 rw[key hlo,key hhi]
 obtain⟨h1,h2,h3⟩:=hb
 cases zlo with
 |none=>
  cases zhi with
  |none=>simp at h1 h2 h3;simp[Instr.sliceAt,Instr.slice,run_underlying hu,Instr.sliceBounds,sizeOf,typeInfo,hi',subV]
  |some q=>
   simp at h1 h2 h3
   have b1:0<=q/\q<=(cap:Int):=by omega
   simp[Instr.sliceAt,Instr.slice,run_underlying hu,Instr.sliceBounds,Instr.sliceBound,asIntOf,b1,sizeOf,typeInfo,hi',subV]
 |some p=>
  cases zhi with
  |none=>
   simp at h1 h2 h3
   have b2:0<=p/\p<=(n:Int):=by omega
   simp[Instr.sliceAt,Instr.slice,run_underlying hu,Instr.sliceBounds,Instr.sliceBound,asIntOf,b2,sizeOf,typeInfo,hi',hs,subV]
  |some q=>
   simp at h1 h2 h3
   have b1:0<=q/\q<=(cap:Int):=by omega
   have b2:0<=p/\p<=((q.toNat:Nat):Int):=by omega
   simp[Instr.sliceAt,Instr.slice,run_underlying hu,Instr.sliceBounds,Instr.sliceBound,asIntOf,b1,b2,sizeOf,typeInfo,hi',hs,subV]
   exact λhh=>absurd hh (by omega)
theorem pSlice_run {m:Mem}{ρ:Operand->SV}{t:TypeId}{x:Operand}{lo hi:Option Operand}{R:PRes}(h:pSlice P m ρ t (ρ x) lo hi=some R){a:Act}{w:World}{c:Cx}(hr:Rels m ρ a w c)(hp:allC R.ps):
 ∃v,(Instr.sliceAt t (a.eval x) (lo.map a.eval) (hi.map a.eval) none).run P w= .ok v w/\SRel c w R.r v/\R.r.inU m.U/\allL R.fs:=by
 unfold pSlice at h
 have hx:=hr.op x
 have hxu:=hr.iu x
 split at h
 ·rename_i e zlo zhi he hlo hhi
  split at h
  ·rename_i ty l hxe
   rw[hxe] at hx
   cases hb:Nat.beq (tsz P e) (size ty) with
   |false=>rw[hb] at h;cases h
   |true=>
    rw[hb] at h
    have hb:=beq_eq hb
    cases okp_eq h
    have hrd:=srel_d hx
    obtain⟨ad,cap,b,off,f,hu,hc,hm,ha,h1,h2⟩:=hrd.slInv
    rw[hu] at hrd ⊢
    refine⟨_,slice_run (m:=m) he hlo hhi hr.op hc hp.1,?_,trivial,trivial⟩
    rw[hb]
    exact .d _ _ (hrd.sub hp.1)
  ·rename_i id hxe
   rw[hxe] at hx hxu
   split at h
   ·rename_i ty l hrow
    cases hb:Nat.beq (tsz P e) (size ty) with
    |false=>rw[hb] at h;cases h
    |true=>
     rw[hb] at h
     have hb:=beq_eq hb
     cases okp_eq h
     obtain⟨ad,cap,hv,hc,hm,hcell⟩:=rowOf_rel hr.ox hrow
     have hu:=srel_os hx
     rw[hv] at hu
     rw[hu]
     refine⟨_,slice_run (m:=m) he hlo hhi hr.op hc hp.1,?_,hxu,trivial⟩
     rw[hb]
     exact .sub id (size ty) _ _ ad _ cap hv hp.1
   ·cases h
  ·cases h
 ·exact pSliceS_run h hr hp
def srcOf (m:Mem)(ty:Ty):SV->Option (List (den ty))
 | .d d=>decL ty d
 | .os id=>match rowOf m id with
  |some ⟨t',l⟩=>castL ty t' l
  |none=>none
 | .sub id sz a b=>match rowOf m id with
  |some ⟨t',l⟩=>bif Nat.beq sz (size t') then castL ty t' (sub l a b) else none
  |none=>none
 |_=>none
theorem castL_eq {t t':Ty}{l:List (den t')}{l':List (den t)}(h:castL t t' l=some l'):∃_:t'=t,HEq l l':=by
 unfold castL at h
 split at h
 ·rename_i hb
  have e:=Ty.beq_eq hb
  subst e
  injection h with h
  exact⟨rfl,heq_of_eq h⟩
 ·cases h
theorem srcOf_ok {m:Mem}{ty:Ty}{s:SV}{l:List (den ty)}(h:srcOf m ty s=some l){w:World}{c:Cx}(ox:OX m.ob m.U m.tp w c){v:Value}(hs:SRel c w s v){t e:TypeId}(ht:P.underlying t=some (.slice e))(h0:0<size ty):SrcOK P w c.S t ty l v/\l.length<=maxLen:=by
 unfold srcOf at h
 split at h
 ·have:=decA_rd (t:= .sl ty) (x:=l) h (srel_d hs)
  have hrd:Rd c.S w (.sl ty l) v:=this
  refine⟨SrcOK.ofRd ht h0 hrd,?_⟩
  obtain⟨_,_,_,_,_,_,h1,h2,_⟩:=hrd.slInv
  omega
 ·rename_i id
  split at h
  ·rename_i t' l' hrow
   obtain⟨e1,e2⟩:=castL_eq h
   subst e1
   have e2:=eq_of_heq e2
   subst e2
   obtain⟨ad,cap,hv,hc,hm,hcell⟩:=rowOf_rel ox hrow
   rw[srel_os hs,hv]
   refine⟨SrcOK.of ht h0 ?_,by show l'.length<=_;omega⟩
   rcases List.eq_nil_or_concat l' with hl|⟨_,_,hl⟩
   ·exact .inl hl
   ·have hpos:0<l'.length:=by rw[hl];simp
    obtain⟨g,hg,_⟩:=hcell 0 l'[0] (List.getElem?_eq_getElem hpos)
    obtain⟨f,f1,f2⟩:=rowCells (w:=w) (S:=c.S) (l:=l') (g:=g) (λi x hi j d hd=>by
     obtain⟨g',hg',hh⟩:=hcell i x hi
     rw[hg] at hg'
     injection hg' with hg'
     injection hg' with hg'
     subst hg'
     exact hh j d hd)
    exact .inr ⟨g,0,hg,f,λi hi j hj=>by rw[Nat.zero_add];exact f1 i hi j hj,f2⟩
  ·cases h
 ·rename_i id sz a b
  split at h
  ·rename_i t' l' hrow
   cases hb:Nat.beq sz (size t') with
   |false=>rw[hb] at h;cases h
   |true=>
    rw[hb] at h
    have hb:=beq_eq hb
    subst hb
    obtain⟨e1,e2⟩:=castL_eq h
    subst e1
    have e2:=eq_of_heq e2
    subst e2
    obtain⟨ad,cap,hv,hc,hm,hcell⟩:=rowOf_rel ox hrow
    obtain⟨ad',n',cap',hv',hu,hab⟩:=srel_sub hs
    rw[hv] at hv'
    injection hv' with q1 q2 q3
    subst q1 q2 q3
    have hl:=sub_len hab
    rw[hu,subV_len,<-hl]
    have hll:(sub l' a b).length<=l'.length:=by obtain⟨_,_,_⟩:=hab;omega
    refine⟨SrcOK.of ht h0 ?_,by show (sub l' a b).length<=_;omega⟩
    by_cases he:a.toNat=b.toNat
    ·exact .inl (List.eq_nil_of_length_eq_zero (by omega))
    ·obtain⟨ha1,ha2,ha3⟩:=hab
     have hpos:0<l'.length:=by omega
     obtain⟨g,hg,_⟩:=hcell 0 l'[0] (List.getElem?_eq_getElem hpos)
     obtain⟨f,f1,f2⟩:=rowCells (w:=w) (S:=c.S) (l:=l') (g:=g) (λi x hi j d hd=>by
      obtain⟨g',hg',hh⟩:=hcell i x hi
      rw[hg] at hg'
      injection hg' with hg'
      injection hg' with hg'
      subst hg'
      exact hh j d hd)
     refine .inr ⟨g,a.toNat * size t',?_,λi j=>f (a.toNat+i) j,λi hi j hj=> ?_,λi x j d hi hd=>f2 _ x j d (sub_get hi) hd⟩
     ·rw[if_neg (by omega),hg];simp[addr_add]
     ·have:=f1 (a.toNat+i) (by omega) j hj
      rwa [Nat.add_mul] at this
  ·cases h
 ·cases h
def apOK (bs n m:Nat):Prop:=(n+m) * bs<=140737488355328
def appTy (P:Program)(t:TypeId)(sz:Nat):Option (TypeId×Nat):=match elemOf P t with
 |some e=>match P.info? e with
  |some i=>match i.zero with
   |some z=>bif Nat.beq z.cells.size sz&&Nat.beq i.size sz&&Nat.ble 1 i.bytes&&Nat.ble 1 sz then some (e,i.bytes) else none
   |none=>none
  |none=>none
 |none=>none
theorem appTy_spec {t:TypeId}{sz:Nat}{e:TypeId}{bs:Nat}(h:appTy P t sz=some (e,bs)):∃i z,P.underlying t=some (.slice e)/\P.info? e=some i/\i.zero=some z/\z.cells.size=sz/\i.size=sz/\i.bytes=bs/\1<=bs/\1<=sz:=by
 unfold appTy at h
 split at h
 ·rename_i e' he
  obtain⟨_,hu,_⟩:=elemOf_spec he
  split at h
  ·rename_i i hi
   split at h
   ·rename_i z hz
    cases hb:(Nat.beq z.cells.size sz&&Nat.beq i.size sz&&Nat.ble 1 i.bytes&&Nat.ble 1 sz) with
    |false=>rw[hb] at h;cases h
    |true=>
     rw[hb] at h
     injection h with h
     injection h with h1 h2
     subst h1 h2
     simp only[Bool.and_eq_true] at hb
     exact⟨i,z,hu,hi,hz,beq_eq hb.1.1.1,beq_eq hb.1.1.2,rfl,Nat.le_of_ble_eq_true hb.1.2,Nat.le_of_ble_eq_true hb.2⟩
   ·cases h
  ·cases h
 ·cases h
def eApp (k:Nat)(e:TypeId)(ty:Ty)(bs:Nat)(l l2:List (den ty))(old:List (Nat×Option Ob)):ERes:=⟨[.ap bs l.length l2.length],[],.os k,(k,some (.row e ty (l++l2)))::old,1⟩
def eAppF (k:Nat)(ty:Ty)(bs:Nat)(l l2:List (den ty))(id:Nat):ERes:=⟨[.ap bs l.length l2.length],[],.os k,[(id,some (.fro ty l)),(k,some (.fro ty (l++l2))),(id,none)],1⟩
def isSlD:SV->Bool
 | .d (.sl _ _)=>true
 |_=>false
def inT:List Nat->Nat->Bool
 |[],_=>false
 |x::r,y=>Nat.beq x y||inT r y
def oldU:Option Nat->List (Nat×Option Ob)
 |some id=>[(id,none)]
 |none=>[]
def eAppend (P:Program)(τ:TypeId->Option Ty)(m:Mem)(k:Nat)(t:TypeId)(x y:SV):Option ERes:=match x with
 | .os id=>match m.ob id with
  |some (.row e ty l)=>match appTy P t (size ty),srcOf m ty y with
   |some (e',bs),some l2=>bif Nat.beq e e' then (bif isSlD y&&inT keepT t then some (eAppF k ty bs l l2 id) else some (eApp k e ty bs l l2 [(id,none)])) else none
   |_,_=>none
  |_=>none
 | .d (.v v)=>bif isNil v then match elemOf P t with
  |some e0=>match τ e0 with
   |some ty=>match appTy P t (size ty),srcOf m ty y with
    |some (e',bs),some l2=>some (eApp k e' ty bs [] l2 [])
    |_,_=>none
   |none=>none
  |none=>none
  else none
 |_=>none
theorem eAppend_ok {τ:TypeId->Option Ty}{o:Oper}{m:Mem}{ρ:Operand->SV}{k:Nat}{t:TypeId}{x y:Operand}{R:ERes}(he:o.op= .call ⟨.builtin .append,#[x,y],#[t,t]⟩)(h:eAppend P τ m k t (ρ x) (ρ y)=some R):EffR P o m ρ k R:=by
 intro a w c hr hk hp K Q hK
 have hx:=hr.op x
 have hy:=hr.op y
 have fin:∀(e:TypeId)(ty:Ty)(bs:Nat)(l l2:List (den ty))(old:Option Nat)(F:Nat->Prop),appTy P t (size ty)=some (e,bs)->srcOf m ty (ρ y)=some l2->RowAt w c.S (a.eval x) F e ty l->(∀b,F b->∃id y,old=some id/\m.ob id=some y/\y.own=true/\c.F id b)->
  R=eApp k e ty bs l l2 (oldU old)->o.wp P a w K Q:=by
  intro e ty bs l l2 old F ha hs2 hrow hF hR
  subst hR
  obtain⟨i,z,t1,t2,t3,t4,t5,t6,t7,t8⟩:=appTy_spec ha
  obtain⟨hsrc,hl2⟩:=srcOf_ok (P:=P) hs2 hr.ox hy t1 (by omega)
  have hroom:apOK bs l.length l2.length:=hp.1
  have h63:l.length+l2.length<=maxLen:=by
   unfold apOK at hroom
   have:=Nat.le_mul_of_pos_right (l.length+l2.length) (show 0<bs by omega)
   simp only[maxLen];omega
  obtain⟨v',w',c',r1,r2,r3,r4⟩:=hr.ox.append (hk k (Nat.le_refl _) (by show k<k+1;omega)) (old:=old) t o.type e i z ty t1 t2 t3 t5 t4 hrow hF hsrc h63 (by rw[t6];exact hroom)
  have eob:ovr m.ob (eApp k e ty bs l l2 (oldU old)).ob=put (dropO m.ob old) k (some (.row e ty (l++l2))):=by
   cases old with
   |none=>show ovr m.ob [_]=_;rw[ovr_cons,ovr_nil];rfl
   |some id=>show ovr m.ob [_,_]=_;rw[ovr_cons,ovr_cons,ovr_nil];rfl
  refine wp_value (v:=v') (w':=w') ?_ (hK _ c' _ ?_ ?_ ?_ ?_ trivial)
  ·simp[execOp,he,resolve,invoke,builtin,r1]
  ·rw[eob];show OX _ (addN m.U k 1) _ _ _;rw[addN_one];exact r3
  ·rw[eob];show Tr _ _ _ _ _ (addN m.U k 1) _ _;rw[addN_one];exact r4
  ·rw[<-r2];exact .os k
  ·exact .inr ⟨Nat.le_refl _,by show k<k+1;omega⟩
 unfold eAppend at h
 split at h
 ·rename_i id hxe
  rw[hxe] at hx
  split at h
  ·rename_i e ty l hob
   split at h
   ·rename_i e' bs l2 ha hs2
    cases hb:Nat.beq e e' with
    |false=>rw[hb] at h;cases h
    |true=>
     rw[hb] at h
     have hb:=beq_eq hb
     subst hb
     have hu:=srel_os hx
     simp only[cond_true] at h
     cases hkp:(isSlD (ρ y)&&inT keepT t) with
     |true=>
      rw[hkp] at h
      injection h with h
      subst h
      obtain⟨i,z,t1,t2,t3,t4,t5,t6,t7,t8⟩:=appTy_spec ha
      obtain⟨hsrc,hl2⟩:=srcOf_ok (P:=P) hs2 hr.ox hy t1 (by omega)
      have hroom:apOK bs l.length l2.length:=hp.1
      have h63:l.length+l2.length<=maxLen:=by
       have hroom:apOK bs l.length l2.length:=hroom
       unfold apOK at hroom
       have:=Nat.le_mul_of_pos_right (l.length+l2.length) (show 0<bs by omega)
       simp only[maxLen];omega
      obtain⟨v',w',c',r1,r2,r3,r4⟩:=hr.ox.appendF (hk k (Nat.le_refl _) (by show k<k+1;omega)) t o.type e i z ty t1 t2 t3 t5 t4 hob hsrc h63 (by rw[t6];exact hroom)
      have eob:ovr m.ob (eAppF k ty bs l l2 id).ob=put (put (dropO m.ob (some id)) k (some (.fro ty (l++l2)))) id (some (.fro ty l)):=by
       show ovr m.ob [_,_,_]=_
       rw[ovr_cons,ovr_cons,ovr_cons,ovr_nil];rfl
      refine wp_value (v:=v') (w':=w') ?_ (hK _ c' _ ?_ ?_ ?_ ?_ trivial)
      ·simp[execOp,he,resolve,invoke,builtin,hu,r1]
      ·rw[eob];show OX _ (addN m.U k 1) _ _ _;rw[addN_one];exact r3
      ·rw[eob];show Tr _ _ _ _ _ (addN m.U k 1) _ _;rw[addN_one];exact r4
      ·rw[<-r2];exact .os k
      ·exact .inr ⟨Nat.le_refl _,by show k<k+1;omega⟩
     |false=>
     rw[hkp] at h
     injection h with h
     exact fin e ty bs l l2 (some id) (c.F id) ha hs2 (by rw[hu];exact (hr.ox.objs id _ hob).2.2) (λb hb=>⟨id,_,rfl,hob,rfl,hb⟩) h.symm
   ·cases h
  ·cases h
 ·rename_i v hxe
  rw[hxe] at hx
  cases hn:isNil v with
  |false=>rw[hn] at h;cases h
  |true=>
   rw[hn] at h
   simp only[cond_true] at h
   split at h
   ·split at h
    ·rename_i ty _
     split at h
     ·rename_i e' bs l2 ha hs2
      injection h with h
      have hu:=srel_v hx
      rw[isNil_eq hn] at hu
      obtain⟨_,_,_,_,_,_,_,_,_,h1⟩:=appTy_spec ha
      exact fin e' ty bs [] l2 none (λ_=>False) ha hs2 (by rw[hu];exact⟨h1,.inl ⟨rfl,⟨none,rfl⟩,λ_ h=>h⟩⟩) (λ_ h=>h.elim) h.symm
     ·cases h
    ·cases h
   ·cases h
 ·cases h
def zeroRow (z:List Value)(k:Nat):List SV:=(List.range k).map λq=>SV.d (.v (z.getD (q % z.length) undef))
def rowPl (sz n:Nat):List (Nat×Nat):=(List.range n).map λk=>(k * sz,sz)
def decRows (ty:Ty):Nat->List D->Option (List (den ty))
 |0,[]=>some []
 |0,_::_=>none
 |n+1,ds=>match dec ty (ds.take (size ty)),decRows ty n (ds.drop (size ty)) with
  |some x,some r=>some (x::r)
  |_,_=>none
theorem decRows_spec {ty:Ty}:∀{n:Nat}{ds:List D}{l:List (den ty)},decRows ty n ds=some l->l.length=n/\ds.length=n * size ty/\∀(i:Nat)(x:den ty),l[i]? =some x->∀(j:Nat)(c:D),(enc ty x)[j]? =some c->∃d,ds[i * size ty+j]? =some d/\∀{S:Cells}{w:World}{u:Value},Rd S w d u->Rd S w c u
 |0,[],l,h=>by
  simp only[decRows,Option.some.injEq] at h
  subst h
  exact⟨rfl,by simp,λi x hi=>by simp at hi⟩
 |0,_::_,l,h=>by simp[decRows] at h
 |n+1,ds,l,h=>by
  unfold decRows at h
  split at h
  ·rename_i x r h1 h2
   injection h with h
   subst h
   obtain⟨q1,q2⟩:=dec_rd h1
   obtain⟨k1,k2,k3⟩:=decRows_spec h2
   rw[List.length_take] at q1
   rw[List.length_drop] at k2
   have hs:(n+1) * size ty=n * size ty+size ty:=Nat.succ_mul _ _
   have hd:ds.length=(n+1) * size ty:=by
    rcases Nat.eq_zero_or_pos (n * size ty) with e|e
    ·have:size ty<=ds.length:=by omega
     omega
    ·omega
   refine⟨by simp[k1],hd,λi y hi j c hc=> ?_⟩
   have hj:=enc_lt hc
   cases i with
   |zero=>
    simp at hi
    subst hi
    have hjd:j<ds.length:=by omega
    refine⟨ds[j],by rw[Nat.zero_mul,Nat.zero_add,List.getElem?_eq_getElem hjd],λ{S w u} hr=>q2 j c ds[j] hc ?_ hr⟩
    rw[List.getElem?_take,if_pos hj,List.getElem?_eq_getElem hjd]
   |succ i=>
    simp at hi
    obtain⟨d,d1,d2⟩:=k3 i y hi j c hc
    refine⟨d,?_,d2⟩
    rw[List.getElem?_drop] at d1
    rw[Nat.succ_mul,<-d1]
    congr 1;omega
  ·cases h
theorem buildSlice_run {a:Act}{w:World}{c:Cx}{t e sz len:Nat}{zs:List Value}{z:Value}{i:TypeInfo}{xs:Array (Nat×Operand)}{ss:List (Nat×SV)}{cs:List SV}(hu:P.underlying t=some (.slice e))(hi:P.info? e=some i)(hsz:i.size=sz)(hz:i.zero=some z)(hzs:z.cells.toList=zs)
 (h1:∀u∈zs,u.oneCell'=true) (hzl:zs.length=sz) (hsm:len * sz<=16777216) (l1:xs.size=ss.length) (l2:∀(i:Nat)(p:Nat×SV)(q:Nat×Value),ss[i]? =some p->(xs.toList.map λy=>(y.1,a.eval y.2))[i]? =some q->p.1=q.1/\SRel c w p.2 q.2/\∀id,p.2= .os id->(c.H id).cells= #[c.H id]/\(c.H id).oneCell'=true)
 (hf:fillS (rowPl sz len) (zeroRow zs (len * sz)) ss=some cs):
 ∃us:List Value,(Instr.buildSlice t len (xs.map λ(i,x)=>(i,a.eval x))).run P w= .ok (.slice (some ⟨w.heap.size,0,none⟩) len len) (w.alloc (.cells us.toArray e))/\us.length=cs.length/\(∀u∈us,u.oneCell'=true)/\∀(j:Nat)(s:SV)(u:Value),cs[j]? =some s->us[j]? =some u->SRel c w s u:=by
 subst hzs
 have hparts:(xs.map λ(i,x)=>(i,a.eval x)).toList=xs.toList.map λy=>(y.1,a.eval y.2):=by simp
 have hzget:∀q,q<len * sz->0<sz:=λq hq=>by
  rcases Nat.eq_zero_or_pos sz with h|h
  ·rw[h] at hq;omega
  ·exact h
 have harr:∀q,q<len * sz->((Array.range (len * sz)).map (z.cells[·% z.cells.size]!)).toList[q]? =some (z.cells.toList.getD (q % z.cells.toList.length) undef):=λq hq=>by
  have hp:=hzget q hq
  have hm:q % z.cells.size<z.cells.size:=Nat.mod_lt _ (by rw[<-Array.length_toList];omega)
  simp[hq]
  rw[getElem!_pos z.cells _ hm,Array.getElem?_eq_getElem hm]
  rfl
 obtain⟨arr,q1,q2,q3,q4⟩:=fill_rel (c:=c) (w:=w) (pl:=rowPl sz len) (place:=λi=>some (i * sz,sz)) (λi p hp=>by
  have hl:=(List.getElem?_eq_some_iff.1 hp).1
  simp only[rowPl,List.length_map,List.length_range] at hl
  simp[rowPl,hl] at hp
  rw[<-hp]) ss (xs.toList.map λy=>(y.1,a.eval y.2)) (zeroRow z.cells.toList (len * sz)) ((Array.range (len * sz)).map (z.cells[·% z.cells.size]!)) cs (by simp[l1]) l2 (by simp[zeroRow]) (λu hu=>by
  obtain⟨q,hq,rfl⟩:=List.getElem_of_mem hu
  have hql:q<len * sz:=by simpa using hq
  have:=harr q hql
  rw[List.getElem?_eq_getElem hq] at this
  injection this with this
  rw[this]
  have hm:q % z.cells.toList.length<z.cells.toList.length:=Nat.mod_lt _ (by have:=hzget q hql;omega)
  rw[List.getD_eq_getElem?_getD,List.getElem?_eq_getElem hm]
  exact h1 _ (List.getElem_mem hm)) (λj s u hj hu=>by
  have hjl:j<len * sz:=by have:=(List.getElem?_eq_some_iff.1 hj).1;simpa [zeroRow] using this
  rw[harr j hjl] at hu
  injection hu with hu
  simp only[zeroRow,List.getElem?_map,List.getElem?_range hjl,Option.map_some,Option.some.injEq] at hj
  subst hj;subst hu
  exact .d _ _ (.v _)) hf
 refine⟨arr.toList,?_,q2,q3,q4⟩
 rw[Array.toArray_toList]
 by_cases h0:len * sz=0
 ·have hfe:Instr.fill (λi=>some (i * sz,sz)) #[] (xs.toList.map λy=>(y.1,a.eval y.2))=some arr:=by
   rw[h0] at q1
   have e:(Array.range 0).map (λx=>z.cells[x % z.cells.size]!)= #[]:=by simp
   rw[e] at q1;exact q1
  have er:Array.range 0= #[]:=rfl
  simp[Instr.buildSlice,run_underlying hu,sizeOf,typeInfo,hi,hsz,h0,newRow,hfe,er]
 ·exact run_buildSlice w t e len _ arr i z hu hi hz (by rw[hsz];omega) (by rw[hsz];exact h0) (by rw[hsz,hparts];exact q1)
def partsD (m:Mem)(ρ:Operand->SV):List (Nat×Operand)->Option (List (Nat×SV)×List Nat)
 |[]=>some ([],[])
 |(i,x)::r=>match dataOf m (ρ x),partsD m ρ r with
  |some (d,is),some (ds,js)=>some ((i,.d d)::ds,is++js)
  |_,_=>none
theorem partsD_rel {m:Mem}{ρ:Operand->SV}{a:Act}{w:World}{c c':Cx}(hop:∀x,SRel c w (ρ x) (a.eval x))(h:OX m.ob m.U m.tp w c){ids0:List Nat}(h':OX (ovr m.ob (fzU m.ob ids0)) m.U m.tp w c')(t:Tr m.ob m.U w c (ovr m.ob (fzU m.ob ids0)) m.U w c')(hH:c'.H=c.H):
 ∀{xs:List (Nat×Operand)}{ss:List (Nat×SV)}{ids:List Nat},partsD m ρ xs=some (ss,ids)->(∀i∈ids,i∈ids0)->xs.length=ss.length/\∀(i:Nat)(p:Nat×SV)(q:Nat×Value),ss[i]? =some p->(xs.map λy=>(y.1,a.eval y.2))[i]? =some q->p.1=q.1/\SRel c' w p.2 q.2/\∀id,p.2= .os id->(c'.H id).cells= #[c'.H id]/\(c'.H id).oneCell'=true
 |[],ss,ids,hd,_=>by
  simp only[partsD,Option.some.injEq,Prod.mk.injEq] at hd
  rw[<-hd.1]
  exact⟨rfl,λi p q hp=>by simp at hp⟩
 |(i0,x)::r,ss,ids,hd,hi=>by
  unfold partsD at hd
  split at hd
  ·rename_i d is ds js h1 h2
   injection hd with hd
   injection hd with e1 e2
   subst e1 e2
   obtain⟨k1,k2⟩:=partsD_rel hop h h' t hH h2 (λi hm=>hi i (by simp[hm]))
   refine⟨by simp[k1],λi p q hp hq=> ?_⟩
   cases i with
   |zero=>
    simp at hp hq
    subst hp hq
    exact⟨rfl,.d _ _ (dataOf_rel h h' t hH (ρ x) h1 (λi hm=>hi i (by simp[hm])) (hop x)),λid e=>by cases e⟩
   |succ i=>simp at hp hq;exact k2 i p q hp (by simpa using hq)
  ·cases hd
def eBuildSlice (P:Program)(τ:TypeId->Option Ty)(m:Mem)(ρ:Operand->SV)(k:Nat)(t:TypeId)(len:Nat)(xs:Array (Nat×Operand)):Option ERes:=
 match elemOf P t with
 |none=>none
 |some e=>match τ e,zeroOf P e,partsD m ρ xs.toList with
  |some ty,some zs,some (ss,ids)=>match fillS (rowPl (size ty) len) (zeroRow zs (len * size ty)) ss with
   |some cs=>match dOf cs with
    |some ds=>match decRows ty len ds with
     |some l=>bif Nat.beq (tsz P e) (size ty)&&Nat.beq zs.length (size ty)&&Nat.ble (len * size ty) 16777216&&Nat.ble len 16777216&&Nat.ble 1 (size ty) then some ⟨[],[],.os k,(k,some (.row e ty l))::fzU m.ob ids,1⟩ else none
     |none=>none
    |none=>none
   |none=>none
  |_,_,_=>none
theorem eBuildSlice_ok {τ:TypeId->Option Ty}{o:Oper}{m:Mem}{ρ:Operand->SV}{k:Nat}{t:TypeId}{len:Nat}{xs:Array (Nat×Operand)}{R:ERes}(he:o.op= .buildSlice t len xs)(h:eBuildSlice P τ m ρ k t len xs=some R):EffR P o m ρ k R:=by
 intro a w c hr hk hp K Q hK
 unfold eBuildSlice at h
 split at h
 ·cases h
 ·rename_i e hel
  split at h
  ·rename_i ty zs ss ids hty hz hparts
   split at h
   ·rename_i cs hf
    split at h
    ·rename_i ds hds
     split at h
     ·rename_i l hl
      cases hb:(Nat.beq (tsz P e) (size ty)&&Nat.beq zs.length (size ty)&&Nat.ble (len * size ty) 16777216&&Nat.ble len 16777216&&Nat.ble 1 (size ty)) with
      |false=>rw[hb] at h;cases h
      |true=>
       rw[hb] at h
       injection h with h
       subst h
       simp only[Bool.and_eq_true] at hb
       obtain⟨⟨⟨⟨b1,b2⟩,b3⟩,b4⟩,b5⟩:=hb
       have b1:=beq_eq b1
       have b2:=beq_eq b2
       have b3:=Nat.le_of_ble_eq_true b3
       have b4:=Nat.le_of_ble_eq_true b4
       have b5:=Nat.le_of_ble_eq_true b5
       obtain⟨i,hu,hi,hsz⟩:=elemOf_spec hel
       obtain⟨i',z,hi',hz',hzc,h1⟩:=zeroOf_spec hz
       rw[hi] at hi'
       injection hi' with hi'
       subst hi'
       obtain⟨c1,ox1,t1,e1,e2⟩:=hr.ox.freezes ids
       obtain⟨p1,p2⟩:=partsD_rel hr.op hr.ox ox1 t1 e1 hparts (λ_ h=>h)
       obtain⟨us,q1,q2,q3,q4⟩:=buildSlice_run (P:=P) (a:=a) (w:=w) (c:=c1) (xs:=xs) hu hi (hsz.trans b1) hz' hzc h1 b2 b3 (by simpa using p1) p2 hf
       have hcs:=dOf_spec hds
       obtain⟨d1,d2,d3⟩:=decRows_spec hl
       have hk':¬m.U k:=hk k (Nat.le_refl _) (by show k<k+1;omega)
       obtain⟨r1,r2⟩:=ox1.new hk' (x:= .row e ty l) (v:= .slice (some ⟨w.heap.size,0,none⟩) len len) (.cells us.toArray e) trivial (λc' g1 g2 g3 g4 g5=>by
        show RowAt _ _ _ _ _ _ _
        refine⟨by omega,.inr ⟨w.heap.size,len,us.toArray,by rw[g1,d1],g2,heap_alloc_new w _,by omega,by simp only[maxLen];omega,?_,λi x hx j d hd=> ?_⟩⟩
        ·rw[List.size_toArray,q2,hcs,List.length_map,d2]
        ·obtain⟨d',hd',hrd⟩:=d3 i x hx j d hd
         have hlt:i * size ty+j<us.length:=by
          have:=(List.getElem?_eq_some_iff.1 hd').1
          rw[q2,hcs,List.length_map];exact this
         have:=q4 (i * size ty+j) (.d d') _ (by rw[hcs,List.getElem?_map,hd'];rfl) (List.getElem?_eq_getElem hlt)
         refine⟨us[i * size ty+j],by simp[hlt],q3 _ (List.getElem_mem hlt),hrd ?_⟩
         rw[g3]
         exact (srel_d this).mono (λ_ _ h=>h) (λb o' hs=>World.cell?_of_block (heap_alloc_old w _ (ox1.sb b o' hs))))
       refine wp_value (v:= .slice (some ⟨w.heap.size,0,none⟩) len len) (w':=w.alloc (.cells us.toArray e)) (by simp only[execOp,he,Sem.run_bind,q1,Result.andThen_ok];rfl) (hK _ ⟨c1.S,put c1.H k (.slice (some ⟨w.heap.size,0,none⟩) len len),put c1.F k (·=w.heap.size),c1.T⟩ _ ?_ ?_ ?_ (.inr ⟨Nat.le_refl _,by show k<k+1;omega⟩) trivial)
       ·show OX (ovr m.ob (_::_)) (addN m.U k 1) _ _ _
        rw[ovr_cons,addN_one];exact r1
       ·show Tr _ _ _ _ (ovr m.ob (_::_)) (addN m.U k 1) _ _
        rw[ovr_cons,addN_one];exact t1.trans r2
       ·have:=SRel.os (c:=⟨c1.S,put c1.H k (.slice (some ⟨w.heap.size,0,none⟩) len len),put c1.F k (·=w.heap.size),c1.T⟩) (w:=w.alloc (.cells us.toArray e)) k
        dsimp only at this
        rw[put_same] at this
        exact this
     ·cases h
    ·cases h
   ·cases h
  ·cases h
def liftE:Option PRes->Option ERes
 |some R=>some ⟨R.ps,R.fs,R.r,[],0⟩
 |none=>none
theorem pure_ok {o:Oper}{m:Mem}{ρ:Operand->SV}{k:Nat}{R:ERes}{R':PRes}(hR:R=⟨R'.ps,R'.fs,R'.r,[],0⟩)(h:∀a w c,RelsC m ρ a w c->allC R'.ps->∃v,(execOp a.eval o).run P w= .ok (.value v) w/\SRel c w R'.r v/\R'.r.inU m.U/\allL R'.fs):EffR P o m ρ k R:=by
 subst hR
 intro a w c hr hk hp K Q hK
 obtain⟨v,h1,h2,h3,h4⟩:=h a w c hr hp
 refine wp_value h1 (hK v c w ?_ ?_ h2 ?_ h4)
 ·show OX (ovr m.ob []) (addN m.U k 0) _ _ _
  rw[addN_zero];exact hr.ox
 ·show Tr _ _ _ _ (ovr m.ob []) (addN m.U k 0) _ _
  rw[addN_zero];exact .refl
 ·show R'.r.inU (addN m.U k 0)
  rw[addN_zero];exact h3
def isAppend:Op->Option (TypeId×Operand×Operand)
 | .call ⟨.builtin .append,args,tys⟩=>match args.toList,tys.toList with
  |[x,y],[t,t']=>bif Nat.beq t t' then some (t,x,y) else none
  |_,_=>none
 |_=>none
theorem isAppend_spec {o:Op}{t:TypeId}{x y:Operand}(h:isAppend o=some (t,x,y)):o= .call ⟨.builtin .append,#[x,y],#[t,t]⟩:=by
 unfold isAppend at h
 split at h
 ·rename_i args tys
  split at h
  ·rename_i x' y' t' t'' ha ht
   cases hb:Nat.beq t' t'' with
   |false=>rw[hb] at h;cases h
   |true=>
    rw[hb] at h
    have hb:=beq_eq hb
    subst hb
    injection h with h
    injection h with h1 h2
    injection h2 with h2 h3
    subst h1 h2 h3
    rw[arr1 ha,arr1 ht]
  ·cases h
 ·cases h
def eop0 (P:Program)(τ:TypeId->Option Ty)(m:Mem)(ρ:Operand->SV)(k:Nat)(o:Oper):Option ERes:=
 match o.op with
 | .alloc e=>eAlloc P k e
 | .box _ x=>eBoxV m k (ρ x)
 | .build t xs=>match pBuild P m ρ t xs with
  |some r=>some ⟨[],[],r,[],0⟩
  |none=>none
 | .buildSlice t len xs=>eBuildSlice P τ m ρ k t len xs
 | .store t x y=>eStore P m t (ρ x) (ρ y)
 | .slice t x lo hi none=>liftE (pSlice P m ρ t (ρ x) lo hi)
 |_=>match isAppend o.op with
  |some (t,x,y)=>eAppend P τ m k t (ρ x) (ρ y)
  |none=>liftE (pop P m ρ o)
theorem liftE_eq {x:Option PRes}{R:ERes}(h:liftE x=some R):∃R',x=some R'/\R=⟨R'.ps,R'.fs,R'.r,[],0⟩:=by
 cases x with
 |none=>cases h
 |some R'=>exact⟨R',rfl,(Option.some.inj h).symm⟩
theorem eop0_ok {τ:TypeId->Option Ty}{m:Mem}{ρ:Operand->SV}{k:Nat}{o:Oper}{R:ERes}(h:eop0 P τ m ρ k o=some R):EffR P o m ρ k R:=by
 unfold eop0 at h
 split at h
 ·rename_i e he;exact eAlloc_ok he h
 ·rename_i e x he;exact eBoxV_ok he h
 ·rename_i t xs he
  split at h
  ·rename_i r hr
   injection h with h
   subst h
   refine pure_ok (R':=⟨[],[],r⟩) rfl λa w c hrel _=> ?_
   obtain⟨v,h1,h2,h3⟩:=pBuild_run (P:=P) hr hrel.toRels
   exact⟨v,by simp[execOp,he,h1],h2,h3,trivial⟩
  ·cases h
 ·rename_i t len xs he;exact eBuildSlice_ok he h
 ·rename_i t x y he;exact eStore_ok he h
 ·rename_i t x lo hi he
  obtain⟨R',hR',rfl⟩:=liftE_eq h
  refine pure_ok rfl λa w c hrel hp=> ?_
  obtain⟨v,h1,h2,h3,h4⟩:=pSlice_run (P:=P) hR' hrel.toRels hp
  exact⟨v,by simp[execOp,he,h1],h2,h3,h4⟩
 ·split at h
  ·rename_i t x y ha
   exact eAppend_ok (isAppend_spec ha) h
  ·obtain⟨R',hR',rfl⟩:=liftE_eq h
   exact pure_ok rfl λa w c hrel hp=>pop_run (P:=P) hR' hrel hp
end RE
end Go.Proofs.YtjcjdgmojkkioaaGreatDoor
