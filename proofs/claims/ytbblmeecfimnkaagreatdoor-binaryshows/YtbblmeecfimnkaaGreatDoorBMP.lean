/- Plain functions, lifted by program from the seat binz. No condition: definitions. -/
import Derived.Test.YtbblmeecfimnkaaGreatDoorMD
import Derived.Lib.IndexMore
import Derived.Test.YtbblmeecfimnkaaGreatDoorMDp
namespace Go.MD.BINZ
open Go Go.MD
def Z1g (s:Str):Option (List Str):=
 if s=[115,101,116,32,108,111,97,100,32,115,116,111,114,101,32,99,97,115,32,102,108,117,115,104,32,111,112,116,32,115,102,101,110,99,101,32,109,102,101,110,99,101,32,116,97,107,101,32,103,105,118,101,32,106,117,109,112,32,101,108,115,101,32,99,111,117,110,116,32,97,103,97,105,110,32,99,104,101,99,107] then some [[115,101,116],[108,111,97,100],[115,116,111,114,101],[99,97,115],[102,108,117,115,104],[111,112,116],[115,102,101,110,99,101],[109,102,101,110,99,101],[116,97,107,101],[103,105,118,101],[106,117,109,112],[101,108,115,101],[99,111,117,110,116],[97,103,97,105,110],[99,104,101,99,107]] else
 none
structure api_Op where
 Kind:Int
 N:Int
 deriving DecidableEq
structure api_Instr where
 Kind:Int
 A:Int
 B:Int
 E:(List api_Op)
 F:(List api_Op)
 To:Int
 deriving DecidableEq
structure api_Code where
 Regs:Int
 Counts:Int
 L:(List api_Instr)
 deriving DecidableEq
structure api_Unit where
 Lines:(List Int)
 Stays:Int
 Firsts:(List Int)
 Locks:Int
 Threads:(List api_Code)
 Recover:api_Code
 Claims:(List (List api_Op))
 deriving DecidableEq
def Z1:Option (api_Unit×Int):=some ((api_Unit.mk [] 0 [] 0 [] (api_Code.mk 0 0 []) []),8)
structure binary_reader where
 s:Str
 at':Int
 deriving DecidableEq
structure leadlineref10_In where
 S:Str
 At:Int
 Bad:Bool
 deriving DecidableEq
structure api_Cell where
 Name:Str
 N:Int
 At:Int
 deriving DecidableEq
structure api_Node where
 Op:Int
 N:Int
 Name:Str
 At:Int
 deriving DecidableEq
structure api_Stmt where
 Kind:Int
 Reg:Str
 Name:Str
 E:(List api_Node)
 F:(List api_Node)
 N:Int
 Body:Int
 Else:Int
 At:Int
 deriving DecidableEq
structure api_Thread where
 Name:Str
 Regs:(List Str)
 Body:(List api_Stmt)
 At:Int
 deriving DecidableEq
structure api_Claim where
 E:(List api_Node)
 At:Int
 deriving DecidableEq
structure api_Prog where
 Lines:(List (List api_Cell))
 Vols:(List api_Cell)
 Locks:(List api_Cell)
 Threads:(List api_Thread)
 Recover:(List api_Thread)
 Claims:(List api_Claim)
 deriving DecidableEq
structure leadlineref09_Env where
 P:api_Prog
 Regs:(List Str)
 deriving DecidableEq
def Z1j (N:Nat) (kZ1i:(List api_Instr)→Option api_Code) (p1:api_Code):Nat→(List api_Instr)→Int→Option api_Code
 | 0,_,_=>none
 | n+1,vB2,vB8=>
  if ((decide (vB8 < (p1.L.length:Int))) && (decide (vB8 < 60)))=true then
   (getI p1.L vB8).bind fun x12=>
   (subI x12.E 0 (min (x12.E.length:Int) 50)).bind fun l29=>
   (appG 16 ([]:List api_Op) l29).bind fun l37=>
   (subI x12.F 0 (min (x12.F.length:Int) 50)).bind fun l49=>
   (appG 16 ([]:List api_Op) l49).bind fun l57=>
   (appG 80 vB2 ([(api_Instr.mk x12.Kind x12.A x12.B l37 l57 x12.To)]:List api_Instr)).bind fun l77=>
   (Z1j N kZ1i p1 n) l77 (IntKind.i64.wrap (vB8+1))
  else
   kZ1i vB2
def Z1i (p1:api_Code) (vA2:(List api_Instr)):Option api_Code:=
 some (api_Code.mk p1.Regs p1.Counts vA2)
def Z1h (N:Nat) (p1:api_Code):Option api_Code:=
 (Z1j N (Z1i p1) p1) N [] 0
def Z48 (N:Nat) (p1:Int):Option Bool:=
 some ((decide (p1 < 0)) || (decide (4294967296 < p1)))
def Z58 (N:Nat) (kZ57:Option Int) (p1:(List Int)):Nat→Int→Option Int
 | 0,_=>none
 | n+1,vB1=>
  if vB1 < (p1.length:Int) then
   (getI p1 vB1).bind fun xz7=>
   (Z48 N xz7).bind fun r12=>
   if r12=true then
    some vB1
   else
    (Z58 N kZ57 p1 n) (IntKind.i64.wrap (vB1+1))
  else
   kZ57
def Z57  : Option Int:=
 some (-1)
def Z56 (N:Nat) (p1:(List Int)):Option Int:=
 (Z58 N Z57 p1) N 0
def Z4s (N:Nat) (p1:(List Int)):Option Bool:=
 (Z56 N p1).bind fun rz6=>
 some (decide (0≤rz6))
def Z46 (N:Nat) (p1:api_Unit):Option Int:=
 if ((decide (p1.Stays < 1)) || (decide ((p1.Lines.length:Int) < p1.Stays)))=true then
  some 0
 else
  (getI p1.Lines (IntKind.i64.wrap (p1.Stays - 1))).bind fun x51=>
  some (IntKind.i64.wrap (x51+1))
def Z4g (N:Nat)  : Option (Arr 16 Str):=
 some (⟨[[],[114,101],[114,99],[99,101],[114,99,101,102],[108],[108],[],[],[109],[109],[116],[101,116],[107,110],[107,116],[101]],rfl⟩:(Arr 16 Str))
def Z5b (N:Nat) (kZ5a:Option Int) (p1:(List (IntK .u8))) (p6:Int):Nat→Int→Option Int
 | 0,_=>none
 | n+1,vB1=>
  if vB1 < (p1.length:Int) then
   (getI p1 vB1).bind fun xz8=>
   if p6=xz8.v then
    some vB1
   else
    (Z5b N kZ5a p1 p6 n) (IntKind.i64.wrap (vB1+1))
  else
   kZ5a
def Z5a  : Option Int:=
 some (-1)
def Z59 (N:Nat) (p1:(List (IntK .u8))) (p6:Int):Option Int:=
 (Z5b N Z5a p1 p6) N 0
def Z4t (N:Nat) (p1:(List (IntK .u8))) (p6:Int):Option Bool:=
 (Z59 N p1 p6).bind fun rz7=>
 some (decide (0≤rz7))
def Z3y (N:Nat) (p1:Int) (y3:api_Instr):Option Bool:=
 (Z4g N).bind fun r15=>
 (getI r15.l y3.Kind).bind fun x24=>
 (Z4t N (bytesK x24) p1).bind fun r36=>
 some r36
def Z4n (N:Nat) (p1:Bool) (p2:Int) (p3:Int):Option Bool:=
 if p1=true then
  some ((decide (0≤p2)) && (decide (p2 < p3)))
 else
  some (decide (p2=0))
def Z1f (N:Nat) (p1:Int):Option Int:=
 if ((decide (p1=3)) || (decide (p1=4)))=true then
  some 1
 else
  if ((decide (5≤p1)) && (decide (p1≤15)))=true then
   some 2
  else
   some 0
def Z1e (N:Nat) (kZ1d:Int→Int→Option (Int×Int×Bool)) (p1:(List api_Op)):Nat→Int→Int→Int→Option (Int×Int×Bool)
 | 0,_,_,_=>none
 | n+1,vB1,vB2,vB3=>
  if vB3 < (p1.length:Int) then
   (getI p1 vB3).bind fun xz7=>
   (Z1f N xz7.Kind).bind fun r13=>
   if (IntKind.i64.wrap (vB1 - r13)) < 0 then
    some (0,0,false)
   else
    (Z1e N kZ1d p1 n) (IntKind.i64.wrap ((IntKind.i64.wrap (vB1 - r13))+1)) (max vB2 (IntKind.i64.wrap ((IntKind.i64.wrap (vB1 - r13))+1))) (IntKind.i64.wrap (vB3+1))
  else
   kZ1d vB1 vB2
def Z1d (vA1:Int) (vA2:Int):Option (Int×Int×Bool):=
 some (vA1,vA2,true)
def Z1c (N:Nat) (p1:(List api_Op)):Option (Int×Int×Bool):=
 (Z1e N Z1d p1) N 0 0 0
def Z1b (N:Nat) (p1:api_Op) (y3:Int):Option Bool:=
 if p1.Kind=1 then
  some ((decide (p1.N < 0)) || (decide (4294967296 < p1.N)))
 else
  if p1.Kind=2 then
   some ((decide (p1.N < 0)) || (decide (y3≤p1.N)))
  else
   some (((decide (p1.N≠0)) || (decide (p1.Kind < 1))) || (decide (16≤p1.Kind)))
def Z55 (N:Nat) (kZ54:Option Int) (p1:(List api_Op)) (y7:Int):Nat→Int→Option Int
 | 0,_=>none
 | n+1,vB1=>
  if vB1 < (p1.length:Int) then
   (getI p1 vB1).bind fun x10=>
   (Z1b N x10 y7).bind fun r15=>
   if r15=true then
    some vB1
   else
    (Z55 N kZ54 p1 y7 n) (IntKind.i64.wrap (vB1+1))
  else
   kZ54
def Z54  : Option Int:=
 some (-1)
def Z53 (N:Nat) (p1:(List api_Op)) (y7:Int):Option Int:=
 (Z55 N Z54 p1 y7) N 0
def Z4r (N:Nat) (p1:(List api_Op)) (y7:Int):Option Bool:=
 (Z53 N p1 y7).bind fun rz9=>
 some (decide (0≤rz9))
def Z1a (N:Nat) (p1:(List api_Op)) (p6:Int):Option Bool:=
 (Z1c N p1).bind fun rz8=>
 if (((decide ((p1.length:Int)≤40)) && rz8.2.2) && (decide (rz8.1=1)))=true then
  (Z4r N p1 p6).bind fun r11=>
  some (!r11)
 else
  some false
def Z4e (N:Nat) (p1:api_Instr) (y5:api_Instr):Option Bool:=
 some ((decide (p1.Kind=13)) && (decide (p1.A=y5.A)))
def Z52 (N:Nat) (kZ51:Option Int) (p1:(List api_Instr)) (y7:api_Instr):Nat→Int→Option Int
 | 0,_=>none
 | n+1,vB1=>
  if vB1 < (p1.length:Int) then
   (getI p1 vB1).bind fun x20=>
   (Z4e N x20 y7).bind fun r33=>
   if r33=true then
    some vB1
   else
    (Z52 N kZ51 p1 y7 n) (IntKind.i64.wrap (vB1+1))
  else
   kZ51
def Z51  : Option Int:=
 some (-1)
def Z50 (N:Nat) (p1:(List api_Instr)) (y7:api_Instr):Option Int:=
 (Z52 N Z51 p1 y7) N 0
def Z4q (N:Nat) (p1:(List api_Instr)) (y7:api_Instr):Option Bool:=
 (Z50 N p1 y7).bind fun r19=>
 some (decide (0≤r19))
def Z4f (N:Nat) (p1:(List api_Instr)) (p6:Int) (xz7:api_Instr) (vA1:Bool):Option Bool:=
 if vA1=true then
  some false
 else
  (subI p1 xz7.To p6).bind fun l36=>
  (Z4q N l36 xz7).bind fun r44=>
  some (!r44)
def Z4d (N:Nat) (p1:(List api_Instr)) (p6:Int):Option Bool:=
 (getI p1 p6).bind fun xz7=>
 if ((decide (xz7.To < 1)) || (decide (p6 < xz7.To)))=true then
  (Z4f N p1 p6 xz7) true
 else
  (getI p1 (IntKind.i64.wrap (xz7.To - 1))).bind fun x22=>
  (Z4f N p1 p6 xz7) ((decide (x22.Kind≠13)) || (decide (x22.A≠xz7.A)))
def Z4m (N:Nat) (kZ4k:Option Bool) (p1:(List api_Instr)) (xz7:api_Instr) (vB1:(List Int)):Nat→Int→Option Bool
 | 0,_=>none
 | n+1,vE1=>
  if vE1 < (vB1.length:Int) then
   (getI vB1 vE1).bind fun x23=>
   (getI p1 x23).bind fun x29=>
   if ((decide ((IntKind.i64.wrap (x29.To - 1)) < (IntKind.i64.wrap (xz7.To - 1)))) && (decide ((IntKind.i64.wrap (xz7.To - 1))≤x23)))=true then
    some false
   else
    (Z4m N kZ4k p1 xz7 vB1 n) (IntKind.i64.wrap (vE1+1))
  else
   kZ4k
def Z4k (kZ4j:(List Int)→Option Bool) (vB1:(List Int)) (vB7:Int):Option Bool:=
 (appG 8 vB1 ([vB7]:List Int)).bind fun l46=>
 kZ4j l46
def Z4j (kZ4l:(List Int)→Int→Option Bool) (vB7:Int) (vC1:(List Int)):Option Bool:=
 kZ4l vC1 (IntKind.i64.wrap (vB7+1))
def Z4l (N:Nat) (kZ4i:Option Bool) (p1:(List api_Instr)):Nat→(List Int)→Int→Option Bool
 | 0,_,_=>none
 | n+1,vB1,vB7=>
  if vB7 < (p1.length:Int) then
   (getI p1 vB7).bind fun xz7=>
   if xz7.Kind≠14 then
    (Z4j (Z4l N kZ4i p1 n) vB7) vB1
   else
    (Z4m N (Z4k (Z4j (Z4l N kZ4i p1 n) vB7) vB1 vB7) p1 xz7 vB1) N 0
  else
   kZ4i
def Z4i  : Option Bool:=
 some true
def Z4h (N:Nat) (p1:(List api_Instr)):Option Bool:=
 (Z4l N Z4i p1) N [] 0
def Z44 (kZ45:Int→Option Bool) (vC1:Bool) (vC2:Bool) (vC3:Bool) (vC4:Bool) (vB1:Int) (vC5:Bool):Option Bool:=
 if (((((!vC1) || (!vC2)) || (!vC3)) || (!vC4)) || (!vC5))=true then
  some false
 else
  kZ45 (IntKind.i64.wrap (vB1+1))
def Z43 (N:Nat) (kZ45:Int→Option Bool) (p1:api_Code) (x14:api_Instr) (vC1:Bool) (vC2:Bool) (vC3:Bool) (vB1:Int) (vC4:Bool):Option Bool:=
 (Z3y N 116 x14).bind fun r76=>
 if (r76 && (decide (x14.Kind=14)))=true then
  (Z4d N p1.L vB1).bind fun r79=>
  (Z44 kZ45 vC1 vC2 vC3 vC4 vB1) r79
 else
  (Z3y N 116 x14).bind fun r81=>
  if r81=true then
   (Z44 kZ45 vC1 vC2 vC3 vC4 vB1) ((decide (vB1 < x14.To)) && (decide (x14.To≤(p1.L.length:Int))))
  else
   (Z44 kZ45 vC1 vC2 vC3 vC4 vB1) (decide (x14.To=0))
def Z42 (N:Nat) (kZ45:Int→Option Bool) (p1:api_Code) (x14:api_Instr) (vC1:Bool) (vC2:Bool) (vB1:Int) (vC3:Bool):Option Bool:=
 (Z3y N 102 x14).bind fun r66=>
 if r66=true then
  (Z1a N x14.F p1.Regs).bind fun r69=>
  if r69=true then
   (Z43 N kZ45 p1 x14 vC1 vC2 vC3 vB1) true
  else
   (Z3y N 102 x14).bind fun r72=>
   (Z43 N kZ45 p1 x14 vC1 vC2 vC3 vB1) ((!r72) && (decide ((x14.F.length:Int)=0)))
 else
  (Z3y N 102 x14).bind fun r74=>
  (Z43 N kZ45 p1 x14 vC1 vC2 vC3 vB1) ((!r74) && (decide ((x14.F.length:Int)=0)))
def Z41 (N:Nat) (kZ45:Int→Option Bool) (p1:api_Code) (x14:api_Instr) (vC1:Bool) (vB1:Int) (vC2:Bool):Option Bool:=
 (Z3y N 101 x14).bind fun r56=>
 if r56=true then
  (Z1a N x14.E p1.Regs).bind fun r59=>
  if r59=true then
   (Z42 N kZ45 p1 x14 vC1 vC2 vB1) true
  else
   (Z3y N 101 x14).bind fun r62=>
   (Z42 N kZ45 p1 x14 vC1 vC2 vB1) ((!r62) && (decide ((x14.E.length:Int)=0)))
 else
  (Z3y N 101 x14).bind fun r64=>
  (Z42 N kZ45 p1 x14 vC1 vC2 vB1) ((!r64) && (decide ((x14.E.length:Int)=0)))
def Z40 (N:Nat) (kZ45:Int→Option Bool) (p1:api_Code) (p4:Int) (p5:Int) (p6:Int) (x14:api_Instr) (vB1:Int) (vC1:Bool):Option Bool:=
 (Z3y N 99 x14).bind fun r38=>
 if r38=true then
  (Z4n N true x14.B p4).bind fun r41=>
  (Z41 N kZ45 p1 x14 vC1 vB1) r41
 else
  (Z3y N 108 x14).bind fun r43=>
  if r43=true then
   (Z4n N true x14.B p5).bind fun r46=>
   (Z41 N kZ45 p1 x14 vC1 vB1) r46
  else
   (Z3y N 109 x14).bind fun r48=>
   if r48=true then
    (Z4n N true x14.B p6).bind fun r51=>
    (Z41 N kZ45 p1 x14 vC1 vB1) r51
   else
    (Z3y N 110 x14).bind fun r53=>
    if r53=true then
     (Z41 N kZ45 p1 x14 vC1 vB1) ((decide (1≤x14.B)) && (decide (x14.B≤8)))
    else
     (Z41 N kZ45 p1 x14 vC1 vB1) (decide (x14.B=0))
def Z45 (N:Nat) (kZ3z:Option Bool) (p1:api_Code) (p4:Int) (p5:Int) (p6:Int):Nat→Int→Option Bool
 | 0,_=>none
 | n+1,vB1=>
  if vB1 < (p1.L.length:Int) then
   (getI p1.L vB1).bind fun x14=>
   if ((decide (x14.Kind < 1)) || (decide (16≤x14.Kind)))=true then
    some false
   else
    (Z3y N 114 x14).bind fun r29=>
    (Z4n N r29 x14.A p1.Regs).bind fun r31=>
    (Z3y N 107 x14).bind fun r33=>
    if r33=true then
     (Z4n N true x14.A p1.Counts).bind fun r36=>
     (Z40 N (Z45 N kZ3z p1 p4 p5 p6 n) p1 p4 p5 p6 x14 vB1) r36
    else
     (Z40 N (Z45 N kZ3z p1 p4 p5 p6 n) p1 p4 p5 p6 x14 vB1) r31
  else
   kZ3z
def Z3z (N:Nat) (p1:api_Code):Option Bool:=
 (Z4h N p1.L).bind fun r85=>
 some r85
def Z3x (N:Nat) (p1:api_Code) (p4:Int) (p5:Int) (p6:Int):Option Bool:=
 if ((((decide (p1.Regs < 0)) || (decide (4 < p1.Regs))) || (decide (p1.Counts < 0))) || (decide (12 < p1.Counts)))=true then
  some false
 else
  (Z45 N (Z3z N p1) p1 p4 p5 p6) N 0
def Z49 (N:Nat) (p1:api_Code) (y5:api_Unit):Option Bool:=
 (Z46 N y5).bind fun r59=>
 (Z3x N p1 (y5.Lines.length:Int) r59 y5.Locks).bind fun r61=>
 some (!r61)
def Z4z (N:Nat) (kZ4y:Option Int) (p1:(List api_Code)) (y7:api_Unit):Nat→Int→Option Int
 | 0,_=>none
 | n+1,vB1=>
  if vB1 < (p1.length:Int) then
   (getI p1 vB1).bind fun x57=>
   (Z49 N x57 y7).bind fun r66=>
   if r66=true then
    some vB1
   else
    (Z4z N kZ4y p1 y7 n) (IntKind.i64.wrap (vB1+1))
  else
   kZ4y
def Z4y  : Option Int:=
 some (-1)
def Z4x (N:Nat) (p1:(List api_Code)) (y7:api_Unit):Option Int:=
 (Z4z N Z4y p1 y7) N 0
def Z4p (N:Nat) (p1:(List api_Code)) (y7:api_Unit):Option Bool:=
 (Z4x N p1 y7).bind fun r56=>
 some (decide (0≤r56))
def Z4a (N:Nat) (p1:(List api_Op)) (y7:api_Unit):Option Bool:=
 (Z1a N p1 y7.Stays).bind fun r56=>
 some (!r56)
def Z4w (N:Nat) (kZ4v:Option Int) (p1:(List (List api_Op))) (y7:api_Unit):Nat→Int→Option Int
 | 0,_=>none
 | n+1,vB1=>
  if vB1 < (p1.length:Int) then
   (getI p1 vB1).bind fun x57=>
   (Z4a N x57 y7).bind fun r66=>
   if r66=true then
    some vB1
   else
    (Z4w N kZ4v p1 y7 n) (IntKind.i64.wrap (vB1+1))
  else
   kZ4v
def Z4v  : Option Int:=
 some (-1)
def Z4u (N:Nat) (p1:(List (List api_Op))) (y7:api_Unit):Option Int:=
 (Z4w N Z4v p1 y7) N 0
def Z4o (N:Nat) (p1:(List (List api_Op))) (y7:api_Unit):Option Bool:=
 (Z4u N p1 y7).bind fun r56=>
 some (decide (0≤r56))
def Z4c (N:Nat) (kZ4b:Option Bool) (p1:api_Unit):Nat→Int→Int→Option Bool
 | 0,_,_=>none
 | n+1,vB1,vB2=>
  if vB2 < (p1.Lines.length:Int) then
   (getI p1.Lines vB2).bind fun x52=>
   if ((!(((decide (0 < vB2)) && (decide (vB2 < p1.Stays))) && (decide (x52=vB1)))) && (decide (x52≠(IntKind.i64.wrap (vB1+1)))))=true then
    some false
   else
    (Z4c N kZ4b p1 n) x52 (IntKind.i64.wrap (vB2+1))
  else
   kZ4b
def Z4b (N:Nat) (p1:api_Unit):Option Bool:=
 (Z4s N p1.Firsts).bind fun r58=>
 if r58=true then
  some false
 else
  (Z4p N p1.Threads p1).bind fun r61=>
  if r61=true then
   some false
  else
   (Z49 N p1.Recover p1).bind fun r64=>
   if r64=true then
    some false
   else
    (Z4o N p1.Claims p1).bind fun r67=>
    some (!r67)
def Z47 (N:Nat) (p1:api_Unit):Option Bool:=
 if ((((((((decide (20 < (p1.Lines.length:Int))) || (decide (p1.Stays < 0))) || (decide ((p1.Lines.length:Int) < p1.Stays))) || (decide ((p1.Firsts.length:Int)≠(p1.Lines.length:Int)))) || (decide (p1.Locks < 0))) || (decide (2 < p1.Locks))) || (decide ((p1.Threads.length:Int) < 1))) || (decide (3 < (p1.Threads.length:Int))))=true then
  some false
 else
  (Z4c N (Z4b N p1) p1) N (-1) 0
def Zc (N:Nat) (kZb:Int→Str→Option Str):Nat→Int→Str→Option Str
 | 0,_,_=>none
 | n+1,vB1,vB2=>
  if 128≤vB1 then
   (catC vB2 (IntKind.u8.wrap (IntKind.i64.wrap ((vB1.tmod 128)+128)))).bind fun s5=>
   (shrI .i64 vB1 7).bind fun xz9=>
   (Zc N kZb n) xz9 s5
  else
   kZb vB1 vB2
def Zb (vA1:Int) (vA2:Str):Option Str:=
 (catC vA2 (IntKind.u8.wrap vA1)).bind fun s11=>
 some s11
def Za (N:Nat) (p1:Int):Option Str:=
 if ((decide (p1 < 0)) || (decide (1099511627776 < p1)))=true then
  some []
 else
  (Zc N Zb) N p1 []
def Z15 (N:Nat) (p1:Str) (p7:Int):Option Str:=
 (Za N p7).bind fun rz8=>
 (catB p1 rz8).bind fun s10=>
 some s10
def Z17 (N:Nat) (p7:(List Int)):Nat→Str→Int→Option Str
 | 0,_,_=>none
 | n+1,vA1,vA6=>
  if vA6 < (p7.length:Int) then
   (getI p7 vA6).bind fun x19=>
   (Z15 N vA1 x19).bind fun r24=>
   (Z17 N p7 n) r24 (IntKind.i64.wrap (vA6+1))
  else
   some vA1
def Z16 (N:Nat) (p1:Str) (p7:(List Int)):Option Str:=
 (Z15 N p1 (p7.length:Int)).bind fun r12=>
 (Z17 N p7) N r12 0
def Z19 (N:Nat) (p7:(List api_Op)):Nat→Str→Int→Option Str
 | 0,_,_=>none
 | n+1,vA1,vA6=>
  if vA6 < (p7.length:Int) then
   (getI p7 vA6).bind fun x19=>
   (Z15 N vA1 x19.Kind).bind fun r25=>
   (Z15 N r25 x19.N).bind fun r31=>
   (Z19 N p7 n) r31 (IntKind.i64.wrap (vA6+1))
  else
   some vA1
def Z18 (N:Nat) (p1:Str) (p7:(List api_Op)):Option Str:=
 (Z15 N p1 (p7.length:Int)).bind fun r12=>
 (Z19 N p7) N r12 0
def Z14 (N:Nat) (p7:api_Code):Nat→Str→Int→Option Str
 | 0,_,_=>none
 | n+1,vA1,vA6=>
  if vA6 < (p7.L.length:Int) then
   (getI p7.L vA6).bind fun x34=>
   (Z15 N vA1 x34.Kind).bind fun r48=>
   (Z15 N r48 x34.A).bind fun r54=>
   (Z15 N r54 x34.B).bind fun r60=>
   (Z15 N r60 x34.To).bind fun r66=>
   (Z18 N r66 x34.E).bind fun r72=>
   (Z18 N r72 x34.F).bind fun r78=>
   (Z14 N p7 n) r78 (IntKind.i64.wrap (vA6+1))
  else
   some vA1
def Z13 (N:Nat) (p1:Str) (p7:api_Code):Option Str:=
 (Z15 N p1 p7.Regs).bind fun r15=>
 (Z15 N r15 p7.Counts).bind fun r21=>
 (Z15 N r21 (p7.L.length:Int)).bind fun r27=>
 (Z14 N p7) N r27 0
def Z5 (N:Nat) (kZ3:Str→Option (Str×Int)) (p1:api_Unit):Nat→Str→Int→Option (Str×Int)
 | 0,_,_=>none
 | n+1,vB1,vB6=>
  if vB6 < (p1.Threads.length:Int) then
   (getI p1.Threads vB6).bind fun x85=>
   (Z13 N vB1 x85).bind fun r95=>
   (Z5 N kZ3 p1 n) r95 (IntKind.i64.wrap (vB6+1))
  else
   kZ3 vB1
def Z6 (N:Nat) (kZ4:Str→Option (Str×Int)) (p1:api_Unit):Nat→Str→Int→Option (Str×Int)
 | 0,_,_=>none
 | n+1,vB7,vB12=>
  if vB12 < (p1.Claims.length:Int) then
   (getI p1.Claims vB12).bind fun x114=>
   (Z18 N vB7 x114).bind fun r123=>
   (Z6 N kZ4 p1 n) r123 (IntKind.i64.wrap (vB12+1))
  else
   kZ4 vB7
def Z4 (vA6:Str):Option (Str×Int):=
 (neG vA6).bind fun s129=>
 some (s129,0)
def Z3 (N:Nat) (p1:api_Unit) (vA1:Str):Option (Str×Int):=
 (Z13 N vA1 p1.Recover).bind fun r101=>
 (Z15 N r101 (p1.Claims.length:Int)).bind fun r107=>
 (Z6 N Z4 p1) N r107 0
def Z2 (N:Nat) (p1:api_Unit):Option (Str×Int):=
 (Z47 N p1).bind fun r50=>
 if r50=true then
  (Z16 N ([]:Str) p1.Lines).bind fun r54=>
  (Z15 N r54 p1.Stays).bind fun r60=>
  (Z16 N r60 p1.Firsts).bind fun r66=>
  (Z15 N r66 p1.Locks).bind fun r72=>
  (Z15 N r72 (p1.Threads.length:Int)).bind fun r78=>
  (Z5 N (Z3 N p1) p1) N r78 0
 else
  some ([],8)
def Z2b (N:Nat) (p1:api_Unit):Option Int:=
 if ((decide (1≤p1.Stays)) && (decide (p1.Stays≤(p1.Lines.length:Int))))=true then
  (getI p1.Lines (IntKind.i64.wrap (p1.Stays - 1))).bind fun x51=>
  some (IntKind.i64.wrap (x51+1))
 else
  some 0
def Z2z (N:Nat) (p1:Int) (p2:Int):Option Bool:=
 some ((decide (0≤p1)) && (decide (p1 < p2)))
def Z1z (kZ20:Int→Int→Option Int) (vB2:Int) (vC2:Int):Option Int:=
 if vC2 < 0 then
  some (-1)
 else
  kZ20 (IntKind.i64.wrap (vC2+1)) (IntKind.i64.wrap (vB2+1))
def Z1y (kZ20:Int→Int→Option Int) (xz8:api_Op) (vB2:Int) (vC1:Int):Option Int:=
 if ((decide (5≤xz8.Kind)) && (decide (xz8.Kind≤15)))=true then
  (Z1z kZ20 vB2) (IntKind.i64.wrap (vC1 - 2))
 else
  (Z1z kZ20 vB2) vC1
def Z20 (N:Nat) (kZ1x:Int→Option Int) (p1:(List api_Op)) (p6:Int):Nat→Int→Int→Option Int
 | 0,_,_=>none
 | n+1,vB1,vB2=>
  if vB2 < p6 then
   (getI p1 vB2).bind fun xz8=>
   if ((decide (xz8.Kind=3)) || (decide (xz8.Kind=4)))=true then
    (Z1y (Z20 N kZ1x p1 p6 n) xz8 vB2) (IntKind.i64.wrap (vB1 - 1))
   else
    (Z1y (Z20 N kZ1x p1 p6 n) xz8 vB2) vB1
  else
   kZ1x vB1
def Z1x (vA1:Int):Option Int:=
 some vA1
def Z1w (N:Nat) (p1:(List api_Op)) (p6:Int):Option Int:=
 (Z20 N Z1x p1 p6) N 0 0
def Z1s (N:Nat) (kZ1r:Option Bool) (p1:(List api_Op)) (p6:Int):Nat→Int→Option Bool
 | 0,_=>none
 | n+1,vB1=>
  if vB1 < (p1.length:Int) then
   (getI p1 vB1).bind fun xz8=>
   if (((((decide (xz8.Kind < 1)) || (decide (15 < xz8.Kind))) || ((decide (xz8.Kind=1)) && ((decide (xz8.N < 0)) || (decide (4294967296 < xz8.N))))) || ((decide (xz8.Kind=2)) && ((decide (xz8.N < 0)) || (decide (p6≤xz8.N))))) || ((decide (2 < xz8.Kind)) && (decide (xz8.N≠0))))=true then
    some false
   else
    (Z1s N kZ1r p1 p6 n) (IntKind.i64.wrap (vB1+1))
  else
   kZ1r
def Z1r (N:Nat) (p1:(List api_Op)):Option Bool:=
 if ((decide (1≤(p1.length:Int))) && (decide ((p1.length:Int)≤40)))=true then
  (Z1w N p1 (p1.length:Int)).bind fun r15=>
  some (decide (r15=1))
 else
  some false
def Z1q (N:Nat) (p1:(List api_Op)) (p6:Int):Option Bool:=
 (Z1s N (Z1r N p1) p1 p6) N 0
def Z2x (N:Nat) (kZ2u:Bool→Option Bool) (p1:api_Instr) (p9:Int) (vB3:Bool):Option Bool:=
 if vB3=true then
  (Z2z N p1.B p9).bind fun r41=>
  kZ2u r41
 else
  if p1.Kind=13 then
   kZ2u ((decide (1≤p1.B)) && (decide (p1.B≤8)))
  else
   kZ2u (decide (p1.B=0))
def Z2w (N:Nat) (kZ2u:Bool→Option Bool) (p1:api_Instr) (p8:Int) (p9:Int) (vB2:Bool):Option Bool:=
 if vB2=true then
  (Z2z N p1.B p8).bind fun r37=>
  kZ2u r37
 else
  if p1.Kind=9 then
   (Z2x N kZ2u p1 p9) (decide (p1.Kind=9))
  else
   (Z2x N kZ2u p1 p9) (decide (p1.Kind=10))
def Z2v (N:Nat) (kZ2u:Bool→Option Bool) (p1:api_Instr) (p7:Int) (p8:Int) (p9:Int) (vB1:Bool):Option Bool:=
 if vB1=true then
  (Z2z N p1.B p7).bind fun r33=>
  kZ2u r33
 else
  if p1.Kind=5 then
   (Z2w N kZ2u p1 p8 p9) (decide (p1.Kind=5))
  else
   (Z2w N kZ2u p1 p8 p9) (decide (p1.Kind=6))
def Z2y (p1:api_Instr) (vA2:Bool) (vA3:Bool) (vA4:Bool):Option Bool:=
 if vA4=true then
  some false
 else
  some ((((decide (1≤p1.Kind)) && (decide (p1.Kind≤15))) && vA2) && vA3)
def Z2u (N:Nat) (p1:api_Instr) (p4:api_Code) (vA2:Bool) (vA3:Bool):Option Bool:=
 if (((((decide (p1.Kind=1)) || (decide (p1.Kind=3))) || (decide (p1.Kind=4))) || (decide (p1.Kind=12))) || (decide (p1.Kind=15)))=true then
  (Z1q N p1.E p4.Regs).bind fun r45=>
  if ((!r45) || ((!(((((decide (p1.Kind=1)) || (decide (p1.Kind=3))) || (decide (p1.Kind=4))) || (decide (p1.Kind=12))) || (decide (p1.Kind=15)))) && (decide (0 < (p1.E.length:Int)))))=true then
   (Z2y p1 vA2 vA3) true
  else
   if p1.Kind=4 then
    (Z1q N p1.F p4.Regs).bind fun r49=>
    (Z2y p1 vA2 vA3) ((!r49) || ((decide (p1.Kind≠4)) && (decide (0 < (p1.F.length:Int)))))
   else
    (Z2y p1 vA2 vA3) ((decide (p1.Kind≠4)) && (decide (0 < (p1.F.length:Int))))
 else
  if ((!(((((decide (p1.Kind=1)) || (decide (p1.Kind=3))) || (decide (p1.Kind=4))) || (decide (p1.Kind=12))) || (decide (p1.Kind=15)))) && (decide (0 < (p1.E.length:Int))))=true then
   (Z2y p1 vA2 vA3) true
  else
   if p1.Kind=4 then
    (Z1q N p1.F p4.Regs).bind fun r53=>
    (Z2y p1 vA2 vA3) ((!r53) || ((decide (p1.Kind≠4)) && (decide (0 < (p1.F.length:Int)))))
   else
    (Z2y p1 vA2 vA3) ((decide (p1.Kind≠4)) && (decide (0 < (p1.F.length:Int))))
def Z2t (N:Nat) (p1:api_Instr) (p4:api_Code) (p7:Int) (p8:Int) (p9:Int) (vA2:Bool):Option Bool:=
 if p1.Kind=2 then
  (Z2v N (Z2u N p1 p4 vA2) p1 p7 p8 p9) (decide (p1.Kind=2))
 else
  if p1.Kind=3 then
   (Z2v N (Z2u N p1 p4 vA2) p1 p7 p8 p9) (decide (p1.Kind=3))
  else
   (Z2v N (Z2u N p1 p4 vA2) p1 p7 p8 p9) (decide (p1.Kind=4))
def Z2s (N:Nat) (p1:api_Instr) (p4:api_Code) (p7:Int) (p8:Int) (p9:Int) (vA1:Bool):Option Bool:=
 if ((decide (p1.Kind=13)) || (decide (p1.Kind=14)))=true then
  (Z2z N p1.A p4.Counts).bind fun r28=>
  (Z2t N p1 p4 p7 p8 p9) r28
 else
  (Z2t N p1 p4 p7 p8 p9) vA1
def Z2r (N:Nat) (p1:api_Instr) (p4:api_Code) (p7:Int) (p8:Int) (p9:Int):Option Bool:=
 if (((decide (p1.Kind=1)) || (decide (p1.Kind=2))) || (decide (p1.Kind=4)))=true then
  (Z2z N p1.A p4.Regs).bind fun r25=>
  (Z2s N p1 p4 p7 p8 p9) r25
 else
  (Z2s N p1 p4 p7 p8 p9) (decide (p1.A=0))
def Z38 (N:Nat) (kZ37:Option Bool) (p1:(List api_Instr)) (p6:Int) (xz7:api_Instr):Nat→Int→Option Bool
 | 0,_=>none
 | n+1,vB1=>
  if vB1 < p6 then
   (getI p1 vB1).bind fun x39=>
   if ((decide (x39.Kind=13)) && (decide (x39.A=xz7.A)))=true then
    some false
   else
    (Z38 N kZ37 p1 p6 xz7 n) (IntKind.i64.wrap (vB1+1))
  else
   kZ37
def Z37  : Option Bool:=
 some true
def Z36 (N:Nat) (p1:(List api_Instr)) (p6:Int) (xz7:api_Instr) (vA1:Bool):Option Bool:=
 if vA1=true then
  some false
 else
  (Z38 N Z37 p1 p6 xz7) N xz7.To
def Z35 (N:Nat) (p1:(List api_Instr)) (p6:Int):Option Bool:=
 (getI p1 p6).bind fun xz7=>
 if ((decide (xz7.Kind=11)) || (decide (xz7.Kind=12)))=true then
  some ((decide (p6 < xz7.To)) && (decide (xz7.To≤(p1.length:Int))))
 else
  if xz7.Kind≠14 then
   some (decide (xz7.To=0))
  else
   if ((decide (xz7.To < 1)) || (decide (p6 < xz7.To)))=true then
    (Z36 N p1 p6 xz7) true
   else
    (getI p1 (IntKind.i64.wrap (xz7.To - 1))).bind fun x24=>
    (Z36 N p1 p6 xz7) ((decide (x24.Kind≠13)) || (decide (x24.A≠xz7.A)))
def Z2q (N:Nat) (p1:Int) (p2:Int) (p3:Int) (p4:Int):Option Bool:=
 some (((((decide (p3≤p1)) && (decide (p2≤p4))) || ((decide (p1≤p3)) && (decide (p4≤p2)))) || (decide (p2 < p3))) || (decide (p4 < p1)))
def Z23 (kZ28:Int→Option Bool) (vB1:Int) (vC1:Bool):Option Bool:=
 if vC1=true then
  some false
 else
  kZ28 (IntKind.i64.wrap (vB1+1))
def Z28 (N:Nat) (kZ22:Option Bool) (p1:api_Code) (p4:Int) (p5:Int) (p6:Int):Nat→Int→Option Bool
 | 0,_=>none
 | n+1,vB1=>
  if vB1 < (p1.L.length:Int) then
   (getI p1.L vB1).bind fun x14=>
   (Z2r N x14 p1 p4 p5 p6).bind fun r27=>
   if r27=true then
    (Z35 N p1.L vB1).bind fun r30=>
    (Z23 (Z28 N kZ22 p1 p4 p5 p6 n) vB1) (!r30)
   else
    (Z23 (Z28 N kZ22 p1 p4 p5 p6 n) vB1) true
  else
   kZ22
def Z27 (kZ2a:Int→Option Bool) (vD1:Int) (vE31:Bool):Option Bool:=
 if vE31=true then
  some false
 else
  kZ2a (IntKind.i64.wrap (vD1+1))
def Z26 (N:Nat) (kZ2a:Int→Option Bool) (vD1:Int) (vB2:Int) (vE2:Int) (vE3:Int) (vE4:Int) (vE5:(List api_Op)) (vE10:(List api_Op)) (vE15:Int) (vE17:Int) (vE18:Int) (vE19:Int) (vE20:(List api_Op)) (vE25:(List api_Op)) (vE30:Int):Option Bool:=
 if ((decide (vE2=14)) && (decide (vE17=14)))=true then
  (Z2q N (IntKind.i64.wrap (vE15 - 1)) vB2 (IntKind.i64.wrap (vE30 - 1)) vD1).bind fun r64=>
  (Z27 kZ2a vD1) (!r64)
 else
  (Z27 kZ2a vD1) false
def Z2a (N:Nat) (kZ25:Option Bool) (p1:api_Code) (vB2:Int):Nat→Int→Option Bool
 | 0,_=>none
 | n+1,vD1=>
  if vD1 < vB2 then
   (getI p1.L vB2).bind fun x35=>
   (getI p1.L vD1).bind fun x48=>
   (Z26 N (Z2a N kZ25 p1 vB2 n) vD1 vB2) x35.Kind x35.A x35.B x35.E x35.F x35.To x48.Kind x48.A x48.B x48.E x48.F x48.To
  else
   kZ25
def Z25 (kZ29:Int→Option Bool) (vB2:Int):Option Bool:=
 kZ29 (IntKind.i64.wrap (vB2+1))
def Z29 (N:Nat) (kZ24:Option Bool) (p1:api_Code):Nat→Int→Option Bool
 | 0,_=>none
 | n+1,vB2=>
  if vB2 < (p1.L.length:Int) then
   (Z2a N (Z25 (Z29 N kZ24 p1 n) vB2) p1 vB2) N 0
  else
   kZ24
def Z24  : Option Bool:=
 some true
def Z22 (N:Nat) (p1:api_Code):Option Bool:=
 (Z29 N Z24 p1) N 0
def Z21 (N:Nat) (p1:api_Code) (p4:Int) (p5:Int) (p6:Int):Option Bool:=
 if ((((decide (p1.Regs < 0)) || (decide (4 < p1.Regs))) || (decide (p1.Counts < 0))) || (decide (12 < p1.Counts)))=true then
  some false
 else
  (Z28 N (Z22 N p1) p1 p4 p5 p6) N 0
def Z2e (kZ2h:Int→Option Bool) (p1:api_Unit) (vB1:Int) (vC1:Int):Option Bool:=
 (getI p1.Lines vB1).bind fun x64=>
 if ((decide (x64≠vC1)) && (((decide (vB1=0)) || (decide (p1.Stays≤vB1))) || (decide (x64≠(IntKind.i64.wrap (vC1 - 1))))))=true then
  some false
 else
  kZ2h (IntKind.i64.wrap (vB1+1))
def Z2h (N:Nat) (kZ2d:Option Bool) (p1:api_Unit):Nat→Int→Option Bool
 | 0,_=>none
 | n+1,vB1=>
  if vB1 < (p1.Lines.length:Int) then
   (getI p1.Firsts vB1).bind fun x52=>
   if ((decide (x52 < 0)) || (decide (4294967296 < x52)))=true then
    some false
   else
    if 0 < vB1 then
     (getI p1.Lines (IntKind.i64.wrap (vB1 - 1))).bind fun x59=>
     (Z2e (Z2h N kZ2d p1 n) p1 vB1) (IntKind.i64.wrap (x59+1))
    else
     (Z2e (Z2h N kZ2d p1 n) p1 vB1) 0
  else
   kZ2d
def Z2i (N:Nat) (kZ2f:Option Bool) (p1:api_Unit):Nat→Int→Option Bool
 | 0,_=>none
 | n+1,vB2=>
  if vB2 < (p1.Threads.length:Int) then
   (getI p1.Threads vB2).bind fun x71=>
   (Z2b N p1).bind fun r80=>
   (Z21 N x71 (p1.Lines.length:Int) r80 p1.Locks).bind fun r82=>
   if r82=true then
    (Z2i N kZ2f p1 n) (IntKind.i64.wrap (vB2+1))
   else
    some false
  else
   kZ2f
def Z2j (N:Nat) (kZ2g:Option Bool) (p1:api_Unit):Nat→Int→Option Bool
 | 0,_=>none
 | n+1,vB3=>
  if vB3 < (p1.Claims.length:Int) then
   (getI p1.Claims vB3).bind fun x86=>
   (Z1q N x86 p1.Stays).bind fun r95=>
   if r95=true then
    (Z2j N kZ2g p1 n) (IntKind.i64.wrap (vB3+1))
   else
    some false
  else
   kZ2g
def Z2g (N:Nat) (p1:api_Unit):Option Bool:=
 (Z2b N p1).bind fun r98=>
 (Z21 N p1.Recover (p1.Lines.length:Int) r98 p1.Locks).bind fun r100=>
 some r100
def Z2f (N:Nat) (p1:api_Unit):Option Bool:=
 (Z2j N (Z2g N p1) p1) N 0
def Z2d (N:Nat) (p1:api_Unit):Option Bool:=
 (Z2i N (Z2f N p1) p1) N 0
def Z2c (N:Nat) (p1:api_Unit):Option Bool:=
 if ((((((((decide (20 < (p1.Lines.length:Int))) || (decide (p1.Stays < 0))) || (decide ((p1.Lines.length:Int) < p1.Stays))) || (decide ((p1.Firsts.length:Int)≠(p1.Lines.length:Int)))) || (decide (p1.Locks < 0))) || (decide (2 < p1.Locks))) || (decide ((p1.Threads.length:Int) < 1))) || (decide (3 < (p1.Threads.length:Int))))=true then
  some false
 else
  (Z2h N (Z2d N p1) p1) N 0
def Z3e:Nat→Int→Option Str
 | 0,_=>none
 | N+1,p1=>
  if ((decide (p1 < 0)) || (decide (1099511627776 < p1)))=true then
   some []
  else
   if p1 < 128 then
    some (bytesStr ([(IntK.mk (IntKind.u8.wrap p1))]:List (IntK .u8)))
   else
    ((Z3e N) (IntKind.i64.wrap (p1.tdiv 128))).bind fun r10=>
    (catG (bytesStr ([(IntK.mk (IntKind.u8.wrap (IntKind.i64.wrap (128+(p1.tmod 128)))))]:List (IntK .u8))) r10).bind fun s12=>
    some s12
def Z3o (N:Nat) (kZ3n:Str→Option Str) (p1:(List Int)):Nat→Str→Int→Option Str
 | 0,_,_=>none
 | n+1,vB1,vB2=>
  if vB2 < (p1.length:Int) then
   (getI p1 vB2).bind fun xz9=>
   (Z3e N xz9).bind fun r14=>
   (catG vB1 r14).bind fun s16=>
   (Z3o N kZ3n p1 n) s16 (IntKind.i64.wrap (vB2+1))
  else
   kZ3n vB1
def Z3n (vA1:Str):Option Str:=
 some vA1
def Z3m (N:Nat) (p1:(List Int)):Option Str:=
 (Z3e N (p1.length:Int)).bind fun rz6=>
 (Z3o N Z3n p1) N rz6 0
def Z3w (N:Nat) (kZ3v:Str→Option Str) (p1:(List api_Op)):Nat→Str→Int→Option Str
 | 0,_,_=>none
 | n+1,vB1,vB2=>
  if vB2 < (p1.length:Int) then
   (getI p1 vB2).bind fun xz9=>
   (Z3e N xz9.Kind).bind fun r14=>
   (Z3e N xz9.N).bind fun r16=>
   (catG r14 r16).bind fun s18=>
   (catG vB1 s18).bind fun s20=>
   (Z3w N kZ3v p1 n) s20 (IntKind.i64.wrap (vB2+1))
  else
   kZ3v vB1
def Z3v (vA1:Str):Option Str:=
 some vA1
def Z3u (N:Nat) (p1:(List api_Op)):Option Str:=
 (Z3e N (p1.length:Int)).bind fun rz6=>
 (Z3w N Z3v p1) N rz6 0
def Z3l (N:Nat) (kZ3k:Str→Option Str) (p1:api_Code):Nat→Str→Int→Option Str
 | 0,_,_=>none
 | n+1,vB1,vB2=>
  if vB2 < (p1.L.length:Int) then
   (getI p1.L vB2).bind fun x20=>
   (Z3e N x20.Kind).bind fun r34=>
   (Z3e N x20.A).bind fun r36=>
   (catG r34 r36).bind fun s38=>
   (Z3e N x20.B).bind fun r40=>
   (catG s38 r40).bind fun s42=>
   (Z3e N x20.To).bind fun r44=>
   (catG s42 r44).bind fun s46=>
   (Z3u N x20.E).bind fun r48=>
   (catG s46 r48).bind fun s50=>
   (Z3u N x20.F).bind fun r52=>
   (catG s50 r52).bind fun s54=>
   (catG vB1 s54).bind fun s56=>
   (Z3l N kZ3k p1 n) s56 (IntKind.i64.wrap (vB2+1))
  else
   kZ3k vB1
def Z3k (vA1:Str):Option Str:=
 some vA1
def Z3j (N:Nat) (p1:api_Code):Option Str:=
 (Z3e N p1.Regs).bind fun rz9=>
 (Z3e N p1.Counts).bind fun r11=>
 (catG rz9 r11).bind fun s13=>
 (Z3e N (p1.L.length:Int)).bind fun r15=>
 (catG s13 r15).bind fun s17=>
 (Z3l N Z3k p1) N s17 0
def Z3c (N:Nat) (kZ3a:Str→Option (Str×Int)) (p1:api_Unit):Nat→Str→Int→Option (Str×Int)
 | 0,_,_=>none
 | n+1,vB1,vB2=>
  if vB2 < (p1.Threads.length:Int) then
   (getI p1.Threads vB2).bind fun x72=>
   (Z3j N x72).bind fun r81=>
   (catG vB1 r81).bind fun s83=>
   (Z3c N kZ3a p1 n) s83 (IntKind.i64.wrap (vB2+1))
  else
   kZ3a vB1
def Z3d (N:Nat) (kZ3b:Str→Option (Str×Int)) (p1:api_Unit):Nat→Str→Int→Option (Str×Int)
 | 0,_,_=>none
 | n+1,vB3,vB4=>
  if vB4 < (p1.Claims.length:Int) then
   (getI p1.Claims vB4).bind fun x94=>
   (Z3u N x94).bind fun r103=>
   (catG vB3 r103).bind fun s105=>
   (Z3d N kZ3b p1 n) s105 (IntKind.i64.wrap (vB4+1))
  else
   kZ3b vB3
def Z3b (vA2:Str):Option (Str×Int):=
 some (vA2,0)
def Z3a (N:Nat) (p1:api_Unit) (vA1:Str):Option (Str×Int):=
 (Z3j N p1.Recover).bind fun r85=>
 (Z3e N (p1.Claims.length:Int)).bind fun r87=>
 (catG r85 r87).bind fun s89=>
 (catG vA1 s89).bind fun s91=>
 (Z3d N Z3b p1) N s91 0
def Z39 (N:Nat) (p1:api_Unit):Option (Str×Int):=
 (Z2c N p1).bind fun r50=>
 if r50=true then
  (Z3m N p1.Lines).bind fun r53=>
  (Z3e N p1.Stays).bind fun r55=>
  (catG r53 r55).bind fun s57=>
  (Z3m N p1.Firsts).bind fun r59=>
  (catG s57 r59).bind fun s61=>
  (Z3e N p1.Locks).bind fun r63=>
  (catG s61 r63).bind fun s65=>
  (Z3e N (p1.Threads.length:Int)).bind fun r67=>
  (catG s65 r67).bind fun s69=>
  (Z3c N (Z3a N p1) p1) N s69 0
 else
  some ([],8)
def Z9 (N:Nat) (kZ8:Option (Int×Int×Int)) (p1:Str) (p2:Int):Nat→Int→Int→Option (Int×Int×Int)
 | 0,_,_=>none
 | n+1,vB1,vB2=>
  if vB2 < 6 then
   if (IntKind.i64.wrap (p2+vB2))=(p1.length:Int) then
    some (0,0,6)
   else
    (byteI p1 (IntKind.i64.wrap (p2+vB2))).bind fun xz6=>
    (shlI .i64 ((IntKind.i64.wrap xz6).tmod 128) (IntKind.i64.wrap (7 * vB2))).bind fun xz8=>
    if 128≤(IntKind.i64.wrap xz6) then
     (Z9 N kZ8 p1 p2 n) (IntKind.i64.wrap (vB1+xz8)) (IntKind.i64.wrap (vB2+1))
    else
     if ((decide ((IntKind.i64.wrap xz6)=0)) && (decide (0 < vB2)))=true then
      some (0,0,8)
     else
      if 1099511627776 < (IntKind.i64.wrap (vB1+xz8)) then
       some (0,0,2)
      else
       some ((IntKind.i64.wrap (vB1+xz8)),(IntKind.i64.wrap ((IntKind.i64.wrap (p2+vB2))+1)),0)
  else
   kZ8
def Z8  : Option (Int×Int×Int):=
 some (0,0,2)
def Z7 (N:Nat) (p1:Str) (p2:Int):Option (Int×Int×Int):=
 if ((decide (p2 < 0)) || (decide ((p1.length:Int) < p2)))=true then
  some (0,0,1)
 else
  (Z9 N Z8 p1 p2) N 0 0
def Zn (N:Nat) (p1:binary_reader):Option (Option (Int×binary_reader)):=
 (Z7 N p1.s p1.at').bind fun rz3=>
 if rz3.2.2≠0 then
  some none
 else
  some (some (rz3.1,(binary_reader.mk p1.s rz3.2.1)))
def Zm (N:Nat) (p1:binary_reader):Option (Option (Int×binary_reader)):=
 (Zn N p1).bindP fun rz3=>
 if (rz3.2.s.length:Int) < rz3.1 then
  some none
 else
  some (some (rz3.1,rz3.2))
def Zq (N:Nat) (kZp:binary_reader→(List Int)→Option (Option ((List Int)×binary_reader))) (rz3:(Int×binary_reader)):Nat→binary_reader→(List Int)→Int→Option (Option ((List Int)×binary_reader))
 | 0,_,_,_=>none
 | n+1,vB1,vB2,vB8=>
  if vB8 < rz3.1 then
   (Zn N vB1).bindP fun rz7=>
   (appG 8 vB2 ([rz7.1]:List Int)).bind fun l13=>
   (Zq N kZp rz3 n) rz7.2 l13 (IntKind.i64.wrap (vB8+1))
  else
   kZp vB1 vB2
def Zp (vA1:binary_reader) (vA2:(List Int)):Option (Option ((List Int)×binary_reader)):=
 some (some (vA2,vA1))
def Zo (N:Nat) (p1:binary_reader):Option (Option ((List Int)×binary_reader)):=
 (Zm N p1).bindP fun rz3=>
 (Zq N Zp rz3) N rz3.2 [] 0
def Zt (N:Nat) (kZs:binary_reader→(List api_Op)→Option (Option ((List api_Op)×binary_reader))) (rz3:(Int×binary_reader)):Nat→binary_reader→(List api_Op)→Int→Option (Option ((List api_Op)×binary_reader))
 | 0,_,_,_=>none
 | n+1,vB1,vB2,vB8=>
  if vB8 < rz3.1 then
   (Zn N vB1).bindP fun rz8=>
   (Zn N rz8.2).bindP fun r11=>
   (appG 16 vB2 ([(api_Op.mk rz8.1 r11.1)]:List api_Op)).bind fun l17=>
   (Zt N kZs rz3 n) r11.2 l17 (IntKind.i64.wrap (vB8+1))
  else
   kZs vB1 vB2
def Zs (vA1:binary_reader) (vA2:(List api_Op)):Option (Option ((List api_Op)×binary_reader)):=
 some (some (vA2,vA1))
def Zr (N:Nat) (p1:binary_reader):Option (Option ((List api_Op)×binary_reader)):=
 (Zm N p1).bindP fun rz3=>
 (Zt N Zs rz3) N rz3.2 [] 0
def Zk (N:Nat) (kZj:binary_reader→(List api_Instr)→Option (Option (api_Code×binary_reader))) (vB3:(List api_Instr)) (vD1:binary_reader) (vD2:Int) (vD3:Int) (vD4:Int) (vD5:Int):Option (Option (api_Code×binary_reader)):=
 (Zr N vD1).bindP fun r30=>
 (Zr N r30.2).bindP fun r38=>
 (appG 80 vB3 ([(api_Instr.mk vD2 vD3 vD4 r30.1 r38.1 vD5)]:List api_Instr)).bind fun l57=>
 kZj r38.2 l57
def Zj (kZl:binary_reader→(List api_Instr)→Int→Option (Option (api_Code×binary_reader))) (vB9:Int) (vC2:binary_reader) (vC3:(List api_Instr)):Option (Option (api_Code×binary_reader)):=
 kZl vC2 vC3 (IntKind.i64.wrap (vB9+1))
def Zl (N:Nat) (kZi:binary_reader→(List api_Instr)→Option (Option (api_Code×binary_reader))) (r11:(Int×binary_reader)):Nat→binary_reader→(List api_Instr)→Int→Option (Option (api_Code×binary_reader))
 | 0,_,_,_=>none
 | n+1,vB2,vB3,vB9=>
  if vB9 < r11.1 then
   (Zn N vB2).bindP fun r18=>
   (Zn N r18.2).bindP fun r21=>
   (Zn N r21.2).bindP fun r24=>
   (Zn N r24.2).bindP fun r27=>
   (Zk N (Zj (Zl N kZi r11 n) vB9) vB3) r27.2 r18.1 r21.1 r24.1 r27.1
  else
   kZi vB2 vB3
def Zi (rz5:(Int×binary_reader)) (rz8:(Int×binary_reader)) (vA2:binary_reader) (vA3:(List api_Instr)):Option (Option (api_Code×binary_reader)):=
 some (some ((api_Code.mk rz5.1 rz8.1 vA3),vA2))
def Zh (N:Nat) (p1:binary_reader):Option (Option (api_Code×binary_reader)):=
 (Zn N p1).bindP fun rz5=>
 (Zn N rz5.2).bindP fun rz8=>
 (Zm N rz8.2).bindP fun r11=>
 (Zl N (Zi rz5 rz8) r11) N r11.2 [] 0
def Zx (N:Nat) (kZv:binary_reader→(List api_Code)→Option (Option (api_Unit×binary_reader))) (r27:(Int×binary_reader)):Nat→binary_reader→(List api_Code)→Int→Option (Option (api_Unit×binary_reader))
 | 0,_,_,_=>none
 | n+1,vB2,vB3,vB9=>
  if vB9 < r27.1 then
   (Zh N vB2).bindP fun r31=>
   (appG 40 vB3 ([r31.1]:List api_Code)).bind fun l47=>
   (Zx N kZv r27 n) r31.2 l47 (IntKind.i64.wrap (vB9+1))
  else
   kZv vB2 vB3
def Zy (N:Nat) (kZw:binary_reader→(List (List api_Op))→Option (Option (api_Unit×binary_reader))) (r66:(Int×binary_reader)):Nat→binary_reader→(List (List api_Op))→Int→Option (Option (api_Unit×binary_reader))
 | 0,_,_,_=>none
 | n+1,vB11,vB12,vB18=>
  if vB18 < r66.1 then
   (Zr N vB11).bindP fun r70=>
   (appG 24 vB12 ([r70.1]:List (List api_Op))).bind fun l85=>
   (Zy N kZw r66 n) r70.2 l85 (IntKind.i64.wrap (vB18+1))
  else
   kZw vB11 vB12
def Zw (rz5:((List Int)×binary_reader)) (r13:(Int×binary_reader)) (r16:((List Int)×binary_reader)) (r24:(Int×binary_reader)) (vA3:(List api_Code)) (r53:(api_Code×binary_reader)) (vA10:binary_reader) (vA11:(List (List api_Op))):Option (Option (api_Unit×binary_reader)):=
 some (some ((api_Unit.mk rz5.1 r13.1 r16.1 r24.1 vA3 r53.1 vA11),vA10))
def Zv (N:Nat) (rz5:((List Int)×binary_reader)) (r13:(Int×binary_reader)) (r16:((List Int)×binary_reader)) (r24:(Int×binary_reader)) (vA2:binary_reader) (vA3:(List api_Code)):Option (Option (api_Unit×binary_reader)):=
 (Zh N vA2).bindP fun r53=>
 (Zm N r53.2).bindP fun r66=>
 (Zy N (Zw rz5 r13 r16 r24 vA3 r53) r66) N r66.2 [] 0
def Zu (N:Nat) (p1:binary_reader):Option (Option (api_Unit×binary_reader)):=
 (Zo N p1).bindP fun rz5=>
 (Zn N rz5.2).bindP fun r13=>
 (Zo N r13.2).bindP fun r16=>
 (Zn N r16.2).bindP fun r24=>
 (Zm N r24.2).bindP fun r27=>
 (Zx N (Zv N rz5 r13 r16 r24) r27) N r27.2 [] 0
def Z0 (N:Nat) (p1:Str):Option (api_Unit×Int):=
 (Zu N (binary_reader.mk p1 0)).bindQ Z1 fun rz5=>
 (Z2 N rz5.1).bind fun r59=>
 if ((decide (r59.2≠0)) || (decide (r59.1≠p1)))=true then
  Z1
 else
  some (rz5.1,0)
def Z1p (N:Nat) (kZ1o:Option Bool) (p1:(List Int)) (p6:(List Int)):Nat→Int→Option Bool
 | 0,_=>none
 | n+1,vB1=>
  if vB1 < (p1.length:Int) then
   (getI p1 vB1).bind fun x13=>
   (getI p6 vB1).bind fun x18=>
   if x13≠x18 then
    some false
   else
    (Z1p N kZ1o p1 p6 n) (IntKind.i64.wrap (vB1+1))
  else
   kZ1o
def Z1o  : Option Bool:=
 some true
def Z1n (N:Nat) (p1:(List Int)) (p6:(List Int)):Option Bool:=
 if (p1.length:Int)≠(p6.length:Int) then
  some false
 else
  (Z1p N Z1o p1 p6) N 0
def Z1v (N:Nat) (kZ1u:Option Bool) (p1:(List api_Op)) (p6:(List api_Op)):Nat→Int→Option Bool
 | 0,_=>none
 | n+1,vB1=>
  if vB1 < (p1.length:Int) then
   (getI p1 vB1).bind fun x13=>
   (getI p6 vB1).bind fun x18=>
   if x13≠x18 then
    some false
   else
    (Z1v N kZ1u p1 p6 n) (IntKind.i64.wrap (vB1+1))
  else
   kZ1u
def Z1u  : Option Bool:=
 some true
def Z1t (N:Nat) (p1:(List api_Op)) (p6:(List api_Op)):Option Bool:=
 if (p1.length:Int)≠(p6.length:Int) then
  some false
 else
  (Z1v N Z1u p1 p6) N 0
def Z33 (kZ34:Int→Option Bool) (vB1:Int) (vC31:Bool):Option Bool:=
 if vC31=true then
  some false
 else
  kZ34 (IntKind.i64.wrap (vB1+1))
def Z32 (N:Nat) (kZ34:Int→Option Bool) (vB1:Int) (vC2:Int) (vC3:Int) (vC4:Int) (vC5:(List api_Op)) (vC10:(List api_Op)) (vC15:Int) (vC17:Int) (vC18:Int) (vC19:Int) (vC20:(List api_Op)) (vC25:(List api_Op)) (vC30:Int):Option Bool:=
 if ((((decide (vC2≠vC17)) || (decide (vC3≠vC18))) || (decide (vC4≠vC19))) || (decide (vC15≠vC30)))=true then
  (Z33 kZ34 vB1) true
 else
  (Z1t N vC5 vC20).bind fun r48=>
  if r48=true then
   (Z1t N vC10 vC25).bind fun r51=>
   (Z33 kZ34 vB1) (!r51)
  else
   (Z33 kZ34 vB1) true
def Z34 (N:Nat) (kZ31:Option Bool) (p1:api_Code) (p4:api_Code):Nat→Int→Option Bool
 | 0,_=>none
 | n+1,vB1=>
  if vB1 < (p1.L.length:Int) then
   (getI p1.L vB1).bind fun x19=>
   (getI p4.L vB1).bind fun x32=>
   (Z32 N (Z34 N kZ31 p1 p4 n) vB1) x19.Kind x19.A x19.B x19.E x19.F x19.To x32.Kind x32.A x32.B x32.E x32.F x32.To
  else
   kZ31
def Z31  : Option Bool:=
 some true
def Z30 (N:Nat) (p1:api_Code) (p4:api_Code):Option Bool:=
 if (((decide (p1.Regs≠p4.Regs)) || (decide (p1.Counts≠p4.Counts))) || (decide ((p1.L.length:Int)≠(p4.L.length:Int))))=true then
  some false
 else
  (Z34 N Z31 p1 p4) N 0
def Z2o (N:Nat) (kZ2m:Option Bool) (p1:api_Unit) (p4:api_Unit):Nat→Int→Option Bool
 | 0,_=>none
 | n+1,vB1=>
  if vB1 < (p1.Threads.length:Int) then
   (getI p1.Threads vB1).bind fun x106=>
   (getI p4.Threads vB1).bind fun x115=>
   (Z30 N x106 x115).bind fun r124=>
   if r124=true then
    (Z2o N kZ2m p1 p4 n) (IntKind.i64.wrap (vB1+1))
   else
    some false
  else
   kZ2m
def Z2p (N:Nat) (kZ2n:Option Bool) (p1:api_Unit) (p4:api_Unit):Nat→Int→Option Bool
 | 0,_=>none
 | n+1,vB2=>
  if vB2 < (p1.Claims.length:Int) then
   (getI p1.Claims vB2).bind fun x128=>
   (getI p4.Claims vB2).bind fun x137=>
   (Z1t N x128 x137).bind fun r146=>
   if r146=true then
    (Z2p N kZ2n p1 p4 n) (IntKind.i64.wrap (vB2+1))
   else
    some false
  else
   kZ2n
def Z2n (N:Nat) (p1:api_Unit) (p4:api_Unit):Option Bool:=
 (Z30 N p1.Recover p4.Recover).bind fun r149=>
 some r149
def Z2m (N:Nat) (p1:api_Unit) (p4:api_Unit):Option Bool:=
 (Z2p N (Z2n N p1 p4) p1 p4) N 0
def Z2l (N:Nat) (p1:api_Unit) (p4:api_Unit) (vA1:Bool):Option Bool:=
 if vA1=true then
  some false
 else
  (Z2o N (Z2m N p1 p4) p1 p4) N 0
def Z2k (N:Nat) (p1:api_Unit) (p4:api_Unit):Option Bool:=
 (Z1n N p1.Lines p4.Lines).bind fun r99=>
 if ((!r99) || (decide (p1.Stays≠p4.Stays)))=true then
  (Z2l N p1 p4) true
 else
  (Z1n N p1.Firsts p4.Firsts).bind fun r102=>
  (Z2l N p1 p4) ((((!r102) || (decide (p1.Locks≠p4.Locks))) || (decide ((p1.Threads.length:Int)≠(p4.Threads.length:Int)))) || (decide ((p1.Claims.length:Int)≠(p4.Claims.length:Int))))
def Zg (N:Nat) (p1:Int):Option Str:=
 if ((decide (p1 < 1)) || (decide (16≤p1)))=true then
  some []
 else
  (Z1g [115,101,116,32,108,111,97,100,32,115,116,111,114,101,32,99,97,115,32,102,108,117,115,104,32,111,112,116,32,115,102,101,110,99,101,32,109,102,101,110,99,101,32,116,97,107,101,32,103,105,118,101,32,106,117,109,112,32,101,108,115,101,32,99,111,117,110,116,32,97,103,97,105,110,32,99,104,101,99,107]).bind fun rz3=>
  (getI rz3 (IntKind.i64.wrap (p1 - 1))).bind fun x10=>
  some x10
def Z5c (N:Nat) (p1:Int):Option Str:=
 (itoaM p1).bind fun rz2=>
 some rz2
def Z11 (kZ12:(List Str)→Int→Option Str) (vB7:Int) (vC1:(List Str)):Option Str:=
 kZ12 vC1 (IntKind.i64.wrap (vB7+1))
def Z12 (N:Nat) (kZ10:(List Str)→Option Str) (p1:(List api_Op)):Nat→(List Str)→Int→Option Str
 | 0,_,_=>none
 | n+1,vB1,vB7=>
  if vB7 < (p1.length:Int) then
   (getI p1 vB7).bind fun xz8=>
   if xz8.Kind=1 then
    (Z5c N xz8.N).bind fun r15=>
    (catG [35] r15).bind fun s17=>
    (appG 16 vB1 ([s17]:List Str)).bind fun l22=>
    (Z11 (Z12 N kZ10 p1 n) vB7) l22
   else
    if xz8.Kind=2 then
     (Z5c N xz8.N).bind fun r29=>
     (catG [114] r29).bind fun s31=>
     (appG 16 vB1 ([s31]:List Str)).bind fun l36=>
     (Z11 (Z12 N kZ10 p1 n) vB7) l36
    else
     (Z5c N xz8.Kind).bind fun r42=>
     (catG [58] r42).bind fun s44=>
     (appG 16 vB1 ([s44]:List Str)).bind fun l49=>
     (Z11 (Z12 N kZ10 p1 n) vB7) l49
  else
   kZ10 vB1
def Z10 (vA1:(List Str)):Option Str:=
 (joinM vA1 [32]).bind fun r55=>
 (catG [32,91] r55).bind fun s57=>
 (catG s57 [93]).bind fun s59=>
 some s59
def Zz (N:Nat) (p1:(List api_Op)):Option Str:=
 if (p1.length:Int)=0 then
  some []
 else
  (Z12 N Z10 p1) N [] 0
def Zf (N:Nat) (kZe:Str→Option Str) (p1:api_Code):Nat→Str→Int→Option Str
 | 0,_,_=>none
 | n+1,vB1,vB6=>
  if vB6 < (p1.L.length:Int) then
   (getI p1.L vB6).bind fun x11=>
   (Z5c N vB6).bind fun r25=>
   (catG r25 [32]).bind fun s27=>
   (Zg N x11.Kind).bind fun r29=>
   (catG s27 r29).bind fun s31=>
   (catG s31 [32]).bind fun s33=>
   (Z5c N x11.A).bind fun r35=>
   (catG s33 r35).bind fun s37=>
   (catG s37 [32]).bind fun s39=>
   (Z5c N x11.B).bind fun r41=>
   (catG s39 r41).bind fun s43=>
   (catG s43 [32]).bind fun s45=>
   (Z5c N x11.To).bind fun r47=>
   (catG s45 r47).bind fun s49=>
   (Zz N x11.E).bind fun r51=>
   (catG s49 r51).bind fun s53=>
   (Zz N x11.F).bind fun r55=>
   (catG s53 r55).bind fun s57=>
   (catG s57 [10]).bind fun s59=>
   (catB vB1 s59).bind fun s61=>
   (Zf N kZe p1 n) s61 (IntKind.i64.wrap (vB6+1))
  else
   kZe vB1
def Ze (vA1:Str):Option Str:=
 some vA1
def Zd (N:Nat) (p1:api_Code):Option Str:=
 (Zf N Ze p1) N [] 0
def Z1l (N:Nat)  : Option Bool:=
 (Z2 N (api_Unit.mk [] 0 [] 0 ([(api_Code.mk 1 0 ([(api_Instr.mk 1 0 0 ([(api_Op.mk 1 1),(api_Op.mk 1 2),(api_Op.mk 5 0)]:List api_Op) [] 0)]:List api_Instr))]:List api_Code) (api_Code.mk 0 0 []) [])).bind fun r23=>
 (Z0 N r23.1).bind fun r25=>
 (catG r23.1 [120]).bind fun s79=>
 (Z0 N s79).bind fun r81=>
 (Z2 N (api_Unit.mk [] 0 [] 0 [] (api_Code.mk 0 0 []) [])).bind fun r135=>
 (Z7 N [172,2] 0).bind fun r137=>
 (Z7 N [128,0] 0).bind fun r139=>
 (Z7 N [128] 0).bind fun r141=>
 (Z7 N [] 1).bind fun r143=>
 (Z7 N [128,128,128,128,128,128,1] 0).bind fun r145=>
 (Z39 N (api_Unit.mk [] 0 [] 0 ([(api_Code.mk 1 0 ([(api_Instr.mk 1 0 0 ([(api_Op.mk 1 1),(api_Op.mk 1 2),(api_Op.mk 5 0)]:List api_Op) [] 0)]:List api_Instr))]:List api_Code) (api_Code.mk 0 0 []) [])).bind fun r147=>
 (sure ((((decide (r23.2=0)) && (decide (r23.1=r147.1))) && (decide (r147.2=0))) && (decide (r25.2=0)))).bind fun _=>
 (Z2k N (api_Unit.mk [] 0 [] 0 ([(api_Code.mk 1 0 ([(api_Instr.mk 1 0 0 ([(api_Op.mk 1 1),(api_Op.mk 1 2),(api_Op.mk 5 0)]:List api_Op) [] 0)]:List api_Instr))]:List api_Code) (api_Code.mk 0 0 []) []) r25.1).bind fun r150=>
 (sure (((((((((r150 && (decide (r81.2=8))) && (decide (r135.2=8))) && (decide (r137.1=300))) && (decide (r137.2.1=2))) && (decide (r137.2.2=0))) && (decide (r139.2.2=8))) && (decide (r141.2.2=6))) && (decide (r143.2.2=1))) && (decide (r145.2.2=2)))).bind fun _=>
 (Za N 300).bind fun r153=>
 (sure (decide (r153=[172,2]))).bind fun _=>
 (Za N (-1)).bind fun r156=>
 (sure (decide (r156=[]))).bind fun _=>
 (Zg N 15).bind fun r159=>
 (sure (decide (r159=[99,104,101,99,107]))).bind fun _=>
 (getI ([(api_Code.mk 1 0 ([(api_Instr.mk 1 0 0 ([(api_Op.mk 1 1),(api_Op.mk 1 2),(api_Op.mk 5 0)]:List api_Op) [] 0)]:List api_Instr))]:List api_Code) 0).bind fun x162=>
 (Zd N x162).bind fun r171=>
 some (decide (r171=[48,32,115,101,116,32,48,32,48,32,48,32,91,35,49,32,35,50,32,58,53,93,10]))
def Z1m:Nat→Int→Option Str
 | 0,_=>none
 | N+1,p1=>
  if ((decide (0≤p1)) && (decide (p1 < 10)))=true then
   some (bytesStr ([(IntK.mk (IntKind.u8.wrap (IntKind.i64.wrap (48+p1))))]:List (IntK .u8)))
  else
   if 0 < p1 then
    ((Z1m N) (IntKind.i64.wrap (p1.tdiv 10))).bind fun rz7=>
    ((Z1m N) (p1.tmod 10)).bind fun rz9=>
    (catG rz7 rz9).bind fun s11=>
    some s11
   else
    if (IntKind.i64.wrap (p1.tdiv 10))=0 then
     ((Z1m N) (IntKind.i64.wrap (0 - (p1.tmod 10)))).bind fun r14=>
     (catG [45] r14).bind fun s16=>
     some s16
    else
     ((Z1m N) (IntKind.i64.wrap (p1.tdiv 10))).bind fun r18=>
     ((Z1m N) (IntKind.i64.wrap (0 - (p1.tmod 10)))).bind fun r20=>
     (catG r18 r20).bind fun s22=>
     some s22
def Z3i (N:Nat) (p1:Int):Option Str:=
 if ((decide (p1 < 1)) || (decide (15 < p1)))=true then
  some []
 else
  (getI ([[115,101,116],[108,111,97,100],[115,116,111,114,101],[99,97,115],[102,108,117,115,104],[111,112,116],[115,102,101,110,99,101],[109,102,101,110,99,101],[116,97,107,101],[103,105,118,101],[106,117,109,112],[101,108,115,101],[99,111,117,110,116],[97,103,97,105,110],[99,104,101,99,107]]:List Str) (IntKind.i64.wrap (p1 - 1))).bind fun xz6=>
  some xz6
def Z3s (N:Nat) (kZ3r:Str→Option Str) (p1:(List api_Op)) (vB2:Int) (vD1:Str):Option Str:=
 (getI p1 vB2).bind fun x10=>
 if x10.Kind=1 then
  (Z1m N x10.N).bind fun r16=>
  (catG [35] r16).bind fun s18=>
  (catG vD1 s18).bind fun s20=>
  kZ3r s20
 else
  if x10.Kind=2 then
   (Z1m N x10.N).bind fun r23=>
   (catG [114] r23).bind fun s25=>
   (catG vD1 s25).bind fun s27=>
   kZ3r s27
  else
   (Z1m N x10.Kind).bind fun r29=>
   (catG [58] r29).bind fun s31=>
   (catG vD1 s31).bind fun s33=>
   kZ3r s33
def Z3r (kZ3t:Str→Int→Option Str) (vB2:Int) (vC1:Str):Option Str:=
 kZ3t vC1 (IntKind.i64.wrap (vB2+1))
def Z3t (N:Nat) (kZ3q:Str→Option Str) (p1:(List api_Op)):Nat→Str→Int→Option Str
 | 0,_,_=>none
 | n+1,vB1,vB2=>
  if vB2 < (p1.length:Int) then
   if 0 < vB2 then
    (catG vB1 [32]).bind fun s8=>
    (Z3s N (Z3r (Z3t N kZ3q p1 n) vB2) p1 vB2) s8
   else
    (Z3s N (Z3r (Z3t N kZ3q p1 n) vB2) p1 vB2) vB1
  else
   kZ3q vB1
def Z3q (vA1:Str):Option Str:=
 if vA1=[] then
  some []
 else
  (catG [32,91] vA1).bind fun s36=>
  (catG s36 [93]).bind fun s38=>
  some s38
def Z3p (N:Nat) (p1:(List api_Op)):Option Str:=
 (Z3t N Z3q p1) N [] 0
def Z3h (N:Nat) (kZ3g:Str→Option Str) (p1:api_Code):Nat→Str→Int→Option Str
 | 0,_,_=>none
 | n+1,vB1,vB2=>
  if vB2 < (p1.L.length:Int) then
   (getI p1.L vB2).bind fun x10=>
   (Z1m N vB2).bind fun r24=>
   (catG r24 [32]).bind fun s26=>
   (Z3i N x10.Kind).bind fun r28=>
   (catG s26 r28).bind fun s30=>
   (catG s30 [32]).bind fun s32=>
   (Z1m N x10.A).bind fun r34=>
   (catG s32 r34).bind fun s36=>
   (catG s36 [32]).bind fun s38=>
   (Z1m N x10.B).bind fun r40=>
   (catG s38 r40).bind fun s42=>
   (catG s42 [32]).bind fun s44=>
   (Z1m N x10.To).bind fun r46=>
   (catG s44 r46).bind fun s48=>
   (Z3p N x10.E).bind fun r50=>
   (catG s48 r50).bind fun s52=>
   (Z3p N x10.F).bind fun r54=>
   (catG s52 r54).bind fun s56=>
   (catG s56 [10]).bind fun s58=>
   (catG vB1 s58).bind fun s60=>
   (Z3h N kZ3g p1 n) s60 (IntKind.i64.wrap (vB2+1))
  else
   kZ3g vB1
def Z3g (vA1:Str):Option Str:=
 some vA1
def Z3f (N:Nat) (p1:api_Code):Option Str:=
 (Z3h N Z3g p1) N [] 0
def Z1k (N:Nat) (p1:api_Code) (p4:Int):Option Bool:=
 (Z1h N p1).bind fun r10=>
 (Zd N r10).bind fun r22=>
 (Z3f N r10).bind fun r24=>
 if r22=r24 then
  (Zg N p4).bind fun r27=>
  (Z3i N p4).bind fun r29=>
  if r27=r29 then
   (Z1l N).bind fun r32=>
   some r32
  else
   some false
 else
  some false
end Go.MD.BINZ
