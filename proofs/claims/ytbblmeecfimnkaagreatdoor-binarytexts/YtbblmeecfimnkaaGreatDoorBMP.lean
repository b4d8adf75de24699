/- Plain functions, lifted by program from the seat binz. No condition: definitions. -/
import Derived.Test.YtbblmeecfimnkaaGreatDoorMD
import Derived.Lib.IndexMore
import Derived.Test.YtbblmeecfimnkaaGreatDoorMDp
namespace Go.MD.BINZ
open Go Go.MD
def Z1g (s:Str):Option (List Str):=
 if s=[115,101,116,32,108,111,97,100,32,115,116,111,114,101,32,99,97,115,32,102,108,117,115,104,32,111,112,116,32,115,102,101,110,99,101,32,109,102,101,110,99,101,32,116,97,107,101,32,103,105,118,101,32,106,117,109,112,32,101,108,115,101,32,99,111,117,110,116,32,97,103,97,105,110,32,99,104,101,99,107] then some [[115,101,116],[108,111,97,100],[115,116,111,114,101],[99,97,115],[102,108,117,115,104],[111,112,116],[115,102,101,110,99,101],[109,102,101,110,99,101],[116,97,107,101],[103,105,118,101],[106,117,109,112],[101,108,115,101],[99,111,117,110,116],[97,103,97,105,110],[99,104,101,99,107]] else
 none
structure api_Op where
 Kind:Int
 N:Int
 deriving DecidableEq
structure api_Instr where
 Kind:Int
 A:Int
 B:Int
 E:(List api_Op)
 F:(List api_Op)
 To:Int
 deriving DecidableEq
structure api_Code where
 Regs:Int
 Counts:Int
 L:(List api_Instr)
 deriving DecidableEq
structure api_Unit where
 Lines:(List Int)
 Stays:Int
 Firsts:(List Int)
 Locks:Int
 Threads:(List api_Code)
 Recover:api_Code
 Claims:(List (List api_Op))
 deriving DecidableEq
def Z1:Option (api_Unit×Int):=some ((api_Unit.mk [] 0 [] 0 [] (api_Code.mk 0 0 []) []),8)
structure binary_reader where
 s:Str
 at':Int
 deriving DecidableEq
structure leadlineref10_In where
 S:Str
 At:Int
 Bad:Bool
 deriving DecidableEq
structure api_Cell where
 Name:Str
 N:Int
 At:Int
 deriving DecidableEq
structure api_Node where
 Op:Int
 N:Int
 Name:Str
 At:Int
 deriving DecidableEq
structure api_Stmt where
 Kind:Int
 Reg:Str
 Name:Str
 E:(List api_Node)
 F:(List api_Node)
 N:Int
 Body:Int
 Else:Int
 At:Int
 deriving DecidableEq
structure api_Thread where
 Name:Str
 Regs:(List Str)
 Body:(List api_Stmt)
 At:Int
 deriving DecidableEq
structure api_Claim where
 E:(List api_Node)
 At:Int
 deriving DecidableEq
structure api_Prog where
 Lines:(List (List api_Cell))
 Vols:(List api_Cell)
 Locks:(List api_Cell)
 Threads:(List api_Thread)
 Recover:(List api_Thread)
 Claims:(List api_Claim)
 deriving DecidableEq
structure leadlineref09_Env where
 P:api_Prog
 Regs:(List Str)
 deriving DecidableEq
def Z1k (N:Nat) (kZ1j:(List api_Instr)→Option api_Code) (p1:api_Code):Nat→(List api_Instr)→Int→Option api_Code
 | 0,_,_=>none
 | n+1,vB2,vB8=>
  if ((decide (vB8 < (p1.L.length:Int))) && (decide (vB8 < 60)))=true then
   (getI p1.L vB8).bind fun x12=>
   (subI x12.E 0 (min (x12.E.length:Int) 50)).bind fun l29=>
   (appG 16 ([]:List api_Op) l29).bind fun l37=>
   (subI x12.F 0 (min (x12.F.length:Int) 50)).bind fun l49=>
   (appG 16 ([]:List api_Op) l49).bind fun l57=>
   (appG 80 vB2 ([(api_Instr.mk x12.Kind x12.A x12.B l37 l57 x12.To)]:List api_Instr)).bind fun l77=>
   (Z1k N kZ1j p1 n) l77 (IntKind.i64.wrap (vB8+1))
  else
   kZ1j vB2
def Z1j (p1:api_Code) (vA2:(List api_Instr)):Option api_Code:=
 some (api_Code.mk p1.Regs p1.Counts vA2)
def Z1i (N:Nat) (p1:api_Code):Option api_Code:=
 (Z1k N (Z1j p1) p1) N [] 0
def Z1o (N:Nat) (kZ1m:(List api_Code)→Option api_Unit) (p1:api_Unit):Nat→(List api_Code)→Int→Option api_Unit
 | 0,_,_=>none
 | n+1,vB2,vB8=>
  if ((decide (vB8 < (p1.Threads.length:Int))) && (decide (vB8 < 4)))=true then
   (getI p1.Threads vB8).bind fun x81=>
   (Z1i N x81).bind fun r90=>
   (appG 40 vB2 ([r90]:List api_Code)).bind fun l105=>
   (Z1o N kZ1m p1 n) l105 (IntKind.i64.wrap (vB8+1))
  else
   kZ1m vB2
def Z1p (N:Nat) (kZ1n:(List (List api_Op))→Option api_Unit) (p1:api_Unit):Nat→(List (List api_Op))→Int→Option api_Unit
 | 0,_,_=>none
 | n+1,vB9,vB15=>
  if ((decide (vB15 < (p1.Claims.length:Int))) && (decide (vB15 < 5)))=true then
   (getI p1.Claims vB15).bind fun x112=>
   (subI x112 0 (min (x112.length:Int) 50)).bind fun l121=>
   (appG 24 vB9 ([l121]:List (List api_Op))).bind fun l132=>
   (Z1p N kZ1n p1 n) l132 (IntKind.i64.wrap (vB15+1))
  else
   kZ1n vB9
def Z1n (p1:api_Unit) (vA3:(List Int)) (vA8:(List Int)) (vA13:Int) (vA14:Int) (vA15:(List api_Instr)) (vA21:(List api_Code)) (vA27:(List (List api_Op))):Option api_Unit:=
 some (api_Unit.mk vA3 p1.Stays vA8 p1.Locks vA21 (api_Code.mk vA13 vA14 vA15) vA27)
def Z1m (N:Nat) (p1:api_Unit) (vA3:(List Int)) (vA8:(List Int)) (vA13:Int) (vA14:Int) (vA15:(List api_Instr)) (vA21:(List api_Code)):Option api_Unit:=
 (Z1p N (Z1n p1 vA3 vA8 vA13 vA14 vA15 vA21) p1) N [] 0
def Z1l (N:Nat) (p1:api_Unit) (vA3:(List Int)) (vA8:(List Int)) (vA13:Int) (vA14:Int) (vA15:(List api_Instr)):Option api_Unit:=
 (Z1o N (Z1m N p1 vA3 vA8 vA13 vA14 vA15) p1) N [] 0
def Z1h (N:Nat) (p1:api_Unit):Option api_Unit:=
 (subI p1.Lines 0 (min (p1.Lines.length:Int) 10)).bind fun l51=>
 (subI p1.Firsts 0 (min (p1.Firsts.length:Int) 10)).bind fun l59=>
 (Z1i N p1.Recover).bind fun r67=>
 (Z1l N p1) l51 l59 r67.Regs r67.Counts r67.L
def Z4n (N:Nat) (p1:Int):Option Bool:=
 some ((decide (p1 < 0)) || (decide (4294967296 < p1)))
def Z5n (N:Nat) (kZ5m:Option Int) (p1:(List Int)):Nat→Int→Option Int
 | 0,_=>none
 | n+1,vB1=>
  if vB1 < (p1.length:Int) then
   (getI p1 vB1).bind fun xz7=>
   (Z4n N xz7).bind fun r12=>
   if r12=true then
    some vB1
   else
    (Z5n N kZ5m p1 n) (IntKind.i64.wrap (vB1+1))
  else
   kZ5m
def Z5m  : Option Int:=
 some (-1)
def Z5l (N:Nat) (p1:(List Int)):Option Int:=
 (Z5n N Z5m p1) N 0
def Z57 (N:Nat) (p1:(List Int)):Option Bool:=
 (Z5l N p1).bind fun rz6=>
 some (decide (0≤rz6))
def Z4l (N:Nat) (p1:api_Unit):Option Int:=
 if ((decide (p1.Stays < 1)) || (decide ((p1.Lines.length:Int) < p1.Stays)))=true then
  some 0
 else
  (getI p1.Lines (IntKind.i64.wrap (p1.Stays - 1))).bind fun x51=>
  some (IntKind.i64.wrap (x51+1))
def Z4v (N:Nat)  : Option (Arr 16 Str):=
 some (⟨[[],[114,101],[114,99],[99,101],[114,99,101,102],[108],[108],[],[],[109],[109],[116],[101,116],[107,110],[107,116],[101]],rfl⟩:(Arr 16 Str))
def Z5q (N:Nat) (kZ5p:Option Int) (p1:(List (IntK .u8))) (p6:Int):Nat→Int→Option Int
 | 0,_=>none
 | n+1,vB1=>
  if vB1 < (p1.length:Int) then
   (getI p1 vB1).bind fun xz8=>
   if p6=xz8.v then
    some vB1
   else
    (Z5q N kZ5p p1 p6 n) (IntKind.i64.wrap (vB1+1))
  else
   kZ5p
def Z5p  : Option Int:=
 some (-1)
def Z5o (N:Nat) (p1:(List (IntK .u8))) (p6:Int):Option Int:=
 (Z5q N Z5p p1 p6) N 0
def Z58 (N:Nat) (p1:(List (IntK .u8))) (p6:Int):Option Bool:=
 (Z5o N p1 p6).bind fun rz7=>
 some (decide (0≤rz7))
def Z4d (N:Nat) (p1:Int) (y3:api_Instr):Option Bool:=
 (Z4v N).bind fun r15=>
 (getI r15.l y3.Kind).bind fun x24=>
 (Z58 N (bytesK x24) p1).bind fun r36=>
 some r36
def Z52 (N:Nat) (p1:Bool) (p2:Int) (p3:Int):Option Bool:=
 if p1=true then
  some ((decide (0≤p2)) && (decide (p2 < p3)))
 else
  some (decide (p2=0))
def Z1f (N:Nat) (p1:Int):Option Int:=
 if ((decide (p1=3)) || (decide (p1=4)))=true then
  some 1
 else
  if ((decide (5≤p1)) && (decide (p1≤15)))=true then
   some 2
  else
   some 0
def Z1e (N:Nat) (kZ1d:Int→Int→Option (Int×Int×Bool)) (p1:(List api_Op)):Nat→Int→Int→Int→Option (Int×Int×Bool)
 | 0,_,_,_=>none
 | n+1,vB1,vB2,vB3=>
  if vB3 < (p1.length:Int) then
   (getI p1 vB3).bind fun xz7=>
   (Z1f N xz7.Kind).bind fun r13=>
   if (IntKind.i64.wrap (vB1 - r13)) < 0 then
    some (0,0,false)
   else
    (Z1e N kZ1d p1 n) (IntKind.i64.wrap ((IntKind.i64.wrap (vB1 - r13))+1)) (max vB2 (IntKind.i64.wrap ((IntKind.i64.wrap (vB1 - r13))+1))) (IntKind.i64.wrap (vB3+1))
  else
   kZ1d vB1 vB2
def Z1d (vA1:Int) (vA2:Int):Option (Int×Int×Bool):=
 some (vA1,vA2,true)
def Z1c (N:Nat) (p1:(List api_Op)):Option (Int×Int×Bool):=
 (Z1e N Z1d p1) N 0 0 0
def Z1b (N:Nat) (p1:api_Op) (y3:Int):Option Bool:=
 if p1.Kind=1 then
  some ((decide (p1.N < 0)) || (decide (4294967296 < p1.N)))
 else
  if p1.Kind=2 then
   some ((decide (p1.N < 0)) || (decide (y3≤p1.N)))
  else
   some (((decide (p1.N≠0)) || (decide (p1.Kind < 1))) || (decide (16≤p1.Kind)))
def Z5k (N:Nat) (kZ5j:Option Int) (p1:(List api_Op)) (y7:Int):Nat→Int→Option Int
 | 0,_=>none
 | n+1,vB1=>
  if vB1 < (p1.length:Int) then
   (getI p1 vB1).bind fun x10=>
   (Z1b N x10 y7).bind fun r15=>
   if r15=true then
    some vB1
   else
    (Z5k N kZ5j p1 y7 n) (IntKind.i64.wrap (vB1+1))
  else
   kZ5j
def Z5j  : Option Int:=
 some (-1)
def Z5i (N:Nat) (p1:(List api_Op)) (y7:Int):Option Int:=
 (Z5k N Z5j p1 y7) N 0
def Z56 (N:Nat) (p1:(List api_Op)) (y7:Int):Option Bool:=
 (Z5i N p1 y7).bind fun rz9=>
 some (decide (0≤rz9))
def Z1a (N:Nat) (p1:(List api_Op)) (p6:Int):Option Bool:=
 (Z1c N p1).bind fun rz8=>
 if (((decide ((p1.length:Int)≤40)) && rz8.2.2) && (decide (rz8.1=1)))=true then
  (Z56 N p1 p6).bind fun r11=>
  some (!r11)
 else
  some false
def Z4t (N:Nat) (p1:api_Instr) (y5:api_Instr):Option Bool:=
 some ((decide (p1.Kind=13)) && (decide (p1.A=y5.A)))
def Z5h (N:Nat) (kZ5g:Option Int) (p1:(List api_Instr)) (y7:api_Instr):Nat→Int→Option Int
 | 0,_=>none
 | n+1,vB1=>
  if vB1 < (p1.length:Int) then
   (getI p1 vB1).bind fun x20=>
   (Z4t N x20 y7).bind fun r33=>
   if r33=true then
    some vB1
   else
    (Z5h N kZ5g p1 y7 n) (IntKind.i64.wrap (vB1+1))
  else
   kZ5g
def Z5g  : Option Int:=
 some (-1)
def Z5f (N:Nat) (p1:(List api_Instr)) (y7:api_Instr):Option Int:=
 (Z5h N Z5g p1 y7) N 0
def Z55 (N:Nat) (p1:(List api_Instr)) (y7:api_Instr):Option Bool:=
 (Z5f N p1 y7).bind fun r19=>
 some (decide (0≤r19))
def Z4u (N:Nat) (p1:(List api_Instr)) (p6:Int) (xz7:api_Instr) (vA1:Bool):Option Bool:=
 if vA1=true then
  some false
 else
  (subI p1 xz7.To p6).bind fun l36=>
  (Z55 N l36 xz7).bind fun r44=>
  some (!r44)
def Z4s (N:Nat) (p1:(List api_Instr)) (p6:Int):Option Bool:=
 (getI p1 p6).bind fun xz7=>
 if ((decide (xz7.To < 1)) || (decide (p6 < xz7.To)))=true then
  (Z4u N p1 p6 xz7) true
 else
  (getI p1 (IntKind.i64.wrap (xz7.To - 1))).bind fun x22=>
  (Z4u N p1 p6 xz7) ((decide (x22.Kind≠13)) || (decide (x22.A≠xz7.A)))
def Z51 (N:Nat) (kZ4z:Option Bool) (p1:(List api_Instr)) (xz7:api_Instr) (vB1:(List Int)):Nat→Int→Option Bool
 | 0,_=>none
 | n+1,vE1=>
  if vE1 < (vB1.length:Int) then
   (getI vB1 vE1).bind fun x23=>
   (getI p1 x23).bind fun x29=>
   if ((decide ((IntKind.i64.wrap (x29.To - 1)) < (IntKind.i64.wrap (xz7.To - 1)))) && (decide ((IntKind.i64.wrap (xz7.To - 1))≤x23)))=true then
    some false
   else
    (Z51 N kZ4z p1 xz7 vB1 n) (IntKind.i64.wrap (vE1+1))
  else
   kZ4z
def Z4z (kZ4y:(List Int)→Option Bool) (vB1:(List Int)) (vB7:Int):Option Bool:=
 (appG 8 vB1 ([vB7]:List Int)).bind fun l46=>
 kZ4y l46
def Z4y (kZ50:(List Int)→Int→Option Bool) (vB7:Int) (vC1:(List Int)):Option Bool:=
 kZ50 vC1 (IntKind.i64.wrap (vB7+1))
def Z50 (N:Nat) (kZ4x:Option Bool) (p1:(List api_Instr)):Nat→(List Int)→Int→Option Bool
 | 0,_,_=>none
 | n+1,vB1,vB7=>
  if vB7 < (p1.length:Int) then
   (getI p1 vB7).bind fun xz7=>
   if xz7.Kind≠14 then
    (Z4y (Z50 N kZ4x p1 n) vB7) vB1
   else
    (Z51 N (Z4z (Z4y (Z50 N kZ4x p1 n) vB7) vB1 vB7) p1 xz7 vB1) N 0
  else
   kZ4x
def Z4x  : Option Bool:=
 some true
def Z4w (N:Nat) (p1:(List api_Instr)):Option Bool:=
 (Z50 N Z4x p1) N [] 0
def Z4j (kZ4k:Int→Option Bool) (vC1:Bool) (vC2:Bool) (vC3:Bool) (vC4:Bool) (vB1:Int) (vC5:Bool):Option Bool:=
 if (((((!vC1) || (!vC2)) || (!vC3)) || (!vC4)) || (!vC5))=true then
  some false
 else
  kZ4k (IntKind.i64.wrap (vB1+1))
def Z4i (N:Nat) (kZ4k:Int→Option Bool) (p1:api_Code) (x14:api_Instr) (vC1:Bool) (vC2:Bool) (vC3:Bool) (vB1:Int) (vC4:Bool):Option Bool:=
 (Z4d N 116 x14).bind fun r76=>
 if (r76 && (decide (x14.Kind=14)))=true then
  (Z4s N p1.L vB1).bind fun r79=>
  (Z4j kZ4k vC1 vC2 vC3 vC4 vB1) r79
 else
  (Z4d N 116 x14).bind fun r81=>
  if r81=true then
   (Z4j kZ4k vC1 vC2 vC3 vC4 vB1) ((decide (vB1 < x14.To)) && (decide (x14.To≤(p1.L.length:Int))))
  else
   (Z4j kZ4k vC1 vC2 vC3 vC4 vB1) (decide (x14.To=0))
def Z4h (N:Nat) (kZ4k:Int→Option Bool) (p1:api_Code) (x14:api_Instr) (vC1:Bool) (vC2:Bool) (vB1:Int) (vC3:Bool):Option Bool:=
 (Z4d N 102 x14).bind fun r66=>
 if r66=true then
  (Z1a N x14.F p1.Regs).bind fun r69=>
  if r69=true then
   (Z4i N kZ4k p1 x14 vC1 vC2 vC3 vB1) true
  else
   (Z4d N 102 x14).bind fun r72=>
   (Z4i N kZ4k p1 x14 vC1 vC2 vC3 vB1) ((!r72) && (decide ((x14.F.length:Int)=0)))
 else
  (Z4d N 102 x14).bind fun r74=>
  (Z4i N kZ4k p1 x14 vC1 vC2 vC3 vB1) ((!r74) && (decide ((x14.F.length:Int)=0)))
def Z4g (N:Nat) (kZ4k:Int→Option Bool) (p1:api_Code) (x14:api_Instr) (vC1:Bool) (vB1:Int) (vC2:Bool):Option Bool:=
 (Z4d N 101 x14).bind fun r56=>
 if r56=true then
  (Z1a N x14.E p1.Regs).bind fun r59=>
  if r59=true then
   (Z4h N kZ4k p1 x14 vC1 vC2 vB1) true
  else
   (Z4d N 101 x14).bind fun r62=>
   (Z4h N kZ4k p1 x14 vC1 vC2 vB1) ((!r62) && (decide ((x14.E.length:Int)=0)))
 else
  (Z4d N 101 x14).bind fun r64=>
  (Z4h N kZ4k p1 x14 vC1 vC2 vB1) ((!r64) && (decide ((x14.E.length:Int)=0)))
def Z4f (N:Nat) (kZ4k:Int→Option Bool) (p1:api_Code) (p4:Int) (p5:Int) (p6:Int) (x14:api_Instr) (vB1:Int) (vC1:Bool):Option Bool:=
 (Z4d N 99 x14).bind fun r38=>
 if r38=true then
  (Z52 N true x14.B p4).bind fun r41=>
  (Z4g N kZ4k p1 x14 vC1 vB1) r41
 else
  (Z4d N 108 x14).bind fun r43=>
  if r43=true then
   (Z52 N true x14.B p5).bind fun r46=>
   (Z4g N kZ4k p1 x14 vC1 vB1) r46
  else
   (Z4d N 109 x14).bind fun r48=>
   if r48=true then
    (Z52 N true x14.B p6).bind fun r51=>
    (Z4g N kZ4k p1 x14 vC1 vB1) r51
   else
    (Z4d N 110 x14).bind fun r53=>
    if r53=true then
     (Z4g N kZ4k p1 x14 vC1 vB1) ((decide (1≤x14.B)) && (decide (x14.B≤8)))
    else
     (Z4g N kZ4k p1 x14 vC1 vB1) (decide (x14.B=0))
def Z4k (N:Nat) (kZ4e:Option Bool) (p1:api_Code) (p4:Int) (p5:Int) (p6:Int):Nat→Int→Option Bool
 | 0,_=>none
 | n+1,vB1=>
  if vB1 < (p1.L.length:Int) then
   (getI p1.L vB1).bind fun x14=>
   if ((decide (x14.Kind < 1)) || (decide (16≤x14.Kind)))=true then
    some false
   else
    (Z4d N 114 x14).bind fun r29=>
    (Z52 N r29 x14.A p1.Regs).bind fun r31=>
    (Z4d N 107 x14).bind fun r33=>
    if r33=true then
     (Z52 N true x14.A p1.Counts).bind fun r36=>
     (Z4f N (Z4k N kZ4e p1 p4 p5 p6 n) p1 p4 p5 p6 x14 vB1) r36
    else
     (Z4f N (Z4k N kZ4e p1 p4 p5 p6 n) p1 p4 p5 p6 x14 vB1) r31
  else
   kZ4e
def Z4e (N:Nat) (p1:api_Code):Option Bool:=
 (Z4w N p1.L).bind fun r85=>
 some r85
def Z4c (N:Nat) (p1:api_Code) (p4:Int) (p5:Int) (p6:Int):Option Bool:=
 if ((((decide (p1.Regs < 0)) || (decide (4 < p1.Regs))) || (decide (p1.Counts < 0))) || (decide (12 < p1.Counts)))=true then
  some false
 else
  (Z4k N (Z4e N p1) p1 p4 p5 p6) N 0
def Z4o (N:Nat) (p1:api_Code) (y5:api_Unit):Option Bool:=
 (Z4l N y5).bind fun r59=>
 (Z4c N p1 (y5.Lines.length:Int) r59 y5.Locks).bind fun r61=>
 some (!r61)
def Z5e (N:Nat) (kZ5d:Option Int) (p1:(List api_Code)) (y7:api_Unit):Nat→Int→Option Int
 | 0,_=>none
 | n+1,vB1=>
  if vB1 < (p1.length:Int) then
   (getI p1 vB1).bind fun x57=>
   (Z4o N x57 y7).bind fun r66=>
   if r66=true then
    some vB1
   else
    (Z5e N kZ5d p1 y7 n) (IntKind.i64.wrap (vB1+1))
  else
   kZ5d
def Z5d  : Option Int:=
 some (-1)
def Z5c (N:Nat) (p1:(List api_Code)) (y7:api_Unit):Option Int:=
 (Z5e N Z5d p1 y7) N 0
def Z54 (N:Nat) (p1:(List api_Code)) (y7:api_Unit):Option Bool:=
 (Z5c N p1 y7).bind fun r56=>
 some (decide (0≤r56))
def Z4p (N:Nat) (p1:(List api_Op)) (y7:api_Unit):Option Bool:=
 (Z1a N p1 y7.Stays).bind fun r56=>
 some (!r56)
def Z5b (N:Nat) (kZ5a:Option Int) (p1:(List (List api_Op))) (y7:api_Unit):Nat→Int→Option Int
 | 0,_=>none
 | n+1,vB1=>
  if vB1 < (p1.length:Int) then
   (getI p1 vB1).bind fun x57=>
   (Z4p N x57 y7).bind fun r66=>
   if r66=true then
    some vB1
   else
    (Z5b N kZ5a p1 y7 n) (IntKind.i64.wrap (vB1+1))
  else
   kZ5a
def Z5a  : Option Int:=
 some (-1)
def Z59 (N:Nat) (p1:(List (List api_Op))) (y7:api_Unit):Option Int:=
 (Z5b N Z5a p1 y7) N 0
def Z53 (N:Nat) (p1:(List (List api_Op))) (y7:api_Unit):Option Bool:=
 (Z59 N p1 y7).bind fun r56=>
 some (decide (0≤r56))
def Z4r (N:Nat) (kZ4q:Option Bool) (p1:api_Unit):Nat→Int→Int→Option Bool
 | 0,_,_=>none
 | n+1,vB1,vB2=>
  if vB2 < (p1.Lines.length:Int) then
   (getI p1.Lines vB2).bind fun x52=>
   if ((!(((decide (0 < vB2)) && (decide (vB2 < p1.Stays))) && (decide (x52=vB1)))) && (decide (x52≠(IntKind.i64.wrap (vB1+1)))))=true then
    some false
   else
    (Z4r N kZ4q p1 n) x52 (IntKind.i64.wrap (vB2+1))
  else
   kZ4q
def Z4q (N:Nat) (p1:api_Unit):Option Bool:=
 (Z57 N p1.Firsts).bind fun r58=>
 if r58=true then
  some false
 else
  (Z54 N p1.Threads p1).bind fun r61=>
  if r61=true then
   some false
  else
   (Z4o N p1.Recover p1).bind fun r64=>
   if r64=true then
    some false
   else
    (Z53 N p1.Claims p1).bind fun r67=>
    some (!r67)
def Z4m (N:Nat) (p1:api_Unit):Option Bool:=
 if ((((((((decide (20 < (p1.Lines.length:Int))) || (decide (p1.Stays < 0))) || (decide ((p1.Lines.length:Int) < p1.Stays))) || (decide ((p1.Firsts.length:Int)≠(p1.Lines.length:Int)))) || (decide (p1.Locks < 0))) || (decide (2 < p1.Locks))) || (decide ((p1.Threads.length:Int) < 1))) || (decide (3 < (p1.Threads.length:Int))))=true then
  some false
 else
  (Z4r N (Z4q N p1) p1) N (-1) 0
def Zc (N:Nat) (kZb:Int→Str→Option Str):Nat→Int→Str→Option Str
 | 0,_,_=>none
 | n+1,vB1,vB2=>
  if 128≤vB1 then
   (catC vB2 (IntKind.u8.wrap (IntKind.i64.wrap ((vB1.tmod 128)+128)))).bind fun s5=>
   (shrI .i64 vB1 7).bind fun xz9=>
   (Zc N kZb n) xz9 s5
  else
   kZb vB1 vB2
def Zb (vA1:Int) (vA2:Str):Option Str:=
 (catC vA2 (IntKind.u8.wrap vA1)).bind fun s11=>
 some s11
def Za (N:Nat) (p1:Int):Option Str:=
 if ((decide (p1 < 0)) || (decide (1099511627776 < p1)))=true then
  some []
 else
  (Zc N Zb) N p1 []
def Z15 (N:Nat) (p1:Str) (p7:Int):Option Str:=
 (Za N p7).bind fun rz8=>
 (catB p1 rz8).bind fun s10=>
 some s10
def Z17 (N:Nat) (p7:(List Int)):Nat→Str→Int→Option Str
 | 0,_,_=>none
 | n+1,vA1,vA6=>
  if vA6 < (p7.length:Int) then
   (getI p7 vA6).bind fun x19=>
   (Z15 N vA1 x19).bind fun r24=>
   (Z17 N p7 n) r24 (IntKind.i64.wrap (vA6+1))
  else
   some vA1
def Z16 (N:Nat) (p1:Str) (p7:(List Int)):Option Str:=
 (Z15 N p1 (p7.length:Int)).bind fun r12=>
 (Z17 N p7) N r12 0
def Z19 (N:Nat) (p7:(List api_Op)):Nat→Str→Int→Option Str
 | 0,_,_=>none
 | n+1,vA1,vA6=>
  if vA6 < (p7.length:Int) then
   (getI p7 vA6).bind fun x19=>
   (Z15 N vA1 x19.Kind).bind fun r25=>
   (Z15 N r25 x19.N).bind fun r31=>
   (Z19 N p7 n) r31 (IntKind.i64.wrap (vA6+1))
  else
   some vA1
def Z18 (N:Nat) (p1:Str) (p7:(List api_Op)):Option Str:=
 (Z15 N p1 (p7.length:Int)).bind fun r12=>
 (Z19 N p7) N r12 0
def Z14 (N:Nat) (p7:api_Code):Nat→Str→Int→Option Str
 | 0,_,_=>none
 | n+1,vA1,vA6=>
  if vA6 < (p7.L.length:Int) then
   (getI p7.L vA6).bind fun x34=>
   (Z15 N vA1 x34.Kind).bind fun r48=>
   (Z15 N r48 x34.A).bind fun r54=>
   (Z15 N r54 x34.B).bind fun r60=>
   (Z15 N r60 x34.To).bind fun r66=>
   (Z18 N r66 x34.E).bind fun r72=>
   (Z18 N r72 x34.F).bind fun r78=>
   (Z14 N p7 n) r78 (IntKind.i64.wrap (vA6+1))
  else
   some vA1
def Z13 (N:Nat) (p1:Str) (p7:api_Code):Option Str:=
 (Z15 N p1 p7.Regs).bind fun r15=>
 (Z15 N r15 p7.Counts).bind fun r21=>
 (Z15 N r21 (p7.L.length:Int)).bind fun r27=>
 (Z14 N p7) N r27 0
def Z5 (N:Nat) (kZ3:Str→Option (Str×Int)) (p1:api_Unit):Nat→Str→Int→Option (Str×Int)
 | 0,_,_=>none
 | n+1,vB1,vB6=>
  if vB6 < (p1.Threads.length:Int) then
   (getI p1.Threads vB6).bind fun x85=>
   (Z13 N vB1 x85).bind fun r95=>
   (Z5 N kZ3 p1 n) r95 (IntKind.i64.wrap (vB6+1))
  else
   kZ3 vB1
def Z6 (N:Nat) (kZ4:Str→Option (Str×Int)) (p1:api_Unit):Nat→Str→Int→Option (Str×Int)
 | 0,_,_=>none
 | n+1,vB7,vB12=>
  if vB12 < (p1.Claims.length:Int) then
   (getI p1.Claims vB12).bind fun x114=>
   (Z18 N vB7 x114).bind fun r123=>
   (Z6 N kZ4 p1 n) r123 (IntKind.i64.wrap (vB12+1))
  else
   kZ4 vB7
def Z4 (vA6:Str):Option (Str×Int):=
 (neG vA6).bind fun s129=>
 some (s129,0)
def Z3 (N:Nat) (p1:api_Unit) (vA1:Str):Option (Str×Int):=
 (Z13 N vA1 p1.Recover).bind fun r101=>
 (Z15 N r101 (p1.Claims.length:Int)).bind fun r107=>
 (Z6 N Z4 p1) N r107 0
def Z2 (N:Nat) (p1:api_Unit):Option (Str×Int):=
 (Z4m N p1).bind fun r50=>
 if r50=true then
  (Z16 N ([]:Str) p1.Lines).bind fun r54=>
  (Z15 N r54 p1.Stays).bind fun r60=>
  (Z16 N r60 p1.Firsts).bind fun r66=>
  (Z15 N r66 p1.Locks).bind fun r72=>
  (Z15 N r72 (p1.Threads.length:Int)).bind fun r78=>
  (Z5 N (Z3 N p1) p1) N r78 0
 else
  some ([],8)
def Z2g (N:Nat) (p1:api_Unit):Option Int:=
 if ((decide (1≤p1.Stays)) && (decide (p1.Stays≤(p1.Lines.length:Int))))=true then
  (getI p1.Lines (IntKind.i64.wrap (p1.Stays - 1))).bind fun x51=>
  some (IntKind.i64.wrap (x51+1))
 else
  some 0
def Z34 (N:Nat) (p1:Int) (p2:Int):Option Bool:=
 some ((decide (0≤p1)) && (decide (p1 < p2)))
def Z24 (kZ25:Int→Int→Option Int) (vB2:Int) (vC2:Int):Option Int:=
 if vC2 < 0 then
  some (-1)
 else
  kZ25 (IntKind.i64.wrap (vC2+1)) (IntKind.i64.wrap (vB2+1))
def Z23 (kZ25:Int→Int→Option Int) (xz8:api_Op) (vB2:Int) (vC1:Int):Option Int:=
 if ((decide (5≤xz8.Kind)) && (decide (xz8.Kind≤15)))=true then
  (Z24 kZ25 vB2) (IntKind.i64.wrap (vC1 - 2))
 else
  (Z24 kZ25 vB2) vC1
def Z25 (N:Nat) (kZ22:Int→Option Int) (p1:(List api_Op)) (p6:Int):Nat→Int→Int→Option Int
 | 0,_,_=>none
 | n+1,vB1,vB2=>
  if vB2 < p6 then
   (getI p1 vB2).bind fun xz8=>
   if ((decide (xz8.Kind=3)) || (decide (xz8.Kind=4)))=true then
    (Z23 (Z25 N kZ22 p1 p6 n) xz8 vB2) (IntKind.i64.wrap (vB1 - 1))
   else
    (Z23 (Z25 N kZ22 p1 p6 n) xz8 vB2) vB1
  else
   kZ22 vB1
def Z22 (vA1:Int):Option Int:=
 some vA1
def Z21 (N:Nat) (p1:(List api_Op)) (p6:Int):Option Int:=
 (Z25 N Z22 p1 p6) N 0 0
def Z1x (N:Nat) (kZ1w:Option Bool) (p1:(List api_Op)) (p6:Int):Nat→Int→Option Bool
 | 0,_=>none
 | n+1,vB1=>
  if vB1 < (p1.length:Int) then
   (getI p1 vB1).bind fun xz8=>
   if (((((decide (xz8.Kind < 1)) || (decide (15 < xz8.Kind))) || ((decide (xz8.Kind=1)) && ((decide (xz8.N < 0)) || (decide (4294967296 < xz8.N))))) || ((decide (xz8.Kind=2)) && ((decide (xz8.N < 0)) || (decide (p6≤xz8.N))))) || ((decide (2 < xz8.Kind)) && (decide (xz8.N≠0))))=true then
    some false
   else
    (Z1x N kZ1w p1 p6 n) (IntKind.i64.wrap (vB1+1))
  else
   kZ1w
def Z1w (N:Nat) (p1:(List api_Op)):Option Bool:=
 if ((decide (1≤(p1.length:Int))) && (decide ((p1.length:Int)≤40)))=true then
  (Z21 N p1 (p1.length:Int)).bind fun r15=>
  some (decide (r15=1))
 else
  some false
def Z1v (N:Nat) (p1:(List api_Op)) (p6:Int):Option Bool:=
 (Z1x N (Z1w N p1) p1 p6) N 0
def Z32 (N:Nat) (kZ2z:Bool→Option Bool) (p1:api_Instr) (p9:Int) (vB3:Bool):Option Bool:=
 if vB3=true then
  (Z34 N p1.B p9).bind fun r41=>
  kZ2z r41
 else
  if p1.Kind=13 then
   kZ2z ((decide (1≤p1.B)) && (decide (p1.B≤8)))
  else
   kZ2z (decide (p1.B=0))
def Z31 (N:Nat) (kZ2z:Bool→Option Bool) (p1:api_Instr) (p8:Int) (p9:Int) (vB2:Bool):Option Bool:=
 if vB2=true then
  (Z34 N p1.B p8).bind fun r37=>
  kZ2z r37
 else
  if p1.Kind=9 then
   (Z32 N kZ2z p1 p9) (decide (p1.Kind=9))
  else
   (Z32 N kZ2z p1 p9) (decide (p1.Kind=10))
def Z30 (N:Nat) (kZ2z:Bool→Option Bool) (p1:api_Instr) (p7:Int) (p8:Int) (p9:Int) (vB1:Bool):Option Bool:=
 if vB1=true then
  (Z34 N p1.B p7).bind fun r33=>
  kZ2z r33
 else
  if p1.Kind=5 then
   (Z31 N kZ2z p1 p8 p9) (decide (p1.Kind=5))
  else
   (Z31 N kZ2z p1 p8 p9) (decide (p1.Kind=6))
def Z33 (p1:api_Instr) (vA2:Bool) (vA3:Bool) (vA4:Bool):Option Bool:=
 if vA4=true then
  some false
 else
  some ((((decide (1≤p1.Kind)) && (decide (p1.Kind≤15))) && vA2) && vA3)
def Z2z (N:Nat) (p1:api_Instr) (p4:api_Code) (vA2:Bool) (vA3:Bool):Option Bool:=
 if (((((decide (p1.Kind=1)) || (decide (p1.Kind=3))) || (decide (p1.Kind=4))) || (decide (p1.Kind=12))) || (decide (p1.Kind=15)))=true then
  (Z1v N p1.E p4.Regs).bind fun r45=>
  if ((!r45) || ((!(((((decide (p1.Kind=1)) || (decide (p1.Kind=3))) || (decide (p1.Kind=4))) || (decide (p1.Kind=12))) || (decide (p1.Kind=15)))) && (decide (0 < (p1.E.length:Int)))))=true then
   (Z33 p1 vA2 vA3) true
  else
   if p1.Kind=4 then
    (Z1v N p1.F p4.Regs).bind fun r49=>
    (Z33 p1 vA2 vA3) ((!r49) || ((decide (p1.Kind≠4)) && (decide (0 < (p1.F.length:Int)))))
   else
    (Z33 p1 vA2 vA3) ((decide (p1.Kind≠4)) && (decide (0 < (p1.F.length:Int))))
 else
  if ((!(((((decide (p1.Kind=1)) || (decide (p1.Kind=3))) || (decide (p1.Kind=4))) || (decide (p1.Kind=12))) || (decide (p1.Kind=15)))) && (decide (0 < (p1.E.length:Int))))=true then
   (Z33 p1 vA2 vA3) true
  else
   if p1.Kind=4 then
    (Z1v N p1.F p4.Regs).bind fun r53=>
    (Z33 p1 vA2 vA3) ((!r53) || ((decide (p1.Kind≠4)) && (decide (0 < (p1.F.length:Int)))))
   else
    (Z33 p1 vA2 vA3) ((decide (p1.Kind≠4)) && (decide (0 < (p1.F.length:Int))))
def Z2y (N:Nat) (p1:api_Instr) (p4:api_Code) (p7:Int) (p8:Int) (p9:Int) (vA2:Bool):Option Bool:=
 if p1.Kind=2 then
  (Z30 N (Z2z N p1 p4 vA2) p1 p7 p8 p9) (decide (p1.Kind=2))
 else
  if p1.Kind=3 then
   (Z30 N (Z2z N p1 p4 vA2) p1 p7 p8 p9) (decide (p1.Kind=3))
  else
   (Z30 N (Z2z N p1 p4 vA2) p1 p7 p8 p9) (decide (p1.Kind=4))
def Z2x (N:Nat) (p1:api_Instr) (p4:api_Code) (p7:Int) (p8:Int) (p9:Int) (vA1:Bool):Option Bool:=
 if ((decide (p1.Kind=13)) || (decide (p1.Kind=14)))=true then
  (Z34 N p1.A p4.Counts).bind fun r28=>
  (Z2y N p1 p4 p7 p8 p9) r28
 else
  (Z2y N p1 p4 p7 p8 p9) vA1
def Z2w (N:Nat) (p1:api_Instr) (p4:api_Code) (p7:Int) (p8:Int) (p9:Int):Option Bool:=
 if (((decide (p1.Kind=1)) || (decide (p1.Kind=2))) || (decide (p1.Kind=4)))=true then
  (Z34 N p1.A p4.Regs).bind fun r25=>
  (Z2x N p1 p4 p7 p8 p9) r25
 else
  (Z2x N p1 p4 p7 p8 p9) (decide (p1.A=0))
def Z3d (N:Nat) (kZ3c:Option Bool) (p1:(List api_Instr)) (p6:Int) (xz7:api_Instr):Nat→Int→Option Bool
 | 0,_=>none
 | n+1,vB1=>
  if vB1 < p6 then
   (getI p1 vB1).bind fun x39=>
   if ((decide (x39.Kind=13)) && (decide (x39.A=xz7.A)))=true then
    some false
   else
    (Z3d N kZ3c p1 p6 xz7 n) (IntKind.i64.wrap (vB1+1))
  else
   kZ3c
def Z3c  : Option Bool:=
 some true
def Z3b (N:Nat) (p1:(List api_Instr)) (p6:Int) (xz7:api_Instr) (vA1:Bool):Option Bool:=
 if vA1=true then
  some false
 else
  (Z3d N Z3c p1 p6 xz7) N xz7.To
def Z3a (N:Nat) (p1:(List api_Instr)) (p6:Int):Option Bool:=
 (getI p1 p6).bind fun xz7=>
 if ((decide (xz7.Kind=11)) || (decide (xz7.Kind=12)))=true then
  some ((decide (p6 < xz7.To)) && (decide (xz7.To≤(p1.length:Int))))
 else
  if xz7.Kind≠14 then
   some (decide (xz7.To=0))
  else
   if ((decide (xz7.To < 1)) || (decide (p6 < xz7.To)))=true then
    (Z3b N p1 p6 xz7) true
   else
    (getI p1 (IntKind.i64.wrap (xz7.To - 1))).bind fun x24=>
    (Z3b N p1 p6 xz7) ((decide (x24.Kind≠13)) || (decide (x24.A≠xz7.A)))
def Z2v (N:Nat) (p1:Int) (p2:Int) (p3:Int) (p4:Int):Option Bool:=
 some (((((decide (p3≤p1)) && (decide (p2≤p4))) || ((decide (p1≤p3)) && (decide (p4≤p2)))) || (decide (p2 < p3))) || (decide (p4 < p1)))
def Z28 (kZ2d:Int→Option Bool) (vB1:Int) (vC1:Bool):Option Bool:=
 if vC1=true then
  some false
 else
  kZ2d (IntKind.i64.wrap (vB1+1))
def Z2d (N:Nat) (kZ27:Option Bool) (p1:api_Code) (p4:Int) (p5:Int) (p6:Int):Nat→Int→Option Bool
 | 0,_=>none
 | n+1,vB1=>
  if vB1 < (p1.L.length:Int) then
   (getI p1.L vB1).bind fun x14=>
   (Z2w N x14 p1 p4 p5 p6).bind fun r27=>
   if r27=true then
    (Z3a N p1.L vB1).bind fun r30=>
    (Z28 (Z2d N kZ27 p1 p4 p5 p6 n) vB1) (!r30)
   else
    (Z28 (Z2d N kZ27 p1 p4 p5 p6 n) vB1) true
  else
   kZ27
def Z2c (kZ2f:Int→Option Bool) (vD1:Int) (vE31:Bool):Option Bool:=
 if vE31=true then
  some false
 else
  kZ2f (IntKind.i64.wrap (vD1+1))
def Z2b (N:Nat) (kZ2f:Int→Option Bool) (vD1:Int) (vB2:Int) (vE2:Int) (vE3:Int) (vE4:Int) (vE5:(List api_Op)) (vE10:(List api_Op)) (vE15:Int) (vE17:Int) (vE18:Int) (vE19:Int) (vE20:(List api_Op)) (vE25:(List api_Op)) (vE30:Int):Option Bool:=
 if ((decide (vE2=14)) && (decide (vE17=14)))=true then
  (Z2v N (IntKind.i64.wrap (vE15 - 1)) vB2 (IntKind.i64.wrap (vE30 - 1)) vD1).bind fun r64=>
  (Z2c kZ2f vD1) (!r64)
 else
  (Z2c kZ2f vD1) false
def Z2f (N:Nat) (kZ2a:Option Bool) (p1:api_Code) (vB2:Int):Nat→Int→Option Bool
 | 0,_=>none
 | n+1,vD1=>
  if vD1 < vB2 then
   (getI p1.L vB2).bind fun x35=>
   (getI p1.L vD1).bind fun x48=>
   (Z2b N (Z2f N kZ2a p1 vB2 n) vD1 vB2) x35.Kind x35.A x35.B x35.E x35.F x35.To x48.Kind x48.A x48.B x48.E x48.F x48.To
  else
   kZ2a
def Z2a (kZ2e:Int→Option Bool) (vB2:Int):Option Bool:=
 kZ2e (IntKind.i64.wrap (vB2+1))
def Z2e (N:Nat) (kZ29:Option Bool) (p1:api_Code):Nat→Int→Option Bool
 | 0,_=>none
 | n+1,vB2=>
  if vB2 < (p1.L.length:Int) then
   (Z2f N (Z2a (Z2e N kZ29 p1 n) vB2) p1 vB2) N 0
  else
   kZ29
def Z29  : Option Bool:=
 some true
def Z27 (N:Nat) (p1:api_Code):Option Bool:=
 (Z2e N Z29 p1) N 0
def Z26 (N:Nat) (p1:api_Code) (p4:Int) (p5:Int) (p6:Int):Option Bool:=
 if ((((decide (p1.Regs < 0)) || (decide (4 < p1.Regs))) || (decide (p1.Counts < 0))) || (decide (12 < p1.Counts)))=true then
  some false
 else
  (Z2d N (Z27 N p1) p1 p4 p5 p6) N 0
def Z2j (kZ2m:Int→Option Bool) (p1:api_Unit) (vB1:Int) (vC1:Int):Option Bool:=
 (getI p1.Lines vB1).bind fun x64=>
 if ((decide (x64≠vC1)) && (((decide (vB1=0)) || (decide (p1.Stays≤vB1))) || (decide (x64≠(IntKind.i64.wrap (vC1 - 1))))))=true then
  some false
 else
  kZ2m (IntKind.i64.wrap (vB1+1))
def Z2m (N:Nat) (kZ2i:Option Bool) (p1:api_Unit):Nat→Int→Option Bool
 | 0,_=>none
 | n+1,vB1=>
  if vB1 < (p1.Lines.length:Int) then
   (getI p1.Firsts vB1).bind fun x52=>
   if ((decide (x52 < 0)) || (decide (4294967296 < x52)))=true then
    some false
   else
    if 0 < vB1 then
     (getI p1.Lines (IntKind.i64.wrap (vB1 - 1))).bind fun x59=>
     (Z2j (Z2m N kZ2i p1 n) p1 vB1) (IntKind.i64.wrap (x59+1))
    else
     (Z2j (Z2m N kZ2i p1 n) p1 vB1) 0
  else
   kZ2i
def Z2n (N:Nat) (kZ2k:Option Bool) (p1:api_Unit):Nat→Int→Option Bool
 | 0,_=>none
 | n+1,vB2=>
  if vB2 < (p1.Threads.length:Int) then
   (getI p1.Threads vB2).bind fun x71=>
   (Z2g N p1).bind fun r80=>
   (Z26 N x71 (p1.Lines.length:Int) r80 p1.Locks).bind fun r82=>
   if r82=true then
    (Z2n N kZ2k p1 n) (IntKind.i64.wrap (vB2+1))
   else
    some false
  else
   kZ2k
def Z2o (N:Nat) (kZ2l:Option Bool) (p1:api_Unit):Nat→Int→Option Bool
 | 0,_=>none
 | n+1,vB3=>
  if vB3 < (p1.Claims.length:Int) then
   (getI p1.Claims vB3).bind fun x86=>
   (Z1v N x86 p1.Stays).bind fun r95=>
   if r95=true then
    (Z2o N kZ2l p1 n) (IntKind.i64.wrap (vB3+1))
   else
    some false
  else
   kZ2l
def Z2l (N:Nat) (p1:api_Unit):Option Bool:=
 (Z2g N p1).bind fun r98=>
 (Z26 N p1.Recover (p1.Lines.length:Int) r98 p1.Locks).bind fun r100=>
 some r100
def Z2k (N:Nat) (p1:api_Unit):Option Bool:=
 (Z2o N (Z2l N p1) p1) N 0
def Z2i (N:Nat) (p1:api_Unit):Option Bool:=
 (Z2n N (Z2k N p1) p1) N 0
def Z2h (N:Nat) (p1:api_Unit):Option Bool:=
 if ((((((((decide (20 < (p1.Lines.length:Int))) || (decide (p1.Stays < 0))) || (decide ((p1.Lines.length:Int) < p1.Stays))) || (decide ((p1.Firsts.length:Int)≠(p1.Lines.length:Int)))) || (decide (p1.Locks < 0))) || (decide (2 < p1.Locks))) || (decide ((p1.Threads.length:Int) < 1))) || (decide (3 < (p1.Threads.length:Int))))=true then
  some false
 else
  (Z2m N (Z2i N p1) p1) N 0
def Z42:Nat→Int→Option Str
 | 0,_=>none
 | N+1,p1=>
  if ((decide (p1 < 0)) || (decide (1099511627776 < p1)))=true then
   some []
  else
   if p1 < 128 then
    some (bytesStr ([(IntK.mk (IntKind.u8.wrap p1))]:List (IntK .u8)))
   else
    ((Z42 N) (IntKind.i64.wrap (p1.tdiv 128))).bind fun r10=>
    (catG (bytesStr ([(IntK.mk (IntKind.u8.wrap (IntKind.i64.wrap (128+(p1.tmod 128)))))]:List (IntK .u8))) r10).bind fun s12=>
    some s12
def Z48 (N:Nat) (kZ47:Str→Option Str) (p1:(List Int)):Nat→Str→Int→Option Str
 | 0,_,_=>none
 | n+1,vB1,vB2=>
  if vB2 < (p1.length:Int) then
   (getI p1 vB2).bind fun xz9=>
   (Z42 N xz9).bind fun r14=>
   (catG vB1 r14).bind fun s16=>
   (Z48 N kZ47 p1 n) s16 (IntKind.i64.wrap (vB2+1))
  else
   kZ47 vB1
def Z47 (vA1:Str):Option Str:=
 some vA1
def Z46 (N:Nat) (p1:(List Int)):Option Str:=
 (Z42 N (p1.length:Int)).bind fun rz6=>
 (Z48 N Z47 p1) N rz6 0
def Z4b (N:Nat) (kZ4a:Str→Option Str) (p1:(List api_Op)):Nat→Str→Int→Option Str
 | 0,_,_=>none
 | n+1,vB1,vB2=>
  if vB2 < (p1.length:Int) then
   (getI p1 vB2).bind fun xz9=>
   (Z42 N xz9.Kind).bind fun r14=>
   (Z42 N xz9.N).bind fun r16=>
   (catG r14 r16).bind fun s18=>
   (catG vB1 s18).bind fun s20=>
   (Z4b N kZ4a p1 n) s20 (IntKind.i64.wrap (vB2+1))
  else
   kZ4a vB1
def Z4a (vA1:Str):Option Str:=
 some vA1
def Z49 (N:Nat) (p1:(List api_Op)):Option Str:=
 (Z42 N (p1.length:Int)).bind fun rz6=>
 (Z4b N Z4a p1) N rz6 0
def Z45 (N:Nat) (kZ44:Str→Option Str) (p1:api_Code):Nat→Str→Int→Option Str
 | 0,_,_=>none
 | n+1,vB1,vB2=>
  if vB2 < (p1.L.length:Int) then
   (getI p1.L vB2).bind fun x20=>
   (Z42 N x20.Kind).bind fun r34=>
   (Z42 N x20.A).bind fun r36=>
   (catG r34 r36).bind fun s38=>
   (Z42 N x20.B).bind fun r40=>
   (catG s38 r40).bind fun s42=>
   (Z42 N x20.To).bind fun r44=>
   (catG s42 r44).bind fun s46=>
   (Z49 N x20.E).bind fun r48=>
   (catG s46 r48).bind fun s50=>
   (Z49 N x20.F).bind fun r52=>
   (catG s50 r52).bind fun s54=>
   (catG vB1 s54).bind fun s56=>
   (Z45 N kZ44 p1 n) s56 (IntKind.i64.wrap (vB2+1))
  else
   kZ44 vB1
def Z44 (vA1:Str):Option Str:=
 some vA1
def Z43 (N:Nat) (p1:api_Code):Option Str:=
 (Z42 N p1.Regs).bind fun rz9=>
 (Z42 N p1.Counts).bind fun r11=>
 (catG rz9 r11).bind fun s13=>
 (Z42 N (p1.L.length:Int)).bind fun r15=>
 (catG s13 r15).bind fun s17=>
 (Z45 N Z44 p1) N s17 0
def Z3m (N:Nat) (kZ3k:Str→Option (Str×Int)) (p1:api_Unit):Nat→Str→Int→Option (Str×Int)
 | 0,_,_=>none
 | n+1,vB1,vB2=>
  if vB2 < (p1.Threads.length:Int) then
   (getI p1.Threads vB2).bind fun x72=>
   (Z43 N x72).bind fun r81=>
   (catG vB1 r81).bind fun s83=>
   (Z3m N kZ3k p1 n) s83 (IntKind.i64.wrap (vB2+1))
  else
   kZ3k vB1
def Z3n (N:Nat) (kZ3l:Str→Option (Str×Int)) (p1:api_Unit):Nat→Str→Int→Option (Str×Int)
 | 0,_,_=>none
 | n+1,vB3,vB4=>
  if vB4 < (p1.Claims.length:Int) then
   (getI p1.Claims vB4).bind fun x94=>
   (Z49 N x94).bind fun r103=>
   (catG vB3 r103).bind fun s105=>
   (Z3n N kZ3l p1 n) s105 (IntKind.i64.wrap (vB4+1))
  else
   kZ3l vB3
def Z3l (vA2:Str):Option (Str×Int):=
 some (vA2,0)
def Z3k (N:Nat) (p1:api_Unit) (vA1:Str):Option (Str×Int):=
 (Z43 N p1.Recover).bind fun r85=>
 (Z42 N (p1.Claims.length:Int)).bind fun r87=>
 (catG r85 r87).bind fun s89=>
 (catG vA1 s89).bind fun s91=>
 (Z3n N Z3l p1) N s91 0
def Z3j (N:Nat) (p1:api_Unit):Option (Str×Int):=
 (Z2h N p1).bind fun r50=>
 if r50=true then
  (Z46 N p1.Lines).bind fun r53=>
  (Z42 N p1.Stays).bind fun r55=>
  (catG r53 r55).bind fun s57=>
  (Z46 N p1.Firsts).bind fun r59=>
  (catG s57 r59).bind fun s61=>
  (Z42 N p1.Locks).bind fun r63=>
  (catG s61 r63).bind fun s65=>
  (Z42 N (p1.Threads.length:Int)).bind fun r67=>
  (catG s65 r67).bind fun s69=>
  (Z3m N (Z3k N p1) p1) N s69 0
 else
  some ([],8)
def Z9 (N:Nat) (kZ8:Option (Int×Int×Int)) (p1:Str) (p2:Int):Nat→Int→Int→Option (Int×Int×Int)
 | 0,_,_=>none
 | n+1,vB1,vB2=>
  if vB2 < 6 then
   if (IntKind.i64.wrap (p2+vB2))=(p1.length:Int) then
    some (0,0,6)
   else
    (byteI p1 (IntKind.i64.wrap (p2+vB2))).bind fun xz6=>
    (shlI .i64 ((IntKind.i64.wrap xz6).tmod 128) (IntKind.i64.wrap (7 * vB2))).bind fun xz8=>
    if 128≤(IntKind.i64.wrap xz6) then
     (Z9 N kZ8 p1 p2 n) (IntKind.i64.wrap (vB1+xz8)) (IntKind.i64.wrap (vB2+1))
    else
     if ((decide ((IntKind.i64.wrap xz6)=0)) && (decide (0 < vB2)))=true then
      some (0,0,8)
     else
      if 1099511627776 < (IntKind.i64.wrap (vB1+xz8)) then
       some (0,0,2)
      else
       some ((IntKind.i64.wrap (vB1+xz8)),(IntKind.i64.wrap ((IntKind.i64.wrap (p2+vB2))+1)),0)
  else
   kZ8
def Z8  : Option (Int×Int×Int):=
 some (0,0,2)
def Z7 (N:Nat) (p1:Str) (p2:Int):Option (Int×Int×Int):=
 if ((decide (p2 < 0)) || (decide ((p1.length:Int) < p2)))=true then
  some (0,0,1)
 else
  (Z9 N Z8 p1 p2) N 0 0
def Zn (N:Nat) (p1:binary_reader):Option (Option (Int×binary_reader)):=
 (Z7 N p1.s p1.at').bind fun rz3=>
 if rz3.2.2≠0 then
  some none
 else
  some (some (rz3.1,(binary_reader.mk p1.s rz3.2.1)))
def Zm (N:Nat) (p1:binary_reader):Option (Option (Int×binary_reader)):=
 (Zn N p1).bindP fun rz3=>
 if (rz3.2.s.length:Int) < rz3.1 then
  some none
 else
  some (some (rz3.1,rz3.2))
def Zq (N:Nat) (kZp:binary_reader→(List Int)→Option (Option ((List Int)×binary_reader))) (rz3:(Int×binary_reader)):Nat→binary_reader→(List Int)→Int→Option (Option ((List Int)×binary_reader))
 | 0,_,_,_=>none
 | n+1,vB1,vB2,vB8=>
  if vB8 < rz3.1 then
   (Zn N vB1).bindP fun rz7=>
   (appG 8 vB2 ([rz7.1]:List Int)).bind fun l13=>
   (Zq N kZp rz3 n) rz7.2 l13 (IntKind.i64.wrap (vB8+1))
  else
   kZp vB1 vB2
def Zp (vA1:binary_reader) (vA2:(List Int)):Option (Option ((List Int)×binary_reader)):=
 some (some (vA2,vA1))
def Zo (N:Nat) (p1:binary_reader):Option (Option ((List Int)×binary_reader)):=
 (Zm N p1).bindP fun rz3=>
 (Zq N Zp rz3) N rz3.2 [] 0
def Zt (N:Nat) (kZs:binary_reader→(List api_Op)→Option (Option ((List api_Op)×binary_reader))) (rz3:(Int×binary_reader)):Nat→binary_reader→(List api_Op)→Int→Option (Option ((List api_Op)×binary_reader))
 | 0,_,_,_=>none
 | n+1,vB1,vB2,vB8=>
  if vB8 < rz3.1 then
   (Zn N vB1).bindP fun rz8=>
   (Zn N rz8.2).bindP fun r11=>
   (appG 16 vB2 ([(api_Op.mk rz8.1 r11.1)]:List api_Op)).bind fun l17=>
   (Zt N kZs rz3 n) r11.2 l17 (IntKind.i64.wrap (vB8+1))
  else
   kZs vB1 vB2
def Zs (vA1:binary_reader) (vA2:(List api_Op)):Option (Option ((List api_Op)×binary_reader)):=
 some (some (vA2,vA1))
def Zr (N:Nat) (p1:binary_reader):Option (Option ((List api_Op)×binary_reader)):=
 (Zm N p1).bindP fun rz3=>
 (Zt N Zs rz3) N rz3.2 [] 0
def Zk (N:Nat) (kZj:binary_reader→(List api_Instr)→Option (Option (api_Code×binary_reader))) (vB3:(List api_Instr)) (vD1:binary_reader) (vD2:Int) (vD3:Int) (vD4:Int) (vD5:Int):Option (Option (api_Code×binary_reader)):=
 (Zr N vD1).bindP fun r30=>
 (Zr N r30.2).bindP fun r38=>
 (appG 80 vB3 ([(api_Instr.mk vD2 vD3 vD4 r30.1 r38.1 vD5)]:List api_Instr)).bind fun l57=>
 kZj r38.2 l57
def Zj (kZl:binary_reader→(List api_Instr)→Int→Option (Option (api_Code×binary_reader))) (vB9:Int) (vC2:binary_reader) (vC3:(List api_Instr)):Option (Option (api_Code×binary_reader)):=
 kZl vC2 vC3 (IntKind.i64.wrap (vB9+1))
def Zl (N:Nat) (kZi:binary_reader→(List api_Instr)→Option (Option (api_Code×binary_reader))) (r11:(Int×binary_reader)):Nat→binary_reader→(List api_Instr)→Int→Option (Option (api_Code×binary_reader))
 | 0,_,_,_=>none
 | n+1,vB2,vB3,vB9=>
  if vB9 < r11.1 then
   (Zn N vB2).bindP fun r18=>
   (Zn N r18.2).bindP fun r21=>
   (Zn N r21.2).bindP fun r24=>
   (Zn N r24.2).bindP fun r27=>
   (Zk N (Zj (Zl N kZi r11 n) vB9) vB3) r27.2 r18.1 r21.1 r24.1 r27.1
  else
   kZi vB2 vB3
def Zi (rz5:(Int×binary_reader)) (rz8:(Int×binary_reader)) (vA2:binary_reader) (vA3:(List api_Instr)):Option (Option (api_Code×binary_reader)):=
 some (some ((api_Code.mk rz5.1 rz8.1 vA3),vA2))
def Zh (N:Nat) (p1:binary_reader):Option (Option (api_Code×binary_reader)):=
 (Zn N p1).bindP fun rz5=>
 (Zn N rz5.2).bindP fun rz8=>
 (Zm N rz8.2).bindP fun r11=>
 (Zl N (Zi rz5 rz8) r11) N r11.2 [] 0
def Zx (N:Nat) (kZv:binary_reader→(List api_Code)→Option (Option (api_Unit×binary_reader))) (r27:(Int×binary_reader)):Nat→binary_reader→(List api_Code)→Int→Option (Option (api_Unit×binary_reader))
 | 0,_,_,_=>none
 | n+1,vB2,vB3,vB9=>
  if vB9 < r27.1 then
   (Zh N vB2).bindP fun r31=>
   (appG 40 vB3 ([r31.1]:List api_Code)).bind fun l47=>
   (Zx N kZv r27 n) r31.2 l47 (IntKind.i64.wrap (vB9+1))
  else
   kZv vB2 vB3
def Zy (N:Nat) (kZw:binary_reader→(List (List api_Op))→Option (Option (api_Unit×binary_reader))) (r66:(Int×binary_reader)):Nat→binary_reader→(List (List api_Op))→Int→Option (Option (api_Unit×binary_reader))
 | 0,_,_,_=>none
 | n+1,vB11,vB12,vB18=>
  if vB18 < r66.1 then
   (Zr N vB11).bindP fun r70=>
   (appG 24 vB12 ([r70.1]:List (List api_Op))).bind fun l85=>
   (Zy N kZw r66 n) r70.2 l85 (IntKind.i64.wrap (vB18+1))
  else
   kZw vB11 vB12
def Zw (rz5:((List Int)×binary_reader)) (r13:(Int×binary_reader)) (r16:((List Int)×binary_reader)) (r24:(Int×binary_reader)) (vA3:(List api_Code)) (r53:(api_Code×binary_reader)) (vA10:binary_reader) (vA11:(List (List api_Op))):Option (Option (api_Unit×binary_reader)):=
 some (some ((api_Unit.mk rz5.1 r13.1 r16.1 r24.1 vA3 r53.1 vA11),vA10))
def Zv (N:Nat) (rz5:((List Int)×binary_reader)) (r13:(Int×binary_reader)) (r16:((List Int)×binary_reader)) (r24:(Int×binary_reader)) (vA2:binary_reader) (vA3:(List api_Code)):Option (Option (api_Unit×binary_reader)):=
 (Zh N vA2).bindP fun r53=>
 (Zm N r53.2).bindP fun r66=>
 (Zy N (Zw rz5 r13 r16 r24 vA3 r53) r66) N r66.2 [] 0
def Zu (N:Nat) (p1:binary_reader):Option (Option (api_Unit×binary_reader)):=
 (Zo N p1).bindP fun rz5=>
 (Zn N rz5.2).bindP fun r13=>
 (Zo N r13.2).bindP fun r16=>
 (Zn N r16.2).bindP fun r24=>
 (Zm N r24.2).bindP fun r27=>
 (Zx N (Zv N rz5 r13 r16 r24) r27) N r27.2 [] 0
def Z0 (N:Nat) (p1:Str):Option (api_Unit×Int):=
 (Zu N (binary_reader.mk p1 0)).bindQ Z1 fun rz5=>
 (Z2 N rz5.1).bind fun r59=>
 if ((decide (r59.2≠0)) || (decide (r59.1≠p1)))=true then
  Z1
 else
  some (rz5.1,0)
def Z3q (N:Nat) (kZ3p:Option (Int×Int×Int)) (p1:Str) (p2:Int):Nat→Int→Int→Int→Option (Int×Int×Int)
 | 0,_,_,_=>none
 | n+1,vB1,vB2,vB3=>
  if vB3 < (IntKind.i64.wrap (p2+6)) then
   if (p1.length:Int)≤vB3 then
    some (0,0,6)
   else
    (byteI p1 vB3).bind fun xz6=>
    if (IntKind.i64.wrap xz6) < 128 then
     if ((decide ((IntKind.i64.wrap xz6)=0)) && (decide (p2 < vB3)))=true then
      some (0,0,8)
     else
      if 1099511627776 < (IntKind.i64.wrap (vB1+(IntKind.i64.wrap (((IntKind.i64.wrap xz6).tmod 128) * vB2)))) then
       some (0,0,2)
      else
       some ((IntKind.i64.wrap (vB1+(IntKind.i64.wrap (((IntKind.i64.wrap xz6).tmod 128) * vB2)))),(IntKind.i64.wrap (vB3+1)),0)
    else
     (Z3q N kZ3p p1 p2 n) (IntKind.i64.wrap (vB1+(IntKind.i64.wrap (((IntKind.i64.wrap xz6).tmod 128) * vB2)))) (IntKind.i64.wrap (128 * vB2)) (IntKind.i64.wrap (vB3+1))
  else
   kZ3p
def Z3p  : Option (Int×Int×Int):=
 some (0,0,2)
def Z3o (N:Nat) (p1:Str) (p2:Int):Option (Int×Int×Int):=
 if ((decide (p2 < 0)) || (decide ((p1.length:Int) < p2)))=true then
  some (0,0,1)
 else
  (Z3q N Z3p p1 p2) N 0 1 p2
def Z3v (N:Nat) (p1:leadlineref10_In):Option (Int×leadlineref10_In):=
 (Z3o N p1.S p1.At).bind fun rz3=>
 if (p1.Bad || (decide (rz3.2.2≠0)))=true then
  some (0,(leadlineref10_In.mk p1.S p1.At true))
 else
  some (rz3.1,(leadlineref10_In.mk p1.S rz3.2.1 p1.Bad))
def Z3u (N:Nat) (p1:leadlineref10_In):Option (Int×leadlineref10_In):=
 (Z3v N p1).bind fun rz3=>
 if (rz3.2.S.length:Int) < rz3.1 then
  some (0,(leadlineref10_In.mk rz3.2.S rz3.2.At true))
 else
  some (rz3.1,rz3.2)
def Z3y (N:Nat) (kZ3x:leadlineref10_In→(List Int)→Option ((List Int)×leadlineref10_In)) (rz6:(Int×leadlineref10_In)):Nat→leadlineref10_In→(List Int)→Int→Option ((List Int)×leadlineref10_In)
 | 0,_,_,_=>none
 | n+1,vB1,vB2,vB8=>
  if ((decide (vB8 < rz6.1)) && (!vB1.Bad))=true then
   (Z3v N vB1).bind fun rz9=>
   (appG 8 vB2 ([rz9.1]:List Int)).bind fun l14=>
   (Z3y N kZ3x rz6 n) rz9.2 l14 (IntKind.i64.wrap (vB8+1))
  else
   kZ3x vB1 vB2
def Z3x (vA1:leadlineref10_In) (vA2:(List Int)):Option ((List Int)×leadlineref10_In):=
 some (vA2,vA1)
def Z3w (N:Nat) (p1:leadlineref10_In):Option ((List Int)×leadlineref10_In):=
 (Z3u N p1).bind fun rz6=>
 (Z3y N Z3x rz6) N rz6.2 [] 0
def Z41 (N:Nat) (kZ40:leadlineref10_In→(List api_Op)→Option ((List api_Op)×leadlineref10_In)) (rz6:(Int×leadlineref10_In)):Nat→leadlineref10_In→(List api_Op)→Int→Option ((List api_Op)×leadlineref10_In)
 | 0,_,_,_=>none
 | n+1,vB1,vB2,vB8=>
  if ((decide (vB8 < rz6.1)) && (!vB1.Bad))=true then
   (Z3v N vB1).bind fun rz9=>
   (Z3v N rz9.2).bind fun r12=>
   (appG 16 vB2 ([(api_Op.mk rz9.1 r12.1)]:List api_Op)).bind fun l17=>
   (Z41 N kZ40 rz6 n) r12.2 l17 (IntKind.i64.wrap (vB8+1))
  else
   kZ40 vB1 vB2
def Z40 (vA1:leadlineref10_In) (vA2:(List api_Op)):Option ((List api_Op)×leadlineref10_In):=
 some (vA2,vA1)
def Z3z (N:Nat) (p1:leadlineref10_In):Option ((List api_Op)×leadlineref10_In):=
 (Z3u N p1).bind fun rz6=>
 (Z41 N Z40 rz6) N rz6.2 [] 0
def Z3t (N:Nat) (kZ3s:leadlineref10_In→(List api_Instr)→Option (api_Code×leadlineref10_In)) (rz9:(Int×leadlineref10_In)):Nat→leadlineref10_In→(List api_Instr)→Int→Option (api_Code×leadlineref10_In)
 | 0,_,_,_=>none
 | n+1,vB2,vB3,vB9=>
  if ((decide (vB9 < rz9.1)) && (!vB2.Bad))=true then
   (Z3v N vB2).bind fun r12=>
   (Z3v N r12.2).bind fun r15=>
   (Z3v N r15.2).bind fun r17=>
   (Z3v N r17.2).bind fun r19=>
   (Z3z N r19.2).bind fun r21=>
   (Z3z N r21.2).bind fun r28=>
   (appG 80 vB3 ([(api_Instr.mk r12.1 r15.1 r17.1 r21.1 r28.1 r19.1)]:List api_Instr)).bind fun l46=>
   (Z3t N kZ3s rz9 n) r28.2 l46 (IntKind.i64.wrap (vB9+1))
  else
   kZ3s vB2 vB3
def Z3s (rz4:(Int×leadlineref10_In)) (rz7:(Int×leadlineref10_In)) (vA2:leadlineref10_In) (vA3:(List api_Instr)):Option (api_Code×leadlineref10_In):=
 some ((api_Code.mk rz4.1 rz7.1 vA3),vA2)
def Z3r (N:Nat) (p1:leadlineref10_In):Option (api_Code×leadlineref10_In):=
 (Z3v N p1).bind fun rz4=>
 (Z3v N rz4.2).bind fun rz7=>
 (Z3u N rz7.2).bind fun rz9=>
 (Z3t N (Z3s rz4 rz7) rz9) N rz9.2 [] 0
def Z3h (N:Nat) (kZ3f:leadlineref10_In→(List api_Code)→Option (api_Unit×Int)) (r23:(Int×leadlineref10_In)):Nat→leadlineref10_In→(List api_Code)→Int→Option (api_Unit×Int)
 | 0,_,_,_=>none
 | n+1,vB2,vB3,vB9=>
  if ((decide (vB9 < r23.1)) && (!vB2.Bad))=true then
   (Z3r N vB2).bind fun r26=>
   (appG 40 vB3 ([r26.1]:List api_Code)).bind fun l41=>
   (Z3h N kZ3f r23 n) r26.2 l41 (IntKind.i64.wrap (vB9+1))
  else
   kZ3f vB2 vB3
def Z3i (N:Nat) (kZ3g:leadlineref10_In→(List (List api_Op))→Option (api_Unit×Int)) (r59:(Int×leadlineref10_In)):Nat→leadlineref10_In→(List (List api_Op))→Int→Option (api_Unit×Int)
 | 0,_,_,_=>none
 | n+1,vB11,vB12,vB18=>
  if ((decide (vB18 < r59.1)) && (!vB11.Bad))=true then
   (Z3z N vB11).bind fun r62=>
   (appG 24 vB12 ([r62.1]:List (List api_Op))).bind fun l76=>
   (Z3i N kZ3g r59 n) r62.2 l76 (IntKind.i64.wrap (vB18+1))
  else
   kZ3g vB11 vB12
def Z3g (N:Nat) (p1:Str) (rz4:((List Int)×leadlineref10_In)) (r12:(Int×leadlineref10_In)) (r14:((List Int)×leadlineref10_In)) (r21:(Int×leadlineref10_In)) (vA3:(List api_Code)) (r47:(api_Code×leadlineref10_In)) (vA10:leadlineref10_In) (vA11:(List (List api_Op))):Option (api_Unit×Int):=
 (Z3j N (api_Unit.mk rz4.1 r12.1 r14.1 r21.1 vA3 r47.1 vA11)).bind fun r98=>
 if ((vA10.Bad || (decide (r98.2≠0))) || (decide (r98.1≠p1)))=true then
  some ((api_Unit.mk [] 0 [] 0 [] (api_Code.mk 0 0 []) []),8)
 else
  some ((api_Unit.mk rz4.1 r12.1 r14.1 r21.1 vA3 r47.1 vA11),0)
def Z3f (N:Nat) (p1:Str) (rz4:((List Int)×leadlineref10_In)) (r12:(Int×leadlineref10_In)) (r14:((List Int)×leadlineref10_In)) (r21:(Int×leadlineref10_In)) (vA2:leadlineref10_In) (vA3:(List api_Code)):Option (api_Unit×Int):=
 (Z3r N vA2).bind fun r47=>
 (Z3u N r47.2).bind fun r59=>
 (Z3i N (Z3g N p1 rz4 r12 r14 r21 vA3 r47) r59) N r59.2 [] 0
def Z3e (N:Nat) (p1:Str):Option (api_Unit×Int):=
 (Z3w N (leadlineref10_In.mk p1 0 false)).bind fun rz4=>
 (Z3v N rz4.2).bind fun r12=>
 (Z3w N r12.2).bind fun r14=>
 (Z3v N r14.2).bind fun r21=>
 (Z3u N r21.2).bind fun r23=>
 (Z3h N (Z3f N p1 rz4 r12 r14 r21) r23) N r23.2 [] 0
def Z1u (N:Nat) (kZ1t:Option Bool) (p1:(List Int)) (p6:(List Int)):Nat→Int→Option Bool
 | 0,_=>none
 | n+1,vB1=>
  if vB1 < (p1.length:Int) then
   (getI p1 vB1).bind fun x13=>
   (getI p6 vB1).bind fun x18=>
   if x13≠x18 then
    some false
   else
    (Z1u N kZ1t p1 p6 n) (IntKind.i64.wrap (vB1+1))
  else
   kZ1t
def Z1t  : Option Bool:=
 some true
def Z1s (N:Nat) (p1:(List Int)) (p6:(List Int)):Option Bool:=
 if (p1.length:Int)≠(p6.length:Int) then
  some false
 else
  (Z1u N Z1t p1 p6) N 0
def Z20 (N:Nat) (kZ1z:Option Bool) (p1:(List api_Op)) (p6:(List api_Op)):Nat→Int→Option Bool
 | 0,_=>none
 | n+1,vB1=>
  if vB1 < (p1.length:Int) then
   (getI p1 vB1).bind fun x13=>
   (getI p6 vB1).bind fun x18=>
   if x13≠x18 then
    some false
   else
    (Z20 N kZ1z p1 p6 n) (IntKind.i64.wrap (vB1+1))
  else
   kZ1z
def Z1z  : Option Bool:=
 some true
def Z1y (N:Nat) (p1:(List api_Op)) (p6:(List api_Op)):Option Bool:=
 if (p1.length:Int)≠(p6.length:Int) then
  some false
 else
  (Z20 N Z1z p1 p6) N 0
def Z38 (kZ39:Int→Option Bool) (vB1:Int) (vC31:Bool):Option Bool:=
 if vC31=true then
  some false
 else
  kZ39 (IntKind.i64.wrap (vB1+1))
def Z37 (N:Nat) (kZ39:Int→Option Bool) (vB1:Int) (vC2:Int) (vC3:Int) (vC4:Int) (vC5:(List api_Op)) (vC10:(List api_Op)) (vC15:Int) (vC17:Int) (vC18:Int) (vC19:Int) (vC20:(List api_Op)) (vC25:(List api_Op)) (vC30:Int):Option Bool:=
 if ((((decide (vC2≠vC17)) || (decide (vC3≠vC18))) || (decide (vC4≠vC19))) || (decide (vC15≠vC30)))=true then
  (Z38 kZ39 vB1) true
 else
  (Z1y N vC5 vC20).bind fun r48=>
  if r48=true then
   (Z1y N vC10 vC25).bind fun r51=>
   (Z38 kZ39 vB1) (!r51)
  else
   (Z38 kZ39 vB1) true
def Z39 (N:Nat) (kZ36:Option Bool) (p1:api_Code) (p4:api_Code):Nat→Int→Option Bool
 | 0,_=>none
 | n+1,vB1=>
  if vB1 < (p1.L.length:Int) then
   (getI p1.L vB1).bind fun x19=>
   (getI p4.L vB1).bind fun x32=>
   (Z37 N (Z39 N kZ36 p1 p4 n) vB1) x19.Kind x19.A x19.B x19.E x19.F x19.To x32.Kind x32.A x32.B x32.E x32.F x32.To
  else
   kZ36
def Z36  : Option Bool:=
 some true
def Z35 (N:Nat) (p1:api_Code) (p4:api_Code):Option Bool:=
 if (((decide (p1.Regs≠p4.Regs)) || (decide (p1.Counts≠p4.Counts))) || (decide ((p1.L.length:Int)≠(p4.L.length:Int))))=true then
  some false
 else
  (Z39 N Z36 p1 p4) N 0
def Z2t (N:Nat) (kZ2r:Option Bool) (p1:api_Unit) (p4:api_Unit):Nat→Int→Option Bool
 | 0,_=>none
 | n+1,vB1=>
  if vB1 < (p1.Threads.length:Int) then
   (getI p1.Threads vB1).bind fun x106=>
   (getI p4.Threads vB1).bind fun x115=>
   (Z35 N x106 x115).bind fun r124=>
   if r124=true then
    (Z2t N kZ2r p1 p4 n) (IntKind.i64.wrap (vB1+1))
   else
    some false
  else
   kZ2r
def Z2u (N:Nat) (kZ2s:Option Bool) (p1:api_Unit) (p4:api_Unit):Nat→Int→Option Bool
 | 0,_=>none
 | n+1,vB2=>
  if vB2 < (p1.Claims.length:Int) then
   (getI p1.Claims vB2).bind fun x128=>
   (getI p4.Claims vB2).bind fun x137=>
   (Z1y N x128 x137).bind fun r146=>
   if r146=true then
    (Z2u N kZ2s p1 p4 n) (IntKind.i64.wrap (vB2+1))
   else
    some false
  else
   kZ2s
def Z2s (N:Nat) (p1:api_Unit) (p4:api_Unit):Option Bool:=
 (Z35 N p1.Recover p4.Recover).bind fun r149=>
 some r149
def Z2r (N:Nat) (p1:api_Unit) (p4:api_Unit):Option Bool:=
 (Z2u N (Z2s N p1 p4) p1 p4) N 0
def Z2q (N:Nat) (p1:api_Unit) (p4:api_Unit) (vA1:Bool):Option Bool:=
 if vA1=true then
  some false
 else
  (Z2t N (Z2r N p1 p4) p1 p4) N 0
def Z2p (N:Nat) (p1:api_Unit) (p4:api_Unit):Option Bool:=
 (Z1s N p1.Lines p4.Lines).bind fun r99=>
 if ((!r99) || (decide (p1.Stays≠p4.Stays)))=true then
  (Z2q N p1 p4) true
 else
  (Z1s N p1.Firsts p4.Firsts).bind fun r102=>
  (Z2q N p1 p4) ((((!r102) || (decide (p1.Locks≠p4.Locks))) || (decide ((p1.Threads.length:Int)≠(p4.Threads.length:Int)))) || (decide ((p1.Claims.length:Int)≠(p4.Claims.length:Int))))
def Zg (N:Nat) (p1:Int):Option Str:=
 if ((decide (p1 < 1)) || (decide (16≤p1)))=true then
  some []
 else
  (Z1g [115,101,116,32,108,111,97,100,32,115,116,111,114,101,32,99,97,115,32,102,108,117,115,104,32,111,112,116,32,115,102,101,110,99,101,32,109,102,101,110,99,101,32,116,97,107,101,32,103,105,118,101,32,106,117,109,112,32,101,108,115,101,32,99,111,117,110,116,32,97,103,97,105,110,32,99,104,101,99,107]).bind fun rz3=>
  (getI rz3 (IntKind.i64.wrap (p1 - 1))).bind fun x10=>
  some x10
def Z5r (N:Nat) (p1:Int):Option Str:=
 (itoaM p1).bind fun rz2=>
 some rz2
def Z11 (kZ12:(List Str)→Int→Option Str) (vB7:Int) (vC1:(List Str)):Option Str:=
 kZ12 vC1 (IntKind.i64.wrap (vB7+1))
def Z12 (N:Nat) (kZ10:(List Str)→Option Str) (p1:(List api_Op)):Nat→(List Str)→Int→Option Str
 | 0,_,_=>none
 | n+1,vB1,vB7=>
  if vB7 < (p1.length:Int) then
   (getI p1 vB7).bind fun xz8=>
   if xz8.Kind=1 then
    (Z5r N xz8.N).bind fun r15=>
    (catG [35] r15).bind fun s17=>
    (appG 16 vB1 ([s17]:List Str)).bind fun l22=>
    (Z11 (Z12 N kZ10 p1 n) vB7) l22
   else
    if xz8.Kind=2 then
     (Z5r N xz8.N).bind fun r29=>
     (catG [114] r29).bind fun s31=>
     (appG 16 vB1 ([s31]:List Str)).bind fun l36=>
     (Z11 (Z12 N kZ10 p1 n) vB7) l36
    else
     (Z5r N xz8.Kind).bind fun r42=>
     (catG [58] r42).bind fun s44=>
     (appG 16 vB1 ([s44]:List Str)).bind fun l49=>
     (Z11 (Z12 N kZ10 p1 n) vB7) l49
  else
   kZ10 vB1
def Z10 (vA1:(List Str)):Option Str:=
 (joinM vA1 [32]).bind fun r55=>
 (catG [32,91] r55).bind fun s57=>
 (catG s57 [93]).bind fun s59=>
 some s59
def Zz (N:Nat) (p1:(List api_Op)):Option Str:=
 if (p1.length:Int)=0 then
  some []
 else
  (Z12 N Z10 p1) N [] 0
def Zf (N:Nat) (kZe:Str→Option Str) (p1:api_Code):Nat→Str→Int→Option Str
 | 0,_,_=>none
 | n+1,vB1,vB6=>
  if vB6 < (p1.L.length:Int) then
   (getI p1.L vB6).bind fun x11=>
   (Z5r N vB6).bind fun r25=>
   (catG r25 [32]).bind fun s27=>
   (Zg N x11.Kind).bind fun r29=>
   (catG s27 r29).bind fun s31=>
   (catG s31 [32]).bind fun s33=>
   (Z5r N x11.A).bind fun r35=>
   (catG s33 r35).bind fun s37=>
   (catG s37 [32]).bind fun s39=>
   (Z5r N x11.B).bind fun r41=>
   (catG s39 r41).bind fun s43=>
   (catG s43 [32]).bind fun s45=>
   (Z5r N x11.To).bind fun r47=>
   (catG s45 r47).bind fun s49=>
   (Zz N x11.E).bind fun r51=>
   (catG s49 r51).bind fun s53=>
   (Zz N x11.F).bind fun r55=>
   (catG s53 r55).bind fun s57=>
   (catG s57 [10]).bind fun s59=>
   (catB vB1 s59).bind fun s61=>
   (Zf N kZe p1 n) s61 (IntKind.i64.wrap (vB6+1))
  else
   kZe vB1
def Ze (vA1:Str):Option Str:=
 some vA1
def Zd (N:Nat) (p1:api_Code):Option Str:=
 (Zf N Ze p1) N [] 0
def Z1r (N:Nat)  : Option Bool:=
 (Z2 N (api_Unit.mk [] 0 [] 0 ([(api_Code.mk 1 0 ([(api_Instr.mk 1 0 0 ([(api_Op.mk 1 1),(api_Op.mk 1 2),(api_Op.mk 5 0)]:List api_Op) [] 0)]:List api_Instr))]:List api_Code) (api_Code.mk 0 0 []) [])).bind fun r23=>
 (Z0 N r23.1).bind fun r25=>
 (catG r23.1 [120]).bind fun s79=>
 (Z0 N s79).bind fun r81=>
 (Z2 N (api_Unit.mk [] 0 [] 0 [] (api_Code.mk 0 0 []) [])).bind fun r135=>
 (Z7 N [172,2] 0).bind fun r137=>
 (Z7 N [128,0] 0).bind fun r139=>
 (Z7 N [128] 0).bind fun r141=>
 (Z7 N [] 1).bind fun r143=>
 (Z7 N [128,128,128,128,128,128,1] 0).bind fun r145=>
 (Z3j N (api_Unit.mk [] 0 [] 0 ([(api_Code.mk 1 0 ([(api_Instr.mk 1 0 0 ([(api_Op.mk 1 1),(api_Op.mk 1 2),(api_Op.mk 5 0)]:List api_Op) [] 0)]:List api_Instr))]:List api_Code) (api_Code.mk 0 0 []) [])).bind fun r147=>
 (sure ((((decide (r23.2=0)) && (decide (r23.1=r147.1))) && (decide (r147.2=0))) && (decide (r25.2=0)))).bind fun _=>
 (Z2p N (api_Unit.mk [] 0 [] 0 ([(api_Code.mk 1 0 ([(api_Instr.mk 1 0 0 ([(api_Op.mk 1 1),(api_Op.mk 1 2),(api_Op.mk 5 0)]:List api_Op) [] 0)]:List api_Instr))]:List api_Code) (api_Code.mk 0 0 []) []) r25.1).bind fun r150=>
 (sure (((((((((r150 && (decide (r81.2=8))) && (decide (r135.2=8))) && (decide (r137.1=300))) && (decide (r137.2.1=2))) && (decide (r137.2.2=0))) && (decide (r139.2.2=8))) && (decide (r141.2.2=6))) && (decide (r143.2.2=1))) && (decide (r145.2.2=2)))).bind fun _=>
 (Za N 300).bind fun r153=>
 (sure (decide (r153=[172,2]))).bind fun _=>
 (Za N (-1)).bind fun r156=>
 (sure (decide (r156=[]))).bind fun _=>
 (Zg N 15).bind fun r159=>
 (sure (decide (r159=[99,104,101,99,107]))).bind fun _=>
 (getI ([(api_Code.mk 1 0 ([(api_Instr.mk 1 0 0 ([(api_Op.mk 1 1),(api_Op.mk 1 2),(api_Op.mk 5 0)]:List api_Op) [] 0)]:List api_Instr))]:List api_Code) 0).bind fun x162=>
 (Zd N x162).bind fun r171=>
 some (decide (r171=[48,32,115,101,116,32,48,32,48,32,48,32,91,35,49,32,35,50,32,58,53,93,10]))
def Z1q (N:Nat) (p1:api_Unit) (p4:Str):Option Bool:=
 (Z1h N p1).bind fun r51=>
 (subI p4 0 (min (p4.length:Int) 2000)).bind fun s104=>
 (Z2 N r51).bind fun r106=>
 (Z3j N r51).bind fun r108=>
 (Z0 N s104).bind fun r110=>
 (Z3e N s104).bind fun r164=>
 if ((decide (r106.1=r108.1)) && (decide (r106.2=r108.2)))=true then
  (Z2p N r110.1 r164.1).bind fun r219=>
  if (r219 && (decide (r110.2=r164.2)))=true then
   (Z1r N).bind fun r222=>
   some r222
  else
   some false
 else
  some false
end Go.MD.BINZ
