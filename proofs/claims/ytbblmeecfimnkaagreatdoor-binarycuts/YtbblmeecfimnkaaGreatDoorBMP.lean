/- Plain functions, lifted by program from the seat binz. No condition: definitions. -/
import Derived.Test.YtbblmeecfimnkaaGreatDoorMD
import Derived.Lib.IndexMore
import Derived.Test.YtbblmeecfimnkaaGreatDoorMDp
namespace Go.MD.BINZ
open Go Go.MD
def Z1g (s:Str):Option (List Str):=
 if s=[115,101,116,32,108,111,97,100,32,115,116,111,114,101,32,99,97,115,32,102,108,117,115,104,32,111,112,116,32,115,102,101,110,99,101,32,109,102,101,110,99,101,32,116,97,107,101,32,103,105,118,101,32,106,117,109,112,32,101,108,115,101,32,99,111,117,110,116,32,97,103,97,105,110,32,99,104,101,99,107] then some [[115,101,116],[108,111,97,100],[115,116,111,114,101],[99,97,115],[102,108,117,115,104],[111,112,116],[115,102,101,110,99,101],[109,102,101,110,99,101],[116,97,107,101],[103,105,118,101],[106,117,109,112],[101,108,115,101],[99,111,117,110,116],[97,103,97,105,110],[99,104,101,99,107]] else
 none
structure api_Op where
 Kind:Int
 N:Int
 deriving DecidableEq
structure api_Instr where
 Kind:Int
 A:Int
 B:Int
 E:(List api_Op)
 F:(List api_Op)
 To:Int
 deriving DecidableEq
structure api_Code where
 Regs:Int
 Counts:Int
 L:(List api_Instr)
 deriving DecidableEq
structure api_Unit where
 Lines:(List Int)
 Stays:Int
 Firsts:(List Int)
 Locks:Int
 Threads:(List api_Code)
 Recover:api_Code
 Claims:(List (List api_Op))
 deriving DecidableEq
def Z1:Option (api_Unit×Int):=some ((api_Unit.mk [] 0 [] 0 [] (api_Code.mk 0 0 []) []),8)
structure binary_reader where
 s:Str
 at':Int
 deriving DecidableEq
structure leadlineref10_In where
 S:Str
 At:Int
 Bad:Bool
 deriving DecidableEq
structure api_Cell where
 Name:Str
 N:Int
 At:Int
 deriving DecidableEq
structure api_Node where
 Op:Int
 N:Int
 Name:Str
 At:Int
 deriving DecidableEq
structure api_Stmt where
 Kind:Int
 Reg:Str
 Name:Str
 E:(List api_Node)
 F:(List api_Node)
 N:Int
 Body:Int
 Else:Int
 At:Int
 deriving DecidableEq
structure api_Thread where
 Name:Str
 Regs:(List Str)
 Body:(List api_Stmt)
 At:Int
 deriving DecidableEq
structure api_Claim where
 E:(List api_Node)
 At:Int
 deriving DecidableEq
structure api_Prog where
 Lines:(List (List api_Cell))
 Vols:(List api_Cell)
 Locks:(List api_Cell)
 Threads:(List api_Thread)
 Recover:(List api_Thread)
 Claims:(List api_Claim)
 deriving DecidableEq
structure leadlineref09_Env where
 P:api_Prog
 Regs:(List Str)
 deriving DecidableEq
def Z91 (N:Nat) (p1:Int):Option Bool:=
 some ((decide (p1 < 0)) || (decide (4294967296 < p1)))
def Za1 (N:Nat) (kZa0:Option Int) (p1:(List Int)):Nat→Int→Option Int
 | 0,_=>none
 | n+1,vB1=>
  if vB1 < (p1.length:Int) then
   (getI p1 vB1).bind fun xz7=>
   (Z91 N xz7).bind fun r12=>
   if r12=true then
    some vB1
   else
    (Za1 N kZa0 p1 n) (IntKind.i64.wrap (vB1+1))
  else
   kZa0
def Za0  : Option Int:=
 some (-1)
def Z9z (N:Nat) (p1:(List Int)):Option Int:=
 (Za1 N Za0 p1) N 0
def Z9l (N:Nat) (p1:(List Int)):Option Bool:=
 (Z9z N p1).bind fun rz6=>
 some (decide (0≤rz6))
def Z8z (N:Nat) (p1:api_Unit):Option Int:=
 if ((decide (p1.Stays < 1)) || (decide ((p1.Lines.length:Int) < p1.Stays)))=true then
  some 0
 else
  (getI p1.Lines (IntKind.i64.wrap (p1.Stays - 1))).bind fun x51=>
  some (IntKind.i64.wrap (x51+1))
def Z99 (N:Nat)  : Option (Arr 16 Str):=
 some (⟨[[],[114,101],[114,99],[99,101],[114,99,101,102],[108],[108],[],[],[109],[109],[116],[101,116],[107,110],[107,116],[101]],rfl⟩:(Arr 16 Str))
def Za4 (N:Nat) (kZa3:Option Int) (p1:(List (IntK .u8))) (p6:Int):Nat→Int→Option Int
 | 0,_=>none
 | n+1,vB1=>
  if vB1 < (p1.length:Int) then
   (getI p1 vB1).bind fun xz8=>
   if p6=xz8.v then
    some vB1
   else
    (Za4 N kZa3 p1 p6 n) (IntKind.i64.wrap (vB1+1))
  else
   kZa3
def Za3  : Option Int:=
 some (-1)
def Za2 (N:Nat) (p1:(List (IntK .u8))) (p6:Int):Option Int:=
 (Za4 N Za3 p1 p6) N 0
def Z9m (N:Nat) (p1:(List (IntK .u8))) (p6:Int):Option Bool:=
 (Za2 N p1 p6).bind fun rz7=>
 some (decide (0≤rz7))
def Z8r (N:Nat) (p1:Int) (y3:api_Instr):Option Bool:=
 (Z99 N).bind fun r15=>
 (getI r15.l y3.Kind).bind fun x24=>
 (Z9m N (Ga x24) p1).bind fun r36=>
 some r36
def Z9g (N:Nat) (p1:Bool) (p2:Int) (p3:Int):Option Bool:=
 if p1=true then
  some ((decide (0≤p2)) && (decide (p2 < p3)))
 else
  some (decide (p2=0))
def Z1f (N:Nat) (p1:Int):Option Int:=
 if ((decide (p1=3)) || (decide (p1=4)))=true then
  some 1
 else
  if ((decide (5≤p1)) && (decide (p1≤15)))=true then
   some 2
  else
   some 0
def Z1e (N:Nat) (kZ1d:Int→Int→Option (Int×Int×Bool)) (p1:(List api_Op)):Nat→Int→Int→Int→Option (Int×Int×Bool)
 | 0,_,_,_=>none
 | n+1,vB1,vB2,vB3=>
  if vB3 < (p1.length:Int) then
   (getI p1 vB3).bind fun xz7=>
   (Z1f N xz7.Kind).bind fun r13=>
   if (IntKind.i64.wrap (vB1 - r13)) < 0 then
    some (0,0,false)
   else
    (Z1e N kZ1d p1 n) (IntKind.i64.wrap ((IntKind.i64.wrap (vB1 - r13))+1)) (max vB2 (IntKind.i64.wrap ((IntKind.i64.wrap (vB1 - r13))+1))) (IntKind.i64.wrap (vB3+1))
  else
   kZ1d vB1 vB2
def Z1d (vA1:Int) (vA2:Int):Option (Int×Int×Bool):=
 some (vA1,vA2,true)
def Z1c (N:Nat) (p1:(List api_Op)):Option (Int×Int×Bool):=
 (Z1e N Z1d p1) N 0 0 0
def Z1b (N:Nat) (p1:api_Op) (y3:Int):Option Bool:=
 if p1.Kind=1 then
  some ((decide (p1.N < 0)) || (decide (4294967296 < p1.N)))
 else
  if p1.Kind=2 then
   some ((decide (p1.N < 0)) || (decide (y3≤p1.N)))
  else
   some (((decide (p1.N≠0)) || (decide (p1.Kind < 1))) || (decide (16≤p1.Kind)))
def Z9y (N:Nat) (kZ9x:Option Int) (p1:(List api_Op)) (y7:Int):Nat→Int→Option Int
 | 0,_=>none
 | n+1,vB1=>
  if vB1 < (p1.length:Int) then
   (getI p1 vB1).bind fun x10=>
   (Z1b N x10 y7).bind fun r15=>
   if r15=true then
    some vB1
   else
    (Z9y N kZ9x p1 y7 n) (IntKind.i64.wrap (vB1+1))
  else
   kZ9x
def Z9x  : Option Int:=
 some (-1)
def Z9w (N:Nat) (p1:(List api_Op)) (y7:Int):Option Int:=
 (Z9y N Z9x p1 y7) N 0
def Z9k (N:Nat) (p1:(List api_Op)) (y7:Int):Option Bool:=
 (Z9w N p1 y7).bind fun rz9=>
 some (decide (0≤rz9))
def Z1a (N:Nat) (p1:(List api_Op)) (p6:Int):Option Bool:=
 (Z1c N p1).bind fun rz8=>
 if (((decide ((p1.length:Int)≤40)) && rz8.2.2) && (decide (rz8.1=1)))=true then
  (Z9k N p1 p6).bind fun r11=>
  some (!r11)
 else
  some false
def Z97 (N:Nat) (p1:api_Instr) (y5:api_Instr):Option Bool:=
 some ((decide (p1.Kind=13)) && (decide (p1.A=y5.A)))
def Z9v (N:Nat) (kZ9u:Option Int) (p1:(List api_Instr)) (y7:api_Instr):Nat→Int→Option Int
 | 0,_=>none
 | n+1,vB1=>
  if vB1 < (p1.length:Int) then
   (getI p1 vB1).bind fun x20=>
   (Z97 N x20 y7).bind fun r33=>
   if r33=true then
    some vB1
   else
    (Z9v N kZ9u p1 y7 n) (IntKind.i64.wrap (vB1+1))
  else
   kZ9u
def Z9u  : Option Int:=
 some (-1)
def Z9t (N:Nat) (p1:(List api_Instr)) (y7:api_Instr):Option Int:=
 (Z9v N Z9u p1 y7) N 0
def Z9j (N:Nat) (p1:(List api_Instr)) (y7:api_Instr):Option Bool:=
 (Z9t N p1 y7).bind fun r19=>
 some (decide (0≤r19))
def Z98 (N:Nat) (p1:(List api_Instr)) (p6:Int) (xz7:api_Instr) (vA1:Bool):Option Bool:=
 if vA1=true then
  some false
 else
  (Dc p1 xz7.To p6).bind fun l36=>
  (Z9j N l36 xz7).bind fun r44=>
  some (!r44)
def Z96 (N:Nat) (p1:(List api_Instr)) (p6:Int):Option Bool:=
 (getI p1 p6).bind fun xz7=>
 if ((decide (xz7.To < 1)) || (decide (p6 < xz7.To)))=true then
  (Z98 N p1 p6 xz7) true
 else
  (getI p1 (IntKind.i64.wrap (xz7.To - 1))).bind fun x22=>
  (Z98 N p1 p6 xz7) ((decide (x22.Kind≠13)) || (decide (x22.A≠xz7.A)))
def Z9f (N:Nat) (kZ9d:Option Bool) (p1:(List api_Instr)) (xz7:api_Instr) (vB1:(List Int)):Nat→Int→Option Bool
 | 0,_=>none
 | n+1,vE1=>
  if vE1 < (vB1.length:Int) then
   (getI vB1 vE1).bind fun x23=>
   (getI p1 x23).bind fun x29=>
   if ((decide ((IntKind.i64.wrap (x29.To - 1)) < (IntKind.i64.wrap (xz7.To - 1)))) && (decide ((IntKind.i64.wrap (xz7.To - 1))≤x23)))=true then
    some false
   else
    (Z9f N kZ9d p1 xz7 vB1 n) (IntKind.i64.wrap (vE1+1))
  else
   kZ9d
def Z9d (kZ9c:(List Int)→Option Bool) (vB1:(List Int)) (vB7:Int):Option Bool:=
 (B9 8 vB1 ([vB7]:List Int)).bind fun l46=>
 kZ9c l46
def Z9c (kZ9e:(List Int)→Int→Option Bool) (vB7:Int) (vC1:(List Int)):Option Bool:=
 kZ9e vC1 (IntKind.i64.wrap (vB7+1))
def Z9e (N:Nat) (kZ9b:Option Bool) (p1:(List api_Instr)):Nat→(List Int)→Int→Option Bool
 | 0,_,_=>none
 | n+1,vB1,vB7=>
  if vB7 < (p1.length:Int) then
   (getI p1 vB7).bind fun xz7=>
   if xz7.Kind≠14 then
    (Z9c (Z9e N kZ9b p1 n) vB7) vB1
   else
    (Z9f N (Z9d (Z9c (Z9e N kZ9b p1 n) vB7) vB1 vB7) p1 xz7 vB1) N 0
  else
   kZ9b
def Z9b  : Option Bool:=
 some true
def Z9a (N:Nat) (p1:(List api_Instr)):Option Bool:=
 (Z9e N Z9b p1) N [] 0
def Z8x (kZ8y:Int→Option Bool) (vC1:Bool) (vC2:Bool) (vC3:Bool) (vC4:Bool) (vB1:Int) (vC5:Bool):Option Bool:=
 if (((((!vC1) || (!vC2)) || (!vC3)) || (!vC4)) || (!vC5))=true then
  some false
 else
  kZ8y (IntKind.i64.wrap (vB1+1))
def Z8w (N:Nat) (kZ8y:Int→Option Bool) (p1:api_Code) (x14:api_Instr) (vC1:Bool) (vC2:Bool) (vC3:Bool) (vB1:Int) (vC4:Bool):Option Bool:=
 (Z8r N 116 x14).bind fun r76=>
 if (r76 && (decide (x14.Kind=14)))=true then
  (Z96 N p1.L vB1).bind fun r79=>
  (Z8x kZ8y vC1 vC2 vC3 vC4 vB1) r79
 else
  (Z8r N 116 x14).bind fun r81=>
  if r81=true then
   (Z8x kZ8y vC1 vC2 vC3 vC4 vB1) ((decide (vB1 < x14.To)) && (decide (x14.To≤(p1.L.length:Int))))
  else
   (Z8x kZ8y vC1 vC2 vC3 vC4 vB1) (decide (x14.To=0))
def Z8v (N:Nat) (kZ8y:Int→Option Bool) (p1:api_Code) (x14:api_Instr) (vC1:Bool) (vC2:Bool) (vB1:Int) (vC3:Bool):Option Bool:=
 (Z8r N 102 x14).bind fun r66=>
 if r66=true then
  (Z1a N x14.F p1.Regs).bind fun r69=>
  if r69=true then
   (Z8w N kZ8y p1 x14 vC1 vC2 vC3 vB1) true
  else
   (Z8r N 102 x14).bind fun r72=>
   (Z8w N kZ8y p1 x14 vC1 vC2 vC3 vB1) ((!r72) && (decide ((x14.F.length:Int)=0)))
 else
  (Z8r N 102 x14).bind fun r74=>
  (Z8w N kZ8y p1 x14 vC1 vC2 vC3 vB1) ((!r74) && (decide ((x14.F.length:Int)=0)))
def Z8u (N:Nat) (kZ8y:Int→Option Bool) (p1:api_Code) (x14:api_Instr) (vC1:Bool) (vB1:Int) (vC2:Bool):Option Bool:=
 (Z8r N 101 x14).bind fun r56=>
 if r56=true then
  (Z1a N x14.E p1.Regs).bind fun r59=>
  if r59=true then
   (Z8v N kZ8y p1 x14 vC1 vC2 vB1) true
  else
   (Z8r N 101 x14).bind fun r62=>
   (Z8v N kZ8y p1 x14 vC1 vC2 vB1) ((!r62) && (decide ((x14.E.length:Int)=0)))
 else
  (Z8r N 101 x14).bind fun r64=>
  (Z8v N kZ8y p1 x14 vC1 vC2 vB1) ((!r64) && (decide ((x14.E.length:Int)=0)))
def Z8t (N:Nat) (kZ8y:Int→Option Bool) (p1:api_Code) (p4:Int) (p5:Int) (p6:Int) (x14:api_Instr) (vB1:Int) (vC1:Bool):Option Bool:=
 (Z8r N 99 x14).bind fun r38=>
 if r38=true then
  (Z9g N true x14.B p4).bind fun r41=>
  (Z8u N kZ8y p1 x14 vC1 vB1) r41
 else
  (Z8r N 108 x14).bind fun r43=>
  if r43=true then
   (Z9g N true x14.B p5).bind fun r46=>
   (Z8u N kZ8y p1 x14 vC1 vB1) r46
  else
   (Z8r N 109 x14).bind fun r48=>
   if r48=true then
    (Z9g N true x14.B p6).bind fun r51=>
    (Z8u N kZ8y p1 x14 vC1 vB1) r51
   else
    (Z8r N 110 x14).bind fun r53=>
    if r53=true then
     (Z8u N kZ8y p1 x14 vC1 vB1) ((decide (1≤x14.B)) && (decide (x14.B≤8)))
    else
     (Z8u N kZ8y p1 x14 vC1 vB1) (decide (x14.B=0))
def Z8y (N:Nat) (kZ8s:Option Bool) (p1:api_Code) (p4:Int) (p5:Int) (p6:Int):Nat→Int→Option Bool
 | 0,_=>none
 | n+1,vB1=>
  if vB1 < (p1.L.length:Int) then
   (getI p1.L vB1).bind fun x14=>
   if ((decide (x14.Kind < 1)) || (decide (16≤x14.Kind)))=true then
    some false
   else
    (Z8r N 114 x14).bind fun r29=>
    (Z9g N r29 x14.A p1.Regs).bind fun r31=>
    (Z8r N 107 x14).bind fun r33=>
    if r33=true then
     (Z9g N true x14.A p1.Counts).bind fun r36=>
     (Z8t N (Z8y N kZ8s p1 p4 p5 p6 n) p1 p4 p5 p6 x14 vB1) r36
    else
     (Z8t N (Z8y N kZ8s p1 p4 p5 p6 n) p1 p4 p5 p6 x14 vB1) r31
  else
   kZ8s
def Z8s (N:Nat) (p1:api_Code):Option Bool:=
 (Z9a N p1.L).bind fun r85=>
 some r85
def Z8q (N:Nat) (p1:api_Code) (p4:Int) (p5:Int) (p6:Int):Option Bool:=
 if ((((decide (p1.Regs < 0)) || (decide (4 < p1.Regs))) || (decide (p1.Counts < 0))) || (decide (12 < p1.Counts)))=true then
  some false
 else
  (Z8y N (Z8s N p1) p1 p4 p5 p6) N 0
def Z92 (N:Nat) (p1:api_Code) (y5:api_Unit):Option Bool:=
 (Z8z N y5).bind fun r59=>
 (Z8q N p1 (y5.Lines.length:Int) r59 y5.Locks).bind fun r61=>
 some (!r61)
def Z9s (N:Nat) (kZ9r:Option Int) (p1:(List api_Code)) (y7:api_Unit):Nat→Int→Option Int
 | 0,_=>none
 | n+1,vB1=>
  if vB1 < (p1.length:Int) then
   (getI p1 vB1).bind fun x57=>
   (Z92 N x57 y7).bind fun r66=>
   if r66=true then
    some vB1
   else
    (Z9s N kZ9r p1 y7 n) (IntKind.i64.wrap (vB1+1))
  else
   kZ9r
def Z9r  : Option Int:=
 some (-1)
def Z9q (N:Nat) (p1:(List api_Code)) (y7:api_Unit):Option Int:=
 (Z9s N Z9r p1 y7) N 0
def Z9i (N:Nat) (p1:(List api_Code)) (y7:api_Unit):Option Bool:=
 (Z9q N p1 y7).bind fun r56=>
 some (decide (0≤r56))
def Z93 (N:Nat) (p1:(List api_Op)) (y7:api_Unit):Option Bool:=
 (Z1a N p1 y7.Stays).bind fun r56=>
 some (!r56)
def Z9p (N:Nat) (kZ9o:Option Int) (p1:(List (List api_Op))) (y7:api_Unit):Nat→Int→Option Int
 | 0,_=>none
 | n+1,vB1=>
  if vB1 < (p1.length:Int) then
   (getI p1 vB1).bind fun x57=>
   (Z93 N x57 y7).bind fun r66=>
   if r66=true then
    some vB1
   else
    (Z9p N kZ9o p1 y7 n) (IntKind.i64.wrap (vB1+1))
  else
   kZ9o
def Z9o  : Option Int:=
 some (-1)
def Z9n (N:Nat) (p1:(List (List api_Op))) (y7:api_Unit):Option Int:=
 (Z9p N Z9o p1 y7) N 0
def Z9h (N:Nat) (p1:(List (List api_Op))) (y7:api_Unit):Option Bool:=
 (Z9n N p1 y7).bind fun r56=>
 some (decide (0≤r56))
def Z95 (N:Nat) (kZ94:Option Bool) (p1:api_Unit):Nat→Int→Int→Option Bool
 | 0,_,_=>none
 | n+1,vB1,vB2=>
  if vB2 < (p1.Lines.length:Int) then
   (getI p1.Lines vB2).bind fun x52=>
   if ((!(((decide (0 < vB2)) && (decide (vB2 < p1.Stays))) && (decide (x52=vB1)))) && (decide (x52≠(IntKind.i64.wrap (vB1+1)))))=true then
    some false
   else
    (Z95 N kZ94 p1 n) x52 (IntKind.i64.wrap (vB2+1))
  else
   kZ94
def Z94 (N:Nat) (p1:api_Unit):Option Bool:=
 (Z9l N p1.Firsts).bind fun r58=>
 if r58=true then
  some false
 else
  (Z9i N p1.Threads p1).bind fun r61=>
  if r61=true then
   some false
  else
   (Z92 N p1.Recover p1).bind fun r64=>
   if r64=true then
    some false
   else
    (Z9h N p1.Claims p1).bind fun r67=>
    some (!r67)
def Z90 (N:Nat) (p1:api_Unit):Option Bool:=
 if ((((((((decide (20 < (p1.Lines.length:Int))) || (decide (p1.Stays < 0))) || (decide ((p1.Lines.length:Int) < p1.Stays))) || (decide ((p1.Firsts.length:Int)≠(p1.Lines.length:Int)))) || (decide (p1.Locks < 0))) || (decide (2 < p1.Locks))) || (decide ((p1.Threads.length:Int) < 1))) || (decide (3 < (p1.Threads.length:Int))))=true then
  some false
 else
  (Z95 N (Z94 N p1) p1) N (-1) 0
def Zc (N:Nat) (kZb:Int→Str→Option Str):Nat→Int→Str→Option Str
 | 0,_,_=>none
 | n+1,vB1,vB2=>
  if 128≤vB1 then
   (Pj vB2 (IntKind.u8.wrap (IntKind.i64.wrap ((vB1.tmod 128)+128)))).bind fun s5=>
   (Yl .i64 vB1 7).bind fun xz9=>
   (Zc N kZb n) xz9 s5
  else
   kZb vB1 vB2
def Zb (vA1:Int) (vA2:Str):Option Str:=
 (Pj vA2 (IntKind.u8.wrap vA1)).bind fun s11=>
 some s11
def Za (N:Nat) (p1:Int):Option Str:=
 if ((decide (p1 < 0)) || (decide (1099511627776 < p1)))=true then
  some []
 else
  (Zc N Zb) N p1 []
def Z15 (N:Nat) (p1:Str) (p7:Int):Option Str:=
 (Za N p7).bind fun rz8=>
 (Px p1 rz8).bind fun s10=>
 some s10
def Z17 (N:Nat) (p7:(List Int)):Nat→Str→Int→Option Str
 | 0,_,_=>none
 | n+1,vA1,vA6=>
  if vA6 < (p7.length:Int) then
   (getI p7 vA6).bind fun x19=>
   (Z15 N vA1 x19).bind fun r24=>
   (Z17 N p7 n) r24 (IntKind.i64.wrap (vA6+1))
  else
   some vA1
def Z16 (N:Nat) (p1:Str) (p7:(List Int)):Option Str:=
 (Z15 N p1 (p7.length:Int)).bind fun r12=>
 (Z17 N p7) N r12 0
def Z19 (N:Nat) (p7:(List api_Op)):Nat→Str→Int→Option Str
 | 0,_,_=>none
 | n+1,vA1,vA6=>
  if vA6 < (p7.length:Int) then
   (getI p7 vA6).bind fun x19=>
   (Z15 N vA1 x19.Kind).bind fun r25=>
   (Z15 N r25 x19.N).bind fun r31=>
   (Z19 N p7 n) r31 (IntKind.i64.wrap (vA6+1))
  else
   some vA1
def Z18 (N:Nat) (p1:Str) (p7:(List api_Op)):Option Str:=
 (Z15 N p1 (p7.length:Int)).bind fun r12=>
 (Z19 N p7) N r12 0
def Z14 (N:Nat) (p7:api_Code):Nat→Str→Int→Option Str
 | 0,_,_=>none
 | n+1,vA1,vA6=>
  if vA6 < (p7.L.length:Int) then
   (getI p7.L vA6).bind fun x34=>
   (Z15 N vA1 x34.Kind).bind fun r48=>
   (Z15 N r48 x34.A).bind fun r54=>
   (Z15 N r54 x34.B).bind fun r60=>
   (Z15 N r60 x34.To).bind fun r66=>
   (Z18 N r66 x34.E).bind fun r72=>
   (Z18 N r72 x34.F).bind fun r78=>
   (Z14 N p7 n) r78 (IntKind.i64.wrap (vA6+1))
  else
   some vA1
def Z13 (N:Nat) (p1:Str) (p7:api_Code):Option Str:=
 (Z15 N p1 p7.Regs).bind fun r15=>
 (Z15 N r15 p7.Counts).bind fun r21=>
 (Z15 N r21 (p7.L.length:Int)).bind fun r27=>
 (Z14 N p7) N r27 0
def Z5 (N:Nat) (kZ3:Str→Option (Str×Int)) (p1:api_Unit):Nat→Str→Int→Option (Str×Int)
 | 0,_,_=>none
 | n+1,vB1,vB6=>
  if vB6 < (p1.Threads.length:Int) then
   (getI p1.Threads vB6).bind fun x85=>
   (Z13 N vB1 x85).bind fun r95=>
   (Z5 N kZ3 p1 n) r95 (IntKind.i64.wrap (vB6+1))
  else
   kZ3 vB1
def Z6 (N:Nat) (kZ4:Str→Option (Str×Int)) (p1:api_Unit):Nat→Str→Int→Option (Str×Int)
 | 0,_,_=>none
 | n+1,vB7,vB12=>
  if vB12 < (p1.Claims.length:Int) then
   (getI p1.Claims vB12).bind fun x114=>
   (Z18 N vB7 x114).bind fun r123=>
   (Z6 N kZ4 p1 n) r123 (IntKind.i64.wrap (vB12+1))
  else
   kZ4 vB7
def Z4 (vA6:Str):Option (Str×Int):=
 (neG vA6).bind fun s129=>
 some (s129,0)
def Z3 (N:Nat) (p1:api_Unit) (vA1:Str):Option (Str×Int):=
 (Z13 N vA1 p1.Recover).bind fun r101=>
 (Z15 N r101 (p1.Claims.length:Int)).bind fun r107=>
 (Z6 N Z4 p1) N r107 0
def Z2 (N:Nat) (p1:api_Unit):Option (Str×Int):=
 (Z90 N p1).bind fun r50=>
 if r50=true then
  (Z16 N ([]:Str) p1.Lines).bind fun r54=>
  (Z15 N r54 p1.Stays).bind fun r60=>
  (Z16 N r60 p1.Firsts).bind fun r66=>
  (Z15 N r66 p1.Locks).bind fun r72=>
  (Z15 N r72 (p1.Threads.length:Int)).bind fun r78=>
  (Z5 N (Z3 N p1) p1) N r78 0
 else
  some ([],8)
def Z6f (N:Nat) (p1:api_Unit):Option Int:=
 if ((decide (1≤p1.Stays)) && (decide (p1.Stays≤(p1.Lines.length:Int))))=true then
  (getI p1.Lines (IntKind.i64.wrap (p1.Stays - 1))).bind fun x51=>
  some (IntKind.i64.wrap (x51+1))
 else
  some 0
def Z7e (N:Nat) (p1:Int) (p2:Int):Option Bool:=
 some ((decide (0≤p1)) && (decide (p1 < p2)))
def Z5q (kZ5r:Int→Int→Option Int) (vB2:Int) (vC2:Int):Option Int:=
 if vC2 < 0 then
  some (-1)
 else
  kZ5r (IntKind.i64.wrap (vC2+1)) (IntKind.i64.wrap (vB2+1))
def Z5p (kZ5r:Int→Int→Option Int) (xz8:api_Op) (vB2:Int) (vC1:Int):Option Int:=
 if ((decide (5≤xz8.Kind)) && (decide (xz8.Kind≤15)))=true then
  (Z5q kZ5r vB2) (IntKind.i64.wrap (vC1 - 2))
 else
  (Z5q kZ5r vB2) vC1
def Z5r (N:Nat) (kZ5o:Int→Option Int) (p1:(List api_Op)) (p6:Int):Nat→Int→Int→Option Int
 | 0,_,_=>none
 | n+1,vB1,vB2=>
  if vB2 < p6 then
   (getI p1 vB2).bind fun xz8=>
   if ((decide (xz8.Kind=3)) || (decide (xz8.Kind=4)))=true then
    (Z5p (Z5r N kZ5o p1 p6 n) xz8 vB2) (IntKind.i64.wrap (vB1 - 1))
   else
    (Z5p (Z5r N kZ5o p1 p6 n) xz8 vB2) vB1
  else
   kZ5o vB1
def Z5o (vA1:Int):Option Int:=
 some vA1
def Z5n (N:Nat) (p1:(List api_Op)) (p6:Int):Option Int:=
 (Z5r N Z5o p1 p6) N 0 0
def Z5j (N:Nat) (kZ5i:Option Bool) (p1:(List api_Op)) (p6:Int):Nat→Int→Option Bool
 | 0,_=>none
 | n+1,vB1=>
  if vB1 < (p1.length:Int) then
   (getI p1 vB1).bind fun xz8=>
   if (((((decide (xz8.Kind < 1)) || (decide (15 < xz8.Kind))) || ((decide (xz8.Kind=1)) && ((decide (xz8.N < 0)) || (decide (4294967296 < xz8.N))))) || ((decide (xz8.Kind=2)) && ((decide (xz8.N < 0)) || (decide (p6≤xz8.N))))) || ((decide (2 < xz8.Kind)) && (decide (xz8.N≠0))))=true then
    some false
   else
    (Z5j N kZ5i p1 p6 n) (IntKind.i64.wrap (vB1+1))
  else
   kZ5i
def Z5i (N:Nat) (p1:(List api_Op)):Option Bool:=
 if ((decide (1≤(p1.length:Int))) && (decide ((p1.length:Int)≤40)))=true then
  (Z5n N p1 (p1.length:Int)).bind fun r15=>
  some (decide (r15=1))
 else
  some false
def Z5h (N:Nat) (p1:(List api_Op)) (p6:Int):Option Bool:=
 (Z5j N (Z5i N p1) p1 p6) N 0
def Z7c (N:Nat) (kZ79:Bool→Option Bool) (p1:api_Instr) (p9:Int) (vB3:Bool):Option Bool:=
 if vB3=true then
  (Z7e N p1.B p9).bind fun r41=>
  kZ79 r41
 else
  if p1.Kind=13 then
   kZ79 ((decide (1≤p1.B)) && (decide (p1.B≤8)))
  else
   kZ79 (decide (p1.B=0))
def Z7b (N:Nat) (kZ79:Bool→Option Bool) (p1:api_Instr) (p8:Int) (p9:Int) (vB2:Bool):Option Bool:=
 if vB2=true then
  (Z7e N p1.B p8).bind fun r37=>
  kZ79 r37
 else
  if p1.Kind=9 then
   (Z7c N kZ79 p1 p9) (decide (p1.Kind=9))
  else
   (Z7c N kZ79 p1 p9) (decide (p1.Kind=10))
def Z7a (N:Nat) (kZ79:Bool→Option Bool) (p1:api_Instr) (p7:Int) (p8:Int) (p9:Int) (vB1:Bool):Option Bool:=
 if vB1=true then
  (Z7e N p1.B p7).bind fun r33=>
  kZ79 r33
 else
  if p1.Kind=5 then
   (Z7b N kZ79 p1 p8 p9) (decide (p1.Kind=5))
  else
   (Z7b N kZ79 p1 p8 p9) (decide (p1.Kind=6))
def Z7d (p1:api_Instr) (vA2:Bool) (vA3:Bool) (vA4:Bool):Option Bool:=
 if vA4=true then
  some false
 else
  some ((((decide (1≤p1.Kind)) && (decide (p1.Kind≤15))) && vA2) && vA3)
def Z79 (N:Nat) (p1:api_Instr) (p4:api_Code) (vA2:Bool) (vA3:Bool):Option Bool:=
 if (((((decide (p1.Kind=1)) || (decide (p1.Kind=3))) || (decide (p1.Kind=4))) || (decide (p1.Kind=12))) || (decide (p1.Kind=15)))=true then
  (Z5h N p1.E p4.Regs).bind fun r45=>
  if ((!r45) || ((!(((((decide (p1.Kind=1)) || (decide (p1.Kind=3))) || (decide (p1.Kind=4))) || (decide (p1.Kind=12))) || (decide (p1.Kind=15)))) && (decide (0 < (p1.E.length:Int)))))=true then
   (Z7d p1 vA2 vA3) true
  else
   if p1.Kind=4 then
    (Z5h N p1.F p4.Regs).bind fun r49=>
    (Z7d p1 vA2 vA3) ((!r49) || ((decide (p1.Kind≠4)) && (decide (0 < (p1.F.length:Int)))))
   else
    (Z7d p1 vA2 vA3) ((decide (p1.Kind≠4)) && (decide (0 < (p1.F.length:Int))))
 else
  if ((!(((((decide (p1.Kind=1)) || (decide (p1.Kind=3))) || (decide (p1.Kind=4))) || (decide (p1.Kind=12))) || (decide (p1.Kind=15)))) && (decide (0 < (p1.E.length:Int))))=true then
   (Z7d p1 vA2 vA3) true
  else
   if p1.Kind=4 then
    (Z5h N p1.F p4.Regs).bind fun r53=>
    (Z7d p1 vA2 vA3) ((!r53) || ((decide (p1.Kind≠4)) && (decide (0 < (p1.F.length:Int)))))
   else
    (Z7d p1 vA2 vA3) ((decide (p1.Kind≠4)) && (decide (0 < (p1.F.length:Int))))
def Z78 (N:Nat) (p1:api_Instr) (p4:api_Code) (p7:Int) (p8:Int) (p9:Int) (vA2:Bool):Option Bool:=
 if p1.Kind=2 then
  (Z7a N (Z79 N p1 p4 vA2) p1 p7 p8 p9) (decide (p1.Kind=2))
 else
  if p1.Kind=3 then
   (Z7a N (Z79 N p1 p4 vA2) p1 p7 p8 p9) (decide (p1.Kind=3))
  else
   (Z7a N (Z79 N p1 p4 vA2) p1 p7 p8 p9) (decide (p1.Kind=4))
def Z77 (N:Nat) (p1:api_Instr) (p4:api_Code) (p7:Int) (p8:Int) (p9:Int) (vA1:Bool):Option Bool:=
 if ((decide (p1.Kind=13)) || (decide (p1.Kind=14)))=true then
  (Z7e N p1.A p4.Counts).bind fun r28=>
  (Z78 N p1 p4 p7 p8 p9) r28
 else
  (Z78 N p1 p4 p7 p8 p9) vA1
def Z76 (N:Nat) (p1:api_Instr) (p4:api_Code) (p7:Int) (p8:Int) (p9:Int):Option Bool:=
 if (((decide (p1.Kind=1)) || (decide (p1.Kind=2))) || (decide (p1.Kind=4)))=true then
  (Z7e N p1.A p4.Regs).bind fun r25=>
  (Z77 N p1 p4 p7 p8 p9) r25
 else
  (Z77 N p1 p4 p7 p8 p9) (decide (p1.A=0))
def Z7r (N:Nat) (kZ7q:Option Bool) (p1:(List api_Instr)) (p6:Int) (xz7:api_Instr):Nat→Int→Option Bool
 | 0,_=>none
 | n+1,vB1=>
  if vB1 < p6 then
   (getI p1 vB1).bind fun x39=>
   if ((decide (x39.Kind=13)) && (decide (x39.A=xz7.A)))=true then
    some false
   else
    (Z7r N kZ7q p1 p6 xz7 n) (IntKind.i64.wrap (vB1+1))
  else
   kZ7q
def Z7q  : Option Bool:=
 some true
def Z7p (N:Nat) (p1:(List api_Instr)) (p6:Int) (xz7:api_Instr) (vA1:Bool):Option Bool:=
 if vA1=true then
  some false
 else
  (Z7r N Z7q p1 p6 xz7) N xz7.To
def Z7o (N:Nat) (p1:(List api_Instr)) (p6:Int):Option Bool:=
 (getI p1 p6).bind fun xz7=>
 if ((decide (xz7.Kind=11)) || (decide (xz7.Kind=12)))=true then
  some ((decide (p6 < xz7.To)) && (decide (xz7.To≤(p1.length:Int))))
 else
  if xz7.Kind≠14 then
   some (decide (xz7.To=0))
  else
   if ((decide (xz7.To < 1)) || (decide (p6 < xz7.To)))=true then
    (Z7p N p1 p6 xz7) true
   else
    (getI p1 (IntKind.i64.wrap (xz7.To - 1))).bind fun x24=>
    (Z7p N p1 p6 xz7) ((decide (x24.Kind≠13)) || (decide (x24.A≠xz7.A)))
def Z73 (N:Nat) (p1:Int) (p2:Int) (p3:Int) (p4:Int):Option Bool:=
 some (((((decide (p3≤p1)) && (decide (p2≤p4))) || ((decide (p1≤p3)) && (decide (p4≤p2)))) || (decide (p2 < p3))) || (decide (p4 < p1)))
def Z5y (kZ63:Int→Option Bool) (vB1:Int) (vC1:Bool):Option Bool:=
 if vC1=true then
  some false
 else
  kZ63 (IntKind.i64.wrap (vB1+1))
def Z63 (N:Nat) (kZ5x:Option Bool) (p1:api_Code) (p4:Int) (p5:Int) (p6:Int):Nat→Int→Option Bool
 | 0,_=>none
 | n+1,vB1=>
  if vB1 < (p1.L.length:Int) then
   (getI p1.L vB1).bind fun x14=>
   (Z76 N x14 p1 p4 p5 p6).bind fun r27=>
   if r27=true then
    (Z7o N p1.L vB1).bind fun r30=>
    (Z5y (Z63 N kZ5x p1 p4 p5 p6 n) vB1) (!r30)
   else
    (Z5y (Z63 N kZ5x p1 p4 p5 p6 n) vB1) true
  else
   kZ5x
def Z62 (kZ65:Int→Option Bool) (vD1:Int) (vE31:Bool):Option Bool:=
 if vE31=true then
  some false
 else
  kZ65 (IntKind.i64.wrap (vD1+1))
def Z61 (N:Nat) (kZ65:Int→Option Bool) (vD1:Int) (vB2:Int) (vE2:Int) (vE3:Int) (vE4:Int) (vE5:(List api_Op)) (vE10:(List api_Op)) (vE15:Int) (vE17:Int) (vE18:Int) (vE19:Int) (vE20:(List api_Op)) (vE25:(List api_Op)) (vE30:Int):Option Bool:=
 if ((decide (vE2=14)) && (decide (vE17=14)))=true then
  (Z73 N (IntKind.i64.wrap (vE15 - 1)) vB2 (IntKind.i64.wrap (vE30 - 1)) vD1).bind fun r64=>
  (Z62 kZ65 vD1) (!r64)
 else
  (Z62 kZ65 vD1) false
def Z65 (N:Nat) (kZ60:Option Bool) (p1:api_Code) (vB2:Int):Nat→Int→Option Bool
 | 0,_=>none
 | n+1,vD1=>
  if vD1 < vB2 then
   (getI p1.L vB2).bind fun x35=>
   (getI p1.L vD1).bind fun x48=>
   (Z61 N (Z65 N kZ60 p1 vB2 n) vD1 vB2) x35.Kind x35.A x35.B x35.E x35.F x35.To x48.Kind x48.A x48.B x48.E x48.F x48.To
  else
   kZ60
def Z60 (kZ64:Int→Option Bool) (vB2:Int):Option Bool:=
 kZ64 (IntKind.i64.wrap (vB2+1))
def Z64 (N:Nat) (kZ5z:Option Bool) (p1:api_Code):Nat→Int→Option Bool
 | 0,_=>none
 | n+1,vB2=>
  if vB2 < (p1.L.length:Int) then
   (Z65 N (Z60 (Z64 N kZ5z p1 n) vB2) p1 vB2) N 0
  else
   kZ5z
def Z5z  : Option Bool:=
 some true
def Z5x (N:Nat) (p1:api_Code):Option Bool:=
 (Z64 N Z5z p1) N 0
def Z5w (N:Nat) (p1:api_Code) (p4:Int) (p5:Int) (p6:Int):Option Bool:=
 if ((((decide (p1.Regs < 0)) || (decide (4 < p1.Regs))) || (decide (p1.Counts < 0))) || (decide (12 < p1.Counts)))=true then
  some false
 else
  (Z63 N (Z5x N p1) p1 p4 p5 p6) N 0
def Z6i (kZ6l:Int→Option Bool) (p1:api_Unit) (vB1:Int) (vC1:Int):Option Bool:=
 (getI p1.Lines vB1).bind fun x64=>
 if ((decide (x64≠vC1)) && (((decide (vB1=0)) || (decide (p1.Stays≤vB1))) || (decide (x64≠(IntKind.i64.wrap (vC1 - 1))))))=true then
  some false
 else
  kZ6l (IntKind.i64.wrap (vB1+1))
def Z6l (N:Nat) (kZ6h:Option Bool) (p1:api_Unit):Nat→Int→Option Bool
 | 0,_=>none
 | n+1,vB1=>
  if vB1 < (p1.Lines.length:Int) then
   (getI p1.Firsts vB1).bind fun x52=>
   if ((decide (x52 < 0)) || (decide (4294967296 < x52)))=true then
    some false
   else
    if 0 < vB1 then
     (getI p1.Lines (IntKind.i64.wrap (vB1 - 1))).bind fun x59=>
     (Z6i (Z6l N kZ6h p1 n) p1 vB1) (IntKind.i64.wrap (x59+1))
    else
     (Z6i (Z6l N kZ6h p1 n) p1 vB1) 0
  else
   kZ6h
def Z6m (N:Nat) (kZ6j:Option Bool) (p1:api_Unit):Nat→Int→Option Bool
 | 0,_=>none
 | n+1,vB2=>
  if vB2 < (p1.Threads.length:Int) then
   (getI p1.Threads vB2).bind fun x71=>
   (Z6f N p1).bind fun r80=>
   (Z5w N x71 (p1.Lines.length:Int) r80 p1.Locks).bind fun r82=>
   if r82=true then
    (Z6m N kZ6j p1 n) (IntKind.i64.wrap (vB2+1))
   else
    some false
  else
   kZ6j
def Z6n (N:Nat) (kZ6k:Option Bool) (p1:api_Unit):Nat→Int→Option Bool
 | 0,_=>none
 | n+1,vB3=>
  if vB3 < (p1.Claims.length:Int) then
   (getI p1.Claims vB3).bind fun x86=>
   (Z5h N x86 p1.Stays).bind fun r95=>
   if r95=true then
    (Z6n N kZ6k p1 n) (IntKind.i64.wrap (vB3+1))
   else
    some false
  else
   kZ6k
def Z6k (N:Nat) (p1:api_Unit):Option Bool:=
 (Z6f N p1).bind fun r98=>
 (Z5w N p1.Recover (p1.Lines.length:Int) r98 p1.Locks).bind fun r100=>
 some r100
def Z6j (N:Nat) (p1:api_Unit):Option Bool:=
 (Z6n N (Z6k N p1) p1) N 0
def Z6h (N:Nat) (p1:api_Unit):Option Bool:=
 (Z6m N (Z6j N p1) p1) N 0
def Z6g (N:Nat) (p1:api_Unit):Option Bool:=
 if ((((((((decide (20 < (p1.Lines.length:Int))) || (decide (p1.Stays < 0))) || (decide ((p1.Lines.length:Int) < p1.Stays))) || (decide ((p1.Firsts.length:Int)≠(p1.Lines.length:Int)))) || (decide (p1.Locks < 0))) || (decide (2 < p1.Locks))) || (decide ((p1.Threads.length:Int) < 1))) || (decide (3 < (p1.Threads.length:Int))))=true then
  some false
 else
  (Z6l N (Z6h N p1) p1) N 0
def Z8g:Nat→Int→Option Str
 | 0,_=>none
 | N+1,p1=>
  if ((decide (p1 < 0)) || (decide (1099511627776 < p1)))=true then
   some []
  else
   if p1 < 128 then
    some (Gk ([(IntK.mk (IntKind.u8.wrap p1))]:List (IntK .u8)))
   else
    ((Z8g N) (IntKind.i64.wrap (p1.tdiv 128))).bind fun r10=>
    (Cw (Gk ([(IntK.mk (IntKind.u8.wrap (IntKind.i64.wrap (128+(p1.tmod 128)))))]:List (IntK .u8))) r10).bind fun s12=>
    some s12
def Z8m (N:Nat) (kZ8l:Str→Option Str) (p1:(List Int)):Nat→Str→Int→Option Str
 | 0,_,_=>none
 | n+1,vB1,vB2=>
  if vB2 < (p1.length:Int) then
   (getI p1 vB2).bind fun xz9=>
   (Z8g N xz9).bind fun r14=>
   (Cw vB1 r14).bind fun s16=>
   (Z8m N kZ8l p1 n) s16 (IntKind.i64.wrap (vB2+1))
  else
   kZ8l vB1
def Z8l (vA1:Str):Option Str:=
 some vA1
def Z8k (N:Nat) (p1:(List Int)):Option Str:=
 (Z8g N (p1.length:Int)).bind fun rz6=>
 (Z8m N Z8l p1) N rz6 0
def Z8p (N:Nat) (kZ8o:Str→Option Str) (p1:(List api_Op)):Nat→Str→Int→Option Str
 | 0,_,_=>none
 | n+1,vB1,vB2=>
  if vB2 < (p1.length:Int) then
   (getI p1 vB2).bind fun xz9=>
   (Z8g N xz9.Kind).bind fun r14=>
   (Z8g N xz9.N).bind fun r16=>
   (Cw r14 r16).bind fun s18=>
   (Cw vB1 s18).bind fun s20=>
   (Z8p N kZ8o p1 n) s20 (IntKind.i64.wrap (vB2+1))
  else
   kZ8o vB1
def Z8o (vA1:Str):Option Str:=
 some vA1
def Z8n (N:Nat) (p1:(List api_Op)):Option Str:=
 (Z8g N (p1.length:Int)).bind fun rz6=>
 (Z8p N Z8o p1) N rz6 0
def Z8j (N:Nat) (kZ8i:Str→Option Str) (p1:api_Code):Nat→Str→Int→Option Str
 | 0,_,_=>none
 | n+1,vB1,vB2=>
  if vB2 < (p1.L.length:Int) then
   (getI p1.L vB2).bind fun x20=>
   (Z8g N x20.Kind).bind fun r34=>
   (Z8g N x20.A).bind fun r36=>
   (Cw r34 r36).bind fun s38=>
   (Z8g N x20.B).bind fun r40=>
   (Cw s38 r40).bind fun s42=>
   (Z8g N x20.To).bind fun r44=>
   (Cw s42 r44).bind fun s46=>
   (Z8n N x20.E).bind fun r48=>
   (Cw s46 r48).bind fun s50=>
   (Z8n N x20.F).bind fun r52=>
   (Cw s50 r52).bind fun s54=>
   (Cw vB1 s54).bind fun s56=>
   (Z8j N kZ8i p1 n) s56 (IntKind.i64.wrap (vB2+1))
  else
   kZ8i vB1
def Z8i (vA1:Str):Option Str:=
 some vA1
def Z8h (N:Nat) (p1:api_Code):Option Str:=
 (Z8g N p1.Regs).bind fun rz9=>
 (Z8g N p1.Counts).bind fun r11=>
 (Cw rz9 r11).bind fun s13=>
 (Z8g N (p1.L.length:Int)).bind fun r15=>
 (Cw s13 r15).bind fun s17=>
 (Z8j N Z8i p1) N s17 0
def Z80 (N:Nat) (kZ7y:Str→Option (Str×Int)) (p1:api_Unit):Nat→Str→Int→Option (Str×Int)
 | 0,_,_=>none
 | n+1,vB1,vB2=>
  if vB2 < (p1.Threads.length:Int) then
   (getI p1.Threads vB2).bind fun x72=>
   (Z8h N x72).bind fun r81=>
   (Cw vB1 r81).bind fun s83=>
   (Z80 N kZ7y p1 n) s83 (IntKind.i64.wrap (vB2+1))
  else
   kZ7y vB1
def Z81 (N:Nat) (kZ7z:Str→Option (Str×Int)) (p1:api_Unit):Nat→Str→Int→Option (Str×Int)
 | 0,_,_=>none
 | n+1,vB3,vB4=>
  if vB4 < (p1.Claims.length:Int) then
   (getI p1.Claims vB4).bind fun x94=>
   (Z8n N x94).bind fun r103=>
   (Cw vB3 r103).bind fun s105=>
   (Z81 N kZ7z p1 n) s105 (IntKind.i64.wrap (vB4+1))
  else
   kZ7z vB3
def Z7z (vA2:Str):Option (Str×Int):=
 some (vA2,0)
def Z7y (N:Nat) (p1:api_Unit) (vA1:Str):Option (Str×Int):=
 (Z8h N p1.Recover).bind fun r85=>
 (Z8g N (p1.Claims.length:Int)).bind fun r87=>
 (Cw r85 r87).bind fun s89=>
 (Cw vA1 s89).bind fun s91=>
 (Z81 N Z7z p1) N s91 0
def Z7x (N:Nat) (p1:api_Unit):Option (Str×Int):=
 (Z6g N p1).bind fun r50=>
 if r50=true then
  (Z8k N p1.Lines).bind fun r53=>
  (Z8g N p1.Stays).bind fun r55=>
  (Cw r53 r55).bind fun s57=>
  (Z8k N p1.Firsts).bind fun r59=>
  (Cw s57 r59).bind fun s61=>
  (Z8g N p1.Locks).bind fun r63=>
  (Cw s61 r63).bind fun s65=>
  (Z8g N (p1.Threads.length:Int)).bind fun r67=>
  (Cw s65 r67).bind fun s69=>
  (Z80 N (Z7y N p1) p1) N s69 0
 else
  some ([],8)
def Z9 (N:Nat) (kZ8:Option (Int×Int×Int)) (p1:Str) (p2:Int):Nat→Int→Int→Option (Int×Int×Int)
 | 0,_,_=>none
 | n+1,vB1,vB2=>
  if vB2 < 6 then
   if (IntKind.i64.wrap (p2+vB2))=(p1.length:Int) then
    some (0,0,6)
   else
    (Hw p1 (IntKind.i64.wrap (p2+vB2))).bind fun xz6=>
    (Jai .i64 ((IntKind.i64.wrap xz6).tmod 128) (IntKind.i64.wrap (7 * vB2))).bind fun xz8=>
    if 128≤(IntKind.i64.wrap xz6) then
     (Z9 N kZ8 p1 p2 n) (IntKind.i64.wrap (vB1+xz8)) (IntKind.i64.wrap (vB2+1))
    else
     if ((decide ((IntKind.i64.wrap xz6)=0)) && (decide (0 < vB2)))=true then
      some (0,0,8)
     else
      if 1099511627776 < (IntKind.i64.wrap (vB1+xz8)) then
       some (0,0,2)
      else
       some ((IntKind.i64.wrap (vB1+xz8)),(IntKind.i64.wrap ((IntKind.i64.wrap (p2+vB2))+1)),0)
  else
   kZ8
def Z8  : Option (Int×Int×Int):=
 some (0,0,2)
def Z7 (N:Nat) (p1:Str) (p2:Int):Option (Int×Int×Int):=
 if ((decide (p2 < 0)) || (decide ((p1.length:Int) < p2)))=true then
  some (0,0,1)
 else
  (Z9 N Z8 p1 p2) N 0 0
def Zn (N:Nat) (p1:binary_reader):Option (Option (Int×binary_reader)):=
 (Z7 N p1.s p1.at').bind fun rz3=>
 if rz3.2.2≠0 then
  some none
 else
  some (some (rz3.1,(binary_reader.mk p1.s rz3.2.1)))
def Zm (N:Nat) (p1:binary_reader):Option (Option (Int×binary_reader)):=
 (Zn N p1).bindP fun rz3=>
 if (rz3.2.s.length:Int) < rz3.1 then
  some none
 else
  some (some (rz3.1,rz3.2))
def Zq (N:Nat) (kZp:binary_reader→(List Int)→Option (Option ((List Int)×binary_reader))) (rz3:(Int×binary_reader)):Nat→binary_reader→(List Int)→Int→Option (Option ((List Int)×binary_reader))
 | 0,_,_,_=>none
 | n+1,vB1,vB2,vB8=>
  if vB8 < rz3.1 then
   (Zn N vB1).bindP fun rz7=>
   (B9 8 vB2 ([rz7.1]:List Int)).bind fun l13=>
   (Zq N kZp rz3 n) rz7.2 l13 (IntKind.i64.wrap (vB8+1))
  else
   kZp vB1 vB2
def Zp (vA1:binary_reader) (vA2:(List Int)):Option (Option ((List Int)×binary_reader)):=
 some (some (vA2,vA1))
def Zo (N:Nat) (p1:binary_reader):Option (Option ((List Int)×binary_reader)):=
 (Zm N p1).bindP fun rz3=>
 (Zq N Zp rz3) N rz3.2 [] 0
def Zt (N:Nat) (kZs:binary_reader→(List api_Op)→Option (Option ((List api_Op)×binary_reader))) (rz3:(Int×binary_reader)):Nat→binary_reader→(List api_Op)→Int→Option (Option ((List api_Op)×binary_reader))
 | 0,_,_,_=>none
 | n+1,vB1,vB2,vB8=>
  if vB8 < rz3.1 then
   (Zn N vB1).bindP fun rz8=>
   (Zn N rz8.2).bindP fun r11=>
   (B9 16 vB2 ([(api_Op.mk rz8.1 r11.1)]:List api_Op)).bind fun l17=>
   (Zt N kZs rz3 n) r11.2 l17 (IntKind.i64.wrap (vB8+1))
  else
   kZs vB1 vB2
def Zs (vA1:binary_reader) (vA2:(List api_Op)):Option (Option ((List api_Op)×binary_reader)):=
 some (some (vA2,vA1))
def Zr (N:Nat) (p1:binary_reader):Option (Option ((List api_Op)×binary_reader)):=
 (Zm N p1).bindP fun rz3=>
 (Zt N Zs rz3) N rz3.2 [] 0
def Zk (N:Nat) (kZj:binary_reader→(List api_Instr)→Option (Option (api_Code×binary_reader))) (vB3:(List api_Instr)) (vD1:binary_reader) (vD2:Int) (vD3:Int) (vD4:Int) (vD5:Int):Option (Option (api_Code×binary_reader)):=
 (Zr N vD1).bindP fun r30=>
 (Zr N r30.2).bindP fun r38=>
 (B9 80 vB3 ([(api_Instr.mk vD2 vD3 vD4 r30.1 r38.1 vD5)]:List api_Instr)).bind fun l57=>
 kZj r38.2 l57
def Zj (kZl:binary_reader→(List api_Instr)→Int→Option (Option (api_Code×binary_reader))) (vB9:Int) (vC2:binary_reader) (vC3:(List api_Instr)):Option (Option (api_Code×binary_reader)):=
 kZl vC2 vC3 (IntKind.i64.wrap (vB9+1))
def Zl (N:Nat) (kZi:binary_reader→(List api_Instr)→Option (Option (api_Code×binary_reader))) (r11:(Int×binary_reader)):Nat→binary_reader→(List api_Instr)→Int→Option (Option (api_Code×binary_reader))
 | 0,_,_,_=>none
 | n+1,vB2,vB3,vB9=>
  if vB9 < r11.1 then
   (Zn N vB2).bindP fun r18=>
   (Zn N r18.2).bindP fun r21=>
   (Zn N r21.2).bindP fun r24=>
   (Zn N r24.2).bindP fun r27=>
   (Zk N (Zj (Zl N kZi r11 n) vB9) vB3) r27.2 r18.1 r21.1 r24.1 r27.1
  else
   kZi vB2 vB3
def Zi (rz5:(Int×binary_reader)) (rz8:(Int×binary_reader)) (vA2:binary_reader) (vA3:(List api_Instr)):Option (Option (api_Code×binary_reader)):=
 some (some ((api_Code.mk rz5.1 rz8.1 vA3),vA2))
def Zh (N:Nat) (p1:binary_reader):Option (Option (api_Code×binary_reader)):=
 (Zn N p1).bindP fun rz5=>
 (Zn N rz5.2).bindP fun rz8=>
 (Zm N rz8.2).bindP fun r11=>
 (Zl N (Zi rz5 rz8) r11) N r11.2 [] 0
def Zx (N:Nat) (kZv:binary_reader→(List api_Code)→Option (Option (api_Unit×binary_reader))) (r27:(Int×binary_reader)):Nat→binary_reader→(List api_Code)→Int→Option (Option (api_Unit×binary_reader))
 | 0,_,_,_=>none
 | n+1,vB2,vB3,vB9=>
  if vB9 < r27.1 then
   (Zh N vB2).bindP fun r31=>
   (B9 40 vB3 ([r31.1]:List api_Code)).bind fun l47=>
   (Zx N kZv r27 n) r31.2 l47 (IntKind.i64.wrap (vB9+1))
  else
   kZv vB2 vB3
def Zy (N:Nat) (kZw:binary_reader→(List (List api_Op))→Option (Option (api_Unit×binary_reader))) (r66:(Int×binary_reader)):Nat→binary_reader→(List (List api_Op))→Int→Option (Option (api_Unit×binary_reader))
 | 0,_,_,_=>none
 | n+1,vB11,vB12,vB18=>
  if vB18 < r66.1 then
   (Zr N vB11).bindP fun r70=>
   (B9 24 vB12 ([r70.1]:List (List api_Op))).bind fun l85=>
   (Zy N kZw r66 n) r70.2 l85 (IntKind.i64.wrap (vB18+1))
  else
   kZw vB11 vB12
def Zw (rz5:((List Int)×binary_reader)) (r13:(Int×binary_reader)) (r16:((List Int)×binary_reader)) (r24:(Int×binary_reader)) (vA3:(List api_Code)) (r53:(api_Code×binary_reader)) (vA10:binary_reader) (vA11:(List (List api_Op))):Option (Option (api_Unit×binary_reader)):=
 some (some ((api_Unit.mk rz5.1 r13.1 r16.1 r24.1 vA3 r53.1 vA11),vA10))
def Zv (N:Nat) (rz5:((List Int)×binary_reader)) (r13:(Int×binary_reader)) (r16:((List Int)×binary_reader)) (r24:(Int×binary_reader)) (vA2:binary_reader) (vA3:(List api_Code)):Option (Option (api_Unit×binary_reader)):=
 (Zh N vA2).bindP fun r53=>
 (Zm N r53.2).bindP fun r66=>
 (Zy N (Zw rz5 r13 r16 r24 vA3 r53) r66) N r66.2 [] 0
def Zu (N:Nat) (p1:binary_reader):Option (Option (api_Unit×binary_reader)):=
 (Zo N p1).bindP fun rz5=>
 (Zn N rz5.2).bindP fun r13=>
 (Zo N r13.2).bindP fun r16=>
 (Zn N r16.2).bindP fun r24=>
 (Zm N r24.2).bindP fun r27=>
 (Zx N (Zv N rz5 r13 r16 r24) r27) N r27.2 [] 0
def Z0 (N:Nat) (p1:Str):Option (api_Unit×Int):=
 (Zu N (binary_reader.mk p1 0)).bindQ Z1 fun rz5=>
 (Z2 N rz5.1).bind fun r59=>
 if ((decide (r59.2≠0)) || (decide (r59.1≠p1)))=true then
  Z1
 else
  some (rz5.1,0)
def Z84 (N:Nat) (kZ83:Option (Int×Int×Int)) (p1:Str) (p2:Int):Nat→Int→Int→Int→Option (Int×Int×Int)
 | 0,_,_,_=>none
 | n+1,vB1,vB2,vB3=>
  if vB3 < (IntKind.i64.wrap (p2+6)) then
   if (p1.length:Int)≤vB3 then
    some (0,0,6)
   else
    (Hw p1 vB3).bind fun xz6=>
    if (IntKind.i64.wrap xz6) < 128 then
     if ((decide ((IntKind.i64.wrap xz6)=0)) && (decide (p2 < vB3)))=true then
      some (0,0,8)
     else
      if 1099511627776 < (IntKind.i64.wrap (vB1+(IntKind.i64.wrap (((IntKind.i64.wrap xz6).tmod 128) * vB2)))) then
       some (0,0,2)
      else
       some ((IntKind.i64.wrap (vB1+(IntKind.i64.wrap (((IntKind.i64.wrap xz6).tmod 128) * vB2)))),(IntKind.i64.wrap (vB3+1)),0)
    else
     (Z84 N kZ83 p1 p2 n) (IntKind.i64.wrap (vB1+(IntKind.i64.wrap (((IntKind.i64.wrap xz6).tmod 128) * vB2)))) (IntKind.i64.wrap (128 * vB2)) (IntKind.i64.wrap (vB3+1))
  else
   kZ83
def Z83  : Option (Int×Int×Int):=
 some (0,0,2)
def Z82 (N:Nat) (p1:Str) (p2:Int):Option (Int×Int×Int):=
 if ((decide (p2 < 0)) || (decide ((p1.length:Int) < p2)))=true then
  some (0,0,1)
 else
  (Z84 N Z83 p1 p2) N 0 1 p2
def Z89 (N:Nat) (p1:leadlineref10_In):Option (Int×leadlineref10_In):=
 (Z82 N p1.S p1.At).bind fun rz3=>
 if (p1.Bad || (decide (rz3.2.2≠0)))=true then
  some (0,(leadlineref10_In.mk p1.S p1.At true))
 else
  some (rz3.1,(leadlineref10_In.mk p1.S rz3.2.1 p1.Bad))
def Z88 (N:Nat) (p1:leadlineref10_In):Option (Int×leadlineref10_In):=
 (Z89 N p1).bind fun rz3=>
 if (rz3.2.S.length:Int) < rz3.1 then
  some (0,(leadlineref10_In.mk rz3.2.S rz3.2.At true))
 else
  some (rz3.1,rz3.2)
def Z8c (N:Nat) (kZ8b:leadlineref10_In→(List Int)→Option ((List Int)×leadlineref10_In)) (rz6:(Int×leadlineref10_In)):Nat→leadlineref10_In→(List Int)→Int→Option ((List Int)×leadlineref10_In)
 | 0,_,_,_=>none
 | n+1,vB1,vB2,vB8=>
  if ((decide (vB8 < rz6.1)) && (!vB1.Bad))=true then
   (Z89 N vB1).bind fun rz9=>
   (B9 8 vB2 ([rz9.1]:List Int)).bind fun l14=>
   (Z8c N kZ8b rz6 n) rz9.2 l14 (IntKind.i64.wrap (vB8+1))
  else
   kZ8b vB1 vB2
def Z8b (vA1:leadlineref10_In) (vA2:(List Int)):Option ((List Int)×leadlineref10_In):=
 some (vA2,vA1)
def Z8a (N:Nat) (p1:leadlineref10_In):Option ((List Int)×leadlineref10_In):=
 (Z88 N p1).bind fun rz6=>
 (Z8c N Z8b rz6) N rz6.2 [] 0
def Z8f (N:Nat) (kZ8e:leadlineref10_In→(List api_Op)→Option ((List api_Op)×leadlineref10_In)) (rz6:(Int×leadlineref10_In)):Nat→leadlineref10_In→(List api_Op)→Int→Option ((List api_Op)×leadlineref10_In)
 | 0,_,_,_=>none
 | n+1,vB1,vB2,vB8=>
  if ((decide (vB8 < rz6.1)) && (!vB1.Bad))=true then
   (Z89 N vB1).bind fun rz9=>
   (Z89 N rz9.2).bind fun r12=>
   (B9 16 vB2 ([(api_Op.mk rz9.1 r12.1)]:List api_Op)).bind fun l17=>
   (Z8f N kZ8e rz6 n) r12.2 l17 (IntKind.i64.wrap (vB8+1))
  else
   kZ8e vB1 vB2
def Z8e (vA1:leadlineref10_In) (vA2:(List api_Op)):Option ((List api_Op)×leadlineref10_In):=
 some (vA2,vA1)
def Z8d (N:Nat) (p1:leadlineref10_In):Option ((List api_Op)×leadlineref10_In):=
 (Z88 N p1).bind fun rz6=>
 (Z8f N Z8e rz6) N rz6.2 [] 0
def Z87 (N:Nat) (kZ86:leadlineref10_In→(List api_Instr)→Option (api_Code×leadlineref10_In)) (rz9:(Int×leadlineref10_In)):Nat→leadlineref10_In→(List api_Instr)→Int→Option (api_Code×leadlineref10_In)
 | 0,_,_,_=>none
 | n+1,vB2,vB3,vB9=>
  if ((decide (vB9 < rz9.1)) && (!vB2.Bad))=true then
   (Z89 N vB2).bind fun r12=>
   (Z89 N r12.2).bind fun r15=>
   (Z89 N r15.2).bind fun r17=>
   (Z89 N r17.2).bind fun r19=>
   (Z8d N r19.2).bind fun r21=>
   (Z8d N r21.2).bind fun r28=>
   (B9 80 vB3 ([(api_Instr.mk r12.1 r15.1 r17.1 r21.1 r28.1 r19.1)]:List api_Instr)).bind fun l46=>
   (Z87 N kZ86 rz9 n) r28.2 l46 (IntKind.i64.wrap (vB9+1))
  else
   kZ86 vB2 vB3
def Z86 (rz4:(Int×leadlineref10_In)) (rz7:(Int×leadlineref10_In)) (vA2:leadlineref10_In) (vA3:(List api_Instr)):Option (api_Code×leadlineref10_In):=
 some ((api_Code.mk rz4.1 rz7.1 vA3),vA2)
def Z85 (N:Nat) (p1:leadlineref10_In):Option (api_Code×leadlineref10_In):=
 (Z89 N p1).bind fun rz4=>
 (Z89 N rz4.2).bind fun rz7=>
 (Z88 N rz7.2).bind fun rz9=>
 (Z87 N (Z86 rz4 rz7) rz9) N rz9.2 [] 0
def Z7v (N:Nat) (kZ7t:leadlineref10_In→(List api_Code)→Option (api_Unit×Int)) (r23:(Int×leadlineref10_In)):Nat→leadlineref10_In→(List api_Code)→Int→Option (api_Unit×Int)
 | 0,_,_,_=>none
 | n+1,vB2,vB3,vB9=>
  if ((decide (vB9 < r23.1)) && (!vB2.Bad))=true then
   (Z85 N vB2).bind fun r26=>
   (B9 40 vB3 ([r26.1]:List api_Code)).bind fun l41=>
   (Z7v N kZ7t r23 n) r26.2 l41 (IntKind.i64.wrap (vB9+1))
  else
   kZ7t vB2 vB3
def Z7w (N:Nat) (kZ7u:leadlineref10_In→(List (List api_Op))→Option (api_Unit×Int)) (r59:(Int×leadlineref10_In)):Nat→leadlineref10_In→(List (List api_Op))→Int→Option (api_Unit×Int)
 | 0,_,_,_=>none
 | n+1,vB11,vB12,vB18=>
  if ((decide (vB18 < r59.1)) && (!vB11.Bad))=true then
   (Z8d N vB11).bind fun r62=>
   (B9 24 vB12 ([r62.1]:List (List api_Op))).bind fun l76=>
   (Z7w N kZ7u r59 n) r62.2 l76 (IntKind.i64.wrap (vB18+1))
  else
   kZ7u vB11 vB12
def Z7u (N:Nat) (p1:Str) (rz4:((List Int)×leadlineref10_In)) (r12:(Int×leadlineref10_In)) (r14:((List Int)×leadlineref10_In)) (r21:(Int×leadlineref10_In)) (vA3:(List api_Code)) (r47:(api_Code×leadlineref10_In)) (vA10:leadlineref10_In) (vA11:(List (List api_Op))):Option (api_Unit×Int):=
 (Z7x N (api_Unit.mk rz4.1 r12.1 r14.1 r21.1 vA3 r47.1 vA11)).bind fun r98=>
 if ((vA10.Bad || (decide (r98.2≠0))) || (decide (r98.1≠p1)))=true then
  some ((api_Unit.mk [] 0 [] 0 [] (api_Code.mk 0 0 []) []),8)
 else
  some ((api_Unit.mk rz4.1 r12.1 r14.1 r21.1 vA3 r47.1 vA11),0)
def Z7t (N:Nat) (p1:Str) (rz4:((List Int)×leadlineref10_In)) (r12:(Int×leadlineref10_In)) (r14:((List Int)×leadlineref10_In)) (r21:(Int×leadlineref10_In)) (vA2:leadlineref10_In) (vA3:(List api_Code)):Option (api_Unit×Int):=
 (Z85 N vA2).bind fun r47=>
 (Z88 N r47.2).bind fun r59=>
 (Z7w N (Z7u N p1 rz4 r12 r14 r21 vA3 r47) r59) N r59.2 [] 0
def Z7s (N:Nat) (p1:Str):Option (api_Unit×Int):=
 (Z8a N (leadlineref10_In.mk p1 0 false)).bind fun rz4=>
 (Z89 N rz4.2).bind fun r12=>
 (Z8a N r12.2).bind fun r14=>
 (Z89 N r14.2).bind fun r21=>
 (Z88 N r21.2).bind fun r23=>
 (Z7v N (Z7t N p1 rz4 r12 r14 r21) r23) N r23.2 [] 0
def Z4c (N:Nat) (kZ4b:Option Bool) (p1:(List Int)) (p6:(List Int)):Nat→Int→Option Bool
 | 0,_=>none
 | n+1,vB1=>
  if vB1 < (p1.length:Int) then
   (getI p1 vB1).bind fun x13=>
   (getI p6 vB1).bind fun x18=>
   if x13≠x18 then
    some false
   else
    (Z4c N kZ4b p1 p6 n) (IntKind.i64.wrap (vB1+1))
  else
   kZ4b
def Z4b  : Option Bool:=
 some true
def Z4a (N:Nat) (p1:(List Int)) (p6:(List Int)):Option Bool:=
 if (p1.length:Int)≠(p6.length:Int) then
  some false
 else
  (Z4c N Z4b p1 p6) N 0
def Z5m (N:Nat) (kZ5l:Option Bool) (p1:(List api_Op)) (p6:(List api_Op)):Nat→Int→Option Bool
 | 0,_=>none
 | n+1,vB1=>
  if vB1 < (p1.length:Int) then
   (getI p1 vB1).bind fun x13=>
   (getI p6 vB1).bind fun x18=>
   if x13≠x18 then
    some false
   else
    (Z5m N kZ5l p1 p6 n) (IntKind.i64.wrap (vB1+1))
  else
   kZ5l
def Z5l  : Option Bool:=
 some true
def Z5k (N:Nat) (p1:(List api_Op)) (p6:(List api_Op)):Option Bool:=
 if (p1.length:Int)≠(p6.length:Int) then
  some false
 else
  (Z5m N Z5l p1 p6) N 0
def Z7i (kZ7j:Int→Option Bool) (vB1:Int) (vC31:Bool):Option Bool:=
 if vC31=true then
  some false
 else
  kZ7j (IntKind.i64.wrap (vB1+1))
def Z7h (N:Nat) (kZ7j:Int→Option Bool) (vB1:Int) (vC2:Int) (vC3:Int) (vC4:Int) (vC5:(List api_Op)) (vC10:(List api_Op)) (vC15:Int) (vC17:Int) (vC18:Int) (vC19:Int) (vC20:(List api_Op)) (vC25:(List api_Op)) (vC30:Int):Option Bool:=
 if ((((decide (vC2≠vC17)) || (decide (vC3≠vC18))) || (decide (vC4≠vC19))) || (decide (vC15≠vC30)))=true then
  (Z7i kZ7j vB1) true
 else
  (Z5k N vC5 vC20).bind fun r48=>
  if r48=true then
   (Z5k N vC10 vC25).bind fun r51=>
   (Z7i kZ7j vB1) (!r51)
  else
   (Z7i kZ7j vB1) true
def Z7j (N:Nat) (kZ7g:Option Bool) (p1:api_Code) (p4:api_Code):Nat→Int→Option Bool
 | 0,_=>none
 | n+1,vB1=>
  if vB1 < (p1.L.length:Int) then
   (getI p1.L vB1).bind fun x19=>
   (getI p4.L vB1).bind fun x32=>
   (Z7h N (Z7j N kZ7g p1 p4 n) vB1) x19.Kind x19.A x19.B x19.E x19.F x19.To x32.Kind x32.A x32.B x32.E x32.F x32.To
  else
   kZ7g
def Z7g  : Option Bool:=
 some true
def Z7f (N:Nat) (p1:api_Code) (p4:api_Code):Option Bool:=
 if (((decide (p1.Regs≠p4.Regs)) || (decide (p1.Counts≠p4.Counts))) || (decide ((p1.L.length:Int)≠(p4.L.length:Int))))=true then
  some false
 else
  (Z7j N Z7g p1 p4) N 0
def Z6s (N:Nat) (kZ6q:Option Bool) (p1:api_Unit) (p4:api_Unit):Nat→Int→Option Bool
 | 0,_=>none
 | n+1,vB1=>
  if vB1 < (p1.Threads.length:Int) then
   (getI p1.Threads vB1).bind fun x106=>
   (getI p4.Threads vB1).bind fun x115=>
   (Z7f N x106 x115).bind fun r124=>
   if r124=true then
    (Z6s N kZ6q p1 p4 n) (IntKind.i64.wrap (vB1+1))
   else
    some false
  else
   kZ6q
def Z6t (N:Nat) (kZ6r:Option Bool) (p1:api_Unit) (p4:api_Unit):Nat→Int→Option Bool
 | 0,_=>none
 | n+1,vB2=>
  if vB2 < (p1.Claims.length:Int) then
   (getI p1.Claims vB2).bind fun x128=>
   (getI p4.Claims vB2).bind fun x137=>
   (Z5k N x128 x137).bind fun r146=>
   if r146=true then
    (Z6t N kZ6r p1 p4 n) (IntKind.i64.wrap (vB2+1))
   else
    some false
  else
   kZ6r
def Z6r (N:Nat) (p1:api_Unit) (p4:api_Unit):Option Bool:=
 (Z7f N p1.Recover p4.Recover).bind fun r149=>
 some r149
def Z6q (N:Nat) (p1:api_Unit) (p4:api_Unit):Option Bool:=
 (Z6t N (Z6r N p1 p4) p1 p4) N 0
def Z6p (N:Nat) (p1:api_Unit) (p4:api_Unit) (vA1:Bool):Option Bool:=
 if vA1=true then
  some false
 else
  (Z6s N (Z6q N p1 p4) p1 p4) N 0
def Z6o (N:Nat) (p1:api_Unit) (p4:api_Unit):Option Bool:=
 (Z4a N p1.Lines p4.Lines).bind fun r99=>
 if ((!r99) || (decide (p1.Stays≠p4.Stays)))=true then
  (Z6p N p1 p4) true
 else
  (Z4a N p1.Firsts p4.Firsts).bind fun r102=>
  (Z6p N p1 p4) ((((!r102) || (decide (p1.Locks≠p4.Locks))) || (decide ((p1.Threads.length:Int)≠(p4.Threads.length:Int)))) || (decide ((p1.Claims.length:Int)≠(p4.Claims.length:Int))))
def Zg (N:Nat) (p1:Int):Option Str:=
 if ((decide (p1 < 1)) || (decide (16≤p1)))=true then
  some []
 else
  (Z1g [115,101,116,32,108,111,97,100,32,115,116,111,114,101,32,99,97,115,32,102,108,117,115,104,32,111,112,116,32,115,102,101,110,99,101,32,109,102,101,110,99,101,32,116,97,107,101,32,103,105,118,101,32,106,117,109,112,32,101,108,115,101,32,99,111,117,110,116,32,97,103,97,105,110,32,99,104,101,99,107]).bind fun rz3=>
  (getI rz3 (IntKind.i64.wrap (p1 - 1))).bind fun x10=>
  some x10
def Za5 (N:Nat) (p1:Int):Option Str:=
 (Pp p1).bind fun rz2=>
 some rz2
def Z11 (kZ12:(List Str)→Int→Option Str) (vB7:Int) (vC1:(List Str)):Option Str:=
 kZ12 vC1 (IntKind.i64.wrap (vB7+1))
def Z12 (N:Nat) (kZ10:(List Str)→Option Str) (p1:(List api_Op)):Nat→(List Str)→Int→Option Str
 | 0,_,_=>none
 | n+1,vB1,vB7=>
  if vB7 < (p1.length:Int) then
   (getI p1 vB7).bind fun xz8=>
   if xz8.Kind=1 then
    (Za5 N xz8.N).bind fun r15=>
    (Cw [35] r15).bind fun s17=>
    (B9 16 vB1 ([s17]:List Str)).bind fun l22=>
    (Z11 (Z12 N kZ10 p1 n) vB7) l22
   else
    if xz8.Kind=2 then
     (Za5 N xz8.N).bind fun r29=>
     (Cw [114] r29).bind fun s31=>
     (B9 16 vB1 ([s31]:List Str)).bind fun l36=>
     (Z11 (Z12 N kZ10 p1 n) vB7) l36
    else
     (Za5 N xz8.Kind).bind fun r42=>
     (Cw [58] r42).bind fun s44=>
     (B9 16 vB1 ([s44]:List Str)).bind fun l49=>
     (Z11 (Z12 N kZ10 p1 n) vB7) l49
  else
   kZ10 vB1
def Z10 (vA1:(List Str)):Option Str:=
 (Q9 vA1 [32]).bind fun r55=>
 (Cw [32,91] r55).bind fun s57=>
 (Cw s57 [93]).bind fun s59=>
 some s59
def Zz (N:Nat) (p1:(List api_Op)):Option Str:=
 if (p1.length:Int)=0 then
  some []
 else
  (Z12 N Z10 p1) N [] 0
def Zf (N:Nat) (kZe:Str→Option Str) (p1:api_Code):Nat→Str→Int→Option Str
 | 0,_,_=>none
 | n+1,vB1,vB6=>
  if vB6 < (p1.L.length:Int) then
   (getI p1.L vB6).bind fun x11=>
   (Za5 N vB6).bind fun r25=>
   (Cw r25 [32]).bind fun s27=>
   (Zg N x11.Kind).bind fun r29=>
   (Cw s27 r29).bind fun s31=>
   (Cw s31 [32]).bind fun s33=>
   (Za5 N x11.A).bind fun r35=>
   (Cw s33 r35).bind fun s37=>
   (Cw s37 [32]).bind fun s39=>
   (Za5 N x11.B).bind fun r41=>
   (Cw s39 r41).bind fun s43=>
   (Cw s43 [32]).bind fun s45=>
   (Za5 N x11.To).bind fun r47=>
   (Cw s45 r47).bind fun s49=>
   (Zz N x11.E).bind fun r51=>
   (Cw s49 r51).bind fun s53=>
   (Zz N x11.F).bind fun r55=>
   (Cw s53 r55).bind fun s57=>
   (Cw s57 [10]).bind fun s59=>
   (Px vB1 s59).bind fun s61=>
   (Zf N kZe p1 n) s61 (IntKind.i64.wrap (vB6+1))
  else
   kZe vB1
def Ze (vA1:Str):Option Str:=
 some vA1
def Zd (N:Nat) (p1:api_Code):Option Str:=
 (Zf N Ze p1) N [] 0
def Z24 (N:Nat)  : Option Bool:=
 (Z2 N (api_Unit.mk [] 0 [] 0 ([(api_Code.mk 1 0 ([(api_Instr.mk 1 0 0 ([(api_Op.mk 1 1),(api_Op.mk 1 2),(api_Op.mk 5 0)]:List api_Op) [] 0)]:List api_Instr))]:List api_Code) (api_Code.mk 0 0 []) [])).bind fun r23=>
 (Z0 N r23.1).bind fun r25=>
 (Cw r23.1 [120]).bind fun s79=>
 (Z0 N s79).bind fun r81=>
 (Z2 N (api_Unit.mk [] 0 [] 0 [] (api_Code.mk 0 0 []) [])).bind fun r135=>
 (Z7 N [172,2] 0).bind fun r137=>
 (Z7 N [128,0] 0).bind fun r139=>
 (Z7 N [128] 0).bind fun r141=>
 (Z7 N [] 1).bind fun r143=>
 (Z7 N [128,128,128,128,128,128,1] 0).bind fun r145=>
 (Z7x N (api_Unit.mk [] 0 [] 0 ([(api_Code.mk 1 0 ([(api_Instr.mk 1 0 0 ([(api_Op.mk 1 1),(api_Op.mk 1 2),(api_Op.mk 5 0)]:List api_Op) [] 0)]:List api_Instr))]:List api_Code) (api_Code.mk 0 0 []) [])).bind fun r147=>
 (Nf ((((decide (r23.2=0)) && (decide (r23.1=r147.1))) && (decide (r147.2=0))) && (decide (r25.2=0)))).bind fun _=>
 (Z6o N (api_Unit.mk [] 0 [] 0 ([(api_Code.mk 1 0 ([(api_Instr.mk 1 0 0 ([(api_Op.mk 1 1),(api_Op.mk 1 2),(api_Op.mk 5 0)]:List api_Op) [] 0)]:List api_Instr))]:List api_Code) (api_Code.mk 0 0 []) []) r25.1).bind fun r150=>
 (Nf (((((((((r150 && (decide (r81.2=8))) && (decide (r135.2=8))) && (decide (r137.1=300))) && (decide (r137.2.1=2))) && (decide (r137.2.2=0))) && (decide (r139.2.2=8))) && (decide (r141.2.2=6))) && (decide (r143.2.2=1))) && (decide (r145.2.2=2)))).bind fun _=>
 (Za N 300).bind fun r153=>
 (Nf (decide (r153=[172,2]))).bind fun _=>
 (Za N (-1)).bind fun r156=>
 (Nf (decide (r156=[]))).bind fun _=>
 (Zg N 15).bind fun r159=>
 (Nf (decide (r159=[99,104,101,99,107]))).bind fun _=>
 (getI ([(api_Code.mk 1 0 ([(api_Instr.mk 1 0 0 ([(api_Op.mk 1 1),(api_Op.mk 1 2),(api_Op.mk 5 0)]:List api_Op) [] 0)]:List api_Instr))]:List api_Code) 0).bind fun x162=>
 (Zd N x162).bind fun r171=>
 some (decide (r171=[48,32,115,101,116,32,48,32,48,32,48,32,91,35,49,32,35,50,32,58,53,93,10]))
def Z1v (N:Nat) (kZ1u:(List api_Cell)→Option (List api_Cell)) (p1:(List api_Cell)):Nat→(List api_Cell)→Int→Option (List api_Cell)
 | 0,_,_=>none
 | n+1,vB1,vB7=>
  if ((decide (vB7 < (p1.length:Int))) && (decide (vB7 < 8)))=true then
   (getI p1 vB7).bind fun x10=>
   (Dc x10.Name 0 (min (x10.Name.length:Int) 40)).bind fun s16=>
   (B9 32 vB1 ([(api_Cell.mk s16 x10.N x10.At)]:List api_Cell)).bind fun l21=>
   (Z1v N kZ1u p1 n) l21 (IntKind.i64.wrap (vB7+1))
  else
   kZ1u vB1
def Z1u (vA1:(List api_Cell)):Option (List api_Cell):=
 some vA1
def Z1t (N:Nat) (p1:(List api_Cell)):Option (List api_Cell):=
 (Z1v N Z1u p1) N [] 0
def Z1j (N:Nat) (kZ1i:(List api_Node)→Option (List api_Node)) (p1:(List api_Node)):Nat→(List api_Node)→Int→Option (List api_Node)
 | 0,_,_=>none
 | n+1,vB1,vB7=>
  if ((decide (vB7 < (p1.length:Int))) && (decide (vB7 < 60)))=true then
   (getI p1 vB7).bind fun x10=>
   (Dc x10.Name 0 (min (x10.Name.length:Int) 40)).bind fun s16=>
   (B9 40 vB1 ([(api_Node.mk x10.Op x10.N s16 x10.At)]:List api_Node)).bind fun l21=>
   (Z1j N kZ1i p1 n) l21 (IntKind.i64.wrap (vB7+1))
  else
   kZ1i vB1
def Z1i (vA1:(List api_Node)):Option (List api_Node):=
 some vA1
def Z1h (N:Nat) (p1:(List api_Node)):Option (List api_Node):=
 (Z1j N Z1i p1) N [] 0
def Z1m (N:Nat) (kZ1l:(List api_Stmt)→Option (List api_Stmt)) (p1:(List api_Stmt)):Nat→(List api_Stmt)→Int→Option (List api_Stmt)
 | 0,_,_=>none
 | n+1,vB2,vB8=>
  if ((decide (vB8 < (p1.length:Int))) && (decide (vB8 < 50)))=true then
   (getI p1 vB8).bind fun x10=>
   (Dc x10.Reg 0 (min (x10.Reg.length:Int) 40)).bind fun s24=>
   (Dc x10.Name 0 (min (x10.Name.length:Int) 40)).bind fun s26=>
   (Z1h N x10.E).bind fun r28=>
   (Z1h N x10.F).bind fun r35=>
   (B9 120 vB2 ([(api_Stmt.mk x10.Kind s24 s26 r28 r35 x10.N x10.Body x10.Else x10.At)]:List api_Stmt)).bind fun l53=>
   (Z1m N kZ1l p1 n) l53 (IntKind.i64.wrap (vB8+1))
  else
   kZ1l vB2
def Z1l (vA2:(List api_Stmt)):Option (List api_Stmt):=
 some vA2
def Z1k (N:Nat) (p1:(List api_Stmt)):Option (List api_Stmt):=
 (Z1m N Z1l p1) N [] 0
def Z22 (N:Nat) (kZ20:(List Str)→Option (List api_Thread)) (p1:(List api_Thread)) (vB8:Int):Nat→(List Str)→Int→Option (List api_Thread)
 | 0,_,_=>none
 | n+1,vE1,vE7=>
  (getI p1 vB8).bind fun x36=>
  if ((decide (vE7 < (x36.Regs.length:Int))) && (decide (vE7 < 6)))=true then
   (getI x36.Regs vE7).bind fun x50=>
   (Dc x50 0 (min (x50.length:Int) 40)).bind fun s55=>
   (B9 16 vE1 ([s55]:List Str)).bind fun l60=>
   (Z22 N kZ20 p1 vB8 n) l60 (IntKind.i64.wrap (vE7+1))
  else
   kZ20 vE1
def Z20 (kZ1y:(List api_Thread)→Option (List api_Thread)) (vD3:Str) (vD4:(List api_Stmt)) (vD9:Int) (vB2:(List api_Thread)) (vD10:(List Str)):Option (List api_Thread):=
 (B9 72 vB2 ([(api_Thread.mk vD3 vD10 vD4 vD9)]:List api_Thread)).bind fun l73=>
 kZ1y l73
def Z1z (N:Nat) (kZ1y:(List api_Thread)→Option (List api_Thread)) (p1:(List api_Thread)) (vB2:(List api_Thread)) (vB8:Int) (vD3:Str) (vD4:(List api_Stmt)) (vD9:Int):Option (List api_Thread):=
 (Z22 N (Z20 kZ1y vD3 vD4 vD9 vB2) p1 vB8) N [] 0
def Z1y (kZ21:(List api_Thread)→Int→Option (List api_Thread)) (vB8:Int) (vC2:(List api_Thread)):Option (List api_Thread):=
 kZ21 vC2 (IntKind.i64.wrap (vB8+1))
def Z21 (N:Nat) (kZ1x:(List api_Thread)→Option (List api_Thread)) (p1:(List api_Thread)):Nat→(List api_Thread)→Int→Option (List api_Thread)
 | 0,_,_=>none
 | n+1,vB2,vB8=>
  if ((decide (vB8 < (p1.length:Int))) && (decide (vB8 < 4)))=true then
   (getI p1 vB8).bind fun x10=>
   (Dc x10.Name 0 (min (x10.Name.length:Int) 40)).bind fun s23=>
   (Z1k N x10.Body).bind fun r25=>
   (Z1z N (Z1y (Z21 N kZ1x p1 n) vB8) p1 vB2 vB8) s23 r25 x10.At
  else
   kZ1x vB2
def Z1x (vA2:(List api_Thread)):Option (List api_Thread):=
 some vA2
def Z1w (N:Nat) (p1:(List api_Thread)):Option (List api_Thread):=
 (Z21 N Z1x p1) N [] 0
def Z1r (N:Nat) (kZ1p:(List (List api_Cell))→Option api_Prog) (p1:api_Prog):Nat→(List (List api_Cell))→Int→Option api_Prog
 | 0,_,_=>none
 | n+1,vB2,vB8=>
  if ((decide (vB8 < (p1.Lines.length:Int))) && (decide (vB8 < 6)))=true then
   (getI p1.Lines vB8).bind fun x66=>
   (Z1t N x66).bind fun r75=>
   (B9 24 vB2 ([r75]:List (List api_Cell))).bind fun l89=>
   (Z1r N kZ1p p1 n) l89 (IntKind.i64.wrap (vB8+1))
  else
   kZ1p vB2
def Z1s (N:Nat) (kZ1q:(List api_Claim)→Option api_Prog) (p1:api_Prog):Nat→(List api_Claim)→Int→Option api_Prog
 | 0,_,_=>none
 | n+1,vB10,vB16=>
  if ((decide (vB16 < (p1.Claims.length:Int))) && (decide (vB16 < 6)))=true then
   (getI p1.Claims vB16).bind fun x96=>
   (Z1h N x96.E).bind fun r105=>
   (B9 32 vB10 ([(api_Claim.mk r105 x96.At)]:List api_Claim)).bind fun l119=>
   (Z1s N kZ1q p1 n) l119 (IntKind.i64.wrap (vB16+1))
  else
   kZ1q vB10
def Z1q (vA3:(List api_Cell)) (vA9:(List api_Cell)) (vA15:(List api_Thread)) (vA20:(List api_Thread)) (vA26:(List (List api_Cell))) (vA33:(List api_Claim)):Option api_Prog:=
 some (api_Prog.mk vA26 vA3 vA9 vA15 vA20 vA33)
def Z1p (N:Nat) (p1:api_Prog) (vA3:(List api_Cell)) (vA9:(List api_Cell)) (vA15:(List api_Thread)) (vA20:(List api_Thread)) (vA26:(List (List api_Cell))):Option api_Prog:=
 (Z1s N (Z1q vA3 vA9 vA15 vA20 vA26) p1) N [] 0
def Z1o (N:Nat) (p1:api_Prog) (vA3:(List api_Cell)) (vA9:(List api_Cell)) (vA15:(List api_Thread)) (vA20:(List api_Thread)):Option api_Prog:=
 (Z1r N (Z1p N p1 vA3 vA9 vA15 vA20) p1) N [] 0
def Z1n (N:Nat) (p1:api_Prog):Option api_Prog:=
 (Z1t N p1.Vols).bind fun r30=>
 (Z1t N p1.Locks).bind fun r37=>
 (Z1w N p1.Threads).bind fun r44=>
 (Z1w N p1.Recover).bind fun r54=>
 (Z1o N p1) r30 r37 r44 r54
def Z2e (N:Nat) (p1:Int):Option Bool:=
 some (((decide (97≤p1)) && (decide (p1≤122))) || (decide (p1=95)))
def Z27 (N:Nat) (kZ26:Option Bool) (p1:Str):Nat→Int→Option Bool
 | 0,_=>none
 | n+1,vB1=>
  if vB1 < (([[108,105,110,101],[118,111,108],[108,111,99,107],[116,104,114,101,97,100],[114,101,103],[108,111,97,100],[115,116,111,114,101],[99,97,115],[102,108,117,115,104],[111,112,116],[115,102,101,110,99,101],[109,102,101,110,99,101],[116,97,107,101],[103,105,118,101],[105,102],[101,108,115,101],[108,111,111,112],[98,114,101,97,107],[99,104,101,99,107],[114,101,99,111,118,101,114],[97,108,119,97,121,115]]:List Str).length:Int) then
   (getI ([[108,105,110,101],[118,111,108],[108,111,99,107],[116,104,114,101,97,100],[114,101,103],[108,111,97,100],[115,116,111,114,101],[99,97,115],[102,108,117,115,104],[111,112,116],[115,102,101,110,99,101],[109,102,101,110,99,101],[116,97,107,101],[103,105,118,101],[105,102],[101,108,115,101],[108,111,111,112],[98,114,101,97,107],[99,104,101,99,107],[114,101,99,111,118,101,114],[97,108,119,97,121,115]]:List Str) vB1).bind fun xz6=>
   if xz6=p1 then
    some true
   else
    (Z27 N kZ26 p1 n) (IntKind.i64.wrap (vB1+1))
  else
   kZ26
def Z26  : Option Bool:=
 some false
def Z25 (N:Nat) (p1:Str):Option Bool:=
 (Z27 N Z26 p1) N 0
def Z2d (N:Nat) (p1:Int):Option Bool:=
 some ((decide (48≤p1)) && (decide (p1≤57)))
def Z2b (kZ2c:Int→Option Bool) (vB1:Int) (vC1:Bool):Option Bool:=
 if vC1=true then
  some false
 else
  kZ2c (IntKind.i64.wrap (vB1+1))
def Z2c (N:Nat) (kZ2a:Option Bool) (p1:Str):Nat→Int→Option Bool
 | 0,_=>none
 | n+1,vB1=>
  if vB1 < (p1.length:Int) then
   (Hw p1 vB1).bind fun x12=>
   (Z2e N x12).bind fun r14=>
   if r14=true then
    (Z2b (Z2c N kZ2a p1 n) vB1) false
   else
    (Hw p1 vB1).bind fun x17=>
    (Z2d N x17).bind fun r19=>
    (Z2b (Z2c N kZ2a p1 n) vB1) (!r19)
  else
   kZ2a
def Z2a  : Option Bool:=
 some true
def Z29 (N:Nat) (p1:Str) (vA1:Bool):Option Bool:=
 if vA1=true then
  some false
 else
  (Z2c N Z2a p1) N 0
def Z28 (N:Nat) (p1:Str):Option Bool:=
 if ((decide ((p1.length:Int) < 1)) || (decide (16 < (p1.length:Int))))=true then
  (Z29 N p1) true
 else
  (Hw p1 0).bind fun xz3=>
  (Z2e N xz3).bind fun rz5=>
  if rz5=true then
   (Z25 N p1).bind fun rz8=>
   (Z29 N p1) rz8
  else
   (Z29 N p1) true
def Z3i (N:Nat) (p1:Int):Option Bool:=
 some ((decide (0≤p1)) && (decide (p1≤4000)))
def Z3g (kZ3h:Int→Option Bool) (vB1:Int) (vC1:Bool):Option Bool:=
 if vC1=true then
  some false
 else
  kZ3h (IntKind.i64.wrap (vB1+1))
def Z3h (N:Nat) (kZ3f:Option Bool) (p1:(List api_Cell)) (p6:Int):Nat→Int→Option Bool
 | 0,_=>none
 | n+1,vB1=>
  if vB1 < (p1.length:Int) then
   (getI p1 vB1).bind fun xz8=>
   (Z28 N xz8.Name).bind fun r13=>
   if (((!r13) || (decide (xz8.N < 0))) || (decide (p6 < xz8.N)))=true then
    (Z3g (Z3h N kZ3f p1 p6 n) vB1) true
   else
    (Z3i N xz8.At).bind fun r16=>
    (Z3g (Z3h N kZ3f p1 p6 n) vB1) (!r16)
  else
   kZ3f
def Z3f  : Option Bool:=
 some true
def Z3e (N:Nat) (p1:(List api_Cell)) (p6:Int):Option Bool:=
 (Z3h N Z3f p1 p6) N 0
def Z2j (N:Nat) (p1:Int):Option Int:=
 if ((decide (p1=1)) || (decide (p1=2)))=true then
  some 0
 else
  if ((decide (p1=3)) || (decide (p1=4)))=true then
   some 1
  else
   if ((decide (5≤p1)) && (decide (p1≤15)))=true then
    some 2
   else
    some (-1)
def Z2i (rf:(List api_Node)→Int→Option Int) (N:Nat) (kZ2h:Int→Option Int) (p1:(List api_Node)) (p6:Int):Nat→Int→Int→Option Int
 | 0,_,_=>none
 | n+1,vB1,vB2=>
  (getI p1 p6).bind fun x16=>
  (Z2j N x16.Op).bind fun r21=>
  if ((decide (vB2 < r21)) && (decide (0≤vB1)))=true then
   (rf p1 vB1).bind fun r24=>
   (Z2i rf N kZ2h p1 p6 n) r24 (IntKind.i64.wrap (vB2+1))
  else
   kZ2h vB1
def Z2h (vA2:Int):Option Int:=
 some vA2
def Z2g (rf:(List api_Node)→Int→Option Int) (N:Nat) (p1:(List api_Node)) (p6:Int) (vA1:Bool):Option Int:=
 if vA1=true then
  some (-1)
 else
  (Z2i rf N Z2h p1 p6) N (IntKind.i64.wrap (p6+1)) 0
def Z2f:Nat→(List api_Node)→Int→Option Int
 | 0,_,_=>none
 | N+1,p1,p6=>
  if ((decide (p6 < 0)) || (decide ((p1.length:Int)≤p6)))=true then
   (Z2g (Z2f N) N p1 p6) true
  else
   (getI p1 p6).bind fun xz8=>
   (Z2j N xz8.Op).bind fun r13=>
   (Z2g (Z2f N) N p1 p6) (decide (r13 < 0))
def Z2r (rf:(List api_Node)→Int→Option Int) (N:Nat) (kZ2q:Int→Option Int) (p1:(List api_Node)) (p6:Int):Nat→Int→Int→Int→Option Int
 | 0,_,_,_=>none
 | n+1,vB1,vB2,vB3=>
  (getI p1 p6).bind fun xz7=>
  (Z2j N xz7.Op).bind fun r12=>
  if vB3 < r12 then
   (rf p1 vB2).bind fun r15=>
   (Z2f N p1 vB2).bind fun r17=>
   (Z2r rf N kZ2q p1 p6 n) (max vB1 r15) r17 (IntKind.i64.wrap (vB3+1))
  else
   kZ2q vB1
def Z2q (vA1:Int):Option Int:=
 some (IntKind.i64.wrap (vA1+1))
def Z2p:Nat→(List api_Node)→Int→Option Int
 | 0,_,_=>none
 | N+1,p1,p6=>
  (Z2r (Z2p N) N Z2q p1 p6) N 0 (IntKind.i64.wrap (p6+1)) 0
def Z2n (kZ2o:Int→Option Bool) (vB1:Int) (vC1:Bool):Option Bool:=
 if vC1=true then
  some false
 else
  kZ2o (IntKind.i64.wrap (vB1+1))
def Z2o (N:Nat) (kZ2m:Option Bool) (p1:(List api_Node)):Nat→Int→Option Bool
 | 0,_=>none
 | n+1,vB1=>
  if vB1 < (p1.length:Int) then
   (getI p1 vB1).bind fun x11=>
   if ((((((decide (x11.At < 0)) || (decide (4000 < x11.At))) || ((decide (x11.Op≠1)) && (decide (x11.N≠0)))) || ((decide (x11.Op≠2)) && (decide (x11.Name≠[])))) || (decide (x11.N < 0))) || (decide (4294967296 < x11.N)))=true then
    (Z2n (Z2o N kZ2m p1 n) vB1) true
   else
    if x11.Op=2 then
     (Z28 N x11.Name).bind fun r19=>
     (Z2n (Z2o N kZ2m p1 n) vB1) (!r19)
    else
     (Z2n (Z2o N kZ2m p1 n) vB1) false
  else
   kZ2m
def Z2m (N:Nat) (p1:(List api_Node)):Option Bool:=
 (Z2p N p1 0).bind fun r22=>
 some (decide (r22≤12))
def Z2l (N:Nat) (p1:(List api_Node)) (vA1:Bool):Option Bool:=
 if vA1=true then
  some false
 else
  (Z2o N (Z2m N p1) p1) N 0
def Z2k (N:Nat) (p1:(List api_Node)):Option Bool:=
 if 40 < (p1.length:Int) then
  (Z2l N p1) true
 else
  (Z2f N p1 0).bind fun rz7=>
  (Z2l N p1) (decide (rz7≠(p1.length:Int)))
def Z2s (N:Nat) (p1:Int):Option Str:=
 if ((decide (p1 < 1)) || (decide (14 < p1)))=true then
  some []
 else
  (getI ([[],[114,101],[114,110],[110,101],[114,110,101,102],[110],[110],[],[],[110],[110],[101,98],[107,98],[],[101]]:List Str) p1).bind fun xz6=>
  some xz6
def Z2y (N:Nat) (kZ2x:Option Bool) (p1:Str) (p2:Int):Nat→Int→Option Bool
 | 0,_=>none
 | n+1,vB1=>
  if vB1 < (p1.length:Int) then
   (Hw p1 vB1).bind fun xz4=>
   if xz4=p2 then
    some true
   else
    (Z2y N kZ2x p1 p2 n) (IntKind.i64.wrap (vB1+1))
  else
   kZ2x
def Z2x  : Option Bool:=
 some false
def Z2w (N:Nat) (p1:Str) (p2:Int):Option Bool:=
 (Z2y N Z2x p1 p2) N 0
def Z36 (N:Nat) (p1:api_Stmt) (r14:Str) (vA2:Bool):Option Bool:=
 if vA2=true then
  some false
 else
  (Z2w N r14 107).bind fun r36=>
  if r36=true then
   some ((decide (1≤p1.N)) && (decide (p1.N≤8)))
  else
   some (decide (p1.N=0))
def Z35 (N:Nat) (p1:api_Stmt) (r14:Str) (r20:Bool) (r22:Bool) (vA1:Bool):Option Bool:=
 if vA1=true then
  some false
 else
  (Z2k N p1.E).bind fun r30=>
  if ((r20 != r30) || ((!r20) && (decide (0 < (p1.E.length:Int)))))=true then
   (Z36 N p1 r14) true
  else
   (Z2k N p1.F).bind fun r33=>
   (Z36 N p1 r14) ((r22 != r33) || ((!r22) && (decide (0 < (p1.F.length:Int)))))
def Z34 (N:Nat) (p1:api_Stmt):Option Bool:=
 if ((((decide (p1.Kind < 1)) || (decide (14 < p1.Kind))) || (decide (p1.At < 0))) || (decide (4000 < p1.At)))=true then
  some false
 else
  (Z2s N p1.Kind).bind fun r14=>
  (Z2w N r14 114).bind fun r16=>
  (Z2w N r14 110).bind fun r18=>
  (Z2w N r14 101).bind fun r20=>
  (Z2w N r14 102).bind fun r22=>
  (Z28 N p1.Reg).bind fun r24=>
  if ((r16 != r24) || ((!r16) && (decide (p1.Reg≠[]))))=true then
   (Z35 N p1 r14 r20 r22) true
  else
   (Z28 N p1.Name).bind fun r27=>
   (Z35 N p1 r14 r20 r22) ((r18 != r27) || ((!r18) && (decide (p1.Name≠[]))))
def Z32 (kZ33:Int→Int→Option Int) (xz8:api_Stmt) (vB2:Int) (vC2:Int):Option Int:=
 kZ33 vC2 (IntKind.i64.wrap ((IntKind.i64.wrap ((IntKind.i64.wrap (vB2+1))+xz8.Body))+xz8.Else))
def Z31 (rf:(List api_Stmt)→Int→Option Int) (kZ33:Int→Int→Option Int) (p1:(List api_Stmt)) (xz8:api_Stmt) (vB1:Int) (vB2:Int) (vC1:Int):Option Int:=
 if ((decide (xz8.Kind=11)) || (decide (xz8.Kind=12)))=true then
  (Dc p1 (IntKind.i64.wrap (vB2+1)) (IntKind.i64.wrap ((IntKind.i64.wrap (vB2+1))+xz8.Body))).bind fun l26=>
  (rf l26 vC1).bind fun r34=>
  (Dc p1 (IntKind.i64.wrap ((IntKind.i64.wrap (vB2+1))+xz8.Body)) (IntKind.i64.wrap ((IntKind.i64.wrap ((IntKind.i64.wrap (vB2+1))+xz8.Body))+xz8.Else))).bind fun l36=>
  (rf l36 vC1).bind fun r44=>
  if ((decide (r34 < 0)) || (decide (r44 < 0)))=true then
   some (-1)
  else
   (Z32 kZ33 xz8 vB2) (max (max vB1 (IntKind.i64.wrap (1+r34))) (IntKind.i64.wrap (1+r44)))
 else
  (Z32 kZ33 xz8 vB2) vB1
def Z33 (rf:(List api_Stmt)→Int→Option Int) (N:Nat) (kZ30:Int→Option Int) (p1:(List api_Stmt)) (p6:Int):Nat→Int→Int→Option Int
 | 0,_,_=>none
 | n+1,vB1,vB2=>
  if vB2 < (p1.length:Int) then
   (getI p1 vB2).bind fun xz8=>
   if (((((decide (xz8.Body < 0)) || (decide (xz8.Else < 0))) || (decide (40 < xz8.Body))) || (decide (40 < xz8.Else))) || (decide ((p1.length:Int) < (IntKind.i64.wrap ((IntKind.i64.wrap ((IntKind.i64.wrap (vB2+1))+xz8.Body))+xz8.Else)))))=true then
    some (-1)
   else
    if (((((decide (0 < xz8.Body)) && (decide (xz8.Kind≠11))) && (decide (xz8.Kind≠12))) || ((decide (0 < xz8.Else)) && (decide (xz8.Kind≠11)))) || ((decide (xz8.Kind=13)) && (decide (p6=0))))=true then
     some (-1)
    else
     if xz8.Kind=12 then
      (Z31 rf (Z33 rf N kZ30 p1 p6 n) p1 xz8 vB1 vB2) (IntKind.i64.wrap (p6+1))
     else
      (Z31 rf (Z33 rf N kZ30 p1 p6 n) p1 xz8 vB1 vB2) p6
  else
   kZ30 vB1
def Z30 (vA1:Int):Option Int:=
 some vA1
def Z2z:Nat→(List api_Stmt)→Int→Option Int
 | 0,_,_=>none
 | N+1,p1,p6=>
  (Z33 (Z2z N) N Z30 p1 p6) N 0 0
def Z2v (N:Nat) (kZ2u:Option Bool) (p1:(List api_Stmt)):Nat→Int→Option Bool
 | 0,_=>none
 | n+1,vB1=>
  if vB1 < (p1.length:Int) then
   (getI p1 vB1).bind fun xz8=>
   (Z34 N xz8).bind fun r21=>
   if r21=true then
    (Z2v N kZ2u p1 n) (IntKind.i64.wrap (vB1+1))
   else
    some false
  else
   kZ2u
def Z2u (N:Nat) (p1:(List api_Stmt)):Option Bool:=
 (Z2z N p1 0).bind fun r24=>
 some ((decide (0≤r24)) && (decide (r24≤12)))
def Z2t (N:Nat) (p1:(List api_Stmt)):Option Bool:=
 if 40 < (p1.length:Int) then
  some false
 else
  (Z2v N (Z2u N p1) p1) N 0
def Z3o (N:Nat) (kZ3l:Option Bool) (p1:(List api_Thread)) (vB1:Int):Nat→Int→Option Bool
 | 0,_=>none
 | n+1,vD2=>
  (getI p1 vB1).bind fun x30=>
  if vD2 < (x30.Regs.length:Int) then
   (getI x30.Regs vD2).bind fun x44=>
   (Z28 N x44).bind fun r49=>
   if r49=true then
    (Z3o N kZ3l p1 vB1 n) (IntKind.i64.wrap (vD2+1))
   else
    some false
  else
   kZ3l
def Z3m (N:Nat) (kZ3l:Option Bool) (p1:(List api_Thread)) (vB1:Int) (vD1:Bool):Option Bool:=
 if vD1=true then
  some false
 else
  (Z3o N kZ3l p1 vB1) N 0
def Z3l (kZ3n:Int→Option Bool) (vB1:Int):Option Bool:=
 kZ3n (IntKind.i64.wrap (vB1+1))
def Z3n (N:Nat) (kZ3k:Option Bool) (p1:(List api_Thread)) (p6:Bool):Nat→Int→Option Bool
 | 0,_=>none
 | n+1,vB1=>
  if vB1 < (p1.length:Int) then
   (getI p1 vB1).bind fun xz8=>
   (Z28 N xz8.Name).bind fun r21=>
   if ((p6 != r21) || ((!p6) && (decide (xz8.Name≠[]))))=true then
    (Z3m N (Z3l (Z3n N kZ3k p1 p6 n) vB1) p1 vB1) true
   else
    (Z3i N xz8.At).bind fun r24=>
    if r24=true then
     (Z2t N xz8.Body).bind fun r27=>
     (Z3m N (Z3l (Z3n N kZ3k p1 p6 n) vB1) p1 vB1) (!r27)
    else
     (Z3m N (Z3l (Z3n N kZ3k p1 p6 n) vB1) p1 vB1) true
  else
   kZ3k
def Z3k  : Option Bool:=
 some true
def Z3j (N:Nat) (p1:(List api_Thread)) (p6:Bool):Option Bool:=
 (Z3n N Z3k p1 p6) N 0
def Z39 (kZ3c:Int→Option Bool) (vB1:Int) (vC1:Bool):Option Bool:=
 if vC1=true then
  some false
 else
  kZ3c (IntKind.i64.wrap (vB1+1))
def Z3c (N:Nat) (kZ38:Option Bool) (p1:api_Prog):Nat→Int→Option Bool
 | 0,_=>none
 | n+1,vB1=>
  if vB1 < (p1.Lines.length:Int) then
   (getI p1.Lines vB1).bind fun x30=>
   if (x30.length:Int)=0 then
    (Z39 (Z3c N kZ38 p1 n) vB1) true
   else
    (Z3e N x30 4294967296).bind fun r40=>
    (Z39 (Z3c N kZ38 p1 n) vB1) (!r40)
  else
   kZ38
def Z3b (kZ3d:Int→Option Bool) (vB2:Int) (vC2:Bool):Option Bool:=
 if vC2=true then
  some false
 else
  kZ3d (IntKind.i64.wrap (vB2+1))
def Z3d (N:Nat) (kZ3a:Option Bool) (p1:api_Prog):Nat→Int→Option Bool
 | 0,_=>none
 | n+1,vB2=>
  if vB2 < (p1.Claims.length:Int) then
   (getI p1.Claims vB2).bind fun x44=>
   (Z3i N x44.At).bind fun r53=>
   if r53=true then
    (Z2k N x44.E).bind fun r56=>
    (Z3b (Z3d N kZ3a p1 n) vB2) (!r56)
   else
    (Z3b (Z3d N kZ3a p1 n) vB2) true
  else
   kZ3a
def Z3a (N:Nat) (p1:api_Prog):Option Bool:=
 (Z3e N p1.Vols 4294967296).bind fun r59=>
 if r59=true then
  (Z3e N p1.Locks 0).bind fun r62=>
  if r62=true then
   (Z3j N p1.Threads true).bind fun r65=>
   if r65=true then
    (Z3j N p1.Recover false).bind fun r68=>
    some (r68 && (decide ((p1.Recover.length:Int)≤1)))
   else
    some false
  else
   some false
 else
  some false
def Z38 (N:Nat) (p1:api_Prog):Option Bool:=
 (Z3d N (Z3a N p1) p1) N 0
def Z37 (N:Nat) (p1:api_Prog):Option Bool:=
 (Z3c N (Z38 N p1) p1) N 0
def Z4p (N:Nat) (p1:api_Prog):Option (List api_Thread):=
 (B9 72 ([]:List api_Thread) p1.Threads).bind fun l32=>
 (B9 72 l32 p1.Recover).bind fun l41=>
 some l41
def Z4t (N:Nat) (kZ4r:Option Bool) (p1:api_Prog):Nat→Int→Option Bool
 | 0,_=>none
 | n+1,vB1=>
  if vB1 < (p1.Lines.length:Int) then
   (getI p1.Lines vB1).bind fun x30=>
   if 4 < (x30.length:Int) then
    some true
   else
    (Z4t N kZ4r p1 n) (IntKind.i64.wrap (vB1+1))
  else
   kZ4r
def Z4u (N:Nat) (kZ4s:Option Bool) (r40:(List api_Thread)):Nat→Int→Option Bool
 | 0,_=>none
 | n+1,vB2=>
  if vB2 < (r40.length:Int) then
   (getI r40 vB2).bind fun x51=>
   if 4 < (x51.Regs.length:Int) then
    some true
   else
    (Z4u N kZ4s r40 n) (IntKind.i64.wrap (vB2+1))
  else
   kZ4s
def Z4s (p1:api_Prog):Option Bool:=
 some ((((((decide (4 < (p1.Lines.length:Int))) || (decide (4 < (p1.Vols.length:Int)))) || (decide (2 < (p1.Locks.length:Int)))) || (decide ((p1.Threads.length:Int) < 1))) || (decide (3 < (p1.Threads.length:Int)))) || (decide (4 < (p1.Claims.length:Int))))
def Z4r (N:Nat) (p1:api_Prog):Option Bool:=
 (Z4p N p1).bind fun r40=>
 (Z4u N (Z4s p1) r40) N 0
def Z4q (N:Nat) (p1:api_Prog):Option Bool:=
 (Z4t N (Z4r N p1) p1) N 0
def Z5c (rf:(List api_Stmt)→Int→Option Int) (p1:(List api_Stmt)) (p6:Int) (xz8:api_Stmt) (vA1:Int):Option Int:=
 if 64 < vA1 then
  some xz8.At
 else
  (Dc p1 1 (IntKind.i64.wrap ((IntKind.i64.wrap (1+xz8.Body))+xz8.Else))).bind fun l24=>
  (rf l24 vA1).bind fun r32=>
  if 0≤r32 then
   some r32
  else
   (Dc p1 (IntKind.i64.wrap ((IntKind.i64.wrap (1+xz8.Body))+xz8.Else)) (p1.length:Int)).bind fun l35=>
   (rf l35 p6).bind fun r43=>
   some r43
def Z5b:Nat→(List api_Stmt)→Int→Option Int
 | 0,_,_=>none
 | N+1,p1,p6=>
  if (p1.length:Int)=0 then
   some (-1)
  else
   (getI p1 0).bind fun xz8=>
   if xz8.Kind=12 then
    (Z5c (Z5b N) p1 p6 xz8) (IntKind.i64.wrap (p6 * xz8.N))
   else
    (Z5c (Z5b N) p1 p6 xz8) p6
def Z3r (N:Nat) (kZ3q:(List api_Cell)→Option (List api_Cell)) (p1:api_Prog):Nat→(List api_Cell)→Int→Option (List api_Cell)
 | 0,_,_=>none
 | n+1,vB1,vB7=>
  if vB7 < (p1.Lines.length:Int) then
   (getI p1.Lines vB7).bind fun x33=>
   (B9 32 vB1 x33).bind fun l42=>
   (Z3r N kZ3q p1 n) l42 (IntKind.i64.wrap (vB7+1))
  else
   kZ3q vB1
def Z3q (p1:api_Prog) (vA1:(List api_Cell)):Option (List api_Cell):=
 (B9 32 vA1 p1.Vols).bind fun l51=>
 some l51
def Z3p (N:Nat) (p1:api_Prog):Option (List api_Cell):=
 (Z3r N (Z3q p1) p1) N [] 0
def Z4k (N:Nat) (kZ4j:(List Str)→Option (List Str)) (p1:(List api_Cell)):Nat→(List Str)→Int→Option (List Str)
 | 0,_,_=>none
 | n+1,vB1,vB7=>
  if vB7 < (p1.length:Int) then
   (getI p1 vB7).bind fun x10=>
   (B9 16 vB1 ([x10.Name]:List Str)).bind fun l18=>
   (Z4k N kZ4j p1 n) l18 (IntKind.i64.wrap (vB7+1))
  else
   kZ4j vB1
def Z4j (vA1:(List Str)):Option (List Str):=
 some vA1
def Z4i (N:Nat) (p1:(List api_Cell)):Option (List Str):=
 (Z4k N Z4j p1) N [] 0
def Z4n (N:Nat) (kZ4m:Option Int) (p1:(List Str)) (p6:Str):Nat→Int→Option Int
 | 0,_=>none
 | n+1,vB1=>
  if vB1 < (p1.length:Int) then
   (getI p1 vB1).bind fun xz8=>
   if xz8=p6 then
    some vB1
   else
    (Z4n N kZ4m p1 p6 n) (IntKind.i64.wrap (vB1+1))
  else
   kZ4m
def Z4m  : Option Int:=
 some (-1)
def Z4l (N:Nat) (p1:(List Str)) (p6:Str):Option Int:=
 (Z4n N Z4m p1 p6) N 0
def Z55 (N:Nat) (kZ53:(List api_Cell)→Option Int) (p1:api_Prog):Nat→(List api_Cell)→Int→Option Int
 | 0,_,_=>none
 | n+1,vB1,vB7=>
  if vB7 < (p1.Threads.length:Int) then
   (getI p1.Threads vB7).bind fun x55=>
   (B9 32 vB1 ([(api_Cell.mk x55.Name 0 x55.At)]:List api_Cell)).bind fun l71=>
   (Z55 N kZ53 p1 n) l71 (IntKind.i64.wrap (vB7+1))
  else
   kZ53 vB1
def Z56 (N:Nat) (kZ54:Option Int) (vA1:(List api_Cell)) (r77:(List Str)):Nat→Int→Option Int
 | 0,_=>none
 | n+1,vB8=>
  if vB8 < (vA1.length:Int) then
   (getI vA1 vB8).bind fun x85=>
   (Z4l N r77 x85.Name).bind fun r91=>
   if r91 < vB8 then
    some x85.At
   else
    (Z56 N kZ54 vA1 r77 n) (IntKind.i64.wrap (vB8+1))
  else
   kZ54
def Z54  : Option Int:=
 some (-1)
def Z53 (N:Nat) (vA1:(List api_Cell)):Option Int:=
 (Z4i N vA1).bind fun r77=>
 (Z56 N Z54 vA1 r77) N 0
def Z52 (N:Nat) (p1:api_Prog):Option Int:=
 (Z3p N p1).bind fun r32=>
 (B9 32 ([]:List api_Cell) r32).bind fun l39=>
 (B9 32 l39 p1.Locks).bind fun l45=>
 (Z55 N (Z53 N) p1) N l45 0
def Z3s (N:Nat) (p1:api_Prog):Option (List Str):=
 (Z3p N p1).bind fun r29=>
 (Z4i N r29).bind fun r36=>
 some r36
def Z4h (N:Nat) (p1:api_Prog):Option (List Str):=
 (Z4i N p1.Locks).bind fun r29=>
 some r29
def Z4o (N:Nat) (p1:api_Prog):Option Int:=
 (Z3p N p1).bind fun r29=>
 some (IntKind.i64.wrap ((r29.length:Int) - (p1.Vols.length:Int)))
def Z59 (kZ5a:Int→Option Int) (p1:(List api_Node)) (vB1:Int) (vC1:Bool):Option Int:=
 if vC1=true then
  (getI p1 vB1).bind fun x21=>
  some x21.At
 else
  kZ5a (IntKind.i64.wrap (vB1+1))
def Z5a (N:Nat) (kZ58:Option Int) (p1:(List api_Node)) (p6:(List Str)):Nat→Int→Option Int
 | 0,_=>none
 | n+1,vB1=>
  if vB1 < (p1.length:Int) then
   (getI p1 vB1).bind fun x12=>
   if x12.Op=2 then
    (Z4l N p6 x12.Name).bind fun r18=>
    (Z59 (Z5a N kZ58 p1 p6 n) p1 vB1) (decide (r18 < 0))
   else
    (Z59 (Z5a N kZ58 p1 p6 n) p1 vB1) false
  else
   kZ58
def Z58  : Option Int:=
 some (-1)
def Z57 (N:Nat) (p1:(List api_Node)) (p6:(List Str)):Option Int:=
 (Z5a N Z58 p1 p6) N 0
def Z50 (kZ4x:Option Int) (p7:api_Stmt) (vB3:Bool):Option Int:=
 if vB3=true then
  some p7.At
 else
  kZ4x
def Z51 (N:Nat) (kZ4x:Option Int) (p1:api_Prog) (p7:api_Stmt) (vB4:Bool):Option Int:=
 if vB4=true then
  (Z4h N p1).bind fun r78=>
  (Z4l N r78 p7.Name).bind fun r85=>
  if r85 < 0 then
   some p7.At
  else
   kZ4x
 else
  kZ4x
def Z4z (N:Nat) (kZ4x:Option Int) (p1:api_Prog) (p7:api_Stmt) (r64:Int) (vB2:Bool):Option Int:=
 if vB2=true then
  if r64 < 0 then
   (Z50 kZ4x p7) true
  else
   (Z4o N p1).bind fun r73=>
   (Z50 kZ4x p7) (decide (r73≤r64))
 else
  if p7.Kind=9 then
   (Z51 N kZ4x p1 p7) (decide (p7.Kind=9))
  else
   (Z51 N kZ4x p1 p7) (decide (p7.Kind=10))
def Z4y (N:Nat) (kZ4x:Option Int) (p1:api_Prog) (p7:api_Stmt) (r64:Int) (vB1:Bool):Option Int:=
 if vB1=true then
  if r64 < 0 then
   some p7.At
  else
   kZ4x
 else
  if p7.Kind=5 then
   (Z4z N kZ4x p1 p7 r64) (decide (p7.Kind=5))
  else
   (Z4z N kZ4x p1 p7 r64) (decide (p7.Kind=6))
def Z4x (N:Nat) (p4:api_Thread) (p7:api_Stmt):Option Int:=
 (Z57 N p7.E p4.Regs).bind fun r88=>
 if 0≤r88 then
  some r88
 else
  (Z57 N p7.F p4.Regs).bind fun r91=>
  some r91
def Z4w (N:Nat) (p1:api_Prog) (p4:api_Thread) (p7:api_Stmt) (vA1:Bool):Option Int:=
 if vA1=true then
  some p7.At
 else
  (Z3s N p1).bind fun r57=>
  (Z4l N r57 p7.Name).bind fun r64=>
  if p7.Kind=2 then
   (Z4y N (Z4x N p4 p7) p1 p7 r64) (decide (p7.Kind=2))
  else
   if p7.Kind=3 then
    (Z4y N (Z4x N p4 p7) p1 p7 r64) (decide (p7.Kind=3))
   else
    (Z4y N (Z4x N p4 p7) p1 p7 r64) (decide (p7.Kind=4))
def Z4v (N:Nat) (p1:api_Prog) (p4:api_Thread) (p7:api_Stmt):Option Int:=
 if p7.Reg≠[] then
  (Z4l N p4.Regs p7.Reg).bind fun r54=>
  (Z4w N p1 p4 p7) (decide (r54 < 0))
 else
  (Z4w N p1 p4 p7) false
def Z43 (N:Nat) (kZ3u:Option (Int×Int)) (r35:(List api_Thread)):Nat→Int→Option (Int×Int)
 | 0,_=>none
 | n+1,vB1=>
  if vB1 < (r35.length:Int) then
   (getI r35 vB1).bind fun x46=>
   (Z5b N x46.Body 1).bind fun r59=>
   if 0≤r59 then
    some (11,r59)
   else
    (Z43 N kZ3u r35 n) (IntKind.i64.wrap (vB1+1))
  else
   kZ3u
def Z3z (kZ45:Int→Option (Int×Int)) (x66:api_Thread) (vD2:Int) (vE2:Bool):Option (Int×Int):=
 if vE2=true then
  some (10,x66.At)
 else
  kZ45 (IntKind.i64.wrap (vD2+1))
def Z45 (N:Nat) (kZ3y:Option (Int×Int)) (p1:api_Prog) (r35:(List api_Thread)) (vB3:Int):Nat→Int→Option (Int×Int)
 | 0,_=>none
 | n+1,vD2=>
  (getI r35 vB3).bind fun x66=>
  if vD2 < (x66.Regs.length:Int) then
   (getI x66.Regs vD2).bind fun x80=>
   (Z4l N x66.Regs x80).bind fun r85=>
   if r85 < vD2 then
    (Z3z (Z45 N kZ3y p1 r35 vB3 n) x66 vD2) true
   else
    (Z3s N p1).bind fun r88=>
    (Z4l N r88 x80).bind fun r98=>
    if 0≤r98 then
     (Z3z (Z45 N kZ3y p1 r35 vB3 n) x66 vD2) true
    else
     (Z4h N p1).bind fun r101=>
     (Z4l N r101 x80).bind fun r108=>
     (Z3z (Z45 N kZ3y p1 r35 vB3 n) x66 vD2) (decide (0≤r108))
  else
   kZ3y
def Z3y (kZ44:Int→Option (Int×Int)) (vB3:Int):Option (Int×Int):=
 kZ44 (IntKind.i64.wrap (vB3+1))
def Z44 (N:Nat) (kZ3x:Option (Int×Int)) (p1:api_Prog) (r35:(List api_Thread)):Nat→Int→Option (Int×Int)
 | 0,_=>none
 | n+1,vB3=>
  if vB3 < (r35.length:Int) then
   (Z45 N (Z3y (Z44 N kZ3x p1 r35 n) vB3) p1 r35 vB3) N 0
  else
   kZ3x
def Z41 (N:Nat) (kZ3v:Option (Int×Int)) (p1:api_Prog) (r35:(List api_Thread)) (vB4:Int):Nat→Int→Option (Int×Int)
 | 0,_=>none
 | n+1,vD3=>
  (getI r35 vB4).bind fun x112=>
  if vD3 < (x112.Body.length:Int) then
   (getI x112.Body vD3).bind fun x126=>
   (Z4v N p1 x112 x126).bind fun r139=>
   if 0≤r139 then
    some (9,r139)
   else
    (Z41 N kZ3v p1 r35 vB4 n) (IntKind.i64.wrap (vD3+1))
  else
   kZ3v
def Z3v (kZ46:Int→Option (Int×Int)) (vB4:Int):Option (Int×Int):=
 kZ46 (IntKind.i64.wrap (vB4+1))
def Z46 (N:Nat) (kZ40:Option (Int×Int)) (p1:api_Prog) (r35:(List api_Thread)):Nat→Int→Option (Int×Int)
 | 0,_=>none
 | n+1,vB4=>
  if vB4 < (r35.length:Int) then
   (Z41 N (Z3v (Z46 N kZ40 p1 r35 n) vB4) p1 r35 vB4) N 0
  else
   kZ40
def Z42 (N:Nat) (kZ3w:Option (Int×Int)) (p1:api_Prog) (l154:(List Str)):Nat→Int→Option (Int×Int)
 | 0,_=>none
 | n+1,vB5=>
  if vB5 < (p1.Claims.length:Int) then
   (getI p1.Claims vB5).bind fun x163=>
   (Z57 N x163.E l154).bind fun r172=>
   if 0≤r172 then
    some (9,r172)
   else
    (Z42 N kZ3w p1 l154 n) (IntKind.i64.wrap (vB5+1))
  else
   kZ3w
def Z3w  : Option (Int×Int):=
 some (0,0)
def Z40 (N:Nat) (p1:api_Prog):Option (Int×Int):=
 (Z3s N p1).bind fun r142=>
 (Z4o N p1).bind fun r152=>
 (Dc r142 0 r152).bind fun l154=>
 (Z42 N Z3w p1 l154) N 0
def Z3x (N:Nat) (p1:api_Prog) (r35:(List api_Thread)):Option (Int×Int):=
 (Z46 N (Z40 N p1) p1 r35) N 0
def Z3u (N:Nat) (p1:api_Prog) (r35:(List api_Thread)):Option (Int×Int):=
 (Z52 N p1).bind fun r62=>
 if 0≤r62 then
  some (10,r62)
 else
  (Z44 N (Z3x N p1 r35) p1 r35) N 0
def Z3t (N:Nat) (p1:api_Prog):Option (Int×Int):=
 (Z37 N p1).bind fun r29=>
 if r29=true then
  (Z4q N p1).bind fun r32=>
  if r32=true then
   some (2,0)
  else
   (Z4p N p1).bind fun r35=>
   (Z43 N (Z3u N p1 r35) r35) N 0
 else
  some (8,0)
def Z49 (N:Nat) (kZ48:(List Int)→Option (List Int)) (r32:(List api_Cell)):Nat→(List Int)→Int→Option (List Int)
 | 0,_,_=>none
 | n+1,vB1,vB7=>
  if vB7 < (r32.length:Int) then
   (getI r32 vB7).bind fun x40=>
   (B9 8 vB1 ([x40.N]:List Int)).bind fun l49=>
   (Z49 N kZ48 r32 n) l49 (IntKind.i64.wrap (vB7+1))
  else
   kZ48 vB1
def Z48 (vA1:(List Int)):Option (List Int):=
 some vA1
def Z47 (N:Nat) (p1:api_Prog):Option (List Int):=
 (Z3p N p1).bind fun r32=>
 (Z49 N Z48 r32) N [] 0
def Z4g (N:Nat) (kZ4f:Int→Option Int) (p1:api_Prog):Nat→Int→Int→Option Int
 | 0,_,_=>none
 | n+1,vB1,vB2=>
  if vB2 < (p1.Lines.length:Int) then
   (getI p1.Lines vB2).bind fun x40=>
   if vB1 < (x40.length:Int) then
    some vB2
   else
    (Z4g N kZ4f p1 n) (IntKind.i64.wrap (vB1 - (x40.length:Int))) (IntKind.i64.wrap (vB2+1))
  else
   kZ4f vB1
def Z4f (p1:api_Prog) (vA2:Int):Option Int:=
 some (IntKind.i64.wrap ((p1.Lines.length:Int)+vA2))
def Z4e (N:Nat) (p1:api_Prog) (p4:Int) (vA1:Bool):Option Int:=
 if vA1=true then
  some (-1)
 else
  (Z4g N (Z4f p1) p1) N p4 0
def Z4d (N:Nat) (p1:api_Prog) (p4:Int):Option Int:=
 if p4 < 0 then
  (Z4e N p1 p4) true
 else
  (Z3p N p1).bind fun r31=>
  (Z4e N p1 p4) (decide ((r31.length:Int)≤p4))
def Z75 (rf:(List api_Stmt)→Option Int) (p1:(List api_Stmt)) (xz7:api_Stmt) (vA1:Int):Option Int:=
 (Dc p1 (IntKind.i64.wrap ((IntKind.i64.wrap (1+xz7.Body))+xz7.Else)) (p1.length:Int)).bind fun l42=>
 (rf l42).bind fun r50=>
 some (max vA1 r50)
def Z74:Nat→(List api_Stmt)→Option Int
 | 0,_=>none
 | N+1,p1=>
  if (p1.length:Int)=0 then
   some 0
  else
   (getI p1 0).bind fun xz7=>
   (Dc p1 1 (IntKind.i64.wrap (1+xz7.Body))).bind fun l21=>
   ((Z74 N) l21).bind fun r29=>
   (Dc p1 (IntKind.i64.wrap (1+xz7.Body)) (IntKind.i64.wrap ((IntKind.i64.wrap (1+xz7.Body))+xz7.Else))).bind fun l31=>
   ((Z74 N) l31).bind fun r39=>
   if xz7.Kind=12 then
    (Z75 (Z74 N) p1 xz7) (IntKind.i64.wrap ((max r29 r39)+1))
   else
    (Z75 (Z74 N) p1 xz7) (max r29 r39)
def Z5v (rf:(List api_Node)→Int→(List Str)→Option (List api_Op)) (N:Nat) (kZ5t:(List api_Op)→Option (List api_Op)) (p1:(List api_Node)) (p6:Int) (p7:(List Str)):Nat→(List api_Op)→Int→Int→Option (List api_Op)
 | 0,_,_,_=>none
 | n+1,vB1,vB7,vB8=>
  (getI p1 p6).bind fun x15=>
  (Z2j N x15.Op).bind fun r20=>
  if vB8 < r20 then
   (rf p1 vB7 p7).bind fun r23=>
   (B9 16 vB1 r23).bind fun l30=>
   (Z2f N p1 vB7).bind fun r36=>
   (Z5v rf N kZ5t p1 p6 p7 n) l30 r36 (IntKind.i64.wrap (vB8+1))
  else
   kZ5t vB1
def Z5u (vA1:(List api_Op)) (x38:api_Node) (vA7:Int):Option (List api_Op):=
 (B9 16 vA1 ([(api_Op.mk x38.Op vA7)]:List api_Op)).bind fun l49=>
 some l49
def Z5t (N:Nat) (p1:(List api_Node)) (p6:Int) (p7:(List Str)) (vA1:(List api_Op)):Option (List api_Op):=
 (getI p1 p6).bind fun x38=>
 if x38.Op=2 then
  (Z4l N p7 x38.Name).bind fun r44=>
  (Z5u vA1 x38) r44
 else
  (Z5u vA1 x38) x38.N
def Z5s:Nat→(List api_Node)→Int→(List Str)→Option (List api_Op)
 | 0,_,_,_=>none
 | N+1,p1,p6,p7=>
  (Z5v (Z5s N) N (Z5t N p1 p6 p7) p1 p6 p7) N [] (IntKind.i64.wrap (p6+1)) 0
def Z5f (kZ5g:Int→Option ((List api_Op)×Int)) (vB1:Int) (vC1:Bool):Option ((List api_Op)×Int):=
 if vC1=true then
  some ([],9)
 else
  kZ5g (IntKind.i64.wrap (vB1+1))
def Z5g (N:Nat) (kZ5e:Option ((List api_Op)×Int)) (p1:(List api_Node)) (p6:(List Str)):Nat→Int→Option ((List api_Op)×Int)
 | 0,_=>none
 | n+1,vB1=>
  if vB1 < (p1.length:Int) then
   (getI p1 vB1).bind fun x15=>
   if x15.Op=2 then
    (Z4l N p6 x15.Name).bind fun r21=>
    (Z5f (Z5g N kZ5e p1 p6 n) vB1) (decide (r21 < 0))
   else
    (Z5f (Z5g N kZ5e p1 p6 n) vB1) false
  else
   kZ5e
def Z5e (N:Nat) (p1:(List api_Node)) (p6:(List Str)):Option ((List api_Op)×Int):=
 (Z5s N p1 0 p6).bind fun r24=>
 some (r24,0)
def Z5d (N:Nat) (p1:(List api_Node)) (p6:(List Str)):Option ((List api_Op)×Int):=
 (Z2k N p1).bind fun r11=>
 if r11=true then
  (Z5g N (Z5e N p1 p6) p1 p6) N 0
 else
  some ([],8)
def Z7m (rf:(List api_Stmt)→Option Int) (p1:(List api_Stmt)) (xz7:api_Stmt) (vA2:Int):Option Int:=
 (Dc p1 (IntKind.i64.wrap ((IntKind.i64.wrap (1+xz7.Body))+xz7.Else)) (p1.length:Int)).bind fun l54=>
 (rf l54).bind fun r62=>
 some (IntKind.i64.wrap (vA2+r62))
def Z7l (rf:(List api_Stmt)→Option Int) (p1:(List api_Stmt)) (xz7:api_Stmt) (vA1:Int):Option Int:=
 if xz7.Kind=12 then
  (Dc p1 1 (IntKind.i64.wrap (1+xz7.Body))).bind fun l44=>
  (rf l44).bind fun r52=>
  (Z7m rf p1 xz7) (IntKind.i64.wrap (2+r52))
 else
  (Z7m rf p1 xz7) vA1
def Z7k:Nat→(List api_Stmt)→Option Int
 | 0,_=>none
 | N+1,p1=>
  if (p1.length:Int)=0 then
   some 0
  else
   (getI p1 0).bind fun xz7=>
   if xz7.Kind=11 then
    (Dc p1 1 (IntKind.i64.wrap (1+xz7.Body))).bind fun l22=>
    ((Z7k N) l22).bind fun r30=>
    (Dc p1 (IntKind.i64.wrap (1+xz7.Body)) (IntKind.i64.wrap ((IntKind.i64.wrap (1+xz7.Body))+xz7.Else))).bind fun l32=>
    ((Z7k N) l32).bind fun r40=>
    if 0 < xz7.Else then
     (Z7l (Z7k N) p1 xz7) (IntKind.i64.wrap ((IntKind.i64.wrap ((IntKind.i64.wrap (1+r30))+r40))+1))
    else
     (Z7l (Z7k N) p1 xz7) (IntKind.i64.wrap ((IntKind.i64.wrap (1+r30))+r40))
   else
    (Z7l (Z7k N) p1 xz7) 1
def Z6e (N:Nat) (kZ6b:Int→Int→Option api_Instr) (p1:leadlineref09_Env) (p4:api_Stmt) (vB3:Bool):Option api_Instr:=
 if vB3=true then
  (Z4h N p1.P).bind fun r86=>
  (Z4l N r86 p4.Name).bind fun r93=>
  kZ6b p4.Kind r93
 else
  if p4.Kind=14 then
   kZ6b 15 0
  else
   kZ6b p4.Kind 0
def Z6d (N:Nat) (kZ6b:Int→Int→Option api_Instr) (p1:leadlineref09_Env) (p4:api_Stmt) (r60:Int) (vB2:Bool):Option api_Instr:=
 if vB2=true then
  (Z4d N p1.P r60).bind fun r82=>
  kZ6b p4.Kind r82
 else
  if p4.Kind=9 then
   (Z6e N kZ6b p1 p4) (decide (p4.Kind=9))
  else
   (Z6e N kZ6b p1 p4) (decide (p4.Kind=10))
def Z6c (N:Nat) (kZ6b:Int→Int→Option api_Instr) (p1:leadlineref09_Env) (p4:api_Stmt) (r60:Int) (vB1:Bool):Option api_Instr:=
 if vB1=true then
  kZ6b p4.Kind r60
 else
  if p4.Kind=5 then
   (Z6d N kZ6b p1 p4 r60) (decide (p4.Kind=5))
  else
   (Z6d N kZ6b p1 p4 r60) (decide (p4.Kind=6))
def Z6b (r51:Int) (r62:((List api_Op)×Int)) (r69:((List api_Op)×Int)) (vA1:Int) (vA2:Int):Option api_Instr:=
 some (api_Instr.mk vA1 (max 0 r51) vA2 r62.1 r69.1 0)
def Z6a (N:Nat) (p1:leadlineref09_Env) (p4:api_Stmt):Option api_Instr:=
 (Z4l N p1.Regs p4.Reg).bind fun r51=>
 (Z3s N p1.P).bind fun r53=>
 (Z4l N r53 p4.Name).bind fun r60=>
 (Z5d N p4.E p1.Regs).bind fun r62=>
 (Z5d N p4.F p1.Regs).bind fun r69=>
 if p4.Kind=2 then
  (Z6c N (Z6b r51 r62 r69) p1 p4 r60) (decide (p4.Kind=2))
 else
  if p4.Kind=3 then
   (Z6c N (Z6b r51 r62 r69) p1 p4 r60) (decide (p4.Kind=3))
  else
   (Z6c N (Z6b r51 r62 r69) p1 p4 r60) (decide (p4.Kind=4))
def Z69 (rf:leadlineref09_Env→(List api_Stmt)→Int→Int→Int→Option (List api_Instr)) (kZ67:(List api_Instr)→Option (List api_Instr)) (p1:leadlineref09_Env) (p10:Int) (p11:Int) (l69:(List api_Stmt)) (vB1:Int) (vB2:(List api_Instr)):Option (List api_Instr):=
 (rf p1 l69 vB1 p10 p11).bind fun r135=>
 (B9 80 vB2 r135).bind fun l145=>
 kZ67 l145
def Z68 (rf:leadlineref09_Env→(List api_Stmt)→Int→Int→Int→Option (List api_Instr)) (N:Nat) (kZ67:(List api_Instr)→Option (List api_Instr)) (p1:leadlineref09_Env) (p9:Int) (p10:Int) (p11:Int) (x47:api_Stmt) (l61:(List api_Stmt)) (l69:(List api_Stmt)) (r81:((List api_Op)×Int)) (vB1:Int):Option (List api_Instr):=
 (B9 80 ([]:List api_Instr) ([(api_Instr.mk 12 0 0 r81.1 [] vB1)]:List api_Instr)).bind fun l98=>
 (rf p1 l61 (IntKind.i64.wrap (p9+1)) p10 p11).bind fun r104=>
 (B9 80 l98 r104).bind fun l114=>
 if 0 < x47.Else then
  (Z7k N l69).bind fun r124=>
  (B9 80 l114 ([(api_Instr.mk 11 0 0 [] [] (IntKind.i64.wrap (vB1+r124)))]:List api_Instr)).bind fun l129=>
  (Z69 rf kZ67 p1 p10 p11 l69 vB1) l129
 else
  (Z69 rf kZ67 p1 p10 p11 l69 vB1) l114
def Z67 (rf:leadlineref09_Env→(List api_Stmt)→Int→Int→Int→Option (List api_Instr)) (p1:leadlineref09_Env) (p4:(List api_Stmt)) (p9:Int) (p10:Int) (p11:Int) (x47:api_Stmt) (vA2:(List api_Instr)):Option (List api_Instr):=
 (Dc p4 (IntKind.i64.wrap ((IntKind.i64.wrap (1+x47.Body))+x47.Else)) (p4.length:Int)).bind fun l229=>
 (rf p1 l229 (IntKind.i64.wrap (p9+(vA2.length:Int))) p10 p11).bind fun r237=>
 (B9 80 vA2 r237).bind fun l247=>
 some l247
def Z66:Nat→leadlineref09_Env→(List api_Stmt)→Int→Int→Int→Option (List api_Instr)
 | 0,_,_,_,_,_=>none
 | N+1,p1,p4,p9,p10,p11=>
  if (p4.length:Int)=0 then
   some []
  else
   (getI p4 0).bind fun x47=>
   (Dc p4 1 (IntKind.i64.wrap (1+x47.Body))).bind fun l61=>
   (Dc p4 (IntKind.i64.wrap (1+x47.Body)) (IntKind.i64.wrap ((IntKind.i64.wrap (1+x47.Body))+x47.Else))).bind fun l69=>
   if x47.Kind=11 then
    (Z5d N x47.E p1.Regs).bind fun r81=>
    (Z7k N l61).bind fun r88=>
    if 0 < x47.Else then
     (Z68 (Z66 N) N (Z67 (Z66 N) p1 p4 p9 p10 p11 x47) p1 p9 p10 p11 x47 l61 l69 r81) (IntKind.i64.wrap ((IntKind.i64.wrap ((IntKind.i64.wrap (p9+1))+r88))+1))
    else
     (Z68 (Z66 N) N (Z67 (Z66 N) p1 p4 p9 p10 p11 x47) p1 p9 p10 p11 x47 l61 l69 r81) (IntKind.i64.wrap ((IntKind.i64.wrap (p9+1))+r88))
   else
    if x47.Kind=12 then
     (Z7k N l61).bind fun r155=>
     (B9 80 ([]:List api_Instr) ([(api_Instr.mk 13 p10 x47.N [] [] 0)]:List api_Instr)).bind fun l160=>
     ((Z66 N) p1 l61 (IntKind.i64.wrap (p9+1)) (IntKind.i64.wrap (p10+1)) (IntKind.i64.wrap ((IntKind.i64.wrap (p9+2))+r155))).bind fun r166=>
     (B9 80 l160 r166).bind fun l176=>
     (B9 80 l176 ([(api_Instr.mk 14 p10 0 [] [] (IntKind.i64.wrap (p9+1)))]:List api_Instr)).bind fun l188=>
     (Z67 (Z66 N) p1 p4 p9 p10 p11 x47) l188
    else
     if x47.Kind=13 then
      (B9 80 ([]:List api_Instr) ([(api_Instr.mk 11 0 0 [] [] p11)]:List api_Instr)).bind fun l198=>
      (Z67 (Z66 N) p1 p4 p9 p10 p11 x47) l198
     else
      (Z6a N p1 x47).bind fun r204=>
      (B9 80 ([]:List api_Instr) ([r204]:List api_Instr)).bind fun l223=>
      (Z67 (Z66 N) p1 p4 p9 p10 p11 x47) l223
def Z7n (N:Nat) (p1:api_Prog) (p4:api_Thread):Option api_Code:=
 (Z74 N p4.Body).bind fun r43=>
 (Z66 N (leadlineref09_Env.mk p1 p4.Regs) p4.Body 0 0 0).bind fun r45=>
 some (api_Code.mk (p4.Regs.length:Int) r43 r45)
def Z70 (N:Nat) (kZ6w:(List Int)→Option (api_Unit×Int)) (p1:api_Prog) (vA3:(List Int)):Nat→(List Int)→Int→Option (api_Unit×Int)
 | 0,_,_=>none
 | n+1,vB1,vB7=>
  if vB7 < (vA3.length:Int) then
   (Z4d N p1 vB7).bind fun r44=>
   (B9 8 vB1 ([r44]:List Int)).bind fun l49=>
   (Z70 N kZ6w p1 vA3 n) l49 (IntKind.i64.wrap (vB7+1))
  else
   kZ6w vB1
def Z71 (N:Nat) (kZ6x:(List api_Code)→Option (api_Unit×Int)) (p1:api_Prog):Nat→(List api_Code)→Int→Option (api_Unit×Int)
 | 0,_,_=>none
 | n+1,vB9,vB15=>
  if vB15 < (p1.Threads.length:Int) then
   (getI p1.Threads vB15).bind fun x56=>
   (Z7n N p1 x56).bind fun r69=>
   (B9 40 vB9 ([r69]:List api_Code)).bind fun l84=>
   (Z71 N kZ6x p1 n) l84 (IntKind.i64.wrap (vB15+1))
  else
   kZ6x vB9
def Z72 (N:Nat) (kZ6z:(List (List api_Op))→Option (api_Unit×Int)) (p1:api_Prog) (vA2:Int):Nat→(List (List api_Op))→Int→Option (api_Unit×Int)
 | 0,_,_=>none
 | n+1,vB17,vB23=>
  if vB23 < (p1.Claims.length:Int) then
   (getI p1.Claims vB23).bind fun x117=>
   (Z3s N p1).bind fun r126=>
   (Dc r126 0 vA2).bind fun l136=>
   (Z5d N x117.E l136).bind fun r144=>
   (B9 24 vB17 ([r144.1]:List (List api_Op))).bind fun l158=>
   (Z72 N kZ6z p1 vA2 n) l158 (IntKind.i64.wrap (vB23+1))
  else
   kZ6z vB17
def Z6z (p1:api_Prog) (vA2:Int) (vA3:(List Int)) (vA9:(List Int)) (vA16:(List api_Code)) (vA23:Int) (vA24:Int) (vA25:(List api_Instr)) (vA31:(List (List api_Op))):Option (api_Unit×Int):=
 some ((api_Unit.mk vA9 vA2 vA3 (p1.Locks.length:Int) vA16 (api_Code.mk vA23 vA24 vA25) vA31),0)
def Z6y (N:Nat) (p1:api_Prog) (vA2:Int) (vA3:(List Int)) (vA9:(List Int)) (vA16:(List api_Code)) (vA23:Int) (vA24:Int) (vA25:(List api_Instr)):Option (api_Unit×Int):=
 (Z72 N (Z6z p1 vA2 vA3 vA9 vA16 vA23 vA24 vA25) p1 vA2) N [] 0
def Z6x (N:Nat) (p1:api_Prog) (vA2:Int) (vA3:(List Int)) (vA9:(List Int)) (vA16:(List api_Code)):Option (api_Unit×Int):=
 if 0 < (p1.Recover.length:Int) then
  (getI p1.Recover 0).bind fun x91=>
  (Z7n N p1 x91).bind fun r104=>
  (Z6y N p1 vA2 vA3 vA9 vA16) r104.Regs r104.Counts r104.L
 else
  (Z6y N p1 vA2 vA3 vA9 vA16) 0 0 []
def Z6w (N:Nat) (p1:api_Prog) (vA2:Int) (vA3:(List Int)) (vA9:(List Int)):Option (api_Unit×Int):=
 (Z71 N (Z6x N p1 vA2 vA3 vA9) p1) N [] 0
def Z6v (N:Nat) (p1:api_Prog) (vA2:Int) (vA3:(List Int)):Option (api_Unit×Int):=
 (Z70 N (Z6w N p1 vA2 vA3) p1 vA3) N [] 0
def Z6u (N:Nat) (p1:api_Prog):Option (api_Unit×Int):=
 (Z3t N p1).bind fun r30=>
 if r30.1≠0 then
  some ((api_Unit.mk [] 0 [] 0 [] (api_Code.mk 0 0 []) []),r30.1)
 else
  (Z4o N p1).bind fun r33=>
  (Z47 N p1).bind fun r35=>
  (Z6v N p1) r33 r35
def Z23 (N:Nat) (p1:api_Prog) (p4:Int):Option Bool:=
 (Z1n N p1).bind fun r30=>
 (Z6u N r30).bind fun r62=>
 if r62.2≠0 then
  (Z24 N).bind fun r117=>
  some r117
 else
  (Z2 N r62.1).bind fun r119=>
  (Nf (!((decide (r119.2≠0)) || (decide ((r119.1.length:Int)=0))))).bind fun _=>
  (Xj (Sp .i64 p4 65535) (r119.1.length:Int)).bind fun x122=>
  (Dc r119.1 0 x122).bind fun s124=>
  (Z0 N s124).bind fun r126=>
  (Cw r119.1 (Gk ([(IntK.mk (IntKind.u8.wrap p4))]:List (IntK .u8)))).bind fun s183=>
  (Z0 N s183).bind fun r185=>
  if ((decide (r126.2=8)) && (decide (r185.2=8)))=true then
   (Z24 N).bind fun r240=>
   some r240
  else
   some false
end Go.MD.BINZ
