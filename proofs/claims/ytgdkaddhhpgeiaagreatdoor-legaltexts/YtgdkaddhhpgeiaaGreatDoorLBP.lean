/- Plain functions, lifted by program from the seat lb. No condition: definitions. -/
import Derived.Test.YtgdkaddhhpgeiaaGreatDoorMD
import Derived.Lib.IndexMore
namespace Go.MD.LB
open Go Go.MD
def Pr (s p:Str):Option (List Str):=
 if s=[108,105,110,101,32,118,111,108,32,108,111,99,107,32,116,104,114,101,97,100,32,114,101,103,32,108,111,97,100,32,115,116,111,114,101,32,99,97,115,32,102,108,117,115,104,32,111,112,116,32,115,102,101,110,99,101,32,109,102,101,110,99,101,32,116,97,107,101,32,103,105,118,101,32,105,102,32,101,108,115,101,32,108,111,111,112,32,98,114,101,97,107,32,99,104,101,99,107,32,114,101,99,111,118,101,114,32,97,108,119,97,121,115]∧p=[32] then some [[108,105,110,101],[118,111,108],[108,111,99,107],[116,104,114,101,97,100],[114,101,103],[108,111,97,100],[115,116,111,114,101],[99,97,115],[102,108,117,115,104],[111,112,116],[115,102,101,110,99,101],[109,102,101,110,99,101],[116,97,107,101],[103,105,118,101],[105,102],[101,108,115,101],[108,111,111,112],[98,114,101,97,107],[99,104,101,99,107],[114,101,99,111,118,101,114],[97,108,119,97,121,115]] else
 none
def Z0 (s p:Str):Option Bool:=if s.length < 4294967281 then some (Lib.contains s p) else none
structure api_Cell where
 Name:Str
 N:Int
 At:Int
 deriving DecidableEq
structure api_Node where
 Op:Int
 N:Int
 Name:Str
 At:Int
 deriving DecidableEq
structure api_Stmt where
 Kind:Int
 Reg:Str
 Name:Str
 E:(List api_Node)
 F:(List api_Node)
 N:Int
 Body:Int
 Else:Int
 At:Int
 deriving DecidableEq
structure api_Thread where
 Name:Str
 Regs:(List Str)
 Body:(List api_Stmt)
 At:Int
 deriving DecidableEq
structure api_Claim where
 E:(List api_Node)
 At:Int
 deriving DecidableEq
structure api_Prog where
 Lines:(List (List api_Cell))
 Vols:(List api_Cell)
 Locks:(List api_Cell)
 Threads:(List api_Thread)
 Recover:(List api_Thread)
 Claims:(List api_Claim)
 deriving DecidableEq
structure legal_use where
 name:Str
 at':Int
 may:(List Int)
 deriving DecidableEq
structure api_Token where
 Kind:Int
 Text:Str
 N:Int
 At:Int
 deriving DecidableEq
structure leadlineref05_In where
 L:(List api_Token)
 At:Int
 E:Int
 Pos:Int
 deriving DecidableEq
structure leadlineref04_P where
 L:(List api_Token)
 At:Int
 E:Int
 Pos:Int
 Out:(List api_Stmt)
 deriving DecidableEq
structure leadlineref03_Read where
 L:(List api_Node)
 To:Int
 E:Int
 At:Int
 deriving DecidableEq
structure leadlinelaw07_Walk where
 How:(List Bool)
 At:Int
 Cost:Int
 Left:Bool
 deriving DecidableEq
def Z77 (_:Nat) (p1:api_Prog):Option api_Prog:=
 some p1
def Z7c {τ:Type} (N:Nat) (kZ7a:τ→Option τ) (y:τ→(api_Cell×Int)→Option (τ×Bool)) (x31:(List api_Cell)) (vB2:Int):Nat→Int→τ→Option τ
 | 0,_,_=>none
 | n+1,vD2,vD3=>
  if vD2 < (x31.length:Int) then
   (getI x31 vD2).bind fun x41=>
   (y vD3 (x41,vB2)).bind fun r47=>
   if r47.2=true then
    (Z7c N kZ7a y x31 vB2 n) (IntKind.i64.wrap (vD2+1)) r47.1
   else
    some r47.1
  else
   kZ7a vD3
def Z7a {τ:Type} (kZ7b:Int→τ→Option τ) (vB2:Int) (vC2:τ):Option τ:=
 kZ7b (IntKind.i64.wrap (vB2+1)) vC2
def Z7b {τ:Type} (N:Nat) (kZ79:τ→Option τ) (y:τ→(api_Cell×Int)→Option (τ×Bool)) (y2:api_Prog):Nat→Int→τ→Option τ
 | 0,_,_=>none
 | n+1,vB2,vB3=>
  if vB2 < (y2.Lines.length:Int) then
   (getI y2.Lines vB2).bind fun x31=>
   (Z7c N (Z7a (Z7b N kZ79 y y2 n) vB2) y x31 vB2) N 0 vB3
  else
   kZ79 vB3
def Z7d {τ:Type} (N:Nat) (y:τ→(api_Cell×Int)→Option (τ×Bool)) (y2:api_Prog):Nat→Int→τ→Option τ
 | 0,_,_=>none
 | n+1,vA6,vA7=>
  if vA6 < (y2.Vols.length:Int) then
   (getI y2.Vols vA6).bind fun x55=>
   (y vA7 (x55,(IntKind.i64.wrap ((y2.Lines.length:Int)+vA6)))).bind fun r61=>
   if r61.2=true then
    (Z7d N y y2 n) (IntKind.i64.wrap (vA6+1)) r61.1
   else
    some r61.1
  else
   some vA7
def Z79 {τ:Type} (N:Nat) (y:τ→(api_Cell×Int)→Option (τ×Bool)) (y2:api_Prog) (vA2:τ):Option τ:=
 (Z7d N y y2) N 0 vA2
def Z78 {τ:Type} (N:Nat) (y:τ→(api_Cell×Int)→Option (τ×Bool)) (s0:τ) (y2:api_Prog):Option τ:=
 (Z7b N (Z79 N y y2) y y2) N 0 s0
def Z7j (p1:Str) (p2:Int) (p4:(List (Str×Int))) (vA1:Bool) (vA2:Int):Option ((List (Str×Int))×Bool×Int):=
 some ((Ih p1 p2 p4),vA1,vA2)
def Z7i (_:Nat) (p1:Str) (p2:Int) (p3:Int) (p4:(List (Str×Int))) (p10:Bool) (p12:Int):Option ((List (Str×Int))×Bool×Int):=
 if ((decide (((Bf p1 p4).getD 0)≠0)) && (!p10))=true then
  (Z7j p1 p2 p4) true p3
 else
  (Z7j p1 p2 p4) p10 p12
def Z7l (N:Nat) (xe129:(api_Cell×Int)) (vA3:(List (Str×Int))) (vA7:Int) (vA8:Bool) (vB1:Int):Option (((List (Str×Int))×Int×Bool) ⊕ Empty):=
 (Z7i N xe129.1.Name vB1 xe129.1.At vA3 vA8 vA7).bind fun r134=>
 some (.inl (r134.1,r134.2.2,r134.2.1))
def Z7k (N:Nat) (p1:api_Prog) (vA3:(List (Str×Int))) (vA7:Int) (vA8:Bool) (xe129:(api_Cell×Int)):Option (((List (Str×Int))×Int×Bool) ⊕ Empty):=
 if (p1.Lines.length:Int)≤xe129.2 then
  (Z7l N xe129 vA3 vA7 vA8) 2
 else
  (Z7l N xe129 vA3 vA7 vA8) 1
def Z7o (N:Nat) (kZ7m:(List (Str×Int))→Int→Bool→Option ((List (Str×Int))×Int×Bool)) (p1:api_Prog):Nat→(List (Str×Int))→Int→Bool→Int→Option ((List (Str×Int))×Int×Bool)
 | 0,_,_,_,_=>none
 | n+1,vB3,vB7,vB8,vB9=>
  if vB9 < (p1.Locks.length:Int) then
   (getI p1.Locks vB9).bind fun x143=>
   (Z7i N x143.Name 3 x143.At vB3 vB8 vB7).bind fun r149=>
   (Z7o N kZ7m p1 n) r149.1 r149.2.2 r149.2.1 (IntKind.i64.wrap (vB9+1))
  else
   kZ7m vB3 vB7 vB8
def Z7p (N:Nat) (kZ7n:(List (Str×Int))→Int→Bool→Option ((List (Str×Int))×Int×Bool)) (p1:api_Prog):Nat→(List (Str×Int))→Int→Bool→Int→Option ((List (Str×Int))×Int×Bool)
 | 0,_,_,_,_=>none
 | n+1,vB11,vB15,vB16,vB17=>
  if vB17 < (p1.Threads.length:Int) then
   (getI p1.Threads vB17).bind fun x156=>
   (Z7i N x156.Name 4 x156.At vB11 vB16 vB15).bind fun r170=>
   (Z7p N kZ7n p1 n) r170.1 r170.2.2 r170.2.1 (IntKind.i64.wrap (vB17+1))
  else
   kZ7n vB11 vB15 vB16
def Z7n (vA17:(List (Str×Int))) (vA21:Int) (vA22:Bool):Option ((List (Str×Int))×Int×Bool):=
 some (vA17,vA21,vA22)
def Z7m (N:Nat) (p1:api_Prog) (vA10:(List (Str×Int))) (vA14:Int) (vA15:Bool):Option ((List (Str×Int))×Int×Bool):=
 (Z7p N Z7n p1) N vA10 vA14 vA15 0
def Z7h (N:Nat) (p1:api_Prog):Option ((List (Str×Int))×Int×Bool):=
 (Z77 N p1).bind fun r35=>
 (Z78 N (yy (fun (s:((List (Str×Int))×Int×Bool)) (x:(api_Cell×Int))=>(Z7k N p1) s.1 s.2.1 s.2.2 x)) (.inl ([],0,false)) r35).bind fun q69=>
 match q69 with
  | .inl (vA3,vA7,vA8)=>
   (Z7o N (Z7m N p1) p1) N vA3 vA7 vA8 0
  | .inr t=>nomatch t
def Z8u (_:Nat) (p1:Int):Option Bool:=
 some (((decide (97≤p1)) && (decide (p1≤122))) || (decide (p1=95)))
def Z8t (N:Nat) (kZ8s:(List (Str×Bool))→Option (List (Str×Bool))) (rz3:(List Str)):Nat→(List (Str×Bool))→Int→Option (List (Str×Bool))
 | 0,_,_=>none
 | n+1,vB1,vB5=>
  if vB5 < (rz3.length:Int) then
   (getI rz3 vB5).bind fun x11=>
   (Z8t N kZ8s rz3 n) (Ih x11 true vB1) (IntKind.i64.wrap (vB5+1))
  else
   kZ8s vB1
def Z8s (vA1:(List (Str×Bool))):Option (List (Str×Bool)):=
 some vA1
def Z8r (N:Nat)  : Option (List (Str×Bool)):=
 (Pr [108,105,110,101,32,118,111,108,32,108,111,99,107,32,116,104,114,101,97,100,32,114,101,103,32,108,111,97,100,32,115,116,111,114,101,32,99,97,115,32,102,108,117,115,104,32,111,112,116,32,115,102,101,110,99,101,32,109,102,101,110,99,101,32,116,97,107,101,32,103,105,118,101,32,105,102,32,101,108,115,101,32,108,111,111,112,32,98,114,101,97,107,32,99,104,101,99,107,32,114,101,99,111,118,101,114,32,97,108,119,97,121,115] [32]).bind fun rz3=>
 (Z8t N Z8s rz3) N [] 0
def Z8m (N:Nat) (p1:Str):Option Bool:=
 (Z8r N).bind fun rz2=>
 some ((Bf p1 rz2).getD false)
def Z8q (_:Nat) (p1:Int):Option Bool:=
 some ((decide (48≤p1)) && (decide (p1≤57)))
def Z8o (N:Nat) (p1:Int):Option Bool:=
 (Z8u N p1).bind fun rz2=>
 if rz2=true then
  some true
 else
  (Z8q N p1).bind fun rz5=>
  some rz5
def Z8x (kZ8w:Int→Option Int) (kZ8y:Int→Option Int) (vB1:Int) (vC1:Bool):Option Int:=
 if vC1=true then
  kZ8y (IntKind.i64.wrap (vB1+1))
 else
  kZ8w vB1
def Z8y (N:Nat) (kZ8w:Int→Option Int) (p1:Str):Nat→Int→Option Int
 | 0,_=>none
 | n+1,vB1=>
  if vB1 < (p1.length:Int) then
   (Cv p1 vB1).bind fun xz3=>
   (Z8o N xz3).bind fun rz5=>
   (Z8x kZ8w (Z8y N kZ8w p1 n) vB1) rz5
  else
   (Z8x kZ8w (Z8y N kZ8w p1 n) vB1) false
def Z8w (vA1:Int):Option Int:=
 some vA1
def Z8v (N:Nat) (p1:Str):Option Int:=
 (Z8y N Z8w p1) N 0
def Z8p (N:Nat) (p1:Str) (vA1:Bool):Option Bool:=
 if vA1=true then
  some false
 else
  (Z8v N p1).bind fun r11=>
  some (decide (r11=(p1.length:Int)))
def Z8n (N:Nat) (p1:Str):Option Bool:=
 if ((decide (p1=[])) || (decide (16 < (p1.length:Int))))=true then
  (Z8p N p1) true
 else
  (Cv p1 0).bind fun xz3=>
  (Z8u N xz3).bind fun rz5=>
  if rz5=true then
   (Z8m N p1).bind fun rz8=>
   (Z8p N p1) rz8
  else
   (Z8p N p1) true
def Z8j (_:Nat) (p1:Int):Option Bool:=
 some ((decide (0≤p1)) && (decide (p1≤4000)))
def Z8i (N:Nat) (p1:api_Cell) (y3:Int):Option Bool:=
 (Z8n N p1.Name).bind fun rz6=>
 if (((!rz6) || (decide (p1.N < 0))) || (decide (y3 < p1.N)))=true then
  some true
 else
  (Z8j N p1.At).bind fun rz9=>
  some (!rz9)
def Z9n (N:Nat) (kZ9m:Option Int) (p1:(List api_Cell)) (y7:Int):Nat→Int→Option Int
 | 0,_=>none
 | n+1,vB1=>
  if vB1 < (p1.length:Int) then
   (getI p1 vB1).bind fun x10=>
   (Z8i N x10 y7).bind fun r15=>
   if r15=true then
    some vB1
   else
    (Z9n N kZ9m p1 y7 n) (IntKind.i64.wrap (vB1+1))
  else
   kZ9m
def Z9m  : Option Int:=
 some (-1)
def Z9l (N:Nat) (p1:(List api_Cell)) (y7:Int):Option Int:=
 (Z9n N Z9m p1 y7) N 0
def Z96 (N:Nat) (p1:(List api_Cell)) (y7:Int):Option Bool:=
 (Z9l N p1 y7).bind fun rz9=>
 some (decide (0≤rz9))
def Z8h (N:Nat) (p1:(List api_Cell)) (p6:Int):Option Bool:=
 (Z96 N p1 p6).bind fun rz8=>
 some (!rz8)
def Z8c (N:Nat) (p1:(List api_Cell)):Option Bool:=
 if (p1.length:Int)=0 then
  some true
 else
  (Z8h N p1 4294967296).bind fun rz7=>
  some (!rz7)
def Z9h (N:Nat) (kZ9g:Option Int) (p1:(List (List api_Cell))):Nat→Int→Option Int
 | 0,_=>none
 | n+1,vB1=>
  if vB1 < (p1.length:Int) then
   (getI p1 vB1).bind fun xz7=>
   (Z8c N xz7).bind fun r16=>
   if r16=true then
    some vB1
   else
    (Z9h N kZ9g p1 n) (IntKind.i64.wrap (vB1+1))
  else
   kZ9g
def Z9g  : Option Int:=
 some (-1)
def Z9f (N:Nat) (p1:(List (List api_Cell))):Option Int:=
 (Z9h N Z9g p1) N 0
def Z94 (N:Nat) (p1:(List (List api_Cell))):Option Bool:=
 (Z9f N p1).bind fun rz6=>
 some (decide (0≤rz6))
def Z8l (N:Nat) (p1:Str):Option Bool:=
 (Z8n N p1).bind fun rz2=>
 some (!rz2)
def Za8 (N:Nat) (kZa7:Option Int) (p1:(List Str)):Nat→Int→Option Int
 | 0,_=>none
 | n+1,vB1=>
  if vB1 < (p1.length:Int) then
   (getI p1 vB1).bind fun xz7=>
   (Z8l N xz7).bind fun r12=>
   if r12=true then
    some vB1
   else
    (Za8 N kZa7 p1 n) (IntKind.i64.wrap (vB1+1))
  else
   kZa7
def Za7  : Option Int:=
 some (-1)
def Za6 (N:Nat) (p1:(List Str)):Option Int:=
 (Za8 N Za7 p1) N 0
def Z9d (N:Nat) (p1:(List Str)):Option Bool:=
 (Za6 N p1).bind fun rz6=>
 some (decide (0≤rz6))
def Zan (_:Nat)  : Option (Arr 15 Str):=
 some (⟨[[],[114,101],[114,110],[110,101],[114,110,101,102],[110],[110],[],[],[110],[110],[101,98],[107,98],[],[101]],rfl⟩:(Arr 15 Str))
def Zaf (N:Nat) (p1:Int):Option Str:=
 if ((decide (p1 < 0)) || (decide (15≤p1)))=true then
  some []
 else
  (Zan N).bind fun rz3=>
  (getI rz3.l p1).bind fun x12=>
  some x12
def Zap (_:Nat) (p1:Str) (y3:Str):Option Bool:=
 (Z0 y3 p1).bind fun rz5=>
 some rz5
def Zaq (N:Nat) (p1:Bool) (p2:Str):Option Bool:=
 if p1=true then
  (Z8n N p2).bind fun rz4=>
  some (rz4 || ((!p1) && (decide (p2=[]))))
 else
  some ((!p1) && (decide (p2=[])))
def Zc (N:Nat) (p1:api_Node):Option Bool:=
 if ((decide (p1.At < 0)) || (decide (4000 < p1.At)))=true then
  some false
 else
  if p1.Op=1 then
   some (((decide (0≤p1.N)) && (decide (p1.N≤4294967296))) && (decide (p1.Name=[])))
  else
   if p1.Op=2 then
    if p1.N=0 then
     (Z8n N p1.Name).bind fun rz7=>
     some rz7
    else
     some false
   else
    some ((decide (p1.N=0)) && (decide (p1.Name=[])))
def Z6 (N:Nat) (p1:api_Node):Option Bool:=
 (Zc N p1).bind fun rz3=>
 some (!rz3)
def Z9t (N:Nat) (kZ9s:Option Int) (p1:(List api_Node)):Nat→Int→Option Int
 | 0,_=>none
 | n+1,vB1=>
  if vB1 < (p1.length:Int) then
   (getI p1 vB1).bind fun xz7=>
   (Z6 N xz7).bind fun r12=>
   if r12=true then
    some vB1
   else
    (Z9t N kZ9s p1 n) (IntKind.i64.wrap (vB1+1))
  else
   kZ9s
def Z9s  : Option Int:=
 some (-1)
def Z9r (N:Nat) (p1:(List api_Node)):Option Int:=
 (Z9t N Z9s p1) N 0
def Z98 (N:Nat) (p1:(List api_Node)):Option Bool:=
 (Z9r N p1).bind fun rz6=>
 some (decide (0≤rz6))
def Zb (_:Nat) (p1:Int):Option Int:=
 if ((decide (p1=1)) || (decide (p1=2)))=true then
  some 0
 else
  if ((decide (p1=3)) || (decide (p1=4)))=true then
   some 1
  else
   if ((decide (5≤p1)) && (decide (p1≤15)))=true then
    some 2
   else
    some (-1)
def Z3 (N:Nat) (kZ4:Int→Int→Option Int) (p1:(List api_Node)) (vB1:Int) (vB2:Int) (vC1:Bool):Option Int:=
 if vC1=true then
  some (-1)
 else
  (getI p1 vB1).bind fun x17=>
  (Zb N x17.Op).bind fun r22=>
  kZ4 (IntKind.i64.wrap (vB1+1)) (IntKind.i64.wrap ((IntKind.i64.wrap (vB2+r22)) - 1))
def Z4 (N:Nat) (kZ2:Int→Option Int) (p1:(List api_Node)):Nat→Int→Int→Option Int
 | 0,_,_=>none
 | n+1,vB1,vB2=>
  if 0 < vB2 then
   if ((decide (vB1 < 0)) || (decide ((p1.length:Int)≤vB1)))=true then
    (Z3 N (Z4 N kZ2 p1 n) p1 vB1 vB2) true
   else
    (getI p1 vB1).bind fun xz9=>
    (Zb N xz9.Op).bind fun r14=>
    (Z3 N (Z4 N kZ2 p1 n) p1 vB1 vB2) (decide (r14=(-1)))
  else
   kZ2 vB1
def Z2 (vA1:Int):Option Int:=
 some vA1
def Z1 (N:Nat) (p1:(List api_Node)) (p6:Int):Option Int:=
 (Z4 N Z2 p1) N p6 1
def Zf (N:Nat) (kZe:(List Int)→Option (List Int)) (p1:(List api_Node)) (r12:Int):Nat→(List Int)→Int→Int→Option (List Int)
 | 0,_,_,_=>none
 | n+1,vB1,vB7,vB8=>
  if vB8 < r12 then
   (Df 8 vB1 ([vB7]:List Int)).bind fun l18=>
   (Z1 N p1 vB7).bind fun r24=>
   (Zf N kZe p1 r12 n) l18 r24 (IntKind.i64.wrap (vB8+1))
  else
   kZe vB1
def Ze (vA1:(List Int)):Option (List Int):=
 some vA1
def Zd (N:Nat) (p1:(List api_Node)) (p6:Int):Option (List Int):=
 (getI p1 p6).bind fun xz7=>
 (Zb N xz7.Op).bind fun r12=>
 (Zf N Ze p1 r12) N [] (IntKind.i64.wrap (p6+1)) 0
def Za (rf:(List api_Node)→Int→Option Int) (N:Nat) (kZ9:Int→Option Int) (p1:(List api_Node)) (rz7:(List Int)):Nat→Int→Int→Option Int
 | 0,_,_=>none
 | n+1,vB1,vB2=>
  if vB2 < (rz7.length:Int) then
   (getI rz7 vB2).bind fun x15=>
   (rf p1 x15).bind fun r21=>
   (Za rf N kZ9 p1 rz7 n) (max vB1 r21) (IntKind.i64.wrap (vB2+1))
  else
   kZ9 vB1
def Z9 (vA1:Int):Option Int:=
 some (IntKind.i64.wrap (vA1+1))
def Z8:Nat→(List api_Node)→Int→Option Int
 | 0,_,_=>none
 | N+1,p1,p6=>
  (Zd N p1 p6).bind fun rz7=>
  (Za (Z8 N) N Z9 p1 rz7) N 0 0
def Z7 (N:Nat) (p1:(List api_Node)) (vA1:Bool):Option Bool:=
 if vA1=true then
  some false
 else
  (Z8 N p1 0).bind fun r13=>
  some (decide (r13≤12))
def Z5 (N:Nat) (p1:(List api_Node)):Option Bool:=
 if ((decide ((p1.length:Int)=0)) || (decide (40 < (p1.length:Int))))=true then
  (Z7 N p1) true
 else
  (Z98 N p1).bind fun rz7=>
  if rz7=true then
   (Z7 N p1) true
  else
   (Z1 N p1 0).bind fun r10=>
   (Z7 N p1) (decide (r10≠(p1.length:Int)))
def Zar (N:Nat) (p1:Bool) (p2:(List api_Node)):Option Bool:=
 if p1=true then
  (Z5 N p2).bind fun rz8=>
  some (rz8 || ((!p1) && (decide ((p2.length:Int)=0))))
 else
  some ((!p1) && (decide ((p2.length:Int)=0)))
def Zas (N:Nat) (p1:api_Stmt) (r13:Str) (vA1:Bool):Option Bool:=
 if (((((decide (1≤p1.Kind)) && (decide (p1.Kind < 15))) && (decide (0≤p1.At))) && (decide (p1.At≤4000))) && vA1)=true then
  (Zap N [114] r13).bind fun r20=>
  (Zaq N r20 p1.Reg).bind fun r22=>
  if r22=true then
   (Zap N [110] r13).bind fun r25=>
   (Zaq N r25 p1.Name).bind fun r27=>
   if r27=true then
    (Zap N [101] r13).bind fun r30=>
    (Zar N r30 p1.E).bind fun r32=>
    if r32=true then
     (Zap N [102] r13).bind fun r35=>
     (Zar N r35 p1.F).bind fun r37=>
     some (!r37)
    else
     some true
   else
    some true
  else
   some true
 else
  some true
def Zao (N:Nat) (p1:api_Stmt):Option Bool:=
 (Zaf N p1.Kind).bind fun r13=>
 (Zap N [107] r13).bind fun r16=>
 if r16=true then
  (Zas N p1 r13) ((decide (1≤p1.N)) && (decide (p1.N≤8)))
 else
  (Zas N p1 r13) (decide (p1.N=0))
def Z9w (N:Nat) (kZ9v:Option Int) (p1:(List api_Stmt)):Nat→Int→Option Int
 | 0,_=>none
 | n+1,vB1=>
  if vB1 < (p1.length:Int) then
   (getI p1 vB1).bind fun xz7=>
   (Zao N xz7).bind fun r20=>
   if r20=true then
    some vB1
   else
    (Z9w N kZ9v p1 n) (IntKind.i64.wrap (vB1+1))
  else
   kZ9v
def Z9v  : Option Int:=
 some (-1)
def Z9u (N:Nat) (p1:(List api_Stmt)):Option Int:=
 (Z9w N Z9v p1) N 0
def Z99 (N:Nat) (p1:(List api_Stmt)):Option Bool:=
 (Z9u N p1).bind fun rz6=>
 some (decide (0≤rz6))
def Zat (_:Nat) (p1:Bool):Option Int:=
 if p1=true then
  some 1
 else
  some 0
def Zal (kZam:Int→Int→Option Int) (xz8:api_Stmt) (vB2:Int) (vC2:Int):Option Int:=
 kZam vC2 (IntKind.i64.wrap ((IntKind.i64.wrap ((IntKind.i64.wrap (vB2+1))+xz8.Body))+xz8.Else))
def Zak (rf:(List api_Stmt)→Int→Option Int) (N:Nat) (kZam:Int→Int→Option Int) (p1:(List api_Stmt)) (p6:Int) (xz8:api_Stmt) (vB1:Int) (vB2:Int) (vC1:Bool):Option Int:=
 if vC1=true then
  some (-1)
 else
  if ((decide (xz8.Kind=11)) || (decide (xz8.Kind=12)))=true then
   (Zat N (decide (xz8.Kind=12))).bind fun r27=>
   (Et p1 (IntKind.i64.wrap (vB2+1)) (IntKind.i64.wrap ((IntKind.i64.wrap (vB2+1))+xz8.Body))).bind fun l29=>
   (rf l29 (IntKind.i64.wrap (p6+r27))).bind fun r37=>
   (Et p1 (IntKind.i64.wrap ((IntKind.i64.wrap (vB2+1))+xz8.Body)) (IntKind.i64.wrap ((IntKind.i64.wrap ((IntKind.i64.wrap (vB2+1))+xz8.Body))+xz8.Else))).bind fun l39=>
   (rf l39 (IntKind.i64.wrap (p6+r27))).bind fun r47=>
   if ((decide (r37=(-1))) || (decide (r47=(-1))))=true then
    some (-1)
   else
    (Zal kZam xz8 vB2) (max (max vB1 (IntKind.i64.wrap (r37+1))) (IntKind.i64.wrap (r47+1)))
  else
   (Zal kZam xz8 vB2) vB1
def Zam (rf:(List api_Stmt)→Int→Option Int) (N:Nat) (kZaj:Int→Option Int) (p1:(List api_Stmt)) (p6:Int):Nat→Int→Int→Option Int
 | 0,_,_=>none
 | n+1,vB1,vB2=>
  if vB2 < (p1.length:Int) then
   (getI p1 vB2).bind fun xz8=>
   if (((((decide (xz8.Body < 0)) || (decide (xz8.Else < 0))) || (decide ((p1.length:Int) < xz8.Body))) || (decide ((p1.length:Int) < xz8.Else))) || (decide ((p1.length:Int) < (IntKind.i64.wrap ((IntKind.i64.wrap ((IntKind.i64.wrap (vB2+1))+xz8.Body))+xz8.Else)))))=true then
    some (-1)
   else
    if ((!((decide (xz8.Kind=11)) || (decide (xz8.Kind=12)))) && (decide (0 < xz8.Body)))=true then
     (Zak rf N (Zam rf N kZaj p1 p6 n) p1 p6 xz8 vB1 vB2) ((!((decide (xz8.Kind=11)) || (decide (xz8.Kind=12)))) && (decide (0 < xz8.Body)))
    else
     if ((decide (xz8.Kind≠11)) && (decide (0 < xz8.Else)))=true then
      (Zak rf N (Zam rf N kZaj p1 p6 n) p1 p6 xz8 vB1 vB2) ((decide (xz8.Kind≠11)) && (decide (0 < xz8.Else)))
     else
      (Zak rf N (Zam rf N kZaj p1 p6 n) p1 p6 xz8 vB1 vB2) ((decide (xz8.Kind=13)) && (decide (p6=0)))
  else
   kZaj vB1
def Zaj (vA1:Int):Option Int:=
 some vA1
def Zai:Nat→(List api_Stmt)→Int→Option Int
 | 0,_,_=>none
 | N+1,p1,p6=>
  (Zam (Zai N) N Zaj p1 p6) N 0 0
def Zah (N:Nat) (p1:(List api_Stmt)) (vA1:Bool):Option Bool:=
 if vA1=true then
  some false
 else
  (Zai N p1 0).bind fun r10=>
  some ((decide (r10≠(-1))) && (decide (r10≤12)))
def Zag (N:Nat) (p1:(List api_Stmt)):Option Bool:=
 if 40 < (p1.length:Int) then
  (Zah N p1) true
 else
  (Z99 N p1).bind fun rz7=>
  (Zah N p1) rz7
def Z8k (N:Nat) (p1:api_Thread):Option Bool:=
 (Z8j N p1.At).bind fun r13=>
 if r13=true then
  (Z9d N p1.Regs).bind fun r16=>
  if r16=true then
   some false
  else
   (Zag N p1.Body).bind fun r19=>
   some r19
 else
  some false
def Z8d (N:Nat) (p1:api_Thread):Option Bool:=
 (Z8n N p1.Name).bind fun r13=>
 if r13=true then
  (Z8k N p1).bind fun r16=>
  some (!r16)
 else
  some true
def Z9z (N:Nat) (kZ9y:Option Int) (p1:(List api_Thread)):Nat→Int→Option Int
 | 0,_=>none
 | n+1,vB1=>
  if vB1 < (p1.length:Int) then
   (getI p1 vB1).bind fun xz7=>
   (Z8d N xz7).bind fun r20=>
   if r20=true then
    some vB1
   else
    (Z9z N kZ9y p1 n) (IntKind.i64.wrap (vB1+1))
  else
   kZ9y
def Z9y  : Option Int:=
 some (-1)
def Z9x (N:Nat) (p1:(List api_Thread)):Option Int:=
 (Z9z N Z9y p1) N 0
def Z9a (N:Nat) (p1:(List api_Thread)):Option Bool:=
 (Z9x N p1).bind fun rz6=>
 some (decide (0≤rz6))
def Z8e (N:Nat) (p1:api_Thread):Option Bool:=
 if p1.Name≠[] then
  some true
 else
  (Z8k N p1).bind fun r14=>
  some (!r14)
def Za2 (N:Nat) (kZa1:Option Int) (p1:(List api_Thread)):Nat→Int→Option Int
 | 0,_=>none
 | n+1,vB1=>
  if vB1 < (p1.length:Int) then
   (getI p1 vB1).bind fun xz7=>
   (Z8e N xz7).bind fun r20=>
   if r20=true then
    some vB1
   else
    (Za2 N kZa1 p1 n) (IntKind.i64.wrap (vB1+1))
  else
   kZa1
def Za1  : Option Int:=
 some (-1)
def Za0 (N:Nat) (p1:(List api_Thread)):Option Int:=
 (Za2 N Za1 p1) N 0
def Z9b (N:Nat) (p1:(List api_Thread)):Option Bool:=
 (Za0 N p1).bind fun rz6=>
 some (decide (0≤rz6))
def Z8f (N:Nat) (p1:api_Claim):Option Bool:=
 (Z8j N p1.At).bind fun rz9=>
 if rz9=true then
  (Z5 N p1.E).bind fun r12=>
  some (!r12)
 else
  some true
def Z9q (N:Nat) (kZ9p:Option Int) (p1:(List api_Claim)):Nat→Int→Option Int
 | 0,_=>none
 | n+1,vB1=>
  if vB1 < (p1.length:Int) then
   (getI p1 vB1).bind fun xz7=>
   (Z8f N xz7).bind fun r16=>
   if r16=true then
    some vB1
   else
    (Z9q N kZ9p p1 n) (IntKind.i64.wrap (vB1+1))
  else
   kZ9p
def Z9p  : Option Int:=
 some (-1)
def Z9o (N:Nat) (p1:(List api_Claim)):Option Int:=
 (Z9q N Z9p p1) N 0
def Z97 (N:Nat) (p1:(List api_Claim)):Option Bool:=
 (Z9o N p1).bind fun rz6=>
 some (decide (0≤rz6))
def Z8g (N:Nat) (p1:api_Prog) (vA1:Bool):Option Bool:=
 if vA1=true then
  some false
 else
  (Z9a N p1.Threads).bind fun r39=>
  if r39=true then
   some false
  else
   (Z9b N p1.Recover).bind fun r42=>
   if r42=true then
    some false
   else
    (Z97 N p1.Claims).bind fun r45=>
    some (!r45)
def Z8b (N:Nat) (p1:api_Prog):Option Bool:=
 (Z94 N p1.Lines).bind fun r29=>
 if r29=true then
  (Z8g N p1) r29
 else
  (Z8h N p1.Vols 4294967296).bind fun r32=>
  if r32=true then
   (Z8h N p1.Locks 0).bind fun r35=>
   if r35=true then
    (Z8g N p1) (decide (1 < (p1.Recover.length:Int)))
   else
    (Z8g N p1) (!r35)
  else
   (Z8g N p1) (!r32)
def Z7f (_:Nat) (p1:(List api_Cell)):Option Bool:=
 some (decide (4 < (p1.length:Int)))
def Z9k (N:Nat) (kZ9j:Option Int) (p1:(List (List api_Cell))):Nat→Int→Option Int
 | 0,_=>none
 | n+1,vB1=>
  if vB1 < (p1.length:Int) then
   (getI p1 vB1).bind fun xz7=>
   (Z7f N xz7).bind fun r16=>
   if r16=true then
    some vB1
   else
    (Z9k N kZ9j p1 n) (IntKind.i64.wrap (vB1+1))
  else
   kZ9j
def Z9j  : Option Int:=
 some (-1)
def Z9i (N:Nat) (p1:(List (List api_Cell))):Option Int:=
 (Z9k N Z9j p1) N 0
def Z95 (N:Nat) (p1:(List (List api_Cell))):Option Bool:=
 (Z9i N p1).bind fun rz6=>
 some (decide (0≤rz6))
def Z92 (N:Nat) (kZ90:Int→Option (List api_Thread)) (p1:(List (List api_Thread))):Nat→Int→Int→Option (List api_Thread)
 | 0,_,_=>none
 | n+1,vB1,vB2=>
  if vB2 < (p1.length:Int) then
   (getI p1 vB2).bind fun xz7=>
   if (IntKind.i64.wrap (vB1+(xz7.length:Int))) < 0 then
    none
   else
    (Z92 N kZ90 p1 n) (IntKind.i64.wrap (vB1+(xz7.length:Int))) (IntKind.i64.wrap (vB2+1))
  else
   kZ90 vB1
def Z93 (N:Nat) (kZ91:(List api_Thread)→Option (List api_Thread)) (p1:(List (List api_Thread))):Nat→(List api_Thread)→Int→Option (List api_Thread)
 | 0,_,_=>none
 | n+1,vB3,vB9=>
  if vB9 < (p1.length:Int) then
   (getI p1 vB9).bind fun x24=>
   (Df 72 vB3 x24).bind fun l33=>
   (Z93 N kZ91 p1 n) l33 (IntKind.i64.wrap (vB9+1))
  else
   kZ91 vB3
def Z91 (vA2:(List api_Thread)):Option (List api_Thread):=
 some vA2
def Z90 (N:Nat) (p1:(List (List api_Thread))) (vA1:Int):Option (List api_Thread):=
 (Pb 72 vA1).bind fun _=>
 (Z93 N Z91 p1) N [] 0
def Z8z (N:Nat) (p1:(List (List api_Thread))):Option (List api_Thread):=
 (Z92 N (Z90 N p1) p1) N 0 0
def Z7t (N:Nat) (p1:api_Prog):Option (List api_Thread):=
 (Z8z N ([p1.Threads,p1.Recover]:List (List api_Thread))).bind fun r36=>
 some r36
def Z7g (_:Nat) (p1:api_Thread):Option Bool:=
 some (decide (4 < (p1.Regs.length:Int)))
def Za5 (N:Nat) (kZa4:Option Int) (p1:(List api_Thread)):Nat→Int→Option Int
 | 0,_=>none
 | n+1,vB1=>
  if vB1 < (p1.length:Int) then
   (getI p1 vB1).bind fun xz7=>
   (Z7g N xz7).bind fun r20=>
   if r20=true then
    some vB1
   else
    (Za5 N kZa4 p1 n) (IntKind.i64.wrap (vB1+1))
  else
   kZa4
def Za4  : Option Int:=
 some (-1)
def Za3 (N:Nat) (p1:(List api_Thread)):Option Int:=
 (Za5 N Za4 p1) N 0
def Z9c (N:Nat) (p1:(List api_Thread)):Option Bool:=
 (Za3 N p1).bind fun rz6=>
 some (decide (0≤rz6))
def Z7e (N:Nat) (p1:api_Prog):Option Bool:=
 if 4 < (p1.Lines.length:Int) then
  some true
 else
  (Z95 N p1.Lines).bind fun r30=>
  if ((((r30 || (decide (4 < (p1.Vols.length:Int)))) || (decide (2 < (p1.Locks.length:Int)))) || (decide ((p1.Threads.length:Int)=0))) || (decide (3 < (p1.Threads.length:Int))))=true then
   some true
  else
   (Z7t N p1).bind fun r33=>
   (Z9c N r33).bind fun r43=>
   some (r43 || (decide (4 < (p1.Claims.length:Int))))
def Z89 (rf:(List api_Stmt)→Int→Option (Int×Bool)) (kZ8a:Int→Option (Int×Bool)) (p1:(List api_Stmt)) (xz8:api_Stmt) (vB1:Int) (vC1:Int):Option (Int×Bool):=
 if 64 < vC1 then
  some (xz8.At,true)
 else
  (Et p1 (IntKind.i64.wrap (vB1+1)) (IntKind.i64.wrap ((IntKind.i64.wrap ((IntKind.i64.wrap (vB1+1))+xz8.Body))+xz8.Else))).bind fun l24=>
  (rf l24 vC1).bind fun r32=>
  if r32.2=true then
   some (r32.1,true)
  else
   kZ8a (IntKind.i64.wrap ((IntKind.i64.wrap ((IntKind.i64.wrap (vB1+1))+xz8.Body))+xz8.Else))
def Z8a (rf:(List api_Stmt)→Int→Option (Int×Bool)) (N:Nat) (kZ88:Option (Int×Bool)) (p1:(List api_Stmt)) (p6:Int):Nat→Int→Option (Int×Bool)
 | 0,_=>none
 | n+1,vB1=>
  if vB1 < (p1.length:Int) then
   (getI p1 vB1).bind fun xz8=>
   if xz8.Kind=12 then
    (Z89 rf (Z8a rf N kZ88 p1 p6 n) p1 xz8 vB1) (IntKind.i64.wrap (p6 * xz8.N))
   else
    (Z89 rf (Z8a rf N kZ88 p1 p6 n) p1 xz8 vB1) p6
  else
   kZ88
def Z88  : Option (Int×Bool):=
 some (0,false)
def Z87:Nat→(List api_Stmt)→Int→Option (Int×Bool)
 | 0,_,_=>none
 | N+1,p1,p6=>
  (Z8a (Z87 N) N Z88 p1 p6) N 0
def Z7s (N:Nat) (kZ7r:(List (Str×Int))→Option ((List (Str×Int))×Bool)) (p1:api_Thread):Nat→(List (Str×Int))→Int→Option ((List (Str×Int))×Bool)
 | 0,_,_=>none
 | n+1,vB1,vB5=>
  if vB5 < (p1.Regs.length:Int) then
   (getI p1.Regs vB5).bind fun x27=>
   if ((Bf x27 vB1).getD 0)≠0 then
    some ([],true)
   else
    (Z7s N kZ7r p1 n) (Ih x27 5 vB1) (IntKind.i64.wrap (vB5+1))
  else
   kZ7r vB1
def Z7r (vA1:(List (Str×Int))):Option ((List (Str×Int))×Bool):=
 some (vA1,false)
def Z7q (N:Nat) (p1:api_Thread) (p4:(List (Str×Int))):Option ((List (Str×Int))×Bool):=
 (Z7s N Z7r p1) N (p4.filter fun q=>decide (q.2≠4)) 0
def Z7u (_:Nat) (p1:(List api_Stmt)):Option (List api_Stmt):=
 some p1
def Z85 {τ:Type} (kZ86:Int→τ→Option (Bool×τ)) (vB2:Int) (vC2:Bool) (vC3:τ):Option (Bool×τ):=
 if vC2=true then
  some (false,vC3)
 else
  kZ86 (IntKind.i64.wrap (vB2+1)) vC3
def Z86 {τ:Type} (N:Nat) (kZ84:τ→Option (Bool×τ)) (p1:(List api_Node)) (p6:Int) (y:τ→legal_use→Option (τ×Bool)):Nat→Int→τ→Option (Bool×τ)
 | 0,_,_=>none
 | n+1,vB2,vB3=>
  if vB2 < (p1.length:Int) then
   (getI p1 vB2).bind fun xz8=>
   if xz8.Op=2 then
    (y vB3 (legal_use.mk xz8.Name xz8.At ([p6]:List Int))).bind fun r22=>
    (Z85 (Z86 N kZ84 p1 p6 y n) vB2) (!r22.2) r22.1
   else
    (Z85 (Z86 N kZ84 p1 p6 y n) vB2) false vB3
  else
   kZ84 vB3
def Z84 {τ:Type} (vA2:τ):Option (Bool×τ):=
 some (true,vA2)
def Z83 {τ:Type} (N:Nat) (p1:(List api_Node)) (p6:Int) (y:τ→legal_use→Option (τ×Bool)) (s0:τ):Option (Bool×τ):=
 (Z86 N Z84 p1 p6 y) N 0 s0
def Z7z {τ:Type} (kZ7x:(List Int)→τ→Option τ) (vC5:Bool) (vC6:τ):Option τ:=
 if vC5=true then
  kZ7x ([3]:List Int) vC6
 else
  kZ7x ([1,2]:List Int) vC6
def Z7y {τ:Type} (kZ7x:(List Int)→τ→Option τ) (xz9:api_Stmt) (vC1:Bool) (vC2:τ):Option τ:=
 if vC1=true then
  kZ7x ([1]:List Int) vC2
 else
  if xz9.Kind=9 then
   (Z7z kZ7x) (decide (xz9.Kind=9)) vC2
  else
   (Z7z kZ7x) (decide (xz9.Kind=10)) vC2
def Z81 {τ:Type} (kZ82:Int→τ→Option τ) (vA2:Int) (vB21:Bool) (vB22:τ):Option τ:=
 if vB21=true then
  some vB22
 else
  kZ82 (IntKind.i64.wrap (vA2+1)) vB22
def Z80 {τ:Type} (N:Nat) (kZ82:Int→τ→Option τ) (y:τ→legal_use→Option (τ×Bool)) (xz9:api_Stmt) (vA2:Int) (vB16:Bool) (vB17:τ):Option τ:=
 if vB16=true then
  some vB17
 else
  (Z83 N xz9.E 5 y vB17).bind fun r63=>
  if r63.1=true then
   (Z83 N xz9.F 5 y r63.2).bind fun r72=>
   (Z81 kZ82 vA2) (!r72.1) r72.2
  else
   (Z81 kZ82 vA2) true r63.2
def Z7x {τ:Type} (N:Nat) (kZ82:Int→τ→Option τ) (y:τ→legal_use→Option (τ×Bool)) (xz9:api_Stmt) (vA2:Int) (vB6:(List Int)) (vB12:τ):Option τ:=
 if xz9.Name≠[] then
  (y vB12 (legal_use.mk xz9.Name xz9.At vB6)).bind fun r56=>
  (Z80 N kZ82 y xz9 vA2) (!r56.2) r56.1
 else
  (Z80 N kZ82 y xz9 vA2) false vB12
def Z7w {τ:Type} (N:Nat) (kZ82:Int→τ→Option τ) (y:τ→legal_use→Option (τ×Bool)) (xz9:api_Stmt) (vA2:Int) (vB2:Bool) (vB3:τ):Option τ:=
 if vB2=true then
  some vB3
 else
  if xz9.Kind=5 then
   (Z7y (Z7x N kZ82 y xz9 vA2) xz9) (decide (xz9.Kind=5)) vB3
  else
   (Z7y (Z7x N kZ82 y xz9 vA2) xz9) (decide (xz9.Kind=6)) vB3
def Z82 {τ:Type} (N:Nat) (y:τ→legal_use→Option (τ×Bool)) (y2:(List api_Stmt)):Nat→Int→τ→Option τ
 | 0,_,_=>none
 | n+1,vA2,vA3=>
  if vA2 < (y2.length:Int) then
   (getI y2 vA2).bind fun xz9=>
   if xz9.Reg≠[] then
    (y vA3 (legal_use.mk xz9.Reg xz9.At ([5]:List Int))).bind fun r31=>
    (Z7w N (Z82 N y y2 n) y xz9 vA2) (!r31.2) r31.1
   else
    (Z7w N (Z82 N y y2 n) y xz9 vA2) false vA3
  else
   some vA3
def Z7v {τ:Type} (N:Nat) (y:τ→legal_use→Option (τ×Bool)) (s0:τ) (y2:(List api_Stmt)):Option τ:=
 (Z82 N y y2) N 0 s0
def Zab (N:Nat) (kZaa:Option Int) (p1:(List Int)) (p6:Int):Nat→Int→Option Int
 | 0,_=>none
 | n+1,vB1=>
  if vB1 < (p1.length:Int) then
   (getI p1 vB1).bind fun xz8=>
   if p6=xz8 then
    some vB1
   else
    (Zab N kZaa p1 p6 n) (IntKind.i64.wrap (vB1+1))
  else
   kZaa
def Zaa  : Option Int:=
 some (-1)
def Za9 (N:Nat) (p1:(List Int)) (p6:Int):Option Int:=
 (Zab N Zaa p1 p6) N 0
def Z9e (N:Nat) (p1:(List Int)) (p6:Int):Option Bool:=
 (Za9 N p1 p6).bind fun rz7=>
 some (decide (0≤rz7))
def Z6s (N:Nat) (kZ6m:Option (Int×Int)) (r43:(List api_Thread)):Nat→Int→Option (Int×Int)
 | 0,_=>none
 | n+1,vB1=>
  if vB1 < (r43.length:Int) then
   (getI r43 vB1).bind fun x54=>
   (Z87 N x54.Body 1).bind fun r68=>
   if r68.2=true then
    some (11,r68.1)
   else
    (Z6s N kZ6m r43 n) (IntKind.i64.wrap (vB1+1))
  else
   kZ6m
def Z6t (N:Nat) (kZ6o:Option (Int×Int)) (r31:((List (Str×Int))×Int×Bool)) (r72:(List api_Thread)):Nat→Int→Option (Int×Int)
 | 0,_=>none
 | n+1,vB2=>
  if vB2 < (r72.length:Int) then
   (getI r72 vB2).bind fun x83=>
   (Z7q N x83 r31.1).bind fun r97=>
   if r97.2=true then
    some (10,x83.At)
   else
    (Z6t N kZ6o r31 r72 n) (IntKind.i64.wrap (vB2+1))
  else
   kZ6o
def Z6l (N:Nat) (r128:((List (Str×Int))×Bool)) (xe206:legal_use):Option (Unit ⊕ Int):=
 (Z9e N xe206.may ((Bf xe206.name r128.1).getD 0)).bind fun r214=>
 if r214=true then
  some (.inl ())
 else
  some (.inr xe206.at')
def Z6u (N:Nat) (kZ6p:Option (Int×Int)) (r31:((List (Str×Int))×Int×Bool)) (r103:(List api_Thread)):Nat→Int→Option (Int×Int)
 | 0,_=>none
 | n+1,vB4=>
  if vB4 < (r103.length:Int) then
   (getI r103 vB4).bind fun x114=>
   (Z7q N x114 r31.1).bind fun r128=>
   (Z7u N x114.Body).bind fun r134=>
   (Z7v N (yy (fun (_:Unit) (x:legal_use)=>(Z6l N r128) x)) (.inl ()) r134).bind fun q146=>
   match q146 with
    | .inl _=>
     (Z6u N kZ6p r31 r103 n) (IntKind.i64.wrap (vB4+1))
    | .inr vC3=>
     some (9,vC3)
  else
   kZ6p
def Z6r (N:Nat) (kZ6n:Option (Int×Int)) (r31:((List (Str×Int))×Int×Bool)) (x222:api_Claim):Nat→Int→Option (Int×Int)
 | 0,_=>none
 | n+1,vD1=>
  if vD1 < (x222.E.length:Int) then
   (getI x222.E vD1).bind fun x233=>
   if ((decide (x233.Op=2)) && (decide (((Bf x233.Name r31.1).getD 0)≠1)))=true then
    some (9,x233.At)
   else
    (Z6r N kZ6n r31 x222 n) (IntKind.i64.wrap (vD1+1))
  else
   kZ6n
def Z6n (kZ6v:Int→Option (Int×Int)) (vB6:Int):Option (Int×Int):=
 kZ6v (IntKind.i64.wrap (vB6+1))
def Z6v (N:Nat) (kZ6q:Option (Int×Int)) (p1:api_Prog) (r31:((List (Str×Int))×Int×Bool)):Nat→Int→Option (Int×Int)
 | 0,_=>none
 | n+1,vB6=>
  if vB6 < (p1.Claims.length:Int) then
   (getI p1.Claims vB6).bind fun x222=>
   (Z6r N (Z6n (Z6v N kZ6q p1 r31 n) vB6) r31 x222) N 0
  else
   kZ6q
def Z6q  : Option (Int×Int):=
 some (0,0)
def Z6p (N:Nat) (p1:api_Prog) (r31:((List (Str×Int))×Int×Bool)):Option (Int×Int):=
 (Z6v N Z6q p1 r31) N 0
def Z6o (N:Nat) (p1:api_Prog) (r31:((List (Str×Int))×Int×Bool)):Option (Int×Int):=
 (Z7t N p1).bind fun r103=>
 (Z6u N (Z6p N p1 r31) r31 r103) N 0
def Z6m (N:Nat) (p1:api_Prog) (r31:((List (Str×Int))×Int×Bool)):Option (Int×Int):=
 if r31.2.2=true then
  some (10,r31.2.1)
 else
  (Z7t N p1).bind fun r72=>
  (Z6t N (Z6o N p1 r31) r31 r72) N 0
def Z6k (N:Nat) (p1:api_Prog):Option (Int×Int):=
 (Z7h N p1).bind fun r31=>
 (Z8b N p1).bind fun r37=>
 if r37=true then
  (Z7e N p1).bind fun r40=>
  if r40=true then
   some (2,0)
  else
   (Z7t N p1).bind fun r43=>
   (Z6s N (Z6m N p1 r31) r43) N 0
 else
  some (8,0)
def Z16 (_:Nat) (p1:Int):Option Bool:=
 some (((decide (97≤p1)) && (decide (p1≤122))) || (decide (p1=95)))
def Zm (N:Nat) (kZl:Option Bool) (p1:Str):Nat→Int→Option Bool
 | 0,_=>none
 | n+1,vB1=>
  if vB1 < (([[108,105,110,101],[118,111,108],[108,111,99,107],[116,104,114,101,97,100],[114,101,103],[108,111,97,100],[115,116,111,114,101],[99,97,115],[102,108,117,115,104],[111,112,116],[115,102,101,110,99,101],[109,102,101,110,99,101],[116,97,107,101],[103,105,118,101],[105,102],[101,108,115,101],[108,111,111,112],[98,114,101,97,107],[99,104,101,99,107],[114,101,99,111,118,101,114],[97,108,119,97,121,115]]:List Str).length:Int) then
   (getI ([[108,105,110,101],[118,111,108],[108,111,99,107],[116,104,114,101,97,100],[114,101,103],[108,111,97,100],[115,116,111,114,101],[99,97,115],[102,108,117,115,104],[111,112,116],[115,102,101,110,99,101],[109,102,101,110,99,101],[116,97,107,101],[103,105,118,101],[105,102],[101,108,115,101],[108,111,111,112],[98,114,101,97,107],[99,104,101,99,107],[114,101,99,111,118,101,114],[97,108,119,97,121,115]]:List Str) vB1).bind fun xz6=>
   if xz6=p1 then
    some true
   else
    (Zm N kZl p1 n) (IntKind.i64.wrap (vB1+1))
  else
   kZl
def Zl  : Option Bool:=
 some false
def Zk (N:Nat) (p1:Str):Option Bool:=
 (Zm N Zl p1) N 0
def Z15 (_:Nat) (p1:Int):Option Bool:=
 some ((decide (48≤p1)) && (decide (p1≤57)))
def Zq (kZr:Int→Option Bool) (vB1:Int) (vC1:Bool):Option Bool:=
 if vC1=true then
  some false
 else
  kZr (IntKind.i64.wrap (vB1+1))
def Zr (N:Nat) (kZp:Option Bool) (p1:Str):Nat→Int→Option Bool
 | 0,_=>none
 | n+1,vB1=>
  if vB1 < (p1.length:Int) then
   (Cv p1 vB1).bind fun x12=>
   (Z16 N x12).bind fun r14=>
   if r14=true then
    (Zq (Zr N kZp p1 n) vB1) false
   else
    (Cv p1 vB1).bind fun x17=>
    (Z15 N x17).bind fun r19=>
    (Zq (Zr N kZp p1 n) vB1) (!r19)
  else
   kZp
def Zp  : Option Bool:=
 some true
def Zo (N:Nat) (p1:Str) (vA1:Bool):Option Bool:=
 if vA1=true then
  some false
 else
  (Zr N Zp p1) N 0
def Zn (N:Nat) (p1:Str):Option Bool:=
 if ((decide ((p1.length:Int) < 1)) || (decide (16 < (p1.length:Int))))=true then
  (Zo N p1) true
 else
  (Cv p1 0).bind fun xz3=>
  (Z16 N xz3).bind fun rz5=>
  if rz5=true then
   (Zk N p1).bind fun rz8=>
   (Zo N p1) rz8
  else
   (Zo N p1) true
def Z4r (N:Nat) (p1:Int):Option Bool:=
 some ((decide (0≤p1)) && (decide (p1≤4000)))
def Z4p (kZ4q:Int→Option Bool) (vB1:Int) (vC1:Bool):Option Bool:=
 if vC1=true then
  some false
 else
  kZ4q (IntKind.i64.wrap (vB1+1))
def Z4q (N:Nat) (kZ4o:Option Bool) (p1:(List api_Cell)) (p6:Int):Nat→Int→Option Bool
 | 0,_=>none
 | n+1,vB1=>
  if vB1 < (p1.length:Int) then
   (getI p1 vB1).bind fun xz8=>
   (Zn N xz8.Name).bind fun r13=>
   if (((!r13) || (decide (xz8.N < 0))) || (decide (p6 < xz8.N)))=true then
    (Z4p (Z4q N kZ4o p1 p6 n) vB1) true
   else
    (Z4r N xz8.At).bind fun r16=>
    (Z4p (Z4q N kZ4o p1 p6 n) vB1) (!r16)
  else
   kZ4o
def Z4o  : Option Bool:=
 some true
def Z4n (N:Nat) (p1:(List api_Cell)) (p6:Int):Option Bool:=
 (Z4q N Z4o p1 p6) N 0
def Z1r (_:Nat) (p1:Int):Option Int:=
 if ((decide (p1=1)) || (decide (p1=2)))=true then
  some 0
 else
  if ((decide (p1=3)) || (decide (p1=4)))=true then
   some 1
  else
   if ((decide (5≤p1)) && (decide (p1≤15)))=true then
    some 2
   else
    some (-1)
def Z1k (rf:(List api_Node)→Int→Option Int) (N:Nat) (kZ1j:Int→Option Int) (p1:(List api_Node)) (p6:Int):Nat→Int→Int→Option Int
 | 0,_,_=>none
 | n+1,vB1,vB2=>
  (getI p1 p6).bind fun x16=>
  (Z1r N x16.Op).bind fun r21=>
  if ((decide (vB2 < r21)) && (decide (0≤vB1)))=true then
   (rf p1 vB1).bind fun r24=>
   (Z1k rf N kZ1j p1 p6 n) r24 (IntKind.i64.wrap (vB2+1))
  else
   kZ1j vB1
def Z1j (vA2:Int):Option Int:=
 some vA2
def Z1i (rf:(List api_Node)→Int→Option Int) (N:Nat) (p1:(List api_Node)) (p6:Int) (vA1:Bool):Option Int:=
 if vA1=true then
  some (-1)
 else
  (Z1k rf N Z1j p1 p6) N (IntKind.i64.wrap (p6+1)) 0
def Z1h:Nat→(List api_Node)→Int→Option Int
 | 0,_,_=>none
 | N+1,p1,p6=>
  if ((decide (p6 < 0)) || (decide ((p1.length:Int)≤p6)))=true then
   (Z1i (Z1h N) N p1 p6) true
  else
   (getI p1 p6).bind fun xz8=>
   (Z1r N xz8.Op).bind fun r13=>
   (Z1i (Z1h N) N p1 p6) (decide (r13 < 0))
def Z22 (rf:(List api_Node)→Int→Option Int) (N:Nat) (kZ21:Int→Option Int) (p1:(List api_Node)) (p6:Int):Nat→Int→Int→Int→Option Int
 | 0,_,_,_=>none
 | n+1,vB1,vB2,vB3=>
  (getI p1 p6).bind fun xz7=>
  (Z1r N xz7.Op).bind fun r12=>
  if vB3 < r12 then
   (rf p1 vB2).bind fun r15=>
   (Z1h N p1 vB2).bind fun r17=>
   (Z22 rf N kZ21 p1 p6 n) (max vB1 r15) r17 (IntKind.i64.wrap (vB3+1))
  else
   kZ21 vB1
def Z21 (vA1:Int):Option Int:=
 some (IntKind.i64.wrap (vA1+1))
def Z20:Nat→(List api_Node)→Int→Option Int
 | 0,_,_=>none
 | N+1,p1,p6=>
  (Z22 (Z20 N) N Z21 p1 p6) N 0 (IntKind.i64.wrap (p6+1)) 0
def Z1w (kZ1x:Int→Option Bool) (vB1:Int) (vC1:Bool):Option Bool:=
 if vC1=true then
  some false
 else
  kZ1x (IntKind.i64.wrap (vB1+1))
def Z1x (N:Nat) (kZ1v:Option Bool) (p1:(List api_Node)):Nat→Int→Option Bool
 | 0,_=>none
 | n+1,vB1=>
  if vB1 < (p1.length:Int) then
   (getI p1 vB1).bind fun x11=>
   if ((((((decide (x11.At < 0)) || (decide (4000 < x11.At))) || ((decide (x11.Op≠1)) && (decide (x11.N≠0)))) || ((decide (x11.Op≠2)) && (decide (x11.Name≠[])))) || (decide (x11.N < 0))) || (decide (4294967296 < x11.N)))=true then
    (Z1w (Z1x N kZ1v p1 n) vB1) true
   else
    if x11.Op=2 then
     (Zn N x11.Name).bind fun r19=>
     (Z1w (Z1x N kZ1v p1 n) vB1) (!r19)
    else
     (Z1w (Z1x N kZ1v p1 n) vB1) false
  else
   kZ1v
def Z1v (N:Nat) (p1:(List api_Node)):Option Bool:=
 (Z20 N p1 0).bind fun r22=>
 some (decide (r22≤12))
def Z1u (N:Nat) (p1:(List api_Node)) (vA1:Bool):Option Bool:=
 if vA1=true then
  some false
 else
  (Z1x N (Z1v N p1) p1) N 0
def Z1t (N:Nat) (p1:(List api_Node)):Option Bool:=
 if 40 < (p1.length:Int) then
  (Z1u N p1) true
 else
  (Z1h N p1 0).bind fun rz7=>
  (Z1u N p1) (decide (rz7≠(p1.length:Int)))
def Z29 (_:Nat) (p1:Int):Option Str:=
 if ((decide (p1 < 1)) || (decide (14 < p1)))=true then
  some []
 else
  (getI ([[],[114,101],[114,110],[110,101],[114,110,101,102],[110],[110],[],[],[110],[110],[101,98],[107,98],[],[101]]:List Str) p1).bind fun xz6=>
  some xz6
def Z3c (N:Nat) (kZ3b:Option Bool) (p1:Str) (p2:Int):Nat→Int→Option Bool
 | 0,_=>none
 | n+1,vB1=>
  if vB1 < (p1.length:Int) then
   (Cv p1 vB1).bind fun xz4=>
   if xz4=p2 then
    some true
   else
    (Z3c N kZ3b p1 p2 n) (IntKind.i64.wrap (vB1+1))
  else
   kZ3b
def Z3b  : Option Bool:=
 some false
def Z3a (N:Nat) (p1:Str) (p2:Int):Option Bool:=
 (Z3c N Z3b p1 p2) N 0
def Z3k (N:Nat) (p1:api_Stmt) (r14:Str) (vA2:Bool):Option Bool:=
 if vA2=true then
  some false
 else
  (Z3a N r14 107).bind fun r36=>
  if r36=true then
   some ((decide (1≤p1.N)) && (decide (p1.N≤8)))
  else
   some (decide (p1.N=0))
def Z3j (N:Nat) (p1:api_Stmt) (r14:Str) (r20:Bool) (r22:Bool) (vA1:Bool):Option Bool:=
 if vA1=true then
  some false
 else
  (Z1t N p1.E).bind fun r30=>
  if ((r20 != r30) || ((!r20) && (decide (0 < (p1.E.length:Int)))))=true then
   (Z3k N p1 r14) true
  else
   (Z1t N p1.F).bind fun r33=>
   (Z3k N p1 r14) ((r22 != r33) || ((!r22) && (decide (0 < (p1.F.length:Int)))))
def Z3i (N:Nat) (p1:api_Stmt):Option Bool:=
 if ((((decide (p1.Kind < 1)) || (decide (14 < p1.Kind))) || (decide (p1.At < 0))) || (decide (4000 < p1.At)))=true then
  some false
 else
  (Z29 N p1.Kind).bind fun r14=>
  (Z3a N r14 114).bind fun r16=>
  (Z3a N r14 110).bind fun r18=>
  (Z3a N r14 101).bind fun r20=>
  (Z3a N r14 102).bind fun r22=>
  (Zn N p1.Reg).bind fun r24=>
  if ((r16 != r24) || ((!r16) && (decide (p1.Reg≠[]))))=true then
   (Z3j N p1 r14 r20 r22) true
  else
   (Zn N p1.Name).bind fun r27=>
   (Z3j N p1 r14 r20 r22) ((r18 != r27) || ((!r18) && (decide (p1.Name≠[]))))
def Z3g (kZ3h:Int→Int→Option Int) (xz8:api_Stmt) (vB2:Int) (vC2:Int):Option Int:=
 kZ3h vC2 (IntKind.i64.wrap ((IntKind.i64.wrap ((IntKind.i64.wrap (vB2+1))+xz8.Body))+xz8.Else))
def Z3f (rf:(List api_Stmt)→Int→Option Int) (kZ3h:Int→Int→Option Int) (p1:(List api_Stmt)) (xz8:api_Stmt) (vB1:Int) (vB2:Int) (vC1:Int):Option Int:=
 if ((decide (xz8.Kind=11)) || (decide (xz8.Kind=12)))=true then
  (Et p1 (IntKind.i64.wrap (vB2+1)) (IntKind.i64.wrap ((IntKind.i64.wrap (vB2+1))+xz8.Body))).bind fun l26=>
  (rf l26 vC1).bind fun r34=>
  (Et p1 (IntKind.i64.wrap ((IntKind.i64.wrap (vB2+1))+xz8.Body)) (IntKind.i64.wrap ((IntKind.i64.wrap ((IntKind.i64.wrap (vB2+1))+xz8.Body))+xz8.Else))).bind fun l36=>
  (rf l36 vC1).bind fun r44=>
  if ((decide (r34 < 0)) || (decide (r44 < 0)))=true then
   some (-1)
  else
   (Z3g kZ3h xz8 vB2) (max (max vB1 (IntKind.i64.wrap (1+r34))) (IntKind.i64.wrap (1+r44)))
 else
  (Z3g kZ3h xz8 vB2) vB1
def Z3h (rf:(List api_Stmt)→Int→Option Int) (N:Nat) (kZ3e:Int→Option Int) (p1:(List api_Stmt)) (p6:Int):Nat→Int→Int→Option Int
 | 0,_,_=>none
 | n+1,vB1,vB2=>
  if vB2 < (p1.length:Int) then
   (getI p1 vB2).bind fun xz8=>
   if (((((decide (xz8.Body < 0)) || (decide (xz8.Else < 0))) || (decide (40 < xz8.Body))) || (decide (40 < xz8.Else))) || (decide ((p1.length:Int) < (IntKind.i64.wrap ((IntKind.i64.wrap ((IntKind.i64.wrap (vB2+1))+xz8.Body))+xz8.Else)))))=true then
    some (-1)
   else
    if (((((decide (0 < xz8.Body)) && (decide (xz8.Kind≠11))) && (decide (xz8.Kind≠12))) || ((decide (0 < xz8.Else)) && (decide (xz8.Kind≠11)))) || ((decide (xz8.Kind=13)) && (decide (p6=0))))=true then
     some (-1)
    else
     if xz8.Kind=12 then
      (Z3f rf (Z3h rf N kZ3e p1 p6 n) p1 xz8 vB1 vB2) (IntKind.i64.wrap (p6+1))
     else
      (Z3f rf (Z3h rf N kZ3e p1 p6 n) p1 xz8 vB1 vB2) p6
  else
   kZ3e vB1
def Z3e (vA1:Int):Option Int:=
 some vA1
def Z3d:Nat→(List api_Stmt)→Int→Option Int
 | 0,_,_=>none
 | N+1,p1,p6=>
  (Z3h (Z3d N) N Z3e p1 p6) N 0 0
def Z38 (N:Nat) (kZ37:Option Bool) (p1:(List api_Stmt)):Nat→Int→Option Bool
 | 0,_=>none
 | n+1,vB1=>
  if vB1 < (p1.length:Int) then
   (getI p1 vB1).bind fun xz8=>
   (Z3i N xz8).bind fun r21=>
   if r21=true then
    (Z38 N kZ37 p1 n) (IntKind.i64.wrap (vB1+1))
   else
    some false
  else
   kZ37
def Z37 (N:Nat) (p1:(List api_Stmt)):Option Bool:=
 (Z3d N p1 0).bind fun r24=>
 some ((decide (0≤r24)) && (decide (r24≤12)))
def Z36 (N:Nat) (p1:(List api_Stmt)):Option Bool:=
 if 40 < (p1.length:Int) then
  some false
 else
  (Z38 N (Z37 N p1) p1) N 0
def Z4x (N:Nat) (kZ4u:Option Bool) (p1:(List api_Thread)) (vB1:Int):Nat→Int→Option Bool
 | 0,_=>none
 | n+1,vD2=>
  (getI p1 vB1).bind fun x30=>
  if vD2 < (x30.Regs.length:Int) then
   (getI x30.Regs vD2).bind fun x44=>
   (Zn N x44).bind fun r49=>
   if r49=true then
    (Z4x N kZ4u p1 vB1 n) (IntKind.i64.wrap (vD2+1))
   else
    some false
  else
   kZ4u
def Z4v (N:Nat) (kZ4u:Option Bool) (p1:(List api_Thread)) (vB1:Int) (vD1:Bool):Option Bool:=
 if vD1=true then
  some false
 else
  (Z4x N kZ4u p1 vB1) N 0
def Z4u (kZ4w:Int→Option Bool) (vB1:Int):Option Bool:=
 kZ4w (IntKind.i64.wrap (vB1+1))
def Z4w (N:Nat) (kZ4t:Option Bool) (p1:(List api_Thread)) (p6:Bool):Nat→Int→Option Bool
 | 0,_=>none
 | n+1,vB1=>
  if vB1 < (p1.length:Int) then
   (getI p1 vB1).bind fun xz8=>
   (Zn N xz8.Name).bind fun r21=>
   if ((p6 != r21) || ((!p6) && (decide (xz8.Name≠[]))))=true then
    (Z4v N (Z4u (Z4w N kZ4t p1 p6 n) vB1) p1 vB1) true
   else
    (Z4r N xz8.At).bind fun r24=>
    if r24=true then
     (Z36 N xz8.Body).bind fun r27=>
     (Z4v N (Z4u (Z4w N kZ4t p1 p6 n) vB1) p1 vB1) (!r27)
    else
     (Z4v N (Z4u (Z4w N kZ4t p1 p6 n) vB1) p1 vB1) true
  else
   kZ4t
def Z4t  : Option Bool:=
 some true
def Z4s (N:Nat) (p1:(List api_Thread)) (p6:Bool):Option Bool:=
 (Z4w N Z4t p1 p6) N 0
def Z4i (kZ4l:Int→Option Bool) (vB1:Int) (vC1:Bool):Option Bool:=
 if vC1=true then
  some false
 else
  kZ4l (IntKind.i64.wrap (vB1+1))
def Z4l (N:Nat) (kZ4h:Option Bool) (p1:api_Prog):Nat→Int→Option Bool
 | 0,_=>none
 | n+1,vB1=>
  if vB1 < (p1.Lines.length:Int) then
   (getI p1.Lines vB1).bind fun x30=>
   if (x30.length:Int)=0 then
    (Z4i (Z4l N kZ4h p1 n) vB1) true
   else
    (Z4n N x30 4294967296).bind fun r40=>
    (Z4i (Z4l N kZ4h p1 n) vB1) (!r40)
  else
   kZ4h
def Z4k (kZ4m:Int→Option Bool) (vB2:Int) (vC2:Bool):Option Bool:=
 if vC2=true then
  some false
 else
  kZ4m (IntKind.i64.wrap (vB2+1))
def Z4m (N:Nat) (kZ4j:Option Bool) (p1:api_Prog):Nat→Int→Option Bool
 | 0,_=>none
 | n+1,vB2=>
  if vB2 < (p1.Claims.length:Int) then
   (getI p1.Claims vB2).bind fun x44=>
   (Z4r N x44.At).bind fun r53=>
   if r53=true then
    (Z1t N x44.E).bind fun r56=>
    (Z4k (Z4m N kZ4j p1 n) vB2) (!r56)
   else
    (Z4k (Z4m N kZ4j p1 n) vB2) true
  else
   kZ4j
def Z4j (N:Nat) (p1:api_Prog):Option Bool:=
 (Z4n N p1.Vols 4294967296).bind fun r59=>
 if r59=true then
  (Z4n N p1.Locks 0).bind fun r62=>
  if r62=true then
   (Z4s N p1.Threads true).bind fun r65=>
   if r65=true then
    (Z4s N p1.Recover false).bind fun r68=>
    some (r68 && (decide ((p1.Recover.length:Int)≤1)))
   else
    some false
  else
   some false
 else
  some false
def Z4h (N:Nat) (p1:api_Prog):Option Bool:=
 (Z4m N (Z4j N p1) p1) N 0
def Z4g (N:Nat) (p1:api_Prog):Option Bool:=
 (Z4l N (Z4h N p1) p1) N 0
def Z5u (N:Nat) (p1:api_Prog):Option (List api_Thread):=
 (Df 72 ([]:List api_Thread) p1.Threads).bind fun l32=>
 (Df 72 l32 p1.Recover).bind fun l41=>
 some l41
def Z5y (N:Nat) (kZ5w:Option Bool) (p1:api_Prog):Nat→Int→Option Bool
 | 0,_=>none
 | n+1,vB1=>
  if vB1 < (p1.Lines.length:Int) then
   (getI p1.Lines vB1).bind fun x30=>
   if 4 < (x30.length:Int) then
    some true
   else
    (Z5y N kZ5w p1 n) (IntKind.i64.wrap (vB1+1))
  else
   kZ5w
def Z5z (N:Nat) (kZ5x:Option Bool) (r40:(List api_Thread)):Nat→Int→Option Bool
 | 0,_=>none
 | n+1,vB2=>
  if vB2 < (r40.length:Int) then
   (getI r40 vB2).bind fun x51=>
   if 4 < (x51.Regs.length:Int) then
    some true
   else
    (Z5z N kZ5x r40 n) (IntKind.i64.wrap (vB2+1))
  else
   kZ5x
def Z5x (p1:api_Prog):Option Bool:=
 some ((((((decide (4 < (p1.Lines.length:Int))) || (decide (4 < (p1.Vols.length:Int)))) || (decide (2 < (p1.Locks.length:Int)))) || (decide ((p1.Threads.length:Int) < 1))) || (decide (3 < (p1.Threads.length:Int)))) || (decide (4 < (p1.Claims.length:Int))))
def Z5w (N:Nat) (p1:api_Prog):Option Bool:=
 (Z5u N p1).bind fun r40=>
 (Z5z N (Z5x p1) r40) N 0
def Z5v (N:Nat) (p1:api_Prog):Option Bool:=
 (Z5y N (Z5w N p1) p1) N 0
def Z6h (rf:(List api_Stmt)→Int→Option Int) (p1:(List api_Stmt)) (p6:Int) (xz8:api_Stmt) (vA1:Int):Option Int:=
 if 64 < vA1 then
  some xz8.At
 else
  (Et p1 1 (IntKind.i64.wrap ((IntKind.i64.wrap (1+xz8.Body))+xz8.Else))).bind fun l24=>
  (rf l24 vA1).bind fun r32=>
  if 0≤r32 then
   some r32
  else
   (Et p1 (IntKind.i64.wrap ((IntKind.i64.wrap (1+xz8.Body))+xz8.Else)) (p1.length:Int)).bind fun l35=>
   (rf l35 p6).bind fun r43=>
   some r43
def Z6g:Nat→(List api_Stmt)→Int→Option Int
 | 0,_,_=>none
 | N+1,p1,p6=>
  if (p1.length:Int)=0 then
   some (-1)
  else
   (getI p1 0).bind fun xz8=>
   if xz8.Kind=12 then
    (Z6h (Z6g N) p1 p6 xz8) (IntKind.i64.wrap (p6 * xz8.N))
   else
    (Z6h (Z6g N) p1 p6 xz8) p6
def Z50 (N:Nat) (kZ4z:(List api_Cell)→Option (List api_Cell)) (p1:api_Prog):Nat→(List api_Cell)→Int→Option (List api_Cell)
 | 0,_,_=>none
 | n+1,vB1,vB7=>
  if vB7 < (p1.Lines.length:Int) then
   (getI p1.Lines vB7).bind fun x33=>
   (Df 32 vB1 x33).bind fun l42=>
   (Z50 N kZ4z p1 n) l42 (IntKind.i64.wrap (vB7+1))
  else
   kZ4z vB1
def Z4z (p1:api_Prog) (vA1:(List api_Cell)):Option (List api_Cell):=
 (Df 32 vA1 p1.Vols).bind fun l51=>
 some l51
def Z4y (N:Nat) (p1:api_Prog):Option (List api_Cell):=
 (Z50 N (Z4z p1) p1) N [] 0
def Z5m (N:Nat) (kZ5l:(List Str)→Option (List Str)) (p1:(List api_Cell)):Nat→(List Str)→Int→Option (List Str)
 | 0,_,_=>none
 | n+1,vB1,vB7=>
  if vB7 < (p1.length:Int) then
   (getI p1 vB7).bind fun x10=>
   (Df 16 vB1 ([x10.Name]:List Str)).bind fun l18=>
   (Z5m N kZ5l p1 n) l18 (IntKind.i64.wrap (vB7+1))
  else
   kZ5l vB1
def Z5l (vA1:(List Str)):Option (List Str):=
 some vA1
def Z5k (N:Nat) (p1:(List api_Cell)):Option (List Str):=
 (Z5m N Z5l p1) N [] 0
def Z5p (N:Nat) (kZ5o:Option Int) (p1:(List Str)) (p6:Str):Nat→Int→Option Int
 | 0,_=>none
 | n+1,vB1=>
  if vB1 < (p1.length:Int) then
   (getI p1 vB1).bind fun xz8=>
   if xz8=p6 then
    some vB1
   else
    (Z5p N kZ5o p1 p6 n) (IntKind.i64.wrap (vB1+1))
  else
   kZ5o
def Z5o  : Option Int:=
 some (-1)
def Z5n (N:Nat) (p1:(List Str)) (p6:Str):Option Int:=
 (Z5p N Z5o p1 p6) N 0
def Z6a (N:Nat) (kZ68:(List api_Cell)→Option Int) (p1:api_Prog):Nat→(List api_Cell)→Int→Option Int
 | 0,_,_=>none
 | n+1,vB1,vB7=>
  if vB7 < (p1.Threads.length:Int) then
   (getI p1.Threads vB7).bind fun x55=>
   (Df 32 vB1 ([(api_Cell.mk x55.Name 0 x55.At)]:List api_Cell)).bind fun l71=>
   (Z6a N kZ68 p1 n) l71 (IntKind.i64.wrap (vB7+1))
  else
   kZ68 vB1
def Z6b (N:Nat) (kZ69:Option Int) (vA1:(List api_Cell)) (r77:(List Str)):Nat→Int→Option Int
 | 0,_=>none
 | n+1,vB8=>
  if vB8 < (vA1.length:Int) then
   (getI vA1 vB8).bind fun x85=>
   (Z5n N r77 x85.Name).bind fun r91=>
   if r91 < vB8 then
    some x85.At
   else
    (Z6b N kZ69 vA1 r77 n) (IntKind.i64.wrap (vB8+1))
  else
   kZ69
def Z69  : Option Int:=
 some (-1)
def Z68 (N:Nat) (vA1:(List api_Cell)):Option Int:=
 (Z5k N vA1).bind fun r77=>
 (Z6b N Z69 vA1 r77) N 0
def Z67 (N:Nat) (p1:api_Prog):Option Int:=
 (Z4y N p1).bind fun r32=>
 (Df 32 ([]:List api_Cell) r32).bind fun l39=>
 (Df 32 l39 p1.Locks).bind fun l45=>
 (Z6a N (Z68 N) p1) N l45 0
def Z51 (N:Nat) (p1:api_Prog):Option (List Str):=
 (Z4y N p1).bind fun r29=>
 (Z5k N r29).bind fun r36=>
 some r36
def Z5j (N:Nat) (p1:api_Prog):Option (List Str):=
 (Z5k N p1.Locks).bind fun r29=>
 some r29
def Z5q (N:Nat) (p1:api_Prog):Option Int:=
 (Z4y N p1).bind fun r29=>
 some (IntKind.i64.wrap ((r29.length:Int) - (p1.Vols.length:Int)))
def Z6e (kZ6f:Int→Option Int) (p1:(List api_Node)) (vB1:Int) (vC1:Bool):Option Int:=
 if vC1=true then
  (getI p1 vB1).bind fun x21=>
  some x21.At
 else
  kZ6f (IntKind.i64.wrap (vB1+1))
def Z6f (N:Nat) (kZ6d:Option Int) (p1:(List api_Node)) (p6:(List Str)):Nat→Int→Option Int
 | 0,_=>none
 | n+1,vB1=>
  if vB1 < (p1.length:Int) then
   (getI p1 vB1).bind fun x12=>
   if x12.Op=2 then
    (Z5n N p6 x12.Name).bind fun r18=>
    (Z6e (Z6f N kZ6d p1 p6 n) p1 vB1) (decide (r18 < 0))
   else
    (Z6e (Z6f N kZ6d p1 p6 n) p1 vB1) false
  else
   kZ6d
def Z6d  : Option Int:=
 some (-1)
def Z6c (N:Nat) (p1:(List api_Node)) (p6:(List Str)):Option Int:=
 (Z6f N Z6d p1 p6) N 0
def Z65 (kZ62:Option Int) (p7:api_Stmt) (vB3:Bool):Option Int:=
 if vB3=true then
  some p7.At
 else
  kZ62
def Z66 (N:Nat) (kZ62:Option Int) (p1:api_Prog) (p7:api_Stmt) (vB4:Bool):Option Int:=
 if vB4=true then
  (Z5j N p1).bind fun r78=>
  (Z5n N r78 p7.Name).bind fun r85=>
  if r85 < 0 then
   some p7.At
  else
   kZ62
 else
  kZ62
def Z64 (N:Nat) (kZ62:Option Int) (p1:api_Prog) (p7:api_Stmt) (r64:Int) (vB2:Bool):Option Int:=
 if vB2=true then
  if r64 < 0 then
   (Z65 kZ62 p7) true
  else
   (Z5q N p1).bind fun r73=>
   (Z65 kZ62 p7) (decide (r73≤r64))
 else
  if p7.Kind=9 then
   (Z66 N kZ62 p1 p7) (decide (p7.Kind=9))
  else
   (Z66 N kZ62 p1 p7) (decide (p7.Kind=10))
def Z63 (N:Nat) (kZ62:Option Int) (p1:api_Prog) (p7:api_Stmt) (r64:Int) (vB1:Bool):Option Int:=
 if vB1=true then
  if r64 < 0 then
   some p7.At
  else
   kZ62
 else
  if p7.Kind=5 then
   (Z64 N kZ62 p1 p7 r64) (decide (p7.Kind=5))
  else
   (Z64 N kZ62 p1 p7 r64) (decide (p7.Kind=6))
def Z62 (N:Nat) (p4:api_Thread) (p7:api_Stmt):Option Int:=
 (Z6c N p7.E p4.Regs).bind fun r88=>
 if 0≤r88 then
  some r88
 else
  (Z6c N p7.F p4.Regs).bind fun r91=>
  some r91
def Z61 (N:Nat) (p1:api_Prog) (p4:api_Thread) (p7:api_Stmt) (vA1:Bool):Option Int:=
 if vA1=true then
  some p7.At
 else
  (Z51 N p1).bind fun r57=>
  (Z5n N r57 p7.Name).bind fun r64=>
  if p7.Kind=2 then
   (Z63 N (Z62 N p4 p7) p1 p7 r64) (decide (p7.Kind=2))
  else
   if p7.Kind=3 then
    (Z63 N (Z62 N p4 p7) p1 p7 r64) (decide (p7.Kind=3))
   else
    (Z63 N (Z62 N p4 p7) p1 p7 r64) (decide (p7.Kind=4))
def Z60 (N:Nat) (p1:api_Prog) (p4:api_Thread) (p7:api_Stmt):Option Int:=
 if p7.Reg≠[] then
  (Z5n N p4.Regs p7.Reg).bind fun r54=>
  (Z61 N p1 p4 p7) (decide (r54 < 0))
 else
  (Z61 N p1 p4 p7) false
def Z5c (N:Nat) (kZ53:Option (Int×Int)) (r35:(List api_Thread)):Nat→Int→Option (Int×Int)
 | 0,_=>none
 | n+1,vB1=>
  if vB1 < (r35.length:Int) then
   (getI r35 vB1).bind fun x46=>
   (Z6g N x46.Body 1).bind fun r59=>
   if 0≤r59 then
    some (11,r59)
   else
    (Z5c N kZ53 r35 n) (IntKind.i64.wrap (vB1+1))
  else
   kZ53
def Z58 (kZ5e:Int→Option (Int×Int)) (x66:api_Thread) (vD2:Int) (vE2:Bool):Option (Int×Int):=
 if vE2=true then
  some (10,x66.At)
 else
  kZ5e (IntKind.i64.wrap (vD2+1))
def Z5e (N:Nat) (kZ57:Option (Int×Int)) (p1:api_Prog) (r35:(List api_Thread)) (vB3:Int):Nat→Int→Option (Int×Int)
 | 0,_=>none
 | n+1,vD2=>
  (getI r35 vB3).bind fun x66=>
  if vD2 < (x66.Regs.length:Int) then
   (getI x66.Regs vD2).bind fun x80=>
   (Z5n N x66.Regs x80).bind fun r85=>
   if r85 < vD2 then
    (Z58 (Z5e N kZ57 p1 r35 vB3 n) x66 vD2) true
   else
    (Z51 N p1).bind fun r88=>
    (Z5n N r88 x80).bind fun r98=>
    if 0≤r98 then
     (Z58 (Z5e N kZ57 p1 r35 vB3 n) x66 vD2) true
    else
     (Z5j N p1).bind fun r101=>
     (Z5n N r101 x80).bind fun r108=>
     (Z58 (Z5e N kZ57 p1 r35 vB3 n) x66 vD2) (decide (0≤r108))
  else
   kZ57
def Z57 (kZ5d:Int→Option (Int×Int)) (vB3:Int):Option (Int×Int):=
 kZ5d (IntKind.i64.wrap (vB3+1))
def Z5d (N:Nat) (kZ56:Option (Int×Int)) (p1:api_Prog) (r35:(List api_Thread)):Nat→Int→Option (Int×Int)
 | 0,_=>none
 | n+1,vB3=>
  if vB3 < (r35.length:Int) then
   (Z5e N (Z57 (Z5d N kZ56 p1 r35 n) vB3) p1 r35 vB3) N 0
  else
   kZ56
def Z5a (N:Nat) (kZ54:Option (Int×Int)) (p1:api_Prog) (r35:(List api_Thread)) (vB4:Int):Nat→Int→Option (Int×Int)
 | 0,_=>none
 | n+1,vD3=>
  (getI r35 vB4).bind fun x112=>
  if vD3 < (x112.Body.length:Int) then
   (getI x112.Body vD3).bind fun x126=>
   (Z60 N p1 x112 x126).bind fun r139=>
   if 0≤r139 then
    some (9,r139)
   else
    (Z5a N kZ54 p1 r35 vB4 n) (IntKind.i64.wrap (vD3+1))
  else
   kZ54
def Z54 (kZ5f:Int→Option (Int×Int)) (vB4:Int):Option (Int×Int):=
 kZ5f (IntKind.i64.wrap (vB4+1))
def Z5f (N:Nat) (kZ59:Option (Int×Int)) (p1:api_Prog) (r35:(List api_Thread)):Nat→Int→Option (Int×Int)
 | 0,_=>none
 | n+1,vB4=>
  if vB4 < (r35.length:Int) then
   (Z5a N (Z54 (Z5f N kZ59 p1 r35 n) vB4) p1 r35 vB4) N 0
  else
   kZ59
def Z5b (N:Nat) (kZ55:Option (Int×Int)) (p1:api_Prog) (l154:(List Str)):Nat→Int→Option (Int×Int)
 | 0,_=>none
 | n+1,vB5=>
  if vB5 < (p1.Claims.length:Int) then
   (getI p1.Claims vB5).bind fun x163=>
   (Z6c N x163.E l154).bind fun r172=>
   if 0≤r172 then
    some (9,r172)
   else
    (Z5b N kZ55 p1 l154 n) (IntKind.i64.wrap (vB5+1))
  else
   kZ55
def Z55  : Option (Int×Int):=
 some (0,0)
def Z59 (N:Nat) (p1:api_Prog):Option (Int×Int):=
 (Z51 N p1).bind fun r142=>
 (Z5q N p1).bind fun r152=>
 (Et r142 0 r152).bind fun l154=>
 (Z5b N Z55 p1 l154) N 0
def Z56 (N:Nat) (p1:api_Prog) (r35:(List api_Thread)):Option (Int×Int):=
 (Z5f N (Z59 N p1) p1 r35) N 0
def Z53 (N:Nat) (p1:api_Prog) (r35:(List api_Thread)):Option (Int×Int):=
 (Z67 N p1).bind fun r62=>
 if 0≤r62 then
  some (10,r62)
 else
  (Z5d N (Z56 N p1 r35) p1 r35) N 0
def Z52 (N:Nat) (p1:api_Prog):Option (Int×Int):=
 (Z4g N p1).bind fun r29=>
 if r29=true then
  (Z5v N p1).bind fun r32=>
  if r32=true then
   some (2,0)
  else
   (Z5u N p1).bind fun r35=>
   (Z5c N (Z53 N p1 r35) r35) N 0
 else
  some (8,0)
def Z14 (_:Nat) (p1:Str) (p2:Int) (p3:Str):Option Bool:=
 if (IntKind.i64.wrap (p2+(p3.length:Int)))≤(p1.length:Int) then
  (Et p1 p2 (IntKind.i64.wrap (p2+(p3.length:Int)))).bind fun s5=>
  some (decide (s5=p3))
 else
  some false
def Z19 (kZ1a:Int→Option Int) (kZ1b:Int→Option Int) (vC1:Int) (vD1:Bool):Option Int:=
 if vD1=true then
  kZ1b (IntKind.i64.wrap (vC1+1))
 else
  kZ1a vC1
def Z1b (N:Nat) (kZ1a:Int→Option Int) (p1:Str):Nat→Int→Option Int
 | 0,_=>none
 | n+1,vC1=>
  if vC1 < (p1.length:Int) then
   (Cv p1 vC1).bind fun x11=>
   (Z19 kZ1a (Z1b N kZ1a p1 n) vC1) (decide (x11≠10))
  else
   (Z19 kZ1a (Z1b N kZ1a p1 n) vC1) false
def Z1a (N:Nat) (kZ18:Int→Option Int) (p1:Str):Nat→Int→Option Int
 | 0,_=>none
 | n+1,vB1=>
  if vB1 < (p1.length:Int) then
   (Cv p1 vB1).bind fun xz4=>
   if ((((decide (xz4=32)) || (decide (xz4=9))) || (decide (xz4=10))) || (decide (xz4=13)))=true then
    (Z1a N kZ18 p1 n) (IntKind.i64.wrap (vB1+1))
   else
    (Z14 N p1 vB1 [47,47]).bind fun rz7=>
    if rz7=true then
     (Z1b N (Z1a N kZ18 p1 n) p1) N vB1
    else
     some vB1
  else
   kZ18 vB1
def Z18 (vA1:Int):Option Int:=
 some vA1
def Z17 (N:Nat) (p1:Str) (p2:Int):Option Int:=
 (Z1a N Z18 p1) N p2
def Z1f (N:Nat) (kZ1d:Option Int) (p1:Str) (p2:Int):Nat→Int→Option Int
 | 0,_=>none
 | n+1,vB1=>
  if vB1 < (([[61,61],[33,61],[60,61],[38,38],[124,124]]:List Str).length:Int) then
   (getI ([[61,61],[33,61],[60,61],[38,38],[124,124]]:List Str) vB1).bind fun xz7=>
   (Z14 N p1 p2 xz7).bind fun r13=>
   if r13=true then
    some 2
   else
    (Z1f N kZ1d p1 p2 n) (IntKind.i64.wrap (vB1+1))
  else
   kZ1d
def Z1g (N:Nat) (kZ1e:Option Int) (p1:Str) (p2:Int):Nat→Int→Option Int
 | 0,_=>none
 | n+1,vB2=>
  if vB2 < 14 then
   (Cv [40,41,123,125,59,44,61,60,33,43,45,42,47,37] vB2).bind fun x17=>
   (Cv p1 p2).bind fun x19=>
   if x17=x19 then
    some 1
   else
    (Z1g N kZ1e p1 p2 n) (IntKind.i64.wrap (vB2+1))
  else
   kZ1e
def Z1e  : Option Int:=
 some 0
def Z1d (N:Nat) (p1:Str) (p2:Int):Option Int:=
 (Z1g N Z1e p1 p2) N 0
def Z1c (N:Nat) (p1:Str) (p2:Int):Option Int:=
 (Z1f N (Z1d N p1 p2) p1 p2) N 0
def Zy (kZx:Int→Option ((List api_Token)×Int×Int)) (kZ12:Int→Option ((List api_Token)×Int×Int)) (vE1:Int) (vF1:Bool):Option ((List api_Token)×Int×Int):=
 if vF1=true then
  kZ12 (IntKind.i64.wrap (vE1+1))
 else
  kZx vE1
def Z12 (N:Nat) (kZx:Int→Option ((List api_Token)×Int×Int)) (p1:Str):Nat→Int→Option ((List api_Token)×Int×Int)
 | 0,_=>none
 | n+1,vE1=>
  if vE1 < (p1.length:Int) then
   (Cv p1 vE1).bind fun x16=>
   (Z16 N x16).bind fun r18=>
   if r18=true then
    (Zy kZx (Z12 N kZx p1 n) vE1) true
   else
    (Cv p1 vE1).bind fun x21=>
    (Z15 N x21).bind fun r23=>
    (Zy kZx (Z12 N kZx p1 n) vE1) r23
  else
   (Zy kZx (Z12 N kZx p1 n) vE1) false
def Zx (kZw:Int→api_Token→Option ((List api_Token)×Int×Int)) (vB7:Int) (vD1:Int):Option ((List api_Token)×Int×Int):=
 if 16 < (IntKind.i64.wrap (vD1 - vB7)) then
  some ([],2,vB7)
 else
  kZw vD1 (api_Token.mk 1 [] 0 vB7)
def Zv (kZ13:Int→api_Token→Option ((List api_Token)×Int×Int)) (vE2:Int) (vF3:api_Token):Option ((List api_Token)×Int×Int):=
 kZ13 (IntKind.i64.wrap (vE2+1)) vF3
def Z10 (_:Nat) (kZz:Int→api_Token→Option ((List api_Token)×Int×Int)) (kZ13:Int→api_Token→Option ((List api_Token)×Int×Int)) (p1:Str) (vE2:Int) (vE3:api_Token) (vF2:Bool):Option ((List api_Token)×Int×Int):=
 if vF2=true then
  if vE3.N≤4294967296 then
   (Cv p1 vE2).bind fun x39=>
   (Zv kZ13 vE2) (api_Token.mk vE3.Kind vE3.Text (IntKind.i64.wrap ((IntKind.i64.wrap (10 * vE3.N))+(IntKind.i64.wrap (IntKind.u8.wrap (x39 - 48))))) vE3.At)
  else
   (Zv kZ13 vE2) vE3
 else
  kZz vE2 vE3
def Z13 (N:Nat) (kZz:Int→api_Token→Option ((List api_Token)×Int×Int)) (p1:Str):Nat→Int→api_Token→Option ((List api_Token)×Int×Int)
 | 0,_,_=>none
 | n+1,vE2,vE3=>
  if vE2 < (p1.length:Int) then
   (Cv p1 vE2).bind fun x33=>
   (Z15 N x33).bind fun r35=>
   (Z10 N kZz (Z13 N kZz p1 n) p1 vE2 vE3) r35
  else
   (Z10 N kZz (Z13 N kZz p1 n) p1 vE2 vE3) false
def Zz (_:Nat) (kZw:Int→api_Token→Option ((List api_Token)×Int×Int)) (vB7:Int) (vD2:Int) (vD3:api_Token):Option ((List api_Token)×Int×Int):=
 if 4294967296 < vD3.N then
  some ([],4,vB7)
 else
  kZw vD2 vD3
def Zw (N:Nat) (kZ11:(List api_Token)→Int→Option ((List api_Token)×Int×Int)) (p1:Str) (vB1:(List api_Token)) (vB7:Int) (vC1:Int) (vC2:api_Token):Option ((List api_Token)×Int×Int):=
 (Et p1 vB7 vC1).bind fun s45=>
 (Df 40 vB1 ([(api_Token.mk vC2.Kind s45 vC2.N vC2.At)]:List api_Token)).bind fun l50=>
 (Z17 N p1 vC1).bind fun r56=>
 kZ11 l50 r56
def Z11 (N:Nat) (kZu:(List api_Token)→Option ((List api_Token)×Int×Int)) (p1:Str):Nat→(List api_Token)→Int→Option ((List api_Token)×Int×Int)
 | 0,_,_=>none
 | n+1,vB1,vB7=>
  if vB7 < (p1.length:Int) then
   (Cv p1 vB7).bind fun x10=>
   (Z16 N x10).bind fun r12=>
   if r12=true then
    (Z12 N (Zx (Zw N (Z11 N kZu p1 n) p1 vB1 vB7) vB7) p1) N vB7
   else
    (Cv p1 vB7).bind fun x27=>
    (Z15 N x27).bind fun r29=>
    if r29=true then
     (Z13 N (Zz N (Zw N (Z11 N kZu p1 n) p1 vB1 vB7) vB7) p1) N vB7 (api_Token.mk 2 [] 0 vB7)
    else
     (Z1c N p1 vB7).bind fun r42=>
     if (IntKind.i64.wrap (vB7+r42))=vB7 then
      some ([],3,vB7)
     else
      (Zw N (Z11 N kZu p1 n) p1 vB1 vB7) (IntKind.i64.wrap (vB7+r42)) (api_Token.mk 3 [] 0 vB7)
  else
   kZu vB1
def Zu (vA1:(List api_Token)):Option ((List api_Token)×Int×Int):=
 some (vA1,0,0)
def Zt (N:Nat) (p1:Str):Option ((List api_Token)×Int×Int):=
 if 4000 < (p1.length:Int) then
  some ([],2,4000)
 else
  (Z17 N p1 0).bind fun rz6=>
  (Z11 N Zu p1) N [] rz6
def Zj (_:Nat) (p1:(List api_Token)) (p6:Int) (p7:Str):Option Bool:=
 if ((decide (0≤p6)) && (decide (p6 < (p1.length:Int))))=true then
  (getI p1 p6).bind fun xz9=>
  some ((((decide (xz9.Text=p7)) && (decide (xz9.Kind≠2))) && (decide (1≤xz9.Kind))) && (decide (xz9.Kind≤3)))
 else
  some false
def Z3p (p1:leadlineref05_In) (vA1:Bool):Option (Bool×leadlineref05_In):=
 if vA1=true then
  some (true,(leadlineref05_In.mk p1.L (IntKind.i64.wrap (p1.At+1)) p1.E p1.Pos))
 else
  some (false,p1)
def Z3o (N:Nat) (p1:leadlineref05_In) (p7:Str):Option (Bool×leadlineref05_In):=
 if p1.E=0 then
  (Zj N p1.L p1.At p7).bind fun rz9=>
  (Z3p p1) rz9
 else
  (Z3p p1) false
def Zs (_:Nat) (p1:(List api_Token)) (p6:Int):Option Int:=
 if ((decide (0≤p6)) && (decide (p6 < (p1.length:Int))))=true then
  (getI p1 p6).bind fun xz8=>
  some xz8.At
 else
  if (p1.length:Int)=0 then
   some 0
  else
   (getI p1 (IntKind.i64.wrap ((p1.length:Int) - 1))).bind fun x14=>
   some (IntKind.i64.wrap (x14.At+(x14.Text.length:Int)))
def Z3m (N:Nat) (p1:leadlineref05_In) (vA1:Int):Option leadlineref05_In:=
 (Zs N p1.L p1.At).bind fun rz9=>
 some (leadlineref05_In.mk p1.L p1.At vA1 rz9)
def Z3l (N:Nat) (p1:leadlineref05_In):Option leadlineref05_In:=
 if p1.E=0 then
  if (p1.L.length:Int)≤p1.At then
   (Z3m N p1) 6
  else
   (Z3m N p1) 5
 else
  some p1
def Z3s (N:Nat) (p1:leadlineref05_In) (vA1:Bool):Option (api_Cell×leadlineref05_In):=
 if vA1=true then
  (getI p1.L (IntKind.i64.wrap ((IntKind.i64.wrap (p1.At+1)) - 1))).bind fun x19=>
  some ((api_Cell.mk x19.Text 0 x19.At),(leadlineref05_In.mk p1.L (IntKind.i64.wrap (p1.At+1)) p1.E p1.Pos))
 else
  (Z3l N p1).bind fun r24=>
  some ((api_Cell.mk [] 0 0),r24)
def Z3r (N:Nat) (p1:leadlineref05_In):Option (api_Cell×leadlineref05_In):=
 if p1.E=0 then
  if p1.At < (p1.L.length:Int) then
   (getI p1.L p1.At).bind fun x10=>
   if x10.Kind=1 then
    (Zn N x10.Text).bind fun r16=>
    (Z3s N p1) r16
   else
    (Z3s N p1) false
  else
   (Z3s N p1) false
 else
  (Z3s N p1) false
def Z3q (N:Nat) (p1:leadlineref05_In) (p7:Str):Option leadlineref05_In:=
 (Z3o N p1 p7).bind fun rz8=>
 if rz8.1=true then
  some rz8.2
 else
  (Z3l N rz8.2).bind fun r15=>
  some r15
def Z3x (N:Nat) (kZ3w:(List api_Token)→Int→Int→Int→api_Cell→Option ((List api_Cell)×leadlineref05_In)) (r12:(api_Cell×leadlineref05_In)) (vC1:(List api_Token)) (vC6:Int) (vC7:Int) (vC8:Int) (vD1:Bool):Option ((List api_Cell)×leadlineref05_In):=
 if vD1=true then
  (getI vC1 vC6).bind fun x34=>
  kZ3w vC1 (IntKind.i64.wrap (vC6+1)) vC7 vC8 (api_Cell.mk r12.1.Name x34.N r12.1.At)
 else
  (Z3l N (leadlineref05_In.mk vC1 vC6 vC7 vC8)).bind fun r39=>
  kZ3w r39.L r39.At r39.E r39.Pos r12.1
def Z3w (N:Nat) (kZ3y:(List api_Token)→Int→Int→Int→(List api_Cell)→Bool→Option ((List api_Cell)×leadlineref05_In)) (vB9:(List api_Cell)) (vC10:(List api_Token)) (vC15:Int) (vC16:Int) (vC17:Int) (vC18:api_Cell):Option ((List api_Cell)×leadlineref05_In):=
 (Df 32 vB9 ([vC18]:List api_Cell)).bind fun l48=>
 (Z3o N (leadlineref05_In.mk vC10 vC15 vC16 vC17) [44]).bind fun r54=>
 kZ3y r54.2.L r54.2.At r54.2.E r54.2.Pos l48 r54.1
def Z3v (N:Nat) (kZ3y:(List api_Token)→Int→Int→Int→(List api_Cell)→Bool→Option ((List api_Cell)×leadlineref05_In)) (r12:(api_Cell×leadlineref05_In)) (vB9:(List api_Cell)) (vC1:(List api_Token)) (vC6:Int) (vC7:Int) (vC8:Int) (vC9:Bool):Option ((List api_Cell)×leadlineref05_In):=
 if vC9=true then
  if vC6 < (vC1.length:Int) then
   (getI vC1 vC6).bind fun x28=>
   (Z3x N (Z3w N kZ3y vB9) r12 vC1 vC6 vC7 vC8) (decide (x28.Kind=2))
  else
   (Z3x N (Z3w N kZ3y vB9) r12 vC1 vC6 vC7 vC8) false
 else
  (Z3w N kZ3y vB9) vC1 vC6 vC7 vC8 r12.1
def Z3y (N:Nat) (kZ3u:(List api_Token)→Int→Int→Int→(List api_Cell)→Option ((List api_Cell)×leadlineref05_In)) (p7:Bool):Nat→(List api_Token)→Int→Int→Int→(List api_Cell)→Bool→Option ((List api_Cell)×leadlineref05_In)
 | 0,_,_,_,_,_,_=>none
 | n+1,vB1,vB6,vB7,vB8,vB9,vB15=>
  if (vB15 && (decide (vB7=0)))=true then
   (Z3r N (leadlineref05_In.mk vB1 vB6 vB7 vB8)).bind fun r12=>
   if p7=true then
    (Z3o N r12.2 [61]).bind fun r20=>
    (Z3v N (Z3y N kZ3u p7 n) r12 vB9) r20.2.L r20.2.At r20.2.E r20.2.Pos r20.1
   else
    (Z3v N (Z3y N kZ3u p7 n) r12 vB9) r12.2.L r12.2.At r12.2.E r12.2.Pos false
  else
   kZ3u vB1 vB6 vB7 vB8 vB9
def Z3u (N:Nat) (vA1:(List api_Token)) (vA6:Int) (vA7:Int) (vA8:Int) (vA9:(List api_Cell)):Option ((List api_Cell)×leadlineref05_In):=
 (Z3q N (leadlineref05_In.mk vA1 vA6 vA7 vA8) [59]).bind fun r60=>
 some (vA9,r60)
def Z3t (N:Nat) (p1:leadlineref05_In) (p7:Bool):Option ((List api_Cell)×leadlineref05_In):=
 (Z3y N (Z3u N) p7) N p1.L p1.At p1.E p1.Pos [] true
def Z39 (_:Nat) (p1:Int):Option Str:=
 (getI ([[],[],[108,111,97,100],[115,116,111,114,101],[99,97,115],[102,108,117,115,104],[111,112,116],[115,102,101,110,99,101],[109,102,101,110,99,101],[116,97,107,101],[103,105,118,101],[105,102],[108,111,111,112],[98,114,101,97,107],[99,104,101,99,107]]:List Str) p1).bind fun xz5=>
 some xz5
def Z2b (N:Nat) (p1:leadlineref04_P) (vA1:Int):Option leadlineref04_P:=
 (Zs N p1.L p1.At).bind fun r15=>
 some (leadlineref04_P.mk p1.L p1.At vA1 r15 p1.Out)
def Z2a (N:Nat) (p1:leadlineref04_P) (p12:Int):Option leadlineref04_P:=
 if p1.E=0 then
  if (p1.L.length:Int)≤p1.At then
   (Z2b N p1) 6
  else
   (Z2b N p1) p12
 else
  some p1
def Z2m (N:Nat) (p1:leadlineref04_P) (vA1:Bool):Option (Str×leadlineref04_P):=
 if vA1=true then
  (getI p1.L (IntKind.i64.wrap ((IntKind.i64.wrap (p1.At+1)) - 1))).bind fun x23=>
  some (x23.Text,(leadlineref04_P.mk p1.L (IntKind.i64.wrap (p1.At+1)) p1.E p1.Pos p1.Out))
 else
  (Z2a N (leadlineref04_P.mk p1.L p1.At p1.E p1.Pos p1.Out) 5).bind fun r28=>
  some ([],r28)
def Z2l (N:Nat) (p1:leadlineref04_P):Option (Str×leadlineref04_P):=
 if p1.E=0 then
  if p1.At < (p1.L.length:Int) then
   (getI p1.L p1.At).bind fun x14=>
   if x14.Kind=1 then
    (Zn N x14.Text).bind fun r20=>
    (Z2m N p1) r20
   else
    (Z2m N p1) false
  else
   (Z2m N p1) false
 else
  (Z2m N p1) false
def Z2k (N:Nat) (p1:leadlineref04_P) (vA1:Bool):Option leadlineref04_P:=
 if vA1=true then
  some (leadlineref04_P.mk p1.L (IntKind.i64.wrap (p1.At+1)) p1.E p1.Pos p1.Out)
 else
  (Z2a N (leadlineref04_P.mk p1.L p1.At p1.E p1.Pos p1.Out) 5).bind fun r17=>
  some r17
def Z2j (N:Nat) (p1:leadlineref04_P) (p12:Str):Option leadlineref04_P:=
 if p1.E=0 then
  (Zj N p1.L p1.At p12).bind fun r14=>
  (Z2k N p1) r14
 else
  (Z2k N p1) false
def Z1z (N:Nat) (p1:(List api_Token)) (p6:Int) (vA1:Int):Option leadlineref03_Read:=
 (Zs N p1 p6).bind fun r10=>
 some (leadlineref03_Read.mk [] 0 vA1 r10)
def Z1y (N:Nat) (p1:(List api_Token)) (p6:Int) (p7:Int):Option leadlineref03_Read:=
 if (p1.length:Int)≤p6 then
  (Z1z N p1 p6) 6
 else
  (Z1z N p1 p6) p7
def Z23 (_:Nat) (p1:Int):Option (List Int):=
 (getI ([([15]:List Int),([14]:List Int),([10,11,12,13]:List Int),([5,6]:List Int),([7,8,9]:List Int)]:List (List Int)) p1).bind fun x40=>
 some x40
def Z28 (_:Nat) (p1:Int):Option Str:=
 (getI ([[],[],[],[45],[33],[43],[45],[42],[47],[37],[61,61],[33,61],[60],[60,61],[38,38],[124,124]]:List Str) p1).bind fun xz5=>
 some xz5
def Z26 (r43:leadlineref03_Read) (x57:api_Token) (vA2:Int):Option leadlineref03_Read:=
 (Df 40 ([(api_Node.mk vA2 0 [] x57.At)]:List api_Node) r43.L).bind fun l66=>
 some (leadlineref03_Read.mk l66 r43.To r43.E r43.At)
def Z27 (N:Nat) (p1:(List api_Token)) (p6:Int) (x109:api_Token) (vA3:Bool):Option leadlineref03_Read:=
 if vA3=true then
  some (leadlineref03_Read.mk ([(api_Node.mk 2 0 x109.Text x109.At)]:List api_Node) (IntKind.i64.wrap (p6+1)) 0 0)
 else
  (Z1y N p1 p6 5).bind fun r133=>
  some r133
def Z25 (rf:(List api_Token)→Int→Int→Option leadlineref03_Read) (rg_Z1l:(List api_Token)→Int→Int→Int→Option leadlineref03_Read) (N:Nat) (p1:(List api_Token)) (p6:Int) (p7:Int) (vA1:Bool):Option leadlineref03_Read:=
 (Zj N p1 p6 [40]).bind fun r27=>
 if ((vA1 || r27) && (decide (p7=12)))=true then
  (Z1y N p1 p6 7).bind fun r30=>
  some r30
 else
  if vA1=true then
   (rf p1 (IntKind.i64.wrap (p6+1)) (IntKind.i64.wrap (p7+1))).bind fun r43=>
   if r43.E≠0 then
    some r43
   else
    (getI p1 p6).bind fun x57=>
    if x57.Text=[45] then
     (Z26 r43 x57) 3
    else
     (Z26 r43 x57) 4
  else
   if r27=true then
    (rg_Z1l p1 (IntKind.i64.wrap (p6+1)) (IntKind.i64.wrap (p7+1)) 0).bind fun r80=>
    if r80.E≠0 then
     some r80
    else
     (Zj N p1 r80.To [41]).bind fun r94=>
     if r94=true then
      some (leadlineref03_Read.mk r80.L (IntKind.i64.wrap (r80.To+1)) r80.E r80.At)
     else
      (Z1y N p1 r80.To 5).bind fun r97=>
      some r97
   else
    (getI p1 p6).bind fun x109=>
    if x109.Kind=2 then
     some (leadlineref03_Read.mk ([(api_Node.mk 1 x109.N [] x109.At)]:List api_Node) (IntKind.i64.wrap (p6+1)) 0 0)
    else
     if x109.Kind=1 then
      (Zn N x109.Text).bind fun r123=>
      (Z27 N p1 p6 x109) r123
     else
      (Z27 N p1 p6 x109) false
def Z1o (kZ1q:Int→Int→Option leadlineref03_Read) (vD3:Int) (vE2:Int):Option leadlineref03_Read:=
 kZ1q vE2 (IntKind.i64.wrap (vD3+1))
def Z1q (N:Nat) (kZ1n:Int→Option leadlineref03_Read) (p1:(List api_Token)) (p8:Int) (vB15:Int):Nat→Int→Int→Option leadlineref03_Read
 | 0,_,_=>none
 | n+1,vD2,vD3=>
  (Z23 N p8).bind fun r37=>
  if vD3 < (r37.length:Int) then
   (Z23 N p8).bind fun r48=>
   (getI r48 vD3).bind fun x58=>
   (Z28 N x58).bind fun r63=>
   (Zj N p1 vB15 r63).bind fun r65=>
   if r65=true then
    (Z23 N p8).bind fun r68=>
    (getI r68 vD3).bind fun x78=>
    (Z1o (Z1q N kZ1n p1 p8 vB15 n) vD3) x78
   else
    (Z1o (Z1q N kZ1n p1 p8 vB15 n) vD3) vD2
  else
   kZ1n vD2
def Z1n (rf:(List api_Token)→Int→Int→Int→Option leadlineref03_Read) (kZ1p:(List api_Node)→Int→Int→Int→Option leadlineref03_Read) (p1:(List api_Token)) (p7:Int) (p8:Int) (vB10:(List api_Node)) (vB15:Int) (vB16:Int) (vB17:Int) (vC2:Int):Option leadlineref03_Read:=
 if vC2=0 then
  some (leadlineref03_Read.mk vB10 vB15 vB16 vB17)
 else
  (rf p1 (IntKind.i64.wrap (vB15+1)) p7 (IntKind.i64.wrap (p8+1))).bind fun r84=>
  if r84.E≠0 then
   some r84
  else
   (getI p1 vB15).bind fun x98=>
   (Df 40 ([(api_Node.mk vC2 0 [] x98.At)]:List api_Node) vB10).bind fun l106=>
   (Df 40 l106 r84.L).bind fun l115=>
   if p8=2 then
    some (leadlineref03_Read.mk l115 r84.To 0 0)
   else
    kZ1p l115 r84.To 0 0
def Z1p (rf:(List api_Token)→Int→Int→Int→Option leadlineref03_Read) (N:Nat) (kZ1m:(List api_Node)→Int→Int→Int→Option leadlineref03_Read) (p1:(List api_Token)) (p7:Int) (p8:Int):Nat→(List api_Node)→Int→Int→Int→Option leadlineref03_Read
 | 0,_,_,_,_=>none
 | n+1,vB10,vB15,vB16,vB17=>
  if vB16=0 then
   (Z1q N (Z1n rf (Z1p rf N kZ1m p1 p7 p8 n) p1 p7 p8 vB10 vB15 vB16 vB17) p1 p8 vB15) N 0 0
  else
   kZ1m vB10 vB15 vB16 vB17
def Z1m (vA2:(List api_Node)) (vA7:Int) (vA8:Int) (vA9:Int):Option leadlineref03_Read:=
 some (leadlineref03_Read.mk vA2 vA7 vA8 vA9)
mutual
def Z24:Nat→(List api_Token)→Int→Int→Option leadlineref03_Read
 | 0,_,_,_=>none
 | N+1,p1,p6,p7=>
  if (p1.length:Int)≤p6 then
   (Z1y N p1 p6 6).bind fun r10=>
   some r10
  else
   (Zj N p1 p6 [33]).bind fun r22=>
   if r22=true then
    (Z25 (Z24 N) (Z1l N) N p1 p6 p7) true
   else
    (Zj N p1 p6 [45]).bind fun r25=>
    (Z25 (Z24 N) (Z1l N) N p1 p6 p7) r25
def Z1l:Nat→(List api_Token)→Int→Int→Int→Option leadlineref03_Read
 | 0,_,_,_,_=>none
 | N+1,p1,p6,p7,p8=>
  if p8=5 then
   ((Z24 N) p1 p6 p7).bind fun r11=>
   some r11
  else
   ((Z1l N) p1 p6 p7 (IntKind.i64.wrap (p8+1))).bind fun r23=>
   (Z1p (Z1l N) N Z1m p1 p7 p8) N r23.L r23.To r23.E r23.At
end
def Z1s (N:Nat) (p1:(List api_Token)) (p6:Int):Option ((List api_Node)×Int×Int×Int):=
 if p6 < 0 then
  some ([],0,1,0)
 else
  (Z1l N p1 p6 0 0).bind fun rz8=>
  if rz8.E≠0 then
   some ([],0,rz8.E,rz8.At)
  else
   (Z20 N rz8.L 0).bind fun r22=>
   if 12 < r22 then
    (getI p1 p6).bind fun x25=>
    some ([],0,7,x25.At)
   else
    if 40 < (rz8.L.length:Int) then
     (getI p1 p6).bind fun x31=>
     some ([],0,2,x31.At)
    else
     some (rz8.L,rz8.To,0,0)
def Z2i (N:Nat) (p1:leadlineref04_P):Option ((List api_Node)×leadlineref04_P):=
 if p1.E≠0 then
  some ([],p1)
 else
  (Z1s N p1.L p1.At).bind fun r13=>
  if r13.2.2.1≠0 then
   some ([],(leadlineref04_P.mk p1.L p1.At r13.2.2.1 r13.2.2.2 p1.Out))
  else
   some (r13.1,(leadlineref04_P.mk p1.L r13.2.1 p1.E p1.Pos p1.Out))
def Z31 (N:Nat) (p1:leadlineref04_P) (vA1:Bool):Option (Int×leadlineref04_P):=
 if vA1=true then
  (getI p1.L p1.At).bind fun x19=>
  if ((decide (1≤x19.N)) && (decide (x19.N≤8)))=true then
   some (x19.N,(leadlineref04_P.mk p1.L (IntKind.i64.wrap (p1.At+1)) p1.E p1.Pos p1.Out))
  else
   (Z2a N (leadlineref04_P.mk p1.L p1.At p1.E p1.Pos p1.Out) 11).bind fun r25=>
   some (0,r25)
 else
  (Z2a N (leadlineref04_P.mk p1.L p1.At p1.E p1.Pos p1.Out) 5).bind fun r40=>
  some (0,r40)
def Z30 (N:Nat) (p1:leadlineref04_P):Option (Int×leadlineref04_P):=
 if ((decide (p1.E=0)) && (decide (p1.At < (p1.L.length:Int))))=true then
  (getI p1.L p1.At).bind fun x13=>
  (Z31 N p1) (decide (x13.Kind=2))
 else
  (Z31 N p1) false
def Z2z (N:Nat) (kZ2x:(List api_Token)→Int→Int→Int→(List api_Stmt)→Str→Str→(List api_Node)→(List api_Node)→Int→Option (api_Stmt×leadlineref04_P)) (p1:leadlineref04_P) (p12:Int) (vB2:Bool):Option (api_Stmt×leadlineref04_P):=
 if vB2=true then
  (Z2i N (leadlineref04_P.mk p1.L p1.At p1.E p1.Pos p1.Out)).bind fun r297=>
  kZ2x r297.2.L r297.2.At r297.2.E r297.2.Pos r297.2.Out [] [] r297.1 [] 0
 else
  if p12=12 then
   (Z30 N (leadlineref04_P.mk p1.L p1.At p1.E p1.Pos p1.Out)).bind fun r317=>
   kZ2x r317.2.L r317.2.At r317.2.E r317.2.Pos r317.2.Out [] [] [] [] r317.1
  else
   kZ2x p1.L p1.At p1.E p1.Pos p1.Out [] [] [] [] 0
def Z2y (N:Nat) (kZ2x:(List api_Token)→Int→Int→Int→(List api_Stmt)→Str→Str→(List api_Node)→(List api_Node)→Int→Option (api_Stmt×leadlineref04_P)) (p1:leadlineref04_P) (p12:Int) (vB1:Bool):Option (api_Stmt×leadlineref04_P):=
 if vB1=true then
  (Z2l N (leadlineref04_P.mk p1.L p1.At p1.E p1.Pos p1.Out)).bind fun r280=>
  kZ2x r280.2.L r280.2.At r280.2.E r280.2.Pos r280.2.Out [] r280.1 [] [] 0
 else
  if p12=11 then
   (Z2z N kZ2x p1 p12) (decide (p12=11))
  else
   (Z2z N kZ2x p1 p12) (decide (p12=14))
def Z2x (p12:Int) (p13:Int) (vA2:(List api_Token)) (vA7:Int) (vA8:Int) (vA9:Int) (vA10:(List api_Stmt)) (vA16:Str) (vA17:Str) (vA18:(List api_Node)) (vA23:(List api_Node)) (vA28:Int):Option (api_Stmt×leadlineref04_P):=
 some ((api_Stmt.mk p12 vA16 vA17 vA18 vA23 vA28 0 0 p13),(leadlineref04_P.mk vA2 vA7 vA8 vA9 vA10))
def Z2w (N:Nat) (p1:leadlineref04_P) (p12:Int) (p13:Int):Option (api_Stmt×leadlineref04_P):=
 if p12=1 then
  (Z2l N p1).bind fun r17=>
  (Z2j N r17.2 [61]).bind fun r32=>
  (Z2i N r32).bind fun r47=>
  (Z2x p12 p13) r47.2.L r47.2.At r47.2.E r47.2.Pos r47.2.Out r17.1 [] r47.1 [] 0
 else
  if p12=2 then
   (Z2l N p1).bind fun r67=>
   (Z2j N r67.2 [61]).bind fun r82=>
   (Z2l N r82).bind fun r97=>
   (Z2x p12 p13) r97.2.L r97.2.At r97.2.E r97.2.Pos r97.2.Out r67.1 r97.1 [] [] 0
  else
   if p12=3 then
    (Z2l N p1).bind fun r113=>
    (Z2j N r113.2 [61]).bind fun r128=>
    (Z2i N r128).bind fun r143=>
    (Z2x p12 p13) r143.2.L r143.2.At r143.2.E r143.2.Pos r143.2.Out [] r113.1 r143.1 [] 0
   else
    if p12=4 then
     (Z2l N p1).bind fun r163=>
     (Z2j N r163.2 [61]).bind fun r178=>
     (Z2l N r178).bind fun r193=>
     (Z2j N r193.2 [44]).bind fun r208=>
     (Z2i N r208).bind fun r223=>
     (Z2j N r223.2 [44]).bind fun r242=>
     (Z2i N r242).bind fun r257=>
     (Z2x p12 p13) r257.2.L r257.2.At r257.2.E r257.2.Pos r257.2.Out r163.1 r193.1 r223.1 r257.1 0
    else
     if p12=5 then
      (Z2y N (Z2x p12 p13) p1 p12) (decide (p12=5))
     else
      if p12=6 then
       (Z2y N (Z2x p12 p13) p1 p12) (decide (p12=6))
      else
       if p12=9 then
        (Z2y N (Z2x p12 p13) p1 p12) (decide (p12=9))
       else
        (Z2y N (Z2x p12 p13) p1 p12) (decide (p12=10))
def Z2g (rg_Z2n:leadlineref04_P→Int→Int→Option leadlineref04_P) (kZ2f:(List api_Token)→Int→Int→Int→(List api_Stmt)→Option (Int×leadlineref04_P)) (kZ2h:(List api_Token)→Int→Int→Int→(List api_Stmt)→Option (Int×leadlineref04_P)) (p12:Int) (p13:Int) (vB2:(List api_Token)) (vB7:Int) (vB8:Int) (vB9:Int) (vB10:(List api_Stmt)) (vC1:Bool):Option (Int×leadlineref04_P):=
 if vC1=true then
  (rg_Z2n (leadlineref04_P.mk vB2 vB7 vB8 vB9 vB10) p12 p13).bind fun r52=>
  kZ2h r52.L r52.At r52.E r52.Pos r52.Out
 else
  kZ2f vB2 vB7 vB8 vB9 vB10
def Z2h (rg_Z2n:leadlineref04_P→Int→Int→Option leadlineref04_P) (N:Nat) (kZ2f:(List api_Token)→Int→Int→Int→(List api_Stmt)→Option (Int×leadlineref04_P)) (p12:Int) (p13:Int):Nat→(List api_Token)→Int→Int→Int→(List api_Stmt)→Option (Int×leadlineref04_P)
 | 0,_,_,_,_,_=>none
 | n+1,vB2,vB7,vB8,vB9,vB10=>
  if vB8=0 then
   (Zj N vB2 vB7 [125]).bind fun r49=>
   (Z2g rg_Z2n kZ2f (Z2h rg_Z2n N kZ2f p12 p13 n) p12 p13 vB2 vB7 vB8 vB9 vB10) (!r49)
  else
   (Z2g rg_Z2n kZ2f (Z2h rg_Z2n N kZ2f p12 p13 n) p12 p13 vB2 vB7 vB8 vB9 vB10) false
def Z2f (N:Nat) (p1:leadlineref04_P) (vA18:(List api_Token)) (vA23:Int) (vA24:Int) (vA25:Int) (vA26:(List api_Stmt)):Option (Int×leadlineref04_P):=
 (Z2j N (leadlineref04_P.mk vA18 vA23 vA24 vA25 vA26) [125]).bind fun r67=>
 some ((IntKind.i64.wrap ((r67.Out.length:Int) - (p1.Out.length:Int))),r67)
def Z2e (rg_Z2n:leadlineref04_P→Int→Int→Option leadlineref04_P) (N:Nat) (p1:leadlineref04_P) (p12:Int) (p13:Int) (vA3:(List api_Token)) (vA8:Int) (vA9:Int) (vA10:Int) (vA11:(List api_Stmt)):Option (Int×leadlineref04_P):=
 (Z2j N (leadlineref04_P.mk vA3 vA8 vA9 vA10 vA11) [123]).bind fun r33=>
 (Z2h rg_Z2n N (Z2f N p1) p12 p13) N r33.L r33.At r33.E r33.Pos r33.Out
def Z2d (rg_Z2n:leadlineref04_P→Int→Int→Option leadlineref04_P) (N:Nat) (p1:leadlineref04_P) (p12:Int) (p13:Int) (vA1:Bool):Option (Int×leadlineref04_P):=
 if vA1=true then
  (Z2a N (leadlineref04_P.mk p1.L p1.At p1.E p1.Pos p1.Out) 7).bind fun r18=>
  (Z2e rg_Z2n N p1 p12 p13) r18.L r18.At r18.E r18.Pos r18.Out
 else
  (Z2e rg_Z2n N p1 p12 p13) p1.L p1.At p1.E p1.Pos p1.Out
def Z2p (kZ2v:Int→Int→Option leadlineref04_P) (vB2:Int) (vC1:Int):Option leadlineref04_P:=
 kZ2v vC1 (IntKind.i64.wrap (vB2+1))
def Z2v (N:Nat) (kZ2o:Int→Option leadlineref04_P) (p1:leadlineref04_P):Nat→Int→Int→Option leadlineref04_P
 | 0,_,_=>none
 | n+1,vB1,vB2=>
  if vB2≤14 then
   (Z39 N vB2).bind fun r17=>
   (Zj N p1.L p1.At r17).bind fun r19=>
   if r19=true then
    (Z2p (Z2v N kZ2o p1 n) vB2) vB2
   else
    (Z2p (Z2v N kZ2o p1 n) vB2) vB1
  else
   kZ2o vB1
def Z2u (_:Nat) (r39:(api_Stmt×leadlineref04_P)) (r91:(Int×leadlineref04_P)) (vA12:(List api_Token)) (vA17:Int) (vA18:Int) (vA19:Int) (vA20:(List api_Stmt)) (vA26:Int):Option leadlineref04_P:=
 (getI vA20 (r39.2.Out.length:Int)).bind fun _=>
 (Te vA20 (r39.2.Out.length:Int) (api_Stmt.mk r39.1.Kind r39.1.Reg r39.1.Name r39.1.E r39.1.F r39.1.N r91.1 vA26 r39.1.At)).bind fun l129=>
 some (leadlineref04_P.mk vA12 vA17 vA18 vA19 l129)
def Z2t (rg_Z2c:leadlineref04_P→Int→Int→Option (Int×leadlineref04_P)) (N:Nat) (p12:Int) (r39:(api_Stmt×leadlineref04_P)) (vA9:Int) (r91:(Int×leadlineref04_P)) (vA10:Bool):Option leadlineref04_P:=
 if vA10=true then
  (rg_Z2c (leadlineref04_P.mk r91.2.L (IntKind.i64.wrap (r91.2.At+1)) r91.2.E r91.2.Pos r91.2.Out) (IntKind.i64.wrap (p12+1)) vA9).bind fun r111=>
  (Z2u N r39 r91) r111.2.L r111.2.At r111.2.E r111.2.Pos r111.2.Out r111.1
 else
  (Z2u N r39 r91) r91.2.L r91.2.At r91.2.E r91.2.Pos r91.2.Out r39.1.Else
def Z2s (rg_Z2c:leadlineref04_P→Int→Int→Option (Int×leadlineref04_P)) (N:Nat) (p12:Int) (vA1:Int) (r39:(api_Stmt×leadlineref04_P)) (vA3:(List api_Stmt)) (vA9:Int):Option leadlineref04_P:=
 (rg_Z2c (leadlineref04_P.mk r39.2.L r39.2.At r39.2.E r39.2.Pos vA3) (IntKind.i64.wrap (p12+1)) vA9).bind fun r91=>
 if vA1=11 then
  if r91.2.E=0 then
   (Zj N r91.2.L r91.2.At [101,108,115,101]).bind fun r108=>
   (Z2t rg_Z2c N p12 r39 vA9 r91) r108
  else
   (Z2t rg_Z2c N p12 r39 vA9 r91) false
 else
  (Z2t rg_Z2c N p12 r39 vA9 r91) false
def Z2r (rg_Z2c:leadlineref04_P→Int→Int→Option (Int×leadlineref04_P)) (N:Nat) (p12:Int) (p13:Int) (vA1:Int) (r39:(api_Stmt×leadlineref04_P)) (vA3:(List api_Stmt)):Option leadlineref04_P:=
 if ((decide (vA1≠11)) && (decide (vA1≠12)))=true then
  (Z2j N (leadlineref04_P.mk r39.2.L r39.2.At r39.2.E r39.2.Pos vA3) [59]).bind fun r75=>
  some r75
 else
  if vA1=12 then
   (Z2s rg_Z2c N p12 vA1 r39 vA3) (IntKind.i64.wrap (p13+1))
  else
   (Z2s rg_Z2c N p12 vA1 r39 vA3) p13
def Z2q (rg_Z2c:leadlineref04_P→Int→Int→Option (Int×leadlineref04_P)) (N:Nat) (p1:leadlineref04_P) (p12:Int) (p13:Int) (r14:Int) (vA1:Int) (vA2:Int):Option leadlineref04_P:=
 (Z2w N (leadlineref04_P.mk p1.L vA2 p1.E p1.Pos p1.Out) vA1 r14).bind fun r39=>
 (Df 120 r39.2.Out ([r39.1]:List api_Stmt)).bind fun l68=>
 (Z2r rg_Z2c N p12 p13 vA1 r39) l68
def Z2o (rg_Z2c:leadlineref04_P→Int→Int→Option (Int×leadlineref04_P)) (N:Nat) (p1:leadlineref04_P) (p12:Int) (p13:Int) (r14:Int) (vA1:Int):Option leadlineref04_P:=
 if ((decide (vA1=13)) && (decide (p13=0)))=true then
  (Z2a N (leadlineref04_P.mk p1.L p1.At p1.E p1.Pos p1.Out) 5).bind fun r23=>
  some r23
 else
  if vA1≠1 then
   (Z2q rg_Z2c N p1 p12 p13 r14 vA1) (IntKind.i64.wrap (p1.At+1))
  else
   (Z2q rg_Z2c N p1 p12 p13 r14 vA1) p1.At
mutual
def Z2c:Nat→leadlineref04_P→Int→Int→Option (Int×leadlineref04_P)
 | 0,_,_,_=>none
 | N+1,p1,p12,p13=>
  if 12 < p12 then
   (Zj N p1.L p1.At [123]).bind fun r15=>
   (Z2d (Z2n N) N p1 p12 p13) r15
  else
   (Z2d (Z2n N) N p1 p12 p13) false
def Z2n:Nat→leadlineref04_P→Int→Int→Option leadlineref04_P
 | 0,_,_,_=>none
 | N+1,p1,p12,p13=>
  (Zs N p1.L p1.At).bind fun r14=>
  (Z2v N (Z2o (Z2c N) N p1 p12 p13 r14) p1) N 1 2
end
def Z34 (N:Nat) (kZ33:(List api_Token)→Int→Int→Int→(List api_Stmt)→Option ((List api_Stmt)×Int×Int×Int)) (kZ35:(List api_Token)→Int→Int→Int→(List api_Stmt)→Option ((List api_Stmt)×Int×Int×Int)) (vB2:(List api_Token)) (vB7:Int) (vB8:Int) (vB9:Int) (vB10:(List api_Stmt)) (vC1:Bool):Option ((List api_Stmt)×Int×Int×Int):=
 if vC1=true then
  (Z2n N (leadlineref04_P.mk vB2 vB7 vB8 vB9 vB10) 0 0).bind fun r13=>
  kZ35 r13.L r13.At r13.E r13.Pos r13.Out
 else
  kZ33 vB2 vB7 vB8 vB9 vB10
def Z35 (N:Nat) (kZ33:(List api_Token)→Int→Int→Int→(List api_Stmt)→Option ((List api_Stmt)×Int×Int×Int)):Nat→(List api_Token)→Int→Int→Int→(List api_Stmt)→Option ((List api_Stmt)×Int×Int×Int)
 | 0,_,_,_,_,_=>none
 | n+1,vB2,vB7,vB8,vB9,vB10=>
  if vB8=0 then
   (Zj N vB2 vB7 [125]).bind fun r10=>
   (Z34 N kZ33 (Z35 N kZ33 n) vB2 vB7 vB8 vB9 vB10) (!r10)
  else
   (Z34 N kZ33 (Z35 N kZ33 n) vB2 vB7 vB8 vB9 vB10) false
def Z33 (N:Nat) (p1:(List api_Token)) (p7:Int) (vA2:(List api_Token)) (vA7:Int) (vA8:Int) (vA9:Int) (vA10:(List api_Stmt)):Option ((List api_Stmt)×Int×Int×Int):=
 (Z2j N (leadlineref04_P.mk vA2 vA7 vA8 vA9 vA10) [125]).bind fun r28=>
 if r28.E≠0 then
  some ([],0,r28.E,r28.Pos)
 else
  if 40 < (r28.Out.length:Int) then
   (getI p1 p7).bind fun x45=>
   some ([],0,2,x45.At)
  else
   some (r28.Out,r28.At,0,0)
def Z32 (N:Nat) (p1:(List api_Token)) (p6:Int) (p7:Int):Option ((List api_Stmt)×Int×Int×Int):=
 (Z35 N (Z33 N p1 p7)) N p1 p6 0 0 []
def Z42 (N:Nat) (kZ40:(List api_Token)→Int→Int→Int→(List Str)→Option (api_Thread×leadlineref05_In)) (r29:((List api_Cell)×leadlineref05_In)):Nat→(List Str)→Int→Option (api_Thread×leadlineref05_In)
 | 0,_,_=>none
 | n+1,vB1,vB7=>
  if vB7 < (r29.1.length:Int) then
   (getI r29.1 vB7).bind fun x41=>
   (Df 16 vB1 ([x41.Name]:List Str)).bind fun l50=>
   (Z42 N kZ40 r29 n) l50 (IntKind.i64.wrap (vB7+1))
  else
   kZ40 r29.2.L r29.2.At r29.2.E r29.2.Pos vB1
def Z41 (p7:Str) (p13:Int) (vA1:(List api_Token)) (vA9:(List Str)) (vA16:Int) (vA17:Int) (vA18:Int) (vA19:(List api_Stmt)):Option (api_Thread×leadlineref05_In):=
 some ((api_Thread.mk p7 vA9 vA19 p13),(leadlineref05_In.mk vA1 vA16 vA17 vA18))
def Z40 (N:Nat) (p1:leadlineref05_In) (p7:Str) (p8:(List api_Stmt)) (p13:Int) (vA1:(List api_Token)) (vA6:Int) (vA7:Int) (vA8:Int) (vA9:(List Str)):Option (api_Thread×leadlineref05_In):=
 if vA7=0 then
  (Z32 N vA1 vA6 p1.At).bind fun r57=>
  (Z41 p7 p13 vA1 vA9) r57.2.1 r57.2.2.1 r57.2.2.2 r57.1
 else
  (Z41 p7 p13 vA1 vA9) vA6 vA7 vA8 p8
def Z3z (N:Nat) (p1:leadlineref05_In) (p7:Str) (p8:(List api_Stmt)) (p13:Int):Option (api_Thread×leadlineref05_In):=
 (Z3q N p1 [123]).bind fun r16=>
 (Z3o N r16 [114,101,103]).bind fun r22=>
 if r22.1=true then
  (Z3t N r22.2 false).bind fun r29=>
  (Z42 N (Z40 N p1 p7 p8 p13) r29) N [] 0
 else
  (Z40 N p1 p7 p8 p13) r22.2.L r22.2.At r22.2.E r22.2.Pos []
def Z3n (N:Nat) (p1:leadlineref05_In) (p7:Int):Option (api_Claim×leadlineref05_In):=
 (Z1s N p1.L p1.At).bind fun rz9=>
 if rz9.2.2.1≠0 then
  some ((api_Claim.mk [] 0),(leadlineref05_In.mk p1.L p1.At rz9.2.2.1 rz9.2.2.2))
 else
  (Z3q N (leadlineref05_In.mk p1.L rz9.2.1 p1.E p1.Pos) [59]).bind fun r20=>
  some ((api_Claim.mk rz9.1 p7),r20)
def Z4c (N:Nat) (kZ44:(List api_Token)→Int→Int→Int→(List (List api_Cell))→Option (api_Prog×Int×Int)):Nat→(List api_Token)→Int→Int→Int→(List (List api_Cell))→Option (api_Prog×Int×Int)
 | 0,_,_,_,_,_=>none
 | n+1,vB2,vB7,vB8,vB9,vB10=>
  (Z3o N (leadlineref05_In.mk vB2 vB7 vB8 vB9) [108,105,110,101]).bind fun r17=>
  if r17.1=true then
   (Z3t N r17.2 true).bind fun r24=>
   (Df 24 vB10 ([r24.1]:List (List api_Cell))).bind fun l42=>
   (Z4c N kZ44 n) r24.2.L r24.2.At r24.2.E r24.2.Pos l42
  else
   kZ44 r17.2.L r17.2.At r17.2.E r17.2.Pos vB10
def Z4d (N:Nat) (kZ47:(List api_Token)→Int→Int→Int→(List api_Cell)→Option (api_Prog×Int×Int)):Nat→(List api_Token)→Int→Int→Int→(List api_Cell)→Option (api_Prog×Int×Int)
 | 0,_,_,_,_,_=>none
 | n+1,vB16,vB21,vB22,vB23,vB24=>
  (Z3o N (leadlineref05_In.mk vB16 vB21 vB22 vB23) [118,111,108]).bind fun r48=>
  if r48.1=true then
   (Z3t N r48.2 true).bind fun r55=>
   (Df 32 vB24 r55.1).bind fun l66=>
   (Z4d N kZ47 n) r55.2.L r55.2.At r55.2.E r55.2.Pos l66
  else
   kZ47 r48.2.L r48.2.At r48.2.E r48.2.Pos vB24
def Z4e (N:Nat) (kZ48:(List api_Token)→Int→Int→Int→(List api_Cell)→Option (api_Prog×Int×Int)):Nat→(List api_Token)→Int→Int→Int→(List api_Cell)→Option (api_Prog×Int×Int)
 | 0,_,_,_,_,_=>none
 | n+1,vB30,vB35,vB36,vB37,vB38=>
  (Z3o N (leadlineref05_In.mk vB30 vB35 vB36 vB37) [108,111,99,107]).bind fun r72=>
  if r72.1=true then
   (Z3t N r72.2 false).bind fun r79=>
   (Df 32 vB38 r79.1).bind fun l90=>
   (Z4e N kZ48 n) r79.2.L r79.2.At r79.2.E r79.2.Pos l90
  else
   kZ48 r72.2.L r72.2.At r72.2.E r72.2.Pos vB38
def Z4f (N:Nat) (kZ49:(List api_Token)→Int→Int→Int→(List api_Thread)→Option (api_Prog×Int×Int)):Nat→(List api_Token)→Int→Int→Int→(List api_Thread)→Option (api_Prog×Int×Int)
 | 0,_,_,_,_,_=>none
 | n+1,vB45,vB50,vB51,vB52,vB53=>
  (Z3o N (leadlineref05_In.mk vB45 vB50 vB51 vB52) [116,104,114,101,97,100]).bind fun r96=>
  if r96.1=true then
   (Z3r N r96.2).bind fun r103=>
   (Z3z N r103.2 r103.1.Name ([]:(List api_Stmt)) r103.1.At).bind fun r110=>
   (Df 72 vB53 ([r110.1]:List api_Thread)).bind fun l133=>
   (Z4f N kZ49 n) r110.2.L r110.2.At r110.2.E r110.2.Pos l133
  else
   kZ49 r96.2.L r96.2.At r96.2.E r96.2.Pos vB53
def Z4b (N:Nat) (kZ45:(List api_Token)→Int→Int→Int→(List api_Claim)→Option (api_Prog×Int×Int)) (rz3:((List api_Token)×Int×Int)):Nat→(List api_Token)→Int→Int→Int→(List api_Claim)→Option (api_Prog×Int×Int)
 | 0,_,_,_,_,_=>none
 | n+1,vB60,vB65,vB66,vB67,vB68=>
  (Z3o N (leadlineref05_In.mk vB60 vB65 vB66 vB67) [97,108,119,97,121,115]).bind fun r181=>
  if r181.1=true then
   (getI rz3.1 (IntKind.i64.wrap (r181.2.At - 1))).bind fun x188=>
   (Z3n N r181.2 x188.At).bind fun r193=>
   (Df 32 vB68 ([r193.1]:List api_Claim)).bind fun l212=>
   (Z4b N kZ45 rz3 n) r193.2.L r193.2.At r193.2.E r193.2.Pos l212
  else
   kZ45 r181.2.L r181.2.At r181.2.E r181.2.Pos vB68
def Z46 (vA10:(List (List api_Cell))) (vA24:(List api_Cell)) (vA38:(List api_Cell)) (vA53:(List api_Thread)) (vA68:(List api_Thread)) (vA83:(List api_Claim)) (_:(List api_Token)) (_:Int) (vA95:Int) (vA96:Int):Option (api_Prog×Int×Int):=
 if vA95≠0 then
  some ((api_Prog.mk [] [] [] [] [] []),vA95,vA96)
 else
  some ((api_Prog.mk vA10 vA24 vA38 vA53 vA68 vA83),0,0)
def Z45 (N:Nat) (rz3:((List api_Token)×Int×Int)) (vA10:(List (List api_Cell))) (vA24:(List api_Cell)) (vA38:(List api_Cell)) (vA53:(List api_Thread)) (vA68:(List api_Thread)) (vA75:(List api_Token)) (vA80:Int) (vA81:Int) (vA82:Int) (vA83:(List api_Claim)):Option (api_Prog×Int×Int):=
 if vA80 < (rz3.1.length:Int) then
  (Z3l N (leadlineref05_In.mk vA75 vA80 vA81 vA82)).bind fun r219=>
  (Z46 vA10 vA24 vA38 vA53 vA68 vA83) r219.L r219.At r219.E r219.Pos
 else
  (Z46 vA10 vA24 vA38 vA53 vA68 vA83) vA75 vA80 vA81 vA82
def Z4a (N:Nat) (rz3:((List api_Token)×Int×Int)) (vA10:(List (List api_Cell))) (vA24:(List api_Cell)) (vA38:(List api_Cell)) (vA53:(List api_Thread)) (vA60:(List api_Token)) (vA65:Int) (vA66:Int) (vA67:Int) (vA68:(List api_Thread)):Option (api_Prog×Int×Int):=
 (Z4b N (Z45 N rz3 vA10 vA24 vA38 vA53 vA68) rz3) N vA60 vA65 vA66 vA67 []
def Z49 (N:Nat) (rz3:((List api_Token)×Int×Int)) (vA10:(List (List api_Cell))) (vA24:(List api_Cell)) (vA38:(List api_Cell)) (vA45:(List api_Token)) (vA50:Int) (vA51:Int) (vA52:Int) (vA53:(List api_Thread)):Option (api_Prog×Int×Int):=
 (Z3o N (leadlineref05_In.mk vA45 vA50 vA51 vA52) [114,101,99,111,118,101,114]).bind fun r139=>
 if r139.1=true then
  (getI rz3.1 (IntKind.i64.wrap (r139.2.At - 1))).bind fun x146=>
  (Z3z N r139.2 [] ([]:(List api_Stmt)) x146.At).bind fun r151=>
  (Df 72 ([]:List api_Thread) ([r151.1]:List api_Thread)).bind fun l174=>
  (Z4a N rz3 vA10 vA24 vA38 vA53) r151.2.L r151.2.At r151.2.E r151.2.Pos l174
 else
  (Z4a N rz3 vA10 vA24 vA38 vA53) r139.2.L r139.2.At r139.2.E r139.2.Pos []
def Z48 (N:Nat) (rz3:((List api_Token)×Int×Int)) (vA10:(List (List api_Cell))) (vA24:(List api_Cell)) (vA30:(List api_Token)) (vA35:Int) (vA36:Int) (vA37:Int) (vA38:(List api_Cell)):Option (api_Prog×Int×Int):=
 (Z4f N (Z49 N rz3 vA10 vA24 vA38)) N vA30 vA35 vA36 vA37 []
def Z47 (N:Nat) (rz3:((List api_Token)×Int×Int)) (vA10:(List (List api_Cell))) (vA16:(List api_Token)) (vA21:Int) (vA22:Int) (vA23:Int) (vA24:(List api_Cell)):Option (api_Prog×Int×Int):=
 (Z4e N (Z48 N rz3 vA10 vA24)) N vA16 vA21 vA22 vA23 []
def Z44 (N:Nat) (rz3:((List api_Token)×Int×Int)) (vA2:(List api_Token)) (vA7:Int) (vA8:Int) (vA9:Int) (vA10:(List (List api_Cell))):Option (api_Prog×Int×Int):=
 (Z4d N (Z47 N rz3 vA10)) N vA2 vA7 vA8 vA9 []
def Z43 (N:Nat) (p1:Str):Option (api_Prog×Int×Int):=
 (Zt N p1).bind fun rz3=>
 if rz3.2.1≠0 then
  some ((api_Prog.mk [] [] [] [] [] []),rz3.2.1,rz3.2.2)
 else
  (Z4c N (Z44 N rz3)) N rz3.1 0 0 0 []
def Zi (N:Nat) (p1:Str):Option api_Prog:=
 (Z43 N p1).bind fun rz3=>
 some rz3.1
def Z6j (vA2:(List Str)) (xe124:(api_Cell×Int)):Option ((List Str) ⊕ Empty):=
 (Df 16 vA2 ([xe124.1.Name]:List Str)).bind fun l131=>
 some (.inl l131)
def Z6i (N:Nat) (p1:api_Prog):Option (List Str):=
 (Z77 N p1).bind fun r30=>
 (Z78 N (yy (fun (s:(List Str)) (x:(api_Cell×Int))=>Z6j s x)) (.inl []) r30).bind fun q64=>
 match q64 with
  | .inl vA2=>
   some vA2
  | .inr t=>nomatch t
def Z5t (N:Nat) (kZ5s:Option Bool) (p1:(List Str)) (p6:(List Str)):Nat→Int→Option Bool
 | 0,_=>none
 | n+1,vB1=>
  if vB1 < (p1.length:Int) then
   (getI p1 vB1).bind fun x13=>
   (getI p6 vB1).bind fun x18=>
   if x13≠x18 then
    some false
   else
    (Z5t N kZ5s p1 p6 n) (IntKind.i64.wrap (vB1+1))
  else
   kZ5s
def Z5s  : Option Bool:=
 some true
def Z5r (N:Nat) (p1:(List Str)) (p6:(List Str)):Option Bool:=
 if (p1.length:Int)≠(p6.length:Int) then
  some false
 else
  (Z5t N Z5s p1 p6) N 0
def Z76 (N:Nat) (kZ75:Int→Option Int) (p1:api_Prog):Nat→Int→Int→Option Int
 | 0,_,_=>none
 | n+1,vB1,vB2=>
  if vB2 < (p1.Lines.length:Int) then
   (getI p1.Lines vB2).bind fun x30=>
   (Z76 N kZ75 p1 n) (IntKind.i64.wrap (vB1+(x30.length:Int))) (IntKind.i64.wrap (vB2+1))
  else
   kZ75 vB1
def Z75 (vA1:Int):Option Int:=
 some vA1
def Z74 (N:Nat) (p1:api_Prog):Option Int:=
 (Z76 N Z75 p1) N 0 0
def Z6z (p4:Int) (vA2:Int) (xe127:(api_Cell×Int)):Option (Int ⊕ Int):=
 if vA2=p4 then
  some (.inr xe127.2)
 else
  some (.inl (IntKind.i64.wrap (vA2+1)))
def Z6y (N:Nat) (p1:api_Prog) (p4:Int):Option Int:=
 (Z77 N p1).bind fun r33=>
 (Z78 N (yy (fun (s:Int) (x:(api_Cell×Int))=>(Z6z p4) s x)) (.inl 0) r33).bind fun q67=>
 match q67 with
  | .inl vA2=>
   some (-1)
  | .inr vA4=>
   some vA4
def Z72 (N:Nat) (kZ71:(List Str)→Option (List Str)) (p1:api_Prog):Nat→(List Str)→Int→Option (List Str)
 | 0,_,_=>none
 | n+1,vB1,vB7=>
  if vB7 < (p1.Locks.length:Int) then
   (getI p1.Locks vB7).bind fun x30=>
   (Df 16 vB1 ([x30.Name]:List Str)).bind fun l39=>
   (Z72 N kZ71 p1 n) l39 (IntKind.i64.wrap (vB7+1))
  else
   kZ71 vB1
def Z71 (vA1:(List Str)):Option (List Str):=
 some vA1
def Z70 (N:Nat) (p1:api_Prog):Option (List Str):=
 (Z72 N Z71 p1) N [] 0
def Z6x (N:Nat) (vA2:(List Int)) (xe124:(api_Cell×Int)):Option ((List Int) ⊕ Empty):=
 (Df 8 vA2 ([xe124.1.N]:List Int)).bind fun l131=>
 some (.inl l131)
def Z6w (N:Nat) (p1:api_Prog):Option (List Int):=
 (Z77 N p1).bind fun r30=>
 (Z78 N (yy (fun (s:(List Int)) (x:(api_Cell×Int))=>(Z6x N) s x)) (.inl []) r30).bind fun q64=>
 match q64 with
  | .inl vA2=>
   some vA2
  | .inr t=>nomatch t
def Z5i (N:Nat) (kZ5h:Option Bool) (p1:(List Int)) (p6:(List Int)):Nat→Int→Option Bool
 | 0,_=>none
 | n+1,vB1=>
  if vB1 < (p1.length:Int) then
   (getI p1 vB1).bind fun x13=>
   (getI p6 vB1).bind fun x18=>
   if x13≠x18 then
    some false
   else
    (Z5i N kZ5h p1 p6 n) (IntKind.i64.wrap (vB1+1))
  else
   kZ5h
def Z5h  : Option Bool:=
 some true
def Z5g (N:Nat) (p1:(List Int)) (p6:(List Int)):Option Bool:=
 if (p1.length:Int)≠(p6.length:Int) then
  some false
 else
  (Z5i N Z5h p1 p6) N 0
def Zae (N:Nat) (kZad:Option Int) (p1:(List Str)) (p6:Str):Nat→Int→Option Int
 | 0,_=>none
 | n+1,vB1=>
  if vB1 < (p1.length:Int) then
   (getI p1 vB1).bind fun xz8=>
   if p6=xz8 then
    some vB1
   else
    (Zae N kZad p1 p6 n) (IntKind.i64.wrap (vB1+1))
  else
   kZad
def Zad  : Option Int:=
 some (-1)
def Zac (N:Nat) (p1:(List Str)) (p6:Str):Option Int:=
 (Zae N Zad p1 p6) N 0
def Z73 (N:Nat) (p1:(List Str)) (p6:Str):Option Int:=
 (Zac N p1 p6).bind fun rz7=>
 some rz7
def Zh (N:Nat)  : Option Bool:=
 (Zi N [108,105,110,101,32,97,32,61,32,49,44,32,98,59,32,108,105,110,101,32,99,59,32,118,111,108,32,120,32,61,32,55,59,32,108,111,99,107,32,109,59,32,116,104,114,101,97,100,32,116,32,123,32,114,101,103,32,114,59,32,108,111,97,100,32,114,32,61,32,120,59,32,102,108,117,115,104,32,99,59,32,116,97,107,101,32,109,59,32,125,32,97,108,119,97,121,115,32,97,32,61,61,32,98,59]).bind fun rz1=>
 (Z6k N rz1).bind fun r34=>
 (Zi N [108,105,110,101,32,97,59,32,116,104,114,101,97,100,32,116,32,123,32,102,108,117,115,104,32,97,59,32,115,116,111,114,101,32,98,32,61,32,49,59,32,125]).bind fun r36=>
 (Z6k N r36).bind fun r68=>
 (Zi N [108,105,110,101,32,97,59,32,118,111,108,32,97,59,32,116,104,114,101,97,100,32,116,32,123,32,125]).bind fun r70=>
 (Z6k N r70).bind fun r102=>
 (Zi N [108,105,110,101,32,97,59,32,116,104,114,101,97,100,32,116,32,123,32,114,101,103,32,97,59,32,125]).bind fun r104=>
 (Z6k N r104).bind fun r136=>
 (Zi N [108,105,110,101,32,97,59]).bind fun r138=>
 (Z6k N r138).bind fun r170=>
 (Zi N [118,111,108,32,120,59,32,116,104,114,101,97,100,32,116,32,123,32,111,112,116,32,120,59,32,125]).bind fun r172=>
 (Z6k N r172).bind fun r204=>
 (Zi N [118,111,108,32,120,59,32,116,104,114,101,97,100,32,116,32,123,32,125,32,97,108,119,97,121,115,32,120,59]).bind fun r206=>
 (Z6k N r206).bind fun r238=>
 (Z6k N (api_Prog.mk [] [] ([(api_Cell.mk [] 0 0)]:List api_Cell) [] [] [])).bind fun r247=>
 (Kb (((((((((((((decide (r34.1=0)) && (decide (r68.1=9))) && (decide (r68.2=28))) && (decide (r102.1=10))) && (decide (r102.2=12))) && (decide (r136.1=10))) && (decide (r136.2=15))) && (decide (r170.1=2))) && (decide (r204.1=9))) && (decide (r204.2=18))) && (decide (r238.1=9))) && (decide (r238.2=27))) && (decide (r247.1=8)))).bind fun _=>
 (Z6i N rz1).bind fun r250=>
 (Z5r N r250 ([[97],[98],[99],[120]]:List Str)).bind fun r260=>
 (Kb r260).bind fun _=>
 (Z74 N rz1).bind fun r263=>
 (Kb (decide (r263=3))).bind fun _=>
 (Z6y N rz1 1).bind fun r266=>
 (Kb (decide (r266=0))).bind fun _=>
 (Z6y N rz1 2).bind fun r269=>
 (Kb (decide (r269=1))).bind fun _=>
 (Z6y N rz1 3).bind fun r272=>
 (Kb (decide (r272=2))).bind fun _=>
 (Z6y N rz1 4).bind fun r275=>
 (Kb (decide (r275=(-1)))).bind fun _=>
 (Z70 N rz1).bind fun r278=>
 (Z5r N r278 ([[109]]:List Str)).bind fun r288=>
 (Kb r288).bind fun _=>
 (Z6w N rz1).bind fun r291=>
 (Z5g N r291 ([1,0,0,7]:List Int)).bind fun r301=>
 (Kb r301).bind fun _=>
 (Z6i N rz1).bind fun r304=>
 (Z73 N r304 [99]).bind fun r311=>
 (Kb (decide (r311=2))).bind fun _=>
 (Z73 N ([]:(List Str)) [99]).bind fun r314=>
 some (decide (r314=(-1)))
def Zg (N:Nat) (p1:Str):Option Bool:=
 (Et p1 0 (min (p1.length:Int) 2000)).bind fun s2=>
 (Zi N s2).bind fun rz4=>
 (Z6k N rz4).bind fun r37=>
 (Z52 N rz4).bind fun r39=>
 if ((((decide (r37.1=r39.1)) && (decide (r37.2=r39.2))) && (decide (0≤r37.2))) && (decide (r37.2≤2000)))=true then
  (Zh N).bind fun r42=>
  some r42
 else
  some false
end Go.MD.LB
