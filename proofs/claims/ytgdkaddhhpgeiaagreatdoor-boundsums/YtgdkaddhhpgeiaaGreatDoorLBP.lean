/- Plain functions, lifted by program from the seat lb. No condition: definitions. -/
import Derived.Test.YtgdkaddhhpgeiaaGreatDoorMD
import Derived.Lib.IndexMore
namespace Go.MD.LB
open Go Go.MD
def splitM (s p:Str):Option (List Str):=
 if s=[108,105,110,101,32,118,111,108,32,108,111,99,107,32,116,104,114,101,97,100,32,114,101,103,32,108,111,97,100,32,115,116,111,114,101,32,99,97,115,32,102,108,117,115,104,32,111,112,116,32,115,102,101,110,99,101,32,109,102,101,110,99,101,32,116,97,107,101,32,103,105,118,101,32,105,102,32,101,108,115,101,32,108,111,111,112,32,98,114,101,97,107,32,99,104,101,99,107,32,114,101,99,111,118,101,114,32,97,108,119,97,121,115]∧p=[32] then some [[108,105,110,101],[118,111,108],[108,111,99,107],[116,104,114,101,97,100],[114,101,103],[108,111,97,100],[115,116,111,114,101],[99,97,115],[102,108,117,115,104],[111,112,116],[115,102,101,110,99,101],[109,102,101,110,99,101],[116,97,107,101],[103,105,118,101],[105,102],[101,108,115,101],[108,111,111,112],[98,114,101,97,107],[99,104,101,99,107],[114,101,99,111,118,101,114],[97,108,119,97,121,115]] else
 none
def Zl (s p:Str):Option Bool:=if s.length < 4294967281 then some (Lib.contains s p) else none
structure api_Cell where
 Name:Str
 N:Int
 At:Int
 deriving DecidableEq
structure api_Node where
 Op:Int
 N:Int
 Name:Str
 At:Int
 deriving DecidableEq
structure api_Stmt where
 Kind:Int
 Reg:Str
 Name:Str
 E:(List api_Node)
 F:(List api_Node)
 N:Int
 Body:Int
 Else:Int
 At:Int
 deriving DecidableEq
structure api_Thread where
 Name:Str
 Regs:(List Str)
 Body:(List api_Stmt)
 At:Int
 deriving DecidableEq
structure api_Claim where
 E:(List api_Node)
 At:Int
 deriving DecidableEq
structure api_Prog where
 Lines:(List (List api_Cell))
 Vols:(List api_Cell)
 Locks:(List api_Cell)
 Threads:(List api_Thread)
 Recover:(List api_Thread)
 Claims:(List api_Claim)
 deriving DecidableEq
structure legal_use where
 name:Str
 at':Int
 may:(List Int)
 deriving DecidableEq
structure api_Token where
 Kind:Int
 Text:Str
 N:Int
 At:Int
 deriving DecidableEq
structure leadlineref05_In where
 L:(List api_Token)
 At:Int
 E:Int
 Pos:Int
 deriving DecidableEq
structure leadlineref04_P where
 L:(List api_Token)
 At:Int
 E:Int
 Pos:Int
 Out:(List api_Stmt)
 deriving DecidableEq
structure leadlineref03_Read where
 L:(List api_Node)
 To:Int
 E:Int
 At:Int
 deriving DecidableEq
structure leadlinelaw07_Walk where
 How:(List Bool)
 At:Int
 Cost:Int
 Left:Bool
 deriving DecidableEq
def Z13 (N:Nat) (kZ12:(List api_Node)→Option (List api_Node)) (p1:(List api_Node)):Nat→(List api_Node)→Int→Option (List api_Node)
 | 0,_,_=>none
 | n+1,vB1,vB7=>
  if ((decide (vB7 < (p1.length:Int))) && (decide (vB7 < 60)))=true then
   (getI p1 vB7).bind fun x10=>
   (subI x10.Name 0 (min (x10.Name.length:Int) 40)).bind fun s16=>
   (appG 40 vB1 ([(api_Node.mk x10.Op x10.N s16 x10.At)]:List api_Node)).bind fun l21=>
   (Z13 N kZ12 p1 n) l21 (IntKind.i64.wrap (vB7+1))
  else
   kZ12 vB1
def Z12 (vA1:(List api_Node)):Option (List api_Node):=
 some vA1
def Z11 (N:Nat) (p1:(List api_Node)):Option (List api_Node):=
 (Z13 N Z12 p1) N [] 0
def Z16 (N:Nat) (kZ15:(List api_Stmt)→Option (List api_Stmt)) (p1:(List api_Stmt)):Nat→(List api_Stmt)→Int→Option (List api_Stmt)
 | 0,_,_=>none
 | n+1,vB2,vB8=>
  if ((decide (vB8 < (p1.length:Int))) && (decide (vB8 < 50)))=true then
   (getI p1 vB8).bind fun x10=>
   (subI x10.Reg 0 (min (x10.Reg.length:Int) 40)).bind fun s24=>
   (subI x10.Name 0 (min (x10.Name.length:Int) 40)).bind fun s26=>
   (Z11 N x10.E).bind fun r28=>
   (Z11 N x10.F).bind fun r35=>
   (appG 120 vB2 ([(api_Stmt.mk x10.Kind s24 s26 r28 r35 x10.N x10.Body x10.Else x10.At)]:List api_Stmt)).bind fun l53=>
   (Z16 N kZ15 p1 n) l53 (IntKind.i64.wrap (vB8+1))
  else
   kZ15 vB2
def Z15 (vA2:(List api_Stmt)):Option (List api_Stmt):=
 some vA2
def Z14 (N:Nat) (p1:(List api_Stmt)):Option (List api_Stmt):=
 (Z16 N Z15 p1) N [] 0
def Z5n (_:Nat) (p1:api_Prog):Option api_Prog:=
 some p1
def Z5s {τ:Type} (N:Nat) (kZ5q:τ→Option τ) (y:τ→(api_Cell×Int)→Option (τ×Bool)) (x31:(List api_Cell)) (vB2:Int):Nat→Int→τ→Option τ
 | 0,_,_=>none
 | n+1,vD2,vD3=>
  if vD2 < (x31.length:Int) then
   (getI x31 vD2).bind fun x41=>
   (y vD3 (x41,vB2)).bind fun r47=>
   if r47.2=true then
    (Z5s N kZ5q y x31 vB2 n) (IntKind.i64.wrap (vD2+1)) r47.1
   else
    some r47.1
  else
   kZ5q vD3
def Z5q {τ:Type} (kZ5r:Int→τ→Option τ) (vB2:Int) (vC2:τ):Option τ:=
 kZ5r (IntKind.i64.wrap (vB2+1)) vC2
def Z5r {τ:Type} (N:Nat) (kZ5p:τ→Option τ) (y:τ→(api_Cell×Int)→Option (τ×Bool)) (y2:api_Prog):Nat→Int→τ→Option τ
 | 0,_,_=>none
 | n+1,vB2,vB3=>
  if vB2 < (y2.Lines.length:Int) then
   (getI y2.Lines vB2).bind fun x31=>
   (Z5s N (Z5q (Z5r N kZ5p y y2 n) vB2) y x31 vB2) N 0 vB3
  else
   kZ5p vB3
def Z5t {τ:Type} (N:Nat) (y:τ→(api_Cell×Int)→Option (τ×Bool)) (y2:api_Prog):Nat→Int→τ→Option τ
 | 0,_,_=>none
 | n+1,vA6,vA7=>
  if vA6 < (y2.Vols.length:Int) then
   (getI y2.Vols vA6).bind fun x55=>
   (y vA7 (x55,(IntKind.i64.wrap ((y2.Lines.length:Int)+vA6)))).bind fun r61=>
   if r61.2=true then
    (Z5t N y y2 n) (IntKind.i64.wrap (vA6+1)) r61.1
   else
    some r61.1
  else
   some vA7
def Z5p {τ:Type} (N:Nat) (y:τ→(api_Cell×Int)→Option (τ×Bool)) (y2:api_Prog) (vA2:τ):Option τ:=
 (Z5t N y y2) N 0 vA2
def Z5o {τ:Type} (N:Nat) (y:τ→(api_Cell×Int)→Option (τ×Bool)) (s0:τ) (y2:api_Prog):Option τ:=
 (Z5r N (Z5p N y y2) y y2) N 0 s0
def Z5z (p1:Str) (p2:Int) (p4:(List (Str×Int))) (vA1:Bool) (vA2:Int):Option ((List (Str×Int))×Bool×Int):=
 some ((pput p1 p2 p4),vA1,vA2)
def Z5y (_:Nat) (p1:Str) (p2:Int) (p3:Int) (p4:(List (Str×Int))) (p10:Bool) (p12:Int):Option ((List (Str×Int))×Bool×Int):=
 if ((decide (((plook p1 p4).getD 0)≠0)) && (!p10))=true then
  (Z5z p1 p2 p4) true p3
 else
  (Z5z p1 p2 p4) p10 p12
def Z61 (N:Nat) (xe129:(api_Cell×Int)) (vA3:(List (Str×Int))) (vA7:Int) (vA8:Bool) (vB1:Int):Option (((List (Str×Int))×Int×Bool) ⊕ Empty):=
 (Z5y N xe129.1.Name vB1 xe129.1.At vA3 vA8 vA7).bind fun r134=>
 some (.inl (r134.1,r134.2.2,r134.2.1))
def Z60 (N:Nat) (p1:api_Prog) (vA3:(List (Str×Int))) (vA7:Int) (vA8:Bool) (xe129:(api_Cell×Int)):Option (((List (Str×Int))×Int×Bool) ⊕ Empty):=
 if (p1.Lines.length:Int)≤xe129.2 then
  (Z61 N xe129 vA3 vA7 vA8) 2
 else
  (Z61 N xe129 vA3 vA7 vA8) 1
def Z64 (N:Nat) (kZ62:(List (Str×Int))→Int→Bool→Option ((List (Str×Int))×Int×Bool)) (p1:api_Prog):Nat→(List (Str×Int))→Int→Bool→Int→Option ((List (Str×Int))×Int×Bool)
 | 0,_,_,_,_=>none
 | n+1,vB3,vB7,vB8,vB9=>
  if vB9 < (p1.Locks.length:Int) then
   (getI p1.Locks vB9).bind fun x143=>
   (Z5y N x143.Name 3 x143.At vB3 vB8 vB7).bind fun r149=>
   (Z64 N kZ62 p1 n) r149.1 r149.2.2 r149.2.1 (IntKind.i64.wrap (vB9+1))
  else
   kZ62 vB3 vB7 vB8
def Z65 (N:Nat) (kZ63:(List (Str×Int))→Int→Bool→Option ((List (Str×Int))×Int×Bool)) (p1:api_Prog):Nat→(List (Str×Int))→Int→Bool→Int→Option ((List (Str×Int))×Int×Bool)
 | 0,_,_,_,_=>none
 | n+1,vB11,vB15,vB16,vB17=>
  if vB17 < (p1.Threads.length:Int) then
   (getI p1.Threads vB17).bind fun x156=>
   (Z5y N x156.Name 4 x156.At vB11 vB16 vB15).bind fun r170=>
   (Z65 N kZ63 p1 n) r170.1 r170.2.2 r170.2.1 (IntKind.i64.wrap (vB17+1))
  else
   kZ63 vB11 vB15 vB16
def Z63 (vA17:(List (Str×Int))) (vA21:Int) (vA22:Bool):Option ((List (Str×Int))×Int×Bool):=
 some (vA17,vA21,vA22)
def Z62 (N:Nat) (p1:api_Prog) (vA10:(List (Str×Int))) (vA14:Int) (vA15:Bool):Option ((List (Str×Int))×Int×Bool):=
 (Z65 N Z63 p1) N vA10 vA14 vA15 0
def Z5x (N:Nat) (p1:api_Prog):Option ((List (Str×Int))×Int×Bool):=
 (Z5n N p1).bind fun r35=>
 (Z5o N (yy (fun (s:((List (Str×Int))×Int×Bool)) (x:(api_Cell×Int))=>(Z60 N p1) s.1 s.2.1 s.2.2 x)) (.inl ([],0,false)) r35).bind fun q69=>
 match q69 with
  | .inl (vA3,vA7,vA8)=>
   (Z64 N (Z62 N p1) p1) N vA3 vA7 vA8 0
  | .inr t=>nomatch t
def Z7a (_:Nat) (p1:Int):Option Bool:=
 some (((decide (97≤p1)) && (decide (p1≤122))) || (decide (p1=95)))
def Z79 (N:Nat) (kZ78:(List (Str×Bool))→Option (List (Str×Bool))) (rz3:(List Str)):Nat→(List (Str×Bool))→Int→Option (List (Str×Bool))
 | 0,_,_=>none
 | n+1,vB1,vB5=>
  if vB5 < (rz3.length:Int) then
   (getI rz3 vB5).bind fun x11=>
   (Z79 N kZ78 rz3 n) (pput x11 true vB1) (IntKind.i64.wrap (vB5+1))
  else
   kZ78 vB1
def Z78 (vA1:(List (Str×Bool))):Option (List (Str×Bool)):=
 some vA1
def Z77 (N:Nat)  : Option (List (Str×Bool)):=
 (splitM [108,105,110,101,32,118,111,108,32,108,111,99,107,32,116,104,114,101,97,100,32,114,101,103,32,108,111,97,100,32,115,116,111,114,101,32,99,97,115,32,102,108,117,115,104,32,111,112,116,32,115,102,101,110,99,101,32,109,102,101,110,99,101,32,116,97,107,101,32,103,105,118,101,32,105,102,32,101,108,115,101,32,108,111,111,112,32,98,114,101,97,107,32,99,104,101,99,107,32,114,101,99,111,118,101,114,32,97,108,119,97,121,115] [32]).bind fun rz3=>
 (Z79 N Z78 rz3) N [] 0
def Z72 (N:Nat) (p1:Str):Option Bool:=
 (Z77 N).bind fun rz2=>
 some ((plook p1 rz2).getD false)
def Z76 (_:Nat) (p1:Int):Option Bool:=
 some ((decide (48≤p1)) && (decide (p1≤57)))
def Z74 (N:Nat) (p1:Int):Option Bool:=
 (Z7a N p1).bind fun rz2=>
 if rz2=true then
  some true
 else
  (Z76 N p1).bind fun rz5=>
  some rz5
def Z7d (kZ7c:Int→Option Int) (kZ7e:Int→Option Int) (vB1:Int) (vC1:Bool):Option Int:=
 if vC1=true then
  kZ7e (IntKind.i64.wrap (vB1+1))
 else
  kZ7c vB1
def Z7e (N:Nat) (kZ7c:Int→Option Int) (p1:Str):Nat→Int→Option Int
 | 0,_=>none
 | n+1,vB1=>
  if vB1 < (p1.length:Int) then
   (byteI p1 vB1).bind fun xz3=>
   (Z74 N xz3).bind fun rz5=>
   (Z7d kZ7c (Z7e N kZ7c p1 n) vB1) rz5
  else
   (Z7d kZ7c (Z7e N kZ7c p1 n) vB1) false
def Z7c (vA1:Int):Option Int:=
 some vA1
def Z7b (N:Nat) (p1:Str):Option Int:=
 (Z7e N Z7c p1) N 0
def Z75 (N:Nat) (p1:Str) (vA1:Bool):Option Bool:=
 if vA1=true then
  some false
 else
  (Z7b N p1).bind fun r11=>
  some (decide (r11=(p1.length:Int)))
def Z73 (N:Nat) (p1:Str):Option Bool:=
 if ((decide (p1=[])) || (decide (16 < (p1.length:Int))))=true then
  (Z75 N p1) true
 else
  (byteI p1 0).bind fun xz3=>
  (Z7a N xz3).bind fun rz5=>
  if rz5=true then
   (Z72 N p1).bind fun rz8=>
   (Z75 N p1) rz8
  else
   (Z75 N p1) true
def Z6z (_:Nat) (p1:Int):Option Bool:=
 some ((decide (0≤p1)) && (decide (p1≤4000)))
def Z6y (N:Nat) (p1:api_Cell) (y3:Int):Option Bool:=
 (Z73 N p1.Name).bind fun rz6=>
 if (((!rz6) || (decide (p1.N < 0))) || (decide (y3 < p1.N)))=true then
  some true
 else
  (Z6z N p1.At).bind fun rz9=>
  some (!rz9)
def Z83 (N:Nat) (kZ82:Option Int) (p1:(List api_Cell)) (y7:Int):Nat→Int→Option Int
 | 0,_=>none
 | n+1,vB1=>
  if vB1 < (p1.length:Int) then
   (getI p1 vB1).bind fun x10=>
   (Z6y N x10 y7).bind fun r15=>
   if r15=true then
    some vB1
   else
    (Z83 N kZ82 p1 y7 n) (IntKind.i64.wrap (vB1+1))
  else
   kZ82
def Z82  : Option Int:=
 some (-1)
def Z81 (N:Nat) (p1:(List api_Cell)) (y7:Int):Option Int:=
 (Z83 N Z82 p1 y7) N 0
def Z7m (N:Nat) (p1:(List api_Cell)) (y7:Int):Option Bool:=
 (Z81 N p1 y7).bind fun rz9=>
 some (decide (0≤rz9))
def Z6x (N:Nat) (p1:(List api_Cell)) (p6:Int):Option Bool:=
 (Z7m N p1 p6).bind fun rz8=>
 some (!rz8)
def Z6s (N:Nat) (p1:(List api_Cell)):Option Bool:=
 if (p1.length:Int)=0 then
  some true
 else
  (Z6x N p1 4294967296).bind fun rz7=>
  some (!rz7)
def Z7x (N:Nat) (kZ7w:Option Int) (p1:(List (List api_Cell))):Nat→Int→Option Int
 | 0,_=>none
 | n+1,vB1=>
  if vB1 < (p1.length:Int) then
   (getI p1 vB1).bind fun xz7=>
   (Z6s N xz7).bind fun r16=>
   if r16=true then
    some vB1
   else
    (Z7x N kZ7w p1 n) (IntKind.i64.wrap (vB1+1))
  else
   kZ7w
def Z7w  : Option Int:=
 some (-1)
def Z7v (N:Nat) (p1:(List (List api_Cell))):Option Int:=
 (Z7x N Z7w p1) N 0
def Z7k (N:Nat) (p1:(List (List api_Cell))):Option Bool:=
 (Z7v N p1).bind fun rz6=>
 some (decide (0≤rz6))
def Z71 (N:Nat) (p1:Str):Option Bool:=
 (Z73 N p1).bind fun rz2=>
 some (!rz2)
def Z8o (N:Nat) (kZ8n:Option Int) (p1:(List Str)):Nat→Int→Option Int
 | 0,_=>none
 | n+1,vB1=>
  if vB1 < (p1.length:Int) then
   (getI p1 vB1).bind fun xz7=>
   (Z71 N xz7).bind fun r12=>
   if r12=true then
    some vB1
   else
    (Z8o N kZ8n p1 n) (IntKind.i64.wrap (vB1+1))
  else
   kZ8n
def Z8n  : Option Int:=
 some (-1)
def Z8m (N:Nat) (p1:(List Str)):Option Int:=
 (Z8o N Z8n p1) N 0
def Z7t (N:Nat) (p1:(List Str)):Option Bool:=
 (Z8m N p1).bind fun rz6=>
 some (decide (0≤rz6))
def Z90 (_:Nat)  : Option (Arr 15 Str):=
 some (⟨[[],[114,101],[114,110],[110,101],[114,110,101,102],[110],[110],[],[],[110],[110],[101,98],[107,98],[],[101]],rfl⟩:(Arr 15 Str))
def Z8s (N:Nat) (p1:Int):Option Str:=
 if ((decide (p1 < 0)) || (decide (15≤p1)))=true then
  some []
 else
  (Z90 N).bind fun rz3=>
  (getI rz3.l p1).bind fun x12=>
  some x12
def Z92 (_:Nat) (p1:Str) (y3:Str):Option Bool:=
 (Zl y3 p1).bind fun rz5=>
 some rz5
def Z93 (N:Nat) (p1:Bool) (p2:Str):Option Bool:=
 if p1=true then
  (Z73 N p2).bind fun rz4=>
  some (rz4 || ((!p1) && (decide (p2=[]))))
 else
  some ((!p1) && (decide (p2=[])))
def Zx (N:Nat) (p1:api_Node):Option Bool:=
 if ((decide (p1.At < 0)) || (decide (4000 < p1.At)))=true then
  some false
 else
  if p1.Op=1 then
   some (((decide (0≤p1.N)) && (decide (p1.N≤4294967296))) && (decide (p1.Name=[])))
  else
   if p1.Op=2 then
    if p1.N=0 then
     (Z73 N p1.Name).bind fun rz7=>
     some rz7
    else
     some false
   else
    some ((decide (p1.N=0)) && (decide (p1.Name=[])))
def Zr (N:Nat) (p1:api_Node):Option Bool:=
 (Zx N p1).bind fun rz3=>
 some (!rz3)
def Z89 (N:Nat) (kZ88:Option Int) (p1:(List api_Node)):Nat→Int→Option Int
 | 0,_=>none
 | n+1,vB1=>
  if vB1 < (p1.length:Int) then
   (getI p1 vB1).bind fun xz7=>
   (Zr N xz7).bind fun r12=>
   if r12=true then
    some vB1
   else
    (Z89 N kZ88 p1 n) (IntKind.i64.wrap (vB1+1))
  else
   kZ88
def Z88  : Option Int:=
 some (-1)
def Z87 (N:Nat) (p1:(List api_Node)):Option Int:=
 (Z89 N Z88 p1) N 0
def Z7o (N:Nat) (p1:(List api_Node)):Option Bool:=
 (Z87 N p1).bind fun rz6=>
 some (decide (0≤rz6))
def Zw (_:Nat) (p1:Int):Option Int:=
 if ((decide (p1=1)) || (decide (p1=2)))=true then
  some 0
 else
  if ((decide (p1=3)) || (decide (p1=4)))=true then
   some 1
  else
   if ((decide (5≤p1)) && (decide (p1≤15)))=true then
    some 2
   else
    some (-1)
def Zo (N:Nat) (kZp:Int→Int→Option Int) (p1:(List api_Node)) (vB1:Int) (vB2:Int) (vC1:Bool):Option Int:=
 if vC1=true then
  some (-1)
 else
  (getI p1 vB1).bind fun x17=>
  (Zw N x17.Op).bind fun r22=>
  kZp (IntKind.i64.wrap (vB1+1)) (IntKind.i64.wrap ((IntKind.i64.wrap (vB2+r22)) - 1))
def Zp (N:Nat) (kZn:Int→Option Int) (p1:(List api_Node)):Nat→Int→Int→Option Int
 | 0,_,_=>none
 | n+1,vB1,vB2=>
  if 0 < vB2 then
   if ((decide (vB1 < 0)) || (decide ((p1.length:Int)≤vB1)))=true then
    (Zo N (Zp N kZn p1 n) p1 vB1 vB2) true
   else
    (getI p1 vB1).bind fun xz9=>
    (Zw N xz9.Op).bind fun r14=>
    (Zo N (Zp N kZn p1 n) p1 vB1 vB2) (decide (r14=(-1)))
  else
   kZn vB1
def Zn (vA1:Int):Option Int:=
 some vA1
def Zm (N:Nat) (p1:(List api_Node)) (p6:Int):Option Int:=
 (Zp N Zn p1) N p6 1
def Z10 (N:Nat) (kZz:(List Int)→Option (List Int)) (p1:(List api_Node)) (r12:Int):Nat→(List Int)→Int→Int→Option (List Int)
 | 0,_,_,_=>none
 | n+1,vB1,vB7,vB8=>
  if vB8 < r12 then
   (appG 8 vB1 ([vB7]:List Int)).bind fun l18=>
   (Zm N p1 vB7).bind fun r24=>
   (Z10 N kZz p1 r12 n) l18 r24 (IntKind.i64.wrap (vB8+1))
  else
   kZz vB1
def Zz (vA1:(List Int)):Option (List Int):=
 some vA1
def Zy (N:Nat) (p1:(List api_Node)) (p6:Int):Option (List Int):=
 (getI p1 p6).bind fun xz7=>
 (Zw N xz7.Op).bind fun r12=>
 (Z10 N Zz p1 r12) N [] (IntKind.i64.wrap (p6+1)) 0
def Zv (rf:(List api_Node)→Int→Option Int) (N:Nat) (kZu:Int→Option Int) (p1:(List api_Node)) (rz7:(List Int)):Nat→Int→Int→Option Int
 | 0,_,_=>none
 | n+1,vB1,vB2=>
  if vB2 < (rz7.length:Int) then
   (getI rz7 vB2).bind fun x15=>
   (rf p1 x15).bind fun r21=>
   (Zv rf N kZu p1 rz7 n) (max vB1 r21) (IntKind.i64.wrap (vB2+1))
  else
   kZu vB1
def Zu (vA1:Int):Option Int:=
 some (IntKind.i64.wrap (vA1+1))
def Zt:Nat→(List api_Node)→Int→Option Int
 | 0,_,_=>none
 | N+1,p1,p6=>
  (Zy N p1 p6).bind fun rz7=>
  (Zv (Zt N) N Zu p1 rz7) N 0 0
def Zs (N:Nat) (p1:(List api_Node)) (vA1:Bool):Option Bool:=
 if vA1=true then
  some false
 else
  (Zt N p1 0).bind fun r13=>
  some (decide (r13≤12))
def Zq (N:Nat) (p1:(List api_Node)):Option Bool:=
 if ((decide ((p1.length:Int)=0)) || (decide (40 < (p1.length:Int))))=true then
  (Zs N p1) true
 else
  (Z7o N p1).bind fun rz7=>
  if rz7=true then
   (Zs N p1) true
  else
   (Zm N p1 0).bind fun r10=>
   (Zs N p1) (decide (r10≠(p1.length:Int)))
def Z94 (N:Nat) (p1:Bool) (p2:(List api_Node)):Option Bool:=
 if p1=true then
  (Zq N p2).bind fun rz8=>
  some (rz8 || ((!p1) && (decide ((p2.length:Int)=0))))
 else
  some ((!p1) && (decide ((p2.length:Int)=0)))
def Z95 (N:Nat) (p1:api_Stmt) (r13:Str) (vA1:Bool):Option Bool:=
 if (((((decide (1≤p1.Kind)) && (decide (p1.Kind < 15))) && (decide (0≤p1.At))) && (decide (p1.At≤4000))) && vA1)=true then
  (Z92 N [114] r13).bind fun r20=>
  (Z93 N r20 p1.Reg).bind fun r22=>
  if r22=true then
   (Z92 N [110] r13).bind fun r25=>
   (Z93 N r25 p1.Name).bind fun r27=>
   if r27=true then
    (Z92 N [101] r13).bind fun r30=>
    (Z94 N r30 p1.E).bind fun r32=>
    if r32=true then
     (Z92 N [102] r13).bind fun r35=>
     (Z94 N r35 p1.F).bind fun r37=>
     some (!r37)
    else
     some true
   else
    some true
  else
   some true
 else
  some true
def Z91 (N:Nat) (p1:api_Stmt):Option Bool:=
 (Z8s N p1.Kind).bind fun r13=>
 (Z92 N [107] r13).bind fun r16=>
 if r16=true then
  (Z95 N p1 r13) ((decide (1≤p1.N)) && (decide (p1.N≤8)))
 else
  (Z95 N p1 r13) (decide (p1.N=0))
def Z8c (N:Nat) (kZ8b:Option Int) (p1:(List api_Stmt)):Nat→Int→Option Int
 | 0,_=>none
 | n+1,vB1=>
  if vB1 < (p1.length:Int) then
   (getI p1 vB1).bind fun xz7=>
   (Z91 N xz7).bind fun r20=>
   if r20=true then
    some vB1
   else
    (Z8c N kZ8b p1 n) (IntKind.i64.wrap (vB1+1))
  else
   kZ8b
def Z8b  : Option Int:=
 some (-1)
def Z8a (N:Nat) (p1:(List api_Stmt)):Option Int:=
 (Z8c N Z8b p1) N 0
def Z7p (N:Nat) (p1:(List api_Stmt)):Option Bool:=
 (Z8a N p1).bind fun rz6=>
 some (decide (0≤rz6))
def Z96 (_:Nat) (p1:Bool):Option Int:=
 if p1=true then
  some 1
 else
  some 0
def Z8y (kZ8z:Int→Int→Option Int) (xz8:api_Stmt) (vB2:Int) (vC2:Int):Option Int:=
 kZ8z vC2 (IntKind.i64.wrap ((IntKind.i64.wrap ((IntKind.i64.wrap (vB2+1))+xz8.Body))+xz8.Else))
def Z8x (rf:(List api_Stmt)→Int→Option Int) (N:Nat) (kZ8z:Int→Int→Option Int) (p1:(List api_Stmt)) (p6:Int) (xz8:api_Stmt) (vB1:Int) (vB2:Int) (vC1:Bool):Option Int:=
 if vC1=true then
  some (-1)
 else
  if ((decide (xz8.Kind=11)) || (decide (xz8.Kind=12)))=true then
   (Z96 N (decide (xz8.Kind=12))).bind fun r27=>
   (subI p1 (IntKind.i64.wrap (vB2+1)) (IntKind.i64.wrap ((IntKind.i64.wrap (vB2+1))+xz8.Body))).bind fun l29=>
   (rf l29 (IntKind.i64.wrap (p6+r27))).bind fun r37=>
   (subI p1 (IntKind.i64.wrap ((IntKind.i64.wrap (vB2+1))+xz8.Body)) (IntKind.i64.wrap ((IntKind.i64.wrap ((IntKind.i64.wrap (vB2+1))+xz8.Body))+xz8.Else))).bind fun l39=>
   (rf l39 (IntKind.i64.wrap (p6+r27))).bind fun r47=>
   if ((decide (r37=(-1))) || (decide (r47=(-1))))=true then
    some (-1)
   else
    (Z8y kZ8z xz8 vB2) (max (max vB1 (IntKind.i64.wrap (r37+1))) (IntKind.i64.wrap (r47+1)))
  else
   (Z8y kZ8z xz8 vB2) vB1
def Z8z (rf:(List api_Stmt)→Int→Option Int) (N:Nat) (kZ8w:Int→Option Int) (p1:(List api_Stmt)) (p6:Int):Nat→Int→Int→Option Int
 | 0,_,_=>none
 | n+1,vB1,vB2=>
  if vB2 < (p1.length:Int) then
   (getI p1 vB2).bind fun xz8=>
   if (((((decide (xz8.Body < 0)) || (decide (xz8.Else < 0))) || (decide ((p1.length:Int) < xz8.Body))) || (decide ((p1.length:Int) < xz8.Else))) || (decide ((p1.length:Int) < (IntKind.i64.wrap ((IntKind.i64.wrap ((IntKind.i64.wrap (vB2+1))+xz8.Body))+xz8.Else)))))=true then
    some (-1)
   else
    if ((!((decide (xz8.Kind=11)) || (decide (xz8.Kind=12)))) && (decide (0 < xz8.Body)))=true then
     (Z8x rf N (Z8z rf N kZ8w p1 p6 n) p1 p6 xz8 vB1 vB2) ((!((decide (xz8.Kind=11)) || (decide (xz8.Kind=12)))) && (decide (0 < xz8.Body)))
    else
     if ((decide (xz8.Kind≠11)) && (decide (0 < xz8.Else)))=true then
      (Z8x rf N (Z8z rf N kZ8w p1 p6 n) p1 p6 xz8 vB1 vB2) ((decide (xz8.Kind≠11)) && (decide (0 < xz8.Else)))
     else
      (Z8x rf N (Z8z rf N kZ8w p1 p6 n) p1 p6 xz8 vB1 vB2) ((decide (xz8.Kind=13)) && (decide (p6=0)))
  else
   kZ8w vB1
def Z8w (vA1:Int):Option Int:=
 some vA1
def Z8v:Nat→(List api_Stmt)→Int→Option Int
 | 0,_,_=>none
 | N+1,p1,p6=>
  (Z8z (Z8v N) N Z8w p1 p6) N 0 0
def Z8u (N:Nat) (p1:(List api_Stmt)) (vA1:Bool):Option Bool:=
 if vA1=true then
  some false
 else
  (Z8v N p1 0).bind fun r10=>
  some ((decide (r10≠(-1))) && (decide (r10≤12)))
def Z8t (N:Nat) (p1:(List api_Stmt)):Option Bool:=
 if 40 < (p1.length:Int) then
  (Z8u N p1) true
 else
  (Z7p N p1).bind fun rz7=>
  (Z8u N p1) rz7
def Z70 (N:Nat) (p1:api_Thread):Option Bool:=
 (Z6z N p1.At).bind fun r13=>
 if r13=true then
  (Z7t N p1.Regs).bind fun r16=>
  if r16=true then
   some false
  else
   (Z8t N p1.Body).bind fun r19=>
   some r19
 else
  some false
def Z6t (N:Nat) (p1:api_Thread):Option Bool:=
 (Z73 N p1.Name).bind fun r13=>
 if r13=true then
  (Z70 N p1).bind fun r16=>
  some (!r16)
 else
  some true
def Z8f (N:Nat) (kZ8e:Option Int) (p1:(List api_Thread)):Nat→Int→Option Int
 | 0,_=>none
 | n+1,vB1=>
  if vB1 < (p1.length:Int) then
   (getI p1 vB1).bind fun xz7=>
   (Z6t N xz7).bind fun r20=>
   if r20=true then
    some vB1
   else
    (Z8f N kZ8e p1 n) (IntKind.i64.wrap (vB1+1))
  else
   kZ8e
def Z8e  : Option Int:=
 some (-1)
def Z8d (N:Nat) (p1:(List api_Thread)):Option Int:=
 (Z8f N Z8e p1) N 0
def Z7q (N:Nat) (p1:(List api_Thread)):Option Bool:=
 (Z8d N p1).bind fun rz6=>
 some (decide (0≤rz6))
def Z6u (N:Nat) (p1:api_Thread):Option Bool:=
 if p1.Name≠[] then
  some true
 else
  (Z70 N p1).bind fun r14=>
  some (!r14)
def Z8i (N:Nat) (kZ8h:Option Int) (p1:(List api_Thread)):Nat→Int→Option Int
 | 0,_=>none
 | n+1,vB1=>
  if vB1 < (p1.length:Int) then
   (getI p1 vB1).bind fun xz7=>
   (Z6u N xz7).bind fun r20=>
   if r20=true then
    some vB1
   else
    (Z8i N kZ8h p1 n) (IntKind.i64.wrap (vB1+1))
  else
   kZ8h
def Z8h  : Option Int:=
 some (-1)
def Z8g (N:Nat) (p1:(List api_Thread)):Option Int:=
 (Z8i N Z8h p1) N 0
def Z7r (N:Nat) (p1:(List api_Thread)):Option Bool:=
 (Z8g N p1).bind fun rz6=>
 some (decide (0≤rz6))
def Z6v (N:Nat) (p1:api_Claim):Option Bool:=
 (Z6z N p1.At).bind fun rz9=>
 if rz9=true then
  (Zq N p1.E).bind fun r12=>
  some (!r12)
 else
  some true
def Z86 (N:Nat) (kZ85:Option Int) (p1:(List api_Claim)):Nat→Int→Option Int
 | 0,_=>none
 | n+1,vB1=>
  if vB1 < (p1.length:Int) then
   (getI p1 vB1).bind fun xz7=>
   (Z6v N xz7).bind fun r16=>
   if r16=true then
    some vB1
   else
    (Z86 N kZ85 p1 n) (IntKind.i64.wrap (vB1+1))
  else
   kZ85
def Z85  : Option Int:=
 some (-1)
def Z84 (N:Nat) (p1:(List api_Claim)):Option Int:=
 (Z86 N Z85 p1) N 0
def Z7n (N:Nat) (p1:(List api_Claim)):Option Bool:=
 (Z84 N p1).bind fun rz6=>
 some (decide (0≤rz6))
def Z6w (N:Nat) (p1:api_Prog) (vA1:Bool):Option Bool:=
 if vA1=true then
  some false
 else
  (Z7q N p1.Threads).bind fun r39=>
  if r39=true then
   some false
  else
   (Z7r N p1.Recover).bind fun r42=>
   if r42=true then
    some false
   else
    (Z7n N p1.Claims).bind fun r45=>
    some (!r45)
def Z6r (N:Nat) (p1:api_Prog):Option Bool:=
 (Z7k N p1.Lines).bind fun r29=>
 if r29=true then
  (Z6w N p1) r29
 else
  (Z6x N p1.Vols 4294967296).bind fun r32=>
  if r32=true then
   (Z6x N p1.Locks 0).bind fun r35=>
   if r35=true then
    (Z6w N p1) (decide (1 < (p1.Recover.length:Int)))
   else
    (Z6w N p1) (!r35)
  else
   (Z6w N p1) (!r32)
def Z5v (_:Nat) (p1:(List api_Cell)):Option Bool:=
 some (decide (4 < (p1.length:Int)))
def Z80 (N:Nat) (kZ7z:Option Int) (p1:(List (List api_Cell))):Nat→Int→Option Int
 | 0,_=>none
 | n+1,vB1=>
  if vB1 < (p1.length:Int) then
   (getI p1 vB1).bind fun xz7=>
   (Z5v N xz7).bind fun r16=>
   if r16=true then
    some vB1
   else
    (Z80 N kZ7z p1 n) (IntKind.i64.wrap (vB1+1))
  else
   kZ7z
def Z7z  : Option Int:=
 some (-1)
def Z7y (N:Nat) (p1:(List (List api_Cell))):Option Int:=
 (Z80 N Z7z p1) N 0
def Z7l (N:Nat) (p1:(List (List api_Cell))):Option Bool:=
 (Z7y N p1).bind fun rz6=>
 some (decide (0≤rz6))
def Z7i (N:Nat) (kZ7g:Int→Option (List api_Thread)) (p1:(List (List api_Thread))):Nat→Int→Int→Option (List api_Thread)
 | 0,_,_=>none
 | n+1,vB1,vB2=>
  if vB2 < (p1.length:Int) then
   (getI p1 vB2).bind fun xz7=>
   if (IntKind.i64.wrap (vB1+(xz7.length:Int))) < 0 then
    none
   else
    (Z7i N kZ7g p1 n) (IntKind.i64.wrap (vB1+(xz7.length:Int))) (IntKind.i64.wrap (vB2+1))
  else
   kZ7g vB1
def Z7j (N:Nat) (kZ7h:(List api_Thread)→Option (List api_Thread)) (p1:(List (List api_Thread))):Nat→(List api_Thread)→Int→Option (List api_Thread)
 | 0,_,_=>none
 | n+1,vB3,vB9=>
  if vB9 < (p1.length:Int) then
   (getI p1 vB9).bind fun x24=>
   (appG 72 vB3 x24).bind fun l33=>
   (Z7j N kZ7h p1 n) l33 (IntKind.i64.wrap (vB9+1))
  else
   kZ7h vB3
def Z7h (vA2:(List api_Thread)):Option (List api_Thread):=
 some vA2
def Z7g (N:Nat) (p1:(List (List api_Thread))) (vA1:Int):Option (List api_Thread):=
 (growG 72 vA1).bind fun _=>
 (Z7j N Z7h p1) N [] 0
def Z7f (N:Nat) (p1:(List (List api_Thread))):Option (List api_Thread):=
 (Z7i N (Z7g N p1) p1) N 0 0
def Z69 (N:Nat) (p1:api_Prog):Option (List api_Thread):=
 (Z7f N ([p1.Threads,p1.Recover]:List (List api_Thread))).bind fun r36=>
 some r36
def Z5w (_:Nat) (p1:api_Thread):Option Bool:=
 some (decide (4 < (p1.Regs.length:Int)))
def Z8l (N:Nat) (kZ8k:Option Int) (p1:(List api_Thread)):Nat→Int→Option Int
 | 0,_=>none
 | n+1,vB1=>
  if vB1 < (p1.length:Int) then
   (getI p1 vB1).bind fun xz7=>
   (Z5w N xz7).bind fun r20=>
   if r20=true then
    some vB1
   else
    (Z8l N kZ8k p1 n) (IntKind.i64.wrap (vB1+1))
  else
   kZ8k
def Z8k  : Option Int:=
 some (-1)
def Z8j (N:Nat) (p1:(List api_Thread)):Option Int:=
 (Z8l N Z8k p1) N 0
def Z7s (N:Nat) (p1:(List api_Thread)):Option Bool:=
 (Z8j N p1).bind fun rz6=>
 some (decide (0≤rz6))
def Z5u (N:Nat) (p1:api_Prog):Option Bool:=
 if 4 < (p1.Lines.length:Int) then
  some true
 else
  (Z7l N p1.Lines).bind fun r30=>
  if ((((r30 || (decide (4 < (p1.Vols.length:Int)))) || (decide (2 < (p1.Locks.length:Int)))) || (decide ((p1.Threads.length:Int)=0))) || (decide (3 < (p1.Threads.length:Int))))=true then
   some true
  else
   (Z69 N p1).bind fun r33=>
   (Z7s N r33).bind fun r43=>
   some (r43 || (decide (4 < (p1.Claims.length:Int))))
def Z6p (rf:(List api_Stmt)→Int→Option (Int×Bool)) (kZ6q:Int→Option (Int×Bool)) (p1:(List api_Stmt)) (xz8:api_Stmt) (vB1:Int) (vC1:Int):Option (Int×Bool):=
 if 64 < vC1 then
  some (xz8.At,true)
 else
  (subI p1 (IntKind.i64.wrap (vB1+1)) (IntKind.i64.wrap ((IntKind.i64.wrap ((IntKind.i64.wrap (vB1+1))+xz8.Body))+xz8.Else))).bind fun l24=>
  (rf l24 vC1).bind fun r32=>
  if r32.2=true then
   some (r32.1,true)
  else
   kZ6q (IntKind.i64.wrap ((IntKind.i64.wrap ((IntKind.i64.wrap (vB1+1))+xz8.Body))+xz8.Else))
def Z6q (rf:(List api_Stmt)→Int→Option (Int×Bool)) (N:Nat) (kZ6o:Option (Int×Bool)) (p1:(List api_Stmt)) (p6:Int):Nat→Int→Option (Int×Bool)
 | 0,_=>none
 | n+1,vB1=>
  if vB1 < (p1.length:Int) then
   (getI p1 vB1).bind fun xz8=>
   if xz8.Kind=12 then
    (Z6p rf (Z6q rf N kZ6o p1 p6 n) p1 xz8 vB1) (IntKind.i64.wrap (p6 * xz8.N))
   else
    (Z6p rf (Z6q rf N kZ6o p1 p6 n) p1 xz8 vB1) p6
  else
   kZ6o
def Z6o  : Option (Int×Bool):=
 some (0,false)
def Z6n:Nat→(List api_Stmt)→Int→Option (Int×Bool)
 | 0,_,_=>none
 | N+1,p1,p6=>
  (Z6q (Z6n N) N Z6o p1 p6) N 0
def Z68 (N:Nat) (kZ67:(List (Str×Int))→Option ((List (Str×Int))×Bool)) (p1:api_Thread):Nat→(List (Str×Int))→Int→Option ((List (Str×Int))×Bool)
 | 0,_,_=>none
 | n+1,vB1,vB5=>
  if vB5 < (p1.Regs.length:Int) then
   (getI p1.Regs vB5).bind fun x27=>
   if ((plook x27 vB1).getD 0)≠0 then
    some ([],true)
   else
    (Z68 N kZ67 p1 n) (pput x27 5 vB1) (IntKind.i64.wrap (vB5+1))
  else
   kZ67 vB1
def Z67 (vA1:(List (Str×Int))):Option ((List (Str×Int))×Bool):=
 some (vA1,false)
def Z66 (N:Nat) (p1:api_Thread) (p4:(List (Str×Int))):Option ((List (Str×Int))×Bool):=
 (Z68 N Z67 p1) N (p4.filter fun q=>decide (q.2≠4)) 0
def Z6a (_:Nat) (p1:(List api_Stmt)):Option (List api_Stmt):=
 some p1
def Z6l {τ:Type} (kZ6m:Int→τ→Option (Bool×τ)) (vB2:Int) (vC2:Bool) (vC3:τ):Option (Bool×τ):=
 if vC2=true then
  some (false,vC3)
 else
  kZ6m (IntKind.i64.wrap (vB2+1)) vC3
def Z6m {τ:Type} (N:Nat) (kZ6k:τ→Option (Bool×τ)) (p1:(List api_Node)) (p6:Int) (y:τ→legal_use→Option (τ×Bool)):Nat→Int→τ→Option (Bool×τ)
 | 0,_,_=>none
 | n+1,vB2,vB3=>
  if vB2 < (p1.length:Int) then
   (getI p1 vB2).bind fun xz8=>
   if xz8.Op=2 then
    (y vB3 (legal_use.mk xz8.Name xz8.At ([p6]:List Int))).bind fun r22=>
    (Z6l (Z6m N kZ6k p1 p6 y n) vB2) (!r22.2) r22.1
   else
    (Z6l (Z6m N kZ6k p1 p6 y n) vB2) false vB3
  else
   kZ6k vB3
def Z6k {τ:Type} (vA2:τ):Option (Bool×τ):=
 some (true,vA2)
def Z6j {τ:Type} (N:Nat) (p1:(List api_Node)) (p6:Int) (y:τ→legal_use→Option (τ×Bool)) (s0:τ):Option (Bool×τ):=
 (Z6m N Z6k p1 p6 y) N 0 s0
def Z6f {τ:Type} (kZ6d:(List Int)→τ→Option τ) (vC5:Bool) (vC6:τ):Option τ:=
 if vC5=true then
  kZ6d ([3]:List Int) vC6
 else
  kZ6d ([1,2]:List Int) vC6
def Z6e {τ:Type} (kZ6d:(List Int)→τ→Option τ) (xz9:api_Stmt) (vC1:Bool) (vC2:τ):Option τ:=
 if vC1=true then
  kZ6d ([1]:List Int) vC2
 else
  if xz9.Kind=9 then
   (Z6f kZ6d) (decide (xz9.Kind=9)) vC2
  else
   (Z6f kZ6d) (decide (xz9.Kind=10)) vC2
def Z6h {τ:Type} (kZ6i:Int→τ→Option τ) (vA2:Int) (vB21:Bool) (vB22:τ):Option τ:=
 if vB21=true then
  some vB22
 else
  kZ6i (IntKind.i64.wrap (vA2+1)) vB22
def Z6g {τ:Type} (N:Nat) (kZ6i:Int→τ→Option τ) (y:τ→legal_use→Option (τ×Bool)) (xz9:api_Stmt) (vA2:Int) (vB16:Bool) (vB17:τ):Option τ:=
 if vB16=true then
  some vB17
 else
  (Z6j N xz9.E 5 y vB17).bind fun r63=>
  if r63.1=true then
   (Z6j N xz9.F 5 y r63.2).bind fun r72=>
   (Z6h kZ6i vA2) (!r72.1) r72.2
  else
   (Z6h kZ6i vA2) true r63.2
def Z6d {τ:Type} (N:Nat) (kZ6i:Int→τ→Option τ) (y:τ→legal_use→Option (τ×Bool)) (xz9:api_Stmt) (vA2:Int) (vB6:(List Int)) (vB12:τ):Option τ:=
 if xz9.Name≠[] then
  (y vB12 (legal_use.mk xz9.Name xz9.At vB6)).bind fun r56=>
  (Z6g N kZ6i y xz9 vA2) (!r56.2) r56.1
 else
  (Z6g N kZ6i y xz9 vA2) false vB12
def Z6c {τ:Type} (N:Nat) (kZ6i:Int→τ→Option τ) (y:τ→legal_use→Option (τ×Bool)) (xz9:api_Stmt) (vA2:Int) (vB2:Bool) (vB3:τ):Option τ:=
 if vB2=true then
  some vB3
 else
  if xz9.Kind=5 then
   (Z6e (Z6d N kZ6i y xz9 vA2) xz9) (decide (xz9.Kind=5)) vB3
  else
   (Z6e (Z6d N kZ6i y xz9 vA2) xz9) (decide (xz9.Kind=6)) vB3
def Z6i {τ:Type} (N:Nat) (y:τ→legal_use→Option (τ×Bool)) (y2:(List api_Stmt)):Nat→Int→τ→Option τ
 | 0,_,_=>none
 | n+1,vA2,vA3=>
  if vA2 < (y2.length:Int) then
   (getI y2 vA2).bind fun xz9=>
   if xz9.Reg≠[] then
    (y vA3 (legal_use.mk xz9.Reg xz9.At ([5]:List Int))).bind fun r31=>
    (Z6c N (Z6i N y y2 n) y xz9 vA2) (!r31.2) r31.1
   else
    (Z6c N (Z6i N y y2 n) y xz9 vA2) false vA3
  else
   some vA3
def Z6b {τ:Type} (N:Nat) (y:τ→legal_use→Option (τ×Bool)) (s0:τ) (y2:(List api_Stmt)):Option τ:=
 (Z6i N y y2) N 0 s0
def Z8r (N:Nat) (kZ8q:Option Int) (p1:(List Int)) (p6:Int):Nat→Int→Option Int
 | 0,_=>none
 | n+1,vB1=>
  if vB1 < (p1.length:Int) then
   (getI p1 vB1).bind fun xz8=>
   if p6=xz8 then
    some vB1
   else
    (Z8r N kZ8q p1 p6 n) (IntKind.i64.wrap (vB1+1))
  else
   kZ8q
def Z8q  : Option Int:=
 some (-1)
def Z8p (N:Nat) (p1:(List Int)) (p6:Int):Option Int:=
 (Z8r N Z8q p1 p6) N 0
def Z7u (N:Nat) (p1:(List Int)) (p6:Int):Option Bool:=
 (Z8p N p1 p6).bind fun rz7=>
 some (decide (0≤rz7))
def Z5j (N:Nat) (kZ5d:Option (Int×Int)) (r43:(List api_Thread)):Nat→Int→Option (Int×Int)
 | 0,_=>none
 | n+1,vB1=>
  if vB1 < (r43.length:Int) then
   (getI r43 vB1).bind fun x54=>
   (Z6n N x54.Body 1).bind fun r68=>
   if r68.2=true then
    some (11,r68.1)
   else
    (Z5j N kZ5d r43 n) (IntKind.i64.wrap (vB1+1))
  else
   kZ5d
def Z5k (N:Nat) (kZ5f:Option (Int×Int)) (r31:((List (Str×Int))×Int×Bool)) (r72:(List api_Thread)):Nat→Int→Option (Int×Int)
 | 0,_=>none
 | n+1,vB2=>
  if vB2 < (r72.length:Int) then
   (getI r72 vB2).bind fun x83=>
   (Z66 N x83 r31.1).bind fun r97=>
   if r97.2=true then
    some (10,x83.At)
   else
    (Z5k N kZ5f r31 r72 n) (IntKind.i64.wrap (vB2+1))
  else
   kZ5f
def Z5c (N:Nat) (r128:((List (Str×Int))×Bool)) (xe206:legal_use):Option (Unit ⊕ Int):=
 (Z7u N xe206.may ((plook xe206.name r128.1).getD 0)).bind fun r214=>
 if r214=true then
  some (.inl ())
 else
  some (.inr xe206.at')
def Z5l (N:Nat) (kZ5g:Option (Int×Int)) (r31:((List (Str×Int))×Int×Bool)) (r103:(List api_Thread)):Nat→Int→Option (Int×Int)
 | 0,_=>none
 | n+1,vB4=>
  if vB4 < (r103.length:Int) then
   (getI r103 vB4).bind fun x114=>
   (Z66 N x114 r31.1).bind fun r128=>
   (Z6a N x114.Body).bind fun r134=>
   (Z6b N (yy (fun (_:Unit) (x:legal_use)=>(Z5c N r128) x)) (.inl ()) r134).bind fun q146=>
   match q146 with
    | .inl _=>
     (Z5l N kZ5g r31 r103 n) (IntKind.i64.wrap (vB4+1))
    | .inr vC3=>
     some (9,vC3)
  else
   kZ5g
def Z5i (N:Nat) (kZ5e:Option (Int×Int)) (r31:((List (Str×Int))×Int×Bool)) (x222:api_Claim):Nat→Int→Option (Int×Int)
 | 0,_=>none
 | n+1,vD1=>
  if vD1 < (x222.E.length:Int) then
   (getI x222.E vD1).bind fun x233=>
   if ((decide (x233.Op=2)) && (decide (((plook x233.Name r31.1).getD 0)≠1)))=true then
    some (9,x233.At)
   else
    (Z5i N kZ5e r31 x222 n) (IntKind.i64.wrap (vD1+1))
  else
   kZ5e
def Z5e (kZ5m:Int→Option (Int×Int)) (vB6:Int):Option (Int×Int):=
 kZ5m (IntKind.i64.wrap (vB6+1))
def Z5m (N:Nat) (kZ5h:Option (Int×Int)) (p1:api_Prog) (r31:((List (Str×Int))×Int×Bool)):Nat→Int→Option (Int×Int)
 | 0,_=>none
 | n+1,vB6=>
  if vB6 < (p1.Claims.length:Int) then
   (getI p1.Claims vB6).bind fun x222=>
   (Z5i N (Z5e (Z5m N kZ5h p1 r31 n) vB6) r31 x222) N 0
  else
   kZ5h
def Z5h  : Option (Int×Int):=
 some (0,0)
def Z5g (N:Nat) (p1:api_Prog) (r31:((List (Str×Int))×Int×Bool)):Option (Int×Int):=
 (Z5m N Z5h p1 r31) N 0
def Z5f (N:Nat) (p1:api_Prog) (r31:((List (Str×Int))×Int×Bool)):Option (Int×Int):=
 (Z69 N p1).bind fun r103=>
 (Z5l N (Z5g N p1 r31) r31 r103) N 0
def Z5d (N:Nat) (p1:api_Prog) (r31:((List (Str×Int))×Int×Bool)):Option (Int×Int):=
 if r31.2.2=true then
  some (10,r31.2.1)
 else
  (Z69 N p1).bind fun r72=>
  (Z5k N (Z5f N p1 r31) r31 r72) N 0
def Z5b (N:Nat) (p1:api_Prog):Option (Int×Int):=
 (Z5x N p1).bind fun r31=>
 (Z6r N p1).bind fun r37=>
 if r37=true then
  (Z5u N p1).bind fun r40=>
  if r40=true then
   some (2,0)
  else
   (Z69 N p1).bind fun r43=>
   (Z5j N (Z5d N p1 r31) r43) N 0
 else
  some (8,0)
def Z1y (_:Nat) (p1:Int):Option Bool:=
 some (((decide (97≤p1)) && (decide (p1≤122))) || (decide (p1=95)))
def Z1e (N:Nat) (kZ1d:Option Bool) (p1:Str):Nat→Int→Option Bool
 | 0,_=>none
 | n+1,vB1=>
  if vB1 < (([[108,105,110,101],[118,111,108],[108,111,99,107],[116,104,114,101,97,100],[114,101,103],[108,111,97,100],[115,116,111,114,101],[99,97,115],[102,108,117,115,104],[111,112,116],[115,102,101,110,99,101],[109,102,101,110,99,101],[116,97,107,101],[103,105,118,101],[105,102],[101,108,115,101],[108,111,111,112],[98,114,101,97,107],[99,104,101,99,107],[114,101,99,111,118,101,114],[97,108,119,97,121,115]]:List Str).length:Int) then
   (getI ([[108,105,110,101],[118,111,108],[108,111,99,107],[116,104,114,101,97,100],[114,101,103],[108,111,97,100],[115,116,111,114,101],[99,97,115],[102,108,117,115,104],[111,112,116],[115,102,101,110,99,101],[109,102,101,110,99,101],[116,97,107,101],[103,105,118,101],[105,102],[101,108,115,101],[108,111,111,112],[98,114,101,97,107],[99,104,101,99,107],[114,101,99,111,118,101,114],[97,108,119,97,121,115]]:List Str) vB1).bind fun xz6=>
   if xz6=p1 then
    some true
   else
    (Z1e N kZ1d p1 n) (IntKind.i64.wrap (vB1+1))
  else
   kZ1d
def Z1d  : Option Bool:=
 some false
def Z1c (N:Nat) (p1:Str):Option Bool:=
 (Z1e N Z1d p1) N 0
def Z1x (_:Nat) (p1:Int):Option Bool:=
 some ((decide (48≤p1)) && (decide (p1≤57)))
def Z1i (kZ1j:Int→Option Bool) (vB1:Int) (vC1:Bool):Option Bool:=
 if vC1=true then
  some false
 else
  kZ1j (IntKind.i64.wrap (vB1+1))
def Z1j (N:Nat) (kZ1h:Option Bool) (p1:Str):Nat→Int→Option Bool
 | 0,_=>none
 | n+1,vB1=>
  if vB1 < (p1.length:Int) then
   (byteI p1 vB1).bind fun x12=>
   (Z1y N x12).bind fun r14=>
   if r14=true then
    (Z1i (Z1j N kZ1h p1 n) vB1) false
   else
    (byteI p1 vB1).bind fun x17=>
    (Z1x N x17).bind fun r19=>
    (Z1i (Z1j N kZ1h p1 n) vB1) (!r19)
  else
   kZ1h
def Z1h  : Option Bool:=
 some true
def Z1g (N:Nat) (p1:Str) (vA1:Bool):Option Bool:=
 if vA1=true then
  some false
 else
  (Z1j N Z1h p1) N 0
def Z1f (N:Nat) (p1:Str):Option Bool:=
 if ((decide ((p1.length:Int) < 1)) || (decide (16 < (p1.length:Int))))=true then
  (Z1g N p1) true
 else
  (byteI p1 0).bind fun xz3=>
  (Z1y N xz3).bind fun rz5=>
  if rz5=true then
   (Z1c N p1).bind fun rz8=>
   (Z1g N p1) rz8
  else
   (Z1g N p1) true
def Z2j (_:Nat) (p1:Int):Option Int:=
 if ((decide (p1=1)) || (decide (p1=2)))=true then
  some 0
 else
  if ((decide (p1=3)) || (decide (p1=4)))=true then
   some 1
  else
   if ((decide (5≤p1)) && (decide (p1≤15)))=true then
    some 2
   else
    some (-1)
def Z2c (rf:(List api_Node)→Int→Option Int) (N:Nat) (kZ2b:Int→Option Int) (p1:(List api_Node)) (p6:Int):Nat→Int→Int→Option Int
 | 0,_,_=>none
 | n+1,vB1,vB2=>
  (getI p1 p6).bind fun x16=>
  (Z2j N x16.Op).bind fun r21=>
  if ((decide (vB2 < r21)) && (decide (0≤vB1)))=true then
   (rf p1 vB1).bind fun r24=>
   (Z2c rf N kZ2b p1 p6 n) r24 (IntKind.i64.wrap (vB2+1))
  else
   kZ2b vB1
def Z2b (vA2:Int):Option Int:=
 some vA2
def Z2a (rf:(List api_Node)→Int→Option Int) (N:Nat) (p1:(List api_Node)) (p6:Int) (vA1:Bool):Option Int:=
 if vA1=true then
  some (-1)
 else
  (Z2c rf N Z2b p1 p6) N (IntKind.i64.wrap (p6+1)) 0
def Z29:Nat→(List api_Node)→Int→Option Int
 | 0,_,_=>none
 | N+1,p1,p6=>
  if ((decide (p6 < 0)) || (decide ((p1.length:Int)≤p6)))=true then
   (Z2a (Z29 N) N p1 p6) true
  else
   (getI p1 p6).bind fun xz8=>
   (Z2j N xz8.Op).bind fun r13=>
   (Z2a (Z29 N) N p1 p6) (decide (r13 < 0))
def Z2u (rf:(List api_Node)→Int→Option Int) (N:Nat) (kZ2t:Int→Option Int) (p1:(List api_Node)) (p6:Int):Nat→Int→Int→Int→Option Int
 | 0,_,_,_=>none
 | n+1,vB1,vB2,vB3=>
  (getI p1 p6).bind fun xz7=>
  (Z2j N xz7.Op).bind fun r12=>
  if vB3 < r12 then
   (rf p1 vB2).bind fun r15=>
   (Z29 N p1 vB2).bind fun r17=>
   (Z2u rf N kZ2t p1 p6 n) (max vB1 r15) r17 (IntKind.i64.wrap (vB3+1))
  else
   kZ2t vB1
def Z2t (vA1:Int):Option Int:=
 some (IntKind.i64.wrap (vA1+1))
def Z2s:Nat→(List api_Node)→Int→Option Int
 | 0,_,_=>none
 | N+1,p1,p6=>
  (Z2u (Z2s N) N Z2t p1 p6) N 0 (IntKind.i64.wrap (p6+1)) 0
def Z2o (kZ2p:Int→Option Bool) (vB1:Int) (vC1:Bool):Option Bool:=
 if vC1=true then
  some false
 else
  kZ2p (IntKind.i64.wrap (vB1+1))
def Z2p (N:Nat) (kZ2n:Option Bool) (p1:(List api_Node)):Nat→Int→Option Bool
 | 0,_=>none
 | n+1,vB1=>
  if vB1 < (p1.length:Int) then
   (getI p1 vB1).bind fun x11=>
   if ((((((decide (x11.At < 0)) || (decide (4000 < x11.At))) || ((decide (x11.Op≠1)) && (decide (x11.N≠0)))) || ((decide (x11.Op≠2)) && (decide (x11.Name≠[])))) || (decide (x11.N < 0))) || (decide (4294967296 < x11.N)))=true then
    (Z2o (Z2p N kZ2n p1 n) vB1) true
   else
    if x11.Op=2 then
     (Z1f N x11.Name).bind fun r19=>
     (Z2o (Z2p N kZ2n p1 n) vB1) (!r19)
    else
     (Z2o (Z2p N kZ2n p1 n) vB1) false
  else
   kZ2n
def Z2n (N:Nat) (p1:(List api_Node)):Option Bool:=
 (Z2s N p1 0).bind fun r22=>
 some (decide (r22≤12))
def Z2m (N:Nat) (p1:(List api_Node)) (vA1:Bool):Option Bool:=
 if vA1=true then
  some false
 else
  (Z2p N (Z2n N p1) p1) N 0
def Z2l (N:Nat) (p1:(List api_Node)):Option Bool:=
 if 40 < (p1.length:Int) then
  (Z2m N p1) true
 else
  (Z29 N p1 0).bind fun rz7=>
  (Z2m N p1) (decide (rz7≠(p1.length:Int)))
def Z31 (_:Nat) (p1:Int):Option Str:=
 if ((decide (p1 < 1)) || (decide (14 < p1)))=true then
  some []
 else
  (getI ([[],[114,101],[114,110],[110,101],[114,110,101,102],[110],[110],[],[],[110],[110],[101,98],[107,98],[],[101]]:List Str) p1).bind fun xz6=>
  some xz6
def Z44 (N:Nat) (kZ43:Option Bool) (p1:Str) (p2:Int):Nat→Int→Option Bool
 | 0,_=>none
 | n+1,vB1=>
  if vB1 < (p1.length:Int) then
   (byteI p1 vB1).bind fun xz4=>
   if xz4=p2 then
    some true
   else
    (Z44 N kZ43 p1 p2 n) (IntKind.i64.wrap (vB1+1))
  else
   kZ43
def Z43  : Option Bool:=
 some false
def Z42 (N:Nat) (p1:Str) (p2:Int):Option Bool:=
 (Z44 N Z43 p1 p2) N 0
def Z4c (N:Nat) (p1:api_Stmt) (r14:Str) (vA2:Bool):Option Bool:=
 if vA2=true then
  some false
 else
  (Z42 N r14 107).bind fun r36=>
  if r36=true then
   some ((decide (1≤p1.N)) && (decide (p1.N≤8)))
  else
   some (decide (p1.N=0))
def Z4b (N:Nat) (p1:api_Stmt) (r14:Str) (r20:Bool) (r22:Bool) (vA1:Bool):Option Bool:=
 if vA1=true then
  some false
 else
  (Z2l N p1.E).bind fun r30=>
  if ((r20 != r30) || ((!r20) && (decide (0 < (p1.E.length:Int)))))=true then
   (Z4c N p1 r14) true
  else
   (Z2l N p1.F).bind fun r33=>
   (Z4c N p1 r14) ((r22 != r33) || ((!r22) && (decide (0 < (p1.F.length:Int)))))
def Z4a (N:Nat) (p1:api_Stmt):Option Bool:=
 if ((((decide (p1.Kind < 1)) || (decide (14 < p1.Kind))) || (decide (p1.At < 0))) || (decide (4000 < p1.At)))=true then
  some false
 else
  (Z31 N p1.Kind).bind fun r14=>
  (Z42 N r14 114).bind fun r16=>
  (Z42 N r14 110).bind fun r18=>
  (Z42 N r14 101).bind fun r20=>
  (Z42 N r14 102).bind fun r22=>
  (Z1f N p1.Reg).bind fun r24=>
  if ((r16 != r24) || ((!r16) && (decide (p1.Reg≠[]))))=true then
   (Z4b N p1 r14 r20 r22) true
  else
   (Z1f N p1.Name).bind fun r27=>
   (Z4b N p1 r14 r20 r22) ((r18 != r27) || ((!r18) && (decide (p1.Name≠[]))))
def Z48 (kZ49:Int→Int→Option Int) (xz8:api_Stmt) (vB2:Int) (vC2:Int):Option Int:=
 kZ49 vC2 (IntKind.i64.wrap ((IntKind.i64.wrap ((IntKind.i64.wrap (vB2+1))+xz8.Body))+xz8.Else))
def Z47 (rf:(List api_Stmt)→Int→Option Int) (kZ49:Int→Int→Option Int) (p1:(List api_Stmt)) (xz8:api_Stmt) (vB1:Int) (vB2:Int) (vC1:Int):Option Int:=
 if ((decide (xz8.Kind=11)) || (decide (xz8.Kind=12)))=true then
  (subI p1 (IntKind.i64.wrap (vB2+1)) (IntKind.i64.wrap ((IntKind.i64.wrap (vB2+1))+xz8.Body))).bind fun l26=>
  (rf l26 vC1).bind fun r34=>
  (subI p1 (IntKind.i64.wrap ((IntKind.i64.wrap (vB2+1))+xz8.Body)) (IntKind.i64.wrap ((IntKind.i64.wrap ((IntKind.i64.wrap (vB2+1))+xz8.Body))+xz8.Else))).bind fun l36=>
  (rf l36 vC1).bind fun r44=>
  if ((decide (r34 < 0)) || (decide (r44 < 0)))=true then
   some (-1)
  else
   (Z48 kZ49 xz8 vB2) (max (max vB1 (IntKind.i64.wrap (1+r34))) (IntKind.i64.wrap (1+r44)))
 else
  (Z48 kZ49 xz8 vB2) vB1
def Z49 (rf:(List api_Stmt)→Int→Option Int) (N:Nat) (kZ46:Int→Option Int) (p1:(List api_Stmt)) (p6:Int):Nat→Int→Int→Option Int
 | 0,_,_=>none
 | n+1,vB1,vB2=>
  if vB2 < (p1.length:Int) then
   (getI p1 vB2).bind fun xz8=>
   if (((((decide (xz8.Body < 0)) || (decide (xz8.Else < 0))) || (decide (40 < xz8.Body))) || (decide (40 < xz8.Else))) || (decide ((p1.length:Int) < (IntKind.i64.wrap ((IntKind.i64.wrap ((IntKind.i64.wrap (vB2+1))+xz8.Body))+xz8.Else)))))=true then
    some (-1)
   else
    if (((((decide (0 < xz8.Body)) && (decide (xz8.Kind≠11))) && (decide (xz8.Kind≠12))) || ((decide (0 < xz8.Else)) && (decide (xz8.Kind≠11)))) || ((decide (xz8.Kind=13)) && (decide (p6=0))))=true then
     some (-1)
    else
     if xz8.Kind=12 then
      (Z47 rf (Z49 rf N kZ46 p1 p6 n) p1 xz8 vB1 vB2) (IntKind.i64.wrap (p6+1))
     else
      (Z47 rf (Z49 rf N kZ46 p1 p6 n) p1 xz8 vB1 vB2) p6
  else
   kZ46 vB1
def Z46 (vA1:Int):Option Int:=
 some vA1
def Z45:Nat→(List api_Stmt)→Int→Option Int
 | 0,_,_=>none
 | N+1,p1,p6=>
  (Z49 (Z45 N) N Z46 p1 p6) N 0 0
def Z40 (N:Nat) (kZ3z:Option Bool) (p1:(List api_Stmt)):Nat→Int→Option Bool
 | 0,_=>none
 | n+1,vB1=>
  if vB1 < (p1.length:Int) then
   (getI p1 vB1).bind fun xz8=>
   (Z4a N xz8).bind fun r21=>
   if r21=true then
    (Z40 N kZ3z p1 n) (IntKind.i64.wrap (vB1+1))
   else
    some false
  else
   kZ3z
def Z3z (N:Nat) (p1:(List api_Stmt)):Option Bool:=
 (Z45 N p1 0).bind fun r24=>
 some ((decide (0≤r24)) && (decide (r24≤12)))
def Z3y (N:Nat) (p1:(List api_Stmt)):Option Bool:=
 if 40 < (p1.length:Int) then
  some false
 else
  (Z40 N (Z3z N p1) p1) N 0
def Z1w (_:Nat) (p1:Str) (p2:Int) (p3:Str):Option Bool:=
 if (IntKind.i64.wrap (p2+(p3.length:Int)))≤(p1.length:Int) then
  (subI p1 p2 (IntKind.i64.wrap (p2+(p3.length:Int)))).bind fun s5=>
  some (decide (s5=p3))
 else
  some false
def Z21 (kZ22:Int→Option Int) (kZ23:Int→Option Int) (vC1:Int) (vD1:Bool):Option Int:=
 if vD1=true then
  kZ23 (IntKind.i64.wrap (vC1+1))
 else
  kZ22 vC1
def Z23 (N:Nat) (kZ22:Int→Option Int) (p1:Str):Nat→Int→Option Int
 | 0,_=>none
 | n+1,vC1=>
  if vC1 < (p1.length:Int) then
   (byteI p1 vC1).bind fun x11=>
   (Z21 kZ22 (Z23 N kZ22 p1 n) vC1) (decide (x11≠10))
  else
   (Z21 kZ22 (Z23 N kZ22 p1 n) vC1) false
def Z22 (N:Nat) (kZ20:Int→Option Int) (p1:Str):Nat→Int→Option Int
 | 0,_=>none
 | n+1,vB1=>
  if vB1 < (p1.length:Int) then
   (byteI p1 vB1).bind fun xz4=>
   if ((((decide (xz4=32)) || (decide (xz4=9))) || (decide (xz4=10))) || (decide (xz4=13)))=true then
    (Z22 N kZ20 p1 n) (IntKind.i64.wrap (vB1+1))
   else
    (Z1w N p1 vB1 [47,47]).bind fun rz7=>
    if rz7=true then
     (Z23 N (Z22 N kZ20 p1 n) p1) N vB1
    else
     some vB1
  else
   kZ20 vB1
def Z20 (vA1:Int):Option Int:=
 some vA1
def Z1z (N:Nat) (p1:Str) (p2:Int):Option Int:=
 (Z22 N Z20 p1) N p2
def Z27 (N:Nat) (kZ25:Option Int) (p1:Str) (p2:Int):Nat→Int→Option Int
 | 0,_=>none
 | n+1,vB1=>
  if vB1 < (([[61,61],[33,61],[60,61],[38,38],[124,124]]:List Str).length:Int) then
   (getI ([[61,61],[33,61],[60,61],[38,38],[124,124]]:List Str) vB1).bind fun xz7=>
   (Z1w N p1 p2 xz7).bind fun r13=>
   if r13=true then
    some 2
   else
    (Z27 N kZ25 p1 p2 n) (IntKind.i64.wrap (vB1+1))
  else
   kZ25
def Z28 (N:Nat) (kZ26:Option Int) (p1:Str) (p2:Int):Nat→Int→Option Int
 | 0,_=>none
 | n+1,vB2=>
  if vB2 < 14 then
   (byteI [40,41,123,125,59,44,61,60,33,43,45,42,47,37] vB2).bind fun x17=>
   (byteI p1 p2).bind fun x19=>
   if x17=x19 then
    some 1
   else
    (Z28 N kZ26 p1 p2 n) (IntKind.i64.wrap (vB2+1))
  else
   kZ26
def Z26  : Option Int:=
 some 0
def Z25 (N:Nat) (p1:Str) (p2:Int):Option Int:=
 (Z28 N Z26 p1 p2) N 0
def Z24 (N:Nat) (p1:Str) (p2:Int):Option Int:=
 (Z27 N (Z25 N p1 p2) p1 p2) N 0
def Z1q (kZ1p:Int→Option ((List api_Token)×Int×Int)) (kZ1u:Int→Option ((List api_Token)×Int×Int)) (vE1:Int) (vF1:Bool):Option ((List api_Token)×Int×Int):=
 if vF1=true then
  kZ1u (IntKind.i64.wrap (vE1+1))
 else
  kZ1p vE1
def Z1u (N:Nat) (kZ1p:Int→Option ((List api_Token)×Int×Int)) (p1:Str):Nat→Int→Option ((List api_Token)×Int×Int)
 | 0,_=>none
 | n+1,vE1=>
  if vE1 < (p1.length:Int) then
   (byteI p1 vE1).bind fun x16=>
   (Z1y N x16).bind fun r18=>
   if r18=true then
    (Z1q kZ1p (Z1u N kZ1p p1 n) vE1) true
   else
    (byteI p1 vE1).bind fun x21=>
    (Z1x N x21).bind fun r23=>
    (Z1q kZ1p (Z1u N kZ1p p1 n) vE1) r23
  else
   (Z1q kZ1p (Z1u N kZ1p p1 n) vE1) false
def Z1p (kZ1o:Int→api_Token→Option ((List api_Token)×Int×Int)) (vB7:Int) (vD1:Int):Option ((List api_Token)×Int×Int):=
 if 16 < (IntKind.i64.wrap (vD1 - vB7)) then
  some ([],2,vB7)
 else
  kZ1o vD1 (api_Token.mk 1 [] 0 vB7)
def Z1n (kZ1v:Int→api_Token→Option ((List api_Token)×Int×Int)) (vE2:Int) (vF3:api_Token):Option ((List api_Token)×Int×Int):=
 kZ1v (IntKind.i64.wrap (vE2+1)) vF3
def Z1s (_:Nat) (kZ1r:Int→api_Token→Option ((List api_Token)×Int×Int)) (kZ1v:Int→api_Token→Option ((List api_Token)×Int×Int)) (p1:Str) (vE2:Int) (vE3:api_Token) (vF2:Bool):Option ((List api_Token)×Int×Int):=
 if vF2=true then
  if vE3.N≤4294967296 then
   (byteI p1 vE2).bind fun x39=>
   (Z1n kZ1v vE2) (api_Token.mk vE3.Kind vE3.Text (IntKind.i64.wrap ((IntKind.i64.wrap (10 * vE3.N))+(IntKind.i64.wrap (IntKind.u8.wrap (x39 - 48))))) vE3.At)
  else
   (Z1n kZ1v vE2) vE3
 else
  kZ1r vE2 vE3
def Z1v (N:Nat) (kZ1r:Int→api_Token→Option ((List api_Token)×Int×Int)) (p1:Str):Nat→Int→api_Token→Option ((List api_Token)×Int×Int)
 | 0,_,_=>none
 | n+1,vE2,vE3=>
  if vE2 < (p1.length:Int) then
   (byteI p1 vE2).bind fun x33=>
   (Z1x N x33).bind fun r35=>
   (Z1s N kZ1r (Z1v N kZ1r p1 n) p1 vE2 vE3) r35
  else
   (Z1s N kZ1r (Z1v N kZ1r p1 n) p1 vE2 vE3) false
def Z1r (_:Nat) (kZ1o:Int→api_Token→Option ((List api_Token)×Int×Int)) (vB7:Int) (vD2:Int) (vD3:api_Token):Option ((List api_Token)×Int×Int):=
 if 4294967296 < vD3.N then
  some ([],4,vB7)
 else
  kZ1o vD2 vD3
def Z1o (N:Nat) (kZ1t:(List api_Token)→Int→Option ((List api_Token)×Int×Int)) (p1:Str) (vB1:(List api_Token)) (vB7:Int) (vC1:Int) (vC2:api_Token):Option ((List api_Token)×Int×Int):=
 (subI p1 vB7 vC1).bind fun s45=>
 (appG 40 vB1 ([(api_Token.mk vC2.Kind s45 vC2.N vC2.At)]:List api_Token)).bind fun l50=>
 (Z1z N p1 vC1).bind fun r56=>
 kZ1t l50 r56
def Z1t (N:Nat) (kZ1m:(List api_Token)→Option ((List api_Token)×Int×Int)) (p1:Str):Nat→(List api_Token)→Int→Option ((List api_Token)×Int×Int)
 | 0,_,_=>none
 | n+1,vB1,vB7=>
  if vB7 < (p1.length:Int) then
   (byteI p1 vB7).bind fun x10=>
   (Z1y N x10).bind fun r12=>
   if r12=true then
    (Z1u N (Z1p (Z1o N (Z1t N kZ1m p1 n) p1 vB1 vB7) vB7) p1) N vB7
   else
    (byteI p1 vB7).bind fun x27=>
    (Z1x N x27).bind fun r29=>
    if r29=true then
     (Z1v N (Z1r N (Z1o N (Z1t N kZ1m p1 n) p1 vB1 vB7) vB7) p1) N vB7 (api_Token.mk 2 [] 0 vB7)
    else
     (Z24 N p1 vB7).bind fun r42=>
     if (IntKind.i64.wrap (vB7+r42))=vB7 then
      some ([],3,vB7)
     else
      (Z1o N (Z1t N kZ1m p1 n) p1 vB1 vB7) (IntKind.i64.wrap (vB7+r42)) (api_Token.mk 3 [] 0 vB7)
  else
   kZ1m vB1
def Z1m (vA1:(List api_Token)):Option ((List api_Token)×Int×Int):=
 some (vA1,0,0)
def Z1l (N:Nat) (p1:Str):Option ((List api_Token)×Int×Int):=
 if 4000 < (p1.length:Int) then
  some ([],2,4000)
 else
  (Z1z N p1 0).bind fun rz6=>
  (Z1t N Z1m p1) N [] rz6
def Z1b (_:Nat) (p1:(List api_Token)) (p6:Int) (p7:Str):Option Bool:=
 if ((decide (0≤p6)) && (decide (p6 < (p1.length:Int))))=true then
  (getI p1 p6).bind fun xz9=>
  some ((((decide (xz9.Text=p7)) && (decide (xz9.Kind≠2))) && (decide (1≤xz9.Kind))) && (decide (xz9.Kind≤3)))
 else
  some false
def Z4h (p1:leadlineref05_In) (vA1:Bool):Option (Bool×leadlineref05_In):=
 if vA1=true then
  some (true,(leadlineref05_In.mk p1.L (IntKind.i64.wrap (p1.At+1)) p1.E p1.Pos))
 else
  some (false,p1)
def Z4g (N:Nat) (p1:leadlineref05_In) (p7:Str):Option (Bool×leadlineref05_In):=
 if p1.E=0 then
  (Z1b N p1.L p1.At p7).bind fun rz9=>
  (Z4h p1) rz9
 else
  (Z4h p1) false
def Z1k (_:Nat) (p1:(List api_Token)) (p6:Int):Option Int:=
 if ((decide (0≤p6)) && (decide (p6 < (p1.length:Int))))=true then
  (getI p1 p6).bind fun xz8=>
  some xz8.At
 else
  if (p1.length:Int)=0 then
   some 0
  else
   (getI p1 (IntKind.i64.wrap ((p1.length:Int) - 1))).bind fun x14=>
   some (IntKind.i64.wrap (x14.At+(x14.Text.length:Int)))
def Z4e (N:Nat) (p1:leadlineref05_In) (vA1:Int):Option leadlineref05_In:=
 (Z1k N p1.L p1.At).bind fun rz9=>
 some (leadlineref05_In.mk p1.L p1.At vA1 rz9)
def Z4d (N:Nat) (p1:leadlineref05_In):Option leadlineref05_In:=
 if p1.E=0 then
  if (p1.L.length:Int)≤p1.At then
   (Z4e N p1) 6
  else
   (Z4e N p1) 5
 else
  some p1
def Z4k (N:Nat) (p1:leadlineref05_In) (vA1:Bool):Option (api_Cell×leadlineref05_In):=
 if vA1=true then
  (getI p1.L (IntKind.i64.wrap ((IntKind.i64.wrap (p1.At+1)) - 1))).bind fun x19=>
  some ((api_Cell.mk x19.Text 0 x19.At),(leadlineref05_In.mk p1.L (IntKind.i64.wrap (p1.At+1)) p1.E p1.Pos))
 else
  (Z4d N p1).bind fun r24=>
  some ((api_Cell.mk [] 0 0),r24)
def Z4j (N:Nat) (p1:leadlineref05_In):Option (api_Cell×leadlineref05_In):=
 if p1.E=0 then
  if p1.At < (p1.L.length:Int) then
   (getI p1.L p1.At).bind fun x10=>
   if x10.Kind=1 then
    (Z1f N x10.Text).bind fun r16=>
    (Z4k N p1) r16
   else
    (Z4k N p1) false
  else
   (Z4k N p1) false
 else
  (Z4k N p1) false
def Z4i (N:Nat) (p1:leadlineref05_In) (p7:Str):Option leadlineref05_In:=
 (Z4g N p1 p7).bind fun rz8=>
 if rz8.1=true then
  some rz8.2
 else
  (Z4d N rz8.2).bind fun r15=>
  some r15
def Z4p (N:Nat) (kZ4o:(List api_Token)→Int→Int→Int→api_Cell→Option ((List api_Cell)×leadlineref05_In)) (r12:(api_Cell×leadlineref05_In)) (vC1:(List api_Token)) (vC6:Int) (vC7:Int) (vC8:Int) (vD1:Bool):Option ((List api_Cell)×leadlineref05_In):=
 if vD1=true then
  (getI vC1 vC6).bind fun x34=>
  kZ4o vC1 (IntKind.i64.wrap (vC6+1)) vC7 vC8 (api_Cell.mk r12.1.Name x34.N r12.1.At)
 else
  (Z4d N (leadlineref05_In.mk vC1 vC6 vC7 vC8)).bind fun r39=>
  kZ4o r39.L r39.At r39.E r39.Pos r12.1
def Z4o (N:Nat) (kZ4q:(List api_Token)→Int→Int→Int→(List api_Cell)→Bool→Option ((List api_Cell)×leadlineref05_In)) (vB9:(List api_Cell)) (vC10:(List api_Token)) (vC15:Int) (vC16:Int) (vC17:Int) (vC18:api_Cell):Option ((List api_Cell)×leadlineref05_In):=
 (appG 32 vB9 ([vC18]:List api_Cell)).bind fun l48=>
 (Z4g N (leadlineref05_In.mk vC10 vC15 vC16 vC17) [44]).bind fun r54=>
 kZ4q r54.2.L r54.2.At r54.2.E r54.2.Pos l48 r54.1
def Z4n (N:Nat) (kZ4q:(List api_Token)→Int→Int→Int→(List api_Cell)→Bool→Option ((List api_Cell)×leadlineref05_In)) (r12:(api_Cell×leadlineref05_In)) (vB9:(List api_Cell)) (vC1:(List api_Token)) (vC6:Int) (vC7:Int) (vC8:Int) (vC9:Bool):Option ((List api_Cell)×leadlineref05_In):=
 if vC9=true then
  if vC6 < (vC1.length:Int) then
   (getI vC1 vC6).bind fun x28=>
   (Z4p N (Z4o N kZ4q vB9) r12 vC1 vC6 vC7 vC8) (decide (x28.Kind=2))
  else
   (Z4p N (Z4o N kZ4q vB9) r12 vC1 vC6 vC7 vC8) false
 else
  (Z4o N kZ4q vB9) vC1 vC6 vC7 vC8 r12.1
def Z4q (N:Nat) (kZ4m:(List api_Token)→Int→Int→Int→(List api_Cell)→Option ((List api_Cell)×leadlineref05_In)) (p7:Bool):Nat→(List api_Token)→Int→Int→Int→(List api_Cell)→Bool→Option ((List api_Cell)×leadlineref05_In)
 | 0,_,_,_,_,_,_=>none
 | n+1,vB1,vB6,vB7,vB8,vB9,vB15=>
  if (vB15 && (decide (vB7=0)))=true then
   (Z4j N (leadlineref05_In.mk vB1 vB6 vB7 vB8)).bind fun r12=>
   if p7=true then
    (Z4g N r12.2 [61]).bind fun r20=>
    (Z4n N (Z4q N kZ4m p7 n) r12 vB9) r20.2.L r20.2.At r20.2.E r20.2.Pos r20.1
   else
    (Z4n N (Z4q N kZ4m p7 n) r12 vB9) r12.2.L r12.2.At r12.2.E r12.2.Pos false
  else
   kZ4m vB1 vB6 vB7 vB8 vB9
def Z4m (N:Nat) (vA1:(List api_Token)) (vA6:Int) (vA7:Int) (vA8:Int) (vA9:(List api_Cell)):Option ((List api_Cell)×leadlineref05_In):=
 (Z4i N (leadlineref05_In.mk vA1 vA6 vA7 vA8) [59]).bind fun r60=>
 some (vA9,r60)
def Z4l (N:Nat) (p1:leadlineref05_In) (p7:Bool):Option ((List api_Cell)×leadlineref05_In):=
 (Z4q N (Z4m N) p7) N p1.L p1.At p1.E p1.Pos [] true
def Z41 (_:Nat) (p1:Int):Option Str:=
 (getI ([[],[],[108,111,97,100],[115,116,111,114,101],[99,97,115],[102,108,117,115,104],[111,112,116],[115,102,101,110,99,101],[109,102,101,110,99,101],[116,97,107,101],[103,105,118,101],[105,102],[108,111,111,112],[98,114,101,97,107],[99,104,101,99,107]]:List Str) p1).bind fun xz5=>
 some xz5
def Z33 (N:Nat) (p1:leadlineref04_P) (vA1:Int):Option leadlineref04_P:=
 (Z1k N p1.L p1.At).bind fun r15=>
 some (leadlineref04_P.mk p1.L p1.At vA1 r15 p1.Out)
def Z32 (N:Nat) (p1:leadlineref04_P) (p12:Int):Option leadlineref04_P:=
 if p1.E=0 then
  if (p1.L.length:Int)≤p1.At then
   (Z33 N p1) 6
  else
   (Z33 N p1) p12
 else
  some p1
def Z3e (N:Nat) (p1:leadlineref04_P) (vA1:Bool):Option (Str×leadlineref04_P):=
 if vA1=true then
  (getI p1.L (IntKind.i64.wrap ((IntKind.i64.wrap (p1.At+1)) - 1))).bind fun x23=>
  some (x23.Text,(leadlineref04_P.mk p1.L (IntKind.i64.wrap (p1.At+1)) p1.E p1.Pos p1.Out))
 else
  (Z32 N (leadlineref04_P.mk p1.L p1.At p1.E p1.Pos p1.Out) 5).bind fun r28=>
  some ([],r28)
def Z3d (N:Nat) (p1:leadlineref04_P):Option (Str×leadlineref04_P):=
 if p1.E=0 then
  if p1.At < (p1.L.length:Int) then
   (getI p1.L p1.At).bind fun x14=>
   if x14.Kind=1 then
    (Z1f N x14.Text).bind fun r20=>
    (Z3e N p1) r20
   else
    (Z3e N p1) false
  else
   (Z3e N p1) false
 else
  (Z3e N p1) false
def Z3c (N:Nat) (p1:leadlineref04_P) (vA1:Bool):Option leadlineref04_P:=
 if vA1=true then
  some (leadlineref04_P.mk p1.L (IntKind.i64.wrap (p1.At+1)) p1.E p1.Pos p1.Out)
 else
  (Z32 N (leadlineref04_P.mk p1.L p1.At p1.E p1.Pos p1.Out) 5).bind fun r17=>
  some r17
def Z3b (N:Nat) (p1:leadlineref04_P) (p12:Str):Option leadlineref04_P:=
 if p1.E=0 then
  (Z1b N p1.L p1.At p12).bind fun r14=>
  (Z3c N p1) r14
 else
  (Z3c N p1) false
def Z2r (N:Nat) (p1:(List api_Token)) (p6:Int) (vA1:Int):Option leadlineref03_Read:=
 (Z1k N p1 p6).bind fun r10=>
 some (leadlineref03_Read.mk [] 0 vA1 r10)
def Z2q (N:Nat) (p1:(List api_Token)) (p6:Int) (p7:Int):Option leadlineref03_Read:=
 if (p1.length:Int)≤p6 then
  (Z2r N p1 p6) 6
 else
  (Z2r N p1 p6) p7
def Z2v (_:Nat) (p1:Int):Option (List Int):=
 (getI ([([15]:List Int),([14]:List Int),([10,11,12,13]:List Int),([5,6]:List Int),([7,8,9]:List Int)]:List (List Int)) p1).bind fun x40=>
 some x40
def Z30 (_:Nat) (p1:Int):Option Str:=
 (getI ([[],[],[],[45],[33],[43],[45],[42],[47],[37],[61,61],[33,61],[60],[60,61],[38,38],[124,124]]:List Str) p1).bind fun xz5=>
 some xz5
def Z2y (r43:leadlineref03_Read) (x57:api_Token) (vA2:Int):Option leadlineref03_Read:=
 (appG 40 ([(api_Node.mk vA2 0 [] x57.At)]:List api_Node) r43.L).bind fun l66=>
 some (leadlineref03_Read.mk l66 r43.To r43.E r43.At)
def Z2z (N:Nat) (p1:(List api_Token)) (p6:Int) (x109:api_Token) (vA3:Bool):Option leadlineref03_Read:=
 if vA3=true then
  some (leadlineref03_Read.mk ([(api_Node.mk 2 0 x109.Text x109.At)]:List api_Node) (IntKind.i64.wrap (p6+1)) 0 0)
 else
  (Z2q N p1 p6 5).bind fun r133=>
  some r133
def Z2x (rf:(List api_Token)→Int→Int→Option leadlineref03_Read) (rg_Z2d:(List api_Token)→Int→Int→Int→Option leadlineref03_Read) (N:Nat) (p1:(List api_Token)) (p6:Int) (p7:Int) (vA1:Bool):Option leadlineref03_Read:=
 (Z1b N p1 p6 [40]).bind fun r27=>
 if ((vA1 || r27) && (decide (p7=12)))=true then
  (Z2q N p1 p6 7).bind fun r30=>
  some r30
 else
  if vA1=true then
   (rf p1 (IntKind.i64.wrap (p6+1)) (IntKind.i64.wrap (p7+1))).bind fun r43=>
   if r43.E≠0 then
    some r43
   else
    (getI p1 p6).bind fun x57=>
    if x57.Text=[45] then
     (Z2y r43 x57) 3
    else
     (Z2y r43 x57) 4
  else
   if r27=true then
    (rg_Z2d p1 (IntKind.i64.wrap (p6+1)) (IntKind.i64.wrap (p7+1)) 0).bind fun r80=>
    if r80.E≠0 then
     some r80
    else
     (Z1b N p1 r80.To [41]).bind fun r94=>
     if r94=true then
      some (leadlineref03_Read.mk r80.L (IntKind.i64.wrap (r80.To+1)) r80.E r80.At)
     else
      (Z2q N p1 r80.To 5).bind fun r97=>
      some r97
   else
    (getI p1 p6).bind fun x109=>
    if x109.Kind=2 then
     some (leadlineref03_Read.mk ([(api_Node.mk 1 x109.N [] x109.At)]:List api_Node) (IntKind.i64.wrap (p6+1)) 0 0)
    else
     if x109.Kind=1 then
      (Z1f N x109.Text).bind fun r123=>
      (Z2z N p1 p6 x109) r123
     else
      (Z2z N p1 p6 x109) false
def Z2g (kZ2i:Int→Int→Option leadlineref03_Read) (vD3:Int) (vE2:Int):Option leadlineref03_Read:=
 kZ2i vE2 (IntKind.i64.wrap (vD3+1))
def Z2i (N:Nat) (kZ2f:Int→Option leadlineref03_Read) (p1:(List api_Token)) (p8:Int) (vB15:Int):Nat→Int→Int→Option leadlineref03_Read
 | 0,_,_=>none
 | n+1,vD2,vD3=>
  (Z2v N p8).bind fun r37=>
  if vD3 < (r37.length:Int) then
   (Z2v N p8).bind fun r48=>
   (getI r48 vD3).bind fun x58=>
   (Z30 N x58).bind fun r63=>
   (Z1b N p1 vB15 r63).bind fun r65=>
   if r65=true then
    (Z2v N p8).bind fun r68=>
    (getI r68 vD3).bind fun x78=>
    (Z2g (Z2i N kZ2f p1 p8 vB15 n) vD3) x78
   else
    (Z2g (Z2i N kZ2f p1 p8 vB15 n) vD3) vD2
  else
   kZ2f vD2
def Z2f (rf:(List api_Token)→Int→Int→Int→Option leadlineref03_Read) (kZ2h:(List api_Node)→Int→Int→Int→Option leadlineref03_Read) (p1:(List api_Token)) (p7:Int) (p8:Int) (vB10:(List api_Node)) (vB15:Int) (vB16:Int) (vB17:Int) (vC2:Int):Option leadlineref03_Read:=
 if vC2=0 then
  some (leadlineref03_Read.mk vB10 vB15 vB16 vB17)
 else
  (rf p1 (IntKind.i64.wrap (vB15+1)) p7 (IntKind.i64.wrap (p8+1))).bind fun r84=>
  if r84.E≠0 then
   some r84
  else
   (getI p1 vB15).bind fun x98=>
   (appG 40 ([(api_Node.mk vC2 0 [] x98.At)]:List api_Node) vB10).bind fun l106=>
   (appG 40 l106 r84.L).bind fun l115=>
   if p8=2 then
    some (leadlineref03_Read.mk l115 r84.To 0 0)
   else
    kZ2h l115 r84.To 0 0
def Z2h (rf:(List api_Token)→Int→Int→Int→Option leadlineref03_Read) (N:Nat) (kZ2e:(List api_Node)→Int→Int→Int→Option leadlineref03_Read) (p1:(List api_Token)) (p7:Int) (p8:Int):Nat→(List api_Node)→Int→Int→Int→Option leadlineref03_Read
 | 0,_,_,_,_=>none
 | n+1,vB10,vB15,vB16,vB17=>
  if vB16=0 then
   (Z2i N (Z2f rf (Z2h rf N kZ2e p1 p7 p8 n) p1 p7 p8 vB10 vB15 vB16 vB17) p1 p8 vB15) N 0 0
  else
   kZ2e vB10 vB15 vB16 vB17
def Z2e (vA2:(List api_Node)) (vA7:Int) (vA8:Int) (vA9:Int):Option leadlineref03_Read:=
 some (leadlineref03_Read.mk vA2 vA7 vA8 vA9)
mutual
def Z2w:Nat→(List api_Token)→Int→Int→Option leadlineref03_Read
 | 0,_,_,_=>none
 | N+1,p1,p6,p7=>
  if (p1.length:Int)≤p6 then
   (Z2q N p1 p6 6).bind fun r10=>
   some r10
  else
   (Z1b N p1 p6 [33]).bind fun r22=>
   if r22=true then
    (Z2x (Z2w N) (Z2d N) N p1 p6 p7) true
   else
    (Z1b N p1 p6 [45]).bind fun r25=>
    (Z2x (Z2w N) (Z2d N) N p1 p6 p7) r25
def Z2d:Nat→(List api_Token)→Int→Int→Int→Option leadlineref03_Read
 | 0,_,_,_,_=>none
 | N+1,p1,p6,p7,p8=>
  if p8=5 then
   ((Z2w N) p1 p6 p7).bind fun r11=>
   some r11
  else
   ((Z2d N) p1 p6 p7 (IntKind.i64.wrap (p8+1))).bind fun r23=>
   (Z2h (Z2d N) N Z2e p1 p7 p8) N r23.L r23.To r23.E r23.At
end
def Z2k (N:Nat) (p1:(List api_Token)) (p6:Int):Option ((List api_Node)×Int×Int×Int):=
 if p6 < 0 then
  some ([],0,1,0)
 else
  (Z2d N p1 p6 0 0).bind fun rz8=>
  if rz8.E≠0 then
   some ([],0,rz8.E,rz8.At)
  else
   (Z2s N rz8.L 0).bind fun r22=>
   if 12 < r22 then
    (getI p1 p6).bind fun x25=>
    some ([],0,7,x25.At)
   else
    if 40 < (rz8.L.length:Int) then
     (getI p1 p6).bind fun x31=>
     some ([],0,2,x31.At)
    else
     some (rz8.L,rz8.To,0,0)
def Z3a (N:Nat) (p1:leadlineref04_P):Option ((List api_Node)×leadlineref04_P):=
 if p1.E≠0 then
  some ([],p1)
 else
  (Z2k N p1.L p1.At).bind fun r13=>
  if r13.2.2.1≠0 then
   some ([],(leadlineref04_P.mk p1.L p1.At r13.2.2.1 r13.2.2.2 p1.Out))
  else
   some (r13.1,(leadlineref04_P.mk p1.L r13.2.1 p1.E p1.Pos p1.Out))
def Z3t (N:Nat) (p1:leadlineref04_P) (vA1:Bool):Option (Int×leadlineref04_P):=
 if vA1=true then
  (getI p1.L p1.At).bind fun x19=>
  if ((decide (1≤x19.N)) && (decide (x19.N≤8)))=true then
   some (x19.N,(leadlineref04_P.mk p1.L (IntKind.i64.wrap (p1.At+1)) p1.E p1.Pos p1.Out))
  else
   (Z32 N (leadlineref04_P.mk p1.L p1.At p1.E p1.Pos p1.Out) 11).bind fun r25=>
   some (0,r25)
 else
  (Z32 N (leadlineref04_P.mk p1.L p1.At p1.E p1.Pos p1.Out) 5).bind fun r40=>
  some (0,r40)
def Z3s (N:Nat) (p1:leadlineref04_P):Option (Int×leadlineref04_P):=
 if ((decide (p1.E=0)) && (decide (p1.At < (p1.L.length:Int))))=true then
  (getI p1.L p1.At).bind fun x13=>
  (Z3t N p1) (decide (x13.Kind=2))
 else
  (Z3t N p1) false
def Z3r (N:Nat) (kZ3p:(List api_Token)→Int→Int→Int→(List api_Stmt)→Str→Str→(List api_Node)→(List api_Node)→Int→Option (api_Stmt×leadlineref04_P)) (p1:leadlineref04_P) (p12:Int) (vB2:Bool):Option (api_Stmt×leadlineref04_P):=
 if vB2=true then
  (Z3a N (leadlineref04_P.mk p1.L p1.At p1.E p1.Pos p1.Out)).bind fun r297=>
  kZ3p r297.2.L r297.2.At r297.2.E r297.2.Pos r297.2.Out [] [] r297.1 [] 0
 else
  if p12=12 then
   (Z3s N (leadlineref04_P.mk p1.L p1.At p1.E p1.Pos p1.Out)).bind fun r317=>
   kZ3p r317.2.L r317.2.At r317.2.E r317.2.Pos r317.2.Out [] [] [] [] r317.1
  else
   kZ3p p1.L p1.At p1.E p1.Pos p1.Out [] [] [] [] 0
def Z3q (N:Nat) (kZ3p:(List api_Token)→Int→Int→Int→(List api_Stmt)→Str→Str→(List api_Node)→(List api_Node)→Int→Option (api_Stmt×leadlineref04_P)) (p1:leadlineref04_P) (p12:Int) (vB1:Bool):Option (api_Stmt×leadlineref04_P):=
 if vB1=true then
  (Z3d N (leadlineref04_P.mk p1.L p1.At p1.E p1.Pos p1.Out)).bind fun r280=>
  kZ3p r280.2.L r280.2.At r280.2.E r280.2.Pos r280.2.Out [] r280.1 [] [] 0
 else
  if p12=11 then
   (Z3r N kZ3p p1 p12) (decide (p12=11))
  else
   (Z3r N kZ3p p1 p12) (decide (p12=14))
def Z3p (p12:Int) (p13:Int) (vA2:(List api_Token)) (vA7:Int) (vA8:Int) (vA9:Int) (vA10:(List api_Stmt)) (vA16:Str) (vA17:Str) (vA18:(List api_Node)) (vA23:(List api_Node)) (vA28:Int):Option (api_Stmt×leadlineref04_P):=
 some ((api_Stmt.mk p12 vA16 vA17 vA18 vA23 vA28 0 0 p13),(leadlineref04_P.mk vA2 vA7 vA8 vA9 vA10))
def Z3o (N:Nat) (p1:leadlineref04_P) (p12:Int) (p13:Int):Option (api_Stmt×leadlineref04_P):=
 if p12=1 then
  (Z3d N p1).bind fun r17=>
  (Z3b N r17.2 [61]).bind fun r32=>
  (Z3a N r32).bind fun r47=>
  (Z3p p12 p13) r47.2.L r47.2.At r47.2.E r47.2.Pos r47.2.Out r17.1 [] r47.1 [] 0
 else
  if p12=2 then
   (Z3d N p1).bind fun r67=>
   (Z3b N r67.2 [61]).bind fun r82=>
   (Z3d N r82).bind fun r97=>
   (Z3p p12 p13) r97.2.L r97.2.At r97.2.E r97.2.Pos r97.2.Out r67.1 r97.1 [] [] 0
  else
   if p12=3 then
    (Z3d N p1).bind fun r113=>
    (Z3b N r113.2 [61]).bind fun r128=>
    (Z3a N r128).bind fun r143=>
    (Z3p p12 p13) r143.2.L r143.2.At r143.2.E r143.2.Pos r143.2.Out [] r113.1 r143.1 [] 0
   else
    if p12=4 then
     (Z3d N p1).bind fun r163=>
     (Z3b N r163.2 [61]).bind fun r178=>
     (Z3d N r178).bind fun r193=>
     (Z3b N r193.2 [44]).bind fun r208=>
     (Z3a N r208).bind fun r223=>
     (Z3b N r223.2 [44]).bind fun r242=>
     (Z3a N r242).bind fun r257=>
     (Z3p p12 p13) r257.2.L r257.2.At r257.2.E r257.2.Pos r257.2.Out r163.1 r193.1 r223.1 r257.1 0
    else
     if p12=5 then
      (Z3q N (Z3p p12 p13) p1 p12) (decide (p12=5))
     else
      if p12=6 then
       (Z3q N (Z3p p12 p13) p1 p12) (decide (p12=6))
      else
       if p12=9 then
        (Z3q N (Z3p p12 p13) p1 p12) (decide (p12=9))
       else
        (Z3q N (Z3p p12 p13) p1 p12) (decide (p12=10))
def Z38 (rg_Z3f:leadlineref04_P→Int→Int→Option leadlineref04_P) (kZ37:(List api_Token)→Int→Int→Int→(List api_Stmt)→Option (Int×leadlineref04_P)) (kZ39:(List api_Token)→Int→Int→Int→(List api_Stmt)→Option (Int×leadlineref04_P)) (p12:Int) (p13:Int) (vB2:(List api_Token)) (vB7:Int) (vB8:Int) (vB9:Int) (vB10:(List api_Stmt)) (vC1:Bool):Option (Int×leadlineref04_P):=
 if vC1=true then
  (rg_Z3f (leadlineref04_P.mk vB2 vB7 vB8 vB9 vB10) p12 p13).bind fun r52=>
  kZ39 r52.L r52.At r52.E r52.Pos r52.Out
 else
  kZ37 vB2 vB7 vB8 vB9 vB10
def Z39 (rg_Z3f:leadlineref04_P→Int→Int→Option leadlineref04_P) (N:Nat) (kZ37:(List api_Token)→Int→Int→Int→(List api_Stmt)→Option (Int×leadlineref04_P)) (p12:Int) (p13:Int):Nat→(List api_Token)→Int→Int→Int→(List api_Stmt)→Option (Int×leadlineref04_P)
 | 0,_,_,_,_,_=>none
 | n+1,vB2,vB7,vB8,vB9,vB10=>
  if vB8=0 then
   (Z1b N vB2 vB7 [125]).bind fun r49=>
   (Z38 rg_Z3f kZ37 (Z39 rg_Z3f N kZ37 p12 p13 n) p12 p13 vB2 vB7 vB8 vB9 vB10) (!r49)
  else
   (Z38 rg_Z3f kZ37 (Z39 rg_Z3f N kZ37 p12 p13 n) p12 p13 vB2 vB7 vB8 vB9 vB10) false
def Z37 (N:Nat) (p1:leadlineref04_P) (vA18:(List api_Token)) (vA23:Int) (vA24:Int) (vA25:Int) (vA26:(List api_Stmt)):Option (Int×leadlineref04_P):=
 (Z3b N (leadlineref04_P.mk vA18 vA23 vA24 vA25 vA26) [125]).bind fun r67=>
 some ((IntKind.i64.wrap ((r67.Out.length:Int) - (p1.Out.length:Int))),r67)
def Z36 (rg_Z3f:leadlineref04_P→Int→Int→Option leadlineref04_P) (N:Nat) (p1:leadlineref04_P) (p12:Int) (p13:Int) (vA3:(List api_Token)) (vA8:Int) (vA9:Int) (vA10:Int) (vA11:(List api_Stmt)):Option (Int×leadlineref04_P):=
 (Z3b N (leadlineref04_P.mk vA3 vA8 vA9 vA10 vA11) [123]).bind fun r33=>
 (Z39 rg_Z3f N (Z37 N p1) p12 p13) N r33.L r33.At r33.E r33.Pos r33.Out
def Z35 (rg_Z3f:leadlineref04_P→Int→Int→Option leadlineref04_P) (N:Nat) (p1:leadlineref04_P) (p12:Int) (p13:Int) (vA1:Bool):Option (Int×leadlineref04_P):=
 if vA1=true then
  (Z32 N (leadlineref04_P.mk p1.L p1.At p1.E p1.Pos p1.Out) 7).bind fun r18=>
  (Z36 rg_Z3f N p1 p12 p13) r18.L r18.At r18.E r18.Pos r18.Out
 else
  (Z36 rg_Z3f N p1 p12 p13) p1.L p1.At p1.E p1.Pos p1.Out
def Z3h (kZ3n:Int→Int→Option leadlineref04_P) (vB2:Int) (vC1:Int):Option leadlineref04_P:=
 kZ3n vC1 (IntKind.i64.wrap (vB2+1))
def Z3n (N:Nat) (kZ3g:Int→Option leadlineref04_P) (p1:leadlineref04_P):Nat→Int→Int→Option leadlineref04_P
 | 0,_,_=>none
 | n+1,vB1,vB2=>
  if vB2≤14 then
   (Z41 N vB2).bind fun r17=>
   (Z1b N p1.L p1.At r17).bind fun r19=>
   if r19=true then
    (Z3h (Z3n N kZ3g p1 n) vB2) vB2
   else
    (Z3h (Z3n N kZ3g p1 n) vB2) vB1
  else
   kZ3g vB1
def Z3m (_:Nat) (r39:(api_Stmt×leadlineref04_P)) (r91:(Int×leadlineref04_P)) (vA12:(List api_Token)) (vA17:Int) (vA18:Int) (vA19:Int) (vA20:(List api_Stmt)) (vA26:Int):Option leadlineref04_P:=
 (getI vA20 (r39.2.Out.length:Int)).bind fun _=>
 (setI vA20 (r39.2.Out.length:Int) (api_Stmt.mk r39.1.Kind r39.1.Reg r39.1.Name r39.1.E r39.1.F r39.1.N r91.1 vA26 r39.1.At)).bind fun l129=>
 some (leadlineref04_P.mk vA12 vA17 vA18 vA19 l129)
def Z3l (rg_Z34:leadlineref04_P→Int→Int→Option (Int×leadlineref04_P)) (N:Nat) (p12:Int) (r39:(api_Stmt×leadlineref04_P)) (vA9:Int) (r91:(Int×leadlineref04_P)) (vA10:Bool):Option leadlineref04_P:=
 if vA10=true then
  (rg_Z34 (leadlineref04_P.mk r91.2.L (IntKind.i64.wrap (r91.2.At+1)) r91.2.E r91.2.Pos r91.2.Out) (IntKind.i64.wrap (p12+1)) vA9).bind fun r111=>
  (Z3m N r39 r91) r111.2.L r111.2.At r111.2.E r111.2.Pos r111.2.Out r111.1
 else
  (Z3m N r39 r91) r91.2.L r91.2.At r91.2.E r91.2.Pos r91.2.Out r39.1.Else
def Z3k (rg_Z34:leadlineref04_P→Int→Int→Option (Int×leadlineref04_P)) (N:Nat) (p12:Int) (vA1:Int) (r39:(api_Stmt×leadlineref04_P)) (vA3:(List api_Stmt)) (vA9:Int):Option leadlineref04_P:=
 (rg_Z34 (leadlineref04_P.mk r39.2.L r39.2.At r39.2.E r39.2.Pos vA3) (IntKind.i64.wrap (p12+1)) vA9).bind fun r91=>
 if vA1=11 then
  if r91.2.E=0 then
   (Z1b N r91.2.L r91.2.At [101,108,115,101]).bind fun r108=>
   (Z3l rg_Z34 N p12 r39 vA9 r91) r108
  else
   (Z3l rg_Z34 N p12 r39 vA9 r91) false
 else
  (Z3l rg_Z34 N p12 r39 vA9 r91) false
def Z3j (rg_Z34:leadlineref04_P→Int→Int→Option (Int×leadlineref04_P)) (N:Nat) (p12:Int) (p13:Int) (vA1:Int) (r39:(api_Stmt×leadlineref04_P)) (vA3:(List api_Stmt)):Option leadlineref04_P:=
 if ((decide (vA1≠11)) && (decide (vA1≠12)))=true then
  (Z3b N (leadlineref04_P.mk r39.2.L r39.2.At r39.2.E r39.2.Pos vA3) [59]).bind fun r75=>
  some r75
 else
  if vA1=12 then
   (Z3k rg_Z34 N p12 vA1 r39 vA3) (IntKind.i64.wrap (p13+1))
  else
   (Z3k rg_Z34 N p12 vA1 r39 vA3) p13
def Z3i (rg_Z34:leadlineref04_P→Int→Int→Option (Int×leadlineref04_P)) (N:Nat) (p1:leadlineref04_P) (p12:Int) (p13:Int) (r14:Int) (vA1:Int) (vA2:Int):Option leadlineref04_P:=
 (Z3o N (leadlineref04_P.mk p1.L vA2 p1.E p1.Pos p1.Out) vA1 r14).bind fun r39=>
 (appG 120 r39.2.Out ([r39.1]:List api_Stmt)).bind fun l68=>
 (Z3j rg_Z34 N p12 p13 vA1 r39) l68
def Z3g (rg_Z34:leadlineref04_P→Int→Int→Option (Int×leadlineref04_P)) (N:Nat) (p1:leadlineref04_P) (p12:Int) (p13:Int) (r14:Int) (vA1:Int):Option leadlineref04_P:=
 if ((decide (vA1=13)) && (decide (p13=0)))=true then
  (Z32 N (leadlineref04_P.mk p1.L p1.At p1.E p1.Pos p1.Out) 5).bind fun r23=>
  some r23
 else
  if vA1≠1 then
   (Z3i rg_Z34 N p1 p12 p13 r14 vA1) (IntKind.i64.wrap (p1.At+1))
  else
   (Z3i rg_Z34 N p1 p12 p13 r14 vA1) p1.At
mutual
def Z34:Nat→leadlineref04_P→Int→Int→Option (Int×leadlineref04_P)
 | 0,_,_,_=>none
 | N+1,p1,p12,p13=>
  if 12 < p12 then
   (Z1b N p1.L p1.At [123]).bind fun r15=>
   (Z35 (Z3f N) N p1 p12 p13) r15
  else
   (Z35 (Z3f N) N p1 p12 p13) false
def Z3f:Nat→leadlineref04_P→Int→Int→Option leadlineref04_P
 | 0,_,_,_=>none
 | N+1,p1,p12,p13=>
  (Z1k N p1.L p1.At).bind fun r14=>
  (Z3n N (Z3g (Z34 N) N p1 p12 p13 r14) p1) N 1 2
end
def Z3w (N:Nat) (kZ3v:(List api_Token)→Int→Int→Int→(List api_Stmt)→Option ((List api_Stmt)×Int×Int×Int)) (kZ3x:(List api_Token)→Int→Int→Int→(List api_Stmt)→Option ((List api_Stmt)×Int×Int×Int)) (vB2:(List api_Token)) (vB7:Int) (vB8:Int) (vB9:Int) (vB10:(List api_Stmt)) (vC1:Bool):Option ((List api_Stmt)×Int×Int×Int):=
 if vC1=true then
  (Z3f N (leadlineref04_P.mk vB2 vB7 vB8 vB9 vB10) 0 0).bind fun r13=>
  kZ3x r13.L r13.At r13.E r13.Pos r13.Out
 else
  kZ3v vB2 vB7 vB8 vB9 vB10
def Z3x (N:Nat) (kZ3v:(List api_Token)→Int→Int→Int→(List api_Stmt)→Option ((List api_Stmt)×Int×Int×Int)):Nat→(List api_Token)→Int→Int→Int→(List api_Stmt)→Option ((List api_Stmt)×Int×Int×Int)
 | 0,_,_,_,_,_=>none
 | n+1,vB2,vB7,vB8,vB9,vB10=>
  if vB8=0 then
   (Z1b N vB2 vB7 [125]).bind fun r10=>
   (Z3w N kZ3v (Z3x N kZ3v n) vB2 vB7 vB8 vB9 vB10) (!r10)
  else
   (Z3w N kZ3v (Z3x N kZ3v n) vB2 vB7 vB8 vB9 vB10) false
def Z3v (N:Nat) (p1:(List api_Token)) (p7:Int) (vA2:(List api_Token)) (vA7:Int) (vA8:Int) (vA9:Int) (vA10:(List api_Stmt)):Option ((List api_Stmt)×Int×Int×Int):=
 (Z3b N (leadlineref04_P.mk vA2 vA7 vA8 vA9 vA10) [125]).bind fun r28=>
 if r28.E≠0 then
  some ([],0,r28.E,r28.Pos)
 else
  if 40 < (r28.Out.length:Int) then
   (getI p1 p7).bind fun x45=>
   some ([],0,2,x45.At)
  else
   some (r28.Out,r28.At,0,0)
def Z3u (N:Nat) (p1:(List api_Token)) (p6:Int) (p7:Int):Option ((List api_Stmt)×Int×Int×Int):=
 (Z3x N (Z3v N p1 p7)) N p1 p6 0 0 []
def Z4u (N:Nat) (kZ4s:(List api_Token)→Int→Int→Int→(List Str)→Option (api_Thread×leadlineref05_In)) (r29:((List api_Cell)×leadlineref05_In)):Nat→(List Str)→Int→Option (api_Thread×leadlineref05_In)
 | 0,_,_=>none
 | n+1,vB1,vB7=>
  if vB7 < (r29.1.length:Int) then
   (getI r29.1 vB7).bind fun x41=>
   (appG 16 vB1 ([x41.Name]:List Str)).bind fun l50=>
   (Z4u N kZ4s r29 n) l50 (IntKind.i64.wrap (vB7+1))
  else
   kZ4s r29.2.L r29.2.At r29.2.E r29.2.Pos vB1
def Z4t (p7:Str) (p13:Int) (vA1:(List api_Token)) (vA9:(List Str)) (vA16:Int) (vA17:Int) (vA18:Int) (vA19:(List api_Stmt)):Option (api_Thread×leadlineref05_In):=
 some ((api_Thread.mk p7 vA9 vA19 p13),(leadlineref05_In.mk vA1 vA16 vA17 vA18))
def Z4s (N:Nat) (p1:leadlineref05_In) (p7:Str) (p8:(List api_Stmt)) (p13:Int) (vA1:(List api_Token)) (vA6:Int) (vA7:Int) (vA8:Int) (vA9:(List Str)):Option (api_Thread×leadlineref05_In):=
 if vA7=0 then
  (Z3u N vA1 vA6 p1.At).bind fun r57=>
  (Z4t p7 p13 vA1 vA9) r57.2.1 r57.2.2.1 r57.2.2.2 r57.1
 else
  (Z4t p7 p13 vA1 vA9) vA6 vA7 vA8 p8
def Z4r (N:Nat) (p1:leadlineref05_In) (p7:Str) (p8:(List api_Stmt)) (p13:Int):Option (api_Thread×leadlineref05_In):=
 (Z4i N p1 [123]).bind fun r16=>
 (Z4g N r16 [114,101,103]).bind fun r22=>
 if r22.1=true then
  (Z4l N r22.2 false).bind fun r29=>
  (Z4u N (Z4s N p1 p7 p8 p13) r29) N [] 0
 else
  (Z4s N p1 p7 p8 p13) r22.2.L r22.2.At r22.2.E r22.2.Pos []
def Z4f (N:Nat) (p1:leadlineref05_In) (p7:Int):Option (api_Claim×leadlineref05_In):=
 (Z2k N p1.L p1.At).bind fun rz9=>
 if rz9.2.2.1≠0 then
  some ((api_Claim.mk [] 0),(leadlineref05_In.mk p1.L p1.At rz9.2.2.1 rz9.2.2.2))
 else
  (Z4i N (leadlineref05_In.mk p1.L rz9.2.1 p1.E p1.Pos) [59]).bind fun r20=>
  some ((api_Claim.mk rz9.1 p7),r20)
def Z54 (N:Nat) (kZ4w:(List api_Token)→Int→Int→Int→(List (List api_Cell))→Option (api_Prog×Int×Int)):Nat→(List api_Token)→Int→Int→Int→(List (List api_Cell))→Option (api_Prog×Int×Int)
 | 0,_,_,_,_,_=>none
 | n+1,vB2,vB7,vB8,vB9,vB10=>
  (Z4g N (leadlineref05_In.mk vB2 vB7 vB8 vB9) [108,105,110,101]).bind fun r17=>
  if r17.1=true then
   (Z4l N r17.2 true).bind fun r24=>
   (appG 24 vB10 ([r24.1]:List (List api_Cell))).bind fun l42=>
   (Z54 N kZ4w n) r24.2.L r24.2.At r24.2.E r24.2.Pos l42
  else
   kZ4w r17.2.L r17.2.At r17.2.E r17.2.Pos vB10
def Z55 (N:Nat) (kZ4z:(List api_Token)→Int→Int→Int→(List api_Cell)→Option (api_Prog×Int×Int)):Nat→(List api_Token)→Int→Int→Int→(List api_Cell)→Option (api_Prog×Int×Int)
 | 0,_,_,_,_,_=>none
 | n+1,vB16,vB21,vB22,vB23,vB24=>
  (Z4g N (leadlineref05_In.mk vB16 vB21 vB22 vB23) [118,111,108]).bind fun r48=>
  if r48.1=true then
   (Z4l N r48.2 true).bind fun r55=>
   (appG 32 vB24 r55.1).bind fun l66=>
   (Z55 N kZ4z n) r55.2.L r55.2.At r55.2.E r55.2.Pos l66
  else
   kZ4z r48.2.L r48.2.At r48.2.E r48.2.Pos vB24
def Z56 (N:Nat) (kZ50:(List api_Token)→Int→Int→Int→(List api_Cell)→Option (api_Prog×Int×Int)):Nat→(List api_Token)→Int→Int→Int→(List api_Cell)→Option (api_Prog×Int×Int)
 | 0,_,_,_,_,_=>none
 | n+1,vB30,vB35,vB36,vB37,vB38=>
  (Z4g N (leadlineref05_In.mk vB30 vB35 vB36 vB37) [108,111,99,107]).bind fun r72=>
  if r72.1=true then
   (Z4l N r72.2 false).bind fun r79=>
   (appG 32 vB38 r79.1).bind fun l90=>
   (Z56 N kZ50 n) r79.2.L r79.2.At r79.2.E r79.2.Pos l90
  else
   kZ50 r72.2.L r72.2.At r72.2.E r72.2.Pos vB38
def Z57 (N:Nat) (kZ51:(List api_Token)→Int→Int→Int→(List api_Thread)→Option (api_Prog×Int×Int)):Nat→(List api_Token)→Int→Int→Int→(List api_Thread)→Option (api_Prog×Int×Int)
 | 0,_,_,_,_,_=>none
 | n+1,vB45,vB50,vB51,vB52,vB53=>
  (Z4g N (leadlineref05_In.mk vB45 vB50 vB51 vB52) [116,104,114,101,97,100]).bind fun r96=>
  if r96.1=true then
   (Z4j N r96.2).bind fun r103=>
   (Z4r N r103.2 r103.1.Name ([]:(List api_Stmt)) r103.1.At).bind fun r110=>
   (appG 72 vB53 ([r110.1]:List api_Thread)).bind fun l133=>
   (Z57 N kZ51 n) r110.2.L r110.2.At r110.2.E r110.2.Pos l133
  else
   kZ51 r96.2.L r96.2.At r96.2.E r96.2.Pos vB53
def Z53 (N:Nat) (kZ4x:(List api_Token)→Int→Int→Int→(List api_Claim)→Option (api_Prog×Int×Int)) (rz3:((List api_Token)×Int×Int)):Nat→(List api_Token)→Int→Int→Int→(List api_Claim)→Option (api_Prog×Int×Int)
 | 0,_,_,_,_,_=>none
 | n+1,vB60,vB65,vB66,vB67,vB68=>
  (Z4g N (leadlineref05_In.mk vB60 vB65 vB66 vB67) [97,108,119,97,121,115]).bind fun r181=>
  if r181.1=true then
   (getI rz3.1 (IntKind.i64.wrap (r181.2.At - 1))).bind fun x188=>
   (Z4f N r181.2 x188.At).bind fun r193=>
   (appG 32 vB68 ([r193.1]:List api_Claim)).bind fun l212=>
   (Z53 N kZ4x rz3 n) r193.2.L r193.2.At r193.2.E r193.2.Pos l212
  else
   kZ4x r181.2.L r181.2.At r181.2.E r181.2.Pos vB68
def Z4y (vA10:(List (List api_Cell))) (vA24:(List api_Cell)) (vA38:(List api_Cell)) (vA53:(List api_Thread)) (vA68:(List api_Thread)) (vA83:(List api_Claim)) (_:(List api_Token)) (_:Int) (vA95:Int) (vA96:Int):Option (api_Prog×Int×Int):=
 if vA95≠0 then
  some ((api_Prog.mk [] [] [] [] [] []),vA95,vA96)
 else
  some ((api_Prog.mk vA10 vA24 vA38 vA53 vA68 vA83),0,0)
def Z4x (N:Nat) (rz3:((List api_Token)×Int×Int)) (vA10:(List (List api_Cell))) (vA24:(List api_Cell)) (vA38:(List api_Cell)) (vA53:(List api_Thread)) (vA68:(List api_Thread)) (vA75:(List api_Token)) (vA80:Int) (vA81:Int) (vA82:Int) (vA83:(List api_Claim)):Option (api_Prog×Int×Int):=
 if vA80 < (rz3.1.length:Int) then
  (Z4d N (leadlineref05_In.mk vA75 vA80 vA81 vA82)).bind fun r219=>
  (Z4y vA10 vA24 vA38 vA53 vA68 vA83) r219.L r219.At r219.E r219.Pos
 else
  (Z4y vA10 vA24 vA38 vA53 vA68 vA83) vA75 vA80 vA81 vA82
def Z52 (N:Nat) (rz3:((List api_Token)×Int×Int)) (vA10:(List (List api_Cell))) (vA24:(List api_Cell)) (vA38:(List api_Cell)) (vA53:(List api_Thread)) (vA60:(List api_Token)) (vA65:Int) (vA66:Int) (vA67:Int) (vA68:(List api_Thread)):Option (api_Prog×Int×Int):=
 (Z53 N (Z4x N rz3 vA10 vA24 vA38 vA53 vA68) rz3) N vA60 vA65 vA66 vA67 []
def Z51 (N:Nat) (rz3:((List api_Token)×Int×Int)) (vA10:(List (List api_Cell))) (vA24:(List api_Cell)) (vA38:(List api_Cell)) (vA45:(List api_Token)) (vA50:Int) (vA51:Int) (vA52:Int) (vA53:(List api_Thread)):Option (api_Prog×Int×Int):=
 (Z4g N (leadlineref05_In.mk vA45 vA50 vA51 vA52) [114,101,99,111,118,101,114]).bind fun r139=>
 if r139.1=true then
  (getI rz3.1 (IntKind.i64.wrap (r139.2.At - 1))).bind fun x146=>
  (Z4r N r139.2 [] ([]:(List api_Stmt)) x146.At).bind fun r151=>
  (appG 72 ([]:List api_Thread) ([r151.1]:List api_Thread)).bind fun l174=>
  (Z52 N rz3 vA10 vA24 vA38 vA53) r151.2.L r151.2.At r151.2.E r151.2.Pos l174
 else
  (Z52 N rz3 vA10 vA24 vA38 vA53) r139.2.L r139.2.At r139.2.E r139.2.Pos []
def Z50 (N:Nat) (rz3:((List api_Token)×Int×Int)) (vA10:(List (List api_Cell))) (vA24:(List api_Cell)) (vA30:(List api_Token)) (vA35:Int) (vA36:Int) (vA37:Int) (vA38:(List api_Cell)):Option (api_Prog×Int×Int):=
 (Z57 N (Z51 N rz3 vA10 vA24 vA38)) N vA30 vA35 vA36 vA37 []
def Z4z (N:Nat) (rz3:((List api_Token)×Int×Int)) (vA10:(List (List api_Cell))) (vA16:(List api_Token)) (vA21:Int) (vA22:Int) (vA23:Int) (vA24:(List api_Cell)):Option (api_Prog×Int×Int):=
 (Z56 N (Z50 N rz3 vA10 vA24)) N vA16 vA21 vA22 vA23 []
def Z4w (N:Nat) (rz3:((List api_Token)×Int×Int)) (vA2:(List api_Token)) (vA7:Int) (vA8:Int) (vA9:Int) (vA10:(List (List api_Cell))):Option (api_Prog×Int×Int):=
 (Z55 N (Z4z N rz3 vA10)) N vA2 vA7 vA8 vA9 []
def Z4v (N:Nat) (p1:Str):Option (api_Prog×Int×Int):=
 (Z1l N p1).bind fun rz3=>
 if rz3.2.1≠0 then
  some ((api_Prog.mk [] [] [] [] [] []),rz3.2.1,rz3.2.2)
 else
  (Z54 N (Z4w N rz3)) N rz3.1 0 0 0 []
def Z5a (N:Nat) (kZ59:Option Bool) (p1:(List Int)) (p6:(List Int)):Nat→Int→Option Bool
 | 0,_=>none
 | n+1,vB1=>
  if vB1 < (p1.length:Int) then
   (getI p1 vB1).bind fun x13=>
   (getI p6 vB1).bind fun x18=>
   if x13≠x18 then
    some false
   else
    (Z5a N kZ59 p1 p6 n) (IntKind.i64.wrap (vB1+1))
  else
   kZ59
def Z59  : Option Bool:=
 some true
def Z58 (N:Nat) (p1:(List Int)) (p6:(List Int)):Option Bool:=
 if (p1.length:Int)≠(p6.length:Int) then
  some false
 else
  (Z5a N Z59 p1 p6) N 0
def Zg (_:Nat)  : Option (Arr 15 Int):=
 some (⟨[0,0,1,2,1,2,2,2,1,1,1,0,0,0,0],rfl⟩:(Arr 15 Int))
def Z0 (N:Nat) (p1:Int):Option Int:=
 if ((decide (p1 < 0)) || (decide (15≤p1)))=true then
  some 0
 else
  (Zg N).bind fun rz3=>
  (getI rz3.l p1).bind fun x12=>
  some x12
def Zj (kZk:Int→Int→Option Int) (xz7:api_Stmt) (vB2:Int) (vC1:Int):Option Int:=
 kZk vC1 (IntKind.i64.wrap ((IntKind.i64.wrap ((IntKind.i64.wrap (vB2+1))+xz7.Body))+xz7.Else))
def Zk (rf:(List api_Stmt)→Option Int) (N:Nat) (kZi:Int→Option Int) (p1:(List api_Stmt)):Nat→Int→Int→Option Int
 | 0,_,_=>none
 | n+1,vB1,vB2=>
  if vB2 < (p1.length:Int) then
   (getI p1 vB2).bind fun xz7=>
   if xz7.Kind=11 then
    (subI p1 (IntKind.i64.wrap (vB2+1)) (IntKind.i64.wrap ((IntKind.i64.wrap (vB2+1))+xz7.Body))).bind fun l22=>
    (rf l22).bind fun r30=>
    (subI p1 (IntKind.i64.wrap ((IntKind.i64.wrap (vB2+1))+xz7.Body)) (IntKind.i64.wrap ((IntKind.i64.wrap ((IntKind.i64.wrap (vB2+1))+xz7.Body))+xz7.Else))).bind fun l32=>
    (rf l32).bind fun r40=>
    (Zj (Zk rf N kZi p1 n) xz7 vB2) (IntKind.i64.wrap (vB1+(max r30 r40)))
   else
    if xz7.Kind=12 then
     (subI p1 (IntKind.i64.wrap (vB2+1)) (IntKind.i64.wrap ((IntKind.i64.wrap (vB2+1))+xz7.Body))).bind fun l43=>
     (rf l43).bind fun r51=>
     (Zj (Zk rf N kZi p1 n) xz7 vB2) (IntKind.i64.wrap (vB1+(IntKind.i64.wrap (xz7.N * r51))))
    else
     (Z0 N xz7.Kind).bind fun r53=>
     (Zj (Zk rf N kZi p1 n) xz7 vB2) (IntKind.i64.wrap (vB1+r53))
  else
   kZi vB1
def Zi (vA1:Int):Option Int:=
 some vA1
def Zh:Nat→(List api_Stmt)→Option Int
 | 0,_=>none
 | N+1,p1=>
  (Zk (Zh N) N Zi p1) N 0 0
def Z8 (N:Nat) (p1:(List api_Stmt)):Option Int:=
 (Z8t N p1).bind fun rz6=>
 if rz6=true then
  (Zh N p1).bind fun rz9=>
  some rz9
 else
  some (-1)
def Zf (rf:(List api_Stmt)→(List Int)→Int→Option (List Int)) (N:Nat) (kZb:(List Int)→Option (List Int)) (y14:Int) (x19:api_Stmt) (l33:(List api_Stmt)):Nat→(List Int)→Int→Option (List Int)
 | 0,_,_=>none
 | n+1,vC3,vC9=>
  if vC9 < x19.N then
   (rf l33 vC3 y14).bind fun r75=>
   (Zf rf N kZb y14 x19 l33 n) r75 (IntKind.i64.wrap (vC9+1))
  else
   kZb vC3
def Zd (rf:(List api_Stmt)→(List Int)→Int→Option (List Int)) (N:Nat) (kZb:(List Int)→Option (List Int)) (y14:Int) (x19:api_Stmt) (l33:(List api_Stmt)) (vA1:(List Int)) (vC2:Bool):Option (List Int):=
 if vC2=true then
  (Zf rf N kZb y14 x19 l33) N vA1 0
 else
  (Z0 N x19.Kind).bind fun r82=>
  if 0 < r82 then
   (appG 8 vA1 ([x19.Kind]:List Int)).bind fun l88=>
   kZb l88
  else
   kZb vA1
def Zc (rf:(List api_Stmt)→(List Int)→Int→Option (List Int)) (N:Nat) (kZb:(List Int)→Option (List Int)) (y14:Int) (x19:api_Stmt) (l33:(List api_Stmt)) (l41:(List api_Stmt)) (vA1:(List Int)) (vC1:Bool):Option (List Int):=
 if vC1=true then
  (rf l41 vA1 y14).bind fun r55=>
  kZb r55
 else
  if x19.Kind=11 then
   (rf l33 vA1 y14).bind fun r63=>
   kZb r63
  else
   if x19.Kind=12 then
    (Zh N l33).bind fun r71=>
    (Zd rf N kZb y14 x19 l33 vA1) (decide (0 < r71))
   else
    (Zd rf N kZb y14 x19 l33 vA1) false
def Zb (kZe:(List Int)→Int→Option (List Int)) (x19:api_Stmt) (vA7:Int) (vB1:(List Int)):Option (List Int):=
 kZe vB1 (IntKind.i64.wrap ((IntKind.i64.wrap ((IntKind.i64.wrap (vA7+1))+x19.Body))+x19.Else))
def Ze (rf:(List api_Stmt)→(List Int)→Int→Option (List Int)) (N:Nat) (p1:(List api_Stmt)) (y14:Int):Nat→(List Int)→Int→Option (List Int)
 | 0,_,_=>none
 | n+1,vA1,vA7=>
  if ((decide (vA7 < (p1.length:Int))) && (decide ((vA1.length:Int) < y14)))=true then
   (getI p1 vA7).bind fun x19=>
   (subI p1 (IntKind.i64.wrap (vA7+1)) (IntKind.i64.wrap ((IntKind.i64.wrap (vA7+1))+x19.Body))).bind fun l33=>
   (subI p1 (IntKind.i64.wrap ((IntKind.i64.wrap (vA7+1))+x19.Body)) (IntKind.i64.wrap ((IntKind.i64.wrap ((IntKind.i64.wrap (vA7+1))+x19.Body))+x19.Else))).bind fun l41=>
   if x19.Kind=11 then
    (Zh N l41).bind fun r50=>
    (Zh N l33).bind fun r52=>
    (Zc rf N (Zb (Ze rf N p1 y14 n) x19 vA7) y14 x19 l33 l41 vA1) (decide (r52 < r50))
   else
    (Zc rf N (Zb (Ze rf N p1 y14 n) x19 vA7) y14 x19 l33 l41 vA1) false
  else
   some vA1
def Za:Nat→(List api_Stmt)→(List Int)→Int→Option (List Int)
 | 0,_,_,_=>none
 | N+1,p1,p6,y14=>
  (Ze (Za N) N p1 y14) N p6 0
def Z9 (N:Nat) (p1:(List api_Stmt)) (p6:Int):Option (List Int):=
 (Z8t N p1).bind fun rz8=>
 if rz8=true then
  (Za N p1 [] p6).bind fun r20=>
  some r20
 else
  some []
def Z5 (N:Nat) (kZ2:Int→Option Int) (p1:api_Prog):Nat→Int→Int→Option Int
 | 0,_,_=>none
 | n+1,vB1,vB2=>
  if vB2 < (p1.Threads.length:Int) then
   (getI p1.Threads vB2).bind fun x34=>
   (Zh N x34.Body).bind fun r48=>
   (Z5 N kZ2 p1 n) (IntKind.i64.wrap (vB1+r48)) (IntKind.i64.wrap (vB2+1))
  else
   kZ2 vB1
def Z7 (N:Nat) (kZ4:Int→Option Int) (p1:api_Prog):Nat→Int→Int→Option Int
 | 0,_,_=>none
 | n+1,vD1,vD2=>
  if vD2 < (p1.Recover.length:Int) then
   (getI p1.Recover vD2).bind fun x52=>
   (Zh N x52.Body).bind fun r66=>
   (Z7 N kZ4 p1 n) (IntKind.i64.wrap (vD1+r66)) (IntKind.i64.wrap (vD2+1))
  else
   kZ4 vD1
def Z4 (kZ6:Int→Int→Option Int) (vB4:Int) (vC1:Int):Option Int:=
 kZ6 vC1 (IntKind.i64.wrap (vB4+1))
def Z6 (N:Nat) (kZ3:Int→Option Int) (p1:api_Prog) (p4:Int):Nat→Int→Int→Option Int
 | 0,_,_=>none
 | n+1,vB3,vB4=>
  if vB4 < p4 then
   (Z7 N (Z4 (Z6 N kZ3 p1 p4 n) vB4) p1) N (IntKind.i64.wrap (vB3+1)) 0
  else
   kZ3 vB3
def Z3 (vA2:Int):Option Int:=
 some vA2
def Z2 (N:Nat) (p1:api_Prog) (p4:Int) (vA1:Int):Option Int:=
 (Z6 N Z3 p1 p4) N vA1 0
def Z1 (N:Nat) (p1:api_Prog) (p4:Int):Option Int:=
 (Z5b N p1).bind fun r30=>
 if (((decide (r30.1≠0)) || (decide (p4 < 0))) || (decide (8 < p4)))=true then
  some (-1)
 else
  (Z5 N (Z2 N p1 p4) p1) N 1 0
def Z1a (N:Nat)  : Option Bool:=
 (Z4v N [108,105,110,101,32,97,59,32,116,104,114,101,97,100,32,116,32,123,32,114,101,103,32,114,59,32,108,111,111,112,32,51,32,123,32,115,116,111,114,101,32,97,32,61,32,49,59,32,98,114,101,97,107,59,32,125,32,105,102,32,114,32,123,32,108,111,97,100,32,114,32,61,32,97,59,32,125,32,101,108,115,101,32,123,32,109,102,101,110,99,101,59,32,102,108,117,115,104,32,97,59,32,125,32,125,32,114,101,99,111,118,101,114,32,123,32,114,101,103,32,114,59,32,108,111,97,100,32,114,32,61,32,97,59,32,125]).bind fun rz1=>
 (sure (!(decide ((rz1.1.Threads.length:Int)≠1)))).bind fun _=>
 (getI rz1.1.Threads 0).bind fun x35=>
 (Z9 N x35.Body 9).bind fun r48=>
 (Z8 N x35.Body).bind fun r55=>
 (sure (decide (r55=9))).bind fun _=>
 (Z1 N rz1.1 0).bind fun r58=>
 (sure (decide (r58=10))).bind fun _=>
 (Z1 N rz1.1 2).bind fun r61=>
 (sure (decide (r61=14))).bind fun _=>
 (Z1 N rz1.1 9).bind fun r64=>
 (sure (decide (r64=(-1)))).bind fun _=>
 (Z1 N (api_Prog.mk [] [] [] [] [] []) 0).bind fun r67=>
 (sure (decide (r67=(-1)))).bind fun _=>
 (Z58 N r48 ([3,3,3,8,5]:List Int)).bind fun r73=>
 (sure r73).bind fun _=>
 (Z0 N 3).bind fun r76=>
 (sure (decide (r76=2))).bind fun _=>
 (Z0 N 2).bind fun r79=>
 (sure (decide (r79=1))).bind fun _=>
 (Z0 N 14).bind fun r82=>
 (sure (decide (r82=0))).bind fun _=>
 (Z0 N (-1)).bind fun r85=>
 (sure (decide (r85=0))).bind fun _=>
 (subI x35.Body 1 2).bind fun l88=>
 (Z8 N l88).bind fun r96=>
 (sure (decide (r96=2))).bind fun _=>
 (subI x35.Body 2 3).bind fun l99=>
 (Z8 N l99).bind fun r107=>
 (sure (decide (r107=(-1)))).bind fun _=>
 (Z9 N x35.Body 0).bind fun r110=>
 some (decide ((r110.length:Int)=0))
def Z19 (N:Nat) (kZ18:Int→Option Bool) (r35:(List Int)):Nat→Int→Int→Option Bool
 | 0,_,_=>none
 | n+1,vB1,vB2=>
  if vB2 < (r35.length:Int) then
   (getI r35 vB2).bind fun x43=>
   (Z0 N x43).bind fun r49=>
   (sure (!((decide (r49 < 1)) || (decide (2 < r49))))).bind fun _=>
   (Z19 N kZ18 r35 n) (IntKind.i64.wrap (vB1+r49)) (IntKind.i64.wrap (vB2+1))
  else
   kZ18 vB1
def Z18 (N:Nat) (r16:Int) (vA1:Int):Option Bool:=
 if vA1=r16 then
  (Z1a N).bind fun r53=>
  some r53
 else
  some false
def Z17 (N:Nat) (p1:(List api_Stmt)):Option Bool:=
 (Z14 N p1).bind fun rz6=>
 (Z8 N rz6).bind fun r16=>
 if ((decide (r16 < 0)) || (decide (300 < r16)))=true then
  if 300 < r16 then
   (Z1a N).bind fun r20=>
   some r20
  else
   (Z3y N rz6).bind fun r22=>
   if r22=true then
    some false
   else
    (Z9 N rz6 9).bind fun r25=>
    if (r25.length:Int)=0 then
     (Z1a N).bind fun r33=>
     some r33
    else
     some false
 else
  (Z9 N rz6 1000).bind fun r35=>
  (Z19 N (Z18 N r16) r35) N 0 0
end Go.MD.LB
