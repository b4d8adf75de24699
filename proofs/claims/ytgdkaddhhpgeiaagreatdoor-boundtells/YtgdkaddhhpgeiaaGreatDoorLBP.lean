/- Plain functions, lifted by program from the seat lb. No condition: definitions. -/
import Derived.Test.YtgdkaddhhpgeiaaGreatDoorMD
import Derived.Lib.IndexMore
namespace Go.MD.LB
open Go Go.MD
def Rf (s p:Str):Option (List Str):=
 if s=[108,105,110,101,32,118,111,108,32,108,111,99,107,32,116,104,114,101,97,100,32,114,101,103,32,108,111,97,100,32,115,116,111,114,101,32,99,97,115,32,102,108,117,115,104,32,111,112,116,32,115,102,101,110,99,101,32,109,102,101,110,99,101,32,116,97,107,101,32,103,105,118,101,32,105,102,32,101,108,115,101,32,108,111,111,112,32,98,114,101,97,107,32,99,104,101,99,107,32,114,101,99,111,118,101,114,32,97,108,119,97,121,115]∧p=[32] then some [[108,105,110,101],[118,111,108],[108,111,99,107],[116,104,114,101,97,100],[114,101,103],[108,111,97,100],[115,116,111,114,101],[99,97,115],[102,108,117,115,104],[111,112,116],[115,102,101,110,99,101],[109,102,101,110,99,101],[116,97,107,101],[103,105,118,101],[105,102],[101,108,115,101],[108,111,111,112],[98,114,101,97,107],[99,104,101,99,107],[114,101,99,111,118,101,114],[97,108,119,97,121,115]] else
 none
def Zl (s p:Str):Option Bool:=if s.length < 4294967281 then some (Lib.contains s p) else none
structure api_Cell where
 Name:Str
 N:Int
 At:Int
 deriving DecidableEq
structure api_Node where
 Op:Int
 N:Int
 Name:Str
 At:Int
 deriving DecidableEq
structure api_Stmt where
 Kind:Int
 Reg:Str
 Name:Str
 E:(List api_Node)
 F:(List api_Node)
 N:Int
 Body:Int
 Else:Int
 At:Int
 deriving DecidableEq
structure api_Thread where
 Name:Str
 Regs:(List Str)
 Body:(List api_Stmt)
 At:Int
 deriving DecidableEq
structure api_Claim where
 E:(List api_Node)
 At:Int
 deriving DecidableEq
structure api_Prog where
 Lines:(List (List api_Cell))
 Vols:(List api_Cell)
 Locks:(List api_Cell)
 Threads:(List api_Thread)
 Recover:(List api_Thread)
 Claims:(List api_Claim)
 deriving DecidableEq
structure legal_use where
 name:Str
 at':Int
 may:(List Int)
 deriving DecidableEq
structure api_Token where
 Kind:Int
 Text:Str
 N:Int
 At:Int
 deriving DecidableEq
structure leadlineref05_In where
 L:(List api_Token)
 At:Int
 E:Int
 Pos:Int
 deriving DecidableEq
structure leadlineref04_P where
 L:(List api_Token)
 At:Int
 E:Int
 Pos:Int
 Out:(List api_Stmt)
 deriving DecidableEq
structure leadlineref03_Read where
 L:(List api_Node)
 To:Int
 E:Int
 At:Int
 deriving DecidableEq
structure leadlinelaw07_Walk where
 How:(List Bool)
 At:Int
 Cost:Int
 Left:Bool
 deriving DecidableEq
def Z1f (N:Nat) (kZ1e:(List api_Cell)→Option (List api_Cell)) (p1:(List api_Cell)):Nat→(List api_Cell)→Int→Option (List api_Cell)
 | 0,_,_=>none
 | n+1,vB1,vB7=>
  if ((decide (vB7 < (p1.length:Int))) && (decide (vB7 < 8)))=true then
   (getI p1 vB7).bind fun x10=>
   (Ci x10.Name 0 (min (x10.Name.length:Int) 40)).bind fun s16=>
   (Cx 32 vB1 ([(api_Cell.mk s16 x10.N x10.At)]:List api_Cell)).bind fun l21=>
   (Z1f N kZ1e p1 n) l21 (IntKind.i64.wrap (vB7+1))
  else
   kZ1e vB1
def Z1e (vA1:(List api_Cell)):Option (List api_Cell):=
 some vA1
def Z1d (N:Nat) (p1:(List api_Cell)):Option (List api_Cell):=
 (Z1f N Z1e p1) N [] 0
def Z13 (N:Nat) (kZ12:(List api_Node)→Option (List api_Node)) (p1:(List api_Node)):Nat→(List api_Node)→Int→Option (List api_Node)
 | 0,_,_=>none
 | n+1,vB1,vB7=>
  if ((decide (vB7 < (p1.length:Int))) && (decide (vB7 < 60)))=true then
   (getI p1 vB7).bind fun x10=>
   (Ci x10.Name 0 (min (x10.Name.length:Int) 40)).bind fun s16=>
   (Cx 40 vB1 ([(api_Node.mk x10.Op x10.N s16 x10.At)]:List api_Node)).bind fun l21=>
   (Z13 N kZ12 p1 n) l21 (IntKind.i64.wrap (vB7+1))
  else
   kZ12 vB1
def Z12 (vA1:(List api_Node)):Option (List api_Node):=
 some vA1
def Z11 (N:Nat) (p1:(List api_Node)):Option (List api_Node):=
 (Z13 N Z12 p1) N [] 0
def Z16 (N:Nat) (kZ15:(List api_Stmt)→Option (List api_Stmt)) (p1:(List api_Stmt)):Nat→(List api_Stmt)→Int→Option (List api_Stmt)
 | 0,_,_=>none
 | n+1,vB2,vB8=>
  if ((decide (vB8 < (p1.length:Int))) && (decide (vB8 < 50)))=true then
   (getI p1 vB8).bind fun x10=>
   (Ci x10.Reg 0 (min (x10.Reg.length:Int) 40)).bind fun s24=>
   (Ci x10.Name 0 (min (x10.Name.length:Int) 40)).bind fun s26=>
   (Z11 N x10.E).bind fun r28=>
   (Z11 N x10.F).bind fun r35=>
   (Cx 120 vB2 ([(api_Stmt.mk x10.Kind s24 s26 r28 r35 x10.N x10.Body x10.Else x10.At)]:List api_Stmt)).bind fun l53=>
   (Z16 N kZ15 p1 n) l53 (IntKind.i64.wrap (vB8+1))
  else
   kZ15 vB2
def Z15 (vA2:(List api_Stmt)):Option (List api_Stmt):=
 some vA2
def Z14 (N:Nat) (p1:(List api_Stmt)):Option (List api_Stmt):=
 (Z16 N Z15 p1) N [] 0
def Z1m (N:Nat) (kZ1k:(List Str)→Option (List api_Thread)) (p1:(List api_Thread)) (vB8:Int):Nat→(List Str)→Int→Option (List api_Thread)
 | 0,_,_=>none
 | n+1,vE1,vE7=>
  (getI p1 vB8).bind fun x36=>
  if ((decide (vE7 < (x36.Regs.length:Int))) && (decide (vE7 < 6)))=true then
   (getI x36.Regs vE7).bind fun x50=>
   (Ci x50 0 (min (x50.length:Int) 40)).bind fun s55=>
   (Cx 16 vE1 ([s55]:List Str)).bind fun l60=>
   (Z1m N kZ1k p1 vB8 n) l60 (IntKind.i64.wrap (vE7+1))
  else
   kZ1k vE1
def Z1k (kZ1i:(List api_Thread)→Option (List api_Thread)) (vD3:Str) (vD4:(List api_Stmt)) (vD9:Int) (vB2:(List api_Thread)) (vD10:(List Str)):Option (List api_Thread):=
 (Cx 72 vB2 ([(api_Thread.mk vD3 vD10 vD4 vD9)]:List api_Thread)).bind fun l73=>
 kZ1i l73
def Z1j (N:Nat) (kZ1i:(List api_Thread)→Option (List api_Thread)) (p1:(List api_Thread)) (vB2:(List api_Thread)) (vB8:Int) (vD3:Str) (vD4:(List api_Stmt)) (vD9:Int):Option (List api_Thread):=
 (Z1m N (Z1k kZ1i vD3 vD4 vD9 vB2) p1 vB8) N [] 0
def Z1i (kZ1l:(List api_Thread)→Int→Option (List api_Thread)) (vB8:Int) (vC2:(List api_Thread)):Option (List api_Thread):=
 kZ1l vC2 (IntKind.i64.wrap (vB8+1))
def Z1l (N:Nat) (kZ1h:(List api_Thread)→Option (List api_Thread)) (p1:(List api_Thread)):Nat→(List api_Thread)→Int→Option (List api_Thread)
 | 0,_,_=>none
 | n+1,vB2,vB8=>
  if ((decide (vB8 < (p1.length:Int))) && (decide (vB8 < 4)))=true then
   (getI p1 vB8).bind fun x10=>
   (Ci x10.Name 0 (min (x10.Name.length:Int) 40)).bind fun s23=>
   (Z14 N x10.Body).bind fun r25=>
   (Z1j N (Z1i (Z1l N kZ1h p1 n) vB8) p1 vB2 vB8) s23 r25 x10.At
  else
   kZ1h vB2
def Z1h (vA2:(List api_Thread)):Option (List api_Thread):=
 some vA2
def Z1g (N:Nat) (p1:(List api_Thread)):Option (List api_Thread):=
 (Z1l N Z1h p1) N [] 0
def Z1b (N:Nat) (kZ19:(List (List api_Cell))→Option api_Prog) (p1:api_Prog):Nat→(List (List api_Cell))→Int→Option api_Prog
 | 0,_,_=>none
 | n+1,vB2,vB8=>
  if ((decide (vB8 < (p1.Lines.length:Int))) && (decide (vB8 < 6)))=true then
   (getI p1.Lines vB8).bind fun x66=>
   (Z1d N x66).bind fun r75=>
   (Cx 24 vB2 ([r75]:List (List api_Cell))).bind fun l89=>
   (Z1b N kZ19 p1 n) l89 (IntKind.i64.wrap (vB8+1))
  else
   kZ19 vB2
def Z1c (N:Nat) (kZ1a:(List api_Claim)→Option api_Prog) (p1:api_Prog):Nat→(List api_Claim)→Int→Option api_Prog
 | 0,_,_=>none
 | n+1,vB10,vB16=>
  if ((decide (vB16 < (p1.Claims.length:Int))) && (decide (vB16 < 6)))=true then
   (getI p1.Claims vB16).bind fun x96=>
   (Z11 N x96.E).bind fun r105=>
   (Cx 32 vB10 ([(api_Claim.mk r105 x96.At)]:List api_Claim)).bind fun l119=>
   (Z1c N kZ1a p1 n) l119 (IntKind.i64.wrap (vB16+1))
  else
   kZ1a vB10
def Z1a (vA3:(List api_Cell)) (vA9:(List api_Cell)) (vA15:(List api_Thread)) (vA20:(List api_Thread)) (vA26:(List (List api_Cell))) (vA33:(List api_Claim)):Option api_Prog:=
 some (api_Prog.mk vA26 vA3 vA9 vA15 vA20 vA33)
def Z19 (N:Nat) (p1:api_Prog) (vA3:(List api_Cell)) (vA9:(List api_Cell)) (vA15:(List api_Thread)) (vA20:(List api_Thread)) (vA26:(List (List api_Cell))):Option api_Prog:=
 (Z1c N (Z1a vA3 vA9 vA15 vA20 vA26) p1) N [] 0
def Z18 (N:Nat) (p1:api_Prog) (vA3:(List api_Cell)) (vA9:(List api_Cell)) (vA15:(List api_Thread)) (vA20:(List api_Thread)):Option api_Prog:=
 (Z1b N (Z19 N p1 vA3 vA9 vA15 vA20) p1) N [] 0
def Z17 (N:Nat) (p1:api_Prog):Option api_Prog:=
 (Z1d N p1.Vols).bind fun r30=>
 (Z1d N p1.Locks).bind fun r37=>
 (Z1g N p1.Threads).bind fun r44=>
 (Z1g N p1.Recover).bind fun r54=>
 (Z18 N p1) r30 r37 r44 r54
def Z8g (_:Nat) (p1:api_Prog):Option api_Prog:=
 some p1
def Z8l {τ:Type} (N:Nat) (kZ8j:τ→Option τ) (y:τ→(api_Cell×Int)→Option (τ×Bool)) (x31:(List api_Cell)) (vB2:Int):Nat→Int→τ→Option τ
 | 0,_,_=>none
 | n+1,vD2,vD3=>
  if vD2 < (x31.length:Int) then
   (getI x31 vD2).bind fun x41=>
   (y vD3 (x41,vB2)).bind fun r47=>
   if r47.2=true then
    (Z8l N kZ8j y x31 vB2 n) (IntKind.i64.wrap (vD2+1)) r47.1
   else
    some r47.1
  else
   kZ8j vD3
def Z8j {τ:Type} (kZ8k:Int→τ→Option τ) (vB2:Int) (vC2:τ):Option τ:=
 kZ8k (IntKind.i64.wrap (vB2+1)) vC2
def Z8k {τ:Type} (N:Nat) (kZ8i:τ→Option τ) (y:τ→(api_Cell×Int)→Option (τ×Bool)) (y2:api_Prog):Nat→Int→τ→Option τ
 | 0,_,_=>none
 | n+1,vB2,vB3=>
  if vB2 < (y2.Lines.length:Int) then
   (getI y2.Lines vB2).bind fun x31=>
   (Z8l N (Z8j (Z8k N kZ8i y y2 n) vB2) y x31 vB2) N 0 vB3
  else
   kZ8i vB3
def Z8m {τ:Type} (N:Nat) (y:τ→(api_Cell×Int)→Option (τ×Bool)) (y2:api_Prog):Nat→Int→τ→Option τ
 | 0,_,_=>none
 | n+1,vA6,vA7=>
  if vA6 < (y2.Vols.length:Int) then
   (getI y2.Vols vA6).bind fun x55=>
   (y vA7 (x55,(IntKind.i64.wrap ((y2.Lines.length:Int)+vA6)))).bind fun r61=>
   if r61.2=true then
    (Z8m N y y2 n) (IntKind.i64.wrap (vA6+1)) r61.1
   else
    some r61.1
  else
   some vA7
def Z8i {τ:Type} (N:Nat) (y:τ→(api_Cell×Int)→Option (τ×Bool)) (y2:api_Prog) (vA2:τ):Option τ:=
 (Z8m N y y2) N 0 vA2
def Z8h {τ:Type} (N:Nat) (y:τ→(api_Cell×Int)→Option (τ×Bool)) (s0:τ) (y2:api_Prog):Option τ:=
 (Z8k N (Z8i N y y2) y y2) N 0 s0
def Z8s (p1:Str) (p2:Int) (p4:(List (Str×Int))) (vA1:Bool) (vA2:Int):Option ((List (Str×Int))×Bool×Int):=
 some ((Is p1 p2 p4),vA1,vA2)
def Z8r (_:Nat) (p1:Str) (p2:Int) (p3:Int) (p4:(List (Str×Int))) (p10:Bool) (p12:Int):Option ((List (Str×Int))×Bool×Int):=
 if ((decide (((Bf p1 p4).getD 0)≠0)) && (!p10))=true then
  (Z8s p1 p2 p4) true p3
 else
  (Z8s p1 p2 p4) p10 p12
def Z8u (N:Nat) (xe129:(api_Cell×Int)) (vA3:(List (Str×Int))) (vA7:Int) (vA8:Bool) (vB1:Int):Option (((List (Str×Int))×Int×Bool) ⊕ Empty):=
 (Z8r N xe129.1.Name vB1 xe129.1.At vA3 vA8 vA7).bind fun r134=>
 some (.inl (r134.1,r134.2.2,r134.2.1))
def Z8t (N:Nat) (p1:api_Prog) (vA3:(List (Str×Int))) (vA7:Int) (vA8:Bool) (xe129:(api_Cell×Int)):Option (((List (Str×Int))×Int×Bool) ⊕ Empty):=
 if (p1.Lines.length:Int)≤xe129.2 then
  (Z8u N xe129 vA3 vA7 vA8) 2
 else
  (Z8u N xe129 vA3 vA7 vA8) 1
def Z8x (N:Nat) (kZ8v:(List (Str×Int))→Int→Bool→Option ((List (Str×Int))×Int×Bool)) (p1:api_Prog):Nat→(List (Str×Int))→Int→Bool→Int→Option ((List (Str×Int))×Int×Bool)
 | 0,_,_,_,_=>none
 | n+1,vB3,vB7,vB8,vB9=>
  if vB9 < (p1.Locks.length:Int) then
   (getI p1.Locks vB9).bind fun x143=>
   (Z8r N x143.Name 3 x143.At vB3 vB8 vB7).bind fun r149=>
   (Z8x N kZ8v p1 n) r149.1 r149.2.2 r149.2.1 (IntKind.i64.wrap (vB9+1))
  else
   kZ8v vB3 vB7 vB8
def Z8y (N:Nat) (kZ8w:(List (Str×Int))→Int→Bool→Option ((List (Str×Int))×Int×Bool)) (p1:api_Prog):Nat→(List (Str×Int))→Int→Bool→Int→Option ((List (Str×Int))×Int×Bool)
 | 0,_,_,_,_=>none
 | n+1,vB11,vB15,vB16,vB17=>
  if vB17 < (p1.Threads.length:Int) then
   (getI p1.Threads vB17).bind fun x156=>
   (Z8r N x156.Name 4 x156.At vB11 vB16 vB15).bind fun r170=>
   (Z8y N kZ8w p1 n) r170.1 r170.2.2 r170.2.1 (IntKind.i64.wrap (vB17+1))
  else
   kZ8w vB11 vB15 vB16
def Z8w (vA17:(List (Str×Int))) (vA21:Int) (vA22:Bool):Option ((List (Str×Int))×Int×Bool):=
 some (vA17,vA21,vA22)
def Z8v (N:Nat) (p1:api_Prog) (vA10:(List (Str×Int))) (vA14:Int) (vA15:Bool):Option ((List (Str×Int))×Int×Bool):=
 (Z8y N Z8w p1) N vA10 vA14 vA15 0
def Z8q (N:Nat) (p1:api_Prog):Option ((List (Str×Int))×Int×Bool):=
 (Z8g N p1).bind fun r35=>
 (Z8h N (yy (fun (s:((List (Str×Int))×Int×Bool)) (x:(api_Cell×Int))=>(Z8t N p1) s.1 s.2.1 s.2.2 x)) (.inl ([],0,false)) r35).bind fun q69=>
 match q69 with
  | .inl (vA3,vA7,vA8)=>
   (Z8x N (Z8v N p1) p1) N vA3 vA7 vA8 0
  | .inr t=>nomatch t
def Za3 (_:Nat) (p1:Int):Option Bool:=
 some (((decide (97≤p1)) && (decide (p1≤122))) || (decide (p1=95)))
def Za2 (N:Nat) (kZa1:(List (Str×Bool))→Option (List (Str×Bool))) (rz3:(List Str)):Nat→(List (Str×Bool))→Int→Option (List (Str×Bool))
 | 0,_,_=>none
 | n+1,vB1,vB5=>
  if vB5 < (rz3.length:Int) then
   (getI rz3 vB5).bind fun x11=>
   (Za2 N kZa1 rz3 n) (Is x11 true vB1) (IntKind.i64.wrap (vB5+1))
  else
   kZa1 vB1
def Za1 (vA1:(List (Str×Bool))):Option (List (Str×Bool)):=
 some vA1
def Za0 (N:Nat)  : Option (List (Str×Bool)):=
 (Rf [108,105,110,101,32,118,111,108,32,108,111,99,107,32,116,104,114,101,97,100,32,114,101,103,32,108,111,97,100,32,115,116,111,114,101,32,99,97,115,32,102,108,117,115,104,32,111,112,116,32,115,102,101,110,99,101,32,109,102,101,110,99,101,32,116,97,107,101,32,103,105,118,101,32,105,102,32,101,108,115,101,32,108,111,111,112,32,98,114,101,97,107,32,99,104,101,99,107,32,114,101,99,111,118,101,114,32,97,108,119,97,121,115] [32]).bind fun rz3=>
 (Za2 N Za1 rz3) N [] 0
def Z9v (N:Nat) (p1:Str):Option Bool:=
 (Za0 N).bind fun rz2=>
 some ((Bf p1 rz2).getD false)
def Z9z (_:Nat) (p1:Int):Option Bool:=
 some ((decide (48≤p1)) && (decide (p1≤57)))
def Z9x (N:Nat) (p1:Int):Option Bool:=
 (Za3 N p1).bind fun rz2=>
 if rz2=true then
  some true
 else
  (Z9z N p1).bind fun rz5=>
  some rz5
def Za6 (kZa5:Int→Option Int) (kZa7:Int→Option Int) (vB1:Int) (vC1:Bool):Option Int:=
 if vC1=true then
  kZa7 (IntKind.i64.wrap (vB1+1))
 else
  kZa5 vB1
def Za7 (N:Nat) (kZa5:Int→Option Int) (p1:Str):Nat→Int→Option Int
 | 0,_=>none
 | n+1,vB1=>
  if vB1 < (p1.length:Int) then
   (Dm p1 vB1).bind fun xz3=>
   (Z9x N xz3).bind fun rz5=>
   (Za6 kZa5 (Za7 N kZa5 p1 n) vB1) rz5
  else
   (Za6 kZa5 (Za7 N kZa5 p1 n) vB1) false
def Za5 (vA1:Int):Option Int:=
 some vA1
def Za4 (N:Nat) (p1:Str):Option Int:=
 (Za7 N Za5 p1) N 0
def Z9y (N:Nat) (p1:Str) (vA1:Bool):Option Bool:=
 if vA1=true then
  some false
 else
  (Za4 N p1).bind fun r11=>
  some (decide (r11=(p1.length:Int)))
def Z9w (N:Nat) (p1:Str):Option Bool:=
 if ((decide (p1=[])) || (decide (16 < (p1.length:Int))))=true then
  (Z9y N p1) true
 else
  (Dm p1 0).bind fun xz3=>
  (Za3 N xz3).bind fun rz5=>
  if rz5=true then
   (Z9v N p1).bind fun rz8=>
   (Z9y N p1) rz8
  else
   (Z9y N p1) true
def Z9s (_:Nat) (p1:Int):Option Bool:=
 some ((decide (0≤p1)) && (decide (p1≤4000)))
def Z9r (N:Nat) (p1:api_Cell) (y3:Int):Option Bool:=
 (Z9w N p1.Name).bind fun rz6=>
 if (((!rz6) || (decide (p1.N < 0))) || (decide (y3 < p1.N)))=true then
  some true
 else
  (Z9s N p1.At).bind fun rz9=>
  some (!rz9)
def Zaw (N:Nat) (kZav:Option Int) (p1:(List api_Cell)) (y7:Int):Nat→Int→Option Int
 | 0,_=>none
 | n+1,vB1=>
  if vB1 < (p1.length:Int) then
   (getI p1 vB1).bind fun x10=>
   (Z9r N x10 y7).bind fun r15=>
   if r15=true then
    some vB1
   else
    (Zaw N kZav p1 y7 n) (IntKind.i64.wrap (vB1+1))
  else
   kZav
def Zav  : Option Int:=
 some (-1)
def Zau (N:Nat) (p1:(List api_Cell)) (y7:Int):Option Int:=
 (Zaw N Zav p1 y7) N 0
def Zaf (N:Nat) (p1:(List api_Cell)) (y7:Int):Option Bool:=
 (Zau N p1 y7).bind fun rz9=>
 some (decide (0≤rz9))
def Z9q (N:Nat) (p1:(List api_Cell)) (p6:Int):Option Bool:=
 (Zaf N p1 p6).bind fun rz8=>
 some (!rz8)
def Z9l (N:Nat) (p1:(List api_Cell)):Option Bool:=
 if (p1.length:Int)=0 then
  some true
 else
  (Z9q N p1 4294967296).bind fun rz7=>
  some (!rz7)
def Zaq (N:Nat) (kZap:Option Int) (p1:(List (List api_Cell))):Nat→Int→Option Int
 | 0,_=>none
 | n+1,vB1=>
  if vB1 < (p1.length:Int) then
   (getI p1 vB1).bind fun xz7=>
   (Z9l N xz7).bind fun r16=>
   if r16=true then
    some vB1
   else
    (Zaq N kZap p1 n) (IntKind.i64.wrap (vB1+1))
  else
   kZap
def Zap  : Option Int:=
 some (-1)
def Zao (N:Nat) (p1:(List (List api_Cell))):Option Int:=
 (Zaq N Zap p1) N 0
def Zad (N:Nat) (p1:(List (List api_Cell))):Option Bool:=
 (Zao N p1).bind fun rz6=>
 some (decide (0≤rz6))
def Z9u (N:Nat) (p1:Str):Option Bool:=
 (Z9w N p1).bind fun rz2=>
 some (!rz2)
def Zbh (N:Nat) (kZbg:Option Int) (p1:(List Str)):Nat→Int→Option Int
 | 0,_=>none
 | n+1,vB1=>
  if vB1 < (p1.length:Int) then
   (getI p1 vB1).bind fun xz7=>
   (Z9u N xz7).bind fun r12=>
   if r12=true then
    some vB1
   else
    (Zbh N kZbg p1 n) (IntKind.i64.wrap (vB1+1))
  else
   kZbg
def Zbg  : Option Int:=
 some (-1)
def Zbf (N:Nat) (p1:(List Str)):Option Int:=
 (Zbh N Zbg p1) N 0
def Zam (N:Nat) (p1:(List Str)):Option Bool:=
 (Zbf N p1).bind fun rz6=>
 some (decide (0≤rz6))
def Zbt (_:Nat)  : Option (Arr 15 Str):=
 some (⟨[[],[114,101],[114,110],[110,101],[114,110,101,102],[110],[110],[],[],[110],[110],[101,98],[107,98],[],[101]],rfl⟩:(Arr 15 Str))
def Zbl (N:Nat) (p1:Int):Option Str:=
 if ((decide (p1 < 0)) || (decide (15≤p1)))=true then
  some []
 else
  (Zbt N).bind fun rz3=>
  (getI rz3.l p1).bind fun x12=>
  some x12
def Zbv (_:Nat) (p1:Str) (y3:Str):Option Bool:=
 (Zl y3 p1).bind fun rz5=>
 some rz5
def Zbw (N:Nat) (p1:Bool) (p2:Str):Option Bool:=
 if p1=true then
  (Z9w N p2).bind fun rz4=>
  some (rz4 || ((!p1) && (decide (p2=[]))))
 else
  some ((!p1) && (decide (p2=[])))
def Zx (N:Nat) (p1:api_Node):Option Bool:=
 if ((decide (p1.At < 0)) || (decide (4000 < p1.At)))=true then
  some false
 else
  if p1.Op=1 then
   some (((decide (0≤p1.N)) && (decide (p1.N≤4294967296))) && (decide (p1.Name=[])))
  else
   if p1.Op=2 then
    if p1.N=0 then
     (Z9w N p1.Name).bind fun rz7=>
     some rz7
    else
     some false
   else
    some ((decide (p1.N=0)) && (decide (p1.Name=[])))
def Zr (N:Nat) (p1:api_Node):Option Bool:=
 (Zx N p1).bind fun rz3=>
 some (!rz3)
def Zb2 (N:Nat) (kZb1:Option Int) (p1:(List api_Node)):Nat→Int→Option Int
 | 0,_=>none
 | n+1,vB1=>
  if vB1 < (p1.length:Int) then
   (getI p1 vB1).bind fun xz7=>
   (Zr N xz7).bind fun r12=>
   if r12=true then
    some vB1
   else
    (Zb2 N kZb1 p1 n) (IntKind.i64.wrap (vB1+1))
  else
   kZb1
def Zb1  : Option Int:=
 some (-1)
def Zb0 (N:Nat) (p1:(List api_Node)):Option Int:=
 (Zb2 N Zb1 p1) N 0
def Zah (N:Nat) (p1:(List api_Node)):Option Bool:=
 (Zb0 N p1).bind fun rz6=>
 some (decide (0≤rz6))
def Zw (_:Nat) (p1:Int):Option Int:=
 if ((decide (p1=1)) || (decide (p1=2)))=true then
  some 0
 else
  if ((decide (p1=3)) || (decide (p1=4)))=true then
   some 1
  else
   if ((decide (5≤p1)) && (decide (p1≤15)))=true then
    some 2
   else
    some (-1)
def Zo (N:Nat) (kZp:Int→Int→Option Int) (p1:(List api_Node)) (vB1:Int) (vB2:Int) (vC1:Bool):Option Int:=
 if vC1=true then
  some (-1)
 else
  (getI p1 vB1).bind fun x17=>
  (Zw N x17.Op).bind fun r22=>
  kZp (IntKind.i64.wrap (vB1+1)) (IntKind.i64.wrap ((IntKind.i64.wrap (vB2+r22)) - 1))
def Zp (N:Nat) (kZn:Int→Option Int) (p1:(List api_Node)):Nat→Int→Int→Option Int
 | 0,_,_=>none
 | n+1,vB1,vB2=>
  if 0 < vB2 then
   if ((decide (vB1 < 0)) || (decide ((p1.length:Int)≤vB1)))=true then
    (Zo N (Zp N kZn p1 n) p1 vB1 vB2) true
   else
    (getI p1 vB1).bind fun xz9=>
    (Zw N xz9.Op).bind fun r14=>
    (Zo N (Zp N kZn p1 n) p1 vB1 vB2) (decide (r14=(-1)))
  else
   kZn vB1
def Zn (vA1:Int):Option Int:=
 some vA1
def Zm (N:Nat) (p1:(List api_Node)) (p6:Int):Option Int:=
 (Zp N Zn p1) N p6 1
def Z10 (N:Nat) (kZz:(List Int)→Option (List Int)) (p1:(List api_Node)) (r12:Int):Nat→(List Int)→Int→Int→Option (List Int)
 | 0,_,_,_=>none
 | n+1,vB1,vB7,vB8=>
  if vB8 < r12 then
   (Cx 8 vB1 ([vB7]:List Int)).bind fun l18=>
   (Zm N p1 vB7).bind fun r24=>
   (Z10 N kZz p1 r12 n) l18 r24 (IntKind.i64.wrap (vB8+1))
  else
   kZz vB1
def Zz (vA1:(List Int)):Option (List Int):=
 some vA1
def Zy (N:Nat) (p1:(List api_Node)) (p6:Int):Option (List Int):=
 (getI p1 p6).bind fun xz7=>
 (Zw N xz7.Op).bind fun r12=>
 (Z10 N Zz p1 r12) N [] (IntKind.i64.wrap (p6+1)) 0
def Zv (rf:(List api_Node)→Int→Option Int) (N:Nat) (kZu:Int→Option Int) (p1:(List api_Node)) (rz7:(List Int)):Nat→Int→Int→Option Int
 | 0,_,_=>none
 | n+1,vB1,vB2=>
  if vB2 < (rz7.length:Int) then
   (getI rz7 vB2).bind fun x15=>
   (rf p1 x15).bind fun r21=>
   (Zv rf N kZu p1 rz7 n) (max vB1 r21) (IntKind.i64.wrap (vB2+1))
  else
   kZu vB1
def Zu (vA1:Int):Option Int:=
 some (IntKind.i64.wrap (vA1+1))
def Zt:Nat→(List api_Node)→Int→Option Int
 | 0,_,_=>none
 | N+1,p1,p6=>
  (Zy N p1 p6).bind fun rz7=>
  (Zv (Zt N) N Zu p1 rz7) N 0 0
def Zs (N:Nat) (p1:(List api_Node)) (vA1:Bool):Option Bool:=
 if vA1=true then
  some false
 else
  (Zt N p1 0).bind fun r13=>
  some (decide (r13≤12))
def Zq (N:Nat) (p1:(List api_Node)):Option Bool:=
 if ((decide ((p1.length:Int)=0)) || (decide (40 < (p1.length:Int))))=true then
  (Zs N p1) true
 else
  (Zah N p1).bind fun rz7=>
  if rz7=true then
   (Zs N p1) true
  else
   (Zm N p1 0).bind fun r10=>
   (Zs N p1) (decide (r10≠(p1.length:Int)))
def Zbx (N:Nat) (p1:Bool) (p2:(List api_Node)):Option Bool:=
 if p1=true then
  (Zq N p2).bind fun rz8=>
  some (rz8 || ((!p1) && (decide ((p2.length:Int)=0))))
 else
  some ((!p1) && (decide ((p2.length:Int)=0)))
def Zby (N:Nat) (p1:api_Stmt) (r13:Str) (vA1:Bool):Option Bool:=
 if (((((decide (1≤p1.Kind)) && (decide (p1.Kind < 15))) && (decide (0≤p1.At))) && (decide (p1.At≤4000))) && vA1)=true then
  (Zbv N [114] r13).bind fun r20=>
  (Zbw N r20 p1.Reg).bind fun r22=>
  if r22=true then
   (Zbv N [110] r13).bind fun r25=>
   (Zbw N r25 p1.Name).bind fun r27=>
   if r27=true then
    (Zbv N [101] r13).bind fun r30=>
    (Zbx N r30 p1.E).bind fun r32=>
    if r32=true then
     (Zbv N [102] r13).bind fun r35=>
     (Zbx N r35 p1.F).bind fun r37=>
     some (!r37)
    else
     some true
   else
    some true
  else
   some true
 else
  some true
def Zbu (N:Nat) (p1:api_Stmt):Option Bool:=
 (Zbl N p1.Kind).bind fun r13=>
 (Zbv N [107] r13).bind fun r16=>
 if r16=true then
  (Zby N p1 r13) ((decide (1≤p1.N)) && (decide (p1.N≤8)))
 else
  (Zby N p1 r13) (decide (p1.N=0))
def Zb5 (N:Nat) (kZb4:Option Int) (p1:(List api_Stmt)):Nat→Int→Option Int
 | 0,_=>none
 | n+1,vB1=>
  if vB1 < (p1.length:Int) then
   (getI p1 vB1).bind fun xz7=>
   (Zbu N xz7).bind fun r20=>
   if r20=true then
    some vB1
   else
    (Zb5 N kZb4 p1 n) (IntKind.i64.wrap (vB1+1))
  else
   kZb4
def Zb4  : Option Int:=
 some (-1)
def Zb3 (N:Nat) (p1:(List api_Stmt)):Option Int:=
 (Zb5 N Zb4 p1) N 0
def Zai (N:Nat) (p1:(List api_Stmt)):Option Bool:=
 (Zb3 N p1).bind fun rz6=>
 some (decide (0≤rz6))
def Zbz (_:Nat) (p1:Bool):Option Int:=
 if p1=true then
  some 1
 else
  some 0
def Zbr (kZbs:Int→Int→Option Int) (xz8:api_Stmt) (vB2:Int) (vC2:Int):Option Int:=
 kZbs vC2 (IntKind.i64.wrap ((IntKind.i64.wrap ((IntKind.i64.wrap (vB2+1))+xz8.Body))+xz8.Else))
def Zbq (rf:(List api_Stmt)→Int→Option Int) (N:Nat) (kZbs:Int→Int→Option Int) (p1:(List api_Stmt)) (p6:Int) (xz8:api_Stmt) (vB1:Int) (vB2:Int) (vC1:Bool):Option Int:=
 if vC1=true then
  some (-1)
 else
  if ((decide (xz8.Kind=11)) || (decide (xz8.Kind=12)))=true then
   (Zbz N (decide (xz8.Kind=12))).bind fun r27=>
   (Ci p1 (IntKind.i64.wrap (vB2+1)) (IntKind.i64.wrap ((IntKind.i64.wrap (vB2+1))+xz8.Body))).bind fun l29=>
   (rf l29 (IntKind.i64.wrap (p6+r27))).bind fun r37=>
   (Ci p1 (IntKind.i64.wrap ((IntKind.i64.wrap (vB2+1))+xz8.Body)) (IntKind.i64.wrap ((IntKind.i64.wrap ((IntKind.i64.wrap (vB2+1))+xz8.Body))+xz8.Else))).bind fun l39=>
   (rf l39 (IntKind.i64.wrap (p6+r27))).bind fun r47=>
   if ((decide (r37=(-1))) || (decide (r47=(-1))))=true then
    some (-1)
   else
    (Zbr kZbs xz8 vB2) (max (max vB1 (IntKind.i64.wrap (r37+1))) (IntKind.i64.wrap (r47+1)))
  else
   (Zbr kZbs xz8 vB2) vB1
def Zbs (rf:(List api_Stmt)→Int→Option Int) (N:Nat) (kZbp:Int→Option Int) (p1:(List api_Stmt)) (p6:Int):Nat→Int→Int→Option Int
 | 0,_,_=>none
 | n+1,vB1,vB2=>
  if vB2 < (p1.length:Int) then
   (getI p1 vB2).bind fun xz8=>
   if (((((decide (xz8.Body < 0)) || (decide (xz8.Else < 0))) || (decide ((p1.length:Int) < xz8.Body))) || (decide ((p1.length:Int) < xz8.Else))) || (decide ((p1.length:Int) < (IntKind.i64.wrap ((IntKind.i64.wrap ((IntKind.i64.wrap (vB2+1))+xz8.Body))+xz8.Else)))))=true then
    some (-1)
   else
    if ((!((decide (xz8.Kind=11)) || (decide (xz8.Kind=12)))) && (decide (0 < xz8.Body)))=true then
     (Zbq rf N (Zbs rf N kZbp p1 p6 n) p1 p6 xz8 vB1 vB2) ((!((decide (xz8.Kind=11)) || (decide (xz8.Kind=12)))) && (decide (0 < xz8.Body)))
    else
     if ((decide (xz8.Kind≠11)) && (decide (0 < xz8.Else)))=true then
      (Zbq rf N (Zbs rf N kZbp p1 p6 n) p1 p6 xz8 vB1 vB2) ((decide (xz8.Kind≠11)) && (decide (0 < xz8.Else)))
     else
      (Zbq rf N (Zbs rf N kZbp p1 p6 n) p1 p6 xz8 vB1 vB2) ((decide (xz8.Kind=13)) && (decide (p6=0)))
  else
   kZbp vB1
def Zbp (vA1:Int):Option Int:=
 some vA1
def Zbo:Nat→(List api_Stmt)→Int→Option Int
 | 0,_,_=>none
 | N+1,p1,p6=>
  (Zbs (Zbo N) N Zbp p1 p6) N 0 0
def Zbn (N:Nat) (p1:(List api_Stmt)) (vA1:Bool):Option Bool:=
 if vA1=true then
  some false
 else
  (Zbo N p1 0).bind fun r10=>
  some ((decide (r10≠(-1))) && (decide (r10≤12)))
def Zbm (N:Nat) (p1:(List api_Stmt)):Option Bool:=
 if 40 < (p1.length:Int) then
  (Zbn N p1) true
 else
  (Zai N p1).bind fun rz7=>
  (Zbn N p1) rz7
def Z9t (N:Nat) (p1:api_Thread):Option Bool:=
 (Z9s N p1.At).bind fun r13=>
 if r13=true then
  (Zam N p1.Regs).bind fun r16=>
  if r16=true then
   some false
  else
   (Zbm N p1.Body).bind fun r19=>
   some r19
 else
  some false
def Z9m (N:Nat) (p1:api_Thread):Option Bool:=
 (Z9w N p1.Name).bind fun r13=>
 if r13=true then
  (Z9t N p1).bind fun r16=>
  some (!r16)
 else
  some true
def Zb8 (N:Nat) (kZb7:Option Int) (p1:(List api_Thread)):Nat→Int→Option Int
 | 0,_=>none
 | n+1,vB1=>
  if vB1 < (p1.length:Int) then
   (getI p1 vB1).bind fun xz7=>
   (Z9m N xz7).bind fun r20=>
   if r20=true then
    some vB1
   else
    (Zb8 N kZb7 p1 n) (IntKind.i64.wrap (vB1+1))
  else
   kZb7
def Zb7  : Option Int:=
 some (-1)
def Zb6 (N:Nat) (p1:(List api_Thread)):Option Int:=
 (Zb8 N Zb7 p1) N 0
def Zaj (N:Nat) (p1:(List api_Thread)):Option Bool:=
 (Zb6 N p1).bind fun rz6=>
 some (decide (0≤rz6))
def Z9n (N:Nat) (p1:api_Thread):Option Bool:=
 if p1.Name≠[] then
  some true
 else
  (Z9t N p1).bind fun r14=>
  some (!r14)
def Zbb (N:Nat) (kZba:Option Int) (p1:(List api_Thread)):Nat→Int→Option Int
 | 0,_=>none
 | n+1,vB1=>
  if vB1 < (p1.length:Int) then
   (getI p1 vB1).bind fun xz7=>
   (Z9n N xz7).bind fun r20=>
   if r20=true then
    some vB1
   else
    (Zbb N kZba p1 n) (IntKind.i64.wrap (vB1+1))
  else
   kZba
def Zba  : Option Int:=
 some (-1)
def Zb9 (N:Nat) (p1:(List api_Thread)):Option Int:=
 (Zbb N Zba p1) N 0
def Zak (N:Nat) (p1:(List api_Thread)):Option Bool:=
 (Zb9 N p1).bind fun rz6=>
 some (decide (0≤rz6))
def Z9o (N:Nat) (p1:api_Claim):Option Bool:=
 (Z9s N p1.At).bind fun rz9=>
 if rz9=true then
  (Zq N p1.E).bind fun r12=>
  some (!r12)
 else
  some true
def Zaz (N:Nat) (kZay:Option Int) (p1:(List api_Claim)):Nat→Int→Option Int
 | 0,_=>none
 | n+1,vB1=>
  if vB1 < (p1.length:Int) then
   (getI p1 vB1).bind fun xz7=>
   (Z9o N xz7).bind fun r16=>
   if r16=true then
    some vB1
   else
    (Zaz N kZay p1 n) (IntKind.i64.wrap (vB1+1))
  else
   kZay
def Zay  : Option Int:=
 some (-1)
def Zax (N:Nat) (p1:(List api_Claim)):Option Int:=
 (Zaz N Zay p1) N 0
def Zag (N:Nat) (p1:(List api_Claim)):Option Bool:=
 (Zax N p1).bind fun rz6=>
 some (decide (0≤rz6))
def Z9p (N:Nat) (p1:api_Prog) (vA1:Bool):Option Bool:=
 if vA1=true then
  some false
 else
  (Zaj N p1.Threads).bind fun r39=>
  if r39=true then
   some false
  else
   (Zak N p1.Recover).bind fun r42=>
   if r42=true then
    some false
   else
    (Zag N p1.Claims).bind fun r45=>
    some (!r45)
def Z9k (N:Nat) (p1:api_Prog):Option Bool:=
 (Zad N p1.Lines).bind fun r29=>
 if r29=true then
  (Z9p N p1) r29
 else
  (Z9q N p1.Vols 4294967296).bind fun r32=>
  if r32=true then
   (Z9q N p1.Locks 0).bind fun r35=>
   if r35=true then
    (Z9p N p1) (decide (1 < (p1.Recover.length:Int)))
   else
    (Z9p N p1) (!r35)
  else
   (Z9p N p1) (!r32)
def Z8o (_:Nat) (p1:(List api_Cell)):Option Bool:=
 some (decide (4 < (p1.length:Int)))
def Zat (N:Nat) (kZas:Option Int) (p1:(List (List api_Cell))):Nat→Int→Option Int
 | 0,_=>none
 | n+1,vB1=>
  if vB1 < (p1.length:Int) then
   (getI p1 vB1).bind fun xz7=>
   (Z8o N xz7).bind fun r16=>
   if r16=true then
    some vB1
   else
    (Zat N kZas p1 n) (IntKind.i64.wrap (vB1+1))
  else
   kZas
def Zas  : Option Int:=
 some (-1)
def Zar (N:Nat) (p1:(List (List api_Cell))):Option Int:=
 (Zat N Zas p1) N 0
def Zae (N:Nat) (p1:(List (List api_Cell))):Option Bool:=
 (Zar N p1).bind fun rz6=>
 some (decide (0≤rz6))
def Zab (N:Nat) (kZa9:Int→Option (List api_Thread)) (p1:(List (List api_Thread))):Nat→Int→Int→Option (List api_Thread)
 | 0,_,_=>none
 | n+1,vB1,vB2=>
  if vB2 < (p1.length:Int) then
   (getI p1 vB2).bind fun xz7=>
   if (IntKind.i64.wrap (vB1+(xz7.length:Int))) < 0 then
    none
   else
    (Zab N kZa9 p1 n) (IntKind.i64.wrap (vB1+(xz7.length:Int))) (IntKind.i64.wrap (vB2+1))
  else
   kZa9 vB1
def Zac (N:Nat) (kZaa:(List api_Thread)→Option (List api_Thread)) (p1:(List (List api_Thread))):Nat→(List api_Thread)→Int→Option (List api_Thread)
 | 0,_,_=>none
 | n+1,vB3,vB9=>
  if vB9 < (p1.length:Int) then
   (getI p1 vB9).bind fun x24=>
   (Cx 72 vB3 x24).bind fun l33=>
   (Zac N kZaa p1 n) l33 (IntKind.i64.wrap (vB9+1))
  else
   kZaa vB3
def Zaa (vA2:(List api_Thread)):Option (List api_Thread):=
 some vA2
def Za9 (N:Nat) (p1:(List (List api_Thread))) (vA1:Int):Option (List api_Thread):=
 (Pm 72 vA1).bind fun _=>
 (Zac N Zaa p1) N [] 0
def Za8 (N:Nat) (p1:(List (List api_Thread))):Option (List api_Thread):=
 (Zab N (Za9 N p1) p1) N 0 0
def Z92 (N:Nat) (p1:api_Prog):Option (List api_Thread):=
 (Za8 N ([p1.Threads,p1.Recover]:List (List api_Thread))).bind fun r36=>
 some r36
def Z8p (_:Nat) (p1:api_Thread):Option Bool:=
 some (decide (4 < (p1.Regs.length:Int)))
def Zbe (N:Nat) (kZbd:Option Int) (p1:(List api_Thread)):Nat→Int→Option Int
 | 0,_=>none
 | n+1,vB1=>
  if vB1 < (p1.length:Int) then
   (getI p1 vB1).bind fun xz7=>
   (Z8p N xz7).bind fun r20=>
   if r20=true then
    some vB1
   else
    (Zbe N kZbd p1 n) (IntKind.i64.wrap (vB1+1))
  else
   kZbd
def Zbd  : Option Int:=
 some (-1)
def Zbc (N:Nat) (p1:(List api_Thread)):Option Int:=
 (Zbe N Zbd p1) N 0
def Zal (N:Nat) (p1:(List api_Thread)):Option Bool:=
 (Zbc N p1).bind fun rz6=>
 some (decide (0≤rz6))
def Z8n (N:Nat) (p1:api_Prog):Option Bool:=
 if 4 < (p1.Lines.length:Int) then
  some true
 else
  (Zae N p1.Lines).bind fun r30=>
  if ((((r30 || (decide (4 < (p1.Vols.length:Int)))) || (decide (2 < (p1.Locks.length:Int)))) || (decide ((p1.Threads.length:Int)=0))) || (decide (3 < (p1.Threads.length:Int))))=true then
   some true
  else
   (Z92 N p1).bind fun r33=>
   (Zal N r33).bind fun r43=>
   some (r43 || (decide (4 < (p1.Claims.length:Int))))
def Z9i (rf:(List api_Stmt)→Int→Option (Int×Bool)) (kZ9j:Int→Option (Int×Bool)) (p1:(List api_Stmt)) (xz8:api_Stmt) (vB1:Int) (vC1:Int):Option (Int×Bool):=
 if 64 < vC1 then
  some (xz8.At,true)
 else
  (Ci p1 (IntKind.i64.wrap (vB1+1)) (IntKind.i64.wrap ((IntKind.i64.wrap ((IntKind.i64.wrap (vB1+1))+xz8.Body))+xz8.Else))).bind fun l24=>
  (rf l24 vC1).bind fun r32=>
  if r32.2=true then
   some (r32.1,true)
  else
   kZ9j (IntKind.i64.wrap ((IntKind.i64.wrap ((IntKind.i64.wrap (vB1+1))+xz8.Body))+xz8.Else))
def Z9j (rf:(List api_Stmt)→Int→Option (Int×Bool)) (N:Nat) (kZ9h:Option (Int×Bool)) (p1:(List api_Stmt)) (p6:Int):Nat→Int→Option (Int×Bool)
 | 0,_=>none
 | n+1,vB1=>
  if vB1 < (p1.length:Int) then
   (getI p1 vB1).bind fun xz8=>
   if xz8.Kind=12 then
    (Z9i rf (Z9j rf N kZ9h p1 p6 n) p1 xz8 vB1) (IntKind.i64.wrap (p6 * xz8.N))
   else
    (Z9i rf (Z9j rf N kZ9h p1 p6 n) p1 xz8 vB1) p6
  else
   kZ9h
def Z9h  : Option (Int×Bool):=
 some (0,false)
def Z9g:Nat→(List api_Stmt)→Int→Option (Int×Bool)
 | 0,_,_=>none
 | N+1,p1,p6=>
  (Z9j (Z9g N) N Z9h p1 p6) N 0
def Z91 (N:Nat) (kZ90:(List (Str×Int))→Option ((List (Str×Int))×Bool)) (p1:api_Thread):Nat→(List (Str×Int))→Int→Option ((List (Str×Int))×Bool)
 | 0,_,_=>none
 | n+1,vB1,vB5=>
  if vB5 < (p1.Regs.length:Int) then
   (getI p1.Regs vB5).bind fun x27=>
   if ((Bf x27 vB1).getD 0)≠0 then
    some ([],true)
   else
    (Z91 N kZ90 p1 n) (Is x27 5 vB1) (IntKind.i64.wrap (vB5+1))
  else
   kZ90 vB1
def Z90 (vA1:(List (Str×Int))):Option ((List (Str×Int))×Bool):=
 some (vA1,false)
def Z8z (N:Nat) (p1:api_Thread) (p4:(List (Str×Int))):Option ((List (Str×Int))×Bool):=
 (Z91 N Z90 p1) N (p4.filter fun q=>decide (q.2≠4)) 0
def Z93 (_:Nat) (p1:(List api_Stmt)):Option (List api_Stmt):=
 some p1
def Z9e {τ:Type} (kZ9f:Int→τ→Option (Bool×τ)) (vB2:Int) (vC2:Bool) (vC3:τ):Option (Bool×τ):=
 if vC2=true then
  some (false,vC3)
 else
  kZ9f (IntKind.i64.wrap (vB2+1)) vC3
def Z9f {τ:Type} (N:Nat) (kZ9d:τ→Option (Bool×τ)) (p1:(List api_Node)) (p6:Int) (y:τ→legal_use→Option (τ×Bool)):Nat→Int→τ→Option (Bool×τ)
 | 0,_,_=>none
 | n+1,vB2,vB3=>
  if vB2 < (p1.length:Int) then
   (getI p1 vB2).bind fun xz8=>
   if xz8.Op=2 then
    (y vB3 (legal_use.mk xz8.Name xz8.At ([p6]:List Int))).bind fun r22=>
    (Z9e (Z9f N kZ9d p1 p6 y n) vB2) (!r22.2) r22.1
   else
    (Z9e (Z9f N kZ9d p1 p6 y n) vB2) false vB3
  else
   kZ9d vB3
def Z9d {τ:Type} (vA2:τ):Option (Bool×τ):=
 some (true,vA2)
def Z9c {τ:Type} (N:Nat) (p1:(List api_Node)) (p6:Int) (y:τ→legal_use→Option (τ×Bool)) (s0:τ):Option (Bool×τ):=
 (Z9f N Z9d p1 p6 y) N 0 s0
def Z98 {τ:Type} (kZ96:(List Int)→τ→Option τ) (vC5:Bool) (vC6:τ):Option τ:=
 if vC5=true then
  kZ96 ([3]:List Int) vC6
 else
  kZ96 ([1,2]:List Int) vC6
def Z97 {τ:Type} (kZ96:(List Int)→τ→Option τ) (xz9:api_Stmt) (vC1:Bool) (vC2:τ):Option τ:=
 if vC1=true then
  kZ96 ([1]:List Int) vC2
 else
  if xz9.Kind=9 then
   (Z98 kZ96) (decide (xz9.Kind=9)) vC2
  else
   (Z98 kZ96) (decide (xz9.Kind=10)) vC2
def Z9a {τ:Type} (kZ9b:Int→τ→Option τ) (vA2:Int) (vB21:Bool) (vB22:τ):Option τ:=
 if vB21=true then
  some vB22
 else
  kZ9b (IntKind.i64.wrap (vA2+1)) vB22
def Z99 {τ:Type} (N:Nat) (kZ9b:Int→τ→Option τ) (y:τ→legal_use→Option (τ×Bool)) (xz9:api_Stmt) (vA2:Int) (vB16:Bool) (vB17:τ):Option τ:=
 if vB16=true then
  some vB17
 else
  (Z9c N xz9.E 5 y vB17).bind fun r63=>
  if r63.1=true then
   (Z9c N xz9.F 5 y r63.2).bind fun r72=>
   (Z9a kZ9b vA2) (!r72.1) r72.2
  else
   (Z9a kZ9b vA2) true r63.2
def Z96 {τ:Type} (N:Nat) (kZ9b:Int→τ→Option τ) (y:τ→legal_use→Option (τ×Bool)) (xz9:api_Stmt) (vA2:Int) (vB6:(List Int)) (vB12:τ):Option τ:=
 if xz9.Name≠[] then
  (y vB12 (legal_use.mk xz9.Name xz9.At vB6)).bind fun r56=>
  (Z99 N kZ9b y xz9 vA2) (!r56.2) r56.1
 else
  (Z99 N kZ9b y xz9 vA2) false vB12
def Z95 {τ:Type} (N:Nat) (kZ9b:Int→τ→Option τ) (y:τ→legal_use→Option (τ×Bool)) (xz9:api_Stmt) (vA2:Int) (vB2:Bool) (vB3:τ):Option τ:=
 if vB2=true then
  some vB3
 else
  if xz9.Kind=5 then
   (Z97 (Z96 N kZ9b y xz9 vA2) xz9) (decide (xz9.Kind=5)) vB3
  else
   (Z97 (Z96 N kZ9b y xz9 vA2) xz9) (decide (xz9.Kind=6)) vB3
def Z9b {τ:Type} (N:Nat) (y:τ→legal_use→Option (τ×Bool)) (y2:(List api_Stmt)):Nat→Int→τ→Option τ
 | 0,_,_=>none
 | n+1,vA2,vA3=>
  if vA2 < (y2.length:Int) then
   (getI y2 vA2).bind fun xz9=>
   if xz9.Reg≠[] then
    (y vA3 (legal_use.mk xz9.Reg xz9.At ([5]:List Int))).bind fun r31=>
    (Z95 N (Z9b N y y2 n) y xz9 vA2) (!r31.2) r31.1
   else
    (Z95 N (Z9b N y y2 n) y xz9 vA2) false vA3
  else
   some vA3
def Z94 {τ:Type} (N:Nat) (y:τ→legal_use→Option (τ×Bool)) (s0:τ) (y2:(List api_Stmt)):Option τ:=
 (Z9b N y y2) N 0 s0
def Zbk (N:Nat) (kZbj:Option Int) (p1:(List Int)) (p6:Int):Nat→Int→Option Int
 | 0,_=>none
 | n+1,vB1=>
  if vB1 < (p1.length:Int) then
   (getI p1 vB1).bind fun xz8=>
   if p6=xz8 then
    some vB1
   else
    (Zbk N kZbj p1 p6 n) (IntKind.i64.wrap (vB1+1))
  else
   kZbj
def Zbj  : Option Int:=
 some (-1)
def Zbi (N:Nat) (p1:(List Int)) (p6:Int):Option Int:=
 (Zbk N Zbj p1 p6) N 0
def Zan (N:Nat) (p1:(List Int)) (p6:Int):Option Bool:=
 (Zbi N p1 p6).bind fun rz7=>
 some (decide (0≤rz7))
def Z8c (N:Nat) (kZ86:Option (Int×Int)) (r43:(List api_Thread)):Nat→Int→Option (Int×Int)
 | 0,_=>none
 | n+1,vB1=>
  if vB1 < (r43.length:Int) then
   (getI r43 vB1).bind fun x54=>
   (Z9g N x54.Body 1).bind fun r68=>
   if r68.2=true then
    some (11,r68.1)
   else
    (Z8c N kZ86 r43 n) (IntKind.i64.wrap (vB1+1))
  else
   kZ86
def Z8d (N:Nat) (kZ88:Option (Int×Int)) (r31:((List (Str×Int))×Int×Bool)) (r72:(List api_Thread)):Nat→Int→Option (Int×Int)
 | 0,_=>none
 | n+1,vB2=>
  if vB2 < (r72.length:Int) then
   (getI r72 vB2).bind fun x83=>
   (Z8z N x83 r31.1).bind fun r97=>
   if r97.2=true then
    some (10,x83.At)
   else
    (Z8d N kZ88 r31 r72 n) (IntKind.i64.wrap (vB2+1))
  else
   kZ88
def Z85 (N:Nat) (r128:((List (Str×Int))×Bool)) (xe206:legal_use):Option (Unit ⊕ Int):=
 (Zan N xe206.may ((Bf xe206.name r128.1).getD 0)).bind fun r214=>
 if r214=true then
  some (.inl ())
 else
  some (.inr xe206.at')
def Z8e (N:Nat) (kZ89:Option (Int×Int)) (r31:((List (Str×Int))×Int×Bool)) (r103:(List api_Thread)):Nat→Int→Option (Int×Int)
 | 0,_=>none
 | n+1,vB4=>
  if vB4 < (r103.length:Int) then
   (getI r103 vB4).bind fun x114=>
   (Z8z N x114 r31.1).bind fun r128=>
   (Z93 N x114.Body).bind fun r134=>
   (Z94 N (yy (fun (_:Unit) (x:legal_use)=>(Z85 N r128) x)) (.inl ()) r134).bind fun q146=>
   match q146 with
    | .inl _=>
     (Z8e N kZ89 r31 r103 n) (IntKind.i64.wrap (vB4+1))
    | .inr vC3=>
     some (9,vC3)
  else
   kZ89
def Z8b (N:Nat) (kZ87:Option (Int×Int)) (r31:((List (Str×Int))×Int×Bool)) (x222:api_Claim):Nat→Int→Option (Int×Int)
 | 0,_=>none
 | n+1,vD1=>
  if vD1 < (x222.E.length:Int) then
   (getI x222.E vD1).bind fun x233=>
   if ((decide (x233.Op=2)) && (decide (((Bf x233.Name r31.1).getD 0)≠1)))=true then
    some (9,x233.At)
   else
    (Z8b N kZ87 r31 x222 n) (IntKind.i64.wrap (vD1+1))
  else
   kZ87
def Z87 (kZ8f:Int→Option (Int×Int)) (vB6:Int):Option (Int×Int):=
 kZ8f (IntKind.i64.wrap (vB6+1))
def Z8f (N:Nat) (kZ8a:Option (Int×Int)) (p1:api_Prog) (r31:((List (Str×Int))×Int×Bool)):Nat→Int→Option (Int×Int)
 | 0,_=>none
 | n+1,vB6=>
  if vB6 < (p1.Claims.length:Int) then
   (getI p1.Claims vB6).bind fun x222=>
   (Z8b N (Z87 (Z8f N kZ8a p1 r31 n) vB6) r31 x222) N 0
  else
   kZ8a
def Z8a  : Option (Int×Int):=
 some (0,0)
def Z89 (N:Nat) (p1:api_Prog) (r31:((List (Str×Int))×Int×Bool)):Option (Int×Int):=
 (Z8f N Z8a p1 r31) N 0
def Z88 (N:Nat) (p1:api_Prog) (r31:((List (Str×Int))×Int×Bool)):Option (Int×Int):=
 (Z92 N p1).bind fun r103=>
 (Z8e N (Z89 N p1 r31) r31 r103) N 0
def Z86 (N:Nat) (p1:api_Prog) (r31:((List (Str×Int))×Int×Bool)):Option (Int×Int):=
 if r31.2.2=true then
  some (10,r31.2.1)
 else
  (Z92 N p1).bind fun r72=>
  (Z8d N (Z88 N p1 r31) r31 r72) N 0
def Z84 (N:Nat) (p1:api_Prog):Option (Int×Int):=
 (Z8q N p1).bind fun r31=>
 (Z9k N p1).bind fun r37=>
 if r37=true then
  (Z8n N p1).bind fun r40=>
  if r40=true then
   some (2,0)
  else
   (Z92 N p1).bind fun r43=>
   (Z8c N (Z86 N p1 r31) r43) N 0
 else
  some (8,0)
def Z2f (_:Nat) (p1:Int):Option Bool:=
 some (((decide (97≤p1)) && (decide (p1≤122))) || (decide (p1=95)))
def Z1v (N:Nat) (kZ1u:Option Bool) (p1:Str):Nat→Int→Option Bool
 | 0,_=>none
 | n+1,vB1=>
  if vB1 < (([[108,105,110,101],[118,111,108],[108,111,99,107],[116,104,114,101,97,100],[114,101,103],[108,111,97,100],[115,116,111,114,101],[99,97,115],[102,108,117,115,104],[111,112,116],[115,102,101,110,99,101],[109,102,101,110,99,101],[116,97,107,101],[103,105,118,101],[105,102],[101,108,115,101],[108,111,111,112],[98,114,101,97,107],[99,104,101,99,107],[114,101,99,111,118,101,114],[97,108,119,97,121,115]]:List Str).length:Int) then
   (getI ([[108,105,110,101],[118,111,108],[108,111,99,107],[116,104,114,101,97,100],[114,101,103],[108,111,97,100],[115,116,111,114,101],[99,97,115],[102,108,117,115,104],[111,112,116],[115,102,101,110,99,101],[109,102,101,110,99,101],[116,97,107,101],[103,105,118,101],[105,102],[101,108,115,101],[108,111,111,112],[98,114,101,97,107],[99,104,101,99,107],[114,101,99,111,118,101,114],[97,108,119,97,121,115]]:List Str) vB1).bind fun xz6=>
   if xz6=p1 then
    some true
   else
    (Z1v N kZ1u p1 n) (IntKind.i64.wrap (vB1+1))
  else
   kZ1u
def Z1u  : Option Bool:=
 some false
def Z1t (N:Nat) (p1:Str):Option Bool:=
 (Z1v N Z1u p1) N 0
def Z2e (_:Nat) (p1:Int):Option Bool:=
 some ((decide (48≤p1)) && (decide (p1≤57)))
def Z1z (kZ20:Int→Option Bool) (vB1:Int) (vC1:Bool):Option Bool:=
 if vC1=true then
  some false
 else
  kZ20 (IntKind.i64.wrap (vB1+1))
def Z20 (N:Nat) (kZ1y:Option Bool) (p1:Str):Nat→Int→Option Bool
 | 0,_=>none
 | n+1,vB1=>
  if vB1 < (p1.length:Int) then
   (Dm p1 vB1).bind fun x12=>
   (Z2f N x12).bind fun r14=>
   if r14=true then
    (Z1z (Z20 N kZ1y p1 n) vB1) false
   else
    (Dm p1 vB1).bind fun x17=>
    (Z2e N x17).bind fun r19=>
    (Z1z (Z20 N kZ1y p1 n) vB1) (!r19)
  else
   kZ1y
def Z1y  : Option Bool:=
 some true
def Z1x (N:Nat) (p1:Str) (vA1:Bool):Option Bool:=
 if vA1=true then
  some false
 else
  (Z20 N Z1y p1) N 0
def Z1w (N:Nat) (p1:Str):Option Bool:=
 if ((decide ((p1.length:Int) < 1)) || (decide (16 < (p1.length:Int))))=true then
  (Z1x N p1) true
 else
  (Dm p1 0).bind fun xz3=>
  (Z2f N xz3).bind fun rz5=>
  if rz5=true then
   (Z1t N p1).bind fun rz8=>
   (Z1x N p1) rz8
  else
   (Z1x N p1) true
def Z60 (N:Nat) (p1:Int):Option Bool:=
 some ((decide (0≤p1)) && (decide (p1≤4000)))
def Z5y (kZ5z:Int→Option Bool) (vB1:Int) (vC1:Bool):Option Bool:=
 if vC1=true then
  some false
 else
  kZ5z (IntKind.i64.wrap (vB1+1))
def Z5z (N:Nat) (kZ5x:Option Bool) (p1:(List api_Cell)) (p6:Int):Nat→Int→Option Bool
 | 0,_=>none
 | n+1,vB1=>
  if vB1 < (p1.length:Int) then
   (getI p1 vB1).bind fun xz8=>
   (Z1w N xz8.Name).bind fun r13=>
   if (((!r13) || (decide (xz8.N < 0))) || (decide (p6 < xz8.N)))=true then
    (Z5y (Z5z N kZ5x p1 p6 n) vB1) true
   else
    (Z60 N xz8.At).bind fun r16=>
    (Z5y (Z5z N kZ5x p1 p6 n) vB1) (!r16)
  else
   kZ5x
def Z5x  : Option Bool:=
 some true
def Z5w (N:Nat) (p1:(List api_Cell)) (p6:Int):Option Bool:=
 (Z5z N Z5x p1 p6) N 0
def Z30 (_:Nat) (p1:Int):Option Int:=
 if ((decide (p1=1)) || (decide (p1=2)))=true then
  some 0
 else
  if ((decide (p1=3)) || (decide (p1=4)))=true then
   some 1
  else
   if ((decide (5≤p1)) && (decide (p1≤15)))=true then
    some 2
   else
    some (-1)
def Z2t (rf:(List api_Node)→Int→Option Int) (N:Nat) (kZ2s:Int→Option Int) (p1:(List api_Node)) (p6:Int):Nat→Int→Int→Option Int
 | 0,_,_=>none
 | n+1,vB1,vB2=>
  (getI p1 p6).bind fun x16=>
  (Z30 N x16.Op).bind fun r21=>
  if ((decide (vB2 < r21)) && (decide (0≤vB1)))=true then
   (rf p1 vB1).bind fun r24=>
   (Z2t rf N kZ2s p1 p6 n) r24 (IntKind.i64.wrap (vB2+1))
  else
   kZ2s vB1
def Z2s (vA2:Int):Option Int:=
 some vA2
def Z2r (rf:(List api_Node)→Int→Option Int) (N:Nat) (p1:(List api_Node)) (p6:Int) (vA1:Bool):Option Int:=
 if vA1=true then
  some (-1)
 else
  (Z2t rf N Z2s p1 p6) N (IntKind.i64.wrap (p6+1)) 0
def Z2q:Nat→(List api_Node)→Int→Option Int
 | 0,_,_=>none
 | N+1,p1,p6=>
  if ((decide (p6 < 0)) || (decide ((p1.length:Int)≤p6)))=true then
   (Z2r (Z2q N) N p1 p6) true
  else
   (getI p1 p6).bind fun xz8=>
   (Z30 N xz8.Op).bind fun r13=>
   (Z2r (Z2q N) N p1 p6) (decide (r13 < 0))
def Z3b (rf:(List api_Node)→Int→Option Int) (N:Nat) (kZ3a:Int→Option Int) (p1:(List api_Node)) (p6:Int):Nat→Int→Int→Int→Option Int
 | 0,_,_,_=>none
 | n+1,vB1,vB2,vB3=>
  (getI p1 p6).bind fun xz7=>
  (Z30 N xz7.Op).bind fun r12=>
  if vB3 < r12 then
   (rf p1 vB2).bind fun r15=>
   (Z2q N p1 vB2).bind fun r17=>
   (Z3b rf N kZ3a p1 p6 n) (max vB1 r15) r17 (IntKind.i64.wrap (vB3+1))
  else
   kZ3a vB1
def Z3a (vA1:Int):Option Int:=
 some (IntKind.i64.wrap (vA1+1))
def Z39:Nat→(List api_Node)→Int→Option Int
 | 0,_,_=>none
 | N+1,p1,p6=>
  (Z3b (Z39 N) N Z3a p1 p6) N 0 (IntKind.i64.wrap (p6+1)) 0
def Z35 (kZ36:Int→Option Bool) (vB1:Int) (vC1:Bool):Option Bool:=
 if vC1=true then
  some false
 else
  kZ36 (IntKind.i64.wrap (vB1+1))
def Z36 (N:Nat) (kZ34:Option Bool) (p1:(List api_Node)):Nat→Int→Option Bool
 | 0,_=>none
 | n+1,vB1=>
  if vB1 < (p1.length:Int) then
   (getI p1 vB1).bind fun x11=>
   if ((((((decide (x11.At < 0)) || (decide (4000 < x11.At))) || ((decide (x11.Op≠1)) && (decide (x11.N≠0)))) || ((decide (x11.Op≠2)) && (decide (x11.Name≠[])))) || (decide (x11.N < 0))) || (decide (4294967296 < x11.N)))=true then
    (Z35 (Z36 N kZ34 p1 n) vB1) true
   else
    if x11.Op=2 then
     (Z1w N x11.Name).bind fun r19=>
     (Z35 (Z36 N kZ34 p1 n) vB1) (!r19)
    else
     (Z35 (Z36 N kZ34 p1 n) vB1) false
  else
   kZ34
def Z34 (N:Nat) (p1:(List api_Node)):Option Bool:=
 (Z39 N p1 0).bind fun r22=>
 some (decide (r22≤12))
def Z33 (N:Nat) (p1:(List api_Node)) (vA1:Bool):Option Bool:=
 if vA1=true then
  some false
 else
  (Z36 N (Z34 N p1) p1) N 0
def Z32 (N:Nat) (p1:(List api_Node)):Option Bool:=
 if 40 < (p1.length:Int) then
  (Z33 N p1) true
 else
  (Z2q N p1 0).bind fun rz7=>
  (Z33 N p1) (decide (rz7≠(p1.length:Int)))
def Z3i (_:Nat) (p1:Int):Option Str:=
 if ((decide (p1 < 1)) || (decide (14 < p1)))=true then
  some []
 else
  (getI ([[],[114,101],[114,110],[110,101],[114,110,101,102],[110],[110],[],[],[110],[110],[101,98],[107,98],[],[101]]:List Str) p1).bind fun xz6=>
  some xz6
def Z4l (N:Nat) (kZ4k:Option Bool) (p1:Str) (p2:Int):Nat→Int→Option Bool
 | 0,_=>none
 | n+1,vB1=>
  if vB1 < (p1.length:Int) then
   (Dm p1 vB1).bind fun xz4=>
   if xz4=p2 then
    some true
   else
    (Z4l N kZ4k p1 p2 n) (IntKind.i64.wrap (vB1+1))
  else
   kZ4k
def Z4k  : Option Bool:=
 some false
def Z4j (N:Nat) (p1:Str) (p2:Int):Option Bool:=
 (Z4l N Z4k p1 p2) N 0
def Z4t (N:Nat) (p1:api_Stmt) (r14:Str) (vA2:Bool):Option Bool:=
 if vA2=true then
  some false
 else
  (Z4j N r14 107).bind fun r36=>
  if r36=true then
   some ((decide (1≤p1.N)) && (decide (p1.N≤8)))
  else
   some (decide (p1.N=0))
def Z4s (N:Nat) (p1:api_Stmt) (r14:Str) (r20:Bool) (r22:Bool) (vA1:Bool):Option Bool:=
 if vA1=true then
  some false
 else
  (Z32 N p1.E).bind fun r30=>
  if ((r20 != r30) || ((!r20) && (decide (0 < (p1.E.length:Int)))))=true then
   (Z4t N p1 r14) true
  else
   (Z32 N p1.F).bind fun r33=>
   (Z4t N p1 r14) ((r22 != r33) || ((!r22) && (decide (0 < (p1.F.length:Int)))))
def Z4r (N:Nat) (p1:api_Stmt):Option Bool:=
 if ((((decide (p1.Kind < 1)) || (decide (14 < p1.Kind))) || (decide (p1.At < 0))) || (decide (4000 < p1.At)))=true then
  some false
 else
  (Z3i N p1.Kind).bind fun r14=>
  (Z4j N r14 114).bind fun r16=>
  (Z4j N r14 110).bind fun r18=>
  (Z4j N r14 101).bind fun r20=>
  (Z4j N r14 102).bind fun r22=>
  (Z1w N p1.Reg).bind fun r24=>
  if ((r16 != r24) || ((!r16) && (decide (p1.Reg≠[]))))=true then
   (Z4s N p1 r14 r20 r22) true
  else
   (Z1w N p1.Name).bind fun r27=>
   (Z4s N p1 r14 r20 r22) ((r18 != r27) || ((!r18) && (decide (p1.Name≠[]))))
def Z4p (kZ4q:Int→Int→Option Int) (xz8:api_Stmt) (vB2:Int) (vC2:Int):Option Int:=
 kZ4q vC2 (IntKind.i64.wrap ((IntKind.i64.wrap ((IntKind.i64.wrap (vB2+1))+xz8.Body))+xz8.Else))
def Z4o (rf:(List api_Stmt)→Int→Option Int) (kZ4q:Int→Int→Option Int) (p1:(List api_Stmt)) (xz8:api_Stmt) (vB1:Int) (vB2:Int) (vC1:Int):Option Int:=
 if ((decide (xz8.Kind=11)) || (decide (xz8.Kind=12)))=true then
  (Ci p1 (IntKind.i64.wrap (vB2+1)) (IntKind.i64.wrap ((IntKind.i64.wrap (vB2+1))+xz8.Body))).bind fun l26=>
  (rf l26 vC1).bind fun r34=>
  (Ci p1 (IntKind.i64.wrap ((IntKind.i64.wrap (vB2+1))+xz8.Body)) (IntKind.i64.wrap ((IntKind.i64.wrap ((IntKind.i64.wrap (vB2+1))+xz8.Body))+xz8.Else))).bind fun l36=>
  (rf l36 vC1).bind fun r44=>
  if ((decide (r34 < 0)) || (decide (r44 < 0)))=true then
   some (-1)
  else
   (Z4p kZ4q xz8 vB2) (max (max vB1 (IntKind.i64.wrap (1+r34))) (IntKind.i64.wrap (1+r44)))
 else
  (Z4p kZ4q xz8 vB2) vB1
def Z4q (rf:(List api_Stmt)→Int→Option Int) (N:Nat) (kZ4n:Int→Option Int) (p1:(List api_Stmt)) (p6:Int):Nat→Int→Int→Option Int
 | 0,_,_=>none
 | n+1,vB1,vB2=>
  if vB2 < (p1.length:Int) then
   (getI p1 vB2).bind fun xz8=>
   if (((((decide (xz8.Body < 0)) || (decide (xz8.Else < 0))) || (decide (40 < xz8.Body))) || (decide (40 < xz8.Else))) || (decide ((p1.length:Int) < (IntKind.i64.wrap ((IntKind.i64.wrap ((IntKind.i64.wrap (vB2+1))+xz8.Body))+xz8.Else)))))=true then
    some (-1)
   else
    if (((((decide (0 < xz8.Body)) && (decide (xz8.Kind≠11))) && (decide (xz8.Kind≠12))) || ((decide (0 < xz8.Else)) && (decide (xz8.Kind≠11)))) || ((decide (xz8.Kind=13)) && (decide (p6=0))))=true then
     some (-1)
    else
     if xz8.Kind=12 then
      (Z4o rf (Z4q rf N kZ4n p1 p6 n) p1 xz8 vB1 vB2) (IntKind.i64.wrap (p6+1))
     else
      (Z4o rf (Z4q rf N kZ4n p1 p6 n) p1 xz8 vB1 vB2) p6
  else
   kZ4n vB1
def Z4n (vA1:Int):Option Int:=
 some vA1
def Z4m:Nat→(List api_Stmt)→Int→Option Int
 | 0,_,_=>none
 | N+1,p1,p6=>
  (Z4q (Z4m N) N Z4n p1 p6) N 0 0
def Z4h (N:Nat) (kZ4g:Option Bool) (p1:(List api_Stmt)):Nat→Int→Option Bool
 | 0,_=>none
 | n+1,vB1=>
  if vB1 < (p1.length:Int) then
   (getI p1 vB1).bind fun xz8=>
   (Z4r N xz8).bind fun r21=>
   if r21=true then
    (Z4h N kZ4g p1 n) (IntKind.i64.wrap (vB1+1))
   else
    some false
  else
   kZ4g
def Z4g (N:Nat) (p1:(List api_Stmt)):Option Bool:=
 (Z4m N p1 0).bind fun r24=>
 some ((decide (0≤r24)) && (decide (r24≤12)))
def Z4f (N:Nat) (p1:(List api_Stmt)):Option Bool:=
 if 40 < (p1.length:Int) then
  some false
 else
  (Z4h N (Z4g N p1) p1) N 0
def Z66 (N:Nat) (kZ63:Option Bool) (p1:(List api_Thread)) (vB1:Int):Nat→Int→Option Bool
 | 0,_=>none
 | n+1,vD2=>
  (getI p1 vB1).bind fun x30=>
  if vD2 < (x30.Regs.length:Int) then
   (getI x30.Regs vD2).bind fun x44=>
   (Z1w N x44).bind fun r49=>
   if r49=true then
    (Z66 N kZ63 p1 vB1 n) (IntKind.i64.wrap (vD2+1))
   else
    some false
  else
   kZ63
def Z64 (N:Nat) (kZ63:Option Bool) (p1:(List api_Thread)) (vB1:Int) (vD1:Bool):Option Bool:=
 if vD1=true then
  some false
 else
  (Z66 N kZ63 p1 vB1) N 0
def Z63 (kZ65:Int→Option Bool) (vB1:Int):Option Bool:=
 kZ65 (IntKind.i64.wrap (vB1+1))
def Z65 (N:Nat) (kZ62:Option Bool) (p1:(List api_Thread)) (p6:Bool):Nat→Int→Option Bool
 | 0,_=>none
 | n+1,vB1=>
  if vB1 < (p1.length:Int) then
   (getI p1 vB1).bind fun xz8=>
   (Z1w N xz8.Name).bind fun r21=>
   if ((p6 != r21) || ((!p6) && (decide (xz8.Name≠[]))))=true then
    (Z64 N (Z63 (Z65 N kZ62 p1 p6 n) vB1) p1 vB1) true
   else
    (Z60 N xz8.At).bind fun r24=>
    if r24=true then
     (Z4f N xz8.Body).bind fun r27=>
     (Z64 N (Z63 (Z65 N kZ62 p1 p6 n) vB1) p1 vB1) (!r27)
    else
     (Z64 N (Z63 (Z65 N kZ62 p1 p6 n) vB1) p1 vB1) true
  else
   kZ62
def Z62  : Option Bool:=
 some true
def Z61 (N:Nat) (p1:(List api_Thread)) (p6:Bool):Option Bool:=
 (Z65 N Z62 p1 p6) N 0
def Z5r (kZ5u:Int→Option Bool) (vB1:Int) (vC1:Bool):Option Bool:=
 if vC1=true then
  some false
 else
  kZ5u (IntKind.i64.wrap (vB1+1))
def Z5u (N:Nat) (kZ5q:Option Bool) (p1:api_Prog):Nat→Int→Option Bool
 | 0,_=>none
 | n+1,vB1=>
  if vB1 < (p1.Lines.length:Int) then
   (getI p1.Lines vB1).bind fun x30=>
   if (x30.length:Int)=0 then
    (Z5r (Z5u N kZ5q p1 n) vB1) true
   else
    (Z5w N x30 4294967296).bind fun r40=>
    (Z5r (Z5u N kZ5q p1 n) vB1) (!r40)
  else
   kZ5q
def Z5t (kZ5v:Int→Option Bool) (vB2:Int) (vC2:Bool):Option Bool:=
 if vC2=true then
  some false
 else
  kZ5v (IntKind.i64.wrap (vB2+1))
def Z5v (N:Nat) (kZ5s:Option Bool) (p1:api_Prog):Nat→Int→Option Bool
 | 0,_=>none
 | n+1,vB2=>
  if vB2 < (p1.Claims.length:Int) then
   (getI p1.Claims vB2).bind fun x44=>
   (Z60 N x44.At).bind fun r53=>
   if r53=true then
    (Z32 N x44.E).bind fun r56=>
    (Z5t (Z5v N kZ5s p1 n) vB2) (!r56)
   else
    (Z5t (Z5v N kZ5s p1 n) vB2) true
  else
   kZ5s
def Z5s (N:Nat) (p1:api_Prog):Option Bool:=
 (Z5w N p1.Vols 4294967296).bind fun r59=>
 if r59=true then
  (Z5w N p1.Locks 0).bind fun r62=>
  if r62=true then
   (Z61 N p1.Threads true).bind fun r65=>
   if r65=true then
    (Z61 N p1.Recover false).bind fun r68=>
    some (r68 && (decide ((p1.Recover.length:Int)≤1)))
   else
    some false
  else
   some false
 else
  some false
def Z5q (N:Nat) (p1:api_Prog):Option Bool:=
 (Z5v N (Z5s N p1) p1) N 0
def Z5p (N:Nat) (p1:api_Prog):Option Bool:=
 (Z5u N (Z5q N p1) p1) N 0
def Z70 (N:Nat) (p1:api_Prog):Option (List api_Thread):=
 (Cx 72 ([]:List api_Thread) p1.Threads).bind fun l32=>
 (Cx 72 l32 p1.Recover).bind fun l41=>
 some l41
def Z74 (N:Nat) (kZ72:Option Bool) (p1:api_Prog):Nat→Int→Option Bool
 | 0,_=>none
 | n+1,vB1=>
  if vB1 < (p1.Lines.length:Int) then
   (getI p1.Lines vB1).bind fun x30=>
   if 4 < (x30.length:Int) then
    some true
   else
    (Z74 N kZ72 p1 n) (IntKind.i64.wrap (vB1+1))
  else
   kZ72
def Z75 (N:Nat) (kZ73:Option Bool) (r40:(List api_Thread)):Nat→Int→Option Bool
 | 0,_=>none
 | n+1,vB2=>
  if vB2 < (r40.length:Int) then
   (getI r40 vB2).bind fun x51=>
   if 4 < (x51.Regs.length:Int) then
    some true
   else
    (Z75 N kZ73 r40 n) (IntKind.i64.wrap (vB2+1))
  else
   kZ73
def Z73 (p1:api_Prog):Option Bool:=
 some ((((((decide (4 < (p1.Lines.length:Int))) || (decide (4 < (p1.Vols.length:Int)))) || (decide (2 < (p1.Locks.length:Int)))) || (decide ((p1.Threads.length:Int) < 1))) || (decide (3 < (p1.Threads.length:Int)))) || (decide (4 < (p1.Claims.length:Int))))
def Z72 (N:Nat) (p1:api_Prog):Option Bool:=
 (Z70 N p1).bind fun r40=>
 (Z75 N (Z73 p1) r40) N 0
def Z71 (N:Nat) (p1:api_Prog):Option Bool:=
 (Z74 N (Z72 N p1) p1) N 0
def Z7n (rf:(List api_Stmt)→Int→Option Int) (p1:(List api_Stmt)) (p6:Int) (xz8:api_Stmt) (vA1:Int):Option Int:=
 if 64 < vA1 then
  some xz8.At
 else
  (Ci p1 1 (IntKind.i64.wrap ((IntKind.i64.wrap (1+xz8.Body))+xz8.Else))).bind fun l24=>
  (rf l24 vA1).bind fun r32=>
  if 0≤r32 then
   some r32
  else
   (Ci p1 (IntKind.i64.wrap ((IntKind.i64.wrap (1+xz8.Body))+xz8.Else)) (p1.length:Int)).bind fun l35=>
   (rf l35 p6).bind fun r43=>
   some r43
def Z7m:Nat→(List api_Stmt)→Int→Option Int
 | 0,_,_=>none
 | N+1,p1,p6=>
  if (p1.length:Int)=0 then
   some (-1)
  else
   (getI p1 0).bind fun xz8=>
   if xz8.Kind=12 then
    (Z7n (Z7m N) p1 p6 xz8) (IntKind.i64.wrap (p6 * xz8.N))
   else
    (Z7n (Z7m N) p1 p6 xz8) p6
def Z69 (N:Nat) (kZ68:(List api_Cell)→Option (List api_Cell)) (p1:api_Prog):Nat→(List api_Cell)→Int→Option (List api_Cell)
 | 0,_,_=>none
 | n+1,vB1,vB7=>
  if vB7 < (p1.Lines.length:Int) then
   (getI p1.Lines vB7).bind fun x33=>
   (Cx 32 vB1 x33).bind fun l42=>
   (Z69 N kZ68 p1 n) l42 (IntKind.i64.wrap (vB7+1))
  else
   kZ68 vB1
def Z68 (p1:api_Prog) (vA1:(List api_Cell)):Option (List api_Cell):=
 (Cx 32 vA1 p1.Vols).bind fun l51=>
 some l51
def Z67 (N:Nat) (p1:api_Prog):Option (List api_Cell):=
 (Z69 N (Z68 p1) p1) N [] 0
def Z6v (N:Nat) (kZ6u:(List Str)→Option (List Str)) (p1:(List api_Cell)):Nat→(List Str)→Int→Option (List Str)
 | 0,_,_=>none
 | n+1,vB1,vB7=>
  if vB7 < (p1.length:Int) then
   (getI p1 vB7).bind fun x10=>
   (Cx 16 vB1 ([x10.Name]:List Str)).bind fun l18=>
   (Z6v N kZ6u p1 n) l18 (IntKind.i64.wrap (vB7+1))
  else
   kZ6u vB1
def Z6u (vA1:(List Str)):Option (List Str):=
 some vA1
def Z6t (N:Nat) (p1:(List api_Cell)):Option (List Str):=
 (Z6v N Z6u p1) N [] 0
def Z6y (N:Nat) (kZ6x:Option Int) (p1:(List Str)) (p6:Str):Nat→Int→Option Int
 | 0,_=>none
 | n+1,vB1=>
  if vB1 < (p1.length:Int) then
   (getI p1 vB1).bind fun xz8=>
   if xz8=p6 then
    some vB1
   else
    (Z6y N kZ6x p1 p6 n) (IntKind.i64.wrap (vB1+1))
  else
   kZ6x
def Z6x  : Option Int:=
 some (-1)
def Z6w (N:Nat) (p1:(List Str)) (p6:Str):Option Int:=
 (Z6y N Z6x p1 p6) N 0
def Z7g (N:Nat) (kZ7e:(List api_Cell)→Option Int) (p1:api_Prog):Nat→(List api_Cell)→Int→Option Int
 | 0,_,_=>none
 | n+1,vB1,vB7=>
  if vB7 < (p1.Threads.length:Int) then
   (getI p1.Threads vB7).bind fun x55=>
   (Cx 32 vB1 ([(api_Cell.mk x55.Name 0 x55.At)]:List api_Cell)).bind fun l71=>
   (Z7g N kZ7e p1 n) l71 (IntKind.i64.wrap (vB7+1))
  else
   kZ7e vB1
def Z7h (N:Nat) (kZ7f:Option Int) (vA1:(List api_Cell)) (r77:(List Str)):Nat→Int→Option Int
 | 0,_=>none
 | n+1,vB8=>
  if vB8 < (vA1.length:Int) then
   (getI vA1 vB8).bind fun x85=>
   (Z6w N r77 x85.Name).bind fun r91=>
   if r91 < vB8 then
    some x85.At
   else
    (Z7h N kZ7f vA1 r77 n) (IntKind.i64.wrap (vB8+1))
  else
   kZ7f
def Z7f  : Option Int:=
 some (-1)
def Z7e (N:Nat) (vA1:(List api_Cell)):Option Int:=
 (Z6t N vA1).bind fun r77=>
 (Z7h N Z7f vA1 r77) N 0
def Z7d (N:Nat) (p1:api_Prog):Option Int:=
 (Z67 N p1).bind fun r32=>
 (Cx 32 ([]:List api_Cell) r32).bind fun l39=>
 (Cx 32 l39 p1.Locks).bind fun l45=>
 (Z7g N (Z7e N) p1) N l45 0
def Z6a (N:Nat) (p1:api_Prog):Option (List Str):=
 (Z67 N p1).bind fun r29=>
 (Z6t N r29).bind fun r36=>
 some r36
def Z6s (N:Nat) (p1:api_Prog):Option (List Str):=
 (Z6t N p1.Locks).bind fun r29=>
 some r29
def Z6z (N:Nat) (p1:api_Prog):Option Int:=
 (Z67 N p1).bind fun r29=>
 some (IntKind.i64.wrap ((r29.length:Int) - (p1.Vols.length:Int)))
def Z7k (kZ7l:Int→Option Int) (p1:(List api_Node)) (vB1:Int) (vC1:Bool):Option Int:=
 if vC1=true then
  (getI p1 vB1).bind fun x21=>
  some x21.At
 else
  kZ7l (IntKind.i64.wrap (vB1+1))
def Z7l (N:Nat) (kZ7j:Option Int) (p1:(List api_Node)) (p6:(List Str)):Nat→Int→Option Int
 | 0,_=>none
 | n+1,vB1=>
  if vB1 < (p1.length:Int) then
   (getI p1 vB1).bind fun x12=>
   if x12.Op=2 then
    (Z6w N p6 x12.Name).bind fun r18=>
    (Z7k (Z7l N kZ7j p1 p6 n) p1 vB1) (decide (r18 < 0))
   else
    (Z7k (Z7l N kZ7j p1 p6 n) p1 vB1) false
  else
   kZ7j
def Z7j  : Option Int:=
 some (-1)
def Z7i (N:Nat) (p1:(List api_Node)) (p6:(List Str)):Option Int:=
 (Z7l N Z7j p1 p6) N 0
def Z7b (kZ78:Option Int) (p7:api_Stmt) (vB3:Bool):Option Int:=
 if vB3=true then
  some p7.At
 else
  kZ78
def Z7c (N:Nat) (kZ78:Option Int) (p1:api_Prog) (p7:api_Stmt) (vB4:Bool):Option Int:=
 if vB4=true then
  (Z6s N p1).bind fun r78=>
  (Z6w N r78 p7.Name).bind fun r85=>
  if r85 < 0 then
   some p7.At
  else
   kZ78
 else
  kZ78
def Z7a (N:Nat) (kZ78:Option Int) (p1:api_Prog) (p7:api_Stmt) (r64:Int) (vB2:Bool):Option Int:=
 if vB2=true then
  if r64 < 0 then
   (Z7b kZ78 p7) true
  else
   (Z6z N p1).bind fun r73=>
   (Z7b kZ78 p7) (decide (r73≤r64))
 else
  if p7.Kind=9 then
   (Z7c N kZ78 p1 p7) (decide (p7.Kind=9))
  else
   (Z7c N kZ78 p1 p7) (decide (p7.Kind=10))
def Z79 (N:Nat) (kZ78:Option Int) (p1:api_Prog) (p7:api_Stmt) (r64:Int) (vB1:Bool):Option Int:=
 if vB1=true then
  if r64 < 0 then
   some p7.At
  else
   kZ78
 else
  if p7.Kind=5 then
   (Z7a N kZ78 p1 p7 r64) (decide (p7.Kind=5))
  else
   (Z7a N kZ78 p1 p7 r64) (decide (p7.Kind=6))
def Z78 (N:Nat) (p4:api_Thread) (p7:api_Stmt):Option Int:=
 (Z7i N p7.E p4.Regs).bind fun r88=>
 if 0≤r88 then
  some r88
 else
  (Z7i N p7.F p4.Regs).bind fun r91=>
  some r91
def Z77 (N:Nat) (p1:api_Prog) (p4:api_Thread) (p7:api_Stmt) (vA1:Bool):Option Int:=
 if vA1=true then
  some p7.At
 else
  (Z6a N p1).bind fun r57=>
  (Z6w N r57 p7.Name).bind fun r64=>
  if p7.Kind=2 then
   (Z79 N (Z78 N p4 p7) p1 p7 r64) (decide (p7.Kind=2))
  else
   if p7.Kind=3 then
    (Z79 N (Z78 N p4 p7) p1 p7 r64) (decide (p7.Kind=3))
   else
    (Z79 N (Z78 N p4 p7) p1 p7 r64) (decide (p7.Kind=4))
def Z76 (N:Nat) (p1:api_Prog) (p4:api_Thread) (p7:api_Stmt):Option Int:=
 if p7.Reg≠[] then
  (Z6w N p4.Regs p7.Reg).bind fun r54=>
  (Z77 N p1 p4 p7) (decide (r54 < 0))
 else
  (Z77 N p1 p4 p7) false
def Z6l (N:Nat) (kZ6c:Option (Int×Int)) (r35:(List api_Thread)):Nat→Int→Option (Int×Int)
 | 0,_=>none
 | n+1,vB1=>
  if vB1 < (r35.length:Int) then
   (getI r35 vB1).bind fun x46=>
   (Z7m N x46.Body 1).bind fun r59=>
   if 0≤r59 then
    some (11,r59)
   else
    (Z6l N kZ6c r35 n) (IntKind.i64.wrap (vB1+1))
  else
   kZ6c
def Z6h (kZ6n:Int→Option (Int×Int)) (x66:api_Thread) (vD2:Int) (vE2:Bool):Option (Int×Int):=
 if vE2=true then
  some (10,x66.At)
 else
  kZ6n (IntKind.i64.wrap (vD2+1))
def Z6n (N:Nat) (kZ6g:Option (Int×Int)) (p1:api_Prog) (r35:(List api_Thread)) (vB3:Int):Nat→Int→Option (Int×Int)
 | 0,_=>none
 | n+1,vD2=>
  (getI r35 vB3).bind fun x66=>
  if vD2 < (x66.Regs.length:Int) then
   (getI x66.Regs vD2).bind fun x80=>
   (Z6w N x66.Regs x80).bind fun r85=>
   if r85 < vD2 then
    (Z6h (Z6n N kZ6g p1 r35 vB3 n) x66 vD2) true
   else
    (Z6a N p1).bind fun r88=>
    (Z6w N r88 x80).bind fun r98=>
    if 0≤r98 then
     (Z6h (Z6n N kZ6g p1 r35 vB3 n) x66 vD2) true
    else
     (Z6s N p1).bind fun r101=>
     (Z6w N r101 x80).bind fun r108=>
     (Z6h (Z6n N kZ6g p1 r35 vB3 n) x66 vD2) (decide (0≤r108))
  else
   kZ6g
def Z6g (kZ6m:Int→Option (Int×Int)) (vB3:Int):Option (Int×Int):=
 kZ6m (IntKind.i64.wrap (vB3+1))
def Z6m (N:Nat) (kZ6f:Option (Int×Int)) (p1:api_Prog) (r35:(List api_Thread)):Nat→Int→Option (Int×Int)
 | 0,_=>none
 | n+1,vB3=>
  if vB3 < (r35.length:Int) then
   (Z6n N (Z6g (Z6m N kZ6f p1 r35 n) vB3) p1 r35 vB3) N 0
  else
   kZ6f
def Z6j (N:Nat) (kZ6d:Option (Int×Int)) (p1:api_Prog) (r35:(List api_Thread)) (vB4:Int):Nat→Int→Option (Int×Int)
 | 0,_=>none
 | n+1,vD3=>
  (getI r35 vB4).bind fun x112=>
  if vD3 < (x112.Body.length:Int) then
   (getI x112.Body vD3).bind fun x126=>
   (Z76 N p1 x112 x126).bind fun r139=>
   if 0≤r139 then
    some (9,r139)
   else
    (Z6j N kZ6d p1 r35 vB4 n) (IntKind.i64.wrap (vD3+1))
  else
   kZ6d
def Z6d (kZ6o:Int→Option (Int×Int)) (vB4:Int):Option (Int×Int):=
 kZ6o (IntKind.i64.wrap (vB4+1))
def Z6o (N:Nat) (kZ6i:Option (Int×Int)) (p1:api_Prog) (r35:(List api_Thread)):Nat→Int→Option (Int×Int)
 | 0,_=>none
 | n+1,vB4=>
  if vB4 < (r35.length:Int) then
   (Z6j N (Z6d (Z6o N kZ6i p1 r35 n) vB4) p1 r35 vB4) N 0
  else
   kZ6i
def Z6k (N:Nat) (kZ6e:Option (Int×Int)) (p1:api_Prog) (l154:(List Str)):Nat→Int→Option (Int×Int)
 | 0,_=>none
 | n+1,vB5=>
  if vB5 < (p1.Claims.length:Int) then
   (getI p1.Claims vB5).bind fun x163=>
   (Z7i N x163.E l154).bind fun r172=>
   if 0≤r172 then
    some (9,r172)
   else
    (Z6k N kZ6e p1 l154 n) (IntKind.i64.wrap (vB5+1))
  else
   kZ6e
def Z6e  : Option (Int×Int):=
 some (0,0)
def Z6i (N:Nat) (p1:api_Prog):Option (Int×Int):=
 (Z6a N p1).bind fun r142=>
 (Z6z N p1).bind fun r152=>
 (Ci r142 0 r152).bind fun l154=>
 (Z6k N Z6e p1 l154) N 0
def Z6f (N:Nat) (p1:api_Prog) (r35:(List api_Thread)):Option (Int×Int):=
 (Z6o N (Z6i N p1) p1 r35) N 0
def Z6c (N:Nat) (p1:api_Prog) (r35:(List api_Thread)):Option (Int×Int):=
 (Z7d N p1).bind fun r62=>
 if 0≤r62 then
  some (10,r62)
 else
  (Z6m N (Z6f N p1 r35) p1 r35) N 0
def Z6b (N:Nat) (p1:api_Prog):Option (Int×Int):=
 (Z5p N p1).bind fun r29=>
 if r29=true then
  (Z71 N p1).bind fun r32=>
  if r32=true then
   some (2,0)
  else
   (Z70 N p1).bind fun r35=>
   (Z6l N (Z6c N p1 r35) r35) N 0
 else
  some (8,0)
def Z2d (_:Nat) (p1:Str) (p2:Int) (p3:Str):Option Bool:=
 if (IntKind.i64.wrap (p2+(p3.length:Int)))≤(p1.length:Int) then
  (Ci p1 p2 (IntKind.i64.wrap (p2+(p3.length:Int)))).bind fun s5=>
  some (decide (s5=p3))
 else
  some false
def Z2i (kZ2j:Int→Option Int) (kZ2k:Int→Option Int) (vC1:Int) (vD1:Bool):Option Int:=
 if vD1=true then
  kZ2k (IntKind.i64.wrap (vC1+1))
 else
  kZ2j vC1
def Z2k (N:Nat) (kZ2j:Int→Option Int) (p1:Str):Nat→Int→Option Int
 | 0,_=>none
 | n+1,vC1=>
  if vC1 < (p1.length:Int) then
   (Dm p1 vC1).bind fun x11=>
   (Z2i kZ2j (Z2k N kZ2j p1 n) vC1) (decide (x11≠10))
  else
   (Z2i kZ2j (Z2k N kZ2j p1 n) vC1) false
def Z2j (N:Nat) (kZ2h:Int→Option Int) (p1:Str):Nat→Int→Option Int
 | 0,_=>none
 | n+1,vB1=>
  if vB1 < (p1.length:Int) then
   (Dm p1 vB1).bind fun xz4=>
   if ((((decide (xz4=32)) || (decide (xz4=9))) || (decide (xz4=10))) || (decide (xz4=13)))=true then
    (Z2j N kZ2h p1 n) (IntKind.i64.wrap (vB1+1))
   else
    (Z2d N p1 vB1 [47,47]).bind fun rz7=>
    if rz7=true then
     (Z2k N (Z2j N kZ2h p1 n) p1) N vB1
    else
     some vB1
  else
   kZ2h vB1
def Z2h (vA1:Int):Option Int:=
 some vA1
def Z2g (N:Nat) (p1:Str) (p2:Int):Option Int:=
 (Z2j N Z2h p1) N p2
def Z2o (N:Nat) (kZ2m:Option Int) (p1:Str) (p2:Int):Nat→Int→Option Int
 | 0,_=>none
 | n+1,vB1=>
  if vB1 < (([[61,61],[33,61],[60,61],[38,38],[124,124]]:List Str).length:Int) then
   (getI ([[61,61],[33,61],[60,61],[38,38],[124,124]]:List Str) vB1).bind fun xz7=>
   (Z2d N p1 p2 xz7).bind fun r13=>
   if r13=true then
    some 2
   else
    (Z2o N kZ2m p1 p2 n) (IntKind.i64.wrap (vB1+1))
  else
   kZ2m
def Z2p (N:Nat) (kZ2n:Option Int) (p1:Str) (p2:Int):Nat→Int→Option Int
 | 0,_=>none
 | n+1,vB2=>
  if vB2 < 14 then
   (Dm [40,41,123,125,59,44,61,60,33,43,45,42,47,37] vB2).bind fun x17=>
   (Dm p1 p2).bind fun x19=>
   if x17=x19 then
    some 1
   else
    (Z2p N kZ2n p1 p2 n) (IntKind.i64.wrap (vB2+1))
  else
   kZ2n
def Z2n  : Option Int:=
 some 0
def Z2m (N:Nat) (p1:Str) (p2:Int):Option Int:=
 (Z2p N Z2n p1 p2) N 0
def Z2l (N:Nat) (p1:Str) (p2:Int):Option Int:=
 (Z2o N (Z2m N p1 p2) p1 p2) N 0
def Z27 (kZ26:Int→Option ((List api_Token)×Int×Int)) (kZ2b:Int→Option ((List api_Token)×Int×Int)) (vE1:Int) (vF1:Bool):Option ((List api_Token)×Int×Int):=
 if vF1=true then
  kZ2b (IntKind.i64.wrap (vE1+1))
 else
  kZ26 vE1
def Z2b (N:Nat) (kZ26:Int→Option ((List api_Token)×Int×Int)) (p1:Str):Nat→Int→Option ((List api_Token)×Int×Int)
 | 0,_=>none
 | n+1,vE1=>
  if vE1 < (p1.length:Int) then
   (Dm p1 vE1).bind fun x16=>
   (Z2f N x16).bind fun r18=>
   if r18=true then
    (Z27 kZ26 (Z2b N kZ26 p1 n) vE1) true
   else
    (Dm p1 vE1).bind fun x21=>
    (Z2e N x21).bind fun r23=>
    (Z27 kZ26 (Z2b N kZ26 p1 n) vE1) r23
  else
   (Z27 kZ26 (Z2b N kZ26 p1 n) vE1) false
def Z26 (kZ25:Int→api_Token→Option ((List api_Token)×Int×Int)) (vB7:Int) (vD1:Int):Option ((List api_Token)×Int×Int):=
 if 16 < (IntKind.i64.wrap (vD1 - vB7)) then
  some ([],2,vB7)
 else
  kZ25 vD1 (api_Token.mk 1 [] 0 vB7)
def Z24 (kZ2c:Int→api_Token→Option ((List api_Token)×Int×Int)) (vE2:Int) (vF3:api_Token):Option ((List api_Token)×Int×Int):=
 kZ2c (IntKind.i64.wrap (vE2+1)) vF3
def Z29 (_:Nat) (kZ28:Int→api_Token→Option ((List api_Token)×Int×Int)) (kZ2c:Int→api_Token→Option ((List api_Token)×Int×Int)) (p1:Str) (vE2:Int) (vE3:api_Token) (vF2:Bool):Option ((List api_Token)×Int×Int):=
 if vF2=true then
  if vE3.N≤4294967296 then
   (Dm p1 vE2).bind fun x39=>
   (Z24 kZ2c vE2) (api_Token.mk vE3.Kind vE3.Text (IntKind.i64.wrap ((IntKind.i64.wrap (10 * vE3.N))+(IntKind.i64.wrap (IntKind.u8.wrap (x39 - 48))))) vE3.At)
  else
   (Z24 kZ2c vE2) vE3
 else
  kZ28 vE2 vE3
def Z2c (N:Nat) (kZ28:Int→api_Token→Option ((List api_Token)×Int×Int)) (p1:Str):Nat→Int→api_Token→Option ((List api_Token)×Int×Int)
 | 0,_,_=>none
 | n+1,vE2,vE3=>
  if vE2 < (p1.length:Int) then
   (Dm p1 vE2).bind fun x33=>
   (Z2e N x33).bind fun r35=>
   (Z29 N kZ28 (Z2c N kZ28 p1 n) p1 vE2 vE3) r35
  else
   (Z29 N kZ28 (Z2c N kZ28 p1 n) p1 vE2 vE3) false
def Z28 (_:Nat) (kZ25:Int→api_Token→Option ((List api_Token)×Int×Int)) (vB7:Int) (vD2:Int) (vD3:api_Token):Option ((List api_Token)×Int×Int):=
 if 4294967296 < vD3.N then
  some ([],4,vB7)
 else
  kZ25 vD2 vD3
def Z25 (N:Nat) (kZ2a:(List api_Token)→Int→Option ((List api_Token)×Int×Int)) (p1:Str) (vB1:(List api_Token)) (vB7:Int) (vC1:Int) (vC2:api_Token):Option ((List api_Token)×Int×Int):=
 (Ci p1 vB7 vC1).bind fun s45=>
 (Cx 40 vB1 ([(api_Token.mk vC2.Kind s45 vC2.N vC2.At)]:List api_Token)).bind fun l50=>
 (Z2g N p1 vC1).bind fun r56=>
 kZ2a l50 r56
def Z2a (N:Nat) (kZ23:(List api_Token)→Option ((List api_Token)×Int×Int)) (p1:Str):Nat→(List api_Token)→Int→Option ((List api_Token)×Int×Int)
 | 0,_,_=>none
 | n+1,vB1,vB7=>
  if vB7 < (p1.length:Int) then
   (Dm p1 vB7).bind fun x10=>
   (Z2f N x10).bind fun r12=>
   if r12=true then
    (Z2b N (Z26 (Z25 N (Z2a N kZ23 p1 n) p1 vB1 vB7) vB7) p1) N vB7
   else
    (Dm p1 vB7).bind fun x27=>
    (Z2e N x27).bind fun r29=>
    if r29=true then
     (Z2c N (Z28 N (Z25 N (Z2a N kZ23 p1 n) p1 vB1 vB7) vB7) p1) N vB7 (api_Token.mk 2 [] 0 vB7)
    else
     (Z2l N p1 vB7).bind fun r42=>
     if (IntKind.i64.wrap (vB7+r42))=vB7 then
      some ([],3,vB7)
     else
      (Z25 N (Z2a N kZ23 p1 n) p1 vB1 vB7) (IntKind.i64.wrap (vB7+r42)) (api_Token.mk 3 [] 0 vB7)
  else
   kZ23 vB1
def Z23 (vA1:(List api_Token)):Option ((List api_Token)×Int×Int):=
 some (vA1,0,0)
def Z22 (N:Nat) (p1:Str):Option ((List api_Token)×Int×Int):=
 if 4000 < (p1.length:Int) then
  some ([],2,4000)
 else
  (Z2g N p1 0).bind fun rz6=>
  (Z2a N Z23 p1) N [] rz6
def Z1s (_:Nat) (p1:(List api_Token)) (p6:Int) (p7:Str):Option Bool:=
 if ((decide (0≤p6)) && (decide (p6 < (p1.length:Int))))=true then
  (getI p1 p6).bind fun xz9=>
  some ((((decide (xz9.Text=p7)) && (decide (xz9.Kind≠2))) && (decide (1≤xz9.Kind))) && (decide (xz9.Kind≤3)))
 else
  some false
def Z4y (p1:leadlineref05_In) (vA1:Bool):Option (Bool×leadlineref05_In):=
 if vA1=true then
  some (true,(leadlineref05_In.mk p1.L (IntKind.i64.wrap (p1.At+1)) p1.E p1.Pos))
 else
  some (false,p1)
def Z4x (N:Nat) (p1:leadlineref05_In) (p7:Str):Option (Bool×leadlineref05_In):=
 if p1.E=0 then
  (Z1s N p1.L p1.At p7).bind fun rz9=>
  (Z4y p1) rz9
 else
  (Z4y p1) false
def Z21 (_:Nat) (p1:(List api_Token)) (p6:Int):Option Int:=
 if ((decide (0≤p6)) && (decide (p6 < (p1.length:Int))))=true then
  (getI p1 p6).bind fun xz8=>
  some xz8.At
 else
  if (p1.length:Int)=0 then
   some 0
  else
   (getI p1 (IntKind.i64.wrap ((p1.length:Int) - 1))).bind fun x14=>
   some (IntKind.i64.wrap (x14.At+(x14.Text.length:Int)))
def Z4v (N:Nat) (p1:leadlineref05_In) (vA1:Int):Option leadlineref05_In:=
 (Z21 N p1.L p1.At).bind fun rz9=>
 some (leadlineref05_In.mk p1.L p1.At vA1 rz9)
def Z4u (N:Nat) (p1:leadlineref05_In):Option leadlineref05_In:=
 if p1.E=0 then
  if (p1.L.length:Int)≤p1.At then
   (Z4v N p1) 6
  else
   (Z4v N p1) 5
 else
  some p1
def Z51 (N:Nat) (p1:leadlineref05_In) (vA1:Bool):Option (api_Cell×leadlineref05_In):=
 if vA1=true then
  (getI p1.L (IntKind.i64.wrap ((IntKind.i64.wrap (p1.At+1)) - 1))).bind fun x19=>
  some ((api_Cell.mk x19.Text 0 x19.At),(leadlineref05_In.mk p1.L (IntKind.i64.wrap (p1.At+1)) p1.E p1.Pos))
 else
  (Z4u N p1).bind fun r24=>
  some ((api_Cell.mk [] 0 0),r24)
def Z50 (N:Nat) (p1:leadlineref05_In):Option (api_Cell×leadlineref05_In):=
 if p1.E=0 then
  if p1.At < (p1.L.length:Int) then
   (getI p1.L p1.At).bind fun x10=>
   if x10.Kind=1 then
    (Z1w N x10.Text).bind fun r16=>
    (Z51 N p1) r16
   else
    (Z51 N p1) false
  else
   (Z51 N p1) false
 else
  (Z51 N p1) false
def Z4z (N:Nat) (p1:leadlineref05_In) (p7:Str):Option leadlineref05_In:=
 (Z4x N p1 p7).bind fun rz8=>
 if rz8.1=true then
  some rz8.2
 else
  (Z4u N rz8.2).bind fun r15=>
  some r15
def Z56 (N:Nat) (kZ55:(List api_Token)→Int→Int→Int→api_Cell→Option ((List api_Cell)×leadlineref05_In)) (r12:(api_Cell×leadlineref05_In)) (vC1:(List api_Token)) (vC6:Int) (vC7:Int) (vC8:Int) (vD1:Bool):Option ((List api_Cell)×leadlineref05_In):=
 if vD1=true then
  (getI vC1 vC6).bind fun x34=>
  kZ55 vC1 (IntKind.i64.wrap (vC6+1)) vC7 vC8 (api_Cell.mk r12.1.Name x34.N r12.1.At)
 else
  (Z4u N (leadlineref05_In.mk vC1 vC6 vC7 vC8)).bind fun r39=>
  kZ55 r39.L r39.At r39.E r39.Pos r12.1
def Z55 (N:Nat) (kZ57:(List api_Token)→Int→Int→Int→(List api_Cell)→Bool→Option ((List api_Cell)×leadlineref05_In)) (vB9:(List api_Cell)) (vC10:(List api_Token)) (vC15:Int) (vC16:Int) (vC17:Int) (vC18:api_Cell):Option ((List api_Cell)×leadlineref05_In):=
 (Cx 32 vB9 ([vC18]:List api_Cell)).bind fun l48=>
 (Z4x N (leadlineref05_In.mk vC10 vC15 vC16 vC17) [44]).bind fun r54=>
 kZ57 r54.2.L r54.2.At r54.2.E r54.2.Pos l48 r54.1
def Z54 (N:Nat) (kZ57:(List api_Token)→Int→Int→Int→(List api_Cell)→Bool→Option ((List api_Cell)×leadlineref05_In)) (r12:(api_Cell×leadlineref05_In)) (vB9:(List api_Cell)) (vC1:(List api_Token)) (vC6:Int) (vC7:Int) (vC8:Int) (vC9:Bool):Option ((List api_Cell)×leadlineref05_In):=
 if vC9=true then
  if vC6 < (vC1.length:Int) then
   (getI vC1 vC6).bind fun x28=>
   (Z56 N (Z55 N kZ57 vB9) r12 vC1 vC6 vC7 vC8) (decide (x28.Kind=2))
  else
   (Z56 N (Z55 N kZ57 vB9) r12 vC1 vC6 vC7 vC8) false
 else
  (Z55 N kZ57 vB9) vC1 vC6 vC7 vC8 r12.1
def Z57 (N:Nat) (kZ53:(List api_Token)→Int→Int→Int→(List api_Cell)→Option ((List api_Cell)×leadlineref05_In)) (p7:Bool):Nat→(List api_Token)→Int→Int→Int→(List api_Cell)→Bool→Option ((List api_Cell)×leadlineref05_In)
 | 0,_,_,_,_,_,_=>none
 | n+1,vB1,vB6,vB7,vB8,vB9,vB15=>
  if (vB15 && (decide (vB7=0)))=true then
   (Z50 N (leadlineref05_In.mk vB1 vB6 vB7 vB8)).bind fun r12=>
   if p7=true then
    (Z4x N r12.2 [61]).bind fun r20=>
    (Z54 N (Z57 N kZ53 p7 n) r12 vB9) r20.2.L r20.2.At r20.2.E r20.2.Pos r20.1
   else
    (Z54 N (Z57 N kZ53 p7 n) r12 vB9) r12.2.L r12.2.At r12.2.E r12.2.Pos false
  else
   kZ53 vB1 vB6 vB7 vB8 vB9
def Z53 (N:Nat) (vA1:(List api_Token)) (vA6:Int) (vA7:Int) (vA8:Int) (vA9:(List api_Cell)):Option ((List api_Cell)×leadlineref05_In):=
 (Z4z N (leadlineref05_In.mk vA1 vA6 vA7 vA8) [59]).bind fun r60=>
 some (vA9,r60)
def Z52 (N:Nat) (p1:leadlineref05_In) (p7:Bool):Option ((List api_Cell)×leadlineref05_In):=
 (Z57 N (Z53 N) p7) N p1.L p1.At p1.E p1.Pos [] true
def Z4i (_:Nat) (p1:Int):Option Str:=
 (getI ([[],[],[108,111,97,100],[115,116,111,114,101],[99,97,115],[102,108,117,115,104],[111,112,116],[115,102,101,110,99,101],[109,102,101,110,99,101],[116,97,107,101],[103,105,118,101],[105,102],[108,111,111,112],[98,114,101,97,107],[99,104,101,99,107]]:List Str) p1).bind fun xz5=>
 some xz5
def Z3k (N:Nat) (p1:leadlineref04_P) (vA1:Int):Option leadlineref04_P:=
 (Z21 N p1.L p1.At).bind fun r15=>
 some (leadlineref04_P.mk p1.L p1.At vA1 r15 p1.Out)
def Z3j (N:Nat) (p1:leadlineref04_P) (p12:Int):Option leadlineref04_P:=
 if p1.E=0 then
  if (p1.L.length:Int)≤p1.At then
   (Z3k N p1) 6
  else
   (Z3k N p1) p12
 else
  some p1
def Z3v (N:Nat) (p1:leadlineref04_P) (vA1:Bool):Option (Str×leadlineref04_P):=
 if vA1=true then
  (getI p1.L (IntKind.i64.wrap ((IntKind.i64.wrap (p1.At+1)) - 1))).bind fun x23=>
  some (x23.Text,(leadlineref04_P.mk p1.L (IntKind.i64.wrap (p1.At+1)) p1.E p1.Pos p1.Out))
 else
  (Z3j N (leadlineref04_P.mk p1.L p1.At p1.E p1.Pos p1.Out) 5).bind fun r28=>
  some ([],r28)
def Z3u (N:Nat) (p1:leadlineref04_P):Option (Str×leadlineref04_P):=
 if p1.E=0 then
  if p1.At < (p1.L.length:Int) then
   (getI p1.L p1.At).bind fun x14=>
   if x14.Kind=1 then
    (Z1w N x14.Text).bind fun r20=>
    (Z3v N p1) r20
   else
    (Z3v N p1) false
  else
   (Z3v N p1) false
 else
  (Z3v N p1) false
def Z3t (N:Nat) (p1:leadlineref04_P) (vA1:Bool):Option leadlineref04_P:=
 if vA1=true then
  some (leadlineref04_P.mk p1.L (IntKind.i64.wrap (p1.At+1)) p1.E p1.Pos p1.Out)
 else
  (Z3j N (leadlineref04_P.mk p1.L p1.At p1.E p1.Pos p1.Out) 5).bind fun r17=>
  some r17
def Z3s (N:Nat) (p1:leadlineref04_P) (p12:Str):Option leadlineref04_P:=
 if p1.E=0 then
  (Z1s N p1.L p1.At p12).bind fun r14=>
  (Z3t N p1) r14
 else
  (Z3t N p1) false
def Z38 (N:Nat) (p1:(List api_Token)) (p6:Int) (vA1:Int):Option leadlineref03_Read:=
 (Z21 N p1 p6).bind fun r10=>
 some (leadlineref03_Read.mk [] 0 vA1 r10)
def Z37 (N:Nat) (p1:(List api_Token)) (p6:Int) (p7:Int):Option leadlineref03_Read:=
 if (p1.length:Int)≤p6 then
  (Z38 N p1 p6) 6
 else
  (Z38 N p1 p6) p7
def Z3c (_:Nat) (p1:Int):Option (List Int):=
 (getI ([([15]:List Int),([14]:List Int),([10,11,12,13]:List Int),([5,6]:List Int),([7,8,9]:List Int)]:List (List Int)) p1).bind fun x40=>
 some x40
def Z3h (_:Nat) (p1:Int):Option Str:=
 (getI ([[],[],[],[45],[33],[43],[45],[42],[47],[37],[61,61],[33,61],[60],[60,61],[38,38],[124,124]]:List Str) p1).bind fun xz5=>
 some xz5
def Z3f (r43:leadlineref03_Read) (x57:api_Token) (vA2:Int):Option leadlineref03_Read:=
 (Cx 40 ([(api_Node.mk vA2 0 [] x57.At)]:List api_Node) r43.L).bind fun l66=>
 some (leadlineref03_Read.mk l66 r43.To r43.E r43.At)
def Z3g (N:Nat) (p1:(List api_Token)) (p6:Int) (x109:api_Token) (vA3:Bool):Option leadlineref03_Read:=
 if vA3=true then
  some (leadlineref03_Read.mk ([(api_Node.mk 2 0 x109.Text x109.At)]:List api_Node) (IntKind.i64.wrap (p6+1)) 0 0)
 else
  (Z37 N p1 p6 5).bind fun r133=>
  some r133
def Z3e (rf:(List api_Token)→Int→Int→Option leadlineref03_Read) (rg_Z2u:(List api_Token)→Int→Int→Int→Option leadlineref03_Read) (N:Nat) (p1:(List api_Token)) (p6:Int) (p7:Int) (vA1:Bool):Option leadlineref03_Read:=
 (Z1s N p1 p6 [40]).bind fun r27=>
 if ((vA1 || r27) && (decide (p7=12)))=true then
  (Z37 N p1 p6 7).bind fun r30=>
  some r30
 else
  if vA1=true then
   (rf p1 (IntKind.i64.wrap (p6+1)) (IntKind.i64.wrap (p7+1))).bind fun r43=>
   if r43.E≠0 then
    some r43
   else
    (getI p1 p6).bind fun x57=>
    if x57.Text=[45] then
     (Z3f r43 x57) 3
    else
     (Z3f r43 x57) 4
  else
   if r27=true then
    (rg_Z2u p1 (IntKind.i64.wrap (p6+1)) (IntKind.i64.wrap (p7+1)) 0).bind fun r80=>
    if r80.E≠0 then
     some r80
    else
     (Z1s N p1 r80.To [41]).bind fun r94=>
     if r94=true then
      some (leadlineref03_Read.mk r80.L (IntKind.i64.wrap (r80.To+1)) r80.E r80.At)
     else
      (Z37 N p1 r80.To 5).bind fun r97=>
      some r97
   else
    (getI p1 p6).bind fun x109=>
    if x109.Kind=2 then
     some (leadlineref03_Read.mk ([(api_Node.mk 1 x109.N [] x109.At)]:List api_Node) (IntKind.i64.wrap (p6+1)) 0 0)
    else
     if x109.Kind=1 then
      (Z1w N x109.Text).bind fun r123=>
      (Z3g N p1 p6 x109) r123
     else
      (Z3g N p1 p6 x109) false
def Z2x (kZ2z:Int→Int→Option leadlineref03_Read) (vD3:Int) (vE2:Int):Option leadlineref03_Read:=
 kZ2z vE2 (IntKind.i64.wrap (vD3+1))
def Z2z (N:Nat) (kZ2w:Int→Option leadlineref03_Read) (p1:(List api_Token)) (p8:Int) (vB15:Int):Nat→Int→Int→Option leadlineref03_Read
 | 0,_,_=>none
 | n+1,vD2,vD3=>
  (Z3c N p8).bind fun r37=>
  if vD3 < (r37.length:Int) then
   (Z3c N p8).bind fun r48=>
   (getI r48 vD3).bind fun x58=>
   (Z3h N x58).bind fun r63=>
   (Z1s N p1 vB15 r63).bind fun r65=>
   if r65=true then
    (Z3c N p8).bind fun r68=>
    (getI r68 vD3).bind fun x78=>
    (Z2x (Z2z N kZ2w p1 p8 vB15 n) vD3) x78
   else
    (Z2x (Z2z N kZ2w p1 p8 vB15 n) vD3) vD2
  else
   kZ2w vD2
def Z2w (rf:(List api_Token)→Int→Int→Int→Option leadlineref03_Read) (kZ2y:(List api_Node)→Int→Int→Int→Option leadlineref03_Read) (p1:(List api_Token)) (p7:Int) (p8:Int) (vB10:(List api_Node)) (vB15:Int) (vB16:Int) (vB17:Int) (vC2:Int):Option leadlineref03_Read:=
 if vC2=0 then
  some (leadlineref03_Read.mk vB10 vB15 vB16 vB17)
 else
  (rf p1 (IntKind.i64.wrap (vB15+1)) p7 (IntKind.i64.wrap (p8+1))).bind fun r84=>
  if r84.E≠0 then
   some r84
  else
   (getI p1 vB15).bind fun x98=>
   (Cx 40 ([(api_Node.mk vC2 0 [] x98.At)]:List api_Node) vB10).bind fun l106=>
   (Cx 40 l106 r84.L).bind fun l115=>
   if p8=2 then
    some (leadlineref03_Read.mk l115 r84.To 0 0)
   else
    kZ2y l115 r84.To 0 0
def Z2y (rf:(List api_Token)→Int→Int→Int→Option leadlineref03_Read) (N:Nat) (kZ2v:(List api_Node)→Int→Int→Int→Option leadlineref03_Read) (p1:(List api_Token)) (p7:Int) (p8:Int):Nat→(List api_Node)→Int→Int→Int→Option leadlineref03_Read
 | 0,_,_,_,_=>none
 | n+1,vB10,vB15,vB16,vB17=>
  if vB16=0 then
   (Z2z N (Z2w rf (Z2y rf N kZ2v p1 p7 p8 n) p1 p7 p8 vB10 vB15 vB16 vB17) p1 p8 vB15) N 0 0
  else
   kZ2v vB10 vB15 vB16 vB17
def Z2v (vA2:(List api_Node)) (vA7:Int) (vA8:Int) (vA9:Int):Option leadlineref03_Read:=
 some (leadlineref03_Read.mk vA2 vA7 vA8 vA9)
mutual
def Z3d:Nat→(List api_Token)→Int→Int→Option leadlineref03_Read
 | 0,_,_,_=>none
 | N+1,p1,p6,p7=>
  if (p1.length:Int)≤p6 then
   (Z37 N p1 p6 6).bind fun r10=>
   some r10
  else
   (Z1s N p1 p6 [33]).bind fun r22=>
   if r22=true then
    (Z3e (Z3d N) (Z2u N) N p1 p6 p7) true
   else
    (Z1s N p1 p6 [45]).bind fun r25=>
    (Z3e (Z3d N) (Z2u N) N p1 p6 p7) r25
def Z2u:Nat→(List api_Token)→Int→Int→Int→Option leadlineref03_Read
 | 0,_,_,_,_=>none
 | N+1,p1,p6,p7,p8=>
  if p8=5 then
   ((Z3d N) p1 p6 p7).bind fun r11=>
   some r11
  else
   ((Z2u N) p1 p6 p7 (IntKind.i64.wrap (p8+1))).bind fun r23=>
   (Z2y (Z2u N) N Z2v p1 p7 p8) N r23.L r23.To r23.E r23.At
end
def Z31 (N:Nat) (p1:(List api_Token)) (p6:Int):Option ((List api_Node)×Int×Int×Int):=
 if p6 < 0 then
  some ([],0,1,0)
 else
  (Z2u N p1 p6 0 0).bind fun rz8=>
  if rz8.E≠0 then
   some ([],0,rz8.E,rz8.At)
  else
   (Z39 N rz8.L 0).bind fun r22=>
   if 12 < r22 then
    (getI p1 p6).bind fun x25=>
    some ([],0,7,x25.At)
   else
    if 40 < (rz8.L.length:Int) then
     (getI p1 p6).bind fun x31=>
     some ([],0,2,x31.At)
    else
     some (rz8.L,rz8.To,0,0)
def Z3r (N:Nat) (p1:leadlineref04_P):Option ((List api_Node)×leadlineref04_P):=
 if p1.E≠0 then
  some ([],p1)
 else
  (Z31 N p1.L p1.At).bind fun r13=>
  if r13.2.2.1≠0 then
   some ([],(leadlineref04_P.mk p1.L p1.At r13.2.2.1 r13.2.2.2 p1.Out))
  else
   some (r13.1,(leadlineref04_P.mk p1.L r13.2.1 p1.E p1.Pos p1.Out))
def Z4a (N:Nat) (p1:leadlineref04_P) (vA1:Bool):Option (Int×leadlineref04_P):=
 if vA1=true then
  (getI p1.L p1.At).bind fun x19=>
  if ((decide (1≤x19.N)) && (decide (x19.N≤8)))=true then
   some (x19.N,(leadlineref04_P.mk p1.L (IntKind.i64.wrap (p1.At+1)) p1.E p1.Pos p1.Out))
  else
   (Z3j N (leadlineref04_P.mk p1.L p1.At p1.E p1.Pos p1.Out) 11).bind fun r25=>
   some (0,r25)
 else
  (Z3j N (leadlineref04_P.mk p1.L p1.At p1.E p1.Pos p1.Out) 5).bind fun r40=>
  some (0,r40)
def Z49 (N:Nat) (p1:leadlineref04_P):Option (Int×leadlineref04_P):=
 if ((decide (p1.E=0)) && (decide (p1.At < (p1.L.length:Int))))=true then
  (getI p1.L p1.At).bind fun x13=>
  (Z4a N p1) (decide (x13.Kind=2))
 else
  (Z4a N p1) false
def Z48 (N:Nat) (kZ46:(List api_Token)→Int→Int→Int→(List api_Stmt)→Str→Str→(List api_Node)→(List api_Node)→Int→Option (api_Stmt×leadlineref04_P)) (p1:leadlineref04_P) (p12:Int) (vB2:Bool):Option (api_Stmt×leadlineref04_P):=
 if vB2=true then
  (Z3r N (leadlineref04_P.mk p1.L p1.At p1.E p1.Pos p1.Out)).bind fun r297=>
  kZ46 r297.2.L r297.2.At r297.2.E r297.2.Pos r297.2.Out [] [] r297.1 [] 0
 else
  if p12=12 then
   (Z49 N (leadlineref04_P.mk p1.L p1.At p1.E p1.Pos p1.Out)).bind fun r317=>
   kZ46 r317.2.L r317.2.At r317.2.E r317.2.Pos r317.2.Out [] [] [] [] r317.1
  else
   kZ46 p1.L p1.At p1.E p1.Pos p1.Out [] [] [] [] 0
def Z47 (N:Nat) (kZ46:(List api_Token)→Int→Int→Int→(List api_Stmt)→Str→Str→(List api_Node)→(List api_Node)→Int→Option (api_Stmt×leadlineref04_P)) (p1:leadlineref04_P) (p12:Int) (vB1:Bool):Option (api_Stmt×leadlineref04_P):=
 if vB1=true then
  (Z3u N (leadlineref04_P.mk p1.L p1.At p1.E p1.Pos p1.Out)).bind fun r280=>
  kZ46 r280.2.L r280.2.At r280.2.E r280.2.Pos r280.2.Out [] r280.1 [] [] 0
 else
  if p12=11 then
   (Z48 N kZ46 p1 p12) (decide (p12=11))
  else
   (Z48 N kZ46 p1 p12) (decide (p12=14))
def Z46 (p12:Int) (p13:Int) (vA2:(List api_Token)) (vA7:Int) (vA8:Int) (vA9:Int) (vA10:(List api_Stmt)) (vA16:Str) (vA17:Str) (vA18:(List api_Node)) (vA23:(List api_Node)) (vA28:Int):Option (api_Stmt×leadlineref04_P):=
 some ((api_Stmt.mk p12 vA16 vA17 vA18 vA23 vA28 0 0 p13),(leadlineref04_P.mk vA2 vA7 vA8 vA9 vA10))
def Z45 (N:Nat) (p1:leadlineref04_P) (p12:Int) (p13:Int):Option (api_Stmt×leadlineref04_P):=
 if p12=1 then
  (Z3u N p1).bind fun r17=>
  (Z3s N r17.2 [61]).bind fun r32=>
  (Z3r N r32).bind fun r47=>
  (Z46 p12 p13) r47.2.L r47.2.At r47.2.E r47.2.Pos r47.2.Out r17.1 [] r47.1 [] 0
 else
  if p12=2 then
   (Z3u N p1).bind fun r67=>
   (Z3s N r67.2 [61]).bind fun r82=>
   (Z3u N r82).bind fun r97=>
   (Z46 p12 p13) r97.2.L r97.2.At r97.2.E r97.2.Pos r97.2.Out r67.1 r97.1 [] [] 0
  else
   if p12=3 then
    (Z3u N p1).bind fun r113=>
    (Z3s N r113.2 [61]).bind fun r128=>
    (Z3r N r128).bind fun r143=>
    (Z46 p12 p13) r143.2.L r143.2.At r143.2.E r143.2.Pos r143.2.Out [] r113.1 r143.1 [] 0
   else
    if p12=4 then
     (Z3u N p1).bind fun r163=>
     (Z3s N r163.2 [61]).bind fun r178=>
     (Z3u N r178).bind fun r193=>
     (Z3s N r193.2 [44]).bind fun r208=>
     (Z3r N r208).bind fun r223=>
     (Z3s N r223.2 [44]).bind fun r242=>
     (Z3r N r242).bind fun r257=>
     (Z46 p12 p13) r257.2.L r257.2.At r257.2.E r257.2.Pos r257.2.Out r163.1 r193.1 r223.1 r257.1 0
    else
     if p12=5 then
      (Z47 N (Z46 p12 p13) p1 p12) (decide (p12=5))
     else
      if p12=6 then
       (Z47 N (Z46 p12 p13) p1 p12) (decide (p12=6))
      else
       if p12=9 then
        (Z47 N (Z46 p12 p13) p1 p12) (decide (p12=9))
       else
        (Z47 N (Z46 p12 p13) p1 p12) (decide (p12=10))
def Z3p (rg_Z3w:leadlineref04_P→Int→Int→Option leadlineref04_P) (kZ3o:(List api_Token)→Int→Int→Int→(List api_Stmt)→Option (Int×leadlineref04_P)) (kZ3q:(List api_Token)→Int→Int→Int→(List api_Stmt)→Option (Int×leadlineref04_P)) (p12:Int) (p13:Int) (vB2:(List api_Token)) (vB7:Int) (vB8:Int) (vB9:Int) (vB10:(List api_Stmt)) (vC1:Bool):Option (Int×leadlineref04_P):=
 if vC1=true then
  (rg_Z3w (leadlineref04_P.mk vB2 vB7 vB8 vB9 vB10) p12 p13).bind fun r52=>
  kZ3q r52.L r52.At r52.E r52.Pos r52.Out
 else
  kZ3o vB2 vB7 vB8 vB9 vB10
def Z3q (rg_Z3w:leadlineref04_P→Int→Int→Option leadlineref04_P) (N:Nat) (kZ3o:(List api_Token)→Int→Int→Int→(List api_Stmt)→Option (Int×leadlineref04_P)) (p12:Int) (p13:Int):Nat→(List api_Token)→Int→Int→Int→(List api_Stmt)→Option (Int×leadlineref04_P)
 | 0,_,_,_,_,_=>none
 | n+1,vB2,vB7,vB8,vB9,vB10=>
  if vB8=0 then
   (Z1s N vB2 vB7 [125]).bind fun r49=>
   (Z3p rg_Z3w kZ3o (Z3q rg_Z3w N kZ3o p12 p13 n) p12 p13 vB2 vB7 vB8 vB9 vB10) (!r49)
  else
   (Z3p rg_Z3w kZ3o (Z3q rg_Z3w N kZ3o p12 p13 n) p12 p13 vB2 vB7 vB8 vB9 vB10) false
def Z3o (N:Nat) (p1:leadlineref04_P) (vA18:(List api_Token)) (vA23:Int) (vA24:Int) (vA25:Int) (vA26:(List api_Stmt)):Option (Int×leadlineref04_P):=
 (Z3s N (leadlineref04_P.mk vA18 vA23 vA24 vA25 vA26) [125]).bind fun r67=>
 some ((IntKind.i64.wrap ((r67.Out.length:Int) - (p1.Out.length:Int))),r67)
def Z3n (rg_Z3w:leadlineref04_P→Int→Int→Option leadlineref04_P) (N:Nat) (p1:leadlineref04_P) (p12:Int) (p13:Int) (vA3:(List api_Token)) (vA8:Int) (vA9:Int) (vA10:Int) (vA11:(List api_Stmt)):Option (Int×leadlineref04_P):=
 (Z3s N (leadlineref04_P.mk vA3 vA8 vA9 vA10 vA11) [123]).bind fun r33=>
 (Z3q rg_Z3w N (Z3o N p1) p12 p13) N r33.L r33.At r33.E r33.Pos r33.Out
def Z3m (rg_Z3w:leadlineref04_P→Int→Int→Option leadlineref04_P) (N:Nat) (p1:leadlineref04_P) (p12:Int) (p13:Int) (vA1:Bool):Option (Int×leadlineref04_P):=
 if vA1=true then
  (Z3j N (leadlineref04_P.mk p1.L p1.At p1.E p1.Pos p1.Out) 7).bind fun r18=>
  (Z3n rg_Z3w N p1 p12 p13) r18.L r18.At r18.E r18.Pos r18.Out
 else
  (Z3n rg_Z3w N p1 p12 p13) p1.L p1.At p1.E p1.Pos p1.Out
def Z3y (kZ44:Int→Int→Option leadlineref04_P) (vB2:Int) (vC1:Int):Option leadlineref04_P:=
 kZ44 vC1 (IntKind.i64.wrap (vB2+1))
def Z44 (N:Nat) (kZ3x:Int→Option leadlineref04_P) (p1:leadlineref04_P):Nat→Int→Int→Option leadlineref04_P
 | 0,_,_=>none
 | n+1,vB1,vB2=>
  if vB2≤14 then
   (Z4i N vB2).bind fun r17=>
   (Z1s N p1.L p1.At r17).bind fun r19=>
   if r19=true then
    (Z3y (Z44 N kZ3x p1 n) vB2) vB2
   else
    (Z3y (Z44 N kZ3x p1 n) vB2) vB1
  else
   kZ3x vB1
def Z43 (_:Nat) (r39:(api_Stmt×leadlineref04_P)) (r91:(Int×leadlineref04_P)) (vA12:(List api_Token)) (vA17:Int) (vA18:Int) (vA19:Int) (vA20:(List api_Stmt)) (vA26:Int):Option leadlineref04_P:=
 (getI vA20 (r39.2.Out.length:Int)).bind fun _=>
 (Vs vA20 (r39.2.Out.length:Int) (api_Stmt.mk r39.1.Kind r39.1.Reg r39.1.Name r39.1.E r39.1.F r39.1.N r91.1 vA26 r39.1.At)).bind fun l129=>
 some (leadlineref04_P.mk vA12 vA17 vA18 vA19 l129)
def Z42 (rg_Z3l:leadlineref04_P→Int→Int→Option (Int×leadlineref04_P)) (N:Nat) (p12:Int) (r39:(api_Stmt×leadlineref04_P)) (vA9:Int) (r91:(Int×leadlineref04_P)) (vA10:Bool):Option leadlineref04_P:=
 if vA10=true then
  (rg_Z3l (leadlineref04_P.mk r91.2.L (IntKind.i64.wrap (r91.2.At+1)) r91.2.E r91.2.Pos r91.2.Out) (IntKind.i64.wrap (p12+1)) vA9).bind fun r111=>
  (Z43 N r39 r91) r111.2.L r111.2.At r111.2.E r111.2.Pos r111.2.Out r111.1
 else
  (Z43 N r39 r91) r91.2.L r91.2.At r91.2.E r91.2.Pos r91.2.Out r39.1.Else
def Z41 (rg_Z3l:leadlineref04_P→Int→Int→Option (Int×leadlineref04_P)) (N:Nat) (p12:Int) (vA1:Int) (r39:(api_Stmt×leadlineref04_P)) (vA3:(List api_Stmt)) (vA9:Int):Option leadlineref04_P:=
 (rg_Z3l (leadlineref04_P.mk r39.2.L r39.2.At r39.2.E r39.2.Pos vA3) (IntKind.i64.wrap (p12+1)) vA9).bind fun r91=>
 if vA1=11 then
  if r91.2.E=0 then
   (Z1s N r91.2.L r91.2.At [101,108,115,101]).bind fun r108=>
   (Z42 rg_Z3l N p12 r39 vA9 r91) r108
  else
   (Z42 rg_Z3l N p12 r39 vA9 r91) false
 else
  (Z42 rg_Z3l N p12 r39 vA9 r91) false
def Z40 (rg_Z3l:leadlineref04_P→Int→Int→Option (Int×leadlineref04_P)) (N:Nat) (p12:Int) (p13:Int) (vA1:Int) (r39:(api_Stmt×leadlineref04_P)) (vA3:(List api_Stmt)):Option leadlineref04_P:=
 if ((decide (vA1≠11)) && (decide (vA1≠12)))=true then
  (Z3s N (leadlineref04_P.mk r39.2.L r39.2.At r39.2.E r39.2.Pos vA3) [59]).bind fun r75=>
  some r75
 else
  if vA1=12 then
   (Z41 rg_Z3l N p12 vA1 r39 vA3) (IntKind.i64.wrap (p13+1))
  else
   (Z41 rg_Z3l N p12 vA1 r39 vA3) p13
def Z3z (rg_Z3l:leadlineref04_P→Int→Int→Option (Int×leadlineref04_P)) (N:Nat) (p1:leadlineref04_P) (p12:Int) (p13:Int) (r14:Int) (vA1:Int) (vA2:Int):Option leadlineref04_P:=
 (Z45 N (leadlineref04_P.mk p1.L vA2 p1.E p1.Pos p1.Out) vA1 r14).bind fun r39=>
 (Cx 120 r39.2.Out ([r39.1]:List api_Stmt)).bind fun l68=>
 (Z40 rg_Z3l N p12 p13 vA1 r39) l68
def Z3x (rg_Z3l:leadlineref04_P→Int→Int→Option (Int×leadlineref04_P)) (N:Nat) (p1:leadlineref04_P) (p12:Int) (p13:Int) (r14:Int) (vA1:Int):Option leadlineref04_P:=
 if ((decide (vA1=13)) && (decide (p13=0)))=true then
  (Z3j N (leadlineref04_P.mk p1.L p1.At p1.E p1.Pos p1.Out) 5).bind fun r23=>
  some r23
 else
  if vA1≠1 then
   (Z3z rg_Z3l N p1 p12 p13 r14 vA1) (IntKind.i64.wrap (p1.At+1))
  else
   (Z3z rg_Z3l N p1 p12 p13 r14 vA1) p1.At
mutual
def Z3l:Nat→leadlineref04_P→Int→Int→Option (Int×leadlineref04_P)
 | 0,_,_,_=>none
 | N+1,p1,p12,p13=>
  if 12 < p12 then
   (Z1s N p1.L p1.At [123]).bind fun r15=>
   (Z3m (Z3w N) N p1 p12 p13) r15
  else
   (Z3m (Z3w N) N p1 p12 p13) false
def Z3w:Nat→leadlineref04_P→Int→Int→Option leadlineref04_P
 | 0,_,_,_=>none
 | N+1,p1,p12,p13=>
  (Z21 N p1.L p1.At).bind fun r14=>
  (Z44 N (Z3x (Z3l N) N p1 p12 p13 r14) p1) N 1 2
end
def Z4d (N:Nat) (kZ4c:(List api_Token)→Int→Int→Int→(List api_Stmt)→Option ((List api_Stmt)×Int×Int×Int)) (kZ4e:(List api_Token)→Int→Int→Int→(List api_Stmt)→Option ((List api_Stmt)×Int×Int×Int)) (vB2:(List api_Token)) (vB7:Int) (vB8:Int) (vB9:Int) (vB10:(List api_Stmt)) (vC1:Bool):Option ((List api_Stmt)×Int×Int×Int):=
 if vC1=true then
  (Z3w N (leadlineref04_P.mk vB2 vB7 vB8 vB9 vB10) 0 0).bind fun r13=>
  kZ4e r13.L r13.At r13.E r13.Pos r13.Out
 else
  kZ4c vB2 vB7 vB8 vB9 vB10
def Z4e (N:Nat) (kZ4c:(List api_Token)→Int→Int→Int→(List api_Stmt)→Option ((List api_Stmt)×Int×Int×Int)):Nat→(List api_Token)→Int→Int→Int→(List api_Stmt)→Option ((List api_Stmt)×Int×Int×Int)
 | 0,_,_,_,_,_=>none
 | n+1,vB2,vB7,vB8,vB9,vB10=>
  if vB8=0 then
   (Z1s N vB2 vB7 [125]).bind fun r10=>
   (Z4d N kZ4c (Z4e N kZ4c n) vB2 vB7 vB8 vB9 vB10) (!r10)
  else
   (Z4d N kZ4c (Z4e N kZ4c n) vB2 vB7 vB8 vB9 vB10) false
def Z4c (N:Nat) (p1:(List api_Token)) (p7:Int) (vA2:(List api_Token)) (vA7:Int) (vA8:Int) (vA9:Int) (vA10:(List api_Stmt)):Option ((List api_Stmt)×Int×Int×Int):=
 (Z3s N (leadlineref04_P.mk vA2 vA7 vA8 vA9 vA10) [125]).bind fun r28=>
 if r28.E≠0 then
  some ([],0,r28.E,r28.Pos)
 else
  if 40 < (r28.Out.length:Int) then
   (getI p1 p7).bind fun x45=>
   some ([],0,2,x45.At)
  else
   some (r28.Out,r28.At,0,0)
def Z4b (N:Nat) (p1:(List api_Token)) (p6:Int) (p7:Int):Option ((List api_Stmt)×Int×Int×Int):=
 (Z4e N (Z4c N p1 p7)) N p1 p6 0 0 []
def Z5b (N:Nat) (kZ59:(List api_Token)→Int→Int→Int→(List Str)→Option (api_Thread×leadlineref05_In)) (r29:((List api_Cell)×leadlineref05_In)):Nat→(List Str)→Int→Option (api_Thread×leadlineref05_In)
 | 0,_,_=>none
 | n+1,vB1,vB7=>
  if vB7 < (r29.1.length:Int) then
   (getI r29.1 vB7).bind fun x41=>
   (Cx 16 vB1 ([x41.Name]:List Str)).bind fun l50=>
   (Z5b N kZ59 r29 n) l50 (IntKind.i64.wrap (vB7+1))
  else
   kZ59 r29.2.L r29.2.At r29.2.E r29.2.Pos vB1
def Z5a (p7:Str) (p13:Int) (vA1:(List api_Token)) (vA9:(List Str)) (vA16:Int) (vA17:Int) (vA18:Int) (vA19:(List api_Stmt)):Option (api_Thread×leadlineref05_In):=
 some ((api_Thread.mk p7 vA9 vA19 p13),(leadlineref05_In.mk vA1 vA16 vA17 vA18))
def Z59 (N:Nat) (p1:leadlineref05_In) (p7:Str) (p8:(List api_Stmt)) (p13:Int) (vA1:(List api_Token)) (vA6:Int) (vA7:Int) (vA8:Int) (vA9:(List Str)):Option (api_Thread×leadlineref05_In):=
 if vA7=0 then
  (Z4b N vA1 vA6 p1.At).bind fun r57=>
  (Z5a p7 p13 vA1 vA9) r57.2.1 r57.2.2.1 r57.2.2.2 r57.1
 else
  (Z5a p7 p13 vA1 vA9) vA6 vA7 vA8 p8
def Z58 (N:Nat) (p1:leadlineref05_In) (p7:Str) (p8:(List api_Stmt)) (p13:Int):Option (api_Thread×leadlineref05_In):=
 (Z4z N p1 [123]).bind fun r16=>
 (Z4x N r16 [114,101,103]).bind fun r22=>
 if r22.1=true then
  (Z52 N r22.2 false).bind fun r29=>
  (Z5b N (Z59 N p1 p7 p8 p13) r29) N [] 0
 else
  (Z59 N p1 p7 p8 p13) r22.2.L r22.2.At r22.2.E r22.2.Pos []
def Z4w (N:Nat) (p1:leadlineref05_In) (p7:Int):Option (api_Claim×leadlineref05_In):=
 (Z31 N p1.L p1.At).bind fun rz9=>
 if rz9.2.2.1≠0 then
  some ((api_Claim.mk [] 0),(leadlineref05_In.mk p1.L p1.At rz9.2.2.1 rz9.2.2.2))
 else
  (Z4z N (leadlineref05_In.mk p1.L rz9.2.1 p1.E p1.Pos) [59]).bind fun r20=>
  some ((api_Claim.mk rz9.1 p7),r20)
def Z5l (N:Nat) (kZ5d:(List api_Token)→Int→Int→Int→(List (List api_Cell))→Option (api_Prog×Int×Int)):Nat→(List api_Token)→Int→Int→Int→(List (List api_Cell))→Option (api_Prog×Int×Int)
 | 0,_,_,_,_,_=>none
 | n+1,vB2,vB7,vB8,vB9,vB10=>
  (Z4x N (leadlineref05_In.mk vB2 vB7 vB8 vB9) [108,105,110,101]).bind fun r17=>
  if r17.1=true then
   (Z52 N r17.2 true).bind fun r24=>
   (Cx 24 vB10 ([r24.1]:List (List api_Cell))).bind fun l42=>
   (Z5l N kZ5d n) r24.2.L r24.2.At r24.2.E r24.2.Pos l42
  else
   kZ5d r17.2.L r17.2.At r17.2.E r17.2.Pos vB10
def Z5m (N:Nat) (kZ5g:(List api_Token)→Int→Int→Int→(List api_Cell)→Option (api_Prog×Int×Int)):Nat→(List api_Token)→Int→Int→Int→(List api_Cell)→Option (api_Prog×Int×Int)
 | 0,_,_,_,_,_=>none
 | n+1,vB16,vB21,vB22,vB23,vB24=>
  (Z4x N (leadlineref05_In.mk vB16 vB21 vB22 vB23) [118,111,108]).bind fun r48=>
  if r48.1=true then
   (Z52 N r48.2 true).bind fun r55=>
   (Cx 32 vB24 r55.1).bind fun l66=>
   (Z5m N kZ5g n) r55.2.L r55.2.At r55.2.E r55.2.Pos l66
  else
   kZ5g r48.2.L r48.2.At r48.2.E r48.2.Pos vB24
def Z5n (N:Nat) (kZ5h:(List api_Token)→Int→Int→Int→(List api_Cell)→Option (api_Prog×Int×Int)):Nat→(List api_Token)→Int→Int→Int→(List api_Cell)→Option (api_Prog×Int×Int)
 | 0,_,_,_,_,_=>none
 | n+1,vB30,vB35,vB36,vB37,vB38=>
  (Z4x N (leadlineref05_In.mk vB30 vB35 vB36 vB37) [108,111,99,107]).bind fun r72=>
  if r72.1=true then
   (Z52 N r72.2 false).bind fun r79=>
   (Cx 32 vB38 r79.1).bind fun l90=>
   (Z5n N kZ5h n) r79.2.L r79.2.At r79.2.E r79.2.Pos l90
  else
   kZ5h r72.2.L r72.2.At r72.2.E r72.2.Pos vB38
def Z5o (N:Nat) (kZ5i:(List api_Token)→Int→Int→Int→(List api_Thread)→Option (api_Prog×Int×Int)):Nat→(List api_Token)→Int→Int→Int→(List api_Thread)→Option (api_Prog×Int×Int)
 | 0,_,_,_,_,_=>none
 | n+1,vB45,vB50,vB51,vB52,vB53=>
  (Z4x N (leadlineref05_In.mk vB45 vB50 vB51 vB52) [116,104,114,101,97,100]).bind fun r96=>
  if r96.1=true then
   (Z50 N r96.2).bind fun r103=>
   (Z58 N r103.2 r103.1.Name ([]:(List api_Stmt)) r103.1.At).bind fun r110=>
   (Cx 72 vB53 ([r110.1]:List api_Thread)).bind fun l133=>
   (Z5o N kZ5i n) r110.2.L r110.2.At r110.2.E r110.2.Pos l133
  else
   kZ5i r96.2.L r96.2.At r96.2.E r96.2.Pos vB53
def Z5k (N:Nat) (kZ5e:(List api_Token)→Int→Int→Int→(List api_Claim)→Option (api_Prog×Int×Int)) (rz3:((List api_Token)×Int×Int)):Nat→(List api_Token)→Int→Int→Int→(List api_Claim)→Option (api_Prog×Int×Int)
 | 0,_,_,_,_,_=>none
 | n+1,vB60,vB65,vB66,vB67,vB68=>
  (Z4x N (leadlineref05_In.mk vB60 vB65 vB66 vB67) [97,108,119,97,121,115]).bind fun r181=>
  if r181.1=true then
   (getI rz3.1 (IntKind.i64.wrap (r181.2.At - 1))).bind fun x188=>
   (Z4w N r181.2 x188.At).bind fun r193=>
   (Cx 32 vB68 ([r193.1]:List api_Claim)).bind fun l212=>
   (Z5k N kZ5e rz3 n) r193.2.L r193.2.At r193.2.E r193.2.Pos l212
  else
   kZ5e r181.2.L r181.2.At r181.2.E r181.2.Pos vB68
def Z5f (vA10:(List (List api_Cell))) (vA24:(List api_Cell)) (vA38:(List api_Cell)) (vA53:(List api_Thread)) (vA68:(List api_Thread)) (vA83:(List api_Claim)) (_:(List api_Token)) (_:Int) (vA95:Int) (vA96:Int):Option (api_Prog×Int×Int):=
 if vA95≠0 then
  some ((api_Prog.mk [] [] [] [] [] []),vA95,vA96)
 else
  some ((api_Prog.mk vA10 vA24 vA38 vA53 vA68 vA83),0,0)
def Z5e (N:Nat) (rz3:((List api_Token)×Int×Int)) (vA10:(List (List api_Cell))) (vA24:(List api_Cell)) (vA38:(List api_Cell)) (vA53:(List api_Thread)) (vA68:(List api_Thread)) (vA75:(List api_Token)) (vA80:Int) (vA81:Int) (vA82:Int) (vA83:(List api_Claim)):Option (api_Prog×Int×Int):=
 if vA80 < (rz3.1.length:Int) then
  (Z4u N (leadlineref05_In.mk vA75 vA80 vA81 vA82)).bind fun r219=>
  (Z5f vA10 vA24 vA38 vA53 vA68 vA83) r219.L r219.At r219.E r219.Pos
 else
  (Z5f vA10 vA24 vA38 vA53 vA68 vA83) vA75 vA80 vA81 vA82
def Z5j (N:Nat) (rz3:((List api_Token)×Int×Int)) (vA10:(List (List api_Cell))) (vA24:(List api_Cell)) (vA38:(List api_Cell)) (vA53:(List api_Thread)) (vA60:(List api_Token)) (vA65:Int) (vA66:Int) (vA67:Int) (vA68:(List api_Thread)):Option (api_Prog×Int×Int):=
 (Z5k N (Z5e N rz3 vA10 vA24 vA38 vA53 vA68) rz3) N vA60 vA65 vA66 vA67 []
def Z5i (N:Nat) (rz3:((List api_Token)×Int×Int)) (vA10:(List (List api_Cell))) (vA24:(List api_Cell)) (vA38:(List api_Cell)) (vA45:(List api_Token)) (vA50:Int) (vA51:Int) (vA52:Int) (vA53:(List api_Thread)):Option (api_Prog×Int×Int):=
 (Z4x N (leadlineref05_In.mk vA45 vA50 vA51 vA52) [114,101,99,111,118,101,114]).bind fun r139=>
 if r139.1=true then
  (getI rz3.1 (IntKind.i64.wrap (r139.2.At - 1))).bind fun x146=>
  (Z58 N r139.2 [] ([]:(List api_Stmt)) x146.At).bind fun r151=>
  (Cx 72 ([]:List api_Thread) ([r151.1]:List api_Thread)).bind fun l174=>
  (Z5j N rz3 vA10 vA24 vA38 vA53) r151.2.L r151.2.At r151.2.E r151.2.Pos l174
 else
  (Z5j N rz3 vA10 vA24 vA38 vA53) r139.2.L r139.2.At r139.2.E r139.2.Pos []
def Z5h (N:Nat) (rz3:((List api_Token)×Int×Int)) (vA10:(List (List api_Cell))) (vA24:(List api_Cell)) (vA30:(List api_Token)) (vA35:Int) (vA36:Int) (vA37:Int) (vA38:(List api_Cell)):Option (api_Prog×Int×Int):=
 (Z5o N (Z5i N rz3 vA10 vA24 vA38)) N vA30 vA35 vA36 vA37 []
def Z5g (N:Nat) (rz3:((List api_Token)×Int×Int)) (vA10:(List (List api_Cell))) (vA16:(List api_Token)) (vA21:Int) (vA22:Int) (vA23:Int) (vA24:(List api_Cell)):Option (api_Prog×Int×Int):=
 (Z5n N (Z5h N rz3 vA10 vA24)) N vA16 vA21 vA22 vA23 []
def Z5d (N:Nat) (rz3:((List api_Token)×Int×Int)) (vA2:(List api_Token)) (vA7:Int) (vA8:Int) (vA9:Int) (vA10:(List (List api_Cell))):Option (api_Prog×Int×Int):=
 (Z5m N (Z5g N rz3 vA10)) N vA2 vA7 vA8 vA9 []
def Z5c (N:Nat) (p1:Str):Option (api_Prog×Int×Int):=
 (Z22 N p1).bind fun rz3=>
 if rz3.2.1≠0 then
  some ((api_Prog.mk [] [] [] [] [] []),rz3.2.1,rz3.2.2)
 else
  (Z5l N (Z5d N rz3)) N rz3.1 0 0 0 []
def Z6r (N:Nat) (kZ6q:Option Bool) (p1:(List Int)) (p6:(List Int)):Nat→Int→Option Bool
 | 0,_=>none
 | n+1,vB1=>
  if vB1 < (p1.length:Int) then
   (getI p1 vB1).bind fun x13=>
   (getI p6 vB1).bind fun x18=>
   if x13≠x18 then
    some false
   else
    (Z6r N kZ6q p1 p6 n) (IntKind.i64.wrap (vB1+1))
  else
   kZ6q
def Z6q  : Option Bool:=
 some true
def Z6p (N:Nat) (p1:(List Int)) (p6:(List Int)):Option Bool:=
 if (p1.length:Int)≠(p6.length:Int) then
  some false
 else
  (Z6r N Z6q p1 p6) N 0
def Zg (_:Nat)  : Option (Arr 15 Int):=
 some (⟨[0,0,1,2,1,2,2,2,1,1,1,0,0,0,0],rfl⟩:(Arr 15 Int))
def Z0 (N:Nat) (p1:Int):Option Int:=
 if ((decide (p1 < 0)) || (decide (15≤p1)))=true then
  some 0
 else
  (Zg N).bind fun rz3=>
  (getI rz3.l p1).bind fun x12=>
  some x12
def Zj (kZk:Int→Int→Option Int) (xz7:api_Stmt) (vB2:Int) (vC1:Int):Option Int:=
 kZk vC1 (IntKind.i64.wrap ((IntKind.i64.wrap ((IntKind.i64.wrap (vB2+1))+xz7.Body))+xz7.Else))
def Zk (rf:(List api_Stmt)→Option Int) (N:Nat) (kZi:Int→Option Int) (p1:(List api_Stmt)):Nat→Int→Int→Option Int
 | 0,_,_=>none
 | n+1,vB1,vB2=>
  if vB2 < (p1.length:Int) then
   (getI p1 vB2).bind fun xz7=>
   if xz7.Kind=11 then
    (Ci p1 (IntKind.i64.wrap (vB2+1)) (IntKind.i64.wrap ((IntKind.i64.wrap (vB2+1))+xz7.Body))).bind fun l22=>
    (rf l22).bind fun r30=>
    (Ci p1 (IntKind.i64.wrap ((IntKind.i64.wrap (vB2+1))+xz7.Body)) (IntKind.i64.wrap ((IntKind.i64.wrap ((IntKind.i64.wrap (vB2+1))+xz7.Body))+xz7.Else))).bind fun l32=>
    (rf l32).bind fun r40=>
    (Zj (Zk rf N kZi p1 n) xz7 vB2) (IntKind.i64.wrap (vB1+(max r30 r40)))
   else
    if xz7.Kind=12 then
     (Ci p1 (IntKind.i64.wrap (vB2+1)) (IntKind.i64.wrap ((IntKind.i64.wrap (vB2+1))+xz7.Body))).bind fun l43=>
     (rf l43).bind fun r51=>
     (Zj (Zk rf N kZi p1 n) xz7 vB2) (IntKind.i64.wrap (vB1+(IntKind.i64.wrap (xz7.N * r51))))
    else
     (Z0 N xz7.Kind).bind fun r53=>
     (Zj (Zk rf N kZi p1 n) xz7 vB2) (IntKind.i64.wrap (vB1+r53))
  else
   kZi vB1
def Zi (vA1:Int):Option Int:=
 some vA1
def Zh:Nat→(List api_Stmt)→Option Int
 | 0,_=>none
 | N+1,p1=>
  (Zk (Zh N) N Zi p1) N 0 0
def Z8 (N:Nat) (p1:(List api_Stmt)):Option Int:=
 (Zbm N p1).bind fun rz6=>
 if rz6=true then
  (Zh N p1).bind fun rz9=>
  some rz9
 else
  some (-1)
def Z7q (vA2:Bool):Option Int:=
 if vA2=true then
  some 2
 else
  some 0
def Z7p (p1:Int) (vA1:Bool):Option Int:=
 if vA1=true then
  some 1
 else
  if p1=3 then
   Z7q (decide (p1=3))
  else
   if p1=5 then
    Z7q (decide (p1=5))
   else
    if p1=6 then
     Z7q (decide (p1=6))
    else
     Z7q (decide (p1=7))
def Z7o (N:Nat) (p1:Int):Option Int:=
 if p1=2 then
  (Z7p p1) (decide (p1=2))
 else
  if p1=4 then
   (Z7p p1) (decide (p1=4))
  else
   if p1=8 then
    (Z7p p1) (decide (p1=8))
   else
    if p1=9 then
     (Z7p p1) (decide (p1=9))
    else
     (Z7p p1) (decide (p1=10))
def Z7y (rf:(List api_Stmt)→Option Int) (p1:(List api_Stmt)) (xz7:api_Stmt) (vA2:Int):Option Int:=
 (Ci p1 (IntKind.i64.wrap ((IntKind.i64.wrap (1+xz7.Body))+xz7.Else)) (p1.length:Int)).bind fun l55=>
 (rf l55).bind fun r63=>
 some (IntKind.i64.wrap (vA2+r63))
def Z7x (rf:(List api_Stmt)→Option Int) (N:Nat) (p1:(List api_Stmt)) (xz7:api_Stmt) (vA1:Int):Option Int:=
 if xz7.Kind=12 then
  (Ci p1 1 (IntKind.i64.wrap (1+xz7.Body))).bind fun l45=>
  (rf l45).bind fun r53=>
  (Z7y rf p1 xz7) (IntKind.i64.wrap (xz7.N * r53))
 else
  (Z7y rf p1 xz7) vA1
def Z7w:Nat→(List api_Stmt)→Option Int
 | 0,_=>none
 | N+1,p1=>
  if (p1.length:Int)=0 then
   some 0
  else
   (getI p1 0).bind fun xz7=>
   (Z7o N xz7.Kind).bind fun r21=>
   if xz7.Kind=11 then
    (Ci p1 1 (IntKind.i64.wrap (1+xz7.Body))).bind fun l24=>
    ((Z7w N) l24).bind fun r32=>
    (Ci p1 (IntKind.i64.wrap (1+xz7.Body)) (IntKind.i64.wrap ((IntKind.i64.wrap (1+xz7.Body))+xz7.Else))).bind fun l34=>
    ((Z7w N) l34).bind fun r42=>
    (Z7x (Z7w N) N p1 xz7) (max r32 r42)
   else
    (Z7x (Z7w N) N p1 xz7) r21
def Z7v (N:Nat) (p1:(List api_Stmt)):Option Int:=
 (Z4f N p1).bind fun rz6=>
 if rz6=true then
  (Z7w N p1).bind fun rz9=>
  some rz9
 else
  some (-1)
def Zf (rf:(List api_Stmt)→(List Int)→Int→Option (List Int)) (N:Nat) (kZb:(List Int)→Option (List Int)) (y14:Int) (x19:api_Stmt) (l33:(List api_Stmt)):Nat→(List Int)→Int→Option (List Int)
 | 0,_,_=>none
 | n+1,vC3,vC9=>
  if vC9 < x19.N then
   (rf l33 vC3 y14).bind fun r75=>
   (Zf rf N kZb y14 x19 l33 n) r75 (IntKind.i64.wrap (vC9+1))
  else
   kZb vC3
def Zd (rf:(List api_Stmt)→(List Int)→Int→Option (List Int)) (N:Nat) (kZb:(List Int)→Option (List Int)) (y14:Int) (x19:api_Stmt) (l33:(List api_Stmt)) (vA1:(List Int)) (vC2:Bool):Option (List Int):=
 if vC2=true then
  (Zf rf N kZb y14 x19 l33) N vA1 0
 else
  (Z0 N x19.Kind).bind fun r82=>
  if 0 < r82 then
   (Cx 8 vA1 ([x19.Kind]:List Int)).bind fun l88=>
   kZb l88
  else
   kZb vA1
def Zc (rf:(List api_Stmt)→(List Int)→Int→Option (List Int)) (N:Nat) (kZb:(List Int)→Option (List Int)) (y14:Int) (x19:api_Stmt) (l33:(List api_Stmt)) (l41:(List api_Stmt)) (vA1:(List Int)) (vC1:Bool):Option (List Int):=
 if vC1=true then
  (rf l41 vA1 y14).bind fun r55=>
  kZb r55
 else
  if x19.Kind=11 then
   (rf l33 vA1 y14).bind fun r63=>
   kZb r63
  else
   if x19.Kind=12 then
    (Zh N l33).bind fun r71=>
    (Zd rf N kZb y14 x19 l33 vA1) (decide (0 < r71))
   else
    (Zd rf N kZb y14 x19 l33 vA1) false
def Zb (kZe:(List Int)→Int→Option (List Int)) (x19:api_Stmt) (vA7:Int) (vB1:(List Int)):Option (List Int):=
 kZe vB1 (IntKind.i64.wrap ((IntKind.i64.wrap ((IntKind.i64.wrap (vA7+1))+x19.Body))+x19.Else))
def Ze (rf:(List api_Stmt)→(List Int)→Int→Option (List Int)) (N:Nat) (p1:(List api_Stmt)) (y14:Int):Nat→(List Int)→Int→Option (List Int)
 | 0,_,_=>none
 | n+1,vA1,vA7=>
  if ((decide (vA7 < (p1.length:Int))) && (decide ((vA1.length:Int) < y14)))=true then
   (getI p1 vA7).bind fun x19=>
   (Ci p1 (IntKind.i64.wrap (vA7+1)) (IntKind.i64.wrap ((IntKind.i64.wrap (vA7+1))+x19.Body))).bind fun l33=>
   (Ci p1 (IntKind.i64.wrap ((IntKind.i64.wrap (vA7+1))+x19.Body)) (IntKind.i64.wrap ((IntKind.i64.wrap ((IntKind.i64.wrap (vA7+1))+x19.Body))+x19.Else))).bind fun l41=>
   if x19.Kind=11 then
    (Zh N l41).bind fun r50=>
    (Zh N l33).bind fun r52=>
    (Zc rf N (Zb (Ze rf N p1 y14 n) x19 vA7) y14 x19 l33 l41 vA1) (decide (r52 < r50))
   else
    (Zc rf N (Zb (Ze rf N p1 y14 n) x19 vA7) y14 x19 l33 l41 vA1) false
  else
   some vA1
def Za:Nat→(List api_Stmt)→(List Int)→Int→Option (List Int)
 | 0,_,_,_=>none
 | N+1,p1,p6,y14=>
  (Ze (Za N) N p1 y14) N p6 0
def Z9 (N:Nat) (p1:(List api_Stmt)) (p6:Int):Option (List Int):=
 (Zbm N p1).bind fun rz8=>
 if rz8=true then
  (Za N p1 [] p6).bind fun r20=>
  some r20
 else
  some []
def Z83 (rf:(List api_Stmt)→Int→(List Int)→Option (List Int)) (N:Nat) (kZ81:(List Int)→Option (List Int)) (p1:(List api_Stmt)) (p6:Int) (x14:api_Stmt):Nat→(List Int)→Int→Option (List Int)
 | 0,_,_=>none
 | n+1,vB2,vB8=>
  if vB8 < x14.N then
   (Ci p1 1 (IntKind.i64.wrap (1+x14.Body))).bind fun l93=>
   (rf l93 p6 vB2).bind fun r101=>
   (Z83 rf N kZ81 p1 p6 x14 n) r101 (IntKind.i64.wrap (vB8+1))
  else
   kZ81 vB2
def Z82 (rf:(List api_Stmt)→Int→(List Int)→Option (List Int)) (N:Nat) (kZ81:(List Int)→Option (List Int)) (p1:(List api_Stmt)) (p6:Int) (p7:(List Int)) (x14:api_Stmt) (vB1:Bool):Option (List Int):=
 if vB1=true then
  (Z83 rf N kZ81 p1 p6 x14) N p7 0
 else
  (Z7o N x14.Kind).bind fun r108=>
  if 0 < r108 then
   (Cx 8 p7 ([x14.Kind]:List Int)).bind fun l114=>
   kZ81 l114
  else
   kZ81 p7
def Z81 (rf:(List api_Stmt)→Int→(List Int)→Option (List Int)) (p1:(List api_Stmt)) (p6:Int) (x14:api_Stmt) (vA1:(List Int)):Option (List Int):=
 (Ci p1 (IntKind.i64.wrap ((IntKind.i64.wrap (1+x14.Body))+x14.Else)) (p1.length:Int)).bind fun l120=>
 (rf l120 p6 vA1).bind fun r128=>
 some r128
def Z80:Nat→(List api_Stmt)→Int→(List Int)→Option (List Int)
 | 0,_,_,_=>none
 | N+1,p1,p6,p7=>
  if ((decide ((p1.length:Int)=0)) || (decide (p6≤(p7.length:Int))))=true then
   some p7
  else
   (getI p1 0).bind fun x14=>
   if x14.Kind=11 then
    (Ci p1 (IntKind.i64.wrap (1+x14.Body)) (IntKind.i64.wrap ((IntKind.i64.wrap (1+x14.Body))+x14.Else))).bind fun l29=>
    (Z7w N l29).bind fun r37=>
    (Ci p1 1 (IntKind.i64.wrap (1+x14.Body))).bind fun l39=>
    (Z7w N l39).bind fun r47=>
    if r47 < r37 then
     (Ci p1 (IntKind.i64.wrap (1+x14.Body)) (IntKind.i64.wrap ((IntKind.i64.wrap (1+x14.Body))+x14.Else))).bind fun l50=>
     ((Z80 N) l50 p6 p7).bind fun r58=>
     (Z81 (Z80 N) p1 p6 x14) r58
    else
     (Ci p1 1 (IntKind.i64.wrap (1+x14.Body))).bind fun l65=>
     ((Z80 N) l65 p6 p7).bind fun r73=>
     (Z81 (Z80 N) p1 p6 x14) r73
   else
    if x14.Kind=12 then
     (Ci p1 1 (IntKind.i64.wrap (1+x14.Body))).bind fun l81=>
     (Z7w N l81).bind fun r89=>
     (Z82 (Z80 N) N (Z81 (Z80 N) p1 p6 x14) p1 p6 p7 x14) (decide (0 < r89))
    else
     (Z82 (Z80 N) N (Z81 (Z80 N) p1 p6 x14) p1 p6 p7 x14) false
def Z7z (N:Nat) (p1:(List api_Stmt)) (p6:Int):Option (List Int):=
 (Z4f N p1).bind fun rz7=>
 if rz7=true then
  (Z80 N p1 p6 ([]:(List Int))).bind fun r13=>
  some r13
 else
  some []
def Z5 (N:Nat) (kZ2:Int→Option Int) (p1:api_Prog):Nat→Int→Int→Option Int
 | 0,_,_=>none
 | n+1,vB1,vB2=>
  if vB2 < (p1.Threads.length:Int) then
   (getI p1.Threads vB2).bind fun x34=>
   (Zh N x34.Body).bind fun r48=>
   (Z5 N kZ2 p1 n) (IntKind.i64.wrap (vB1+r48)) (IntKind.i64.wrap (vB2+1))
  else
   kZ2 vB1
def Z7 (N:Nat) (kZ4:Int→Option Int) (p1:api_Prog):Nat→Int→Int→Option Int
 | 0,_,_=>none
 | n+1,vD1,vD2=>
  if vD2 < (p1.Recover.length:Int) then
   (getI p1.Recover vD2).bind fun x52=>
   (Zh N x52.Body).bind fun r66=>
   (Z7 N kZ4 p1 n) (IntKind.i64.wrap (vD1+r66)) (IntKind.i64.wrap (vD2+1))
  else
   kZ4 vD1
def Z4 (kZ6:Int→Int→Option Int) (vB4:Int) (vC1:Int):Option Int:=
 kZ6 vC1 (IntKind.i64.wrap (vB4+1))
def Z6 (N:Nat) (kZ3:Int→Option Int) (p1:api_Prog) (p4:Int):Nat→Int→Int→Option Int
 | 0,_,_=>none
 | n+1,vB3,vB4=>
  if vB4 < p4 then
   (Z7 N (Z4 (Z6 N kZ3 p1 p4 n) vB4) p1) N (IntKind.i64.wrap (vB3+1)) 0
  else
   kZ3 vB3
def Z3 (vA2:Int):Option Int:=
 some vA2
def Z2 (N:Nat) (p1:api_Prog) (p4:Int) (vA1:Int):Option Int:=
 (Z6 N Z3 p1 p4) N vA1 0
def Z1 (N:Nat) (p1:api_Prog) (p4:Int):Option Int:=
 (Z84 N p1).bind fun r30=>
 if (((decide (r30.1≠0)) || (decide (p4 < 0))) || (decide (8 < p4)))=true then
  some (-1)
 else
  (Z5 N (Z2 N p1 p4) p1) N 1 0
def Z7u (N:Nat) (kZ7s:Int→Option Int) (p1:api_Prog):Nat→Int→Int→Option Int
 | 0,_,_=>none
 | n+1,vB1,vB2=>
  if vB2 < (p1.Threads.length:Int) then
   (getI p1.Threads vB2).bind fun x34=>
   (Z7w N x34.Body).bind fun r47=>
   (Z7u N kZ7s p1 n) (IntKind.i64.wrap (vB1+r47)) (IntKind.i64.wrap (vB2+1))
  else
   kZ7s vB1
def Z7t (p4:Int) (vA1:Int) (vA2:Int):Option Int:=
 some (IntKind.i64.wrap (vA1+(IntKind.i64.wrap (p4 * vA2))))
def Z7s (N:Nat) (p1:api_Prog) (p4:Int) (vA1:Int):Option Int:=
 if 0 < (p1.Recover.length:Int) then
  (getI p1.Recover 0).bind fun x50=>
  (Z7w N x50.Body).bind fun r63=>
  (Z7t p4 vA1) (IntKind.i64.wrap (1+r63))
 else
  (Z7t p4 vA1) 1
def Z7r (N:Nat) (p1:api_Prog) (p4:Int):Option Int:=
 (Z6b N p1).bind fun r30=>
 if (((decide (r30.1≠0)) || (decide (p4 < 0))) || (decide (8 < p4)))=true then
  some (-1)
 else
  (Z7u N (Z7s N p1 p4) p1) N 1 0
def Z1r (N:Nat)  : Option Bool:=
 (Z5c N [108,105,110,101,32,97,59,32,116,104,114,101,97,100,32,116,32,123,32,114,101,103,32,114,59,32,108,111,111,112,32,51,32,123,32,115,116,111,114,101,32,97,32,61,32,49,59,32,98,114,101,97,107,59,32,125,32,105,102,32,114,32,123,32,108,111,97,100,32,114,32,61,32,97,59,32,125,32,101,108,115,101,32,123,32,109,102,101,110,99,101,59,32,102,108,117,115,104,32,97,59,32,125,32,125,32,114,101,99,111,118,101,114,32,123,32,114,101,103,32,114,59,32,108,111,97,100,32,114,32,61,32,97,59,32,125]).bind fun rz1=>
 (Gx (!(decide ((rz1.1.Threads.length:Int)≠1)))).bind fun _=>
 (getI rz1.1.Threads 0).bind fun x35=>
 (Z9 N x35.Body 9).bind fun r48=>
 (Z8 N x35.Body).bind fun r55=>
 (Gx (decide (r55=9))).bind fun _=>
 (Z1 N rz1.1 0).bind fun r58=>
 (Gx (decide (r58=10))).bind fun _=>
 (Z1 N rz1.1 2).bind fun r61=>
 (Gx (decide (r61=14))).bind fun _=>
 (Z1 N rz1.1 9).bind fun r64=>
 (Gx (decide (r64=(-1)))).bind fun _=>
 (Z1 N (api_Prog.mk [] [] [] [] [] []) 0).bind fun r67=>
 (Gx (decide (r67=(-1)))).bind fun _=>
 (Z6p N r48 ([3,3,3,8,5]:List Int)).bind fun r73=>
 (Gx r73).bind fun _=>
 (Z0 N 3).bind fun r76=>
 (Gx (decide (r76=2))).bind fun _=>
 (Z0 N 2).bind fun r79=>
 (Gx (decide (r79=1))).bind fun _=>
 (Z0 N 14).bind fun r82=>
 (Gx (decide (r82=0))).bind fun _=>
 (Z0 N (-1)).bind fun r85=>
 (Gx (decide (r85=0))).bind fun _=>
 (Ci x35.Body 1 2).bind fun l88=>
 (Z8 N l88).bind fun r96=>
 (Gx (decide (r96=2))).bind fun _=>
 (Ci x35.Body 2 3).bind fun l99=>
 (Z8 N l99).bind fun r107=>
 (Gx (decide (r107=(-1)))).bind fun _=>
 (Z9 N x35.Body 0).bind fun r110=>
 some (decide ((r110.length:Int)=0))
def Z1p (kZ1q:Int→Option Bool) (vB1:Int) (vC1:Bool):Option Bool:=
 (Gx (!vC1)).bind fun _=>
 kZ1q (IntKind.i64.wrap (vB1+1))
def Z1q (N:Nat) (kZ1o:Option Bool) (p5:Int) (r33:api_Prog):Nat→Int→Option Bool
 | 0,_=>none
 | n+1,vB1=>
  if vB1 < (r33.Threads.length:Int) then
   (getI r33.Threads vB1).bind fun x66=>
   (Z8 N x66.Body).bind fun r79=>
   (Z7v N x66.Body).bind fun r81=>
   if r79≠r81 then
    (Z1p (Z1q N kZ1o p5 r33 n) vB1) true
   else
    (Z9 N x66.Body (min p5 200)).bind fun r84=>
    (Z7z N x66.Body (min p5 200)).bind fun r91=>
    (Z6p N r84 r91).bind fun r98=>
    (Z1p (Z1q N kZ1o p5 r33 n) vB1) (!r98)
  else
   kZ1o
def Z1o (N:Nat) (p4:Int) (p6:Int) (r33:api_Prog):Option Bool:=
 (Z1 N r33 p4).bind fun r101=>
 (Z7r N r33 p4).bind fun r103=>
 if r101=r103 then
  (Z0 N p6).bind fun r106=>
  (Z7o N p6).bind fun r108=>
  if r106=r108 then
   (Z1r N).bind fun r111=>
   some r111
  else
   some false
 else
  some false
def Z1n (N:Nat) (p1:api_Prog) (p4:Int) (p5:Int) (p6:Int):Option Bool:=
 (Z17 N p1).bind fun r33=>
 (Z1q N (Z1o N p4 p6 r33) p5 r33) N 0
end Go.MD.LB
