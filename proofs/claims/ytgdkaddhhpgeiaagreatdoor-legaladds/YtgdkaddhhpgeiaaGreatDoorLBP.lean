/- Plain functions, lifted by program from the seat lb. No condition: definitions. -/
import Derived.Test.YtgdkaddhhpgeiaaGreatDoorMD
import Derived.Lib.IndexMore
namespace Go.MD.LB
open Go Go.MD
def Qk (s p:Str):Option (List Str):=
 if s=[108,105,110,101,32,118,111,108,32,108,111,99,107,32,116,104,114,101,97,100,32,114,101,103,32,108,111,97,100,32,115,116,111,114,101,32,99,97,115,32,102,108,117,115,104,32,111,112,116,32,115,102,101,110,99,101,32,109,102,101,110,99,101,32,116,97,107,101,32,103,105,118,101,32,105,102,32,101,108,115,101,32,108,111,111,112,32,98,114,101,97,107,32,99,104,101,99,107,32,114,101,99,111,118,101,114,32,97,108,119,97,121,115]∧p=[32] then some [[108,105,110,101],[118,111,108],[108,111,99,107],[116,104,114,101,97,100],[114,101,103],[108,111,97,100],[115,116,111,114,101],[99,97,115],[102,108,117,115,104],[111,112,116],[115,102,101,110,99,101],[109,102,101,110,99,101],[116,97,107,101],[103,105,118,101],[105,102],[101,108,115,101],[108,111,111,112],[98,114,101,97,107],[99,104,101,99,107],[114,101,99,111,118,101,114],[97,108,119,97,121,115]] else
 none
def Z0 (s p:Str):Option Bool:=if s.length < 4294967281 then some (Lib.contains s p) else none
structure api_Cell where
 Name:Str
 N:Int
 At:Int
 deriving DecidableEq
structure api_Node where
 Op:Int
 N:Int
 Name:Str
 At:Int
 deriving DecidableEq
structure api_Stmt where
 Kind:Int
 Reg:Str
 Name:Str
 E:(List api_Node)
 F:(List api_Node)
 N:Int
 Body:Int
 Else:Int
 At:Int
 deriving DecidableEq
structure api_Thread where
 Name:Str
 Regs:(List Str)
 Body:(List api_Stmt)
 At:Int
 deriving DecidableEq
structure api_Claim where
 E:(List api_Node)
 At:Int
 deriving DecidableEq
structure api_Prog where
 Lines:(List (List api_Cell))
 Vols:(List api_Cell)
 Locks:(List api_Cell)
 Threads:(List api_Thread)
 Recover:(List api_Thread)
 Claims:(List api_Claim)
 deriving DecidableEq
structure legal_use where
 name:Str
 at':Int
 may:(List Int)
 deriving DecidableEq
structure api_Token where
 Kind:Int
 Text:Str
 N:Int
 At:Int
 deriving DecidableEq
structure leadlineref05_In where
 L:(List api_Token)
 At:Int
 E:Int
 Pos:Int
 deriving DecidableEq
structure leadlineref04_P where
 L:(List api_Token)
 At:Int
 E:Int
 Pos:Int
 Out:(List api_Stmt)
 deriving DecidableEq
structure leadlineref03_Read where
 L:(List api_Node)
 To:Int
 E:Int
 At:Int
 deriving DecidableEq
structure leadlinelaw07_Walk where
 How:(List Bool)
 At:Int
 Cost:Int
 Left:Bool
 deriving DecidableEq
def Zu (N:Nat) (kZt:(List api_Cell)→Option (List api_Cell)) (p1:(List api_Cell)):Nat→(List api_Cell)→Int→Option (List api_Cell)
 | 0,_,_=>none
 | n+1,vB1,vB7=>
  if ((decide (vB7 < (p1.length:Int))) && (decide (vB7 < 8)))=true then
   (getI p1 vB7).bind fun x10=>
   (De x10.Name 0 (min (x10.Name.length:Int) 40)).bind fun s16=>
   (Cw 32 vB1 ([(api_Cell.mk s16 x10.N x10.At)]:List api_Cell)).bind fun l21=>
   (Zu N kZt p1 n) l21 (IntKind.i64.wrap (vB7+1))
  else
   kZt vB1
def Zt (vA1:(List api_Cell)):Option (List api_Cell):=
 some vA1
def Zs (N:Nat) (p1:(List api_Cell)):Option (List api_Cell):=
 (Zu N Zt p1) N [] 0
def Zi (N:Nat) (kZh:(List api_Node)→Option (List api_Node)) (p1:(List api_Node)):Nat→(List api_Node)→Int→Option (List api_Node)
 | 0,_,_=>none
 | n+1,vB1,vB7=>
  if ((decide (vB7 < (p1.length:Int))) && (decide (vB7 < 60)))=true then
   (getI p1 vB7).bind fun x10=>
   (De x10.Name 0 (min (x10.Name.length:Int) 40)).bind fun s16=>
   (Cw 40 vB1 ([(api_Node.mk x10.Op x10.N s16 x10.At)]:List api_Node)).bind fun l21=>
   (Zi N kZh p1 n) l21 (IntKind.i64.wrap (vB7+1))
  else
   kZh vB1
def Zh (vA1:(List api_Node)):Option (List api_Node):=
 some vA1
def Zg (N:Nat) (p1:(List api_Node)):Option (List api_Node):=
 (Zi N Zh p1) N [] 0
def Zl (N:Nat) (kZk:(List api_Stmt)→Option (List api_Stmt)) (p1:(List api_Stmt)):Nat→(List api_Stmt)→Int→Option (List api_Stmt)
 | 0,_,_=>none
 | n+1,vB2,vB8=>
  if ((decide (vB8 < (p1.length:Int))) && (decide (vB8 < 50)))=true then
   (getI p1 vB8).bind fun x10=>
   (De x10.Reg 0 (min (x10.Reg.length:Int) 40)).bind fun s24=>
   (De x10.Name 0 (min (x10.Name.length:Int) 40)).bind fun s26=>
   (Zg N x10.E).bind fun r28=>
   (Zg N x10.F).bind fun r35=>
   (Cw 120 vB2 ([(api_Stmt.mk x10.Kind s24 s26 r28 r35 x10.N x10.Body x10.Else x10.At)]:List api_Stmt)).bind fun l53=>
   (Zl N kZk p1 n) l53 (IntKind.i64.wrap (vB8+1))
  else
   kZk vB2
def Zk (vA2:(List api_Stmt)):Option (List api_Stmt):=
 some vA2
def Zj (N:Nat) (p1:(List api_Stmt)):Option (List api_Stmt):=
 (Zl N Zk p1) N [] 0
def Z11 (N:Nat) (kZz:(List Str)→Option (List api_Thread)) (p1:(List api_Thread)) (vB8:Int):Nat→(List Str)→Int→Option (List api_Thread)
 | 0,_,_=>none
 | n+1,vE1,vE7=>
  (getI p1 vB8).bind fun x36=>
  if ((decide (vE7 < (x36.Regs.length:Int))) && (decide (vE7 < 6)))=true then
   (getI x36.Regs vE7).bind fun x50=>
   (De x50 0 (min (x50.length:Int) 40)).bind fun s55=>
   (Cw 16 vE1 ([s55]:List Str)).bind fun l60=>
   (Z11 N kZz p1 vB8 n) l60 (IntKind.i64.wrap (vE7+1))
  else
   kZz vE1
def Zz (kZx:(List api_Thread)→Option (List api_Thread)) (vD3:Str) (vD4:(List api_Stmt)) (vD9:Int) (vB2:(List api_Thread)) (vD10:(List Str)):Option (List api_Thread):=
 (Cw 72 vB2 ([(api_Thread.mk vD3 vD10 vD4 vD9)]:List api_Thread)).bind fun l73=>
 kZx l73
def Zy (N:Nat) (kZx:(List api_Thread)→Option (List api_Thread)) (p1:(List api_Thread)) (vB2:(List api_Thread)) (vB8:Int) (vD3:Str) (vD4:(List api_Stmt)) (vD9:Int):Option (List api_Thread):=
 (Z11 N (Zz kZx vD3 vD4 vD9 vB2) p1 vB8) N [] 0
def Zx (kZ10:(List api_Thread)→Int→Option (List api_Thread)) (vB8:Int) (vC2:(List api_Thread)):Option (List api_Thread):=
 kZ10 vC2 (IntKind.i64.wrap (vB8+1))
def Z10 (N:Nat) (kZw:(List api_Thread)→Option (List api_Thread)) (p1:(List api_Thread)):Nat→(List api_Thread)→Int→Option (List api_Thread)
 | 0,_,_=>none
 | n+1,vB2,vB8=>
  if ((decide (vB8 < (p1.length:Int))) && (decide (vB8 < 4)))=true then
   (getI p1 vB8).bind fun x10=>
   (De x10.Name 0 (min (x10.Name.length:Int) 40)).bind fun s23=>
   (Zj N x10.Body).bind fun r25=>
   (Zy N (Zx (Z10 N kZw p1 n) vB8) p1 vB2 vB8) s23 r25 x10.At
  else
   kZw vB2
def Zw (vA2:(List api_Thread)):Option (List api_Thread):=
 some vA2
def Zv (N:Nat) (p1:(List api_Thread)):Option (List api_Thread):=
 (Z10 N Zw p1) N [] 0
def Zq (N:Nat) (kZo:(List (List api_Cell))→Option api_Prog) (p1:api_Prog):Nat→(List (List api_Cell))→Int→Option api_Prog
 | 0,_,_=>none
 | n+1,vB2,vB8=>
  if ((decide (vB8 < (p1.Lines.length:Int))) && (decide (vB8 < 6)))=true then
   (getI p1.Lines vB8).bind fun x66=>
   (Zs N x66).bind fun r75=>
   (Cw 24 vB2 ([r75]:List (List api_Cell))).bind fun l89=>
   (Zq N kZo p1 n) l89 (IntKind.i64.wrap (vB8+1))
  else
   kZo vB2
def Zr (N:Nat) (kZp:(List api_Claim)→Option api_Prog) (p1:api_Prog):Nat→(List api_Claim)→Int→Option api_Prog
 | 0,_,_=>none
 | n+1,vB10,vB16=>
  if ((decide (vB16 < (p1.Claims.length:Int))) && (decide (vB16 < 6)))=true then
   (getI p1.Claims vB16).bind fun x96=>
   (Zg N x96.E).bind fun r105=>
   (Cw 32 vB10 ([(api_Claim.mk r105 x96.At)]:List api_Claim)).bind fun l119=>
   (Zr N kZp p1 n) l119 (IntKind.i64.wrap (vB16+1))
  else
   kZp vB10
def Zp (vA3:(List api_Cell)) (vA9:(List api_Cell)) (vA15:(List api_Thread)) (vA20:(List api_Thread)) (vA26:(List (List api_Cell))) (vA33:(List api_Claim)):Option api_Prog:=
 some (api_Prog.mk vA26 vA3 vA9 vA15 vA20 vA33)
def Zo (N:Nat) (p1:api_Prog) (vA3:(List api_Cell)) (vA9:(List api_Cell)) (vA15:(List api_Thread)) (vA20:(List api_Thread)) (vA26:(List (List api_Cell))):Option api_Prog:=
 (Zr N (Zp vA3 vA9 vA15 vA20 vA26) p1) N [] 0
def Zn (N:Nat) (p1:api_Prog) (vA3:(List api_Cell)) (vA9:(List api_Cell)) (vA15:(List api_Thread)) (vA20:(List api_Thread)):Option api_Prog:=
 (Zq N (Zo N p1 vA3 vA9 vA15 vA20) p1) N [] 0
def Zm (N:Nat) (p1:api_Prog):Option api_Prog:=
 (Zs N p1.Vols).bind fun r30=>
 (Zs N p1.Locks).bind fun r37=>
 (Zv N p1.Threads).bind fun r44=>
 (Zv N p1.Recover).bind fun r54=>
 (Zn N p1) r30 r37 r44 r54
def Z67 (_:Nat) (p1:api_Prog):Option api_Prog:=
 some p1
def Z6c {τ:Type} (N:Nat) (kZ6a:τ→Option τ) (y:τ→(api_Cell×Int)→Option (τ×Bool)) (x31:(List api_Cell)) (vB2:Int):Nat→Int→τ→Option τ
 | 0,_,_=>none
 | n+1,vD2,vD3=>
  if vD2 < (x31.length:Int) then
   (getI x31 vD2).bind fun x41=>
   (y vD3 (x41,vB2)).bind fun r47=>
   if r47.2=true then
    (Z6c N kZ6a y x31 vB2 n) (IntKind.i64.wrap (vD2+1)) r47.1
   else
    some r47.1
  else
   kZ6a vD3
def Z6a {τ:Type} (kZ6b:Int→τ→Option τ) (vB2:Int) (vC2:τ):Option τ:=
 kZ6b (IntKind.i64.wrap (vB2+1)) vC2
def Z6b {τ:Type} (N:Nat) (kZ69:τ→Option τ) (y:τ→(api_Cell×Int)→Option (τ×Bool)) (y2:api_Prog):Nat→Int→τ→Option τ
 | 0,_,_=>none
 | n+1,vB2,vB3=>
  if vB2 < (y2.Lines.length:Int) then
   (getI y2.Lines vB2).bind fun x31=>
   (Z6c N (Z6a (Z6b N kZ69 y y2 n) vB2) y x31 vB2) N 0 vB3
  else
   kZ69 vB3
def Z6d {τ:Type} (N:Nat) (y:τ→(api_Cell×Int)→Option (τ×Bool)) (y2:api_Prog):Nat→Int→τ→Option τ
 | 0,_,_=>none
 | n+1,vA6,vA7=>
  if vA6 < (y2.Vols.length:Int) then
   (getI y2.Vols vA6).bind fun x55=>
   (y vA7 (x55,(IntKind.i64.wrap ((y2.Lines.length:Int)+vA6)))).bind fun r61=>
   if r61.2=true then
    (Z6d N y y2 n) (IntKind.i64.wrap (vA6+1)) r61.1
   else
    some r61.1
  else
   some vA7
def Z69 {τ:Type} (N:Nat) (y:τ→(api_Cell×Int)→Option (τ×Bool)) (y2:api_Prog) (vA2:τ):Option τ:=
 (Z6d N y y2) N 0 vA2
def Z68 {τ:Type} (N:Nat) (y:τ→(api_Cell×Int)→Option (τ×Bool)) (s0:τ) (y2:api_Prog):Option τ:=
 (Z6b N (Z69 N y y2) y y2) N 0 s0
def Z6j (p1:Str) (p2:Int) (p4:(List (Str×Int))) (vA1:Bool) (vA2:Int):Option ((List (Str×Int))×Bool×Int):=
 some ((H4 p1 p2 p4),vA1,vA2)
def Z6i (_:Nat) (p1:Str) (p2:Int) (p3:Int) (p4:(List (Str×Int))) (p10:Bool) (p12:Int):Option ((List (Str×Int))×Bool×Int):=
 if ((decide (((Bd p1 p4).getD 0)≠0)) && (!p10))=true then
  (Z6j p1 p2 p4) true p3
 else
  (Z6j p1 p2 p4) p10 p12
def Z6l (N:Nat) (xe129:(api_Cell×Int)) (vA3:(List (Str×Int))) (vA7:Int) (vA8:Bool) (vB1:Int):Option (((List (Str×Int))×Int×Bool) ⊕ Empty):=
 (Z6i N xe129.1.Name vB1 xe129.1.At vA3 vA8 vA7).bind fun r134=>
 some (.inl (r134.1,r134.2.2,r134.2.1))
def Z6k (N:Nat) (p1:api_Prog) (vA3:(List (Str×Int))) (vA7:Int) (vA8:Bool) (xe129:(api_Cell×Int)):Option (((List (Str×Int))×Int×Bool) ⊕ Empty):=
 if (p1.Lines.length:Int)≤xe129.2 then
  (Z6l N xe129 vA3 vA7 vA8) 2
 else
  (Z6l N xe129 vA3 vA7 vA8) 1
def Z6o (N:Nat) (kZ6m:(List (Str×Int))→Int→Bool→Option ((List (Str×Int))×Int×Bool)) (p1:api_Prog):Nat→(List (Str×Int))→Int→Bool→Int→Option ((List (Str×Int))×Int×Bool)
 | 0,_,_,_,_=>none
 | n+1,vB3,vB7,vB8,vB9=>
  if vB9 < (p1.Locks.length:Int) then
   (getI p1.Locks vB9).bind fun x143=>
   (Z6i N x143.Name 3 x143.At vB3 vB8 vB7).bind fun r149=>
   (Z6o N kZ6m p1 n) r149.1 r149.2.2 r149.2.1 (IntKind.i64.wrap (vB9+1))
  else
   kZ6m vB3 vB7 vB8
def Z6p (N:Nat) (kZ6n:(List (Str×Int))→Int→Bool→Option ((List (Str×Int))×Int×Bool)) (p1:api_Prog):Nat→(List (Str×Int))→Int→Bool→Int→Option ((List (Str×Int))×Int×Bool)
 | 0,_,_,_,_=>none
 | n+1,vB11,vB15,vB16,vB17=>
  if vB17 < (p1.Threads.length:Int) then
   (getI p1.Threads vB17).bind fun x156=>
   (Z6i N x156.Name 4 x156.At vB11 vB16 vB15).bind fun r170=>
   (Z6p N kZ6n p1 n) r170.1 r170.2.2 r170.2.1 (IntKind.i64.wrap (vB17+1))
  else
   kZ6n vB11 vB15 vB16
def Z6n (vA17:(List (Str×Int))) (vA21:Int) (vA22:Bool):Option ((List (Str×Int))×Int×Bool):=
 some (vA17,vA21,vA22)
def Z6m (N:Nat) (p1:api_Prog) (vA10:(List (Str×Int))) (vA14:Int) (vA15:Bool):Option ((List (Str×Int))×Int×Bool):=
 (Z6p N Z6n p1) N vA10 vA14 vA15 0
def Z6h (N:Nat) (p1:api_Prog):Option ((List (Str×Int))×Int×Bool):=
 (Z67 N p1).bind fun r35=>
 (Z68 N (yy (fun (s:((List (Str×Int))×Int×Bool)) (x:(api_Cell×Int))=>(Z6k N p1) s.1 s.2.1 s.2.2 x)) (.inl ([],0,false)) r35).bind fun q69=>
 match q69 with
  | .inl (vA3,vA7,vA8)=>
   (Z6o N (Z6m N p1) p1) N vA3 vA7 vA8 0
  | .inr t=>nomatch t
def Z7u (_:Nat) (p1:Int):Option Bool:=
 some (((decide (97≤p1)) && (decide (p1≤122))) || (decide (p1=95)))
def Z7t (N:Nat) (kZ7s:(List (Str×Bool))→Option (List (Str×Bool))) (rz3:(List Str)):Nat→(List (Str×Bool))→Int→Option (List (Str×Bool))
 | 0,_,_=>none
 | n+1,vB1,vB5=>
  if vB5 < (rz3.length:Int) then
   (getI rz3 vB5).bind fun x11=>
   (Z7t N kZ7s rz3 n) (H4 x11 true vB1) (IntKind.i64.wrap (vB5+1))
  else
   kZ7s vB1
def Z7s (vA1:(List (Str×Bool))):Option (List (Str×Bool)):=
 some vA1
def Z7r (N:Nat)  : Option (List (Str×Bool)):=
 (Qk [108,105,110,101,32,118,111,108,32,108,111,99,107,32,116,104,114,101,97,100,32,114,101,103,32,108,111,97,100,32,115,116,111,114,101,32,99,97,115,32,102,108,117,115,104,32,111,112,116,32,115,102,101,110,99,101,32,109,102,101,110,99,101,32,116,97,107,101,32,103,105,118,101,32,105,102,32,101,108,115,101,32,108,111,111,112,32,98,114,101,97,107,32,99,104,101,99,107,32,114,101,99,111,118,101,114,32,97,108,119,97,121,115] [32]).bind fun rz3=>
 (Z7t N Z7s rz3) N [] 0
def Z7m (N:Nat) (p1:Str):Option Bool:=
 (Z7r N).bind fun rz2=>
 some ((Bd p1 rz2).getD false)
def Z7q (_:Nat) (p1:Int):Option Bool:=
 some ((decide (48≤p1)) && (decide (p1≤57)))
def Z7o (N:Nat) (p1:Int):Option Bool:=
 (Z7u N p1).bind fun rz2=>
 if rz2=true then
  some true
 else
  (Z7q N p1).bind fun rz5=>
  some rz5
def Z7x (kZ7w:Int→Option Int) (kZ7y:Int→Option Int) (vB1:Int) (vC1:Bool):Option Int:=
 if vC1=true then
  kZ7y (IntKind.i64.wrap (vB1+1))
 else
  kZ7w vB1
def Z7y (N:Nat) (kZ7w:Int→Option Int) (p1:Str):Nat→Int→Option Int
 | 0,_=>none
 | n+1,vB1=>
  if vB1 < (p1.length:Int) then
   (Cu p1 vB1).bind fun xz3=>
   (Z7o N xz3).bind fun rz5=>
   (Z7x kZ7w (Z7y N kZ7w p1 n) vB1) rz5
  else
   (Z7x kZ7w (Z7y N kZ7w p1 n) vB1) false
def Z7w (vA1:Int):Option Int:=
 some vA1
def Z7v (N:Nat) (p1:Str):Option Int:=
 (Z7y N Z7w p1) N 0
def Z7p (N:Nat) (p1:Str) (vA1:Bool):Option Bool:=
 if vA1=true then
  some false
 else
  (Z7v N p1).bind fun r11=>
  some (decide (r11=(p1.length:Int)))
def Z7n (N:Nat) (p1:Str):Option Bool:=
 if ((decide (p1=[])) || (decide (16 < (p1.length:Int))))=true then
  (Z7p N p1) true
 else
  (Cu p1 0).bind fun xz3=>
  (Z7u N xz3).bind fun rz5=>
  if rz5=true then
   (Z7m N p1).bind fun rz8=>
   (Z7p N p1) rz8
  else
   (Z7p N p1) true
def Z7j (_:Nat) (p1:Int):Option Bool:=
 some ((decide (0≤p1)) && (decide (p1≤4000)))
def Z7i (N:Nat) (p1:api_Cell) (y3:Int):Option Bool:=
 (Z7n N p1.Name).bind fun rz6=>
 if (((!rz6) || (decide (p1.N < 0))) || (decide (y3 < p1.N)))=true then
  some true
 else
  (Z7j N p1.At).bind fun rz9=>
  some (!rz9)
def Z8n (N:Nat) (kZ8m:Option Int) (p1:(List api_Cell)) (y7:Int):Nat→Int→Option Int
 | 0,_=>none
 | n+1,vB1=>
  if vB1 < (p1.length:Int) then
   (getI p1 vB1).bind fun x10=>
   (Z7i N x10 y7).bind fun r15=>
   if r15=true then
    some vB1
   else
    (Z8n N kZ8m p1 y7 n) (IntKind.i64.wrap (vB1+1))
  else
   kZ8m
def Z8m  : Option Int:=
 some (-1)
def Z8l (N:Nat) (p1:(List api_Cell)) (y7:Int):Option Int:=
 (Z8n N Z8m p1 y7) N 0
def Z86 (N:Nat) (p1:(List api_Cell)) (y7:Int):Option Bool:=
 (Z8l N p1 y7).bind fun rz9=>
 some (decide (0≤rz9))
def Z7h (N:Nat) (p1:(List api_Cell)) (p6:Int):Option Bool:=
 (Z86 N p1 p6).bind fun rz8=>
 some (!rz8)
def Z7c (N:Nat) (p1:(List api_Cell)):Option Bool:=
 if (p1.length:Int)=0 then
  some true
 else
  (Z7h N p1 4294967296).bind fun rz7=>
  some (!rz7)
def Z8h (N:Nat) (kZ8g:Option Int) (p1:(List (List api_Cell))):Nat→Int→Option Int
 | 0,_=>none
 | n+1,vB1=>
  if vB1 < (p1.length:Int) then
   (getI p1 vB1).bind fun xz7=>
   (Z7c N xz7).bind fun r16=>
   if r16=true then
    some vB1
   else
    (Z8h N kZ8g p1 n) (IntKind.i64.wrap (vB1+1))
  else
   kZ8g
def Z8g  : Option Int:=
 some (-1)
def Z8f (N:Nat) (p1:(List (List api_Cell))):Option Int:=
 (Z8h N Z8g p1) N 0
def Z84 (N:Nat) (p1:(List (List api_Cell))):Option Bool:=
 (Z8f N p1).bind fun rz6=>
 some (decide (0≤rz6))
def Z7l (N:Nat) (p1:Str):Option Bool:=
 (Z7n N p1).bind fun rz2=>
 some (!rz2)
def Z98 (N:Nat) (kZ97:Option Int) (p1:(List Str)):Nat→Int→Option Int
 | 0,_=>none
 | n+1,vB1=>
  if vB1 < (p1.length:Int) then
   (getI p1 vB1).bind fun xz7=>
   (Z7l N xz7).bind fun r12=>
   if r12=true then
    some vB1
   else
    (Z98 N kZ97 p1 n) (IntKind.i64.wrap (vB1+1))
  else
   kZ97
def Z97  : Option Int:=
 some (-1)
def Z96 (N:Nat) (p1:(List Str)):Option Int:=
 (Z98 N Z97 p1) N 0
def Z8d (N:Nat) (p1:(List Str)):Option Bool:=
 (Z96 N p1).bind fun rz6=>
 some (decide (0≤rz6))
def Z9n (_:Nat)  : Option (Arr 15 Str):=
 some (⟨[[],[114,101],[114,110],[110,101],[114,110,101,102],[110],[110],[],[],[110],[110],[101,98],[107,98],[],[101]],rfl⟩:(Arr 15 Str))
def Z9f (N:Nat) (p1:Int):Option Str:=
 if ((decide (p1 < 0)) || (decide (15≤p1)))=true then
  some []
 else
  (Z9n N).bind fun rz3=>
  (getI rz3.l p1).bind fun x12=>
  some x12
def Z9p (_:Nat) (p1:Str) (y3:Str):Option Bool:=
 (Z0 y3 p1).bind fun rz5=>
 some rz5
def Z9q (N:Nat) (p1:Bool) (p2:Str):Option Bool:=
 if p1=true then
  (Z7n N p2).bind fun rz4=>
  some (rz4 || ((!p1) && (decide (p2=[]))))
 else
  some ((!p1) && (decide (p2=[])))
def Zc (N:Nat) (p1:api_Node):Option Bool:=
 if ((decide (p1.At < 0)) || (decide (4000 < p1.At)))=true then
  some false
 else
  if p1.Op=1 then
   some (((decide (0≤p1.N)) && (decide (p1.N≤4294967296))) && (decide (p1.Name=[])))
  else
   if p1.Op=2 then
    if p1.N=0 then
     (Z7n N p1.Name).bind fun rz7=>
     some rz7
    else
     some false
   else
    some ((decide (p1.N=0)) && (decide (p1.Name=[])))
def Z6 (N:Nat) (p1:api_Node):Option Bool:=
 (Zc N p1).bind fun rz3=>
 some (!rz3)
def Z8t (N:Nat) (kZ8s:Option Int) (p1:(List api_Node)):Nat→Int→Option Int
 | 0,_=>none
 | n+1,vB1=>
  if vB1 < (p1.length:Int) then
   (getI p1 vB1).bind fun xz7=>
   (Z6 N xz7).bind fun r12=>
   if r12=true then
    some vB1
   else
    (Z8t N kZ8s p1 n) (IntKind.i64.wrap (vB1+1))
  else
   kZ8s
def Z8s  : Option Int:=
 some (-1)
def Z8r (N:Nat) (p1:(List api_Node)):Option Int:=
 (Z8t N Z8s p1) N 0
def Z88 (N:Nat) (p1:(List api_Node)):Option Bool:=
 (Z8r N p1).bind fun rz6=>
 some (decide (0≤rz6))
def Zb (_:Nat) (p1:Int):Option Int:=
 if ((decide (p1=1)) || (decide (p1=2)))=true then
  some 0
 else
  if ((decide (p1=3)) || (decide (p1=4)))=true then
   some 1
  else
   if ((decide (5≤p1)) && (decide (p1≤15)))=true then
    some 2
   else
    some (-1)
def Z3 (N:Nat) (kZ4:Int→Int→Option Int) (p1:(List api_Node)) (vB1:Int) (vB2:Int) (vC1:Bool):Option Int:=
 if vC1=true then
  some (-1)
 else
  (getI p1 vB1).bind fun x17=>
  (Zb N x17.Op).bind fun r22=>
  kZ4 (IntKind.i64.wrap (vB1+1)) (IntKind.i64.wrap ((IntKind.i64.wrap (vB2+r22)) - 1))
def Z4 (N:Nat) (kZ2:Int→Option Int) (p1:(List api_Node)):Nat→Int→Int→Option Int
 | 0,_,_=>none
 | n+1,vB1,vB2=>
  if 0 < vB2 then
   if ((decide (vB1 < 0)) || (decide ((p1.length:Int)≤vB1)))=true then
    (Z3 N (Z4 N kZ2 p1 n) p1 vB1 vB2) true
   else
    (getI p1 vB1).bind fun xz9=>
    (Zb N xz9.Op).bind fun r14=>
    (Z3 N (Z4 N kZ2 p1 n) p1 vB1 vB2) (decide (r14=(-1)))
  else
   kZ2 vB1
def Z2 (vA1:Int):Option Int:=
 some vA1
def Z1 (N:Nat) (p1:(List api_Node)) (p6:Int):Option Int:=
 (Z4 N Z2 p1) N p6 1
def Zf (N:Nat) (kZe:(List Int)→Option (List Int)) (p1:(List api_Node)) (r12:Int):Nat→(List Int)→Int→Int→Option (List Int)
 | 0,_,_,_=>none
 | n+1,vB1,vB7,vB8=>
  if vB8 < r12 then
   (Cw 8 vB1 ([vB7]:List Int)).bind fun l18=>
   (Z1 N p1 vB7).bind fun r24=>
   (Zf N kZe p1 r12 n) l18 r24 (IntKind.i64.wrap (vB8+1))
  else
   kZe vB1
def Ze (vA1:(List Int)):Option (List Int):=
 some vA1
def Zd (N:Nat) (p1:(List api_Node)) (p6:Int):Option (List Int):=
 (getI p1 p6).bind fun xz7=>
 (Zb N xz7.Op).bind fun r12=>
 (Zf N Ze p1 r12) N [] (IntKind.i64.wrap (p6+1)) 0
def Za (rf:(List api_Node)→Int→Option Int) (N:Nat) (kZ9:Int→Option Int) (p1:(List api_Node)) (rz7:(List Int)):Nat→Int→Int→Option Int
 | 0,_,_=>none
 | n+1,vB1,vB2=>
  if vB2 < (rz7.length:Int) then
   (getI rz7 vB2).bind fun x15=>
   (rf p1 x15).bind fun r21=>
   (Za rf N kZ9 p1 rz7 n) (max vB1 r21) (IntKind.i64.wrap (vB2+1))
  else
   kZ9 vB1
def Z9 (vA1:Int):Option Int:=
 some (IntKind.i64.wrap (vA1+1))
def Z8:Nat→(List api_Node)→Int→Option Int
 | 0,_,_=>none
 | N+1,p1,p6=>
  (Zd N p1 p6).bind fun rz7=>
  (Za (Z8 N) N Z9 p1 rz7) N 0 0
def Z7 (N:Nat) (p1:(List api_Node)) (vA1:Bool):Option Bool:=
 if vA1=true then
  some false
 else
  (Z8 N p1 0).bind fun r13=>
  some (decide (r13≤12))
def Z5 (N:Nat) (p1:(List api_Node)):Option Bool:=
 if ((decide ((p1.length:Int)=0)) || (decide (40 < (p1.length:Int))))=true then
  (Z7 N p1) true
 else
  (Z88 N p1).bind fun rz7=>
  if rz7=true then
   (Z7 N p1) true
  else
   (Z1 N p1 0).bind fun r10=>
   (Z7 N p1) (decide (r10≠(p1.length:Int)))
def Z9r (N:Nat) (p1:Bool) (p2:(List api_Node)):Option Bool:=
 if p1=true then
  (Z5 N p2).bind fun rz8=>
  some (rz8 || ((!p1) && (decide ((p2.length:Int)=0))))
 else
  some ((!p1) && (decide ((p2.length:Int)=0)))
def Z9s (N:Nat) (p1:api_Stmt) (r13:Str) (vA1:Bool):Option Bool:=
 if (((((decide (1≤p1.Kind)) && (decide (p1.Kind < 15))) && (decide (0≤p1.At))) && (decide (p1.At≤4000))) && vA1)=true then
  (Z9p N [114] r13).bind fun r20=>
  (Z9q N r20 p1.Reg).bind fun r22=>
  if r22=true then
   (Z9p N [110] r13).bind fun r25=>
   (Z9q N r25 p1.Name).bind fun r27=>
   if r27=true then
    (Z9p N [101] r13).bind fun r30=>
    (Z9r N r30 p1.E).bind fun r32=>
    if r32=true then
     (Z9p N [102] r13).bind fun r35=>
     (Z9r N r35 p1.F).bind fun r37=>
     some (!r37)
    else
     some true
   else
    some true
  else
   some true
 else
  some true
def Z9o (N:Nat) (p1:api_Stmt):Option Bool:=
 (Z9f N p1.Kind).bind fun r13=>
 (Z9p N [107] r13).bind fun r16=>
 if r16=true then
  (Z9s N p1 r13) ((decide (1≤p1.N)) && (decide (p1.N≤8)))
 else
  (Z9s N p1 r13) (decide (p1.N=0))
def Z8w (N:Nat) (kZ8v:Option Int) (p1:(List api_Stmt)):Nat→Int→Option Int
 | 0,_=>none
 | n+1,vB1=>
  if vB1 < (p1.length:Int) then
   (getI p1 vB1).bind fun xz7=>
   (Z9o N xz7).bind fun r20=>
   if r20=true then
    some vB1
   else
    (Z8w N kZ8v p1 n) (IntKind.i64.wrap (vB1+1))
  else
   kZ8v
def Z8v  : Option Int:=
 some (-1)
def Z8u (N:Nat) (p1:(List api_Stmt)):Option Int:=
 (Z8w N Z8v p1) N 0
def Z89 (N:Nat) (p1:(List api_Stmt)):Option Bool:=
 (Z8u N p1).bind fun rz6=>
 some (decide (0≤rz6))
def Z9t (_:Nat) (p1:Bool):Option Int:=
 if p1=true then
  some 1
 else
  some 0
def Z9l (kZ9m:Int→Int→Option Int) (xz8:api_Stmt) (vB2:Int) (vC2:Int):Option Int:=
 kZ9m vC2 (IntKind.i64.wrap ((IntKind.i64.wrap ((IntKind.i64.wrap (vB2+1))+xz8.Body))+xz8.Else))
def Z9k (rf:(List api_Stmt)→Int→Option Int) (N:Nat) (kZ9m:Int→Int→Option Int) (p1:(List api_Stmt)) (p6:Int) (xz8:api_Stmt) (vB1:Int) (vB2:Int) (vC1:Bool):Option Int:=
 if vC1=true then
  some (-1)
 else
  if ((decide (xz8.Kind=11)) || (decide (xz8.Kind=12)))=true then
   (Z9t N (decide (xz8.Kind=12))).bind fun r27=>
   (De p1 (IntKind.i64.wrap (vB2+1)) (IntKind.i64.wrap ((IntKind.i64.wrap (vB2+1))+xz8.Body))).bind fun l29=>
   (rf l29 (IntKind.i64.wrap (p6+r27))).bind fun r37=>
   (De p1 (IntKind.i64.wrap ((IntKind.i64.wrap (vB2+1))+xz8.Body)) (IntKind.i64.wrap ((IntKind.i64.wrap ((IntKind.i64.wrap (vB2+1))+xz8.Body))+xz8.Else))).bind fun l39=>
   (rf l39 (IntKind.i64.wrap (p6+r27))).bind fun r47=>
   if ((decide (r37=(-1))) || (decide (r47=(-1))))=true then
    some (-1)
   else
    (Z9l kZ9m xz8 vB2) (max (max vB1 (IntKind.i64.wrap (r37+1))) (IntKind.i64.wrap (r47+1)))
  else
   (Z9l kZ9m xz8 vB2) vB1
def Z9m (rf:(List api_Stmt)→Int→Option Int) (N:Nat) (kZ9j:Int→Option Int) (p1:(List api_Stmt)) (p6:Int):Nat→Int→Int→Option Int
 | 0,_,_=>none
 | n+1,vB1,vB2=>
  if vB2 < (p1.length:Int) then
   (getI p1 vB2).bind fun xz8=>
   if (((((decide (xz8.Body < 0)) || (decide (xz8.Else < 0))) || (decide ((p1.length:Int) < xz8.Body))) || (decide ((p1.length:Int) < xz8.Else))) || (decide ((p1.length:Int) < (IntKind.i64.wrap ((IntKind.i64.wrap ((IntKind.i64.wrap (vB2+1))+xz8.Body))+xz8.Else)))))=true then
    some (-1)
   else
    if ((!((decide (xz8.Kind=11)) || (decide (xz8.Kind=12)))) && (decide (0 < xz8.Body)))=true then
     (Z9k rf N (Z9m rf N kZ9j p1 p6 n) p1 p6 xz8 vB1 vB2) ((!((decide (xz8.Kind=11)) || (decide (xz8.Kind=12)))) && (decide (0 < xz8.Body)))
    else
     if ((decide (xz8.Kind≠11)) && (decide (0 < xz8.Else)))=true then
      (Z9k rf N (Z9m rf N kZ9j p1 p6 n) p1 p6 xz8 vB1 vB2) ((decide (xz8.Kind≠11)) && (decide (0 < xz8.Else)))
     else
      (Z9k rf N (Z9m rf N kZ9j p1 p6 n) p1 p6 xz8 vB1 vB2) ((decide (xz8.Kind=13)) && (decide (p6=0)))
  else
   kZ9j vB1
def Z9j (vA1:Int):Option Int:=
 some vA1
def Z9i:Nat→(List api_Stmt)→Int→Option Int
 | 0,_,_=>none
 | N+1,p1,p6=>
  (Z9m (Z9i N) N Z9j p1 p6) N 0 0
def Z9h (N:Nat) (p1:(List api_Stmt)) (vA1:Bool):Option Bool:=
 if vA1=true then
  some false
 else
  (Z9i N p1 0).bind fun r10=>
  some ((decide (r10≠(-1))) && (decide (r10≤12)))
def Z9g (N:Nat) (p1:(List api_Stmt)):Option Bool:=
 if 40 < (p1.length:Int) then
  (Z9h N p1) true
 else
  (Z89 N p1).bind fun rz7=>
  (Z9h N p1) rz7
def Z7k (N:Nat) (p1:api_Thread):Option Bool:=
 (Z7j N p1.At).bind fun r13=>
 if r13=true then
  (Z8d N p1.Regs).bind fun r16=>
  if r16=true then
   some false
  else
   (Z9g N p1.Body).bind fun r19=>
   some r19
 else
  some false
def Z7d (N:Nat) (p1:api_Thread):Option Bool:=
 (Z7n N p1.Name).bind fun r13=>
 if r13=true then
  (Z7k N p1).bind fun r16=>
  some (!r16)
 else
  some true
def Z8z (N:Nat) (kZ8y:Option Int) (p1:(List api_Thread)):Nat→Int→Option Int
 | 0,_=>none
 | n+1,vB1=>
  if vB1 < (p1.length:Int) then
   (getI p1 vB1).bind fun xz7=>
   (Z7d N xz7).bind fun r20=>
   if r20=true then
    some vB1
   else
    (Z8z N kZ8y p1 n) (IntKind.i64.wrap (vB1+1))
  else
   kZ8y
def Z8y  : Option Int:=
 some (-1)
def Z8x (N:Nat) (p1:(List api_Thread)):Option Int:=
 (Z8z N Z8y p1) N 0
def Z8a (N:Nat) (p1:(List api_Thread)):Option Bool:=
 (Z8x N p1).bind fun rz6=>
 some (decide (0≤rz6))
def Z7e (N:Nat) (p1:api_Thread):Option Bool:=
 if p1.Name≠[] then
  some true
 else
  (Z7k N p1).bind fun r14=>
  some (!r14)
def Z92 (N:Nat) (kZ91:Option Int) (p1:(List api_Thread)):Nat→Int→Option Int
 | 0,_=>none
 | n+1,vB1=>
  if vB1 < (p1.length:Int) then
   (getI p1 vB1).bind fun xz7=>
   (Z7e N xz7).bind fun r20=>
   if r20=true then
    some vB1
   else
    (Z92 N kZ91 p1 n) (IntKind.i64.wrap (vB1+1))
  else
   kZ91
def Z91  : Option Int:=
 some (-1)
def Z90 (N:Nat) (p1:(List api_Thread)):Option Int:=
 (Z92 N Z91 p1) N 0
def Z8b (N:Nat) (p1:(List api_Thread)):Option Bool:=
 (Z90 N p1).bind fun rz6=>
 some (decide (0≤rz6))
def Z7f (N:Nat) (p1:api_Claim):Option Bool:=
 (Z7j N p1.At).bind fun rz9=>
 if rz9=true then
  (Z5 N p1.E).bind fun r12=>
  some (!r12)
 else
  some true
def Z8q (N:Nat) (kZ8p:Option Int) (p1:(List api_Claim)):Nat→Int→Option Int
 | 0,_=>none
 | n+1,vB1=>
  if vB1 < (p1.length:Int) then
   (getI p1 vB1).bind fun xz7=>
   (Z7f N xz7).bind fun r16=>
   if r16=true then
    some vB1
   else
    (Z8q N kZ8p p1 n) (IntKind.i64.wrap (vB1+1))
  else
   kZ8p
def Z8p  : Option Int:=
 some (-1)
def Z8o (N:Nat) (p1:(List api_Claim)):Option Int:=
 (Z8q N Z8p p1) N 0
def Z87 (N:Nat) (p1:(List api_Claim)):Option Bool:=
 (Z8o N p1).bind fun rz6=>
 some (decide (0≤rz6))
def Z7g (N:Nat) (p1:api_Prog) (vA1:Bool):Option Bool:=
 if vA1=true then
  some false
 else
  (Z8a N p1.Threads).bind fun r39=>
  if r39=true then
   some false
  else
   (Z8b N p1.Recover).bind fun r42=>
   if r42=true then
    some false
   else
    (Z87 N p1.Claims).bind fun r45=>
    some (!r45)
def Z7b (N:Nat) (p1:api_Prog):Option Bool:=
 (Z84 N p1.Lines).bind fun r29=>
 if r29=true then
  (Z7g N p1) r29
 else
  (Z7h N p1.Vols 4294967296).bind fun r32=>
  if r32=true then
   (Z7h N p1.Locks 0).bind fun r35=>
   if r35=true then
    (Z7g N p1) (decide (1 < (p1.Recover.length:Int)))
   else
    (Z7g N p1) (!r35)
  else
   (Z7g N p1) (!r32)
def Z6f (_:Nat) (p1:(List api_Cell)):Option Bool:=
 some (decide (4 < (p1.length:Int)))
def Z8k (N:Nat) (kZ8j:Option Int) (p1:(List (List api_Cell))):Nat→Int→Option Int
 | 0,_=>none
 | n+1,vB1=>
  if vB1 < (p1.length:Int) then
   (getI p1 vB1).bind fun xz7=>
   (Z6f N xz7).bind fun r16=>
   if r16=true then
    some vB1
   else
    (Z8k N kZ8j p1 n) (IntKind.i64.wrap (vB1+1))
  else
   kZ8j
def Z8j  : Option Int:=
 some (-1)
def Z8i (N:Nat) (p1:(List (List api_Cell))):Option Int:=
 (Z8k N Z8j p1) N 0
def Z85 (N:Nat) (p1:(List (List api_Cell))):Option Bool:=
 (Z8i N p1).bind fun rz6=>
 some (decide (0≤rz6))
def Z82 (N:Nat) (kZ80:Int→Option (List api_Thread)) (p1:(List (List api_Thread))):Nat→Int→Int→Option (List api_Thread)
 | 0,_,_=>none
 | n+1,vB1,vB2=>
  if vB2 < (p1.length:Int) then
   (getI p1 vB2).bind fun xz7=>
   if (IntKind.i64.wrap (vB1+(xz7.length:Int))) < 0 then
    none
   else
    (Z82 N kZ80 p1 n) (IntKind.i64.wrap (vB1+(xz7.length:Int))) (IntKind.i64.wrap (vB2+1))
  else
   kZ80 vB1
def Z83 (N:Nat) (kZ81:(List api_Thread)→Option (List api_Thread)) (p1:(List (List api_Thread))):Nat→(List api_Thread)→Int→Option (List api_Thread)
 | 0,_,_=>none
 | n+1,vB3,vB9=>
  if vB9 < (p1.length:Int) then
   (getI p1 vB9).bind fun x24=>
   (Cw 72 vB3 x24).bind fun l33=>
   (Z83 N kZ81 p1 n) l33 (IntKind.i64.wrap (vB9+1))
  else
   kZ81 vB3
def Z81 (vA2:(List api_Thread)):Option (List api_Thread):=
 some vA2
def Z80 (N:Nat) (p1:(List (List api_Thread))) (vA1:Int):Option (List api_Thread):=
 (Ph 72 vA1).bind fun _=>
 (Z83 N Z81 p1) N [] 0
def Z7z (N:Nat) (p1:(List (List api_Thread))):Option (List api_Thread):=
 (Z82 N (Z80 N p1) p1) N 0 0
def Z6t (N:Nat) (p1:api_Prog):Option (List api_Thread):=
 (Z7z N ([p1.Threads,p1.Recover]:List (List api_Thread))).bind fun r36=>
 some r36
def Z6g (_:Nat) (p1:api_Thread):Option Bool:=
 some (decide (4 < (p1.Regs.length:Int)))
def Z95 (N:Nat) (kZ94:Option Int) (p1:(List api_Thread)):Nat→Int→Option Int
 | 0,_=>none
 | n+1,vB1=>
  if vB1 < (p1.length:Int) then
   (getI p1 vB1).bind fun xz7=>
   (Z6g N xz7).bind fun r20=>
   if r20=true then
    some vB1
   else
    (Z95 N kZ94 p1 n) (IntKind.i64.wrap (vB1+1))
  else
   kZ94
def Z94  : Option Int:=
 some (-1)
def Z93 (N:Nat) (p1:(List api_Thread)):Option Int:=
 (Z95 N Z94 p1) N 0
def Z8c (N:Nat) (p1:(List api_Thread)):Option Bool:=
 (Z93 N p1).bind fun rz6=>
 some (decide (0≤rz6))
def Z6e (N:Nat) (p1:api_Prog):Option Bool:=
 if 4 < (p1.Lines.length:Int) then
  some true
 else
  (Z85 N p1.Lines).bind fun r30=>
  if ((((r30 || (decide (4 < (p1.Vols.length:Int)))) || (decide (2 < (p1.Locks.length:Int)))) || (decide ((p1.Threads.length:Int)=0))) || (decide (3 < (p1.Threads.length:Int))))=true then
   some true
  else
   (Z6t N p1).bind fun r33=>
   (Z8c N r33).bind fun r43=>
   some (r43 || (decide (4 < (p1.Claims.length:Int))))
def Z79 (rf:(List api_Stmt)→Int→Option (Int×Bool)) (kZ7a:Int→Option (Int×Bool)) (p1:(List api_Stmt)) (xz8:api_Stmt) (vB1:Int) (vC1:Int):Option (Int×Bool):=
 if 64 < vC1 then
  some (xz8.At,true)
 else
  (De p1 (IntKind.i64.wrap (vB1+1)) (IntKind.i64.wrap ((IntKind.i64.wrap ((IntKind.i64.wrap (vB1+1))+xz8.Body))+xz8.Else))).bind fun l24=>
  (rf l24 vC1).bind fun r32=>
  if r32.2=true then
   some (r32.1,true)
  else
   kZ7a (IntKind.i64.wrap ((IntKind.i64.wrap ((IntKind.i64.wrap (vB1+1))+xz8.Body))+xz8.Else))
def Z7a (rf:(List api_Stmt)→Int→Option (Int×Bool)) (N:Nat) (kZ78:Option (Int×Bool)) (p1:(List api_Stmt)) (p6:Int):Nat→Int→Option (Int×Bool)
 | 0,_=>none
 | n+1,vB1=>
  if vB1 < (p1.length:Int) then
   (getI p1 vB1).bind fun xz8=>
   if xz8.Kind=12 then
    (Z79 rf (Z7a rf N kZ78 p1 p6 n) p1 xz8 vB1) (IntKind.i64.wrap (p6 * xz8.N))
   else
    (Z79 rf (Z7a rf N kZ78 p1 p6 n) p1 xz8 vB1) p6
  else
   kZ78
def Z78  : Option (Int×Bool):=
 some (0,false)
def Z77:Nat→(List api_Stmt)→Int→Option (Int×Bool)
 | 0,_,_=>none
 | N+1,p1,p6=>
  (Z7a (Z77 N) N Z78 p1 p6) N 0
def Z6s (N:Nat) (kZ6r:(List (Str×Int))→Option ((List (Str×Int))×Bool)) (p1:api_Thread):Nat→(List (Str×Int))→Int→Option ((List (Str×Int))×Bool)
 | 0,_,_=>none
 | n+1,vB1,vB5=>
  if vB5 < (p1.Regs.length:Int) then
   (getI p1.Regs vB5).bind fun x27=>
   if ((Bd x27 vB1).getD 0)≠0 then
    some ([],true)
   else
    (Z6s N kZ6r p1 n) (H4 x27 5 vB1) (IntKind.i64.wrap (vB5+1))
  else
   kZ6r vB1
def Z6r (vA1:(List (Str×Int))):Option ((List (Str×Int))×Bool):=
 some (vA1,false)
def Z6q (N:Nat) (p1:api_Thread) (p4:(List (Str×Int))):Option ((List (Str×Int))×Bool):=
 (Z6s N Z6r p1) N (p4.filter fun q=>decide (q.2≠4)) 0
def Z6u (_:Nat) (p1:(List api_Stmt)):Option (List api_Stmt):=
 some p1
def Z75 {τ:Type} (kZ76:Int→τ→Option (Bool×τ)) (vB2:Int) (vC2:Bool) (vC3:τ):Option (Bool×τ):=
 if vC2=true then
  some (false,vC3)
 else
  kZ76 (IntKind.i64.wrap (vB2+1)) vC3
def Z76 {τ:Type} (N:Nat) (kZ74:τ→Option (Bool×τ)) (p1:(List api_Node)) (p6:Int) (y:τ→legal_use→Option (τ×Bool)):Nat→Int→τ→Option (Bool×τ)
 | 0,_,_=>none
 | n+1,vB2,vB3=>
  if vB2 < (p1.length:Int) then
   (getI p1 vB2).bind fun xz8=>
   if xz8.Op=2 then
    (y vB3 (legal_use.mk xz8.Name xz8.At ([p6]:List Int))).bind fun r22=>
    (Z75 (Z76 N kZ74 p1 p6 y n) vB2) (!r22.2) r22.1
   else
    (Z75 (Z76 N kZ74 p1 p6 y n) vB2) false vB3
  else
   kZ74 vB3
def Z74 {τ:Type} (vA2:τ):Option (Bool×τ):=
 some (true,vA2)
def Z73 {τ:Type} (N:Nat) (p1:(List api_Node)) (p6:Int) (y:τ→legal_use→Option (τ×Bool)) (s0:τ):Option (Bool×τ):=
 (Z76 N Z74 p1 p6 y) N 0 s0
def Z6z {τ:Type} (kZ6x:(List Int)→τ→Option τ) (vC5:Bool) (vC6:τ):Option τ:=
 if vC5=true then
  kZ6x ([3]:List Int) vC6
 else
  kZ6x ([1,2]:List Int) vC6
def Z6y {τ:Type} (kZ6x:(List Int)→τ→Option τ) (xz9:api_Stmt) (vC1:Bool) (vC2:τ):Option τ:=
 if vC1=true then
  kZ6x ([1]:List Int) vC2
 else
  if xz9.Kind=9 then
   (Z6z kZ6x) (decide (xz9.Kind=9)) vC2
  else
   (Z6z kZ6x) (decide (xz9.Kind=10)) vC2
def Z71 {τ:Type} (kZ72:Int→τ→Option τ) (vA2:Int) (vB21:Bool) (vB22:τ):Option τ:=
 if vB21=true then
  some vB22
 else
  kZ72 (IntKind.i64.wrap (vA2+1)) vB22
def Z70 {τ:Type} (N:Nat) (kZ72:Int→τ→Option τ) (y:τ→legal_use→Option (τ×Bool)) (xz9:api_Stmt) (vA2:Int) (vB16:Bool) (vB17:τ):Option τ:=
 if vB16=true then
  some vB17
 else
  (Z73 N xz9.E 5 y vB17).bind fun r63=>
  if r63.1=true then
   (Z73 N xz9.F 5 y r63.2).bind fun r72=>
   (Z71 kZ72 vA2) (!r72.1) r72.2
  else
   (Z71 kZ72 vA2) true r63.2
def Z6x {τ:Type} (N:Nat) (kZ72:Int→τ→Option τ) (y:τ→legal_use→Option (τ×Bool)) (xz9:api_Stmt) (vA2:Int) (vB6:(List Int)) (vB12:τ):Option τ:=
 if xz9.Name≠[] then
  (y vB12 (legal_use.mk xz9.Name xz9.At vB6)).bind fun r56=>
  (Z70 N kZ72 y xz9 vA2) (!r56.2) r56.1
 else
  (Z70 N kZ72 y xz9 vA2) false vB12
def Z6w {τ:Type} (N:Nat) (kZ72:Int→τ→Option τ) (y:τ→legal_use→Option (τ×Bool)) (xz9:api_Stmt) (vA2:Int) (vB2:Bool) (vB3:τ):Option τ:=
 if vB2=true then
  some vB3
 else
  if xz9.Kind=5 then
   (Z6y (Z6x N kZ72 y xz9 vA2) xz9) (decide (xz9.Kind=5)) vB3
  else
   (Z6y (Z6x N kZ72 y xz9 vA2) xz9) (decide (xz9.Kind=6)) vB3
def Z72 {τ:Type} (N:Nat) (y:τ→legal_use→Option (τ×Bool)) (y2:(List api_Stmt)):Nat→Int→τ→Option τ
 | 0,_,_=>none
 | n+1,vA2,vA3=>
  if vA2 < (y2.length:Int) then
   (getI y2 vA2).bind fun xz9=>
   if xz9.Reg≠[] then
    (y vA3 (legal_use.mk xz9.Reg xz9.At ([5]:List Int))).bind fun r31=>
    (Z6w N (Z72 N y y2 n) y xz9 vA2) (!r31.2) r31.1
   else
    (Z6w N (Z72 N y y2 n) y xz9 vA2) false vA3
  else
   some vA3
def Z6v {τ:Type} (N:Nat) (y:τ→legal_use→Option (τ×Bool)) (s0:τ) (y2:(List api_Stmt)):Option τ:=
 (Z72 N y y2) N 0 s0
def Z9b (N:Nat) (kZ9a:Option Int) (p1:(List Int)) (p6:Int):Nat→Int→Option Int
 | 0,_=>none
 | n+1,vB1=>
  if vB1 < (p1.length:Int) then
   (getI p1 vB1).bind fun xz8=>
   if p6=xz8 then
    some vB1
   else
    (Z9b N kZ9a p1 p6 n) (IntKind.i64.wrap (vB1+1))
  else
   kZ9a
def Z9a  : Option Int:=
 some (-1)
def Z99 (N:Nat) (p1:(List Int)) (p6:Int):Option Int:=
 (Z9b N Z9a p1 p6) N 0
def Z8e (N:Nat) (p1:(List Int)) (p6:Int):Option Bool:=
 (Z99 N p1 p6).bind fun rz7=>
 some (decide (0≤rz7))
def Z5s (N:Nat) (kZ5m:Option (Int×Int)) (r43:(List api_Thread)):Nat→Int→Option (Int×Int)
 | 0,_=>none
 | n+1,vB1=>
  if vB1 < (r43.length:Int) then
   (getI r43 vB1).bind fun x54=>
   (Z77 N x54.Body 1).bind fun r68=>
   if r68.2=true then
    some (11,r68.1)
   else
    (Z5s N kZ5m r43 n) (IntKind.i64.wrap (vB1+1))
  else
   kZ5m
def Z5t (N:Nat) (kZ5o:Option (Int×Int)) (r31:((List (Str×Int))×Int×Bool)) (r72:(List api_Thread)):Nat→Int→Option (Int×Int)
 | 0,_=>none
 | n+1,vB2=>
  if vB2 < (r72.length:Int) then
   (getI r72 vB2).bind fun x83=>
   (Z6q N x83 r31.1).bind fun r97=>
   if r97.2=true then
    some (10,x83.At)
   else
    (Z5t N kZ5o r31 r72 n) (IntKind.i64.wrap (vB2+1))
  else
   kZ5o
def Z5l (N:Nat) (r128:((List (Str×Int))×Bool)) (xe206:legal_use):Option (Unit ⊕ Int):=
 (Z8e N xe206.may ((Bd xe206.name r128.1).getD 0)).bind fun r214=>
 if r214=true then
  some (.inl ())
 else
  some (.inr xe206.at')
def Z5u (N:Nat) (kZ5p:Option (Int×Int)) (r31:((List (Str×Int))×Int×Bool)) (r103:(List api_Thread)):Nat→Int→Option (Int×Int)
 | 0,_=>none
 | n+1,vB4=>
  if vB4 < (r103.length:Int) then
   (getI r103 vB4).bind fun x114=>
   (Z6q N x114 r31.1).bind fun r128=>
   (Z6u N x114.Body).bind fun r134=>
   (Z6v N (yy (fun (_:Unit) (x:legal_use)=>(Z5l N r128) x)) (.inl ()) r134).bind fun q146=>
   match q146 with
    | .inl _=>
     (Z5u N kZ5p r31 r103 n) (IntKind.i64.wrap (vB4+1))
    | .inr vC3=>
     some (9,vC3)
  else
   kZ5p
def Z5r (N:Nat) (kZ5n:Option (Int×Int)) (r31:((List (Str×Int))×Int×Bool)) (x222:api_Claim):Nat→Int→Option (Int×Int)
 | 0,_=>none
 | n+1,vD1=>
  if vD1 < (x222.E.length:Int) then
   (getI x222.E vD1).bind fun x233=>
   if ((decide (x233.Op=2)) && (decide (((Bd x233.Name r31.1).getD 0)≠1)))=true then
    some (9,x233.At)
   else
    (Z5r N kZ5n r31 x222 n) (IntKind.i64.wrap (vD1+1))
  else
   kZ5n
def Z5n (kZ5v:Int→Option (Int×Int)) (vB6:Int):Option (Int×Int):=
 kZ5v (IntKind.i64.wrap (vB6+1))
def Z5v (N:Nat) (kZ5q:Option (Int×Int)) (p1:api_Prog) (r31:((List (Str×Int))×Int×Bool)):Nat→Int→Option (Int×Int)
 | 0,_=>none
 | n+1,vB6=>
  if vB6 < (p1.Claims.length:Int) then
   (getI p1.Claims vB6).bind fun x222=>
   (Z5r N (Z5n (Z5v N kZ5q p1 r31 n) vB6) r31 x222) N 0
  else
   kZ5q
def Z5q  : Option (Int×Int):=
 some (0,0)
def Z5p (N:Nat) (p1:api_Prog) (r31:((List (Str×Int))×Int×Bool)):Option (Int×Int):=
 (Z5v N Z5q p1 r31) N 0
def Z5o (N:Nat) (p1:api_Prog) (r31:((List (Str×Int))×Int×Bool)):Option (Int×Int):=
 (Z6t N p1).bind fun r103=>
 (Z5u N (Z5p N p1 r31) r31 r103) N 0
def Z5m (N:Nat) (p1:api_Prog) (r31:((List (Str×Int))×Int×Bool)):Option (Int×Int):=
 if r31.2.2=true then
  some (10,r31.2.1)
 else
  (Z6t N p1).bind fun r72=>
  (Z5t N (Z5o N p1 r31) r31 r72) N 0
def Z5k (N:Nat) (p1:api_Prog):Option (Int×Int):=
 (Z6h N p1).bind fun r31=>
 (Z7b N p1).bind fun r37=>
 if r37=true then
  (Z6e N p1).bind fun r40=>
  if r40=true then
   some (2,0)
  else
   (Z6t N p1).bind fun r43=>
   (Z5s N (Z5m N p1 r31) r43) N 0
 else
  some (8,0)
def Z20 (_:Nat) (p1:Int):Option Bool:=
 some (((decide (97≤p1)) && (decide (p1≤122))) || (decide (p1=95)))
def Z1g (N:Nat) (kZ1f:Option Bool) (p1:Str):Nat→Int→Option Bool
 | 0,_=>none
 | n+1,vB1=>
  if vB1 < (([[108,105,110,101],[118,111,108],[108,111,99,107],[116,104,114,101,97,100],[114,101,103],[108,111,97,100],[115,116,111,114,101],[99,97,115],[102,108,117,115,104],[111,112,116],[115,102,101,110,99,101],[109,102,101,110,99,101],[116,97,107,101],[103,105,118,101],[105,102],[101,108,115,101],[108,111,111,112],[98,114,101,97,107],[99,104,101,99,107],[114,101,99,111,118,101,114],[97,108,119,97,121,115]]:List Str).length:Int) then
   (getI ([[108,105,110,101],[118,111,108],[108,111,99,107],[116,104,114,101,97,100],[114,101,103],[108,111,97,100],[115,116,111,114,101],[99,97,115],[102,108,117,115,104],[111,112,116],[115,102,101,110,99,101],[109,102,101,110,99,101],[116,97,107,101],[103,105,118,101],[105,102],[101,108,115,101],[108,111,111,112],[98,114,101,97,107],[99,104,101,99,107],[114,101,99,111,118,101,114],[97,108,119,97,121,115]]:List Str) vB1).bind fun xz6=>
   if xz6=p1 then
    some true
   else
    (Z1g N kZ1f p1 n) (IntKind.i64.wrap (vB1+1))
  else
   kZ1f
def Z1f  : Option Bool:=
 some false
def Z1e (N:Nat) (p1:Str):Option Bool:=
 (Z1g N Z1f p1) N 0
def Z1z (_:Nat) (p1:Int):Option Bool:=
 some ((decide (48≤p1)) && (decide (p1≤57)))
def Z1k (kZ1l:Int→Option Bool) (vB1:Int) (vC1:Bool):Option Bool:=
 if vC1=true then
  some false
 else
  kZ1l (IntKind.i64.wrap (vB1+1))
def Z1l (N:Nat) (kZ1j:Option Bool) (p1:Str):Nat→Int→Option Bool
 | 0,_=>none
 | n+1,vB1=>
  if vB1 < (p1.length:Int) then
   (Cu p1 vB1).bind fun x12=>
   (Z20 N x12).bind fun r14=>
   if r14=true then
    (Z1k (Z1l N kZ1j p1 n) vB1) false
   else
    (Cu p1 vB1).bind fun x17=>
    (Z1z N x17).bind fun r19=>
    (Z1k (Z1l N kZ1j p1 n) vB1) (!r19)
  else
   kZ1j
def Z1j  : Option Bool:=
 some true
def Z1i (N:Nat) (p1:Str) (vA1:Bool):Option Bool:=
 if vA1=true then
  some false
 else
  (Z1l N Z1j p1) N 0
def Z1h (N:Nat) (p1:Str):Option Bool:=
 if ((decide ((p1.length:Int) < 1)) || (decide (16 < (p1.length:Int))))=true then
  (Z1i N p1) true
 else
  (Cu p1 0).bind fun xz3=>
  (Z20 N xz3).bind fun rz5=>
  if rz5=true then
   (Z1e N p1).bind fun rz8=>
   (Z1i N p1) rz8
  else
   (Z1i N p1) true
def Z2l (_:Nat) (p1:Int):Option Int:=
 if ((decide (p1=1)) || (decide (p1=2)))=true then
  some 0
 else
  if ((decide (p1=3)) || (decide (p1=4)))=true then
   some 1
  else
   if ((decide (5≤p1)) && (decide (p1≤15)))=true then
    some 2
   else
    some (-1)
def Z2e (rf:(List api_Node)→Int→Option Int) (N:Nat) (kZ2d:Int→Option Int) (p1:(List api_Node)) (p6:Int):Nat→Int→Int→Option Int
 | 0,_,_=>none
 | n+1,vB1,vB2=>
  (getI p1 p6).bind fun x16=>
  (Z2l N x16.Op).bind fun r21=>
  if ((decide (vB2 < r21)) && (decide (0≤vB1)))=true then
   (rf p1 vB1).bind fun r24=>
   (Z2e rf N kZ2d p1 p6 n) r24 (IntKind.i64.wrap (vB2+1))
  else
   kZ2d vB1
def Z2d (vA2:Int):Option Int:=
 some vA2
def Z2c (rf:(List api_Node)→Int→Option Int) (N:Nat) (p1:(List api_Node)) (p6:Int) (vA1:Bool):Option Int:=
 if vA1=true then
  some (-1)
 else
  (Z2e rf N Z2d p1 p6) N (IntKind.i64.wrap (p6+1)) 0
def Z2b:Nat→(List api_Node)→Int→Option Int
 | 0,_,_=>none
 | N+1,p1,p6=>
  if ((decide (p6 < 0)) || (decide ((p1.length:Int)≤p6)))=true then
   (Z2c (Z2b N) N p1 p6) true
  else
   (getI p1 p6).bind fun xz8=>
   (Z2l N xz8.Op).bind fun r13=>
   (Z2c (Z2b N) N p1 p6) (decide (r13 < 0))
def Z2w (rf:(List api_Node)→Int→Option Int) (N:Nat) (kZ2v:Int→Option Int) (p1:(List api_Node)) (p6:Int):Nat→Int→Int→Int→Option Int
 | 0,_,_,_=>none
 | n+1,vB1,vB2,vB3=>
  (getI p1 p6).bind fun xz7=>
  (Z2l N xz7.Op).bind fun r12=>
  if vB3 < r12 then
   (rf p1 vB2).bind fun r15=>
   (Z2b N p1 vB2).bind fun r17=>
   (Z2w rf N kZ2v p1 p6 n) (max vB1 r15) r17 (IntKind.i64.wrap (vB3+1))
  else
   kZ2v vB1
def Z2v (vA1:Int):Option Int:=
 some (IntKind.i64.wrap (vA1+1))
def Z2u:Nat→(List api_Node)→Int→Option Int
 | 0,_,_=>none
 | N+1,p1,p6=>
  (Z2w (Z2u N) N Z2v p1 p6) N 0 (IntKind.i64.wrap (p6+1)) 0
def Z2q (kZ2r:Int→Option Bool) (vB1:Int) (vC1:Bool):Option Bool:=
 if vC1=true then
  some false
 else
  kZ2r (IntKind.i64.wrap (vB1+1))
def Z2r (N:Nat) (kZ2p:Option Bool) (p1:(List api_Node)):Nat→Int→Option Bool
 | 0,_=>none
 | n+1,vB1=>
  if vB1 < (p1.length:Int) then
   (getI p1 vB1).bind fun x11=>
   if ((((((decide (x11.At < 0)) || (decide (4000 < x11.At))) || ((decide (x11.Op≠1)) && (decide (x11.N≠0)))) || ((decide (x11.Op≠2)) && (decide (x11.Name≠[])))) || (decide (x11.N < 0))) || (decide (4294967296 < x11.N)))=true then
    (Z2q (Z2r N kZ2p p1 n) vB1) true
   else
    if x11.Op=2 then
     (Z1h N x11.Name).bind fun r19=>
     (Z2q (Z2r N kZ2p p1 n) vB1) (!r19)
    else
     (Z2q (Z2r N kZ2p p1 n) vB1) false
  else
   kZ2p
def Z2p (N:Nat) (p1:(List api_Node)):Option Bool:=
 (Z2u N p1 0).bind fun r22=>
 some (decide (r22≤12))
def Z2o (N:Nat) (p1:(List api_Node)) (vA1:Bool):Option Bool:=
 if vA1=true then
  some false
 else
  (Z2r N (Z2p N p1) p1) N 0
def Z2n (N:Nat) (p1:(List api_Node)):Option Bool:=
 if 40 < (p1.length:Int) then
  (Z2o N p1) true
 else
  (Z2b N p1 0).bind fun rz7=>
  (Z2o N p1) (decide (rz7≠(p1.length:Int)))
def Z33 (_:Nat) (p1:Int):Option Str:=
 if ((decide (p1 < 1)) || (decide (14 < p1)))=true then
  some []
 else
  (getI ([[],[114,101],[114,110],[110,101],[114,110,101,102],[110],[110],[],[],[110],[110],[101,98],[107,98],[],[101]]:List Str) p1).bind fun xz6=>
  some xz6
def Z46 (N:Nat) (kZ45:Option Bool) (p1:Str) (p2:Int):Nat→Int→Option Bool
 | 0,_=>none
 | n+1,vB1=>
  if vB1 < (p1.length:Int) then
   (Cu p1 vB1).bind fun xz4=>
   if xz4=p2 then
    some true
   else
    (Z46 N kZ45 p1 p2 n) (IntKind.i64.wrap (vB1+1))
  else
   kZ45
def Z45  : Option Bool:=
 some false
def Z44 (N:Nat) (p1:Str) (p2:Int):Option Bool:=
 (Z46 N Z45 p1 p2) N 0
def Z4e (N:Nat) (p1:api_Stmt) (r14:Str) (vA2:Bool):Option Bool:=
 if vA2=true then
  some false
 else
  (Z44 N r14 107).bind fun r36=>
  if r36=true then
   some ((decide (1≤p1.N)) && (decide (p1.N≤8)))
  else
   some (decide (p1.N=0))
def Z4d (N:Nat) (p1:api_Stmt) (r14:Str) (r20:Bool) (r22:Bool) (vA1:Bool):Option Bool:=
 if vA1=true then
  some false
 else
  (Z2n N p1.E).bind fun r30=>
  if ((r20 != r30) || ((!r20) && (decide (0 < (p1.E.length:Int)))))=true then
   (Z4e N p1 r14) true
  else
   (Z2n N p1.F).bind fun r33=>
   (Z4e N p1 r14) ((r22 != r33) || ((!r22) && (decide (0 < (p1.F.length:Int)))))
def Z4c (N:Nat) (p1:api_Stmt):Option Bool:=
 if ((((decide (p1.Kind < 1)) || (decide (14 < p1.Kind))) || (decide (p1.At < 0))) || (decide (4000 < p1.At)))=true then
  some false
 else
  (Z33 N p1.Kind).bind fun r14=>
  (Z44 N r14 114).bind fun r16=>
  (Z44 N r14 110).bind fun r18=>
  (Z44 N r14 101).bind fun r20=>
  (Z44 N r14 102).bind fun r22=>
  (Z1h N p1.Reg).bind fun r24=>
  if ((r16 != r24) || ((!r16) && (decide (p1.Reg≠[]))))=true then
   (Z4d N p1 r14 r20 r22) true
  else
   (Z1h N p1.Name).bind fun r27=>
   (Z4d N p1 r14 r20 r22) ((r18 != r27) || ((!r18) && (decide (p1.Name≠[]))))
def Z4a (kZ4b:Int→Int→Option Int) (xz8:api_Stmt) (vB2:Int) (vC2:Int):Option Int:=
 kZ4b vC2 (IntKind.i64.wrap ((IntKind.i64.wrap ((IntKind.i64.wrap (vB2+1))+xz8.Body))+xz8.Else))
def Z49 (rf:(List api_Stmt)→Int→Option Int) (kZ4b:Int→Int→Option Int) (p1:(List api_Stmt)) (xz8:api_Stmt) (vB1:Int) (vB2:Int) (vC1:Int):Option Int:=
 if ((decide (xz8.Kind=11)) || (decide (xz8.Kind=12)))=true then
  (De p1 (IntKind.i64.wrap (vB2+1)) (IntKind.i64.wrap ((IntKind.i64.wrap (vB2+1))+xz8.Body))).bind fun l26=>
  (rf l26 vC1).bind fun r34=>
  (De p1 (IntKind.i64.wrap ((IntKind.i64.wrap (vB2+1))+xz8.Body)) (IntKind.i64.wrap ((IntKind.i64.wrap ((IntKind.i64.wrap (vB2+1))+xz8.Body))+xz8.Else))).bind fun l36=>
  (rf l36 vC1).bind fun r44=>
  if ((decide (r34 < 0)) || (decide (r44 < 0)))=true then
   some (-1)
  else
   (Z4a kZ4b xz8 vB2) (max (max vB1 (IntKind.i64.wrap (1+r34))) (IntKind.i64.wrap (1+r44)))
 else
  (Z4a kZ4b xz8 vB2) vB1
def Z4b (rf:(List api_Stmt)→Int→Option Int) (N:Nat) (kZ48:Int→Option Int) (p1:(List api_Stmt)) (p6:Int):Nat→Int→Int→Option Int
 | 0,_,_=>none
 | n+1,vB1,vB2=>
  if vB2 < (p1.length:Int) then
   (getI p1 vB2).bind fun xz8=>
   if (((((decide (xz8.Body < 0)) || (decide (xz8.Else < 0))) || (decide (40 < xz8.Body))) || (decide (40 < xz8.Else))) || (decide ((p1.length:Int) < (IntKind.i64.wrap ((IntKind.i64.wrap ((IntKind.i64.wrap (vB2+1))+xz8.Body))+xz8.Else)))))=true then
    some (-1)
   else
    if (((((decide (0 < xz8.Body)) && (decide (xz8.Kind≠11))) && (decide (xz8.Kind≠12))) || ((decide (0 < xz8.Else)) && (decide (xz8.Kind≠11)))) || ((decide (xz8.Kind=13)) && (decide (p6=0))))=true then
     some (-1)
    else
     if xz8.Kind=12 then
      (Z49 rf (Z4b rf N kZ48 p1 p6 n) p1 xz8 vB1 vB2) (IntKind.i64.wrap (p6+1))
     else
      (Z49 rf (Z4b rf N kZ48 p1 p6 n) p1 xz8 vB1 vB2) p6
  else
   kZ48 vB1
def Z48 (vA1:Int):Option Int:=
 some vA1
def Z47:Nat→(List api_Stmt)→Int→Option Int
 | 0,_,_=>none
 | N+1,p1,p6=>
  (Z4b (Z47 N) N Z48 p1 p6) N 0 0
def Z42 (N:Nat) (kZ41:Option Bool) (p1:(List api_Stmt)):Nat→Int→Option Bool
 | 0,_=>none
 | n+1,vB1=>
  if vB1 < (p1.length:Int) then
   (getI p1 vB1).bind fun xz8=>
   (Z4c N xz8).bind fun r21=>
   if r21=true then
    (Z42 N kZ41 p1 n) (IntKind.i64.wrap (vB1+1))
   else
    some false
  else
   kZ41
def Z41 (N:Nat) (p1:(List api_Stmt)):Option Bool:=
 (Z47 N p1 0).bind fun r24=>
 some ((decide (0≤r24)) && (decide (r24≤12)))
def Z40 (N:Nat) (p1:(List api_Stmt)):Option Bool:=
 if 40 < (p1.length:Int) then
  some false
 else
  (Z42 N (Z41 N p1) p1) N 0
def Z5h (rf:(List api_Stmt)→Int→Option Int) (p1:(List api_Stmt)) (p6:Int) (xz8:api_Stmt) (vA1:Int):Option Int:=
 if 64 < vA1 then
  some xz8.At
 else
  (De p1 1 (IntKind.i64.wrap ((IntKind.i64.wrap (1+xz8.Body))+xz8.Else))).bind fun l24=>
  (rf l24 vA1).bind fun r32=>
  if 0≤r32 then
   some r32
  else
   (De p1 (IntKind.i64.wrap ((IntKind.i64.wrap (1+xz8.Body))+xz8.Else)) (p1.length:Int)).bind fun l35=>
   (rf l35 p6).bind fun r43=>
   some r43
def Z5g:Nat→(List api_Stmt)→Int→Option Int
 | 0,_,_=>none
 | N+1,p1,p6=>
  if (p1.length:Int)=0 then
   some (-1)
  else
   (getI p1 0).bind fun xz8=>
   if xz8.Kind=12 then
    (Z5h (Z5g N) p1 p6 xz8) (IntKind.i64.wrap (p6 * xz8.N))
   else
    (Z5h (Z5g N) p1 p6 xz8) p6
def Z1y (_:Nat) (p1:Str) (p2:Int) (p3:Str):Option Bool:=
 if (IntKind.i64.wrap (p2+(p3.length:Int)))≤(p1.length:Int) then
  (De p1 p2 (IntKind.i64.wrap (p2+(p3.length:Int)))).bind fun s5=>
  some (decide (s5=p3))
 else
  some false
def Z23 (kZ24:Int→Option Int) (kZ25:Int→Option Int) (vC1:Int) (vD1:Bool):Option Int:=
 if vD1=true then
  kZ25 (IntKind.i64.wrap (vC1+1))
 else
  kZ24 vC1
def Z25 (N:Nat) (kZ24:Int→Option Int) (p1:Str):Nat→Int→Option Int
 | 0,_=>none
 | n+1,vC1=>
  if vC1 < (p1.length:Int) then
   (Cu p1 vC1).bind fun x11=>
   (Z23 kZ24 (Z25 N kZ24 p1 n) vC1) (decide (x11≠10))
  else
   (Z23 kZ24 (Z25 N kZ24 p1 n) vC1) false
def Z24 (N:Nat) (kZ22:Int→Option Int) (p1:Str):Nat→Int→Option Int
 | 0,_=>none
 | n+1,vB1=>
  if vB1 < (p1.length:Int) then
   (Cu p1 vB1).bind fun xz4=>
   if ((((decide (xz4=32)) || (decide (xz4=9))) || (decide (xz4=10))) || (decide (xz4=13)))=true then
    (Z24 N kZ22 p1 n) (IntKind.i64.wrap (vB1+1))
   else
    (Z1y N p1 vB1 [47,47]).bind fun rz7=>
    if rz7=true then
     (Z25 N (Z24 N kZ22 p1 n) p1) N vB1
    else
     some vB1
  else
   kZ22 vB1
def Z22 (vA1:Int):Option Int:=
 some vA1
def Z21 (N:Nat) (p1:Str) (p2:Int):Option Int:=
 (Z24 N Z22 p1) N p2
def Z29 (N:Nat) (kZ27:Option Int) (p1:Str) (p2:Int):Nat→Int→Option Int
 | 0,_=>none
 | n+1,vB1=>
  if vB1 < (([[61,61],[33,61],[60,61],[38,38],[124,124]]:List Str).length:Int) then
   (getI ([[61,61],[33,61],[60,61],[38,38],[124,124]]:List Str) vB1).bind fun xz7=>
   (Z1y N p1 p2 xz7).bind fun r13=>
   if r13=true then
    some 2
   else
    (Z29 N kZ27 p1 p2 n) (IntKind.i64.wrap (vB1+1))
  else
   kZ27
def Z2a (N:Nat) (kZ28:Option Int) (p1:Str) (p2:Int):Nat→Int→Option Int
 | 0,_=>none
 | n+1,vB2=>
  if vB2 < 14 then
   (Cu [40,41,123,125,59,44,61,60,33,43,45,42,47,37] vB2).bind fun x17=>
   (Cu p1 p2).bind fun x19=>
   if x17=x19 then
    some 1
   else
    (Z2a N kZ28 p1 p2 n) (IntKind.i64.wrap (vB2+1))
  else
   kZ28
def Z28  : Option Int:=
 some 0
def Z27 (N:Nat) (p1:Str) (p2:Int):Option Int:=
 (Z2a N Z28 p1 p2) N 0
def Z26 (N:Nat) (p1:Str) (p2:Int):Option Int:=
 (Z29 N (Z27 N p1 p2) p1 p2) N 0
def Z1s (kZ1r:Int→Option ((List api_Token)×Int×Int)) (kZ1w:Int→Option ((List api_Token)×Int×Int)) (vE1:Int) (vF1:Bool):Option ((List api_Token)×Int×Int):=
 if vF1=true then
  kZ1w (IntKind.i64.wrap (vE1+1))
 else
  kZ1r vE1
def Z1w (N:Nat) (kZ1r:Int→Option ((List api_Token)×Int×Int)) (p1:Str):Nat→Int→Option ((List api_Token)×Int×Int)
 | 0,_=>none
 | n+1,vE1=>
  if vE1 < (p1.length:Int) then
   (Cu p1 vE1).bind fun x16=>
   (Z20 N x16).bind fun r18=>
   if r18=true then
    (Z1s kZ1r (Z1w N kZ1r p1 n) vE1) true
   else
    (Cu p1 vE1).bind fun x21=>
    (Z1z N x21).bind fun r23=>
    (Z1s kZ1r (Z1w N kZ1r p1 n) vE1) r23
  else
   (Z1s kZ1r (Z1w N kZ1r p1 n) vE1) false
def Z1r (kZ1q:Int→api_Token→Option ((List api_Token)×Int×Int)) (vB7:Int) (vD1:Int):Option ((List api_Token)×Int×Int):=
 if 16 < (IntKind.i64.wrap (vD1 - vB7)) then
  some ([],2,vB7)
 else
  kZ1q vD1 (api_Token.mk 1 [] 0 vB7)
def Z1p (kZ1x:Int→api_Token→Option ((List api_Token)×Int×Int)) (vE2:Int) (vF3:api_Token):Option ((List api_Token)×Int×Int):=
 kZ1x (IntKind.i64.wrap (vE2+1)) vF3
def Z1u (_:Nat) (kZ1t:Int→api_Token→Option ((List api_Token)×Int×Int)) (kZ1x:Int→api_Token→Option ((List api_Token)×Int×Int)) (p1:Str) (vE2:Int) (vE3:api_Token) (vF2:Bool):Option ((List api_Token)×Int×Int):=
 if vF2=true then
  if vE3.N≤4294967296 then
   (Cu p1 vE2).bind fun x39=>
   (Z1p kZ1x vE2) (api_Token.mk vE3.Kind vE3.Text (IntKind.i64.wrap ((IntKind.i64.wrap (10 * vE3.N))+(IntKind.i64.wrap (IntKind.u8.wrap (x39 - 48))))) vE3.At)
  else
   (Z1p kZ1x vE2) vE3
 else
  kZ1t vE2 vE3
def Z1x (N:Nat) (kZ1t:Int→api_Token→Option ((List api_Token)×Int×Int)) (p1:Str):Nat→Int→api_Token→Option ((List api_Token)×Int×Int)
 | 0,_,_=>none
 | n+1,vE2,vE3=>
  if vE2 < (p1.length:Int) then
   (Cu p1 vE2).bind fun x33=>
   (Z1z N x33).bind fun r35=>
   (Z1u N kZ1t (Z1x N kZ1t p1 n) p1 vE2 vE3) r35
  else
   (Z1u N kZ1t (Z1x N kZ1t p1 n) p1 vE2 vE3) false
def Z1t (_:Nat) (kZ1q:Int→api_Token→Option ((List api_Token)×Int×Int)) (vB7:Int) (vD2:Int) (vD3:api_Token):Option ((List api_Token)×Int×Int):=
 if 4294967296 < vD3.N then
  some ([],4,vB7)
 else
  kZ1q vD2 vD3
def Z1q (N:Nat) (kZ1v:(List api_Token)→Int→Option ((List api_Token)×Int×Int)) (p1:Str) (vB1:(List api_Token)) (vB7:Int) (vC1:Int) (vC2:api_Token):Option ((List api_Token)×Int×Int):=
 (De p1 vB7 vC1).bind fun s45=>
 (Cw 40 vB1 ([(api_Token.mk vC2.Kind s45 vC2.N vC2.At)]:List api_Token)).bind fun l50=>
 (Z21 N p1 vC1).bind fun r56=>
 kZ1v l50 r56
def Z1v (N:Nat) (kZ1o:(List api_Token)→Option ((List api_Token)×Int×Int)) (p1:Str):Nat→(List api_Token)→Int→Option ((List api_Token)×Int×Int)
 | 0,_,_=>none
 | n+1,vB1,vB7=>
  if vB7 < (p1.length:Int) then
   (Cu p1 vB7).bind fun x10=>
   (Z20 N x10).bind fun r12=>
   if r12=true then
    (Z1w N (Z1r (Z1q N (Z1v N kZ1o p1 n) p1 vB1 vB7) vB7) p1) N vB7
   else
    (Cu p1 vB7).bind fun x27=>
    (Z1z N x27).bind fun r29=>
    if r29=true then
     (Z1x N (Z1t N (Z1q N (Z1v N kZ1o p1 n) p1 vB1 vB7) vB7) p1) N vB7 (api_Token.mk 2 [] 0 vB7)
    else
     (Z26 N p1 vB7).bind fun r42=>
     if (IntKind.i64.wrap (vB7+r42))=vB7 then
      some ([],3,vB7)
     else
      (Z1q N (Z1v N kZ1o p1 n) p1 vB1 vB7) (IntKind.i64.wrap (vB7+r42)) (api_Token.mk 3 [] 0 vB7)
  else
   kZ1o vB1
def Z1o (vA1:(List api_Token)):Option ((List api_Token)×Int×Int):=
 some (vA1,0,0)
def Z1n (N:Nat) (p1:Str):Option ((List api_Token)×Int×Int):=
 if 4000 < (p1.length:Int) then
  some ([],2,4000)
 else
  (Z21 N p1 0).bind fun rz6=>
  (Z1v N Z1o p1) N [] rz6
def Z1d (_:Nat) (p1:(List api_Token)) (p6:Int) (p7:Str):Option Bool:=
 if ((decide (0≤p6)) && (decide (p6 < (p1.length:Int))))=true then
  (getI p1 p6).bind fun xz9=>
  some ((((decide (xz9.Text=p7)) && (decide (xz9.Kind≠2))) && (decide (1≤xz9.Kind))) && (decide (xz9.Kind≤3)))
 else
  some false
def Z4j (p1:leadlineref05_In) (vA1:Bool):Option (Bool×leadlineref05_In):=
 if vA1=true then
  some (true,(leadlineref05_In.mk p1.L (IntKind.i64.wrap (p1.At+1)) p1.E p1.Pos))
 else
  some (false,p1)
def Z4i (N:Nat) (p1:leadlineref05_In) (p7:Str):Option (Bool×leadlineref05_In):=
 if p1.E=0 then
  (Z1d N p1.L p1.At p7).bind fun rz9=>
  (Z4j p1) rz9
 else
  (Z4j p1) false
def Z1m (_:Nat) (p1:(List api_Token)) (p6:Int):Option Int:=
 if ((decide (0≤p6)) && (decide (p6 < (p1.length:Int))))=true then
  (getI p1 p6).bind fun xz8=>
  some xz8.At
 else
  if (p1.length:Int)=0 then
   some 0
  else
   (getI p1 (IntKind.i64.wrap ((p1.length:Int) - 1))).bind fun x14=>
   some (IntKind.i64.wrap (x14.At+(x14.Text.length:Int)))
def Z4g (N:Nat) (p1:leadlineref05_In) (vA1:Int):Option leadlineref05_In:=
 (Z1m N p1.L p1.At).bind fun rz9=>
 some (leadlineref05_In.mk p1.L p1.At vA1 rz9)
def Z4f (N:Nat) (p1:leadlineref05_In):Option leadlineref05_In:=
 if p1.E=0 then
  if (p1.L.length:Int)≤p1.At then
   (Z4g N p1) 6
  else
   (Z4g N p1) 5
 else
  some p1
def Z4m (N:Nat) (p1:leadlineref05_In) (vA1:Bool):Option (api_Cell×leadlineref05_In):=
 if vA1=true then
  (getI p1.L (IntKind.i64.wrap ((IntKind.i64.wrap (p1.At+1)) - 1))).bind fun x19=>
  some ((api_Cell.mk x19.Text 0 x19.At),(leadlineref05_In.mk p1.L (IntKind.i64.wrap (p1.At+1)) p1.E p1.Pos))
 else
  (Z4f N p1).bind fun r24=>
  some ((api_Cell.mk [] 0 0),r24)
def Z4l (N:Nat) (p1:leadlineref05_In):Option (api_Cell×leadlineref05_In):=
 if p1.E=0 then
  if p1.At < (p1.L.length:Int) then
   (getI p1.L p1.At).bind fun x10=>
   if x10.Kind=1 then
    (Z1h N x10.Text).bind fun r16=>
    (Z4m N p1) r16
   else
    (Z4m N p1) false
  else
   (Z4m N p1) false
 else
  (Z4m N p1) false
def Z4k (N:Nat) (p1:leadlineref05_In) (p7:Str):Option leadlineref05_In:=
 (Z4i N p1 p7).bind fun rz8=>
 if rz8.1=true then
  some rz8.2
 else
  (Z4f N rz8.2).bind fun r15=>
  some r15
def Z4r (N:Nat) (kZ4q:(List api_Token)→Int→Int→Int→api_Cell→Option ((List api_Cell)×leadlineref05_In)) (r12:(api_Cell×leadlineref05_In)) (vC1:(List api_Token)) (vC6:Int) (vC7:Int) (vC8:Int) (vD1:Bool):Option ((List api_Cell)×leadlineref05_In):=
 if vD1=true then
  (getI vC1 vC6).bind fun x34=>
  kZ4q vC1 (IntKind.i64.wrap (vC6+1)) vC7 vC8 (api_Cell.mk r12.1.Name x34.N r12.1.At)
 else
  (Z4f N (leadlineref05_In.mk vC1 vC6 vC7 vC8)).bind fun r39=>
  kZ4q r39.L r39.At r39.E r39.Pos r12.1
def Z4q (N:Nat) (kZ4s:(List api_Token)→Int→Int→Int→(List api_Cell)→Bool→Option ((List api_Cell)×leadlineref05_In)) (vB9:(List api_Cell)) (vC10:(List api_Token)) (vC15:Int) (vC16:Int) (vC17:Int) (vC18:api_Cell):Option ((List api_Cell)×leadlineref05_In):=
 (Cw 32 vB9 ([vC18]:List api_Cell)).bind fun l48=>
 (Z4i N (leadlineref05_In.mk vC10 vC15 vC16 vC17) [44]).bind fun r54=>
 kZ4s r54.2.L r54.2.At r54.2.E r54.2.Pos l48 r54.1
def Z4p (N:Nat) (kZ4s:(List api_Token)→Int→Int→Int→(List api_Cell)→Bool→Option ((List api_Cell)×leadlineref05_In)) (r12:(api_Cell×leadlineref05_In)) (vB9:(List api_Cell)) (vC1:(List api_Token)) (vC6:Int) (vC7:Int) (vC8:Int) (vC9:Bool):Option ((List api_Cell)×leadlineref05_In):=
 if vC9=true then
  if vC6 < (vC1.length:Int) then
   (getI vC1 vC6).bind fun x28=>
   (Z4r N (Z4q N kZ4s vB9) r12 vC1 vC6 vC7 vC8) (decide (x28.Kind=2))
  else
   (Z4r N (Z4q N kZ4s vB9) r12 vC1 vC6 vC7 vC8) false
 else
  (Z4q N kZ4s vB9) vC1 vC6 vC7 vC8 r12.1
def Z4s (N:Nat) (kZ4o:(List api_Token)→Int→Int→Int→(List api_Cell)→Option ((List api_Cell)×leadlineref05_In)) (p7:Bool):Nat→(List api_Token)→Int→Int→Int→(List api_Cell)→Bool→Option ((List api_Cell)×leadlineref05_In)
 | 0,_,_,_,_,_,_=>none
 | n+1,vB1,vB6,vB7,vB8,vB9,vB15=>
  if (vB15 && (decide (vB7=0)))=true then
   (Z4l N (leadlineref05_In.mk vB1 vB6 vB7 vB8)).bind fun r12=>
   if p7=true then
    (Z4i N r12.2 [61]).bind fun r20=>
    (Z4p N (Z4s N kZ4o p7 n) r12 vB9) r20.2.L r20.2.At r20.2.E r20.2.Pos r20.1
   else
    (Z4p N (Z4s N kZ4o p7 n) r12 vB9) r12.2.L r12.2.At r12.2.E r12.2.Pos false
  else
   kZ4o vB1 vB6 vB7 vB8 vB9
def Z4o (N:Nat) (vA1:(List api_Token)) (vA6:Int) (vA7:Int) (vA8:Int) (vA9:(List api_Cell)):Option ((List api_Cell)×leadlineref05_In):=
 (Z4k N (leadlineref05_In.mk vA1 vA6 vA7 vA8) [59]).bind fun r60=>
 some (vA9,r60)
def Z4n (N:Nat) (p1:leadlineref05_In) (p7:Bool):Option ((List api_Cell)×leadlineref05_In):=
 (Z4s N (Z4o N) p7) N p1.L p1.At p1.E p1.Pos [] true
def Z43 (_:Nat) (p1:Int):Option Str:=
 (getI ([[],[],[108,111,97,100],[115,116,111,114,101],[99,97,115],[102,108,117,115,104],[111,112,116],[115,102,101,110,99,101],[109,102,101,110,99,101],[116,97,107,101],[103,105,118,101],[105,102],[108,111,111,112],[98,114,101,97,107],[99,104,101,99,107]]:List Str) p1).bind fun xz5=>
 some xz5
def Z35 (N:Nat) (p1:leadlineref04_P) (vA1:Int):Option leadlineref04_P:=
 (Z1m N p1.L p1.At).bind fun r15=>
 some (leadlineref04_P.mk p1.L p1.At vA1 r15 p1.Out)
def Z34 (N:Nat) (p1:leadlineref04_P) (p12:Int):Option leadlineref04_P:=
 if p1.E=0 then
  if (p1.L.length:Int)≤p1.At then
   (Z35 N p1) 6
  else
   (Z35 N p1) p12
 else
  some p1
def Z3g (N:Nat) (p1:leadlineref04_P) (vA1:Bool):Option (Str×leadlineref04_P):=
 if vA1=true then
  (getI p1.L (IntKind.i64.wrap ((IntKind.i64.wrap (p1.At+1)) - 1))).bind fun x23=>
  some (x23.Text,(leadlineref04_P.mk p1.L (IntKind.i64.wrap (p1.At+1)) p1.E p1.Pos p1.Out))
 else
  (Z34 N (leadlineref04_P.mk p1.L p1.At p1.E p1.Pos p1.Out) 5).bind fun r28=>
  some ([],r28)
def Z3f (N:Nat) (p1:leadlineref04_P):Option (Str×leadlineref04_P):=
 if p1.E=0 then
  if p1.At < (p1.L.length:Int) then
   (getI p1.L p1.At).bind fun x14=>
   if x14.Kind=1 then
    (Z1h N x14.Text).bind fun r20=>
    (Z3g N p1) r20
   else
    (Z3g N p1) false
  else
   (Z3g N p1) false
 else
  (Z3g N p1) false
def Z3e (N:Nat) (p1:leadlineref04_P) (vA1:Bool):Option leadlineref04_P:=
 if vA1=true then
  some (leadlineref04_P.mk p1.L (IntKind.i64.wrap (p1.At+1)) p1.E p1.Pos p1.Out)
 else
  (Z34 N (leadlineref04_P.mk p1.L p1.At p1.E p1.Pos p1.Out) 5).bind fun r17=>
  some r17
def Z3d (N:Nat) (p1:leadlineref04_P) (p12:Str):Option leadlineref04_P:=
 if p1.E=0 then
  (Z1d N p1.L p1.At p12).bind fun r14=>
  (Z3e N p1) r14
 else
  (Z3e N p1) false
def Z2t (N:Nat) (p1:(List api_Token)) (p6:Int) (vA1:Int):Option leadlineref03_Read:=
 (Z1m N p1 p6).bind fun r10=>
 some (leadlineref03_Read.mk [] 0 vA1 r10)
def Z2s (N:Nat) (p1:(List api_Token)) (p6:Int) (p7:Int):Option leadlineref03_Read:=
 if (p1.length:Int)≤p6 then
  (Z2t N p1 p6) 6
 else
  (Z2t N p1 p6) p7
def Z2x (_:Nat) (p1:Int):Option (List Int):=
 (getI ([([15]:List Int),([14]:List Int),([10,11,12,13]:List Int),([5,6]:List Int),([7,8,9]:List Int)]:List (List Int)) p1).bind fun x40=>
 some x40
def Z32 (_:Nat) (p1:Int):Option Str:=
 (getI ([[],[],[],[45],[33],[43],[45],[42],[47],[37],[61,61],[33,61],[60],[60,61],[38,38],[124,124]]:List Str) p1).bind fun xz5=>
 some xz5
def Z30 (r43:leadlineref03_Read) (x57:api_Token) (vA2:Int):Option leadlineref03_Read:=
 (Cw 40 ([(api_Node.mk vA2 0 [] x57.At)]:List api_Node) r43.L).bind fun l66=>
 some (leadlineref03_Read.mk l66 r43.To r43.E r43.At)
def Z31 (N:Nat) (p1:(List api_Token)) (p6:Int) (x109:api_Token) (vA3:Bool):Option leadlineref03_Read:=
 if vA3=true then
  some (leadlineref03_Read.mk ([(api_Node.mk 2 0 x109.Text x109.At)]:List api_Node) (IntKind.i64.wrap (p6+1)) 0 0)
 else
  (Z2s N p1 p6 5).bind fun r133=>
  some r133
def Z2z (rf:(List api_Token)→Int→Int→Option leadlineref03_Read) (rg_Z2f:(List api_Token)→Int→Int→Int→Option leadlineref03_Read) (N:Nat) (p1:(List api_Token)) (p6:Int) (p7:Int) (vA1:Bool):Option leadlineref03_Read:=
 (Z1d N p1 p6 [40]).bind fun r27=>
 if ((vA1 || r27) && (decide (p7=12)))=true then
  (Z2s N p1 p6 7).bind fun r30=>
  some r30
 else
  if vA1=true then
   (rf p1 (IntKind.i64.wrap (p6+1)) (IntKind.i64.wrap (p7+1))).bind fun r43=>
   if r43.E≠0 then
    some r43
   else
    (getI p1 p6).bind fun x57=>
    if x57.Text=[45] then
     (Z30 r43 x57) 3
    else
     (Z30 r43 x57) 4
  else
   if r27=true then
    (rg_Z2f p1 (IntKind.i64.wrap (p6+1)) (IntKind.i64.wrap (p7+1)) 0).bind fun r80=>
    if r80.E≠0 then
     some r80
    else
     (Z1d N p1 r80.To [41]).bind fun r94=>
     if r94=true then
      some (leadlineref03_Read.mk r80.L (IntKind.i64.wrap (r80.To+1)) r80.E r80.At)
     else
      (Z2s N p1 r80.To 5).bind fun r97=>
      some r97
   else
    (getI p1 p6).bind fun x109=>
    if x109.Kind=2 then
     some (leadlineref03_Read.mk ([(api_Node.mk 1 x109.N [] x109.At)]:List api_Node) (IntKind.i64.wrap (p6+1)) 0 0)
    else
     if x109.Kind=1 then
      (Z1h N x109.Text).bind fun r123=>
      (Z31 N p1 p6 x109) r123
     else
      (Z31 N p1 p6 x109) false
def Z2i (kZ2k:Int→Int→Option leadlineref03_Read) (vD3:Int) (vE2:Int):Option leadlineref03_Read:=
 kZ2k vE2 (IntKind.i64.wrap (vD3+1))
def Z2k (N:Nat) (kZ2h:Int→Option leadlineref03_Read) (p1:(List api_Token)) (p8:Int) (vB15:Int):Nat→Int→Int→Option leadlineref03_Read
 | 0,_,_=>none
 | n+1,vD2,vD3=>
  (Z2x N p8).bind fun r37=>
  if vD3 < (r37.length:Int) then
   (Z2x N p8).bind fun r48=>
   (getI r48 vD3).bind fun x58=>
   (Z32 N x58).bind fun r63=>
   (Z1d N p1 vB15 r63).bind fun r65=>
   if r65=true then
    (Z2x N p8).bind fun r68=>
    (getI r68 vD3).bind fun x78=>
    (Z2i (Z2k N kZ2h p1 p8 vB15 n) vD3) x78
   else
    (Z2i (Z2k N kZ2h p1 p8 vB15 n) vD3) vD2
  else
   kZ2h vD2
def Z2h (rf:(List api_Token)→Int→Int→Int→Option leadlineref03_Read) (kZ2j:(List api_Node)→Int→Int→Int→Option leadlineref03_Read) (p1:(List api_Token)) (p7:Int) (p8:Int) (vB10:(List api_Node)) (vB15:Int) (vB16:Int) (vB17:Int) (vC2:Int):Option leadlineref03_Read:=
 if vC2=0 then
  some (leadlineref03_Read.mk vB10 vB15 vB16 vB17)
 else
  (rf p1 (IntKind.i64.wrap (vB15+1)) p7 (IntKind.i64.wrap (p8+1))).bind fun r84=>
  if r84.E≠0 then
   some r84
  else
   (getI p1 vB15).bind fun x98=>
   (Cw 40 ([(api_Node.mk vC2 0 [] x98.At)]:List api_Node) vB10).bind fun l106=>
   (Cw 40 l106 r84.L).bind fun l115=>
   if p8=2 then
    some (leadlineref03_Read.mk l115 r84.To 0 0)
   else
    kZ2j l115 r84.To 0 0
def Z2j (rf:(List api_Token)→Int→Int→Int→Option leadlineref03_Read) (N:Nat) (kZ2g:(List api_Node)→Int→Int→Int→Option leadlineref03_Read) (p1:(List api_Token)) (p7:Int) (p8:Int):Nat→(List api_Node)→Int→Int→Int→Option leadlineref03_Read
 | 0,_,_,_,_=>none
 | n+1,vB10,vB15,vB16,vB17=>
  if vB16=0 then
   (Z2k N (Z2h rf (Z2j rf N kZ2g p1 p7 p8 n) p1 p7 p8 vB10 vB15 vB16 vB17) p1 p8 vB15) N 0 0
  else
   kZ2g vB10 vB15 vB16 vB17
def Z2g (vA2:(List api_Node)) (vA7:Int) (vA8:Int) (vA9:Int):Option leadlineref03_Read:=
 some (leadlineref03_Read.mk vA2 vA7 vA8 vA9)
mutual
def Z2y:Nat→(List api_Token)→Int→Int→Option leadlineref03_Read
 | 0,_,_,_=>none
 | N+1,p1,p6,p7=>
  if (p1.length:Int)≤p6 then
   (Z2s N p1 p6 6).bind fun r10=>
   some r10
  else
   (Z1d N p1 p6 [33]).bind fun r22=>
   if r22=true then
    (Z2z (Z2y N) (Z2f N) N p1 p6 p7) true
   else
    (Z1d N p1 p6 [45]).bind fun r25=>
    (Z2z (Z2y N) (Z2f N) N p1 p6 p7) r25
def Z2f:Nat→(List api_Token)→Int→Int→Int→Option leadlineref03_Read
 | 0,_,_,_,_=>none
 | N+1,p1,p6,p7,p8=>
  if p8=5 then
   ((Z2y N) p1 p6 p7).bind fun r11=>
   some r11
  else
   ((Z2f N) p1 p6 p7 (IntKind.i64.wrap (p8+1))).bind fun r23=>
   (Z2j (Z2f N) N Z2g p1 p7 p8) N r23.L r23.To r23.E r23.At
end
def Z2m (N:Nat) (p1:(List api_Token)) (p6:Int):Option ((List api_Node)×Int×Int×Int):=
 if p6 < 0 then
  some ([],0,1,0)
 else
  (Z2f N p1 p6 0 0).bind fun rz8=>
  if rz8.E≠0 then
   some ([],0,rz8.E,rz8.At)
  else
   (Z2u N rz8.L 0).bind fun r22=>
   if 12 < r22 then
    (getI p1 p6).bind fun x25=>
    some ([],0,7,x25.At)
   else
    if 40 < (rz8.L.length:Int) then
     (getI p1 p6).bind fun x31=>
     some ([],0,2,x31.At)
    else
     some (rz8.L,rz8.To,0,0)
def Z3c (N:Nat) (p1:leadlineref04_P):Option ((List api_Node)×leadlineref04_P):=
 if p1.E≠0 then
  some ([],p1)
 else
  (Z2m N p1.L p1.At).bind fun r13=>
  if r13.2.2.1≠0 then
   some ([],(leadlineref04_P.mk p1.L p1.At r13.2.2.1 r13.2.2.2 p1.Out))
  else
   some (r13.1,(leadlineref04_P.mk p1.L r13.2.1 p1.E p1.Pos p1.Out))
def Z3v (N:Nat) (p1:leadlineref04_P) (vA1:Bool):Option (Int×leadlineref04_P):=
 if vA1=true then
  (getI p1.L p1.At).bind fun x19=>
  if ((decide (1≤x19.N)) && (decide (x19.N≤8)))=true then
   some (x19.N,(leadlineref04_P.mk p1.L (IntKind.i64.wrap (p1.At+1)) p1.E p1.Pos p1.Out))
  else
   (Z34 N (leadlineref04_P.mk p1.L p1.At p1.E p1.Pos p1.Out) 11).bind fun r25=>
   some (0,r25)
 else
  (Z34 N (leadlineref04_P.mk p1.L p1.At p1.E p1.Pos p1.Out) 5).bind fun r40=>
  some (0,r40)
def Z3u (N:Nat) (p1:leadlineref04_P):Option (Int×leadlineref04_P):=
 if ((decide (p1.E=0)) && (decide (p1.At < (p1.L.length:Int))))=true then
  (getI p1.L p1.At).bind fun x13=>
  (Z3v N p1) (decide (x13.Kind=2))
 else
  (Z3v N p1) false
def Z3t (N:Nat) (kZ3r:(List api_Token)→Int→Int→Int→(List api_Stmt)→Str→Str→(List api_Node)→(List api_Node)→Int→Option (api_Stmt×leadlineref04_P)) (p1:leadlineref04_P) (p12:Int) (vB2:Bool):Option (api_Stmt×leadlineref04_P):=
 if vB2=true then
  (Z3c N (leadlineref04_P.mk p1.L p1.At p1.E p1.Pos p1.Out)).bind fun r297=>
  kZ3r r297.2.L r297.2.At r297.2.E r297.2.Pos r297.2.Out [] [] r297.1 [] 0
 else
  if p12=12 then
   (Z3u N (leadlineref04_P.mk p1.L p1.At p1.E p1.Pos p1.Out)).bind fun r317=>
   kZ3r r317.2.L r317.2.At r317.2.E r317.2.Pos r317.2.Out [] [] [] [] r317.1
  else
   kZ3r p1.L p1.At p1.E p1.Pos p1.Out [] [] [] [] 0
def Z3s (N:Nat) (kZ3r:(List api_Token)→Int→Int→Int→(List api_Stmt)→Str→Str→(List api_Node)→(List api_Node)→Int→Option (api_Stmt×leadlineref04_P)) (p1:leadlineref04_P) (p12:Int) (vB1:Bool):Option (api_Stmt×leadlineref04_P):=
 if vB1=true then
  (Z3f N (leadlineref04_P.mk p1.L p1.At p1.E p1.Pos p1.Out)).bind fun r280=>
  kZ3r r280.2.L r280.2.At r280.2.E r280.2.Pos r280.2.Out [] r280.1 [] [] 0
 else
  if p12=11 then
   (Z3t N kZ3r p1 p12) (decide (p12=11))
  else
   (Z3t N kZ3r p1 p12) (decide (p12=14))
def Z3r (p12:Int) (p13:Int) (vA2:(List api_Token)) (vA7:Int) (vA8:Int) (vA9:Int) (vA10:(List api_Stmt)) (vA16:Str) (vA17:Str) (vA18:(List api_Node)) (vA23:(List api_Node)) (vA28:Int):Option (api_Stmt×leadlineref04_P):=
 some ((api_Stmt.mk p12 vA16 vA17 vA18 vA23 vA28 0 0 p13),(leadlineref04_P.mk vA2 vA7 vA8 vA9 vA10))
def Z3q (N:Nat) (p1:leadlineref04_P) (p12:Int) (p13:Int):Option (api_Stmt×leadlineref04_P):=
 if p12=1 then
  (Z3f N p1).bind fun r17=>
  (Z3d N r17.2 [61]).bind fun r32=>
  (Z3c N r32).bind fun r47=>
  (Z3r p12 p13) r47.2.L r47.2.At r47.2.E r47.2.Pos r47.2.Out r17.1 [] r47.1 [] 0
 else
  if p12=2 then
   (Z3f N p1).bind fun r67=>
   (Z3d N r67.2 [61]).bind fun r82=>
   (Z3f N r82).bind fun r97=>
   (Z3r p12 p13) r97.2.L r97.2.At r97.2.E r97.2.Pos r97.2.Out r67.1 r97.1 [] [] 0
  else
   if p12=3 then
    (Z3f N p1).bind fun r113=>
    (Z3d N r113.2 [61]).bind fun r128=>
    (Z3c N r128).bind fun r143=>
    (Z3r p12 p13) r143.2.L r143.2.At r143.2.E r143.2.Pos r143.2.Out [] r113.1 r143.1 [] 0
   else
    if p12=4 then
     (Z3f N p1).bind fun r163=>
     (Z3d N r163.2 [61]).bind fun r178=>
     (Z3f N r178).bind fun r193=>
     (Z3d N r193.2 [44]).bind fun r208=>
     (Z3c N r208).bind fun r223=>
     (Z3d N r223.2 [44]).bind fun r242=>
     (Z3c N r242).bind fun r257=>
     (Z3r p12 p13) r257.2.L r257.2.At r257.2.E r257.2.Pos r257.2.Out r163.1 r193.1 r223.1 r257.1 0
    else
     if p12=5 then
      (Z3s N (Z3r p12 p13) p1 p12) (decide (p12=5))
     else
      if p12=6 then
       (Z3s N (Z3r p12 p13) p1 p12) (decide (p12=6))
      else
       if p12=9 then
        (Z3s N (Z3r p12 p13) p1 p12) (decide (p12=9))
       else
        (Z3s N (Z3r p12 p13) p1 p12) (decide (p12=10))
def Z3a (rg_Z3h:leadlineref04_P→Int→Int→Option leadlineref04_P) (kZ39:(List api_Token)→Int→Int→Int→(List api_Stmt)→Option (Int×leadlineref04_P)) (kZ3b:(List api_Token)→Int→Int→Int→(List api_Stmt)→Option (Int×leadlineref04_P)) (p12:Int) (p13:Int) (vB2:(List api_Token)) (vB7:Int) (vB8:Int) (vB9:Int) (vB10:(List api_Stmt)) (vC1:Bool):Option (Int×leadlineref04_P):=
 if vC1=true then
  (rg_Z3h (leadlineref04_P.mk vB2 vB7 vB8 vB9 vB10) p12 p13).bind fun r52=>
  kZ3b r52.L r52.At r52.E r52.Pos r52.Out
 else
  kZ39 vB2 vB7 vB8 vB9 vB10
def Z3b (rg_Z3h:leadlineref04_P→Int→Int→Option leadlineref04_P) (N:Nat) (kZ39:(List api_Token)→Int→Int→Int→(List api_Stmt)→Option (Int×leadlineref04_P)) (p12:Int) (p13:Int):Nat→(List api_Token)→Int→Int→Int→(List api_Stmt)→Option (Int×leadlineref04_P)
 | 0,_,_,_,_,_=>none
 | n+1,vB2,vB7,vB8,vB9,vB10=>
  if vB8=0 then
   (Z1d N vB2 vB7 [125]).bind fun r49=>
   (Z3a rg_Z3h kZ39 (Z3b rg_Z3h N kZ39 p12 p13 n) p12 p13 vB2 vB7 vB8 vB9 vB10) (!r49)
  else
   (Z3a rg_Z3h kZ39 (Z3b rg_Z3h N kZ39 p12 p13 n) p12 p13 vB2 vB7 vB8 vB9 vB10) false
def Z39 (N:Nat) (p1:leadlineref04_P) (vA18:(List api_Token)) (vA23:Int) (vA24:Int) (vA25:Int) (vA26:(List api_Stmt)):Option (Int×leadlineref04_P):=
 (Z3d N (leadlineref04_P.mk vA18 vA23 vA24 vA25 vA26) [125]).bind fun r67=>
 some ((IntKind.i64.wrap ((r67.Out.length:Int) - (p1.Out.length:Int))),r67)
def Z38 (rg_Z3h:leadlineref04_P→Int→Int→Option leadlineref04_P) (N:Nat) (p1:leadlineref04_P) (p12:Int) (p13:Int) (vA3:(List api_Token)) (vA8:Int) (vA9:Int) (vA10:Int) (vA11:(List api_Stmt)):Option (Int×leadlineref04_P):=
 (Z3d N (leadlineref04_P.mk vA3 vA8 vA9 vA10 vA11) [123]).bind fun r33=>
 (Z3b rg_Z3h N (Z39 N p1) p12 p13) N r33.L r33.At r33.E r33.Pos r33.Out
def Z37 (rg_Z3h:leadlineref04_P→Int→Int→Option leadlineref04_P) (N:Nat) (p1:leadlineref04_P) (p12:Int) (p13:Int) (vA1:Bool):Option (Int×leadlineref04_P):=
 if vA1=true then
  (Z34 N (leadlineref04_P.mk p1.L p1.At p1.E p1.Pos p1.Out) 7).bind fun r18=>
  (Z38 rg_Z3h N p1 p12 p13) r18.L r18.At r18.E r18.Pos r18.Out
 else
  (Z38 rg_Z3h N p1 p12 p13) p1.L p1.At p1.E p1.Pos p1.Out
def Z3j (kZ3p:Int→Int→Option leadlineref04_P) (vB2:Int) (vC1:Int):Option leadlineref04_P:=
 kZ3p vC1 (IntKind.i64.wrap (vB2+1))
def Z3p (N:Nat) (kZ3i:Int→Option leadlineref04_P) (p1:leadlineref04_P):Nat→Int→Int→Option leadlineref04_P
 | 0,_,_=>none
 | n+1,vB1,vB2=>
  if vB2≤14 then
   (Z43 N vB2).bind fun r17=>
   (Z1d N p1.L p1.At r17).bind fun r19=>
   if r19=true then
    (Z3j (Z3p N kZ3i p1 n) vB2) vB2
   else
    (Z3j (Z3p N kZ3i p1 n) vB2) vB1
  else
   kZ3i vB1
def Z3o (_:Nat) (r39:(api_Stmt×leadlineref04_P)) (r91:(Int×leadlineref04_P)) (vA12:(List api_Token)) (vA17:Int) (vA18:Int) (vA19:Int) (vA20:(List api_Stmt)) (vA26:Int):Option leadlineref04_P:=
 (getI vA20 (r39.2.Out.length:Int)).bind fun _=>
 (Vn vA20 (r39.2.Out.length:Int) (api_Stmt.mk r39.1.Kind r39.1.Reg r39.1.Name r39.1.E r39.1.F r39.1.N r91.1 vA26 r39.1.At)).bind fun l129=>
 some (leadlineref04_P.mk vA12 vA17 vA18 vA19 l129)
def Z3n (rg_Z36:leadlineref04_P→Int→Int→Option (Int×leadlineref04_P)) (N:Nat) (p12:Int) (r39:(api_Stmt×leadlineref04_P)) (vA9:Int) (r91:(Int×leadlineref04_P)) (vA10:Bool):Option leadlineref04_P:=
 if vA10=true then
  (rg_Z36 (leadlineref04_P.mk r91.2.L (IntKind.i64.wrap (r91.2.At+1)) r91.2.E r91.2.Pos r91.2.Out) (IntKind.i64.wrap (p12+1)) vA9).bind fun r111=>
  (Z3o N r39 r91) r111.2.L r111.2.At r111.2.E r111.2.Pos r111.2.Out r111.1
 else
  (Z3o N r39 r91) r91.2.L r91.2.At r91.2.E r91.2.Pos r91.2.Out r39.1.Else
def Z3m (rg_Z36:leadlineref04_P→Int→Int→Option (Int×leadlineref04_P)) (N:Nat) (p12:Int) (vA1:Int) (r39:(api_Stmt×leadlineref04_P)) (vA3:(List api_Stmt)) (vA9:Int):Option leadlineref04_P:=
 (rg_Z36 (leadlineref04_P.mk r39.2.L r39.2.At r39.2.E r39.2.Pos vA3) (IntKind.i64.wrap (p12+1)) vA9).bind fun r91=>
 if vA1=11 then
  if r91.2.E=0 then
   (Z1d N r91.2.L r91.2.At [101,108,115,101]).bind fun r108=>
   (Z3n rg_Z36 N p12 r39 vA9 r91) r108
  else
   (Z3n rg_Z36 N p12 r39 vA9 r91) false
 else
  (Z3n rg_Z36 N p12 r39 vA9 r91) false
def Z3l (rg_Z36:leadlineref04_P→Int→Int→Option (Int×leadlineref04_P)) (N:Nat) (p12:Int) (p13:Int) (vA1:Int) (r39:(api_Stmt×leadlineref04_P)) (vA3:(List api_Stmt)):Option leadlineref04_P:=
 if ((decide (vA1≠11)) && (decide (vA1≠12)))=true then
  (Z3d N (leadlineref04_P.mk r39.2.L r39.2.At r39.2.E r39.2.Pos vA3) [59]).bind fun r75=>
  some r75
 else
  if vA1=12 then
   (Z3m rg_Z36 N p12 vA1 r39 vA3) (IntKind.i64.wrap (p13+1))
  else
   (Z3m rg_Z36 N p12 vA1 r39 vA3) p13
def Z3k (rg_Z36:leadlineref04_P→Int→Int→Option (Int×leadlineref04_P)) (N:Nat) (p1:leadlineref04_P) (p12:Int) (p13:Int) (r14:Int) (vA1:Int) (vA2:Int):Option leadlineref04_P:=
 (Z3q N (leadlineref04_P.mk p1.L vA2 p1.E p1.Pos p1.Out) vA1 r14).bind fun r39=>
 (Cw 120 r39.2.Out ([r39.1]:List api_Stmt)).bind fun l68=>
 (Z3l rg_Z36 N p12 p13 vA1 r39) l68
def Z3i (rg_Z36:leadlineref04_P→Int→Int→Option (Int×leadlineref04_P)) (N:Nat) (p1:leadlineref04_P) (p12:Int) (p13:Int) (r14:Int) (vA1:Int):Option leadlineref04_P:=
 if ((decide (vA1=13)) && (decide (p13=0)))=true then
  (Z34 N (leadlineref04_P.mk p1.L p1.At p1.E p1.Pos p1.Out) 5).bind fun r23=>
  some r23
 else
  if vA1≠1 then
   (Z3k rg_Z36 N p1 p12 p13 r14 vA1) (IntKind.i64.wrap (p1.At+1))
  else
   (Z3k rg_Z36 N p1 p12 p13 r14 vA1) p1.At
mutual
def Z36:Nat→leadlineref04_P→Int→Int→Option (Int×leadlineref04_P)
 | 0,_,_,_=>none
 | N+1,p1,p12,p13=>
  if 12 < p12 then
   (Z1d N p1.L p1.At [123]).bind fun r15=>
   (Z37 (Z3h N) N p1 p12 p13) r15
  else
   (Z37 (Z3h N) N p1 p12 p13) false
def Z3h:Nat→leadlineref04_P→Int→Int→Option leadlineref04_P
 | 0,_,_,_=>none
 | N+1,p1,p12,p13=>
  (Z1m N p1.L p1.At).bind fun r14=>
  (Z3p N (Z3i (Z36 N) N p1 p12 p13 r14) p1) N 1 2
end
def Z3y (N:Nat) (kZ3x:(List api_Token)→Int→Int→Int→(List api_Stmt)→Option ((List api_Stmt)×Int×Int×Int)) (kZ3z:(List api_Token)→Int→Int→Int→(List api_Stmt)→Option ((List api_Stmt)×Int×Int×Int)) (vB2:(List api_Token)) (vB7:Int) (vB8:Int) (vB9:Int) (vB10:(List api_Stmt)) (vC1:Bool):Option ((List api_Stmt)×Int×Int×Int):=
 if vC1=true then
  (Z3h N (leadlineref04_P.mk vB2 vB7 vB8 vB9 vB10) 0 0).bind fun r13=>
  kZ3z r13.L r13.At r13.E r13.Pos r13.Out
 else
  kZ3x vB2 vB7 vB8 vB9 vB10
def Z3z (N:Nat) (kZ3x:(List api_Token)→Int→Int→Int→(List api_Stmt)→Option ((List api_Stmt)×Int×Int×Int)):Nat→(List api_Token)→Int→Int→Int→(List api_Stmt)→Option ((List api_Stmt)×Int×Int×Int)
 | 0,_,_,_,_,_=>none
 | n+1,vB2,vB7,vB8,vB9,vB10=>
  if vB8=0 then
   (Z1d N vB2 vB7 [125]).bind fun r10=>
   (Z3y N kZ3x (Z3z N kZ3x n) vB2 vB7 vB8 vB9 vB10) (!r10)
  else
   (Z3y N kZ3x (Z3z N kZ3x n) vB2 vB7 vB8 vB9 vB10) false
def Z3x (N:Nat) (p1:(List api_Token)) (p7:Int) (vA2:(List api_Token)) (vA7:Int) (vA8:Int) (vA9:Int) (vA10:(List api_Stmt)):Option ((List api_Stmt)×Int×Int×Int):=
 (Z3d N (leadlineref04_P.mk vA2 vA7 vA8 vA9 vA10) [125]).bind fun r28=>
 if r28.E≠0 then
  some ([],0,r28.E,r28.Pos)
 else
  if 40 < (r28.Out.length:Int) then
   (getI p1 p7).bind fun x45=>
   some ([],0,2,x45.At)
  else
   some (r28.Out,r28.At,0,0)
def Z3w (N:Nat) (p1:(List api_Token)) (p6:Int) (p7:Int):Option ((List api_Stmt)×Int×Int×Int):=
 (Z3z N (Z3x N p1 p7)) N p1 p6 0 0 []
def Z4w (N:Nat) (kZ4u:(List api_Token)→Int→Int→Int→(List Str)→Option (api_Thread×leadlineref05_In)) (r29:((List api_Cell)×leadlineref05_In)):Nat→(List Str)→Int→Option (api_Thread×leadlineref05_In)
 | 0,_,_=>none
 | n+1,vB1,vB7=>
  if vB7 < (r29.1.length:Int) then
   (getI r29.1 vB7).bind fun x41=>
   (Cw 16 vB1 ([x41.Name]:List Str)).bind fun l50=>
   (Z4w N kZ4u r29 n) l50 (IntKind.i64.wrap (vB7+1))
  else
   kZ4u r29.2.L r29.2.At r29.2.E r29.2.Pos vB1
def Z4v (p7:Str) (p13:Int) (vA1:(List api_Token)) (vA9:(List Str)) (vA16:Int) (vA17:Int) (vA18:Int) (vA19:(List api_Stmt)):Option (api_Thread×leadlineref05_In):=
 some ((api_Thread.mk p7 vA9 vA19 p13),(leadlineref05_In.mk vA1 vA16 vA17 vA18))
def Z4u (N:Nat) (p1:leadlineref05_In) (p7:Str) (p8:(List api_Stmt)) (p13:Int) (vA1:(List api_Token)) (vA6:Int) (vA7:Int) (vA8:Int) (vA9:(List Str)):Option (api_Thread×leadlineref05_In):=
 if vA7=0 then
  (Z3w N vA1 vA6 p1.At).bind fun r57=>
  (Z4v p7 p13 vA1 vA9) r57.2.1 r57.2.2.1 r57.2.2.2 r57.1
 else
  (Z4v p7 p13 vA1 vA9) vA6 vA7 vA8 p8
def Z4t (N:Nat) (p1:leadlineref05_In) (p7:Str) (p8:(List api_Stmt)) (p13:Int):Option (api_Thread×leadlineref05_In):=
 (Z4k N p1 [123]).bind fun r16=>
 (Z4i N r16 [114,101,103]).bind fun r22=>
 if r22.1=true then
  (Z4n N r22.2 false).bind fun r29=>
  (Z4w N (Z4u N p1 p7 p8 p13) r29) N [] 0
 else
  (Z4u N p1 p7 p8 p13) r22.2.L r22.2.At r22.2.E r22.2.Pos []
def Z4h (N:Nat) (p1:leadlineref05_In) (p7:Int):Option (api_Claim×leadlineref05_In):=
 (Z2m N p1.L p1.At).bind fun rz9=>
 if rz9.2.2.1≠0 then
  some ((api_Claim.mk [] 0),(leadlineref05_In.mk p1.L p1.At rz9.2.2.1 rz9.2.2.2))
 else
  (Z4k N (leadlineref05_In.mk p1.L rz9.2.1 p1.E p1.Pos) [59]).bind fun r20=>
  some ((api_Claim.mk rz9.1 p7),r20)
def Z56 (N:Nat) (kZ4y:(List api_Token)→Int→Int→Int→(List (List api_Cell))→Option (api_Prog×Int×Int)):Nat→(List api_Token)→Int→Int→Int→(List (List api_Cell))→Option (api_Prog×Int×Int)
 | 0,_,_,_,_,_=>none
 | n+1,vB2,vB7,vB8,vB9,vB10=>
  (Z4i N (leadlineref05_In.mk vB2 vB7 vB8 vB9) [108,105,110,101]).bind fun r17=>
  if r17.1=true then
   (Z4n N r17.2 true).bind fun r24=>
   (Cw 24 vB10 ([r24.1]:List (List api_Cell))).bind fun l42=>
   (Z56 N kZ4y n) r24.2.L r24.2.At r24.2.E r24.2.Pos l42
  else
   kZ4y r17.2.L r17.2.At r17.2.E r17.2.Pos vB10
def Z57 (N:Nat) (kZ51:(List api_Token)→Int→Int→Int→(List api_Cell)→Option (api_Prog×Int×Int)):Nat→(List api_Token)→Int→Int→Int→(List api_Cell)→Option (api_Prog×Int×Int)
 | 0,_,_,_,_,_=>none
 | n+1,vB16,vB21,vB22,vB23,vB24=>
  (Z4i N (leadlineref05_In.mk vB16 vB21 vB22 vB23) [118,111,108]).bind fun r48=>
  if r48.1=true then
   (Z4n N r48.2 true).bind fun r55=>
   (Cw 32 vB24 r55.1).bind fun l66=>
   (Z57 N kZ51 n) r55.2.L r55.2.At r55.2.E r55.2.Pos l66
  else
   kZ51 r48.2.L r48.2.At r48.2.E r48.2.Pos vB24
def Z58 (N:Nat) (kZ52:(List api_Token)→Int→Int→Int→(List api_Cell)→Option (api_Prog×Int×Int)):Nat→(List api_Token)→Int→Int→Int→(List api_Cell)→Option (api_Prog×Int×Int)
 | 0,_,_,_,_,_=>none
 | n+1,vB30,vB35,vB36,vB37,vB38=>
  (Z4i N (leadlineref05_In.mk vB30 vB35 vB36 vB37) [108,111,99,107]).bind fun r72=>
  if r72.1=true then
   (Z4n N r72.2 false).bind fun r79=>
   (Cw 32 vB38 r79.1).bind fun l90=>
   (Z58 N kZ52 n) r79.2.L r79.2.At r79.2.E r79.2.Pos l90
  else
   kZ52 r72.2.L r72.2.At r72.2.E r72.2.Pos vB38
def Z59 (N:Nat) (kZ53:(List api_Token)→Int→Int→Int→(List api_Thread)→Option (api_Prog×Int×Int)):Nat→(List api_Token)→Int→Int→Int→(List api_Thread)→Option (api_Prog×Int×Int)
 | 0,_,_,_,_,_=>none
 | n+1,vB45,vB50,vB51,vB52,vB53=>
  (Z4i N (leadlineref05_In.mk vB45 vB50 vB51 vB52) [116,104,114,101,97,100]).bind fun r96=>
  if r96.1=true then
   (Z4l N r96.2).bind fun r103=>
   (Z4t N r103.2 r103.1.Name ([]:(List api_Stmt)) r103.1.At).bind fun r110=>
   (Cw 72 vB53 ([r110.1]:List api_Thread)).bind fun l133=>
   (Z59 N kZ53 n) r110.2.L r110.2.At r110.2.E r110.2.Pos l133
  else
   kZ53 r96.2.L r96.2.At r96.2.E r96.2.Pos vB53
def Z55 (N:Nat) (kZ4z:(List api_Token)→Int→Int→Int→(List api_Claim)→Option (api_Prog×Int×Int)) (rz3:((List api_Token)×Int×Int)):Nat→(List api_Token)→Int→Int→Int→(List api_Claim)→Option (api_Prog×Int×Int)
 | 0,_,_,_,_,_=>none
 | n+1,vB60,vB65,vB66,vB67,vB68=>
  (Z4i N (leadlineref05_In.mk vB60 vB65 vB66 vB67) [97,108,119,97,121,115]).bind fun r181=>
  if r181.1=true then
   (getI rz3.1 (IntKind.i64.wrap (r181.2.At - 1))).bind fun x188=>
   (Z4h N r181.2 x188.At).bind fun r193=>
   (Cw 32 vB68 ([r193.1]:List api_Claim)).bind fun l212=>
   (Z55 N kZ4z rz3 n) r193.2.L r193.2.At r193.2.E r193.2.Pos l212
  else
   kZ4z r181.2.L r181.2.At r181.2.E r181.2.Pos vB68
def Z50 (vA10:(List (List api_Cell))) (vA24:(List api_Cell)) (vA38:(List api_Cell)) (vA53:(List api_Thread)) (vA68:(List api_Thread)) (vA83:(List api_Claim)) (_:(List api_Token)) (_:Int) (vA95:Int) (vA96:Int):Option (api_Prog×Int×Int):=
 if vA95≠0 then
  some ((api_Prog.mk [] [] [] [] [] []),vA95,vA96)
 else
  some ((api_Prog.mk vA10 vA24 vA38 vA53 vA68 vA83),0,0)
def Z4z (N:Nat) (rz3:((List api_Token)×Int×Int)) (vA10:(List (List api_Cell))) (vA24:(List api_Cell)) (vA38:(List api_Cell)) (vA53:(List api_Thread)) (vA68:(List api_Thread)) (vA75:(List api_Token)) (vA80:Int) (vA81:Int) (vA82:Int) (vA83:(List api_Claim)):Option (api_Prog×Int×Int):=
 if vA80 < (rz3.1.length:Int) then
  (Z4f N (leadlineref05_In.mk vA75 vA80 vA81 vA82)).bind fun r219=>
  (Z50 vA10 vA24 vA38 vA53 vA68 vA83) r219.L r219.At r219.E r219.Pos
 else
  (Z50 vA10 vA24 vA38 vA53 vA68 vA83) vA75 vA80 vA81 vA82
def Z54 (N:Nat) (rz3:((List api_Token)×Int×Int)) (vA10:(List (List api_Cell))) (vA24:(List api_Cell)) (vA38:(List api_Cell)) (vA53:(List api_Thread)) (vA60:(List api_Token)) (vA65:Int) (vA66:Int) (vA67:Int) (vA68:(List api_Thread)):Option (api_Prog×Int×Int):=
 (Z55 N (Z4z N rz3 vA10 vA24 vA38 vA53 vA68) rz3) N vA60 vA65 vA66 vA67 []
def Z53 (N:Nat) (rz3:((List api_Token)×Int×Int)) (vA10:(List (List api_Cell))) (vA24:(List api_Cell)) (vA38:(List api_Cell)) (vA45:(List api_Token)) (vA50:Int) (vA51:Int) (vA52:Int) (vA53:(List api_Thread)):Option (api_Prog×Int×Int):=
 (Z4i N (leadlineref05_In.mk vA45 vA50 vA51 vA52) [114,101,99,111,118,101,114]).bind fun r139=>
 if r139.1=true then
  (getI rz3.1 (IntKind.i64.wrap (r139.2.At - 1))).bind fun x146=>
  (Z4t N r139.2 [] ([]:(List api_Stmt)) x146.At).bind fun r151=>
  (Cw 72 ([]:List api_Thread) ([r151.1]:List api_Thread)).bind fun l174=>
  (Z54 N rz3 vA10 vA24 vA38 vA53) r151.2.L r151.2.At r151.2.E r151.2.Pos l174
 else
  (Z54 N rz3 vA10 vA24 vA38 vA53) r139.2.L r139.2.At r139.2.E r139.2.Pos []
def Z52 (N:Nat) (rz3:((List api_Token)×Int×Int)) (vA10:(List (List api_Cell))) (vA24:(List api_Cell)) (vA30:(List api_Token)) (vA35:Int) (vA36:Int) (vA37:Int) (vA38:(List api_Cell)):Option (api_Prog×Int×Int):=
 (Z59 N (Z53 N rz3 vA10 vA24 vA38)) N vA30 vA35 vA36 vA37 []
def Z51 (N:Nat) (rz3:((List api_Token)×Int×Int)) (vA10:(List (List api_Cell))) (vA16:(List api_Token)) (vA21:Int) (vA22:Int) (vA23:Int) (vA24:(List api_Cell)):Option (api_Prog×Int×Int):=
 (Z58 N (Z52 N rz3 vA10 vA24)) N vA16 vA21 vA22 vA23 []
def Z4y (N:Nat) (rz3:((List api_Token)×Int×Int)) (vA2:(List api_Token)) (vA7:Int) (vA8:Int) (vA9:Int) (vA10:(List (List api_Cell))):Option (api_Prog×Int×Int):=
 (Z57 N (Z51 N rz3 vA10)) N vA2 vA7 vA8 vA9 []
def Z4x (N:Nat) (p1:Str):Option (api_Prog×Int×Int):=
 (Z1n N p1).bind fun rz3=>
 if rz3.2.1≠0 then
  some ((api_Prog.mk [] [] [] [] [] []),rz3.2.1,rz3.2.2)
 else
  (Z56 N (Z4y N rz3)) N rz3.1 0 0 0 []
def Z1c (N:Nat) (p1:Str):Option api_Prog:=
 (Z4x N p1).bind fun rz3=>
 some rz3.1
def Z5j (vA2:(List Str)) (xe124:(api_Cell×Int)):Option ((List Str) ⊕ Empty):=
 (Cw 16 vA2 ([xe124.1.Name]:List Str)).bind fun l131=>
 some (.inl l131)
def Z5i (N:Nat) (p1:api_Prog):Option (List Str):=
 (Z67 N p1).bind fun r30=>
 (Z68 N (yy (fun (s:(List Str)) (x:(api_Cell×Int))=>Z5j s x)) (.inl []) r30).bind fun q64=>
 match q64 with
  | .inl vA2=>
   some vA2
  | .inr t=>nomatch t
def Z5f (N:Nat) (kZ5e:Option Bool) (p1:(List Str)) (p6:(List Str)):Nat→Int→Option Bool
 | 0,_=>none
 | n+1,vB1=>
  if vB1 < (p1.length:Int) then
   (getI p1 vB1).bind fun x13=>
   (getI p6 vB1).bind fun x18=>
   if x13≠x18 then
    some false
   else
    (Z5f N kZ5e p1 p6 n) (IntKind.i64.wrap (vB1+1))
  else
   kZ5e
def Z5e  : Option Bool:=
 some true
def Z5d (N:Nat) (p1:(List Str)) (p6:(List Str)):Option Bool:=
 if (p1.length:Int)≠(p6.length:Int) then
  some false
 else
  (Z5f N Z5e p1 p6) N 0
def Z66 (N:Nat) (kZ65:Int→Option Int) (p1:api_Prog):Nat→Int→Int→Option Int
 | 0,_,_=>none
 | n+1,vB1,vB2=>
  if vB2 < (p1.Lines.length:Int) then
   (getI p1.Lines vB2).bind fun x30=>
   (Z66 N kZ65 p1 n) (IntKind.i64.wrap (vB1+(x30.length:Int))) (IntKind.i64.wrap (vB2+1))
  else
   kZ65 vB1
def Z65 (vA1:Int):Option Int:=
 some vA1
def Z64 (N:Nat) (p1:api_Prog):Option Int:=
 (Z66 N Z65 p1) N 0 0
def Z5z (p4:Int) (vA2:Int) (xe127:(api_Cell×Int)):Option (Int ⊕ Int):=
 if vA2=p4 then
  some (.inr xe127.2)
 else
  some (.inl (IntKind.i64.wrap (vA2+1)))
def Z5y (N:Nat) (p1:api_Prog) (p4:Int):Option Int:=
 (Z67 N p1).bind fun r33=>
 (Z68 N (yy (fun (s:Int) (x:(api_Cell×Int))=>(Z5z p4) s x)) (.inl 0) r33).bind fun q67=>
 match q67 with
  | .inl vA2=>
   some (-1)
  | .inr vA4=>
   some vA4
def Z62 (N:Nat) (kZ61:(List Str)→Option (List Str)) (p1:api_Prog):Nat→(List Str)→Int→Option (List Str)
 | 0,_,_=>none
 | n+1,vB1,vB7=>
  if vB7 < (p1.Locks.length:Int) then
   (getI p1.Locks vB7).bind fun x30=>
   (Cw 16 vB1 ([x30.Name]:List Str)).bind fun l39=>
   (Z62 N kZ61 p1 n) l39 (IntKind.i64.wrap (vB7+1))
  else
   kZ61 vB1
def Z61 (vA1:(List Str)):Option (List Str):=
 some vA1
def Z60 (N:Nat) (p1:api_Prog):Option (List Str):=
 (Z62 N Z61 p1) N [] 0
def Z5x (N:Nat) (vA2:(List Int)) (xe124:(api_Cell×Int)):Option ((List Int) ⊕ Empty):=
 (Cw 8 vA2 ([xe124.1.N]:List Int)).bind fun l131=>
 some (.inl l131)
def Z5w (N:Nat) (p1:api_Prog):Option (List Int):=
 (Z67 N p1).bind fun r30=>
 (Z68 N (yy (fun (s:(List Int)) (x:(api_Cell×Int))=>(Z5x N) s x)) (.inl []) r30).bind fun q64=>
 match q64 with
  | .inl vA2=>
   some vA2
  | .inr t=>nomatch t
def Z5c (N:Nat) (kZ5b:Option Bool) (p1:(List Int)) (p6:(List Int)):Nat→Int→Option Bool
 | 0,_=>none
 | n+1,vB1=>
  if vB1 < (p1.length:Int) then
   (getI p1 vB1).bind fun x13=>
   (getI p6 vB1).bind fun x18=>
   if x13≠x18 then
    some false
   else
    (Z5c N kZ5b p1 p6 n) (IntKind.i64.wrap (vB1+1))
  else
   kZ5b
def Z5b  : Option Bool:=
 some true
def Z5a (N:Nat) (p1:(List Int)) (p6:(List Int)):Option Bool:=
 if (p1.length:Int)≠(p6.length:Int) then
  some false
 else
  (Z5c N Z5b p1 p6) N 0
def Z9e (N:Nat) (kZ9d:Option Int) (p1:(List Str)) (p6:Str):Nat→Int→Option Int
 | 0,_=>none
 | n+1,vB1=>
  if vB1 < (p1.length:Int) then
   (getI p1 vB1).bind fun xz8=>
   if p6=xz8 then
    some vB1
   else
    (Z9e N kZ9d p1 p6 n) (IntKind.i64.wrap (vB1+1))
  else
   kZ9d
def Z9d  : Option Int:=
 some (-1)
def Z9c (N:Nat) (p1:(List Str)) (p6:Str):Option Int:=
 (Z9e N Z9d p1 p6) N 0
def Z63 (N:Nat) (p1:(List Str)) (p6:Str):Option Int:=
 (Z9c N p1 p6).bind fun rz7=>
 some rz7
def Z1b (N:Nat)  : Option Bool:=
 (Z1c N [108,105,110,101,32,97,32,61,32,49,44,32,98,59,32,108,105,110,101,32,99,59,32,118,111,108,32,120,32,61,32,55,59,32,108,111,99,107,32,109,59,32,116,104,114,101,97,100,32,116,32,123,32,114,101,103,32,114,59,32,108,111,97,100,32,114,32,61,32,120,59,32,102,108,117,115,104,32,99,59,32,116,97,107,101,32,109,59,32,125,32,97,108,119,97,121,115,32,97,32,61,61,32,98,59]).bind fun rz1=>
 (Z5k N rz1).bind fun r34=>
 (Z1c N [108,105,110,101,32,97,59,32,116,104,114,101,97,100,32,116,32,123,32,102,108,117,115,104,32,97,59,32,115,116,111,114,101,32,98,32,61,32,49,59,32,125]).bind fun r36=>
 (Z5k N r36).bind fun r68=>
 (Z1c N [108,105,110,101,32,97,59,32,118,111,108,32,97,59,32,116,104,114,101,97,100,32,116,32,123,32,125]).bind fun r70=>
 (Z5k N r70).bind fun r102=>
 (Z1c N [108,105,110,101,32,97,59,32,116,104,114,101,97,100,32,116,32,123,32,114,101,103,32,97,59,32,125]).bind fun r104=>
 (Z5k N r104).bind fun r136=>
 (Z1c N [108,105,110,101,32,97,59]).bind fun r138=>
 (Z5k N r138).bind fun r170=>
 (Z1c N [118,111,108,32,120,59,32,116,104,114,101,97,100,32,116,32,123,32,111,112,116,32,120,59,32,125]).bind fun r172=>
 (Z5k N r172).bind fun r204=>
 (Z1c N [118,111,108,32,120,59,32,116,104,114,101,97,100,32,116,32,123,32,125,32,97,108,119,97,121,115,32,120,59]).bind fun r206=>
 (Z5k N r206).bind fun r238=>
 (Z5k N (api_Prog.mk [] [] ([(api_Cell.mk [] 0 0)]:List api_Cell) [] [] [])).bind fun r247=>
 (Hz (((((((((((((decide (r34.1=0)) && (decide (r68.1=9))) && (decide (r68.2=28))) && (decide (r102.1=10))) && (decide (r102.2=12))) && (decide (r136.1=10))) && (decide (r136.2=15))) && (decide (r170.1=2))) && (decide (r204.1=9))) && (decide (r204.2=18))) && (decide (r238.1=9))) && (decide (r238.2=27))) && (decide (r247.1=8)))).bind fun _=>
 (Z5i N rz1).bind fun r250=>
 (Z5d N r250 ([[97],[98],[99],[120]]:List Str)).bind fun r260=>
 (Hz r260).bind fun _=>
 (Z64 N rz1).bind fun r263=>
 (Hz (decide (r263=3))).bind fun _=>
 (Z5y N rz1 1).bind fun r266=>
 (Hz (decide (r266=0))).bind fun _=>
 (Z5y N rz1 2).bind fun r269=>
 (Hz (decide (r269=1))).bind fun _=>
 (Z5y N rz1 3).bind fun r272=>
 (Hz (decide (r272=2))).bind fun _=>
 (Z5y N rz1 4).bind fun r275=>
 (Hz (decide (r275=(-1)))).bind fun _=>
 (Z60 N rz1).bind fun r278=>
 (Z5d N r278 ([[109]]:List Str)).bind fun r288=>
 (Hz r288).bind fun _=>
 (Z5w N rz1).bind fun r291=>
 (Z5a N r291 ([1,0,0,7]:List Int)).bind fun r301=>
 (Hz r301).bind fun _=>
 (Z5i N rz1).bind fun r304=>
 (Z63 N r304 [99]).bind fun r311=>
 (Hz (decide (r311=2))).bind fun _=>
 (Z63 N ([]:(List Str)) [99]).bind fun r314=>
 some (decide (r314=(-1)))
def Z15 (N:Nat) (kZ18:Int→Option Bool) (r115:(Int×Int)) (vB1:Int) (vC1:Bool):Option Bool:=
 if vC1=true then
  if r115.1≠0 then
   (Z1b N).bind fun r136=>
   some r136
  else
   some false
 else
  kZ18 (IntKind.i64.wrap (vB1+1))
def Z18 (N:Nat) (kZ14:Option Bool) (r29:api_Prog) (r115:(Int×Int)):Nat→Int→Option Bool
 | 0,_=>none
 | n+1,vB1=>
  if vB1 < (r29.Threads.length:Int) then
   (getI r29.Threads vB1).bind fun x118=>
   if x118.Name=[122,122,122] then
    (Z15 N (Z18 N kZ14 r29 r115 n) r115 vB1) true
   else
    (Z63 N x118.Regs [122,122,122]).bind fun r132=>
    (Z15 N (Z18 N kZ14 r29 r115 n) r115 vB1) (decide (0≤r132))
  else
   kZ14
def Z19 (N:Nat) (kZ16:Option Bool) (r29:api_Prog) (r115:(Int×Int)):Nat→Int→Option Bool
 | 0,_=>none
 | n+1,vB2=>
  if vB2 < (r29.Recover.length:Int) then
   (getI r29.Recover vB2).bind fun x139=>
   (Z63 N x139.Regs [122,122,122]).bind fun r152=>
   if 0≤r152 then
    if r115.1≠0 then
     (Z1b N).bind fun r156=>
     some r156
    else
     some false
   else
    (Z19 N kZ16 r29 r115 n) (IntKind.i64.wrap (vB2+1))
  else
   kZ16
def Z1a (N:Nat) (kZ17:Option Bool) (r29:api_Prog) (l105:(List api_Cell)) (r158:(List Str)):Nat→Int→Option Bool
 | 0,_=>none
 | n+1,vB3=>
  if vB3 < (r158.length:Int) then
   (Z5y N r29 vB3).bind fun r173=>
   (Z5y N (api_Prog.mk r29.Lines l105 r29.Locks r29.Threads r29.Recover r29.Claims) vB3).bind fun r175=>
   (Hz (!(decide (r173≠r175)))).bind fun _=>
   (Z1a N kZ17 r29 l105 r158 n) (IntKind.i64.wrap (vB3+1))
  else
   kZ17
def Z17 (N:Nat) (r29:api_Prog) (l105:(List api_Cell)) (r115:(Int×Int)) (r158:(List Str)):Option Bool:=
 if r115.1=0 then
  (Z5i N (api_Prog.mk r29.Lines l105 r29.Locks r29.Threads r29.Recover r29.Claims)).bind fun r179=>
  (De r179 0 (r158.length:Int)).bind fun l189=>
  (Z5i N r29).bind fun r197=>
  (Z5d N l189 r197).bind fun r207=>
  if r207=true then
   (Z5i N (api_Prog.mk r29.Lines l105 r29.Locks r29.Threads r29.Recover r29.Claims)).bind fun r210=>
   (Z63 N r210 [122,122,122]).bind fun r220=>
   if r220=(r158.length:Int) then
    (Z64 N (api_Prog.mk r29.Lines l105 r29.Locks r29.Threads r29.Recover r29.Claims)).bind fun r223=>
    (Z64 N r29).bind fun r225=>
    if r223=r225 then
     (Z5y N (api_Prog.mk r29.Lines l105 r29.Locks r29.Threads r29.Recover r29.Claims) (r158.length:Int)).bind fun r228=>
     if r228=(IntKind.i64.wrap ((r29.Lines.length:Int)+(r29.Vols.length:Int))) then
      (Z1b N).bind fun r231=>
      some r231
     else
      some false
    else
     some false
   else
    some false
  else
   some false
 else
  some false
def Z16 (N:Nat) (r29:api_Prog) (l105:(List api_Cell)) (r115:(Int×Int)):Option Bool:=
 (Z5i N r29).bind fun r158=>
 if (r29.Vols.length:Int)=4 then
  if r115.1=2 then
   (Z1b N).bind fun r170=>
   some r170
  else
   some false
 else
  (Z1a N (Z17 N r29 l105 r115 r158) r29 l105 r158) N 0
def Z14 (N:Nat) (r29:api_Prog) (l105:(List api_Cell)) (r115:(Int×Int)):Option Bool:=
 (Z19 N (Z16 N r29 l105 r115) r29 r115) N 0
def Z13 (N:Nat) (r29:api_Prog) (vA2:Bool):Option Bool:=
 if vA2=true then
  (Z1b N).bind fun r87=>
  some r87
 else
  (Cw 32 ([]:List api_Cell) r29.Vols).bind fun l93=>
  (Cw 32 l93 ([(api_Cell.mk [122,122,122] 9 0)]:List api_Cell)).bind fun l105=>
  (Z5k N (api_Prog.mk r29.Lines l105 r29.Locks r29.Threads r29.Recover r29.Claims)).bind fun r115=>
  (Z18 N (Z14 N r29 l105 r115) r29 r115) N 0
def Z12 (N:Nat) (p1:api_Prog):Option Bool:=
 (Zm N p1).bind fun r29=>
 (Z5k N r29).bind fun r61=>
 if r61.1≠0 then
  (Z13 N r29) true
 else
  (Z5i N r29).bind fun r64=>
  (Z63 N r64 [122,122,122]).bind fun r74=>
  if 0≤r74 then
   (Z13 N r29) true
  else
   (Z60 N r29).bind fun r77=>
   (Z63 N r77 [122,122,122]).bind fun r84=>
   (Z13 N r29) (decide (0≤r84))
end Go.MD.LB
