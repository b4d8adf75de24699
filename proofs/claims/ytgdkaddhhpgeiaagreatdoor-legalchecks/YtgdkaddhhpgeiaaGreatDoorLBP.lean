/- Plain functions, lifted by program from the seat lb. No condition: definitions. -/
import Derived.Test.YtgdkaddhhpgeiaaGreatDoorMD
import Derived.Lib.IndexMore
namespace Go.MD.LB
open Go Go.MD
def Qb (s p:Str):Option (List Str):=
 if s=[108,105,110,101,32,118,111,108,32,108,111,99,107,32,116,104,114,101,97,100,32,114,101,103,32,108,111,97,100,32,115,116,111,114,101,32,99,97,115,32,102,108,117,115,104,32,111,112,116,32,115,102,101,110,99,101,32,109,102,101,110,99,101,32,116,97,107,101,32,103,105,118,101,32,105,102,32,101,108,115,101,32,108,111,111,112,32,98,114,101,97,107,32,99,104,101,99,107,32,114,101,99,111,118,101,114,32,97,108,119,97,121,115]∧p=[32] then some [[108,105,110,101],[118,111,108],[108,111,99,107],[116,104,114,101,97,100],[114,101,103],[108,111,97,100],[115,116,111,114,101],[99,97,115],[102,108,117,115,104],[111,112,116],[115,102,101,110,99,101],[109,102,101,110,99,101],[116,97,107,101],[103,105,118,101],[105,102],[101,108,115,101],[108,111,111,112],[98,114,101,97,107],[99,104,101,99,107],[114,101,99,111,118,101,114],[97,108,119,97,121,115]] else
 none
def Z0 (s p:Str):Option Bool:=if s.length < 4294967281 then some (Lib.contains s p) else none
structure api_Cell where
 Name:Str
 N:Int
 At:Int
 deriving DecidableEq
structure api_Node where
 Op:Int
 N:Int
 Name:Str
 At:Int
 deriving DecidableEq
structure api_Stmt where
 Kind:Int
 Reg:Str
 Name:Str
 E:(List api_Node)
 F:(List api_Node)
 N:Int
 Body:Int
 Else:Int
 At:Int
 deriving DecidableEq
structure api_Thread where
 Name:Str
 Regs:(List Str)
 Body:(List api_Stmt)
 At:Int
 deriving DecidableEq
structure api_Claim where
 E:(List api_Node)
 At:Int
 deriving DecidableEq
structure api_Prog where
 Lines:(List (List api_Cell))
 Vols:(List api_Cell)
 Locks:(List api_Cell)
 Threads:(List api_Thread)
 Recover:(List api_Thread)
 Claims:(List api_Claim)
 deriving DecidableEq
structure legal_use where
 name:Str
 at':Int
 may:(List Int)
 deriving DecidableEq
structure api_Token where
 Kind:Int
 Text:Str
 N:Int
 At:Int
 deriving DecidableEq
structure leadlineref05_In where
 L:(List api_Token)
 At:Int
 E:Int
 Pos:Int
 deriving DecidableEq
structure leadlineref04_P where
 L:(List api_Token)
 At:Int
 E:Int
 Pos:Int
 Out:(List api_Stmt)
 deriving DecidableEq
structure leadlineref03_Read where
 L:(List api_Node)
 To:Int
 E:Int
 At:Int
 deriving DecidableEq
structure leadlinelaw07_Walk where
 How:(List Bool)
 At:Int
 Cost:Int
 Left:Bool
 deriving DecidableEq
def Zu (N:Nat) (kZt:(List api_Cell)→Option (List api_Cell)) (p1:(List api_Cell)):Nat→(List api_Cell)→Int→Option (List api_Cell)
 | 0,_,_=>none
 | n+1,vB1,vB7=>
  if ((decide (vB7 < (p1.length:Int))) && (decide (vB7 < 8)))=true then
   (getI p1 vB7).bind fun x10=>
   (Du x10.Name 0 (min (x10.Name.length:Int) 40)).bind fun s16=>
   (Ct 32 vB1 ([(api_Cell.mk s16 x10.N x10.At)]:List api_Cell)).bind fun l21=>
   (Zu N kZt p1 n) l21 (IntKind.i64.wrap (vB7+1))
  else
   kZt vB1
def Zt (vA1:(List api_Cell)):Option (List api_Cell):=
 some vA1
def Zs (N:Nat) (p1:(List api_Cell)):Option (List api_Cell):=
 (Zu N Zt p1) N [] 0
def Zi (N:Nat) (kZh:(List api_Node)→Option (List api_Node)) (p1:(List api_Node)):Nat→(List api_Node)→Int→Option (List api_Node)
 | 0,_,_=>none
 | n+1,vB1,vB7=>
  if ((decide (vB7 < (p1.length:Int))) && (decide (vB7 < 60)))=true then
   (getI p1 vB7).bind fun x10=>
   (Du x10.Name 0 (min (x10.Name.length:Int) 40)).bind fun s16=>
   (Ct 40 vB1 ([(api_Node.mk x10.Op x10.N s16 x10.At)]:List api_Node)).bind fun l21=>
   (Zi N kZh p1 n) l21 (IntKind.i64.wrap (vB7+1))
  else
   kZh vB1
def Zh (vA1:(List api_Node)):Option (List api_Node):=
 some vA1
def Zg (N:Nat) (p1:(List api_Node)):Option (List api_Node):=
 (Zi N Zh p1) N [] 0
def Zl (N:Nat) (kZk:(List api_Stmt)→Option (List api_Stmt)) (p1:(List api_Stmt)):Nat→(List api_Stmt)→Int→Option (List api_Stmt)
 | 0,_,_=>none
 | n+1,vB2,vB8=>
  if ((decide (vB8 < (p1.length:Int))) && (decide (vB8 < 50)))=true then
   (getI p1 vB8).bind fun x10=>
   (Du x10.Reg 0 (min (x10.Reg.length:Int) 40)).bind fun s24=>
   (Du x10.Name 0 (min (x10.Name.length:Int) 40)).bind fun s26=>
   (Zg N x10.E).bind fun r28=>
   (Zg N x10.F).bind fun r35=>
   (Ct 120 vB2 ([(api_Stmt.mk x10.Kind s24 s26 r28 r35 x10.N x10.Body x10.Else x10.At)]:List api_Stmt)).bind fun l53=>
   (Zl N kZk p1 n) l53 (IntKind.i64.wrap (vB8+1))
  else
   kZk vB2
def Zk (vA2:(List api_Stmt)):Option (List api_Stmt):=
 some vA2
def Zj (N:Nat) (p1:(List api_Stmt)):Option (List api_Stmt):=
 (Zl N Zk p1) N [] 0
def Z11 (N:Nat) (kZz:(List Str)→Option (List api_Thread)) (p1:(List api_Thread)) (vB8:Int):Nat→(List Str)→Int→Option (List api_Thread)
 | 0,_,_=>none
 | n+1,vE1,vE7=>
  (getI p1 vB8).bind fun x36=>
  if ((decide (vE7 < (x36.Regs.length:Int))) && (decide (vE7 < 6)))=true then
   (getI x36.Regs vE7).bind fun x50=>
   (Du x50 0 (min (x50.length:Int) 40)).bind fun s55=>
   (Ct 16 vE1 ([s55]:List Str)).bind fun l60=>
   (Z11 N kZz p1 vB8 n) l60 (IntKind.i64.wrap (vE7+1))
  else
   kZz vE1
def Zz (kZx:(List api_Thread)→Option (List api_Thread)) (vD3:Str) (vD4:(List api_Stmt)) (vD9:Int) (vB2:(List api_Thread)) (vD10:(List Str)):Option (List api_Thread):=
 (Ct 72 vB2 ([(api_Thread.mk vD3 vD10 vD4 vD9)]:List api_Thread)).bind fun l73=>
 kZx l73
def Zy (N:Nat) (kZx:(List api_Thread)→Option (List api_Thread)) (p1:(List api_Thread)) (vB2:(List api_Thread)) (vB8:Int) (vD3:Str) (vD4:(List api_Stmt)) (vD9:Int):Option (List api_Thread):=
 (Z11 N (Zz kZx vD3 vD4 vD9 vB2) p1 vB8) N [] 0
def Zx (kZ10:(List api_Thread)→Int→Option (List api_Thread)) (vB8:Int) (vC2:(List api_Thread)):Option (List api_Thread):=
 kZ10 vC2 (IntKind.i64.wrap (vB8+1))
def Z10 (N:Nat) (kZw:(List api_Thread)→Option (List api_Thread)) (p1:(List api_Thread)):Nat→(List api_Thread)→Int→Option (List api_Thread)
 | 0,_,_=>none
 | n+1,vB2,vB8=>
  if ((decide (vB8 < (p1.length:Int))) && (decide (vB8 < 4)))=true then
   (getI p1 vB8).bind fun x10=>
   (Du x10.Name 0 (min (x10.Name.length:Int) 40)).bind fun s23=>
   (Zj N x10.Body).bind fun r25=>
   (Zy N (Zx (Z10 N kZw p1 n) vB8) p1 vB2 vB8) s23 r25 x10.At
  else
   kZw vB2
def Zw (vA2:(List api_Thread)):Option (List api_Thread):=
 some vA2
def Zv (N:Nat) (p1:(List api_Thread)):Option (List api_Thread):=
 (Z10 N Zw p1) N [] 0
def Zq (N:Nat) (kZo:(List (List api_Cell))→Option api_Prog) (p1:api_Prog):Nat→(List (List api_Cell))→Int→Option api_Prog
 | 0,_,_=>none
 | n+1,vB2,vB8=>
  if ((decide (vB8 < (p1.Lines.length:Int))) && (decide (vB8 < 6)))=true then
   (getI p1.Lines vB8).bind fun x66=>
   (Zs N x66).bind fun r75=>
   (Ct 24 vB2 ([r75]:List (List api_Cell))).bind fun l89=>
   (Zq N kZo p1 n) l89 (IntKind.i64.wrap (vB8+1))
  else
   kZo vB2
def Zr (N:Nat) (kZp:(List api_Claim)→Option api_Prog) (p1:api_Prog):Nat→(List api_Claim)→Int→Option api_Prog
 | 0,_,_=>none
 | n+1,vB10,vB16=>
  if ((decide (vB16 < (p1.Claims.length:Int))) && (decide (vB16 < 6)))=true then
   (getI p1.Claims vB16).bind fun x96=>
   (Zg N x96.E).bind fun r105=>
   (Ct 32 vB10 ([(api_Claim.mk r105 x96.At)]:List api_Claim)).bind fun l119=>
   (Zr N kZp p1 n) l119 (IntKind.i64.wrap (vB16+1))
  else
   kZp vB10
def Zp (vA3:(List api_Cell)) (vA9:(List api_Cell)) (vA15:(List api_Thread)) (vA20:(List api_Thread)) (vA26:(List (List api_Cell))) (vA33:(List api_Claim)):Option api_Prog:=
 some (api_Prog.mk vA26 vA3 vA9 vA15 vA20 vA33)
def Zo (N:Nat) (p1:api_Prog) (vA3:(List api_Cell)) (vA9:(List api_Cell)) (vA15:(List api_Thread)) (vA20:(List api_Thread)) (vA26:(List (List api_Cell))):Option api_Prog:=
 (Zr N (Zp vA3 vA9 vA15 vA20 vA26) p1) N [] 0
def Zn (N:Nat) (p1:api_Prog) (vA3:(List api_Cell)) (vA9:(List api_Cell)) (vA15:(List api_Thread)) (vA20:(List api_Thread)):Option api_Prog:=
 (Zq N (Zo N p1 vA3 vA9 vA15 vA20) p1) N [] 0
def Zm (N:Nat) (p1:api_Prog):Option api_Prog:=
 (Zs N p1.Vols).bind fun r30=>
 (Zs N p1.Locks).bind fun r37=>
 (Zv N p1.Threads).bind fun r44=>
 (Zv N p1.Recover).bind fun r54=>
 (Zn N p1) r30 r37 r44 r54
def Z7t (_:Nat) (p1:api_Prog):Option api_Prog:=
 some p1
def Z7y {τ:Type} (N:Nat) (kZ7w:τ→Option τ) (y:τ→(api_Cell×Int)→Option (τ×Bool)) (x31:(List api_Cell)) (vB2:Int):Nat→Int→τ→Option τ
 | 0,_,_=>none
 | n+1,vD2,vD3=>
  if vD2 < (x31.length:Int) then
   (getI x31 vD2).bind fun x41=>
   (y vD3 (x41,vB2)).bind fun r47=>
   if r47.2=true then
    (Z7y N kZ7w y x31 vB2 n) (IntKind.i64.wrap (vD2+1)) r47.1
   else
    some r47.1
  else
   kZ7w vD3
def Z7w {τ:Type} (kZ7x:Int→τ→Option τ) (vB2:Int) (vC2:τ):Option τ:=
 kZ7x (IntKind.i64.wrap (vB2+1)) vC2
def Z7x {τ:Type} (N:Nat) (kZ7v:τ→Option τ) (y:τ→(api_Cell×Int)→Option (τ×Bool)) (y2:api_Prog):Nat→Int→τ→Option τ
 | 0,_,_=>none
 | n+1,vB2,vB3=>
  if vB2 < (y2.Lines.length:Int) then
   (getI y2.Lines vB2).bind fun x31=>
   (Z7y N (Z7w (Z7x N kZ7v y y2 n) vB2) y x31 vB2) N 0 vB3
  else
   kZ7v vB3
def Z7z {τ:Type} (N:Nat) (y:τ→(api_Cell×Int)→Option (τ×Bool)) (y2:api_Prog):Nat→Int→τ→Option τ
 | 0,_,_=>none
 | n+1,vA6,vA7=>
  if vA6 < (y2.Vols.length:Int) then
   (getI y2.Vols vA6).bind fun x55=>
   (y vA7 (x55,(IntKind.i64.wrap ((y2.Lines.length:Int)+vA6)))).bind fun r61=>
   if r61.2=true then
    (Z7z N y y2 n) (IntKind.i64.wrap (vA6+1)) r61.1
   else
    some r61.1
  else
   some vA7
def Z7v {τ:Type} (N:Nat) (y:τ→(api_Cell×Int)→Option (τ×Bool)) (y2:api_Prog) (vA2:τ):Option τ:=
 (Z7z N y y2) N 0 vA2
def Z7u {τ:Type} (N:Nat) (y:τ→(api_Cell×Int)→Option (τ×Bool)) (s0:τ) (y2:api_Prog):Option τ:=
 (Z7x N (Z7v N y y2) y y2) N 0 s0
def Z85 (p1:Str) (p2:Int) (p4:(List (Str×Int))) (vA1:Bool) (vA2:Int):Option ((List (Str×Int))×Bool×Int):=
 some ((Ih p1 p2 p4),vA1,vA2)
def Z84 (_:Nat) (p1:Str) (p2:Int) (p3:Int) (p4:(List (Str×Int))) (p10:Bool) (p12:Int):Option ((List (Str×Int))×Bool×Int):=
 if ((decide (((Be p1 p4).getD 0)≠0)) && (!p10))=true then
  (Z85 p1 p2 p4) true p3
 else
  (Z85 p1 p2 p4) p10 p12
def Z87 (N:Nat) (xe129:(api_Cell×Int)) (vA3:(List (Str×Int))) (vA7:Int) (vA8:Bool) (vB1:Int):Option (((List (Str×Int))×Int×Bool) ⊕ Empty):=
 (Z84 N xe129.1.Name vB1 xe129.1.At vA3 vA8 vA7).bind fun r134=>
 some (.inl (r134.1,r134.2.2,r134.2.1))
def Z86 (N:Nat) (p1:api_Prog) (vA3:(List (Str×Int))) (vA7:Int) (vA8:Bool) (xe129:(api_Cell×Int)):Option (((List (Str×Int))×Int×Bool) ⊕ Empty):=
 if (p1.Lines.length:Int)≤xe129.2 then
  (Z87 N xe129 vA3 vA7 vA8) 2
 else
  (Z87 N xe129 vA3 vA7 vA8) 1
def Z8a (N:Nat) (kZ88:(List (Str×Int))→Int→Bool→Option ((List (Str×Int))×Int×Bool)) (p1:api_Prog):Nat→(List (Str×Int))→Int→Bool→Int→Option ((List (Str×Int))×Int×Bool)
 | 0,_,_,_,_=>none
 | n+1,vB3,vB7,vB8,vB9=>
  if vB9 < (p1.Locks.length:Int) then
   (getI p1.Locks vB9).bind fun x143=>
   (Z84 N x143.Name 3 x143.At vB3 vB8 vB7).bind fun r149=>
   (Z8a N kZ88 p1 n) r149.1 r149.2.2 r149.2.1 (IntKind.i64.wrap (vB9+1))
  else
   kZ88 vB3 vB7 vB8
def Z8b (N:Nat) (kZ89:(List (Str×Int))→Int→Bool→Option ((List (Str×Int))×Int×Bool)) (p1:api_Prog):Nat→(List (Str×Int))→Int→Bool→Int→Option ((List (Str×Int))×Int×Bool)
 | 0,_,_,_,_=>none
 | n+1,vB11,vB15,vB16,vB17=>
  if vB17 < (p1.Threads.length:Int) then
   (getI p1.Threads vB17).bind fun x156=>
   (Z84 N x156.Name 4 x156.At vB11 vB16 vB15).bind fun r170=>
   (Z8b N kZ89 p1 n) r170.1 r170.2.2 r170.2.1 (IntKind.i64.wrap (vB17+1))
  else
   kZ89 vB11 vB15 vB16
def Z89 (vA17:(List (Str×Int))) (vA21:Int) (vA22:Bool):Option ((List (Str×Int))×Int×Bool):=
 some (vA17,vA21,vA22)
def Z88 (N:Nat) (p1:api_Prog) (vA10:(List (Str×Int))) (vA14:Int) (vA15:Bool):Option ((List (Str×Int))×Int×Bool):=
 (Z8b N Z89 p1) N vA10 vA14 vA15 0
def Z83 (N:Nat) (p1:api_Prog):Option ((List (Str×Int))×Int×Bool):=
 (Z7t N p1).bind fun r35=>
 (Z7u N (yy (fun (s:((List (Str×Int))×Int×Bool)) (x:(api_Cell×Int))=>(Z86 N p1) s.1 s.2.1 s.2.2 x)) (.inl ([],0,false)) r35).bind fun q69=>
 match q69 with
  | .inl (vA3,vA7,vA8)=>
   (Z8a N (Z88 N p1) p1) N vA3 vA7 vA8 0
  | .inr t=>nomatch t
def Z9g (_:Nat) (p1:Int):Option Bool:=
 some (((decide (97≤p1)) && (decide (p1≤122))) || (decide (p1=95)))
def Z9f (N:Nat) (kZ9e:(List (Str×Bool))→Option (List (Str×Bool))) (rz3:(List Str)):Nat→(List (Str×Bool))→Int→Option (List (Str×Bool))
 | 0,_,_=>none
 | n+1,vB1,vB5=>
  if vB5 < (rz3.length:Int) then
   (getI rz3 vB5).bind fun x11=>
   (Z9f N kZ9e rz3 n) (Ih x11 true vB1) (IntKind.i64.wrap (vB5+1))
  else
   kZ9e vB1
def Z9e (vA1:(List (Str×Bool))):Option (List (Str×Bool)):=
 some vA1
def Z9d (N:Nat)  : Option (List (Str×Bool)):=
 (Qb [108,105,110,101,32,118,111,108,32,108,111,99,107,32,116,104,114,101,97,100,32,114,101,103,32,108,111,97,100,32,115,116,111,114,101,32,99,97,115,32,102,108,117,115,104,32,111,112,116,32,115,102,101,110,99,101,32,109,102,101,110,99,101,32,116,97,107,101,32,103,105,118,101,32,105,102,32,101,108,115,101,32,108,111,111,112,32,98,114,101,97,107,32,99,104,101,99,107,32,114,101,99,111,118,101,114,32,97,108,119,97,121,115] [32]).bind fun rz3=>
 (Z9f N Z9e rz3) N [] 0
def Z98 (N:Nat) (p1:Str):Option Bool:=
 (Z9d N).bind fun rz2=>
 some ((Be p1 rz2).getD false)
def Z9c (_:Nat) (p1:Int):Option Bool:=
 some ((decide (48≤p1)) && (decide (p1≤57)))
def Z9a (N:Nat) (p1:Int):Option Bool:=
 (Z9g N p1).bind fun rz2=>
 if rz2=true then
  some true
 else
  (Z9c N p1).bind fun rz5=>
  some rz5
def Z9j (kZ9i:Int→Option Int) (kZ9k:Int→Option Int) (vB1:Int) (vC1:Bool):Option Int:=
 if vC1=true then
  kZ9k (IntKind.i64.wrap (vB1+1))
 else
  kZ9i vB1
def Z9k (N:Nat) (kZ9i:Int→Option Int) (p1:Str):Nat→Int→Option Int
 | 0,_=>none
 | n+1,vB1=>
  if vB1 < (p1.length:Int) then
   (Di p1 vB1).bind fun xz3=>
   (Z9a N xz3).bind fun rz5=>
   (Z9j kZ9i (Z9k N kZ9i p1 n) vB1) rz5
  else
   (Z9j kZ9i (Z9k N kZ9i p1 n) vB1) false
def Z9i (vA1:Int):Option Int:=
 some vA1
def Z9h (N:Nat) (p1:Str):Option Int:=
 (Z9k N Z9i p1) N 0
def Z9b (N:Nat) (p1:Str) (vA1:Bool):Option Bool:=
 if vA1=true then
  some false
 else
  (Z9h N p1).bind fun r11=>
  some (decide (r11=(p1.length:Int)))
def Z99 (N:Nat) (p1:Str):Option Bool:=
 if ((decide (p1=[])) || (decide (16 < (p1.length:Int))))=true then
  (Z9b N p1) true
 else
  (Di p1 0).bind fun xz3=>
  (Z9g N xz3).bind fun rz5=>
  if rz5=true then
   (Z98 N p1).bind fun rz8=>
   (Z9b N p1) rz8
  else
   (Z9b N p1) true
def Z95 (_:Nat) (p1:Int):Option Bool:=
 some ((decide (0≤p1)) && (decide (p1≤4000)))
def Z94 (N:Nat) (p1:api_Cell) (y3:Int):Option Bool:=
 (Z99 N p1.Name).bind fun rz6=>
 if (((!rz6) || (decide (p1.N < 0))) || (decide (y3 < p1.N)))=true then
  some true
 else
  (Z95 N p1.At).bind fun rz9=>
  some (!rz9)
def Za9 (N:Nat) (kZa8:Option Int) (p1:(List api_Cell)) (y7:Int):Nat→Int→Option Int
 | 0,_=>none
 | n+1,vB1=>
  if vB1 < (p1.length:Int) then
   (getI p1 vB1).bind fun x10=>
   (Z94 N x10 y7).bind fun r15=>
   if r15=true then
    some vB1
   else
    (Za9 N kZa8 p1 y7 n) (IntKind.i64.wrap (vB1+1))
  else
   kZa8
def Za8  : Option Int:=
 some (-1)
def Za7 (N:Nat) (p1:(List api_Cell)) (y7:Int):Option Int:=
 (Za9 N Za8 p1 y7) N 0
def Z9s (N:Nat) (p1:(List api_Cell)) (y7:Int):Option Bool:=
 (Za7 N p1 y7).bind fun rz9=>
 some (decide (0≤rz9))
def Z93 (N:Nat) (p1:(List api_Cell)) (p6:Int):Option Bool:=
 (Z9s N p1 p6).bind fun rz8=>
 some (!rz8)
def Z8y (N:Nat) (p1:(List api_Cell)):Option Bool:=
 if (p1.length:Int)=0 then
  some true
 else
  (Z93 N p1 4294967296).bind fun rz7=>
  some (!rz7)
def Za3 (N:Nat) (kZa2:Option Int) (p1:(List (List api_Cell))):Nat→Int→Option Int
 | 0,_=>none
 | n+1,vB1=>
  if vB1 < (p1.length:Int) then
   (getI p1 vB1).bind fun xz7=>
   (Z8y N xz7).bind fun r16=>
   if r16=true then
    some vB1
   else
    (Za3 N kZa2 p1 n) (IntKind.i64.wrap (vB1+1))
  else
   kZa2
def Za2  : Option Int:=
 some (-1)
def Za1 (N:Nat) (p1:(List (List api_Cell))):Option Int:=
 (Za3 N Za2 p1) N 0
def Z9q (N:Nat) (p1:(List (List api_Cell))):Option Bool:=
 (Za1 N p1).bind fun rz6=>
 some (decide (0≤rz6))
def Z97 (N:Nat) (p1:Str):Option Bool:=
 (Z99 N p1).bind fun rz2=>
 some (!rz2)
def Zau (N:Nat) (kZat:Option Int) (p1:(List Str)):Nat→Int→Option Int
 | 0,_=>none
 | n+1,vB1=>
  if vB1 < (p1.length:Int) then
   (getI p1 vB1).bind fun xz7=>
   (Z97 N xz7).bind fun r12=>
   if r12=true then
    some vB1
   else
    (Zau N kZat p1 n) (IntKind.i64.wrap (vB1+1))
  else
   kZat
def Zat  : Option Int:=
 some (-1)
def Zas (N:Nat) (p1:(List Str)):Option Int:=
 (Zau N Zat p1) N 0
def Z9z (N:Nat) (p1:(List Str)):Option Bool:=
 (Zas N p1).bind fun rz6=>
 some (decide (0≤rz6))
def Zb9 (_:Nat)  : Option (Arr 15 Str):=
 some (⟨[[],[114,101],[114,110],[110,101],[114,110,101,102],[110],[110],[],[],[110],[110],[101,98],[107,98],[],[101]],rfl⟩:(Arr 15 Str))
def Zb1 (N:Nat) (p1:Int):Option Str:=
 if ((decide (p1 < 0)) || (decide (15≤p1)))=true then
  some []
 else
  (Zb9 N).bind fun rz3=>
  (getI rz3.l p1).bind fun x12=>
  some x12
def Zbb (_:Nat) (p1:Str) (y3:Str):Option Bool:=
 (Z0 y3 p1).bind fun rz5=>
 some rz5
def Zbc (N:Nat) (p1:Bool) (p2:Str):Option Bool:=
 if p1=true then
  (Z99 N p2).bind fun rz4=>
  some (rz4 || ((!p1) && (decide (p2=[]))))
 else
  some ((!p1) && (decide (p2=[])))
def Zc (N:Nat) (p1:api_Node):Option Bool:=
 if ((decide (p1.At < 0)) || (decide (4000 < p1.At)))=true then
  some false
 else
  if p1.Op=1 then
   some (((decide (0≤p1.N)) && (decide (p1.N≤4294967296))) && (decide (p1.Name=[])))
  else
   if p1.Op=2 then
    if p1.N=0 then
     (Z99 N p1.Name).bind fun rz7=>
     some rz7
    else
     some false
   else
    some ((decide (p1.N=0)) && (decide (p1.Name=[])))
def Z6 (N:Nat) (p1:api_Node):Option Bool:=
 (Zc N p1).bind fun rz3=>
 some (!rz3)
def Zaf (N:Nat) (kZae:Option Int) (p1:(List api_Node)):Nat→Int→Option Int
 | 0,_=>none
 | n+1,vB1=>
  if vB1 < (p1.length:Int) then
   (getI p1 vB1).bind fun xz7=>
   (Z6 N xz7).bind fun r12=>
   if r12=true then
    some vB1
   else
    (Zaf N kZae p1 n) (IntKind.i64.wrap (vB1+1))
  else
   kZae
def Zae  : Option Int:=
 some (-1)
def Zad (N:Nat) (p1:(List api_Node)):Option Int:=
 (Zaf N Zae p1) N 0
def Z9u (N:Nat) (p1:(List api_Node)):Option Bool:=
 (Zad N p1).bind fun rz6=>
 some (decide (0≤rz6))
def Zb (_:Nat) (p1:Int):Option Int:=
 if ((decide (p1=1)) || (decide (p1=2)))=true then
  some 0
 else
  if ((decide (p1=3)) || (decide (p1=4)))=true then
   some 1
  else
   if ((decide (5≤p1)) && (decide (p1≤15)))=true then
    some 2
   else
    some (-1)
def Z3 (N:Nat) (kZ4:Int→Int→Option Int) (p1:(List api_Node)) (vB1:Int) (vB2:Int) (vC1:Bool):Option Int:=
 if vC1=true then
  some (-1)
 else
  (getI p1 vB1).bind fun x17=>
  (Zb N x17.Op).bind fun r22=>
  kZ4 (IntKind.i64.wrap (vB1+1)) (IntKind.i64.wrap ((IntKind.i64.wrap (vB2+r22)) - 1))
def Z4 (N:Nat) (kZ2:Int→Option Int) (p1:(List api_Node)):Nat→Int→Int→Option Int
 | 0,_,_=>none
 | n+1,vB1,vB2=>
  if 0 < vB2 then
   if ((decide (vB1 < 0)) || (decide ((p1.length:Int)≤vB1)))=true then
    (Z3 N (Z4 N kZ2 p1 n) p1 vB1 vB2) true
   else
    (getI p1 vB1).bind fun xz9=>
    (Zb N xz9.Op).bind fun r14=>
    (Z3 N (Z4 N kZ2 p1 n) p1 vB1 vB2) (decide (r14=(-1)))
  else
   kZ2 vB1
def Z2 (vA1:Int):Option Int:=
 some vA1
def Z1 (N:Nat) (p1:(List api_Node)) (p6:Int):Option Int:=
 (Z4 N Z2 p1) N p6 1
def Zf (N:Nat) (kZe:(List Int)→Option (List Int)) (p1:(List api_Node)) (r12:Int):Nat→(List Int)→Int→Int→Option (List Int)
 | 0,_,_,_=>none
 | n+1,vB1,vB7,vB8=>
  if vB8 < r12 then
   (Ct 8 vB1 ([vB7]:List Int)).bind fun l18=>
   (Z1 N p1 vB7).bind fun r24=>
   (Zf N kZe p1 r12 n) l18 r24 (IntKind.i64.wrap (vB8+1))
  else
   kZe vB1
def Ze (vA1:(List Int)):Option (List Int):=
 some vA1
def Zd (N:Nat) (p1:(List api_Node)) (p6:Int):Option (List Int):=
 (getI p1 p6).bind fun xz7=>
 (Zb N xz7.Op).bind fun r12=>
 (Zf N Ze p1 r12) N [] (IntKind.i64.wrap (p6+1)) 0
def Za (rf:(List api_Node)→Int→Option Int) (N:Nat) (kZ9:Int→Option Int) (p1:(List api_Node)) (rz7:(List Int)):Nat→Int→Int→Option Int
 | 0,_,_=>none
 | n+1,vB1,vB2=>
  if vB2 < (rz7.length:Int) then
   (getI rz7 vB2).bind fun x15=>
   (rf p1 x15).bind fun r21=>
   (Za rf N kZ9 p1 rz7 n) (max vB1 r21) (IntKind.i64.wrap (vB2+1))
  else
   kZ9 vB1
def Z9 (vA1:Int):Option Int:=
 some (IntKind.i64.wrap (vA1+1))
def Z8:Nat→(List api_Node)→Int→Option Int
 | 0,_,_=>none
 | N+1,p1,p6=>
  (Zd N p1 p6).bind fun rz7=>
  (Za (Z8 N) N Z9 p1 rz7) N 0 0
def Z7 (N:Nat) (p1:(List api_Node)) (vA1:Bool):Option Bool:=
 if vA1=true then
  some false
 else
  (Z8 N p1 0).bind fun r13=>
  some (decide (r13≤12))
def Z5 (N:Nat) (p1:(List api_Node)):Option Bool:=
 if ((decide ((p1.length:Int)=0)) || (decide (40 < (p1.length:Int))))=true then
  (Z7 N p1) true
 else
  (Z9u N p1).bind fun rz7=>
  if rz7=true then
   (Z7 N p1) true
  else
   (Z1 N p1 0).bind fun r10=>
   (Z7 N p1) (decide (r10≠(p1.length:Int)))
def Zbd (N:Nat) (p1:Bool) (p2:(List api_Node)):Option Bool:=
 if p1=true then
  (Z5 N p2).bind fun rz8=>
  some (rz8 || ((!p1) && (decide ((p2.length:Int)=0))))
 else
  some ((!p1) && (decide ((p2.length:Int)=0)))
def Zbe (N:Nat) (p1:api_Stmt) (r13:Str) (vA1:Bool):Option Bool:=
 if (((((decide (1≤p1.Kind)) && (decide (p1.Kind < 15))) && (decide (0≤p1.At))) && (decide (p1.At≤4000))) && vA1)=true then
  (Zbb N [114] r13).bind fun r20=>
  (Zbc N r20 p1.Reg).bind fun r22=>
  if r22=true then
   (Zbb N [110] r13).bind fun r25=>
   (Zbc N r25 p1.Name).bind fun r27=>
   if r27=true then
    (Zbb N [101] r13).bind fun r30=>
    (Zbd N r30 p1.E).bind fun r32=>
    if r32=true then
     (Zbb N [102] r13).bind fun r35=>
     (Zbd N r35 p1.F).bind fun r37=>
     some (!r37)
    else
     some true
   else
    some true
  else
   some true
 else
  some true
def Zba (N:Nat) (p1:api_Stmt):Option Bool:=
 (Zb1 N p1.Kind).bind fun r13=>
 (Zbb N [107] r13).bind fun r16=>
 if r16=true then
  (Zbe N p1 r13) ((decide (1≤p1.N)) && (decide (p1.N≤8)))
 else
  (Zbe N p1 r13) (decide (p1.N=0))
def Zai (N:Nat) (kZah:Option Int) (p1:(List api_Stmt)):Nat→Int→Option Int
 | 0,_=>none
 | n+1,vB1=>
  if vB1 < (p1.length:Int) then
   (getI p1 vB1).bind fun xz7=>
   (Zba N xz7).bind fun r20=>
   if r20=true then
    some vB1
   else
    (Zai N kZah p1 n) (IntKind.i64.wrap (vB1+1))
  else
   kZah
def Zah  : Option Int:=
 some (-1)
def Zag (N:Nat) (p1:(List api_Stmt)):Option Int:=
 (Zai N Zah p1) N 0
def Z9v (N:Nat) (p1:(List api_Stmt)):Option Bool:=
 (Zag N p1).bind fun rz6=>
 some (decide (0≤rz6))
def Zbf (_:Nat) (p1:Bool):Option Int:=
 if p1=true then
  some 1
 else
  some 0
def Zb7 (kZb8:Int→Int→Option Int) (xz8:api_Stmt) (vB2:Int) (vC2:Int):Option Int:=
 kZb8 vC2 (IntKind.i64.wrap ((IntKind.i64.wrap ((IntKind.i64.wrap (vB2+1))+xz8.Body))+xz8.Else))
def Zb6 (rf:(List api_Stmt)→Int→Option Int) (N:Nat) (kZb8:Int→Int→Option Int) (p1:(List api_Stmt)) (p6:Int) (xz8:api_Stmt) (vB1:Int) (vB2:Int) (vC1:Bool):Option Int:=
 if vC1=true then
  some (-1)
 else
  if ((decide (xz8.Kind=11)) || (decide (xz8.Kind=12)))=true then
   (Zbf N (decide (xz8.Kind=12))).bind fun r27=>
   (Du p1 (IntKind.i64.wrap (vB2+1)) (IntKind.i64.wrap ((IntKind.i64.wrap (vB2+1))+xz8.Body))).bind fun l29=>
   (rf l29 (IntKind.i64.wrap (p6+r27))).bind fun r37=>
   (Du p1 (IntKind.i64.wrap ((IntKind.i64.wrap (vB2+1))+xz8.Body)) (IntKind.i64.wrap ((IntKind.i64.wrap ((IntKind.i64.wrap (vB2+1))+xz8.Body))+xz8.Else))).bind fun l39=>
   (rf l39 (IntKind.i64.wrap (p6+r27))).bind fun r47=>
   if ((decide (r37=(-1))) || (decide (r47=(-1))))=true then
    some (-1)
   else
    (Zb7 kZb8 xz8 vB2) (max (max vB1 (IntKind.i64.wrap (r37+1))) (IntKind.i64.wrap (r47+1)))
  else
   (Zb7 kZb8 xz8 vB2) vB1
def Zb8 (rf:(List api_Stmt)→Int→Option Int) (N:Nat) (kZb5:Int→Option Int) (p1:(List api_Stmt)) (p6:Int):Nat→Int→Int→Option Int
 | 0,_,_=>none
 | n+1,vB1,vB2=>
  if vB2 < (p1.length:Int) then
   (getI p1 vB2).bind fun xz8=>
   if (((((decide (xz8.Body < 0)) || (decide (xz8.Else < 0))) || (decide ((p1.length:Int) < xz8.Body))) || (decide ((p1.length:Int) < xz8.Else))) || (decide ((p1.length:Int) < (IntKind.i64.wrap ((IntKind.i64.wrap ((IntKind.i64.wrap (vB2+1))+xz8.Body))+xz8.Else)))))=true then
    some (-1)
   else
    if ((!((decide (xz8.Kind=11)) || (decide (xz8.Kind=12)))) && (decide (0 < xz8.Body)))=true then
     (Zb6 rf N (Zb8 rf N kZb5 p1 p6 n) p1 p6 xz8 vB1 vB2) ((!((decide (xz8.Kind=11)) || (decide (xz8.Kind=12)))) && (decide (0 < xz8.Body)))
    else
     if ((decide (xz8.Kind≠11)) && (decide (0 < xz8.Else)))=true then
      (Zb6 rf N (Zb8 rf N kZb5 p1 p6 n) p1 p6 xz8 vB1 vB2) ((decide (xz8.Kind≠11)) && (decide (0 < xz8.Else)))
     else
      (Zb6 rf N (Zb8 rf N kZb5 p1 p6 n) p1 p6 xz8 vB1 vB2) ((decide (xz8.Kind=13)) && (decide (p6=0)))
  else
   kZb5 vB1
def Zb5 (vA1:Int):Option Int:=
 some vA1
def Zb4:Nat→(List api_Stmt)→Int→Option Int
 | 0,_,_=>none
 | N+1,p1,p6=>
  (Zb8 (Zb4 N) N Zb5 p1 p6) N 0 0
def Zb3 (N:Nat) (p1:(List api_Stmt)) (vA1:Bool):Option Bool:=
 if vA1=true then
  some false
 else
  (Zb4 N p1 0).bind fun r10=>
  some ((decide (r10≠(-1))) && (decide (r10≤12)))
def Zb2 (N:Nat) (p1:(List api_Stmt)):Option Bool:=
 if 40 < (p1.length:Int) then
  (Zb3 N p1) true
 else
  (Z9v N p1).bind fun rz7=>
  (Zb3 N p1) rz7
def Z96 (N:Nat) (p1:api_Thread):Option Bool:=
 (Z95 N p1.At).bind fun r13=>
 if r13=true then
  (Z9z N p1.Regs).bind fun r16=>
  if r16=true then
   some false
  else
   (Zb2 N p1.Body).bind fun r19=>
   some r19
 else
  some false
def Z8z (N:Nat) (p1:api_Thread):Option Bool:=
 (Z99 N p1.Name).bind fun r13=>
 if r13=true then
  (Z96 N p1).bind fun r16=>
  some (!r16)
 else
  some true
def Zal (N:Nat) (kZak:Option Int) (p1:(List api_Thread)):Nat→Int→Option Int
 | 0,_=>none
 | n+1,vB1=>
  if vB1 < (p1.length:Int) then
   (getI p1 vB1).bind fun xz7=>
   (Z8z N xz7).bind fun r20=>
   if r20=true then
    some vB1
   else
    (Zal N kZak p1 n) (IntKind.i64.wrap (vB1+1))
  else
   kZak
def Zak  : Option Int:=
 some (-1)
def Zaj (N:Nat) (p1:(List api_Thread)):Option Int:=
 (Zal N Zak p1) N 0
def Z9w (N:Nat) (p1:(List api_Thread)):Option Bool:=
 (Zaj N p1).bind fun rz6=>
 some (decide (0≤rz6))
def Z90 (N:Nat) (p1:api_Thread):Option Bool:=
 if p1.Name≠[] then
  some true
 else
  (Z96 N p1).bind fun r14=>
  some (!r14)
def Zao (N:Nat) (kZan:Option Int) (p1:(List api_Thread)):Nat→Int→Option Int
 | 0,_=>none
 | n+1,vB1=>
  if vB1 < (p1.length:Int) then
   (getI p1 vB1).bind fun xz7=>
   (Z90 N xz7).bind fun r20=>
   if r20=true then
    some vB1
   else
    (Zao N kZan p1 n) (IntKind.i64.wrap (vB1+1))
  else
   kZan
def Zan  : Option Int:=
 some (-1)
def Zam (N:Nat) (p1:(List api_Thread)):Option Int:=
 (Zao N Zan p1) N 0
def Z9x (N:Nat) (p1:(List api_Thread)):Option Bool:=
 (Zam N p1).bind fun rz6=>
 some (decide (0≤rz6))
def Z91 (N:Nat) (p1:api_Claim):Option Bool:=
 (Z95 N p1.At).bind fun rz9=>
 if rz9=true then
  (Z5 N p1.E).bind fun r12=>
  some (!r12)
 else
  some true
def Zac (N:Nat) (kZab:Option Int) (p1:(List api_Claim)):Nat→Int→Option Int
 | 0,_=>none
 | n+1,vB1=>
  if vB1 < (p1.length:Int) then
   (getI p1 vB1).bind fun xz7=>
   (Z91 N xz7).bind fun r16=>
   if r16=true then
    some vB1
   else
    (Zac N kZab p1 n) (IntKind.i64.wrap (vB1+1))
  else
   kZab
def Zab  : Option Int:=
 some (-1)
def Zaa (N:Nat) (p1:(List api_Claim)):Option Int:=
 (Zac N Zab p1) N 0
def Z9t (N:Nat) (p1:(List api_Claim)):Option Bool:=
 (Zaa N p1).bind fun rz6=>
 some (decide (0≤rz6))
def Z92 (N:Nat) (p1:api_Prog) (vA1:Bool):Option Bool:=
 if vA1=true then
  some false
 else
  (Z9w N p1.Threads).bind fun r39=>
  if r39=true then
   some false
  else
   (Z9x N p1.Recover).bind fun r42=>
   if r42=true then
    some false
   else
    (Z9t N p1.Claims).bind fun r45=>
    some (!r45)
def Z8x (N:Nat) (p1:api_Prog):Option Bool:=
 (Z9q N p1.Lines).bind fun r29=>
 if r29=true then
  (Z92 N p1) r29
 else
  (Z93 N p1.Vols 4294967296).bind fun r32=>
  if r32=true then
   (Z93 N p1.Locks 0).bind fun r35=>
   if r35=true then
    (Z92 N p1) (decide (1 < (p1.Recover.length:Int)))
   else
    (Z92 N p1) (!r35)
  else
   (Z92 N p1) (!r32)
def Z81 (_:Nat) (p1:(List api_Cell)):Option Bool:=
 some (decide (4 < (p1.length:Int)))
def Za6 (N:Nat) (kZa5:Option Int) (p1:(List (List api_Cell))):Nat→Int→Option Int
 | 0,_=>none
 | n+1,vB1=>
  if vB1 < (p1.length:Int) then
   (getI p1 vB1).bind fun xz7=>
   (Z81 N xz7).bind fun r16=>
   if r16=true then
    some vB1
   else
    (Za6 N kZa5 p1 n) (IntKind.i64.wrap (vB1+1))
  else
   kZa5
def Za5  : Option Int:=
 some (-1)
def Za4 (N:Nat) (p1:(List (List api_Cell))):Option Int:=
 (Za6 N Za5 p1) N 0
def Z9r (N:Nat) (p1:(List (List api_Cell))):Option Bool:=
 (Za4 N p1).bind fun rz6=>
 some (decide (0≤rz6))
def Z9o (N:Nat) (kZ9m:Int→Option (List api_Thread)) (p1:(List (List api_Thread))):Nat→Int→Int→Option (List api_Thread)
 | 0,_,_=>none
 | n+1,vB1,vB2=>
  if vB2 < (p1.length:Int) then
   (getI p1 vB2).bind fun xz7=>
   if (IntKind.i64.wrap (vB1+(xz7.length:Int))) < 0 then
    none
   else
    (Z9o N kZ9m p1 n) (IntKind.i64.wrap (vB1+(xz7.length:Int))) (IntKind.i64.wrap (vB2+1))
  else
   kZ9m vB1
def Z9p (N:Nat) (kZ9n:(List api_Thread)→Option (List api_Thread)) (p1:(List (List api_Thread))):Nat→(List api_Thread)→Int→Option (List api_Thread)
 | 0,_,_=>none
 | n+1,vB3,vB9=>
  if vB9 < (p1.length:Int) then
   (getI p1 vB9).bind fun x24=>
   (Ct 72 vB3 x24).bind fun l33=>
   (Z9p N kZ9n p1 n) l33 (IntKind.i64.wrap (vB9+1))
  else
   kZ9n vB3
def Z9n (vA2:(List api_Thread)):Option (List api_Thread):=
 some vA2
def Z9m (N:Nat) (p1:(List (List api_Thread))) (vA1:Int):Option (List api_Thread):=
 (Pf 72 vA1).bind fun _=>
 (Z9p N Z9n p1) N [] 0
def Z9l (N:Nat) (p1:(List (List api_Thread))):Option (List api_Thread):=
 (Z9o N (Z9m N p1) p1) N 0 0
def Z8f (N:Nat) (p1:api_Prog):Option (List api_Thread):=
 (Z9l N ([p1.Threads,p1.Recover]:List (List api_Thread))).bind fun r36=>
 some r36
def Z82 (_:Nat) (p1:api_Thread):Option Bool:=
 some (decide (4 < (p1.Regs.length:Int)))
def Zar (N:Nat) (kZaq:Option Int) (p1:(List api_Thread)):Nat→Int→Option Int
 | 0,_=>none
 | n+1,vB1=>
  if vB1 < (p1.length:Int) then
   (getI p1 vB1).bind fun xz7=>
   (Z82 N xz7).bind fun r20=>
   if r20=true then
    some vB1
   else
    (Zar N kZaq p1 n) (IntKind.i64.wrap (vB1+1))
  else
   kZaq
def Zaq  : Option Int:=
 some (-1)
def Zap (N:Nat) (p1:(List api_Thread)):Option Int:=
 (Zar N Zaq p1) N 0
def Z9y (N:Nat) (p1:(List api_Thread)):Option Bool:=
 (Zap N p1).bind fun rz6=>
 some (decide (0≤rz6))
def Z80 (N:Nat) (p1:api_Prog):Option Bool:=
 if 4 < (p1.Lines.length:Int) then
  some true
 else
  (Z9r N p1.Lines).bind fun r30=>
  if ((((r30 || (decide (4 < (p1.Vols.length:Int)))) || (decide (2 < (p1.Locks.length:Int)))) || (decide ((p1.Threads.length:Int)=0))) || (decide (3 < (p1.Threads.length:Int))))=true then
   some true
  else
   (Z8f N p1).bind fun r33=>
   (Z9y N r33).bind fun r43=>
   some (r43 || (decide (4 < (p1.Claims.length:Int))))
def Z8v (rf:(List api_Stmt)→Int→Option (Int×Bool)) (kZ8w:Int→Option (Int×Bool)) (p1:(List api_Stmt)) (xz8:api_Stmt) (vB1:Int) (vC1:Int):Option (Int×Bool):=
 if 64 < vC1 then
  some (xz8.At,true)
 else
  (Du p1 (IntKind.i64.wrap (vB1+1)) (IntKind.i64.wrap ((IntKind.i64.wrap ((IntKind.i64.wrap (vB1+1))+xz8.Body))+xz8.Else))).bind fun l24=>
  (rf l24 vC1).bind fun r32=>
  if r32.2=true then
   some (r32.1,true)
  else
   kZ8w (IntKind.i64.wrap ((IntKind.i64.wrap ((IntKind.i64.wrap (vB1+1))+xz8.Body))+xz8.Else))
def Z8w (rf:(List api_Stmt)→Int→Option (Int×Bool)) (N:Nat) (kZ8u:Option (Int×Bool)) (p1:(List api_Stmt)) (p6:Int):Nat→Int→Option (Int×Bool)
 | 0,_=>none
 | n+1,vB1=>
  if vB1 < (p1.length:Int) then
   (getI p1 vB1).bind fun xz8=>
   if xz8.Kind=12 then
    (Z8v rf (Z8w rf N kZ8u p1 p6 n) p1 xz8 vB1) (IntKind.i64.wrap (p6 * xz8.N))
   else
    (Z8v rf (Z8w rf N kZ8u p1 p6 n) p1 xz8 vB1) p6
  else
   kZ8u
def Z8u  : Option (Int×Bool):=
 some (0,false)
def Z8t:Nat→(List api_Stmt)→Int→Option (Int×Bool)
 | 0,_,_=>none
 | N+1,p1,p6=>
  (Z8w (Z8t N) N Z8u p1 p6) N 0
def Z8e (N:Nat) (kZ8d:(List (Str×Int))→Option ((List (Str×Int))×Bool)) (p1:api_Thread):Nat→(List (Str×Int))→Int→Option ((List (Str×Int))×Bool)
 | 0,_,_=>none
 | n+1,vB1,vB5=>
  if vB5 < (p1.Regs.length:Int) then
   (getI p1.Regs vB5).bind fun x27=>
   if ((Be x27 vB1).getD 0)≠0 then
    some ([],true)
   else
    (Z8e N kZ8d p1 n) (Ih x27 5 vB1) (IntKind.i64.wrap (vB5+1))
  else
   kZ8d vB1
def Z8d (vA1:(List (Str×Int))):Option ((List (Str×Int))×Bool):=
 some (vA1,false)
def Z8c (N:Nat) (p1:api_Thread) (p4:(List (Str×Int))):Option ((List (Str×Int))×Bool):=
 (Z8e N Z8d p1) N (p4.filter fun q=>decide (q.2≠4)) 0
def Z8g (_:Nat) (p1:(List api_Stmt)):Option (List api_Stmt):=
 some p1
def Z8r {τ:Type} (kZ8s:Int→τ→Option (Bool×τ)) (vB2:Int) (vC2:Bool) (vC3:τ):Option (Bool×τ):=
 if vC2=true then
  some (false,vC3)
 else
  kZ8s (IntKind.i64.wrap (vB2+1)) vC3
def Z8s {τ:Type} (N:Nat) (kZ8q:τ→Option (Bool×τ)) (p1:(List api_Node)) (p6:Int) (y:τ→legal_use→Option (τ×Bool)):Nat→Int→τ→Option (Bool×τ)
 | 0,_,_=>none
 | n+1,vB2,vB3=>
  if vB2 < (p1.length:Int) then
   (getI p1 vB2).bind fun xz8=>
   if xz8.Op=2 then
    (y vB3 (legal_use.mk xz8.Name xz8.At ([p6]:List Int))).bind fun r22=>
    (Z8r (Z8s N kZ8q p1 p6 y n) vB2) (!r22.2) r22.1
   else
    (Z8r (Z8s N kZ8q p1 p6 y n) vB2) false vB3
  else
   kZ8q vB3
def Z8q {τ:Type} (vA2:τ):Option (Bool×τ):=
 some (true,vA2)
def Z8p {τ:Type} (N:Nat) (p1:(List api_Node)) (p6:Int) (y:τ→legal_use→Option (τ×Bool)) (s0:τ):Option (Bool×τ):=
 (Z8s N Z8q p1 p6 y) N 0 s0
def Z8l {τ:Type} (kZ8j:(List Int)→τ→Option τ) (vC5:Bool) (vC6:τ):Option τ:=
 if vC5=true then
  kZ8j ([3]:List Int) vC6
 else
  kZ8j ([1,2]:List Int) vC6
def Z8k {τ:Type} (kZ8j:(List Int)→τ→Option τ) (xz9:api_Stmt) (vC1:Bool) (vC2:τ):Option τ:=
 if vC1=true then
  kZ8j ([1]:List Int) vC2
 else
  if xz9.Kind=9 then
   (Z8l kZ8j) (decide (xz9.Kind=9)) vC2
  else
   (Z8l kZ8j) (decide (xz9.Kind=10)) vC2
def Z8n {τ:Type} (kZ8o:Int→τ→Option τ) (vA2:Int) (vB21:Bool) (vB22:τ):Option τ:=
 if vB21=true then
  some vB22
 else
  kZ8o (IntKind.i64.wrap (vA2+1)) vB22
def Z8m {τ:Type} (N:Nat) (kZ8o:Int→τ→Option τ) (y:τ→legal_use→Option (τ×Bool)) (xz9:api_Stmt) (vA2:Int) (vB16:Bool) (vB17:τ):Option τ:=
 if vB16=true then
  some vB17
 else
  (Z8p N xz9.E 5 y vB17).bind fun r63=>
  if r63.1=true then
   (Z8p N xz9.F 5 y r63.2).bind fun r72=>
   (Z8n kZ8o vA2) (!r72.1) r72.2
  else
   (Z8n kZ8o vA2) true r63.2
def Z8j {τ:Type} (N:Nat) (kZ8o:Int→τ→Option τ) (y:τ→legal_use→Option (τ×Bool)) (xz9:api_Stmt) (vA2:Int) (vB6:(List Int)) (vB12:τ):Option τ:=
 if xz9.Name≠[] then
  (y vB12 (legal_use.mk xz9.Name xz9.At vB6)).bind fun r56=>
  (Z8m N kZ8o y xz9 vA2) (!r56.2) r56.1
 else
  (Z8m N kZ8o y xz9 vA2) false vB12
def Z8i {τ:Type} (N:Nat) (kZ8o:Int→τ→Option τ) (y:τ→legal_use→Option (τ×Bool)) (xz9:api_Stmt) (vA2:Int) (vB2:Bool) (vB3:τ):Option τ:=
 if vB2=true then
  some vB3
 else
  if xz9.Kind=5 then
   (Z8k (Z8j N kZ8o y xz9 vA2) xz9) (decide (xz9.Kind=5)) vB3
  else
   (Z8k (Z8j N kZ8o y xz9 vA2) xz9) (decide (xz9.Kind=6)) vB3
def Z8o {τ:Type} (N:Nat) (y:τ→legal_use→Option (τ×Bool)) (y2:(List api_Stmt)):Nat→Int→τ→Option τ
 | 0,_,_=>none
 | n+1,vA2,vA3=>
  if vA2 < (y2.length:Int) then
   (getI y2 vA2).bind fun xz9=>
   if xz9.Reg≠[] then
    (y vA3 (legal_use.mk xz9.Reg xz9.At ([5]:List Int))).bind fun r31=>
    (Z8i N (Z8o N y y2 n) y xz9 vA2) (!r31.2) r31.1
   else
    (Z8i N (Z8o N y y2 n) y xz9 vA2) false vA3
  else
   some vA3
def Z8h {τ:Type} (N:Nat) (y:τ→legal_use→Option (τ×Bool)) (s0:τ) (y2:(List api_Stmt)):Option τ:=
 (Z8o N y y2) N 0 s0
def Zax (N:Nat) (kZaw:Option Int) (p1:(List Int)) (p6:Int):Nat→Int→Option Int
 | 0,_=>none
 | n+1,vB1=>
  if vB1 < (p1.length:Int) then
   (getI p1 vB1).bind fun xz8=>
   if p6=xz8 then
    some vB1
   else
    (Zax N kZaw p1 p6 n) (IntKind.i64.wrap (vB1+1))
  else
   kZaw
def Zaw  : Option Int:=
 some (-1)
def Zav (N:Nat) (p1:(List Int)) (p6:Int):Option Int:=
 (Zax N Zaw p1 p6) N 0
def Za0 (N:Nat) (p1:(List Int)) (p6:Int):Option Bool:=
 (Zav N p1 p6).bind fun rz7=>
 some (decide (0≤rz7))
def Z7e (N:Nat) (kZ78:Option (Int×Int)) (r43:(List api_Thread)):Nat→Int→Option (Int×Int)
 | 0,_=>none
 | n+1,vB1=>
  if vB1 < (r43.length:Int) then
   (getI r43 vB1).bind fun x54=>
   (Z8t N x54.Body 1).bind fun r68=>
   if r68.2=true then
    some (11,r68.1)
   else
    (Z7e N kZ78 r43 n) (IntKind.i64.wrap (vB1+1))
  else
   kZ78
def Z7f (N:Nat) (kZ7a:Option (Int×Int)) (r31:((List (Str×Int))×Int×Bool)) (r72:(List api_Thread)):Nat→Int→Option (Int×Int)
 | 0,_=>none
 | n+1,vB2=>
  if vB2 < (r72.length:Int) then
   (getI r72 vB2).bind fun x83=>
   (Z8c N x83 r31.1).bind fun r97=>
   if r97.2=true then
    some (10,x83.At)
   else
    (Z7f N kZ7a r31 r72 n) (IntKind.i64.wrap (vB2+1))
  else
   kZ7a
def Z77 (N:Nat) (r128:((List (Str×Int))×Bool)) (xe206:legal_use):Option (Unit ⊕ Int):=
 (Za0 N xe206.may ((Be xe206.name r128.1).getD 0)).bind fun r214=>
 if r214=true then
  some (.inl ())
 else
  some (.inr xe206.at')
def Z7g (N:Nat) (kZ7b:Option (Int×Int)) (r31:((List (Str×Int))×Int×Bool)) (r103:(List api_Thread)):Nat→Int→Option (Int×Int)
 | 0,_=>none
 | n+1,vB4=>
  if vB4 < (r103.length:Int) then
   (getI r103 vB4).bind fun x114=>
   (Z8c N x114 r31.1).bind fun r128=>
   (Z8g N x114.Body).bind fun r134=>
   (Z8h N (yy (fun (_:Unit) (x:legal_use)=>(Z77 N r128) x)) (.inl ()) r134).bind fun q146=>
   match q146 with
    | .inl _=>
     (Z7g N kZ7b r31 r103 n) (IntKind.i64.wrap (vB4+1))
    | .inr vC3=>
     some (9,vC3)
  else
   kZ7b
def Z7d (N:Nat) (kZ79:Option (Int×Int)) (r31:((List (Str×Int))×Int×Bool)) (x222:api_Claim):Nat→Int→Option (Int×Int)
 | 0,_=>none
 | n+1,vD1=>
  if vD1 < (x222.E.length:Int) then
   (getI x222.E vD1).bind fun x233=>
   if ((decide (x233.Op=2)) && (decide (((Be x233.Name r31.1).getD 0)≠1)))=true then
    some (9,x233.At)
   else
    (Z7d N kZ79 r31 x222 n) (IntKind.i64.wrap (vD1+1))
  else
   kZ79
def Z79 (kZ7h:Int→Option (Int×Int)) (vB6:Int):Option (Int×Int):=
 kZ7h (IntKind.i64.wrap (vB6+1))
def Z7h (N:Nat) (kZ7c:Option (Int×Int)) (p1:api_Prog) (r31:((List (Str×Int))×Int×Bool)):Nat→Int→Option (Int×Int)
 | 0,_=>none
 | n+1,vB6=>
  if vB6 < (p1.Claims.length:Int) then
   (getI p1.Claims vB6).bind fun x222=>
   (Z7d N (Z79 (Z7h N kZ7c p1 r31 n) vB6) r31 x222) N 0
  else
   kZ7c
def Z7c  : Option (Int×Int):=
 some (0,0)
def Z7b (N:Nat) (p1:api_Prog) (r31:((List (Str×Int))×Int×Bool)):Option (Int×Int):=
 (Z7h N Z7c p1 r31) N 0
def Z7a (N:Nat) (p1:api_Prog) (r31:((List (Str×Int))×Int×Bool)):Option (Int×Int):=
 (Z8f N p1).bind fun r103=>
 (Z7g N (Z7b N p1 r31) r31 r103) N 0
def Z78 (N:Nat) (p1:api_Prog) (r31:((List (Str×Int))×Int×Bool)):Option (Int×Int):=
 if r31.2.2=true then
  some (10,r31.2.1)
 else
  (Z8f N p1).bind fun r72=>
  (Z7f N (Z7a N p1 r31) r31 r72) N 0
def Z76 (N:Nat) (p1:api_Prog):Option (Int×Int):=
 (Z83 N p1).bind fun r31=>
 (Z8x N p1).bind fun r37=>
 if r37=true then
  (Z80 N p1).bind fun r40=>
  if r40=true then
   some (2,0)
  else
   (Z8f N p1).bind fun r43=>
   (Z7e N (Z78 N p1 r31) r43) N 0
 else
  some (8,0)
def Z1s (_:Nat) (p1:Int):Option Bool:=
 some (((decide (97≤p1)) && (decide (p1≤122))) || (decide (p1=95)))
def Z18 (N:Nat) (kZ17:Option Bool) (p1:Str):Nat→Int→Option Bool
 | 0,_=>none
 | n+1,vB1=>
  if vB1 < (([[108,105,110,101],[118,111,108],[108,111,99,107],[116,104,114,101,97,100],[114,101,103],[108,111,97,100],[115,116,111,114,101],[99,97,115],[102,108,117,115,104],[111,112,116],[115,102,101,110,99,101],[109,102,101,110,99,101],[116,97,107,101],[103,105,118,101],[105,102],[101,108,115,101],[108,111,111,112],[98,114,101,97,107],[99,104,101,99,107],[114,101,99,111,118,101,114],[97,108,119,97,121,115]]:List Str).length:Int) then
   (getI ([[108,105,110,101],[118,111,108],[108,111,99,107],[116,104,114,101,97,100],[114,101,103],[108,111,97,100],[115,116,111,114,101],[99,97,115],[102,108,117,115,104],[111,112,116],[115,102,101,110,99,101],[109,102,101,110,99,101],[116,97,107,101],[103,105,118,101],[105,102],[101,108,115,101],[108,111,111,112],[98,114,101,97,107],[99,104,101,99,107],[114,101,99,111,118,101,114],[97,108,119,97,121,115]]:List Str) vB1).bind fun xz6=>
   if xz6=p1 then
    some true
   else
    (Z18 N kZ17 p1 n) (IntKind.i64.wrap (vB1+1))
  else
   kZ17
def Z17  : Option Bool:=
 some false
def Z16 (N:Nat) (p1:Str):Option Bool:=
 (Z18 N Z17 p1) N 0
def Z1r (_:Nat) (p1:Int):Option Bool:=
 some ((decide (48≤p1)) && (decide (p1≤57)))
def Z1c (kZ1d:Int→Option Bool) (vB1:Int) (vC1:Bool):Option Bool:=
 if vC1=true then
  some false
 else
  kZ1d (IntKind.i64.wrap (vB1+1))
def Z1d (N:Nat) (kZ1b:Option Bool) (p1:Str):Nat→Int→Option Bool
 | 0,_=>none
 | n+1,vB1=>
  if vB1 < (p1.length:Int) then
   (Di p1 vB1).bind fun x12=>
   (Z1s N x12).bind fun r14=>
   if r14=true then
    (Z1c (Z1d N kZ1b p1 n) vB1) false
   else
    (Di p1 vB1).bind fun x17=>
    (Z1r N x17).bind fun r19=>
    (Z1c (Z1d N kZ1b p1 n) vB1) (!r19)
  else
   kZ1b
def Z1b  : Option Bool:=
 some true
def Z1a (N:Nat) (p1:Str) (vA1:Bool):Option Bool:=
 if vA1=true then
  some false
 else
  (Z1d N Z1b p1) N 0
def Z19 (N:Nat) (p1:Str):Option Bool:=
 if ((decide ((p1.length:Int) < 1)) || (decide (16 < (p1.length:Int))))=true then
  (Z1a N p1) true
 else
  (Di p1 0).bind fun xz3=>
  (Z1s N xz3).bind fun rz5=>
  if rz5=true then
   (Z16 N p1).bind fun rz8=>
   (Z1a N p1) rz8
  else
   (Z1a N p1) true
def Z5d (N:Nat) (p1:Int):Option Bool:=
 some ((decide (0≤p1)) && (decide (p1≤4000)))
def Z5b (kZ5c:Int→Option Bool) (vB1:Int) (vC1:Bool):Option Bool:=
 if vC1=true then
  some false
 else
  kZ5c (IntKind.i64.wrap (vB1+1))
def Z5c (N:Nat) (kZ5a:Option Bool) (p1:(List api_Cell)) (p6:Int):Nat→Int→Option Bool
 | 0,_=>none
 | n+1,vB1=>
  if vB1 < (p1.length:Int) then
   (getI p1 vB1).bind fun xz8=>
   (Z19 N xz8.Name).bind fun r13=>
   if (((!r13) || (decide (xz8.N < 0))) || (decide (p6 < xz8.N)))=true then
    (Z5b (Z5c N kZ5a p1 p6 n) vB1) true
   else
    (Z5d N xz8.At).bind fun r16=>
    (Z5b (Z5c N kZ5a p1 p6 n) vB1) (!r16)
  else
   kZ5a
def Z5a  : Option Bool:=
 some true
def Z59 (N:Nat) (p1:(List api_Cell)) (p6:Int):Option Bool:=
 (Z5c N Z5a p1 p6) N 0
def Z2d (_:Nat) (p1:Int):Option Int:=
 if ((decide (p1=1)) || (decide (p1=2)))=true then
  some 0
 else
  if ((decide (p1=3)) || (decide (p1=4)))=true then
   some 1
  else
   if ((decide (5≤p1)) && (decide (p1≤15)))=true then
    some 2
   else
    some (-1)
def Z26 (rf:(List api_Node)→Int→Option Int) (N:Nat) (kZ25:Int→Option Int) (p1:(List api_Node)) (p6:Int):Nat→Int→Int→Option Int
 | 0,_,_=>none
 | n+1,vB1,vB2=>
  (getI p1 p6).bind fun x16=>
  (Z2d N x16.Op).bind fun r21=>
  if ((decide (vB2 < r21)) && (decide (0≤vB1)))=true then
   (rf p1 vB1).bind fun r24=>
   (Z26 rf N kZ25 p1 p6 n) r24 (IntKind.i64.wrap (vB2+1))
  else
   kZ25 vB1
def Z25 (vA2:Int):Option Int:=
 some vA2
def Z24 (rf:(List api_Node)→Int→Option Int) (N:Nat) (p1:(List api_Node)) (p6:Int) (vA1:Bool):Option Int:=
 if vA1=true then
  some (-1)
 else
  (Z26 rf N Z25 p1 p6) N (IntKind.i64.wrap (p6+1)) 0
def Z23:Nat→(List api_Node)→Int→Option Int
 | 0,_,_=>none
 | N+1,p1,p6=>
  if ((decide (p6 < 0)) || (decide ((p1.length:Int)≤p6)))=true then
   (Z24 (Z23 N) N p1 p6) true
  else
   (getI p1 p6).bind fun xz8=>
   (Z2d N xz8.Op).bind fun r13=>
   (Z24 (Z23 N) N p1 p6) (decide (r13 < 0))
def Z2o (rf:(List api_Node)→Int→Option Int) (N:Nat) (kZ2n:Int→Option Int) (p1:(List api_Node)) (p6:Int):Nat→Int→Int→Int→Option Int
 | 0,_,_,_=>none
 | n+1,vB1,vB2,vB3=>
  (getI p1 p6).bind fun xz7=>
  (Z2d N xz7.Op).bind fun r12=>
  if vB3 < r12 then
   (rf p1 vB2).bind fun r15=>
   (Z23 N p1 vB2).bind fun r17=>
   (Z2o rf N kZ2n p1 p6 n) (max vB1 r15) r17 (IntKind.i64.wrap (vB3+1))
  else
   kZ2n vB1
def Z2n (vA1:Int):Option Int:=
 some (IntKind.i64.wrap (vA1+1))
def Z2m:Nat→(List api_Node)→Int→Option Int
 | 0,_,_=>none
 | N+1,p1,p6=>
  (Z2o (Z2m N) N Z2n p1 p6) N 0 (IntKind.i64.wrap (p6+1)) 0
def Z2i (kZ2j:Int→Option Bool) (vB1:Int) (vC1:Bool):Option Bool:=
 if vC1=true then
  some false
 else
  kZ2j (IntKind.i64.wrap (vB1+1))
def Z2j (N:Nat) (kZ2h:Option Bool) (p1:(List api_Node)):Nat→Int→Option Bool
 | 0,_=>none
 | n+1,vB1=>
  if vB1 < (p1.length:Int) then
   (getI p1 vB1).bind fun x11=>
   if ((((((decide (x11.At < 0)) || (decide (4000 < x11.At))) || ((decide (x11.Op≠1)) && (decide (x11.N≠0)))) || ((decide (x11.Op≠2)) && (decide (x11.Name≠[])))) || (decide (x11.N < 0))) || (decide (4294967296 < x11.N)))=true then
    (Z2i (Z2j N kZ2h p1 n) vB1) true
   else
    if x11.Op=2 then
     (Z19 N x11.Name).bind fun r19=>
     (Z2i (Z2j N kZ2h p1 n) vB1) (!r19)
    else
     (Z2i (Z2j N kZ2h p1 n) vB1) false
  else
   kZ2h
def Z2h (N:Nat) (p1:(List api_Node)):Option Bool:=
 (Z2m N p1 0).bind fun r22=>
 some (decide (r22≤12))
def Z2g (N:Nat) (p1:(List api_Node)) (vA1:Bool):Option Bool:=
 if vA1=true then
  some false
 else
  (Z2j N (Z2h N p1) p1) N 0
def Z2f (N:Nat) (p1:(List api_Node)):Option Bool:=
 if 40 < (p1.length:Int) then
  (Z2g N p1) true
 else
  (Z23 N p1 0).bind fun rz7=>
  (Z2g N p1) (decide (rz7≠(p1.length:Int)))
def Z2v (_:Nat) (p1:Int):Option Str:=
 if ((decide (p1 < 1)) || (decide (14 < p1)))=true then
  some []
 else
  (getI ([[],[114,101],[114,110],[110,101],[114,110,101,102],[110],[110],[],[],[110],[110],[101,98],[107,98],[],[101]]:List Str) p1).bind fun xz6=>
  some xz6
def Z3y (N:Nat) (kZ3x:Option Bool) (p1:Str) (p2:Int):Nat→Int→Option Bool
 | 0,_=>none
 | n+1,vB1=>
  if vB1 < (p1.length:Int) then
   (Di p1 vB1).bind fun xz4=>
   if xz4=p2 then
    some true
   else
    (Z3y N kZ3x p1 p2 n) (IntKind.i64.wrap (vB1+1))
  else
   kZ3x
def Z3x  : Option Bool:=
 some false
def Z3w (N:Nat) (p1:Str) (p2:Int):Option Bool:=
 (Z3y N Z3x p1 p2) N 0
def Z46 (N:Nat) (p1:api_Stmt) (r14:Str) (vA2:Bool):Option Bool:=
 if vA2=true then
  some false
 else
  (Z3w N r14 107).bind fun r36=>
  if r36=true then
   some ((decide (1≤p1.N)) && (decide (p1.N≤8)))
  else
   some (decide (p1.N=0))
def Z45 (N:Nat) (p1:api_Stmt) (r14:Str) (r20:Bool) (r22:Bool) (vA1:Bool):Option Bool:=
 if vA1=true then
  some false
 else
  (Z2f N p1.E).bind fun r30=>
  if ((r20 != r30) || ((!r20) && (decide (0 < (p1.E.length:Int)))))=true then
   (Z46 N p1 r14) true
  else
   (Z2f N p1.F).bind fun r33=>
   (Z46 N p1 r14) ((r22 != r33) || ((!r22) && (decide (0 < (p1.F.length:Int)))))
def Z44 (N:Nat) (p1:api_Stmt):Option Bool:=
 if ((((decide (p1.Kind < 1)) || (decide (14 < p1.Kind))) || (decide (p1.At < 0))) || (decide (4000 < p1.At)))=true then
  some false
 else
  (Z2v N p1.Kind).bind fun r14=>
  (Z3w N r14 114).bind fun r16=>
  (Z3w N r14 110).bind fun r18=>
  (Z3w N r14 101).bind fun r20=>
  (Z3w N r14 102).bind fun r22=>
  (Z19 N p1.Reg).bind fun r24=>
  if ((r16 != r24) || ((!r16) && (decide (p1.Reg≠[]))))=true then
   (Z45 N p1 r14 r20 r22) true
  else
   (Z19 N p1.Name).bind fun r27=>
   (Z45 N p1 r14 r20 r22) ((r18 != r27) || ((!r18) && (decide (p1.Name≠[]))))
def Z42 (kZ43:Int→Int→Option Int) (xz8:api_Stmt) (vB2:Int) (vC2:Int):Option Int:=
 kZ43 vC2 (IntKind.i64.wrap ((IntKind.i64.wrap ((IntKind.i64.wrap (vB2+1))+xz8.Body))+xz8.Else))
def Z41 (rf:(List api_Stmt)→Int→Option Int) (kZ43:Int→Int→Option Int) (p1:(List api_Stmt)) (xz8:api_Stmt) (vB1:Int) (vB2:Int) (vC1:Int):Option Int:=
 if ((decide (xz8.Kind=11)) || (decide (xz8.Kind=12)))=true then
  (Du p1 (IntKind.i64.wrap (vB2+1)) (IntKind.i64.wrap ((IntKind.i64.wrap (vB2+1))+xz8.Body))).bind fun l26=>
  (rf l26 vC1).bind fun r34=>
  (Du p1 (IntKind.i64.wrap ((IntKind.i64.wrap (vB2+1))+xz8.Body)) (IntKind.i64.wrap ((IntKind.i64.wrap ((IntKind.i64.wrap (vB2+1))+xz8.Body))+xz8.Else))).bind fun l36=>
  (rf l36 vC1).bind fun r44=>
  if ((decide (r34 < 0)) || (decide (r44 < 0)))=true then
   some (-1)
  else
   (Z42 kZ43 xz8 vB2) (max (max vB1 (IntKind.i64.wrap (1+r34))) (IntKind.i64.wrap (1+r44)))
 else
  (Z42 kZ43 xz8 vB2) vB1
def Z43 (rf:(List api_Stmt)→Int→Option Int) (N:Nat) (kZ40:Int→Option Int) (p1:(List api_Stmt)) (p6:Int):Nat→Int→Int→Option Int
 | 0,_,_=>none
 | n+1,vB1,vB2=>
  if vB2 < (p1.length:Int) then
   (getI p1 vB2).bind fun xz8=>
   if (((((decide (xz8.Body < 0)) || (decide (xz8.Else < 0))) || (decide (40 < xz8.Body))) || (decide (40 < xz8.Else))) || (decide ((p1.length:Int) < (IntKind.i64.wrap ((IntKind.i64.wrap ((IntKind.i64.wrap (vB2+1))+xz8.Body))+xz8.Else)))))=true then
    some (-1)
   else
    if (((((decide (0 < xz8.Body)) && (decide (xz8.Kind≠11))) && (decide (xz8.Kind≠12))) || ((decide (0 < xz8.Else)) && (decide (xz8.Kind≠11)))) || ((decide (xz8.Kind=13)) && (decide (p6=0))))=true then
     some (-1)
    else
     if xz8.Kind=12 then
      (Z41 rf (Z43 rf N kZ40 p1 p6 n) p1 xz8 vB1 vB2) (IntKind.i64.wrap (p6+1))
     else
      (Z41 rf (Z43 rf N kZ40 p1 p6 n) p1 xz8 vB1 vB2) p6
  else
   kZ40 vB1
def Z40 (vA1:Int):Option Int:=
 some vA1
def Z3z:Nat→(List api_Stmt)→Int→Option Int
 | 0,_,_=>none
 | N+1,p1,p6=>
  (Z43 (Z3z N) N Z40 p1 p6) N 0 0
def Z3u (N:Nat) (kZ3t:Option Bool) (p1:(List api_Stmt)):Nat→Int→Option Bool
 | 0,_=>none
 | n+1,vB1=>
  if vB1 < (p1.length:Int) then
   (getI p1 vB1).bind fun xz8=>
   (Z44 N xz8).bind fun r21=>
   if r21=true then
    (Z3u N kZ3t p1 n) (IntKind.i64.wrap (vB1+1))
   else
    some false
  else
   kZ3t
def Z3t (N:Nat) (p1:(List api_Stmt)):Option Bool:=
 (Z3z N p1 0).bind fun r24=>
 some ((decide (0≤r24)) && (decide (r24≤12)))
def Z3s (N:Nat) (p1:(List api_Stmt)):Option Bool:=
 if 40 < (p1.length:Int) then
  some false
 else
  (Z3u N (Z3t N p1) p1) N 0
def Z5j (N:Nat) (kZ5g:Option Bool) (p1:(List api_Thread)) (vB1:Int):Nat→Int→Option Bool
 | 0,_=>none
 | n+1,vD2=>
  (getI p1 vB1).bind fun x30=>
  if vD2 < (x30.Regs.length:Int) then
   (getI x30.Regs vD2).bind fun x44=>
   (Z19 N x44).bind fun r49=>
   if r49=true then
    (Z5j N kZ5g p1 vB1 n) (IntKind.i64.wrap (vD2+1))
   else
    some false
  else
   kZ5g
def Z5h (N:Nat) (kZ5g:Option Bool) (p1:(List api_Thread)) (vB1:Int) (vD1:Bool):Option Bool:=
 if vD1=true then
  some false
 else
  (Z5j N kZ5g p1 vB1) N 0
def Z5g (kZ5i:Int→Option Bool) (vB1:Int):Option Bool:=
 kZ5i (IntKind.i64.wrap (vB1+1))
def Z5i (N:Nat) (kZ5f:Option Bool) (p1:(List api_Thread)) (p6:Bool):Nat→Int→Option Bool
 | 0,_=>none
 | n+1,vB1=>
  if vB1 < (p1.length:Int) then
   (getI p1 vB1).bind fun xz8=>
   (Z19 N xz8.Name).bind fun r21=>
   if ((p6 != r21) || ((!p6) && (decide (xz8.Name≠[]))))=true then
    (Z5h N (Z5g (Z5i N kZ5f p1 p6 n) vB1) p1 vB1) true
   else
    (Z5d N xz8.At).bind fun r24=>
    if r24=true then
     (Z3s N xz8.Body).bind fun r27=>
     (Z5h N (Z5g (Z5i N kZ5f p1 p6 n) vB1) p1 vB1) (!r27)
    else
     (Z5h N (Z5g (Z5i N kZ5f p1 p6 n) vB1) p1 vB1) true
  else
   kZ5f
def Z5f  : Option Bool:=
 some true
def Z5e (N:Nat) (p1:(List api_Thread)) (p6:Bool):Option Bool:=
 (Z5i N Z5f p1 p6) N 0
def Z54 (kZ57:Int→Option Bool) (vB1:Int) (vC1:Bool):Option Bool:=
 if vC1=true then
  some false
 else
  kZ57 (IntKind.i64.wrap (vB1+1))
def Z57 (N:Nat) (kZ53:Option Bool) (p1:api_Prog):Nat→Int→Option Bool
 | 0,_=>none
 | n+1,vB1=>
  if vB1 < (p1.Lines.length:Int) then
   (getI p1.Lines vB1).bind fun x30=>
   if (x30.length:Int)=0 then
    (Z54 (Z57 N kZ53 p1 n) vB1) true
   else
    (Z59 N x30 4294967296).bind fun r40=>
    (Z54 (Z57 N kZ53 p1 n) vB1) (!r40)
  else
   kZ53
def Z56 (kZ58:Int→Option Bool) (vB2:Int) (vC2:Bool):Option Bool:=
 if vC2=true then
  some false
 else
  kZ58 (IntKind.i64.wrap (vB2+1))
def Z58 (N:Nat) (kZ55:Option Bool) (p1:api_Prog):Nat→Int→Option Bool
 | 0,_=>none
 | n+1,vB2=>
  if vB2 < (p1.Claims.length:Int) then
   (getI p1.Claims vB2).bind fun x44=>
   (Z5d N x44.At).bind fun r53=>
   if r53=true then
    (Z2f N x44.E).bind fun r56=>
    (Z56 (Z58 N kZ55 p1 n) vB2) (!r56)
   else
    (Z56 (Z58 N kZ55 p1 n) vB2) true
  else
   kZ55
def Z55 (N:Nat) (p1:api_Prog):Option Bool:=
 (Z59 N p1.Vols 4294967296).bind fun r59=>
 if r59=true then
  (Z59 N p1.Locks 0).bind fun r62=>
  if r62=true then
   (Z5e N p1.Threads true).bind fun r65=>
   if r65=true then
    (Z5e N p1.Recover false).bind fun r68=>
    some (r68 && (decide ((p1.Recover.length:Int)≤1)))
   else
    some false
  else
   some false
 else
  some false
def Z53 (N:Nat) (p1:api_Prog):Option Bool:=
 (Z58 N (Z55 N p1) p1) N 0
def Z52 (N:Nat) (p1:api_Prog):Option Bool:=
 (Z57 N (Z53 N p1) p1) N 0
def Z6g (N:Nat) (p1:api_Prog):Option (List api_Thread):=
 (Ct 72 ([]:List api_Thread) p1.Threads).bind fun l32=>
 (Ct 72 l32 p1.Recover).bind fun l41=>
 some l41
def Z6k (N:Nat) (kZ6i:Option Bool) (p1:api_Prog):Nat→Int→Option Bool
 | 0,_=>none
 | n+1,vB1=>
  if vB1 < (p1.Lines.length:Int) then
   (getI p1.Lines vB1).bind fun x30=>
   if 4 < (x30.length:Int) then
    some true
   else
    (Z6k N kZ6i p1 n) (IntKind.i64.wrap (vB1+1))
  else
   kZ6i
def Z6l (N:Nat) (kZ6j:Option Bool) (r40:(List api_Thread)):Nat→Int→Option Bool
 | 0,_=>none
 | n+1,vB2=>
  if vB2 < (r40.length:Int) then
   (getI r40 vB2).bind fun x51=>
   if 4 < (x51.Regs.length:Int) then
    some true
   else
    (Z6l N kZ6j r40 n) (IntKind.i64.wrap (vB2+1))
  else
   kZ6j
def Z6j (p1:api_Prog):Option Bool:=
 some ((((((decide (4 < (p1.Lines.length:Int))) || (decide (4 < (p1.Vols.length:Int)))) || (decide (2 < (p1.Locks.length:Int)))) || (decide ((p1.Threads.length:Int) < 1))) || (decide (3 < (p1.Threads.length:Int)))) || (decide (4 < (p1.Claims.length:Int))))
def Z6i (N:Nat) (p1:api_Prog):Option Bool:=
 (Z6g N p1).bind fun r40=>
 (Z6l N (Z6j p1) r40) N 0
def Z6h (N:Nat) (p1:api_Prog):Option Bool:=
 (Z6k N (Z6i N p1) p1) N 0
def Z73 (rf:(List api_Stmt)→Int→Option Int) (p1:(List api_Stmt)) (p6:Int) (xz8:api_Stmt) (vA1:Int):Option Int:=
 if 64 < vA1 then
  some xz8.At
 else
  (Du p1 1 (IntKind.i64.wrap ((IntKind.i64.wrap (1+xz8.Body))+xz8.Else))).bind fun l24=>
  (rf l24 vA1).bind fun r32=>
  if 0≤r32 then
   some r32
  else
   (Du p1 (IntKind.i64.wrap ((IntKind.i64.wrap (1+xz8.Body))+xz8.Else)) (p1.length:Int)).bind fun l35=>
   (rf l35 p6).bind fun r43=>
   some r43
def Z72:Nat→(List api_Stmt)→Int→Option Int
 | 0,_,_=>none
 | N+1,p1,p6=>
  if (p1.length:Int)=0 then
   some (-1)
  else
   (getI p1 0).bind fun xz8=>
   if xz8.Kind=12 then
    (Z73 (Z72 N) p1 p6 xz8) (IntKind.i64.wrap (p6 * xz8.N))
   else
    (Z73 (Z72 N) p1 p6 xz8) p6
def Z5m (N:Nat) (kZ5l:(List api_Cell)→Option (List api_Cell)) (p1:api_Prog):Nat→(List api_Cell)→Int→Option (List api_Cell)
 | 0,_,_=>none
 | n+1,vB1,vB7=>
  if vB7 < (p1.Lines.length:Int) then
   (getI p1.Lines vB7).bind fun x33=>
   (Ct 32 vB1 x33).bind fun l42=>
   (Z5m N kZ5l p1 n) l42 (IntKind.i64.wrap (vB7+1))
  else
   kZ5l vB1
def Z5l (p1:api_Prog) (vA1:(List api_Cell)):Option (List api_Cell):=
 (Ct 32 vA1 p1.Vols).bind fun l51=>
 some l51
def Z5k (N:Nat) (p1:api_Prog):Option (List api_Cell):=
 (Z5m N (Z5l p1) p1) N [] 0
def Z68 (N:Nat) (kZ67:(List Str)→Option (List Str)) (p1:(List api_Cell)):Nat→(List Str)→Int→Option (List Str)
 | 0,_,_=>none
 | n+1,vB1,vB7=>
  if vB7 < (p1.length:Int) then
   (getI p1 vB7).bind fun x10=>
   (Ct 16 vB1 ([x10.Name]:List Str)).bind fun l18=>
   (Z68 N kZ67 p1 n) l18 (IntKind.i64.wrap (vB7+1))
  else
   kZ67 vB1
def Z67 (vA1:(List Str)):Option (List Str):=
 some vA1
def Z66 (N:Nat) (p1:(List api_Cell)):Option (List Str):=
 (Z68 N Z67 p1) N [] 0
def Z6b (N:Nat) (kZ6a:Option Int) (p1:(List Str)) (p6:Str):Nat→Int→Option Int
 | 0,_=>none
 | n+1,vB1=>
  if vB1 < (p1.length:Int) then
   (getI p1 vB1).bind fun xz8=>
   if xz8=p6 then
    some vB1
   else
    (Z6b N kZ6a p1 p6 n) (IntKind.i64.wrap (vB1+1))
  else
   kZ6a
def Z6a  : Option Int:=
 some (-1)
def Z69 (N:Nat) (p1:(List Str)) (p6:Str):Option Int:=
 (Z6b N Z6a p1 p6) N 0
def Z6w (N:Nat) (kZ6u:(List api_Cell)→Option Int) (p1:api_Prog):Nat→(List api_Cell)→Int→Option Int
 | 0,_,_=>none
 | n+1,vB1,vB7=>
  if vB7 < (p1.Threads.length:Int) then
   (getI p1.Threads vB7).bind fun x55=>
   (Ct 32 vB1 ([(api_Cell.mk x55.Name 0 x55.At)]:List api_Cell)).bind fun l71=>
   (Z6w N kZ6u p1 n) l71 (IntKind.i64.wrap (vB7+1))
  else
   kZ6u vB1
def Z6x (N:Nat) (kZ6v:Option Int) (vA1:(List api_Cell)) (r77:(List Str)):Nat→Int→Option Int
 | 0,_=>none
 | n+1,vB8=>
  if vB8 < (vA1.length:Int) then
   (getI vA1 vB8).bind fun x85=>
   (Z69 N r77 x85.Name).bind fun r91=>
   if r91 < vB8 then
    some x85.At
   else
    (Z6x N kZ6v vA1 r77 n) (IntKind.i64.wrap (vB8+1))
  else
   kZ6v
def Z6v  : Option Int:=
 some (-1)
def Z6u (N:Nat) (vA1:(List api_Cell)):Option Int:=
 (Z66 N vA1).bind fun r77=>
 (Z6x N Z6v vA1 r77) N 0
def Z6t (N:Nat) (p1:api_Prog):Option Int:=
 (Z5k N p1).bind fun r32=>
 (Ct 32 ([]:List api_Cell) r32).bind fun l39=>
 (Ct 32 l39 p1.Locks).bind fun l45=>
 (Z6w N (Z6u N) p1) N l45 0
def Z5n (N:Nat) (p1:api_Prog):Option (List Str):=
 (Z5k N p1).bind fun r29=>
 (Z66 N r29).bind fun r36=>
 some r36
def Z65 (N:Nat) (p1:api_Prog):Option (List Str):=
 (Z66 N p1.Locks).bind fun r29=>
 some r29
def Z6c (N:Nat) (p1:api_Prog):Option Int:=
 (Z5k N p1).bind fun r29=>
 some (IntKind.i64.wrap ((r29.length:Int) - (p1.Vols.length:Int)))
def Z70 (kZ71:Int→Option Int) (p1:(List api_Node)) (vB1:Int) (vC1:Bool):Option Int:=
 if vC1=true then
  (getI p1 vB1).bind fun x21=>
  some x21.At
 else
  kZ71 (IntKind.i64.wrap (vB1+1))
def Z71 (N:Nat) (kZ6z:Option Int) (p1:(List api_Node)) (p6:(List Str)):Nat→Int→Option Int
 | 0,_=>none
 | n+1,vB1=>
  if vB1 < (p1.length:Int) then
   (getI p1 vB1).bind fun x12=>
   if x12.Op=2 then
    (Z69 N p6 x12.Name).bind fun r18=>
    (Z70 (Z71 N kZ6z p1 p6 n) p1 vB1) (decide (r18 < 0))
   else
    (Z70 (Z71 N kZ6z p1 p6 n) p1 vB1) false
  else
   kZ6z
def Z6z  : Option Int:=
 some (-1)
def Z6y (N:Nat) (p1:(List api_Node)) (p6:(List Str)):Option Int:=
 (Z71 N Z6z p1 p6) N 0
def Z6r (kZ6o:Option Int) (p7:api_Stmt) (vB3:Bool):Option Int:=
 if vB3=true then
  some p7.At
 else
  kZ6o
def Z6s (N:Nat) (kZ6o:Option Int) (p1:api_Prog) (p7:api_Stmt) (vB4:Bool):Option Int:=
 if vB4=true then
  (Z65 N p1).bind fun r78=>
  (Z69 N r78 p7.Name).bind fun r85=>
  if r85 < 0 then
   some p7.At
  else
   kZ6o
 else
  kZ6o
def Z6q (N:Nat) (kZ6o:Option Int) (p1:api_Prog) (p7:api_Stmt) (r64:Int) (vB2:Bool):Option Int:=
 if vB2=true then
  if r64 < 0 then
   (Z6r kZ6o p7) true
  else
   (Z6c N p1).bind fun r73=>
   (Z6r kZ6o p7) (decide (r73≤r64))
 else
  if p7.Kind=9 then
   (Z6s N kZ6o p1 p7) (decide (p7.Kind=9))
  else
   (Z6s N kZ6o p1 p7) (decide (p7.Kind=10))
def Z6p (N:Nat) (kZ6o:Option Int) (p1:api_Prog) (p7:api_Stmt) (r64:Int) (vB1:Bool):Option Int:=
 if vB1=true then
  if r64 < 0 then
   some p7.At
  else
   kZ6o
 else
  if p7.Kind=5 then
   (Z6q N kZ6o p1 p7 r64) (decide (p7.Kind=5))
  else
   (Z6q N kZ6o p1 p7 r64) (decide (p7.Kind=6))
def Z6o (N:Nat) (p4:api_Thread) (p7:api_Stmt):Option Int:=
 (Z6y N p7.E p4.Regs).bind fun r88=>
 if 0≤r88 then
  some r88
 else
  (Z6y N p7.F p4.Regs).bind fun r91=>
  some r91
def Z6n (N:Nat) (p1:api_Prog) (p4:api_Thread) (p7:api_Stmt) (vA1:Bool):Option Int:=
 if vA1=true then
  some p7.At
 else
  (Z5n N p1).bind fun r57=>
  (Z69 N r57 p7.Name).bind fun r64=>
  if p7.Kind=2 then
   (Z6p N (Z6o N p4 p7) p1 p7 r64) (decide (p7.Kind=2))
  else
   if p7.Kind=3 then
    (Z6p N (Z6o N p4 p7) p1 p7 r64) (decide (p7.Kind=3))
   else
    (Z6p N (Z6o N p4 p7) p1 p7 r64) (decide (p7.Kind=4))
def Z6m (N:Nat) (p1:api_Prog) (p4:api_Thread) (p7:api_Stmt):Option Int:=
 if p7.Reg≠[] then
  (Z69 N p4.Regs p7.Reg).bind fun r54=>
  (Z6n N p1 p4 p7) (decide (r54 < 0))
 else
  (Z6n N p1 p4 p7) false
def Z5y (N:Nat) (kZ5p:Option (Int×Int)) (r35:(List api_Thread)):Nat→Int→Option (Int×Int)
 | 0,_=>none
 | n+1,vB1=>
  if vB1 < (r35.length:Int) then
   (getI r35 vB1).bind fun x46=>
   (Z72 N x46.Body 1).bind fun r59=>
   if 0≤r59 then
    some (11,r59)
   else
    (Z5y N kZ5p r35 n) (IntKind.i64.wrap (vB1+1))
  else
   kZ5p
def Z5u (kZ60:Int→Option (Int×Int)) (x66:api_Thread) (vD2:Int) (vE2:Bool):Option (Int×Int):=
 if vE2=true then
  some (10,x66.At)
 else
  kZ60 (IntKind.i64.wrap (vD2+1))
def Z60 (N:Nat) (kZ5t:Option (Int×Int)) (p1:api_Prog) (r35:(List api_Thread)) (vB3:Int):Nat→Int→Option (Int×Int)
 | 0,_=>none
 | n+1,vD2=>
  (getI r35 vB3).bind fun x66=>
  if vD2 < (x66.Regs.length:Int) then
   (getI x66.Regs vD2).bind fun x80=>
   (Z69 N x66.Regs x80).bind fun r85=>
   if r85 < vD2 then
    (Z5u (Z60 N kZ5t p1 r35 vB3 n) x66 vD2) true
   else
    (Z5n N p1).bind fun r88=>
    (Z69 N r88 x80).bind fun r98=>
    if 0≤r98 then
     (Z5u (Z60 N kZ5t p1 r35 vB3 n) x66 vD2) true
    else
     (Z65 N p1).bind fun r101=>
     (Z69 N r101 x80).bind fun r108=>
     (Z5u (Z60 N kZ5t p1 r35 vB3 n) x66 vD2) (decide (0≤r108))
  else
   kZ5t
def Z5t (kZ5z:Int→Option (Int×Int)) (vB3:Int):Option (Int×Int):=
 kZ5z (IntKind.i64.wrap (vB3+1))
def Z5z (N:Nat) (kZ5s:Option (Int×Int)) (p1:api_Prog) (r35:(List api_Thread)):Nat→Int→Option (Int×Int)
 | 0,_=>none
 | n+1,vB3=>
  if vB3 < (r35.length:Int) then
   (Z60 N (Z5t (Z5z N kZ5s p1 r35 n) vB3) p1 r35 vB3) N 0
  else
   kZ5s
def Z5w (N:Nat) (kZ5q:Option (Int×Int)) (p1:api_Prog) (r35:(List api_Thread)) (vB4:Int):Nat→Int→Option (Int×Int)
 | 0,_=>none
 | n+1,vD3=>
  (getI r35 vB4).bind fun x112=>
  if vD3 < (x112.Body.length:Int) then
   (getI x112.Body vD3).bind fun x126=>
   (Z6m N p1 x112 x126).bind fun r139=>
   if 0≤r139 then
    some (9,r139)
   else
    (Z5w N kZ5q p1 r35 vB4 n) (IntKind.i64.wrap (vD3+1))
  else
   kZ5q
def Z5q (kZ61:Int→Option (Int×Int)) (vB4:Int):Option (Int×Int):=
 kZ61 (IntKind.i64.wrap (vB4+1))
def Z61 (N:Nat) (kZ5v:Option (Int×Int)) (p1:api_Prog) (r35:(List api_Thread)):Nat→Int→Option (Int×Int)
 | 0,_=>none
 | n+1,vB4=>
  if vB4 < (r35.length:Int) then
   (Z5w N (Z5q (Z61 N kZ5v p1 r35 n) vB4) p1 r35 vB4) N 0
  else
   kZ5v
def Z5x (N:Nat) (kZ5r:Option (Int×Int)) (p1:api_Prog) (l154:(List Str)):Nat→Int→Option (Int×Int)
 | 0,_=>none
 | n+1,vB5=>
  if vB5 < (p1.Claims.length:Int) then
   (getI p1.Claims vB5).bind fun x163=>
   (Z6y N x163.E l154).bind fun r172=>
   if 0≤r172 then
    some (9,r172)
   else
    (Z5x N kZ5r p1 l154 n) (IntKind.i64.wrap (vB5+1))
  else
   kZ5r
def Z5r  : Option (Int×Int):=
 some (0,0)
def Z5v (N:Nat) (p1:api_Prog):Option (Int×Int):=
 (Z5n N p1).bind fun r142=>
 (Z6c N p1).bind fun r152=>
 (Du r142 0 r152).bind fun l154=>
 (Z5x N Z5r p1 l154) N 0
def Z5s (N:Nat) (p1:api_Prog) (r35:(List api_Thread)):Option (Int×Int):=
 (Z61 N (Z5v N p1) p1 r35) N 0
def Z5p (N:Nat) (p1:api_Prog) (r35:(List api_Thread)):Option (Int×Int):=
 (Z6t N p1).bind fun r62=>
 if 0≤r62 then
  some (10,r62)
 else
  (Z5z N (Z5s N p1 r35) p1 r35) N 0
def Z5o (N:Nat) (p1:api_Prog):Option (Int×Int):=
 (Z52 N p1).bind fun r29=>
 if r29=true then
  (Z6h N p1).bind fun r32=>
  if r32=true then
   some (2,0)
  else
   (Z6g N p1).bind fun r35=>
   (Z5y N (Z5p N p1 r35) r35) N 0
 else
  some (8,0)
def Z1q (_:Nat) (p1:Str) (p2:Int) (p3:Str):Option Bool:=
 if (IntKind.i64.wrap (p2+(p3.length:Int)))≤(p1.length:Int) then
  (Du p1 p2 (IntKind.i64.wrap (p2+(p3.length:Int)))).bind fun s5=>
  some (decide (s5=p3))
 else
  some false
def Z1v (kZ1w:Int→Option Int) (kZ1x:Int→Option Int) (vC1:Int) (vD1:Bool):Option Int:=
 if vD1=true then
  kZ1x (IntKind.i64.wrap (vC1+1))
 else
  kZ1w vC1
def Z1x (N:Nat) (kZ1w:Int→Option Int) (p1:Str):Nat→Int→Option Int
 | 0,_=>none
 | n+1,vC1=>
  if vC1 < (p1.length:Int) then
   (Di p1 vC1).bind fun x11=>
   (Z1v kZ1w (Z1x N kZ1w p1 n) vC1) (decide (x11≠10))
  else
   (Z1v kZ1w (Z1x N kZ1w p1 n) vC1) false
def Z1w (N:Nat) (kZ1u:Int→Option Int) (p1:Str):Nat→Int→Option Int
 | 0,_=>none
 | n+1,vB1=>
  if vB1 < (p1.length:Int) then
   (Di p1 vB1).bind fun xz4=>
   if ((((decide (xz4=32)) || (decide (xz4=9))) || (decide (xz4=10))) || (decide (xz4=13)))=true then
    (Z1w N kZ1u p1 n) (IntKind.i64.wrap (vB1+1))
   else
    (Z1q N p1 vB1 [47,47]).bind fun rz7=>
    if rz7=true then
     (Z1x N (Z1w N kZ1u p1 n) p1) N vB1
    else
     some vB1
  else
   kZ1u vB1
def Z1u (vA1:Int):Option Int:=
 some vA1
def Z1t (N:Nat) (p1:Str) (p2:Int):Option Int:=
 (Z1w N Z1u p1) N p2
def Z21 (N:Nat) (kZ1z:Option Int) (p1:Str) (p2:Int):Nat→Int→Option Int
 | 0,_=>none
 | n+1,vB1=>
  if vB1 < (([[61,61],[33,61],[60,61],[38,38],[124,124]]:List Str).length:Int) then
   (getI ([[61,61],[33,61],[60,61],[38,38],[124,124]]:List Str) vB1).bind fun xz7=>
   (Z1q N p1 p2 xz7).bind fun r13=>
   if r13=true then
    some 2
   else
    (Z21 N kZ1z p1 p2 n) (IntKind.i64.wrap (vB1+1))
  else
   kZ1z
def Z22 (N:Nat) (kZ20:Option Int) (p1:Str) (p2:Int):Nat→Int→Option Int
 | 0,_=>none
 | n+1,vB2=>
  if vB2 < 14 then
   (Di [40,41,123,125,59,44,61,60,33,43,45,42,47,37] vB2).bind fun x17=>
   (Di p1 p2).bind fun x19=>
   if x17=x19 then
    some 1
   else
    (Z22 N kZ20 p1 p2 n) (IntKind.i64.wrap (vB2+1))
  else
   kZ20
def Z20  : Option Int:=
 some 0
def Z1z (N:Nat) (p1:Str) (p2:Int):Option Int:=
 (Z22 N Z20 p1 p2) N 0
def Z1y (N:Nat) (p1:Str) (p2:Int):Option Int:=
 (Z21 N (Z1z N p1 p2) p1 p2) N 0
def Z1k (kZ1j:Int→Option ((List api_Token)×Int×Int)) (kZ1o:Int→Option ((List api_Token)×Int×Int)) (vE1:Int) (vF1:Bool):Option ((List api_Token)×Int×Int):=
 if vF1=true then
  kZ1o (IntKind.i64.wrap (vE1+1))
 else
  kZ1j vE1
def Z1o (N:Nat) (kZ1j:Int→Option ((List api_Token)×Int×Int)) (p1:Str):Nat→Int→Option ((List api_Token)×Int×Int)
 | 0,_=>none
 | n+1,vE1=>
  if vE1 < (p1.length:Int) then
   (Di p1 vE1).bind fun x16=>
   (Z1s N x16).bind fun r18=>
   if r18=true then
    (Z1k kZ1j (Z1o N kZ1j p1 n) vE1) true
   else
    (Di p1 vE1).bind fun x21=>
    (Z1r N x21).bind fun r23=>
    (Z1k kZ1j (Z1o N kZ1j p1 n) vE1) r23
  else
   (Z1k kZ1j (Z1o N kZ1j p1 n) vE1) false
def Z1j (kZ1i:Int→api_Token→Option ((List api_Token)×Int×Int)) (vB7:Int) (vD1:Int):Option ((List api_Token)×Int×Int):=
 if 16 < (IntKind.i64.wrap (vD1 - vB7)) then
  some ([],2,vB7)
 else
  kZ1i vD1 (api_Token.mk 1 [] 0 vB7)
def Z1h (kZ1p:Int→api_Token→Option ((List api_Token)×Int×Int)) (vE2:Int) (vF3:api_Token):Option ((List api_Token)×Int×Int):=
 kZ1p (IntKind.i64.wrap (vE2+1)) vF3
def Z1m (_:Nat) (kZ1l:Int→api_Token→Option ((List api_Token)×Int×Int)) (kZ1p:Int→api_Token→Option ((List api_Token)×Int×Int)) (p1:Str) (vE2:Int) (vE3:api_Token) (vF2:Bool):Option ((List api_Token)×Int×Int):=
 if vF2=true then
  if vE3.N≤4294967296 then
   (Di p1 vE2).bind fun x39=>
   (Z1h kZ1p vE2) (api_Token.mk vE3.Kind vE3.Text (IntKind.i64.wrap ((IntKind.i64.wrap (10 * vE3.N))+(IntKind.i64.wrap (IntKind.u8.wrap (x39 - 48))))) vE3.At)
  else
   (Z1h kZ1p vE2) vE3
 else
  kZ1l vE2 vE3
def Z1p (N:Nat) (kZ1l:Int→api_Token→Option ((List api_Token)×Int×Int)) (p1:Str):Nat→Int→api_Token→Option ((List api_Token)×Int×Int)
 | 0,_,_=>none
 | n+1,vE2,vE3=>
  if vE2 < (p1.length:Int) then
   (Di p1 vE2).bind fun x33=>
   (Z1r N x33).bind fun r35=>
   (Z1m N kZ1l (Z1p N kZ1l p1 n) p1 vE2 vE3) r35
  else
   (Z1m N kZ1l (Z1p N kZ1l p1 n) p1 vE2 vE3) false
def Z1l (_:Nat) (kZ1i:Int→api_Token→Option ((List api_Token)×Int×Int)) (vB7:Int) (vD2:Int) (vD3:api_Token):Option ((List api_Token)×Int×Int):=
 if 4294967296 < vD3.N then
  some ([],4,vB7)
 else
  kZ1i vD2 vD3
def Z1i (N:Nat) (kZ1n:(List api_Token)→Int→Option ((List api_Token)×Int×Int)) (p1:Str) (vB1:(List api_Token)) (vB7:Int) (vC1:Int) (vC2:api_Token):Option ((List api_Token)×Int×Int):=
 (Du p1 vB7 vC1).bind fun s45=>
 (Ct 40 vB1 ([(api_Token.mk vC2.Kind s45 vC2.N vC2.At)]:List api_Token)).bind fun l50=>
 (Z1t N p1 vC1).bind fun r56=>
 kZ1n l50 r56
def Z1n (N:Nat) (kZ1g:(List api_Token)→Option ((List api_Token)×Int×Int)) (p1:Str):Nat→(List api_Token)→Int→Option ((List api_Token)×Int×Int)
 | 0,_,_=>none
 | n+1,vB1,vB7=>
  if vB7 < (p1.length:Int) then
   (Di p1 vB7).bind fun x10=>
   (Z1s N x10).bind fun r12=>
   if r12=true then
    (Z1o N (Z1j (Z1i N (Z1n N kZ1g p1 n) p1 vB1 vB7) vB7) p1) N vB7
   else
    (Di p1 vB7).bind fun x27=>
    (Z1r N x27).bind fun r29=>
    if r29=true then
     (Z1p N (Z1l N (Z1i N (Z1n N kZ1g p1 n) p1 vB1 vB7) vB7) p1) N vB7 (api_Token.mk 2 [] 0 vB7)
    else
     (Z1y N p1 vB7).bind fun r42=>
     if (IntKind.i64.wrap (vB7+r42))=vB7 then
      some ([],3,vB7)
     else
      (Z1i N (Z1n N kZ1g p1 n) p1 vB1 vB7) (IntKind.i64.wrap (vB7+r42)) (api_Token.mk 3 [] 0 vB7)
  else
   kZ1g vB1
def Z1g (vA1:(List api_Token)):Option ((List api_Token)×Int×Int):=
 some (vA1,0,0)
def Z1f (N:Nat) (p1:Str):Option ((List api_Token)×Int×Int):=
 if 4000 < (p1.length:Int) then
  some ([],2,4000)
 else
  (Z1t N p1 0).bind fun rz6=>
  (Z1n N Z1g p1) N [] rz6
def Z15 (_:Nat) (p1:(List api_Token)) (p6:Int) (p7:Str):Option Bool:=
 if ((decide (0≤p6)) && (decide (p6 < (p1.length:Int))))=true then
  (getI p1 p6).bind fun xz9=>
  some ((((decide (xz9.Text=p7)) && (decide (xz9.Kind≠2))) && (decide (1≤xz9.Kind))) && (decide (xz9.Kind≤3)))
 else
  some false
def Z4b (p1:leadlineref05_In) (vA1:Bool):Option (Bool×leadlineref05_In):=
 if vA1=true then
  some (true,(leadlineref05_In.mk p1.L (IntKind.i64.wrap (p1.At+1)) p1.E p1.Pos))
 else
  some (false,p1)
def Z4a (N:Nat) (p1:leadlineref05_In) (p7:Str):Option (Bool×leadlineref05_In):=
 if p1.E=0 then
  (Z15 N p1.L p1.At p7).bind fun rz9=>
  (Z4b p1) rz9
 else
  (Z4b p1) false
def Z1e (_:Nat) (p1:(List api_Token)) (p6:Int):Option Int:=
 if ((decide (0≤p6)) && (decide (p6 < (p1.length:Int))))=true then
  (getI p1 p6).bind fun xz8=>
  some xz8.At
 else
  if (p1.length:Int)=0 then
   some 0
  else
   (getI p1 (IntKind.i64.wrap ((p1.length:Int) - 1))).bind fun x14=>
   some (IntKind.i64.wrap (x14.At+(x14.Text.length:Int)))
def Z48 (N:Nat) (p1:leadlineref05_In) (vA1:Int):Option leadlineref05_In:=
 (Z1e N p1.L p1.At).bind fun rz9=>
 some (leadlineref05_In.mk p1.L p1.At vA1 rz9)
def Z47 (N:Nat) (p1:leadlineref05_In):Option leadlineref05_In:=
 if p1.E=0 then
  if (p1.L.length:Int)≤p1.At then
   (Z48 N p1) 6
  else
   (Z48 N p1) 5
 else
  some p1
def Z4e (N:Nat) (p1:leadlineref05_In) (vA1:Bool):Option (api_Cell×leadlineref05_In):=
 if vA1=true then
  (getI p1.L (IntKind.i64.wrap ((IntKind.i64.wrap (p1.At+1)) - 1))).bind fun x19=>
  some ((api_Cell.mk x19.Text 0 x19.At),(leadlineref05_In.mk p1.L (IntKind.i64.wrap (p1.At+1)) p1.E p1.Pos))
 else
  (Z47 N p1).bind fun r24=>
  some ((api_Cell.mk [] 0 0),r24)
def Z4d (N:Nat) (p1:leadlineref05_In):Option (api_Cell×leadlineref05_In):=
 if p1.E=0 then
  if p1.At < (p1.L.length:Int) then
   (getI p1.L p1.At).bind fun x10=>
   if x10.Kind=1 then
    (Z19 N x10.Text).bind fun r16=>
    (Z4e N p1) r16
   else
    (Z4e N p1) false
  else
   (Z4e N p1) false
 else
  (Z4e N p1) false
def Z4c (N:Nat) (p1:leadlineref05_In) (p7:Str):Option leadlineref05_In:=
 (Z4a N p1 p7).bind fun rz8=>
 if rz8.1=true then
  some rz8.2
 else
  (Z47 N rz8.2).bind fun r15=>
  some r15
def Z4j (N:Nat) (kZ4i:(List api_Token)→Int→Int→Int→api_Cell→Option ((List api_Cell)×leadlineref05_In)) (r12:(api_Cell×leadlineref05_In)) (vC1:(List api_Token)) (vC6:Int) (vC7:Int) (vC8:Int) (vD1:Bool):Option ((List api_Cell)×leadlineref05_In):=
 if vD1=true then
  (getI vC1 vC6).bind fun x34=>
  kZ4i vC1 (IntKind.i64.wrap (vC6+1)) vC7 vC8 (api_Cell.mk r12.1.Name x34.N r12.1.At)
 else
  (Z47 N (leadlineref05_In.mk vC1 vC6 vC7 vC8)).bind fun r39=>
  kZ4i r39.L r39.At r39.E r39.Pos r12.1
def Z4i (N:Nat) (kZ4k:(List api_Token)→Int→Int→Int→(List api_Cell)→Bool→Option ((List api_Cell)×leadlineref05_In)) (vB9:(List api_Cell)) (vC10:(List api_Token)) (vC15:Int) (vC16:Int) (vC17:Int) (vC18:api_Cell):Option ((List api_Cell)×leadlineref05_In):=
 (Ct 32 vB9 ([vC18]:List api_Cell)).bind fun l48=>
 (Z4a N (leadlineref05_In.mk vC10 vC15 vC16 vC17) [44]).bind fun r54=>
 kZ4k r54.2.L r54.2.At r54.2.E r54.2.Pos l48 r54.1
def Z4h (N:Nat) (kZ4k:(List api_Token)→Int→Int→Int→(List api_Cell)→Bool→Option ((List api_Cell)×leadlineref05_In)) (r12:(api_Cell×leadlineref05_In)) (vB9:(List api_Cell)) (vC1:(List api_Token)) (vC6:Int) (vC7:Int) (vC8:Int) (vC9:Bool):Option ((List api_Cell)×leadlineref05_In):=
 if vC9=true then
  if vC6 < (vC1.length:Int) then
   (getI vC1 vC6).bind fun x28=>
   (Z4j N (Z4i N kZ4k vB9) r12 vC1 vC6 vC7 vC8) (decide (x28.Kind=2))
  else
   (Z4j N (Z4i N kZ4k vB9) r12 vC1 vC6 vC7 vC8) false
 else
  (Z4i N kZ4k vB9) vC1 vC6 vC7 vC8 r12.1
def Z4k (N:Nat) (kZ4g:(List api_Token)→Int→Int→Int→(List api_Cell)→Option ((List api_Cell)×leadlineref05_In)) (p7:Bool):Nat→(List api_Token)→Int→Int→Int→(List api_Cell)→Bool→Option ((List api_Cell)×leadlineref05_In)
 | 0,_,_,_,_,_,_=>none
 | n+1,vB1,vB6,vB7,vB8,vB9,vB15=>
  if (vB15 && (decide (vB7=0)))=true then
   (Z4d N (leadlineref05_In.mk vB1 vB6 vB7 vB8)).bind fun r12=>
   if p7=true then
    (Z4a N r12.2 [61]).bind fun r20=>
    (Z4h N (Z4k N kZ4g p7 n) r12 vB9) r20.2.L r20.2.At r20.2.E r20.2.Pos r20.1
   else
    (Z4h N (Z4k N kZ4g p7 n) r12 vB9) r12.2.L r12.2.At r12.2.E r12.2.Pos false
  else
   kZ4g vB1 vB6 vB7 vB8 vB9
def Z4g (N:Nat) (vA1:(List api_Token)) (vA6:Int) (vA7:Int) (vA8:Int) (vA9:(List api_Cell)):Option ((List api_Cell)×leadlineref05_In):=
 (Z4c N (leadlineref05_In.mk vA1 vA6 vA7 vA8) [59]).bind fun r60=>
 some (vA9,r60)
def Z4f (N:Nat) (p1:leadlineref05_In) (p7:Bool):Option ((List api_Cell)×leadlineref05_In):=
 (Z4k N (Z4g N) p7) N p1.L p1.At p1.E p1.Pos [] true
def Z3v (_:Nat) (p1:Int):Option Str:=
 (getI ([[],[],[108,111,97,100],[115,116,111,114,101],[99,97,115],[102,108,117,115,104],[111,112,116],[115,102,101,110,99,101],[109,102,101,110,99,101],[116,97,107,101],[103,105,118,101],[105,102],[108,111,111,112],[98,114,101,97,107],[99,104,101,99,107]]:List Str) p1).bind fun xz5=>
 some xz5
def Z2x (N:Nat) (p1:leadlineref04_P) (vA1:Int):Option leadlineref04_P:=
 (Z1e N p1.L p1.At).bind fun r15=>
 some (leadlineref04_P.mk p1.L p1.At vA1 r15 p1.Out)
def Z2w (N:Nat) (p1:leadlineref04_P) (p12:Int):Option leadlineref04_P:=
 if p1.E=0 then
  if (p1.L.length:Int)≤p1.At then
   (Z2x N p1) 6
  else
   (Z2x N p1) p12
 else
  some p1
def Z38 (N:Nat) (p1:leadlineref04_P) (vA1:Bool):Option (Str×leadlineref04_P):=
 if vA1=true then
  (getI p1.L (IntKind.i64.wrap ((IntKind.i64.wrap (p1.At+1)) - 1))).bind fun x23=>
  some (x23.Text,(leadlineref04_P.mk p1.L (IntKind.i64.wrap (p1.At+1)) p1.E p1.Pos p1.Out))
 else
  (Z2w N (leadlineref04_P.mk p1.L p1.At p1.E p1.Pos p1.Out) 5).bind fun r28=>
  some ([],r28)
def Z37 (N:Nat) (p1:leadlineref04_P):Option (Str×leadlineref04_P):=
 if p1.E=0 then
  if p1.At < (p1.L.length:Int) then
   (getI p1.L p1.At).bind fun x14=>
   if x14.Kind=1 then
    (Z19 N x14.Text).bind fun r20=>
    (Z38 N p1) r20
   else
    (Z38 N p1) false
  else
   (Z38 N p1) false
 else
  (Z38 N p1) false
def Z36 (N:Nat) (p1:leadlineref04_P) (vA1:Bool):Option leadlineref04_P:=
 if vA1=true then
  some (leadlineref04_P.mk p1.L (IntKind.i64.wrap (p1.At+1)) p1.E p1.Pos p1.Out)
 else
  (Z2w N (leadlineref04_P.mk p1.L p1.At p1.E p1.Pos p1.Out) 5).bind fun r17=>
  some r17
def Z35 (N:Nat) (p1:leadlineref04_P) (p12:Str):Option leadlineref04_P:=
 if p1.E=0 then
  (Z15 N p1.L p1.At p12).bind fun r14=>
  (Z36 N p1) r14
 else
  (Z36 N p1) false
def Z2l (N:Nat) (p1:(List api_Token)) (p6:Int) (vA1:Int):Option leadlineref03_Read:=
 (Z1e N p1 p6).bind fun r10=>
 some (leadlineref03_Read.mk [] 0 vA1 r10)
def Z2k (N:Nat) (p1:(List api_Token)) (p6:Int) (p7:Int):Option leadlineref03_Read:=
 if (p1.length:Int)≤p6 then
  (Z2l N p1 p6) 6
 else
  (Z2l N p1 p6) p7
def Z2p (_:Nat) (p1:Int):Option (List Int):=
 (getI ([([15]:List Int),([14]:List Int),([10,11,12,13]:List Int),([5,6]:List Int),([7,8,9]:List Int)]:List (List Int)) p1).bind fun x40=>
 some x40
def Z2u (_:Nat) (p1:Int):Option Str:=
 (getI ([[],[],[],[45],[33],[43],[45],[42],[47],[37],[61,61],[33,61],[60],[60,61],[38,38],[124,124]]:List Str) p1).bind fun xz5=>
 some xz5
def Z2s (r43:leadlineref03_Read) (x57:api_Token) (vA2:Int):Option leadlineref03_Read:=
 (Ct 40 ([(api_Node.mk vA2 0 [] x57.At)]:List api_Node) r43.L).bind fun l66=>
 some (leadlineref03_Read.mk l66 r43.To r43.E r43.At)
def Z2t (N:Nat) (p1:(List api_Token)) (p6:Int) (x109:api_Token) (vA3:Bool):Option leadlineref03_Read:=
 if vA3=true then
  some (leadlineref03_Read.mk ([(api_Node.mk 2 0 x109.Text x109.At)]:List api_Node) (IntKind.i64.wrap (p6+1)) 0 0)
 else
  (Z2k N p1 p6 5).bind fun r133=>
  some r133
def Z2r (rf:(List api_Token)→Int→Int→Option leadlineref03_Read) (rg_Z27:(List api_Token)→Int→Int→Int→Option leadlineref03_Read) (N:Nat) (p1:(List api_Token)) (p6:Int) (p7:Int) (vA1:Bool):Option leadlineref03_Read:=
 (Z15 N p1 p6 [40]).bind fun r27=>
 if ((vA1 || r27) && (decide (p7=12)))=true then
  (Z2k N p1 p6 7).bind fun r30=>
  some r30
 else
  if vA1=true then
   (rf p1 (IntKind.i64.wrap (p6+1)) (IntKind.i64.wrap (p7+1))).bind fun r43=>
   if r43.E≠0 then
    some r43
   else
    (getI p1 p6).bind fun x57=>
    if x57.Text=[45] then
     (Z2s r43 x57) 3
    else
     (Z2s r43 x57) 4
  else
   if r27=true then
    (rg_Z27 p1 (IntKind.i64.wrap (p6+1)) (IntKind.i64.wrap (p7+1)) 0).bind fun r80=>
    if r80.E≠0 then
     some r80
    else
     (Z15 N p1 r80.To [41]).bind fun r94=>
     if r94=true then
      some (leadlineref03_Read.mk r80.L (IntKind.i64.wrap (r80.To+1)) r80.E r80.At)
     else
      (Z2k N p1 r80.To 5).bind fun r97=>
      some r97
   else
    (getI p1 p6).bind fun x109=>
    if x109.Kind=2 then
     some (leadlineref03_Read.mk ([(api_Node.mk 1 x109.N [] x109.At)]:List api_Node) (IntKind.i64.wrap (p6+1)) 0 0)
    else
     if x109.Kind=1 then
      (Z19 N x109.Text).bind fun r123=>
      (Z2t N p1 p6 x109) r123
     else
      (Z2t N p1 p6 x109) false
def Z2a (kZ2c:Int→Int→Option leadlineref03_Read) (vD3:Int) (vE2:Int):Option leadlineref03_Read:=
 kZ2c vE2 (IntKind.i64.wrap (vD3+1))
def Z2c (N:Nat) (kZ29:Int→Option leadlineref03_Read) (p1:(List api_Token)) (p8:Int) (vB15:Int):Nat→Int→Int→Option leadlineref03_Read
 | 0,_,_=>none
 | n+1,vD2,vD3=>
  (Z2p N p8).bind fun r37=>
  if vD3 < (r37.length:Int) then
   (Z2p N p8).bind fun r48=>
   (getI r48 vD3).bind fun x58=>
   (Z2u N x58).bind fun r63=>
   (Z15 N p1 vB15 r63).bind fun r65=>
   if r65=true then
    (Z2p N p8).bind fun r68=>
    (getI r68 vD3).bind fun x78=>
    (Z2a (Z2c N kZ29 p1 p8 vB15 n) vD3) x78
   else
    (Z2a (Z2c N kZ29 p1 p8 vB15 n) vD3) vD2
  else
   kZ29 vD2
def Z29 (rf:(List api_Token)→Int→Int→Int→Option leadlineref03_Read) (kZ2b:(List api_Node)→Int→Int→Int→Option leadlineref03_Read) (p1:(List api_Token)) (p7:Int) (p8:Int) (vB10:(List api_Node)) (vB15:Int) (vB16:Int) (vB17:Int) (vC2:Int):Option leadlineref03_Read:=
 if vC2=0 then
  some (leadlineref03_Read.mk vB10 vB15 vB16 vB17)
 else
  (rf p1 (IntKind.i64.wrap (vB15+1)) p7 (IntKind.i64.wrap (p8+1))).bind fun r84=>
  if r84.E≠0 then
   some r84
  else
   (getI p1 vB15).bind fun x98=>
   (Ct 40 ([(api_Node.mk vC2 0 [] x98.At)]:List api_Node) vB10).bind fun l106=>
   (Ct 40 l106 r84.L).bind fun l115=>
   if p8=2 then
    some (leadlineref03_Read.mk l115 r84.To 0 0)
   else
    kZ2b l115 r84.To 0 0
def Z2b (rf:(List api_Token)→Int→Int→Int→Option leadlineref03_Read) (N:Nat) (kZ28:(List api_Node)→Int→Int→Int→Option leadlineref03_Read) (p1:(List api_Token)) (p7:Int) (p8:Int):Nat→(List api_Node)→Int→Int→Int→Option leadlineref03_Read
 | 0,_,_,_,_=>none
 | n+1,vB10,vB15,vB16,vB17=>
  if vB16=0 then
   (Z2c N (Z29 rf (Z2b rf N kZ28 p1 p7 p8 n) p1 p7 p8 vB10 vB15 vB16 vB17) p1 p8 vB15) N 0 0
  else
   kZ28 vB10 vB15 vB16 vB17
def Z28 (vA2:(List api_Node)) (vA7:Int) (vA8:Int) (vA9:Int):Option leadlineref03_Read:=
 some (leadlineref03_Read.mk vA2 vA7 vA8 vA9)
mutual
def Z2q:Nat→(List api_Token)→Int→Int→Option leadlineref03_Read
 | 0,_,_,_=>none
 | N+1,p1,p6,p7=>
  if (p1.length:Int)≤p6 then
   (Z2k N p1 p6 6).bind fun r10=>
   some r10
  else
   (Z15 N p1 p6 [33]).bind fun r22=>
   if r22=true then
    (Z2r (Z2q N) (Z27 N) N p1 p6 p7) true
   else
    (Z15 N p1 p6 [45]).bind fun r25=>
    (Z2r (Z2q N) (Z27 N) N p1 p6 p7) r25
def Z27:Nat→(List api_Token)→Int→Int→Int→Option leadlineref03_Read
 | 0,_,_,_,_=>none
 | N+1,p1,p6,p7,p8=>
  if p8=5 then
   ((Z2q N) p1 p6 p7).bind fun r11=>
   some r11
  else
   ((Z27 N) p1 p6 p7 (IntKind.i64.wrap (p8+1))).bind fun r23=>
   (Z2b (Z27 N) N Z28 p1 p7 p8) N r23.L r23.To r23.E r23.At
end
def Z2e (N:Nat) (p1:(List api_Token)) (p6:Int):Option ((List api_Node)×Int×Int×Int):=
 if p6 < 0 then
  some ([],0,1,0)
 else
  (Z27 N p1 p6 0 0).bind fun rz8=>
  if rz8.E≠0 then
   some ([],0,rz8.E,rz8.At)
  else
   (Z2m N rz8.L 0).bind fun r22=>
   if 12 < r22 then
    (getI p1 p6).bind fun x25=>
    some ([],0,7,x25.At)
   else
    if 40 < (rz8.L.length:Int) then
     (getI p1 p6).bind fun x31=>
     some ([],0,2,x31.At)
    else
     some (rz8.L,rz8.To,0,0)
def Z34 (N:Nat) (p1:leadlineref04_P):Option ((List api_Node)×leadlineref04_P):=
 if p1.E≠0 then
  some ([],p1)
 else
  (Z2e N p1.L p1.At).bind fun r13=>
  if r13.2.2.1≠0 then
   some ([],(leadlineref04_P.mk p1.L p1.At r13.2.2.1 r13.2.2.2 p1.Out))
  else
   some (r13.1,(leadlineref04_P.mk p1.L r13.2.1 p1.E p1.Pos p1.Out))
def Z3n (N:Nat) (p1:leadlineref04_P) (vA1:Bool):Option (Int×leadlineref04_P):=
 if vA1=true then
  (getI p1.L p1.At).bind fun x19=>
  if ((decide (1≤x19.N)) && (decide (x19.N≤8)))=true then
   some (x19.N,(leadlineref04_P.mk p1.L (IntKind.i64.wrap (p1.At+1)) p1.E p1.Pos p1.Out))
  else
   (Z2w N (leadlineref04_P.mk p1.L p1.At p1.E p1.Pos p1.Out) 11).bind fun r25=>
   some (0,r25)
 else
  (Z2w N (leadlineref04_P.mk p1.L p1.At p1.E p1.Pos p1.Out) 5).bind fun r40=>
  some (0,r40)
def Z3m (N:Nat) (p1:leadlineref04_P):Option (Int×leadlineref04_P):=
 if ((decide (p1.E=0)) && (decide (p1.At < (p1.L.length:Int))))=true then
  (getI p1.L p1.At).bind fun x13=>
  (Z3n N p1) (decide (x13.Kind=2))
 else
  (Z3n N p1) false
def Z3l (N:Nat) (kZ3j:(List api_Token)→Int→Int→Int→(List api_Stmt)→Str→Str→(List api_Node)→(List api_Node)→Int→Option (api_Stmt×leadlineref04_P)) (p1:leadlineref04_P) (p12:Int) (vB2:Bool):Option (api_Stmt×leadlineref04_P):=
 if vB2=true then
  (Z34 N (leadlineref04_P.mk p1.L p1.At p1.E p1.Pos p1.Out)).bind fun r297=>
  kZ3j r297.2.L r297.2.At r297.2.E r297.2.Pos r297.2.Out [] [] r297.1 [] 0
 else
  if p12=12 then
   (Z3m N (leadlineref04_P.mk p1.L p1.At p1.E p1.Pos p1.Out)).bind fun r317=>
   kZ3j r317.2.L r317.2.At r317.2.E r317.2.Pos r317.2.Out [] [] [] [] r317.1
  else
   kZ3j p1.L p1.At p1.E p1.Pos p1.Out [] [] [] [] 0
def Z3k (N:Nat) (kZ3j:(List api_Token)→Int→Int→Int→(List api_Stmt)→Str→Str→(List api_Node)→(List api_Node)→Int→Option (api_Stmt×leadlineref04_P)) (p1:leadlineref04_P) (p12:Int) (vB1:Bool):Option (api_Stmt×leadlineref04_P):=
 if vB1=true then
  (Z37 N (leadlineref04_P.mk p1.L p1.At p1.E p1.Pos p1.Out)).bind fun r280=>
  kZ3j r280.2.L r280.2.At r280.2.E r280.2.Pos r280.2.Out [] r280.1 [] [] 0
 else
  if p12=11 then
   (Z3l N kZ3j p1 p12) (decide (p12=11))
  else
   (Z3l N kZ3j p1 p12) (decide (p12=14))
def Z3j (p12:Int) (p13:Int) (vA2:(List api_Token)) (vA7:Int) (vA8:Int) (vA9:Int) (vA10:(List api_Stmt)) (vA16:Str) (vA17:Str) (vA18:(List api_Node)) (vA23:(List api_Node)) (vA28:Int):Option (api_Stmt×leadlineref04_P):=
 some ((api_Stmt.mk p12 vA16 vA17 vA18 vA23 vA28 0 0 p13),(leadlineref04_P.mk vA2 vA7 vA8 vA9 vA10))
def Z3i (N:Nat) (p1:leadlineref04_P) (p12:Int) (p13:Int):Option (api_Stmt×leadlineref04_P):=
 if p12=1 then
  (Z37 N p1).bind fun r17=>
  (Z35 N r17.2 [61]).bind fun r32=>
  (Z34 N r32).bind fun r47=>
  (Z3j p12 p13) r47.2.L r47.2.At r47.2.E r47.2.Pos r47.2.Out r17.1 [] r47.1 [] 0
 else
  if p12=2 then
   (Z37 N p1).bind fun r67=>
   (Z35 N r67.2 [61]).bind fun r82=>
   (Z37 N r82).bind fun r97=>
   (Z3j p12 p13) r97.2.L r97.2.At r97.2.E r97.2.Pos r97.2.Out r67.1 r97.1 [] [] 0
  else
   if p12=3 then
    (Z37 N p1).bind fun r113=>
    (Z35 N r113.2 [61]).bind fun r128=>
    (Z34 N r128).bind fun r143=>
    (Z3j p12 p13) r143.2.L r143.2.At r143.2.E r143.2.Pos r143.2.Out [] r113.1 r143.1 [] 0
   else
    if p12=4 then
     (Z37 N p1).bind fun r163=>
     (Z35 N r163.2 [61]).bind fun r178=>
     (Z37 N r178).bind fun r193=>
     (Z35 N r193.2 [44]).bind fun r208=>
     (Z34 N r208).bind fun r223=>
     (Z35 N r223.2 [44]).bind fun r242=>
     (Z34 N r242).bind fun r257=>
     (Z3j p12 p13) r257.2.L r257.2.At r257.2.E r257.2.Pos r257.2.Out r163.1 r193.1 r223.1 r257.1 0
    else
     if p12=5 then
      (Z3k N (Z3j p12 p13) p1 p12) (decide (p12=5))
     else
      if p12=6 then
       (Z3k N (Z3j p12 p13) p1 p12) (decide (p12=6))
      else
       if p12=9 then
        (Z3k N (Z3j p12 p13) p1 p12) (decide (p12=9))
       else
        (Z3k N (Z3j p12 p13) p1 p12) (decide (p12=10))
def Z32 (rg_Z39:leadlineref04_P→Int→Int→Option leadlineref04_P) (kZ31:(List api_Token)→Int→Int→Int→(List api_Stmt)→Option (Int×leadlineref04_P)) (kZ33:(List api_Token)→Int→Int→Int→(List api_Stmt)→Option (Int×leadlineref04_P)) (p12:Int) (p13:Int) (vB2:(List api_Token)) (vB7:Int) (vB8:Int) (vB9:Int) (vB10:(List api_Stmt)) (vC1:Bool):Option (Int×leadlineref04_P):=
 if vC1=true then
  (rg_Z39 (leadlineref04_P.mk vB2 vB7 vB8 vB9 vB10) p12 p13).bind fun r52=>
  kZ33 r52.L r52.At r52.E r52.Pos r52.Out
 else
  kZ31 vB2 vB7 vB8 vB9 vB10
def Z33 (rg_Z39:leadlineref04_P→Int→Int→Option leadlineref04_P) (N:Nat) (kZ31:(List api_Token)→Int→Int→Int→(List api_Stmt)→Option (Int×leadlineref04_P)) (p12:Int) (p13:Int):Nat→(List api_Token)→Int→Int→Int→(List api_Stmt)→Option (Int×leadlineref04_P)
 | 0,_,_,_,_,_=>none
 | n+1,vB2,vB7,vB8,vB9,vB10=>
  if vB8=0 then
   (Z15 N vB2 vB7 [125]).bind fun r49=>
   (Z32 rg_Z39 kZ31 (Z33 rg_Z39 N kZ31 p12 p13 n) p12 p13 vB2 vB7 vB8 vB9 vB10) (!r49)
  else
   (Z32 rg_Z39 kZ31 (Z33 rg_Z39 N kZ31 p12 p13 n) p12 p13 vB2 vB7 vB8 vB9 vB10) false
def Z31 (N:Nat) (p1:leadlineref04_P) (vA18:(List api_Token)) (vA23:Int) (vA24:Int) (vA25:Int) (vA26:(List api_Stmt)):Option (Int×leadlineref04_P):=
 (Z35 N (leadlineref04_P.mk vA18 vA23 vA24 vA25 vA26) [125]).bind fun r67=>
 some ((IntKind.i64.wrap ((r67.Out.length:Int) - (p1.Out.length:Int))),r67)
def Z30 (rg_Z39:leadlineref04_P→Int→Int→Option leadlineref04_P) (N:Nat) (p1:leadlineref04_P) (p12:Int) (p13:Int) (vA3:(List api_Token)) (vA8:Int) (vA9:Int) (vA10:Int) (vA11:(List api_Stmt)):Option (Int×leadlineref04_P):=
 (Z35 N (leadlineref04_P.mk vA3 vA8 vA9 vA10 vA11) [123]).bind fun r33=>
 (Z33 rg_Z39 N (Z31 N p1) p12 p13) N r33.L r33.At r33.E r33.Pos r33.Out
def Z2z (rg_Z39:leadlineref04_P→Int→Int→Option leadlineref04_P) (N:Nat) (p1:leadlineref04_P) (p12:Int) (p13:Int) (vA1:Bool):Option (Int×leadlineref04_P):=
 if vA1=true then
  (Z2w N (leadlineref04_P.mk p1.L p1.At p1.E p1.Pos p1.Out) 7).bind fun r18=>
  (Z30 rg_Z39 N p1 p12 p13) r18.L r18.At r18.E r18.Pos r18.Out
 else
  (Z30 rg_Z39 N p1 p12 p13) p1.L p1.At p1.E p1.Pos p1.Out
def Z3b (kZ3h:Int→Int→Option leadlineref04_P) (vB2:Int) (vC1:Int):Option leadlineref04_P:=
 kZ3h vC1 (IntKind.i64.wrap (vB2+1))
def Z3h (N:Nat) (kZ3a:Int→Option leadlineref04_P) (p1:leadlineref04_P):Nat→Int→Int→Option leadlineref04_P
 | 0,_,_=>none
 | n+1,vB1,vB2=>
  if vB2≤14 then
   (Z3v N vB2).bind fun r17=>
   (Z15 N p1.L p1.At r17).bind fun r19=>
   if r19=true then
    (Z3b (Z3h N kZ3a p1 n) vB2) vB2
   else
    (Z3b (Z3h N kZ3a p1 n) vB2) vB1
  else
   kZ3a vB1
def Z3g (_:Nat) (r39:(api_Stmt×leadlineref04_P)) (r91:(Int×leadlineref04_P)) (vA12:(List api_Token)) (vA17:Int) (vA18:Int) (vA19:Int) (vA20:(List api_Stmt)) (vA26:Int):Option leadlineref04_P:=
 (getI vA20 (r39.2.Out.length:Int)).bind fun _=>
 (Ua vA20 (r39.2.Out.length:Int) (api_Stmt.mk r39.1.Kind r39.1.Reg r39.1.Name r39.1.E r39.1.F r39.1.N r91.1 vA26 r39.1.At)).bind fun l129=>
 some (leadlineref04_P.mk vA12 vA17 vA18 vA19 l129)
def Z3f (rg_Z2y:leadlineref04_P→Int→Int→Option (Int×leadlineref04_P)) (N:Nat) (p12:Int) (r39:(api_Stmt×leadlineref04_P)) (vA9:Int) (r91:(Int×leadlineref04_P)) (vA10:Bool):Option leadlineref04_P:=
 if vA10=true then
  (rg_Z2y (leadlineref04_P.mk r91.2.L (IntKind.i64.wrap (r91.2.At+1)) r91.2.E r91.2.Pos r91.2.Out) (IntKind.i64.wrap (p12+1)) vA9).bind fun r111=>
  (Z3g N r39 r91) r111.2.L r111.2.At r111.2.E r111.2.Pos r111.2.Out r111.1
 else
  (Z3g N r39 r91) r91.2.L r91.2.At r91.2.E r91.2.Pos r91.2.Out r39.1.Else
def Z3e (rg_Z2y:leadlineref04_P→Int→Int→Option (Int×leadlineref04_P)) (N:Nat) (p12:Int) (vA1:Int) (r39:(api_Stmt×leadlineref04_P)) (vA3:(List api_Stmt)) (vA9:Int):Option leadlineref04_P:=
 (rg_Z2y (leadlineref04_P.mk r39.2.L r39.2.At r39.2.E r39.2.Pos vA3) (IntKind.i64.wrap (p12+1)) vA9).bind fun r91=>
 if vA1=11 then
  if r91.2.E=0 then
   (Z15 N r91.2.L r91.2.At [101,108,115,101]).bind fun r108=>
   (Z3f rg_Z2y N p12 r39 vA9 r91) r108
  else
   (Z3f rg_Z2y N p12 r39 vA9 r91) false
 else
  (Z3f rg_Z2y N p12 r39 vA9 r91) false
def Z3d (rg_Z2y:leadlineref04_P→Int→Int→Option (Int×leadlineref04_P)) (N:Nat) (p12:Int) (p13:Int) (vA1:Int) (r39:(api_Stmt×leadlineref04_P)) (vA3:(List api_Stmt)):Option leadlineref04_P:=
 if ((decide (vA1≠11)) && (decide (vA1≠12)))=true then
  (Z35 N (leadlineref04_P.mk r39.2.L r39.2.At r39.2.E r39.2.Pos vA3) [59]).bind fun r75=>
  some r75
 else
  if vA1=12 then
   (Z3e rg_Z2y N p12 vA1 r39 vA3) (IntKind.i64.wrap (p13+1))
  else
   (Z3e rg_Z2y N p12 vA1 r39 vA3) p13
def Z3c (rg_Z2y:leadlineref04_P→Int→Int→Option (Int×leadlineref04_P)) (N:Nat) (p1:leadlineref04_P) (p12:Int) (p13:Int) (r14:Int) (vA1:Int) (vA2:Int):Option leadlineref04_P:=
 (Z3i N (leadlineref04_P.mk p1.L vA2 p1.E p1.Pos p1.Out) vA1 r14).bind fun r39=>
 (Ct 120 r39.2.Out ([r39.1]:List api_Stmt)).bind fun l68=>
 (Z3d rg_Z2y N p12 p13 vA1 r39) l68
def Z3a (rg_Z2y:leadlineref04_P→Int→Int→Option (Int×leadlineref04_P)) (N:Nat) (p1:leadlineref04_P) (p12:Int) (p13:Int) (r14:Int) (vA1:Int):Option leadlineref04_P:=
 if ((decide (vA1=13)) && (decide (p13=0)))=true then
  (Z2w N (leadlineref04_P.mk p1.L p1.At p1.E p1.Pos p1.Out) 5).bind fun r23=>
  some r23
 else
  if vA1≠1 then
   (Z3c rg_Z2y N p1 p12 p13 r14 vA1) (IntKind.i64.wrap (p1.At+1))
  else
   (Z3c rg_Z2y N p1 p12 p13 r14 vA1) p1.At
mutual
def Z2y:Nat→leadlineref04_P→Int→Int→Option (Int×leadlineref04_P)
 | 0,_,_,_=>none
 | N+1,p1,p12,p13=>
  if 12 < p12 then
   (Z15 N p1.L p1.At [123]).bind fun r15=>
   (Z2z (Z39 N) N p1 p12 p13) r15
  else
   (Z2z (Z39 N) N p1 p12 p13) false
def Z39:Nat→leadlineref04_P→Int→Int→Option leadlineref04_P
 | 0,_,_,_=>none
 | N+1,p1,p12,p13=>
  (Z1e N p1.L p1.At).bind fun r14=>
  (Z3h N (Z3a (Z2y N) N p1 p12 p13 r14) p1) N 1 2
end
def Z3q (N:Nat) (kZ3p:(List api_Token)→Int→Int→Int→(List api_Stmt)→Option ((List api_Stmt)×Int×Int×Int)) (kZ3r:(List api_Token)→Int→Int→Int→(List api_Stmt)→Option ((List api_Stmt)×Int×Int×Int)) (vB2:(List api_Token)) (vB7:Int) (vB8:Int) (vB9:Int) (vB10:(List api_Stmt)) (vC1:Bool):Option ((List api_Stmt)×Int×Int×Int):=
 if vC1=true then
  (Z39 N (leadlineref04_P.mk vB2 vB7 vB8 vB9 vB10) 0 0).bind fun r13=>
  kZ3r r13.L r13.At r13.E r13.Pos r13.Out
 else
  kZ3p vB2 vB7 vB8 vB9 vB10
def Z3r (N:Nat) (kZ3p:(List api_Token)→Int→Int→Int→(List api_Stmt)→Option ((List api_Stmt)×Int×Int×Int)):Nat→(List api_Token)→Int→Int→Int→(List api_Stmt)→Option ((List api_Stmt)×Int×Int×Int)
 | 0,_,_,_,_,_=>none
 | n+1,vB2,vB7,vB8,vB9,vB10=>
  if vB8=0 then
   (Z15 N vB2 vB7 [125]).bind fun r10=>
   (Z3q N kZ3p (Z3r N kZ3p n) vB2 vB7 vB8 vB9 vB10) (!r10)
  else
   (Z3q N kZ3p (Z3r N kZ3p n) vB2 vB7 vB8 vB9 vB10) false
def Z3p (N:Nat) (p1:(List api_Token)) (p7:Int) (vA2:(List api_Token)) (vA7:Int) (vA8:Int) (vA9:Int) (vA10:(List api_Stmt)):Option ((List api_Stmt)×Int×Int×Int):=
 (Z35 N (leadlineref04_P.mk vA2 vA7 vA8 vA9 vA10) [125]).bind fun r28=>
 if r28.E≠0 then
  some ([],0,r28.E,r28.Pos)
 else
  if 40 < (r28.Out.length:Int) then
   (getI p1 p7).bind fun x45=>
   some ([],0,2,x45.At)
  else
   some (r28.Out,r28.At,0,0)
def Z3o (N:Nat) (p1:(List api_Token)) (p6:Int) (p7:Int):Option ((List api_Stmt)×Int×Int×Int):=
 (Z3r N (Z3p N p1 p7)) N p1 p6 0 0 []
def Z4o (N:Nat) (kZ4m:(List api_Token)→Int→Int→Int→(List Str)→Option (api_Thread×leadlineref05_In)) (r29:((List api_Cell)×leadlineref05_In)):Nat→(List Str)→Int→Option (api_Thread×leadlineref05_In)
 | 0,_,_=>none
 | n+1,vB1,vB7=>
  if vB7 < (r29.1.length:Int) then
   (getI r29.1 vB7).bind fun x41=>
   (Ct 16 vB1 ([x41.Name]:List Str)).bind fun l50=>
   (Z4o N kZ4m r29 n) l50 (IntKind.i64.wrap (vB7+1))
  else
   kZ4m r29.2.L r29.2.At r29.2.E r29.2.Pos vB1
def Z4n (p7:Str) (p13:Int) (vA1:(List api_Token)) (vA9:(List Str)) (vA16:Int) (vA17:Int) (vA18:Int) (vA19:(List api_Stmt)):Option (api_Thread×leadlineref05_In):=
 some ((api_Thread.mk p7 vA9 vA19 p13),(leadlineref05_In.mk vA1 vA16 vA17 vA18))
def Z4m (N:Nat) (p1:leadlineref05_In) (p7:Str) (p8:(List api_Stmt)) (p13:Int) (vA1:(List api_Token)) (vA6:Int) (vA7:Int) (vA8:Int) (vA9:(List Str)):Option (api_Thread×leadlineref05_In):=
 if vA7=0 then
  (Z3o N vA1 vA6 p1.At).bind fun r57=>
  (Z4n p7 p13 vA1 vA9) r57.2.1 r57.2.2.1 r57.2.2.2 r57.1
 else
  (Z4n p7 p13 vA1 vA9) vA6 vA7 vA8 p8
def Z4l (N:Nat) (p1:leadlineref05_In) (p7:Str) (p8:(List api_Stmt)) (p13:Int):Option (api_Thread×leadlineref05_In):=
 (Z4c N p1 [123]).bind fun r16=>
 (Z4a N r16 [114,101,103]).bind fun r22=>
 if r22.1=true then
  (Z4f N r22.2 false).bind fun r29=>
  (Z4o N (Z4m N p1 p7 p8 p13) r29) N [] 0
 else
  (Z4m N p1 p7 p8 p13) r22.2.L r22.2.At r22.2.E r22.2.Pos []
def Z49 (N:Nat) (p1:leadlineref05_In) (p7:Int):Option (api_Claim×leadlineref05_In):=
 (Z2e N p1.L p1.At).bind fun rz9=>
 if rz9.2.2.1≠0 then
  some ((api_Claim.mk [] 0),(leadlineref05_In.mk p1.L p1.At rz9.2.2.1 rz9.2.2.2))
 else
  (Z4c N (leadlineref05_In.mk p1.L rz9.2.1 p1.E p1.Pos) [59]).bind fun r20=>
  some ((api_Claim.mk rz9.1 p7),r20)
def Z4y (N:Nat) (kZ4q:(List api_Token)→Int→Int→Int→(List (List api_Cell))→Option (api_Prog×Int×Int)):Nat→(List api_Token)→Int→Int→Int→(List (List api_Cell))→Option (api_Prog×Int×Int)
 | 0,_,_,_,_,_=>none
 | n+1,vB2,vB7,vB8,vB9,vB10=>
  (Z4a N (leadlineref05_In.mk vB2 vB7 vB8 vB9) [108,105,110,101]).bind fun r17=>
  if r17.1=true then
   (Z4f N r17.2 true).bind fun r24=>
   (Ct 24 vB10 ([r24.1]:List (List api_Cell))).bind fun l42=>
   (Z4y N kZ4q n) r24.2.L r24.2.At r24.2.E r24.2.Pos l42
  else
   kZ4q r17.2.L r17.2.At r17.2.E r17.2.Pos vB10
def Z4z (N:Nat) (kZ4t:(List api_Token)→Int→Int→Int→(List api_Cell)→Option (api_Prog×Int×Int)):Nat→(List api_Token)→Int→Int→Int→(List api_Cell)→Option (api_Prog×Int×Int)
 | 0,_,_,_,_,_=>none
 | n+1,vB16,vB21,vB22,vB23,vB24=>
  (Z4a N (leadlineref05_In.mk vB16 vB21 vB22 vB23) [118,111,108]).bind fun r48=>
  if r48.1=true then
   (Z4f N r48.2 true).bind fun r55=>
   (Ct 32 vB24 r55.1).bind fun l66=>
   (Z4z N kZ4t n) r55.2.L r55.2.At r55.2.E r55.2.Pos l66
  else
   kZ4t r48.2.L r48.2.At r48.2.E r48.2.Pos vB24
def Z50 (N:Nat) (kZ4u:(List api_Token)→Int→Int→Int→(List api_Cell)→Option (api_Prog×Int×Int)):Nat→(List api_Token)→Int→Int→Int→(List api_Cell)→Option (api_Prog×Int×Int)
 | 0,_,_,_,_,_=>none
 | n+1,vB30,vB35,vB36,vB37,vB38=>
  (Z4a N (leadlineref05_In.mk vB30 vB35 vB36 vB37) [108,111,99,107]).bind fun r72=>
  if r72.1=true then
   (Z4f N r72.2 false).bind fun r79=>
   (Ct 32 vB38 r79.1).bind fun l90=>
   (Z50 N kZ4u n) r79.2.L r79.2.At r79.2.E r79.2.Pos l90
  else
   kZ4u r72.2.L r72.2.At r72.2.E r72.2.Pos vB38
def Z51 (N:Nat) (kZ4v:(List api_Token)→Int→Int→Int→(List api_Thread)→Option (api_Prog×Int×Int)):Nat→(List api_Token)→Int→Int→Int→(List api_Thread)→Option (api_Prog×Int×Int)
 | 0,_,_,_,_,_=>none
 | n+1,vB45,vB50,vB51,vB52,vB53=>
  (Z4a N (leadlineref05_In.mk vB45 vB50 vB51 vB52) [116,104,114,101,97,100]).bind fun r96=>
  if r96.1=true then
   (Z4d N r96.2).bind fun r103=>
   (Z4l N r103.2 r103.1.Name ([]:(List api_Stmt)) r103.1.At).bind fun r110=>
   (Ct 72 vB53 ([r110.1]:List api_Thread)).bind fun l133=>
   (Z51 N kZ4v n) r110.2.L r110.2.At r110.2.E r110.2.Pos l133
  else
   kZ4v r96.2.L r96.2.At r96.2.E r96.2.Pos vB53
def Z4x (N:Nat) (kZ4r:(List api_Token)→Int→Int→Int→(List api_Claim)→Option (api_Prog×Int×Int)) (rz3:((List api_Token)×Int×Int)):Nat→(List api_Token)→Int→Int→Int→(List api_Claim)→Option (api_Prog×Int×Int)
 | 0,_,_,_,_,_=>none
 | n+1,vB60,vB65,vB66,vB67,vB68=>
  (Z4a N (leadlineref05_In.mk vB60 vB65 vB66 vB67) [97,108,119,97,121,115]).bind fun r181=>
  if r181.1=true then
   (getI rz3.1 (IntKind.i64.wrap (r181.2.At - 1))).bind fun x188=>
   (Z49 N r181.2 x188.At).bind fun r193=>
   (Ct 32 vB68 ([r193.1]:List api_Claim)).bind fun l212=>
   (Z4x N kZ4r rz3 n) r193.2.L r193.2.At r193.2.E r193.2.Pos l212
  else
   kZ4r r181.2.L r181.2.At r181.2.E r181.2.Pos vB68
def Z4s (vA10:(List (List api_Cell))) (vA24:(List api_Cell)) (vA38:(List api_Cell)) (vA53:(List api_Thread)) (vA68:(List api_Thread)) (vA83:(List api_Claim)) (_:(List api_Token)) (_:Int) (vA95:Int) (vA96:Int):Option (api_Prog×Int×Int):=
 if vA95≠0 then
  some ((api_Prog.mk [] [] [] [] [] []),vA95,vA96)
 else
  some ((api_Prog.mk vA10 vA24 vA38 vA53 vA68 vA83),0,0)
def Z4r (N:Nat) (rz3:((List api_Token)×Int×Int)) (vA10:(List (List api_Cell))) (vA24:(List api_Cell)) (vA38:(List api_Cell)) (vA53:(List api_Thread)) (vA68:(List api_Thread)) (vA75:(List api_Token)) (vA80:Int) (vA81:Int) (vA82:Int) (vA83:(List api_Claim)):Option (api_Prog×Int×Int):=
 if vA80 < (rz3.1.length:Int) then
  (Z47 N (leadlineref05_In.mk vA75 vA80 vA81 vA82)).bind fun r219=>
  (Z4s vA10 vA24 vA38 vA53 vA68 vA83) r219.L r219.At r219.E r219.Pos
 else
  (Z4s vA10 vA24 vA38 vA53 vA68 vA83) vA75 vA80 vA81 vA82
def Z4w (N:Nat) (rz3:((List api_Token)×Int×Int)) (vA10:(List (List api_Cell))) (vA24:(List api_Cell)) (vA38:(List api_Cell)) (vA53:(List api_Thread)) (vA60:(List api_Token)) (vA65:Int) (vA66:Int) (vA67:Int) (vA68:(List api_Thread)):Option (api_Prog×Int×Int):=
 (Z4x N (Z4r N rz3 vA10 vA24 vA38 vA53 vA68) rz3) N vA60 vA65 vA66 vA67 []
def Z4v (N:Nat) (rz3:((List api_Token)×Int×Int)) (vA10:(List (List api_Cell))) (vA24:(List api_Cell)) (vA38:(List api_Cell)) (vA45:(List api_Token)) (vA50:Int) (vA51:Int) (vA52:Int) (vA53:(List api_Thread)):Option (api_Prog×Int×Int):=
 (Z4a N (leadlineref05_In.mk vA45 vA50 vA51 vA52) [114,101,99,111,118,101,114]).bind fun r139=>
 if r139.1=true then
  (getI rz3.1 (IntKind.i64.wrap (r139.2.At - 1))).bind fun x146=>
  (Z4l N r139.2 [] ([]:(List api_Stmt)) x146.At).bind fun r151=>
  (Ct 72 ([]:List api_Thread) ([r151.1]:List api_Thread)).bind fun l174=>
  (Z4w N rz3 vA10 vA24 vA38 vA53) r151.2.L r151.2.At r151.2.E r151.2.Pos l174
 else
  (Z4w N rz3 vA10 vA24 vA38 vA53) r139.2.L r139.2.At r139.2.E r139.2.Pos []
def Z4u (N:Nat) (rz3:((List api_Token)×Int×Int)) (vA10:(List (List api_Cell))) (vA24:(List api_Cell)) (vA30:(List api_Token)) (vA35:Int) (vA36:Int) (vA37:Int) (vA38:(List api_Cell)):Option (api_Prog×Int×Int):=
 (Z51 N (Z4v N rz3 vA10 vA24 vA38)) N vA30 vA35 vA36 vA37 []
def Z4t (N:Nat) (rz3:((List api_Token)×Int×Int)) (vA10:(List (List api_Cell))) (vA16:(List api_Token)) (vA21:Int) (vA22:Int) (vA23:Int) (vA24:(List api_Cell)):Option (api_Prog×Int×Int):=
 (Z50 N (Z4u N rz3 vA10 vA24)) N vA16 vA21 vA22 vA23 []
def Z4q (N:Nat) (rz3:((List api_Token)×Int×Int)) (vA2:(List api_Token)) (vA7:Int) (vA8:Int) (vA9:Int) (vA10:(List (List api_Cell))):Option (api_Prog×Int×Int):=
 (Z4z N (Z4t N rz3 vA10)) N vA2 vA7 vA8 vA9 []
def Z4p (N:Nat) (p1:Str):Option (api_Prog×Int×Int):=
 (Z1f N p1).bind fun rz3=>
 if rz3.2.1≠0 then
  some ((api_Prog.mk [] [] [] [] [] []),rz3.2.1,rz3.2.2)
 else
  (Z4y N (Z4q N rz3)) N rz3.1 0 0 0 []
def Z14 (N:Nat) (p1:Str):Option api_Prog:=
 (Z4p N p1).bind fun rz3=>
 some rz3.1
def Z75 (vA2:(List Str)) (xe124:(api_Cell×Int)):Option ((List Str) ⊕ Empty):=
 (Ct 16 vA2 ([xe124.1.Name]:List Str)).bind fun l131=>
 some (.inl l131)
def Z74 (N:Nat) (p1:api_Prog):Option (List Str):=
 (Z7t N p1).bind fun r30=>
 (Z7u N (yy (fun (s:(List Str)) (x:(api_Cell×Int))=>Z75 s x)) (.inl []) r30).bind fun q64=>
 match q64 with
  | .inl vA2=>
   some vA2
  | .inr t=>nomatch t
def Z6f (N:Nat) (kZ6e:Option Bool) (p1:(List Str)) (p6:(List Str)):Nat→Int→Option Bool
 | 0,_=>none
 | n+1,vB1=>
  if vB1 < (p1.length:Int) then
   (getI p1 vB1).bind fun x13=>
   (getI p6 vB1).bind fun x18=>
   if x13≠x18 then
    some false
   else
    (Z6f N kZ6e p1 p6 n) (IntKind.i64.wrap (vB1+1))
  else
   kZ6e
def Z6e  : Option Bool:=
 some true
def Z6d (N:Nat) (p1:(List Str)) (p6:(List Str)):Option Bool:=
 if (p1.length:Int)≠(p6.length:Int) then
  some false
 else
  (Z6f N Z6e p1 p6) N 0
def Z7s (N:Nat) (kZ7r:Int→Option Int) (p1:api_Prog):Nat→Int→Int→Option Int
 | 0,_,_=>none
 | n+1,vB1,vB2=>
  if vB2 < (p1.Lines.length:Int) then
   (getI p1.Lines vB2).bind fun x30=>
   (Z7s N kZ7r p1 n) (IntKind.i64.wrap (vB1+(x30.length:Int))) (IntKind.i64.wrap (vB2+1))
  else
   kZ7r vB1
def Z7r (vA1:Int):Option Int:=
 some vA1
def Z7q (N:Nat) (p1:api_Prog):Option Int:=
 (Z7s N Z7r p1) N 0 0
def Z7l (p4:Int) (vA2:Int) (xe127:(api_Cell×Int)):Option (Int ⊕ Int):=
 if vA2=p4 then
  some (.inr xe127.2)
 else
  some (.inl (IntKind.i64.wrap (vA2+1)))
def Z7k (N:Nat) (p1:api_Prog) (p4:Int):Option Int:=
 (Z7t N p1).bind fun r33=>
 (Z7u N (yy (fun (s:Int) (x:(api_Cell×Int))=>(Z7l p4) s x)) (.inl 0) r33).bind fun q67=>
 match q67 with
  | .inl vA2=>
   some (-1)
  | .inr vA4=>
   some vA4
def Z7o (N:Nat) (kZ7n:(List Str)→Option (List Str)) (p1:api_Prog):Nat→(List Str)→Int→Option (List Str)
 | 0,_,_=>none
 | n+1,vB1,vB7=>
  if vB7 < (p1.Locks.length:Int) then
   (getI p1.Locks vB7).bind fun x30=>
   (Ct 16 vB1 ([x30.Name]:List Str)).bind fun l39=>
   (Z7o N kZ7n p1 n) l39 (IntKind.i64.wrap (vB7+1))
  else
   kZ7n vB1
def Z7n (vA1:(List Str)):Option (List Str):=
 some vA1
def Z7m (N:Nat) (p1:api_Prog):Option (List Str):=
 (Z7o N Z7n p1) N [] 0
def Z7j (N:Nat) (vA2:(List Int)) (xe124:(api_Cell×Int)):Option ((List Int) ⊕ Empty):=
 (Ct 8 vA2 ([xe124.1.N]:List Int)).bind fun l131=>
 some (.inl l131)
def Z7i (N:Nat) (p1:api_Prog):Option (List Int):=
 (Z7t N p1).bind fun r30=>
 (Z7u N (yy (fun (s:(List Int)) (x:(api_Cell×Int))=>(Z7j N) s x)) (.inl []) r30).bind fun q64=>
 match q64 with
  | .inl vA2=>
   some vA2
  | .inr t=>nomatch t
def Z64 (N:Nat) (kZ63:Option Bool) (p1:(List Int)) (p6:(List Int)):Nat→Int→Option Bool
 | 0,_=>none
 | n+1,vB1=>
  if vB1 < (p1.length:Int) then
   (getI p1 vB1).bind fun x13=>
   (getI p6 vB1).bind fun x18=>
   if x13≠x18 then
    some false
   else
    (Z64 N kZ63 p1 p6 n) (IntKind.i64.wrap (vB1+1))
  else
   kZ63
def Z63  : Option Bool:=
 some true
def Z62 (N:Nat) (p1:(List Int)) (p6:(List Int)):Option Bool:=
 if (p1.length:Int)≠(p6.length:Int) then
  some false
 else
  (Z64 N Z63 p1 p6) N 0
def Zb0 (N:Nat) (kZaz:Option Int) (p1:(List Str)) (p6:Str):Nat→Int→Option Int
 | 0,_=>none
 | n+1,vB1=>
  if vB1 < (p1.length:Int) then
   (getI p1 vB1).bind fun xz8=>
   if p6=xz8 then
    some vB1
   else
    (Zb0 N kZaz p1 p6 n) (IntKind.i64.wrap (vB1+1))
  else
   kZaz
def Zaz  : Option Int:=
 some (-1)
def Zay (N:Nat) (p1:(List Str)) (p6:Str):Option Int:=
 (Zb0 N Zaz p1 p6) N 0
def Z7p (N:Nat) (p1:(List Str)) (p6:Str):Option Int:=
 (Zay N p1 p6).bind fun rz7=>
 some rz7
def Z13 (N:Nat)  : Option Bool:=
 (Z14 N [108,105,110,101,32,97,32,61,32,49,44,32,98,59,32,108,105,110,101,32,99,59,32,118,111,108,32,120,32,61,32,55,59,32,108,111,99,107,32,109,59,32,116,104,114,101,97,100,32,116,32,123,32,114,101,103,32,114,59,32,108,111,97,100,32,114,32,61,32,120,59,32,102,108,117,115,104,32,99,59,32,116,97,107,101,32,109,59,32,125,32,97,108,119,97,121,115,32,97,32,61,61,32,98,59]).bind fun rz1=>
 (Z76 N rz1).bind fun r34=>
 (Z14 N [108,105,110,101,32,97,59,32,116,104,114,101,97,100,32,116,32,123,32,102,108,117,115,104,32,97,59,32,115,116,111,114,101,32,98,32,61,32,49,59,32,125]).bind fun r36=>
 (Z76 N r36).bind fun r68=>
 (Z14 N [108,105,110,101,32,97,59,32,118,111,108,32,97,59,32,116,104,114,101,97,100,32,116,32,123,32,125]).bind fun r70=>
 (Z76 N r70).bind fun r102=>
 (Z14 N [108,105,110,101,32,97,59,32,116,104,114,101,97,100,32,116,32,123,32,114,101,103,32,97,59,32,125]).bind fun r104=>
 (Z76 N r104).bind fun r136=>
 (Z14 N [108,105,110,101,32,97,59]).bind fun r138=>
 (Z76 N r138).bind fun r170=>
 (Z14 N [118,111,108,32,120,59,32,116,104,114,101,97,100,32,116,32,123,32,111,112,116,32,120,59,32,125]).bind fun r172=>
 (Z76 N r172).bind fun r204=>
 (Z14 N [118,111,108,32,120,59,32,116,104,114,101,97,100,32,116,32,123,32,125,32,97,108,119,97,121,115,32,120,59]).bind fun r206=>
 (Z76 N r206).bind fun r238=>
 (Z76 N (api_Prog.mk [] [] ([(api_Cell.mk [] 0 0)]:List api_Cell) [] [] [])).bind fun r247=>
 (Ka (((((((((((((decide (r34.1=0)) && (decide (r68.1=9))) && (decide (r68.2=28))) && (decide (r102.1=10))) && (decide (r102.2=12))) && (decide (r136.1=10))) && (decide (r136.2=15))) && (decide (r170.1=2))) && (decide (r204.1=9))) && (decide (r204.2=18))) && (decide (r238.1=9))) && (decide (r238.2=27))) && (decide (r247.1=8)))).bind fun _=>
 (Z74 N rz1).bind fun r250=>
 (Z6d N r250 ([[97],[98],[99],[120]]:List Str)).bind fun r260=>
 (Ka r260).bind fun _=>
 (Z7q N rz1).bind fun r263=>
 (Ka (decide (r263=3))).bind fun _=>
 (Z7k N rz1 1).bind fun r266=>
 (Ka (decide (r266=0))).bind fun _=>
 (Z7k N rz1 2).bind fun r269=>
 (Ka (decide (r269=1))).bind fun _=>
 (Z7k N rz1 3).bind fun r272=>
 (Ka (decide (r272=2))).bind fun _=>
 (Z7k N rz1 4).bind fun r275=>
 (Ka (decide (r275=(-1)))).bind fun _=>
 (Z7m N rz1).bind fun r278=>
 (Z6d N r278 ([[109]]:List Str)).bind fun r288=>
 (Ka r288).bind fun _=>
 (Z7i N rz1).bind fun r291=>
 (Z62 N r291 ([1,0,0,7]:List Int)).bind fun r301=>
 (Ka r301).bind fun _=>
 (Z74 N rz1).bind fun r304=>
 (Z7p N r304 [99]).bind fun r311=>
 (Ka (decide (r311=2))).bind fun _=>
 (Z7p N ([]:(List Str)) [99]).bind fun r314=>
 some (decide (r314=(-1)))
def Z12 (N:Nat) (p1:api_Prog):Option Bool:=
 (Zm N p1).bind fun r29=>
 (Z76 N r29).bind fun r61=>
 (Z5o N r29).bind fun r63=>
 if ((decide (r61.1=r63.1)) && (decide (r61.2=r63.2)))=true then
  (Z13 N).bind fun r66=>
  some r66
 else
  some false
end Go.MD.LB
