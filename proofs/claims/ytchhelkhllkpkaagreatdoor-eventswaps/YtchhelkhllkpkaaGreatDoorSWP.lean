/- Plain functions, lifted by program from the seat swaps. No condition: definitions. -/
import Derived.Test.YtchhelkhllkpkaaGreatDoorLLa
import Derived.Test.YtchhelkhllkpkaaGreatDoorLM
import Derived.Test.YtchhelkhllkpkaaGreatDoorProg
import Derived.KernelRfl
import Derived.Laws.StructEq
import Derived.Lib.Builder
import Derived.Lib.AppendStr
import Derived.Lib.UnsafeStr
import Derived.WalkKit
import Derived.Laws.Externs
namespace Go.MD.SWAPS
end Go.MD.SWAPS
namespace Go
abbrev kxa:=@Option.bind_some
abbrev kxb:=@Nat.le_refl
abbrev kxc:=@Bool.and_eq_true
abbrev kxd:=@Nat.lt_succ_self
abbrev kxe:=@List.drop_eq_getElem_cons
abbrev kxf:=@List.drop_zero
abbrev kxg:=@List.mem_cons
abbrev kxh:=@List.drop_of_length_le
abbrev kxi:=@List.mem_append
abbrev kxj:=@List.getElem_mem
abbrev kxk:=@List.length_append
abbrev kxl:=@List.nil_append
abbrev kxm:=@List.length_singleton
abbrev kxn:=@List.getElem?_eq_some_iff
abbrev kxo:=@List.mem_singleton
abbrev kxp:=@List.all_eq_true
abbrev kxq:=@List.getElem?_eq_getElem
abbrev kxr:=@List.length_set
abbrev kxs:=@Nat.zero_add
abbrev kxt:=@Nat.zero_le
abbrev kxu:=@List.not_mem_nil
abbrev kxv:=@List.all_cons
abbrev kxw:=@List.append_assoc
abbrev kxx:=@List.length_map
abbrev kxy:=@List.pairwise_cons
abbrev kxz:=@List.length_cons
abbrev kya:=@Int.toNat_natCast
abbrev kyb:=@Bool.or_eq_true
abbrev kyc:=@Bool.not_eq_true'
abbrev kyd:=@Int.not_lt
abbrev kye:=@Classical.choose_spec
abbrev kyf:=@Bool.true_and
abbrev kyg:=@List.length_take
abbrev kyh:=@Option.some.inj
abbrev kyi:=@List.take_succ_eq_append_getElem
abbrev kyj:=@Nat.le_succ
abbrev kyk:=@List.mem_of_getElem?
abbrev kyl:=@Bool.not_true
abbrev kym:=@Bool.or_eq_false_iff
abbrev kyn:=@List.mem_append_left
abbrev kyo:=@List.findSome?_cons
abbrev kyp:=@List.map_append
abbrev kyq:=@List.mem_map
abbrev kyr:=@List.drop_drop
abbrev kys:=@List.take_append_drop
abbrev kyt:=@List.map_cons
abbrev kyu:=@List.pairwise_append
abbrev kyv:=@List.ext_getElem
abbrev kyw:=@List.set_comm
abbrev kyx:=@Nat.mul_le_mul_right
abbrev kyy:=@Bool.and_true
abbrev kyz:=@Nat.eq_zero_or_pos
abbrev kza:=@List.eq_nil_of_length_eq_zero
abbrev kzb:=@List.length_nil
abbrev kzc:=@Classical.not_not
abbrev kzd:=@List.mem_append_right
abbrev kze:=@List.append_nil
abbrev kzf:=@Option.or_eq_none_iff
abbrev kzg:=@List.getElem?_map
abbrev kzh:=@List.getElem_set
abbrev kzi:=@Bool.eq_iff_iff
abbrev kzj:=@List.range_eq_range'
abbrev kzk:=@Bool.false_or
abbrev kzl:=@List.mem_range
abbrev kzm:=@Bool.not_false
abbrev kzn:=@List.drop_left
abbrev kzo:=@List.length_drop
abbrev kzp:=@List.take_of_length_le
abbrev kzq:=@List.flatten_cons
abbrev kzr:=@Option.getD_some
abbrev kzs:=@List.getElem?_set_ne
abbrev kzt:=@List.map_set
abbrev kzu:=@List.length_replicate
abbrev kzv:=@Nat.not_lt_zero
abbrev kzw:=@List.range'_succ
abbrev kzx:=@List.cons_append
abbrev kzy:=@List.getElem?_append_left
abbrev kzz:=@List.any_eq_false
abbrev kwa:=@List.mem_filter
abbrev kwb:=@Nat.le_trans
abbrev kwc:=@Int.toNat_zero
abbrev kwd:=@List.getD_eq_getElem?_getD
abbrev kwe:=@Bool.and_false
abbrev kwf:=@Nat.min_eq_left
abbrev kwg:=@Nat.add_zero
abbrev kwh:=@List.length_eq_zero_iff
abbrev kwi:=@Bool.and_eq_false_iff
abbrev kwj:=@List.findSome?_append
abbrev kwk:=@List.getElem?_append_right
abbrev kwl:=@List.pairwise_singleton
abbrev kwm:=@List.length_filter_le
abbrev kwn:=@List.getElem_cons_drop
abbrev kwo:=@List.set_eq_take_append_cons_drop
abbrev kwp:=@Bool.not_eq_true
abbrev kwq:=@Nat.lt_succ_iff_lt_or_eq
abbrev kwr:=@List.take_length
end Go
namespace Go.MD.SWAPS
open Go Go.MD
open Go.IntKind (i64)
structure api_Cell where
 Name:Str
 N:Int
 At:Int
 deriving DecidableEq
structure api_Node where
 Op:Int
 N:Int
 Name:Str
 At:Int
 deriving DecidableEq
structure api_Stmt where
 Kind:Int
 Reg:Str
 Name:Str
 E:(List api_Node)
 F:(List api_Node)
 N:Int
 Body:Int
 Else:Int
 At:Int
 deriving DecidableEq
structure api_Thread where
 Name:Str
 Regs:(List Str)
 Body:(List api_Stmt)
 At:Int
 deriving DecidableEq
structure api_Claim where
 E:(List api_Node)
 At:Int
 deriving DecidableEq
structure api_Prog where
 Lines:(List (List api_Cell))
 Vols:(List api_Cell)
 Locks:(List api_Cell)
 Threads:(List api_Thread)
 Recover:(List api_Thread)
 Claims:(List api_Claim)
 deriving DecidableEq
structure api_Op where
 Kind:Int
 N:Int
 deriving DecidableEq
structure api_Instr where
 Kind:Int
 A:Int
 B:Int
 E:(List api_Op)
 F:(List api_Op)
 To:Int
 deriving DecidableEq
structure api_Code where
 Regs:Int
 Counts:Int
 L:(List api_Instr)
 deriving DecidableEq
structure api_Unit where
 Lines:(List Int)
 Stays:Int
 Firsts:(List Int)
 Locks:Int
 Threads:(List api_Code)
 Recover:api_Code
 Claims:(List (List api_Op))
 deriving DecidableEq
structure leadlineref09_Env where
 P:api_Prog
 Regs:(List Str)
 deriving DecidableEq
structure api_Event where
 Kind:Int
 T:Int
 A:Int
 N:Int
 M:Int
 deriving DecidableEq
structure api_Use where
 What:Int
 N:Int
 Write:Bool
 deriving DecidableEq
structure event_kind where
 name:Str
 a:Bool
 n:Bool
 m:Bool
 deriving DecidableEq
structure S_is_n where
 is':Bool
 n:Int
 deriving DecidableEq
structure api_Pick where
 Kind:Int
 T:Int
 I:Int
 Cut:(List Int)
 deriving DecidableEq
structure leadlineref11_Put where
 Line:Int
 Cell:Int
 N:Int
 deriving DecidableEq
structure leadlineref11_Mem where
 Of:(List Int)
 Firsts:(List Int)
 L:(List Int)
 K:(List Int)
 W:(List leadlineref11_Put)
 deriving DecidableEq
structure api_Entry where
 Kind:Int
 Line:Int
 Cell:Int
 N:Int
 deriving DecidableEq
structure leadlineref12_Buffer where
 Room:Int
 L:(List api_Entry)
 deriving DecidableEq
structure leadlineref13_Thread where
 C:api_Code
 At:Int
 Regs:(List Int)
 Counts:(List Int)
 B:(Option Addr)
 Fault:Int
 deriving DecidableEq
def Z10 (N:Nat) (kZz:(List api_Cell)→Option (List api_Cell)) (p1:List api_Cell):Nat→(List api_Cell)→Int→Option (List api_Cell)
 | 0,_,_=>none
 | n+1,B1,B7=>
  if ((decide (B7 < (p1.length:Int))) && (decide (B7 < 8)))=true then
   (getI p1 B7).bind fun x10=>
   (Dj x10.Name 0 (min (x10.Name.length:Int) 40)).bind fun s16=>
   (Cj 32 B1 ([(api_Cell.mk s16 x10.N x10.At)]:List api_Cell)).bind fun l21=>
   (Z10 N kZz p1 n) l21 (i64.wrap (B7+1))
  else
   kZz B1
def Zz (A1:List api_Cell):Option (List api_Cell):=
 some A1
def Zy (N:Nat) (p1:List api_Cell):Option (List api_Cell):=
 (Z10 N Zz p1) N [] 0
def Zo (N:Nat) (kZn:(List api_Node)→Option (List api_Node)) (p1:List api_Node):Nat→(List api_Node)→Int→Option (List api_Node)
 | 0,_,_=>none
 | n+1,B1,B7=>
  if ((decide (B7 < (p1.length:Int))) && (decide (B7 < 60)))=true then
   (getI p1 B7).bind fun x10=>
   (Dj x10.Name 0 (min (x10.Name.length:Int) 40)).bind fun s16=>
   (Cj 40 B1 ([(api_Node.mk x10.Op x10.N s16 x10.At)]:List api_Node)).bind fun l21=>
   (Zo N kZn p1 n) l21 (i64.wrap (B7+1))
  else
   kZn B1
def Zn (A1:List api_Node):Option (List api_Node):=
 some A1
def Zm (N:Nat) (p1:List api_Node):Option (List api_Node):=
 (Zo N Zn p1) N [] 0
def Zr (N:Nat) (kZq:(List api_Stmt)→Option (List api_Stmt)) (p1:List api_Stmt):Nat→(List api_Stmt)→Int→Option (List api_Stmt)
 | 0,_,_=>none
 | n+1,B2,B8=>
  if ((decide (B8 < (p1.length:Int))) && (decide (B8 < 50)))=true then
   (getI p1 B8).bind fun x10=>
   (Dj x10.Reg 0 (min (x10.Reg.length:Int) 40)).bind fun s24=>
   (Dj x10.Name 0 (min (x10.Name.length:Int) 40)).bind fun s26=>
   (Zm N x10.E).bind fun r28=>
   (Zm N x10.F).bind fun r35=>
   (Cj 120 B2 ([(api_Stmt.mk x10.Kind s24 s26 r28 r35 x10.N x10.Body x10.Else x10.At)]:List api_Stmt)).bind fun l53=>
   (Zr N kZq p1 n) l53 (i64.wrap (B8+1))
  else
   kZq B2
def Zq (A2:List api_Stmt):Option (List api_Stmt):=
 some A2
def Zp (N:Nat) (p1:List api_Stmt):Option (List api_Stmt):=
 (Zr N Zq p1) N [] 0
def Z17 (N:Nat) (kZ15:(List Str)→Option (List api_Thread)) (p1:List api_Thread) (B8:Int):Nat→(List Str)→Int→Option (List api_Thread)
 | 0,_,_=>none
 | n+1,vE1,vE7=>
  (getI p1 B8).bind fun x36=>
  if ((decide (vE7 < (x36.Regs.length:Int))) && (decide (vE7 < 6)))=true then
   (getI x36.Regs vE7).bind fun x50=>
   (Dj x50 0 (min (x50.length:Int) 40)).bind fun s55=>
   (Cj 16 vE1 ([s55]:List Str)).bind fun l60=>
   (Z17 N kZ15 p1 B8 n) l60 (i64.wrap (vE7+1))
  else
   kZ15 vE1
def Z15 (kZ13:(List api_Thread)→Option (List api_Thread)) (D3:Str) (D4:List api_Stmt) (D9:Int) (B2:List api_Thread) (D10:List Str):Option (List api_Thread):=
 (Cj 72 B2 ([(api_Thread.mk D3 D10 D4 D9)]:List api_Thread)).bind fun l73=>
 kZ13 l73
def Z14 (N:Nat) (kZ13:(List api_Thread)→Option (List api_Thread)) (p1:List api_Thread) (B2:List api_Thread) (B8:Int) (D3:Str) (D4:List api_Stmt) (D9:Int):Option (List api_Thread):=
 (Z17 N (Z15 kZ13 D3 D4 D9 B2) p1 B8) N [] 0
def Z13 (kZ16:(List api_Thread)→Int→Option (List api_Thread)) (B8:Int) (C2:List api_Thread):Option (List api_Thread):=
 kZ16 C2 (i64.wrap (B8+1))
def Z16 (N:Nat) (kZ12:(List api_Thread)→Option (List api_Thread)) (p1:List api_Thread):Nat→(List api_Thread)→Int→Option (List api_Thread)
 | 0,_,_=>none
 | n+1,B2,B8=>
  if ((decide (B8 < (p1.length:Int))) && (decide (B8 < 4)))=true then
   (getI p1 B8).bind fun x10=>
   (Dj x10.Name 0 (min (x10.Name.length:Int) 40)).bind fun s23=>
   (Zp N x10.Body).bind fun r25=>
   (Z14 N (Z13 (Z16 N kZ12 p1 n) B8) p1 B2 B8) s23 r25 x10.At
  else
   kZ12 B2
def Z12 (A2:List api_Thread):Option (List api_Thread):=
 some A2
def Z11 (N:Nat) (p1:List api_Thread):Option (List api_Thread):=
 (Z16 N Z12 p1) N [] 0
def Zw (N:Nat) (kZu:(List (List api_Cell))→Option api_Prog) (p1:api_Prog):Nat→(List (List api_Cell))→Int→Option api_Prog
 | 0,_,_=>none
 | n+1,B2,B8=>
  if ((decide (B8 < (p1.Lines.length:Int))) && (decide (B8 < 6)))=true then
   (getI p1.Lines B8).bind fun x66=>
   (Zy N x66).bind fun r75=>
   (Cj 24 B2 ([r75]:List (List api_Cell))).bind fun l89=>
   (Zw N kZu p1 n) l89 (i64.wrap (B8+1))
  else
   kZu B2
def Zx (N:Nat) (kZv:(List api_Claim)→Option api_Prog) (p1:api_Prog):Nat→(List api_Claim)→Int→Option api_Prog
 | 0,_,_=>none
 | n+1,B10,B16=>
  if ((decide (B16 < (p1.Claims.length:Int))) && (decide (B16 < 6)))=true then
   (getI p1.Claims B16).bind fun x96=>
   (Zm N x96.E).bind fun r105=>
   (Cj 32 B10 ([(api_Claim.mk r105 x96.At)]:List api_Claim)).bind fun l119=>
   (Zx N kZv p1 n) l119 (i64.wrap (B16+1))
  else
   kZv B10
def Zv (A3:List api_Cell) (A9:List api_Cell) (A15:List api_Thread) (A20:List api_Thread) (A26:List (List api_Cell)) (A33:List api_Claim):Option api_Prog:=
 some (api_Prog.mk A26 A3 A9 A15 A20 A33)
def Zu (N:Nat) (p1:api_Prog) (A3:List api_Cell) (A9:List api_Cell) (A15:List api_Thread) (A20:List api_Thread) (A26:List (List api_Cell)):Option api_Prog:=
 (Zx N (Zv A3 A9 A15 A20 A26) p1) N [] 0
def Zt (N:Nat) (p1:api_Prog) (A3:List api_Cell) (A9:List api_Cell) (A15:List api_Thread) (A20:List api_Thread):Option api_Prog:=
 (Zw N (Zu N p1 A3 A9 A15 A20) p1) N [] 0
def Zs (N:Nat) (p1:api_Prog):Option api_Prog:=
 (Zy N p1.Vols).bind fun r30=>
 (Zy N p1.Locks).bind fun r37=>
 (Z11 N p1.Threads).bind fun r44=>
 (Z11 N p1.Recover).bind fun r54=>
 (Zt N p1) r30 r37 r44 r54
def Z1m (N:Nat) (p1:Int):Option Bool:=
 some (((decide (97≤p1)) && (decide (p1≤122))) || (decide (p1=95)))
def Z1f (N:Nat) (kZ1e:Option Bool) (p1:Str):Nat→Int→Option Bool
 | 0,_=>none
 | n+1,B1=>
  if B1 < (([[108,105,110,101],[118,111,108],[108,111,99,107],[116,104,114,101,97,100],[114,101,103],[108,111,97,100],[115,116,111,114,101],[99,97,115],[102,108,117,115,104],[111,112,116],[115,102,101,110,99,101],[109,102,101,110,99,101],[116,97,107,101],[103,105,118,101],[105,102],[101,108,115,101],[108,111,111,112],[98,114,101,97,107],[99,104,101,99,107],[114,101,99,111,118,101,114],[97,108,119,97,121,115]]:List Str).length:Int) then
   (getI ([[108,105,110,101],[118,111,108],[108,111,99,107],[116,104,114,101,97,100],[114,101,103],[108,111,97,100],[115,116,111,114,101],[99,97,115],[102,108,117,115,104],[111,112,116],[115,102,101,110,99,101],[109,102,101,110,99,101],[116,97,107,101],[103,105,118,101],[105,102],[101,108,115,101],[108,111,111,112],[98,114,101,97,107],[99,104,101,99,107],[114,101,99,111,118,101,114],[97,108,119,97,121,115]]:List Str) B1).bind fun xz6=>
   if xz6=p1 then
    some true
   else
    (Z1f N kZ1e p1 n) (i64.wrap (B1+1))
  else
   kZ1e
def Z1e  : Option Bool:=
 some false
def Z1d (N:Nat) (p1:Str):Option Bool:=
 (Z1f N Z1e p1) N 0
def Z1l (N:Nat) (p1:Int):Option Bool:=
 some ((decide (48≤p1)) && (decide (p1≤57)))
def Z1j (kZ1k:Int→Option Bool) (B1:Int) (C1:Bool):Option Bool:=
 if C1=true then
  some false
 else
  kZ1k (i64.wrap (B1+1))
def Z1k (N:Nat) (kZ1i:Option Bool) (p1:Str):Nat→Int→Option Bool
 | 0,_=>none
 | n+1,B1=>
  if B1 < (p1.length:Int) then
   (Pn p1 B1).bind fun x12=>
   (Z1m N x12).bind fun r14=>
   if r14=true then
    (Z1j (Z1k N kZ1i p1 n) B1) false
   else
    (Pn p1 B1).bind fun x17=>
    (Z1l N x17).bind fun r19=>
    (Z1j (Z1k N kZ1i p1 n) B1) (!r19)
  else
   kZ1i
def Z1i  : Option Bool:=
 some true
def Z1h (N:Nat) (p1:Str) (A1:Bool):Option Bool:=
 if A1=true then
  some false
 else
  (Z1k N Z1i p1) N 0
def Z1g (N:Nat) (p1:Str):Option Bool:=
 if ((decide ((p1.length:Int) < 1)) || (decide (16 < (p1.length:Int))))=true then
  (Z1h N p1) true
 else
  (Pn p1 0).bind fun xz3=>
  (Z1m N xz3).bind fun rz5=>
  if rz5=true then
   (Z1d N p1).bind fun rz8=>
   (Z1h N p1) rz8
  else
   (Z1h N p1) true
def Z2q (N:Nat) (p1:Int):Option Bool:=
 some ((decide (0≤p1)) && (decide (p1≤4000)))
def Z2o (kZ2p:Int→Option Bool) (B1:Int) (C1:Bool):Option Bool:=
 if C1=true then
  some false
 else
  kZ2p (i64.wrap (B1+1))
def Z2p (N:Nat) (kZ2n:Option Bool) (p1:List api_Cell) (p6:Int):Nat→Int→Option Bool
 | 0,_=>none
 | n+1,B1=>
  if B1 < (p1.length:Int) then
   (getI p1 B1).bind fun xz8=>
   (Z1g N xz8.Name).bind fun r13=>
   if (((!r13) || (decide (xz8.N < 0))) || (decide (p6 < xz8.N)))=true then
    (Z2o (Z2p N kZ2n p1 p6 n) B1) true
   else
    (Z2q N xz8.At).bind fun r16=>
    (Z2o (Z2p N kZ2n p1 p6 n) B1) (!r16)
  else
   kZ2n
def Z2n  : Option Bool:=
 some true
def Z2m (N:Nat) (p1:List api_Cell) (p6:Int):Option Bool:=
 (Z2p N Z2n p1 p6) N 0
def Z1r (N:Nat) (p1:Int):Option Int:=
 if ((decide (p1=1)) || (decide (p1=2)))=true then
  some 0
 else
  if ((decide (p1=3)) || (decide (p1=4)))=true then
   some 1
  else
   if ((decide (5≤p1)) && (decide (p1≤15)))=true then
    some 2
   else
    some (-1)
def Z1q (rf:(List api_Node)→Int→Option Int) (N:Nat) (kZ1p:Int→Option Int) (p1:List api_Node) (p6:Int):Nat→Int→Int→Option Int
 | 0,_,_=>none
 | n+1,B1,B2=>
  (getI p1 p6).bind fun x16=>
  (Z1r N x16.Op).bind fun r21=>
  if ((decide (B2 < r21)) && (decide (0≤B1)))=true then
   (rf p1 B1).bind fun r24=>
   (Z1q rf N kZ1p p1 p6 n) r24 (i64.wrap (B2+1))
  else
   kZ1p B1
def Z1p (A2:Int):Option Int:=
 some A2
def Z1o (rf:(List api_Node)→Int→Option Int) (N:Nat) (p1:List api_Node) (p6:Int) (A1:Bool):Option Int:=
 if A1=true then
  some (-1)
 else
  (Z1q rf N Z1p p1 p6) N (i64.wrap (p6+1)) 0
def Z1n:Nat→(List api_Node)→Int→Option Int
 | 0,_,_=>none
 | N+1,p1,p6=>
  if ((decide (p6 < 0)) || (decide ((p1.length:Int)≤p6)))=true then
   (Z1o (Z1n N) N p1 p6) true
  else
   (getI p1 p6).bind fun xz8=>
   (Z1r N xz8.Op).bind fun r13=>
   (Z1o (Z1n N) N p1 p6) (decide (r13 < 0))
def Z1z (rf:(List api_Node)→Int→Option Int) (N:Nat) (kZ1y:Int→Option Int) (p1:List api_Node) (p6:Int):Nat→Int→Int→Int→Option Int
 | 0,_,_,_=>none
 | n+1,B1,B2,B3=>
  (getI p1 p6).bind fun xz7=>
  (Z1r N xz7.Op).bind fun r12=>
  if B3 < r12 then
   (rf p1 B2).bind fun r15=>
   (Z1n N p1 B2).bind fun r17=>
   (Z1z rf N kZ1y p1 p6 n) (max B1 r15) r17 (i64.wrap (B3+1))
  else
   kZ1y B1
def Z1y (A1:Int):Option Int:=
 some (i64.wrap (A1+1))
def Z1x:Nat→(List api_Node)→Int→Option Int
 | 0,_,_=>none
 | N+1,p1,p6=>
  (Z1z (Z1x N) N Z1y p1 p6) N 0 (i64.wrap (p6+1)) 0
def Z1v (kZ1w:Int→Option Bool) (B1:Int) (C1:Bool):Option Bool:=
 if C1=true then
  some false
 else
  kZ1w (i64.wrap (B1+1))
def Z1w (N:Nat) (kZ1u:Option Bool) (p1:List api_Node):Nat→Int→Option Bool
 | 0,_=>none
 | n+1,B1=>
  if B1 < (p1.length:Int) then
   (getI p1 B1).bind fun x11=>
   if ((((((decide (x11.At < 0)) || (decide (4000 < x11.At))) || ((decide (x11.Op≠1)) && (decide (x11.N≠0)))) || ((decide (x11.Op≠2)) && (decide (x11.Name≠[])))) || (decide (x11.N < 0))) || (decide (4294967296 < x11.N)))=true then
    (Z1v (Z1w N kZ1u p1 n) B1) true
   else
    if x11.Op=2 then
     (Z1g N x11.Name).bind fun r19=>
     (Z1v (Z1w N kZ1u p1 n) B1) (!r19)
    else
     (Z1v (Z1w N kZ1u p1 n) B1) false
  else
   kZ1u
def Z1u (N:Nat) (p1:List api_Node):Option Bool:=
 (Z1x N p1 0).bind fun r22=>
 some (decide (r22≤12))
def Z1t (N:Nat) (p1:List api_Node) (A1:Bool):Option Bool:=
 if A1=true then
  some false
 else
  (Z1w N (Z1u N p1) p1) N 0
def Z1s (N:Nat) (p1:List api_Node):Option Bool:=
 if 40 < (p1.length:Int) then
  (Z1t N p1) true
 else
  (Z1n N p1 0).bind fun rz7=>
  (Z1t N p1) (decide (rz7≠(p1.length:Int)))
def Z20 (N:Nat) (p1:Int):Option Str:=
 if ((decide (p1 < 1)) || (decide (14 < p1)))=true then
  some []
 else
  (getI ([[],[114,101],[114,110],[110,101],[114,110,101,102],[110],[110],[],[],[110],[110],[101,98],[107,98],[],[101]]:List Str) p1).bind fun xz6=>
  some xz6
def Z26 (N:Nat) (kZ25:Option Bool) (p1:Str) (p2:Int):Nat→Int→Option Bool
 | 0,_=>none
 | n+1,B1=>
  if B1 < (p1.length:Int) then
   (Pn p1 B1).bind fun xz4=>
   if xz4=p2 then
    some true
   else
    (Z26 N kZ25 p1 p2 n) (i64.wrap (B1+1))
  else
   kZ25
def Z25  : Option Bool:=
 some false
def Z24 (N:Nat) (p1:Str) (p2:Int):Option Bool:=
 (Z26 N Z25 p1 p2) N 0
def Z2e (N:Nat) (p1:api_Stmt) (r14:Str) (A2:Bool):Option Bool:=
 if A2=true then
  some false
 else
  (Z24 N r14 107).bind fun r36=>
  if r36=true then
   some ((decide (1≤p1.N)) && (decide (p1.N≤8)))
  else
   some (decide (p1.N=0))
def Z2d (N:Nat) (p1:api_Stmt) (r14:Str) (r20:Bool) (r22:Bool) (A1:Bool):Option Bool:=
 if A1=true then
  some false
 else
  (Z1s N p1.E).bind fun r30=>
  if ((r20 != r30) || ((!r20) && (decide (0 < (p1.E.length:Int)))))=true then
   (Z2e N p1 r14) true
  else
   (Z1s N p1.F).bind fun r33=>
   (Z2e N p1 r14) ((r22 != r33) || ((!r22) && (decide (0 < (p1.F.length:Int)))))
def Z2c (N:Nat) (p1:api_Stmt):Option Bool:=
 if ((((decide (p1.Kind < 1)) || (decide (14 < p1.Kind))) || (decide (p1.At < 0))) || (decide (4000 < p1.At)))=true then
  some false
 else
  (Z20 N p1.Kind).bind fun r14=>
  (Z24 N r14 114).bind fun r16=>
  (Z24 N r14 110).bind fun r18=>
  (Z24 N r14 101).bind fun r20=>
  (Z24 N r14 102).bind fun r22=>
  (Z1g N p1.Reg).bind fun r24=>
  if ((r16 != r24) || ((!r16) && (decide (p1.Reg≠[]))))=true then
   (Z2d N p1 r14 r20 r22) true
  else
   (Z1g N p1.Name).bind fun r27=>
   (Z2d N p1 r14 r20 r22) ((r18 != r27) || ((!r18) && (decide (p1.Name≠[]))))
def Z2a (kZ2b:Int→Int→Option Int) (xz8:api_Stmt) (B2:Int) (C2:Int):Option Int:=
 kZ2b C2 (i64.wrap ((i64.wrap ((i64.wrap (B2+1))+xz8.Body))+xz8.Else))
def Z29 (rf:(List api_Stmt)→Int→Option Int) (kZ2b:Int→Int→Option Int) (p1:List api_Stmt) (xz8:api_Stmt) (B1:Int) (B2:Int) (C1:Int):Option Int:=
 if ((decide (xz8.Kind=11)) || (decide (xz8.Kind=12)))=true then
  (Dj p1 (i64.wrap (B2+1)) (i64.wrap ((i64.wrap (B2+1))+xz8.Body))).bind fun l26=>
  (rf l26 C1).bind fun r34=>
  (Dj p1 (i64.wrap ((i64.wrap (B2+1))+xz8.Body)) (i64.wrap ((i64.wrap ((i64.wrap (B2+1))+xz8.Body))+xz8.Else))).bind fun l36=>
  (rf l36 C1).bind fun r44=>
  if ((decide (r34 < 0)) || (decide (r44 < 0)))=true then
   some (-1)
  else
   (Z2a kZ2b xz8 B2) (max (max B1 (i64.wrap (1+r34))) (i64.wrap (1+r44)))
 else
  (Z2a kZ2b xz8 B2) B1
def Z2b (rf:(List api_Stmt)→Int→Option Int) (N:Nat) (kZ28:Int→Option Int) (p1:List api_Stmt) (p6:Int):Nat→Int→Int→Option Int
 | 0,_,_=>none
 | n+1,B1,B2=>
  if B2 < (p1.length:Int) then
   (getI p1 B2).bind fun xz8=>
   if (((((decide (xz8.Body < 0)) || (decide (xz8.Else < 0))) || (decide (40 < xz8.Body))) || (decide (40 < xz8.Else))) || (decide ((p1.length:Int) < (i64.wrap ((i64.wrap ((i64.wrap (B2+1))+xz8.Body))+xz8.Else)))))=true then
    some (-1)
   else
    if (((((decide (0 < xz8.Body)) && (decide (xz8.Kind≠11))) && (decide (xz8.Kind≠12))) || ((decide (0 < xz8.Else)) && (decide (xz8.Kind≠11)))) || ((decide (xz8.Kind=13)) && (decide (p6=0))))=true then
     some (-1)
    else
     if xz8.Kind=12 then
      (Z29 rf (Z2b rf N kZ28 p1 p6 n) p1 xz8 B1 B2) (i64.wrap (p6+1))
     else
      (Z29 rf (Z2b rf N kZ28 p1 p6 n) p1 xz8 B1 B2) p6
  else
   kZ28 B1
def Z28 (A1:Int):Option Int:=
 some A1
def Z27:Nat→(List api_Stmt)→Int→Option Int
 | 0,_,_=>none
 | N+1,p1,p6=>
  (Z2b (Z27 N) N Z28 p1 p6) N 0 0
def Z23 (N:Nat) (kZ22:Option Bool) (p1:List api_Stmt):Nat→Int→Option Bool
 | 0,_=>none
 | n+1,B1=>
  if B1 < (p1.length:Int) then
   (getI p1 B1).bind fun xz8=>
   (Z2c N xz8).bind fun r21=>
   if r21=true then
    (Z23 N kZ22 p1 n) (i64.wrap (B1+1))
   else
    some false
  else
   kZ22
def Z22 (N:Nat) (p1:List api_Stmt):Option Bool:=
 (Z27 N p1 0).bind fun r24=>
 some ((decide (0≤r24)) && (decide (r24≤12)))
def Z21 (N:Nat) (p1:List api_Stmt):Option Bool:=
 if 40 < (p1.length:Int) then
  some false
 else
  (Z23 N (Z22 N p1) p1) N 0
def Z2w (N:Nat) (kZ2t:Option Bool) (p1:List api_Thread) (B1:Int):Nat→Int→Option Bool
 | 0,_=>none
 | n+1,D2=>
  (getI p1 B1).bind fun x30=>
  if D2 < (x30.Regs.length:Int) then
   (getI x30.Regs D2).bind fun x44=>
   (Z1g N x44).bind fun r49=>
   if r49=true then
    (Z2w N kZ2t p1 B1 n) (i64.wrap (D2+1))
   else
    some false
  else
   kZ2t
def Z2u (N:Nat) (kZ2t:Option Bool) (p1:List api_Thread) (B1:Int) (D1:Bool):Option Bool:=
 if D1=true then
  some false
 else
  (Z2w N kZ2t p1 B1) N 0
def Z2t (kZ2v:Int→Option Bool) (B1:Int):Option Bool:=
 kZ2v (i64.wrap (B1+1))
def Z2v (N:Nat) (kZ2s:Option Bool) (p1:List api_Thread) (p6:Bool):Nat→Int→Option Bool
 | 0,_=>none
 | n+1,B1=>
  if B1 < (p1.length:Int) then
   (getI p1 B1).bind fun xz8=>
   (Z1g N xz8.Name).bind fun r21=>
   if ((p6 != r21) || ((!p6) && (decide (xz8.Name≠[]))))=true then
    (Z2u N (Z2t (Z2v N kZ2s p1 p6 n) B1) p1 B1) true
   else
    (Z2q N xz8.At).bind fun r24=>
    if r24=true then
     (Z21 N xz8.Body).bind fun r27=>
     (Z2u N (Z2t (Z2v N kZ2s p1 p6 n) B1) p1 B1) (!r27)
    else
     (Z2u N (Z2t (Z2v N kZ2s p1 p6 n) B1) p1 B1) true
  else
   kZ2s
def Z2s  : Option Bool:=
 some true
def Z2r (N:Nat) (p1:List api_Thread) (p6:Bool):Option Bool:=
 (Z2v N Z2s p1 p6) N 0
def Z2h (kZ2k:Int→Option Bool) (B1:Int) (C1:Bool):Option Bool:=
 if C1=true then
  some false
 else
  kZ2k (i64.wrap (B1+1))
def Z2k (N:Nat) (kZ2g:Option Bool) (p1:api_Prog):Nat→Int→Option Bool
 | 0,_=>none
 | n+1,B1=>
  if B1 < (p1.Lines.length:Int) then
   (getI p1.Lines B1).bind fun x30=>
   if (x30.length:Int)=0 then
    (Z2h (Z2k N kZ2g p1 n) B1) true
   else
    (Z2m N x30 4294967296).bind fun r40=>
    (Z2h (Z2k N kZ2g p1 n) B1) (!r40)
  else
   kZ2g
def Z2j (kZ2l:Int→Option Bool) (B2:Int) (C2:Bool):Option Bool:=
 if C2=true then
  some false
 else
  kZ2l (i64.wrap (B2+1))
def Z2l (N:Nat) (kZ2i:Option Bool) (p1:api_Prog):Nat→Int→Option Bool
 | 0,_=>none
 | n+1,B2=>
  if B2 < (p1.Claims.length:Int) then
   (getI p1.Claims B2).bind fun x44=>
   (Z2q N x44.At).bind fun r53=>
   if r53=true then
    (Z1s N x44.E).bind fun r56=>
    (Z2j (Z2l N kZ2i p1 n) B2) (!r56)
   else
    (Z2j (Z2l N kZ2i p1 n) B2) true
  else
   kZ2i
def Z2i (N:Nat) (p1:api_Prog):Option Bool:=
 (Z2m N p1.Vols 4294967296).bind fun r59=>
 if r59=true then
  (Z2m N p1.Locks 0).bind fun r62=>
  if r62=true then
   (Z2r N p1.Threads true).bind fun r65=>
   if r65=true then
    (Z2r N p1.Recover false).bind fun r68=>
    some (r68 && (decide ((p1.Recover.length:Int)≤1)))
   else
    some false
  else
   some false
 else
  some false
def Z2g (N:Nat) (p1:api_Prog):Option Bool:=
 (Z2l N (Z2i N p1) p1) N 0
def Z2f (N:Nat) (p1:api_Prog):Option Bool:=
 (Z2k N (Z2g N p1) p1) N 0
def Z3x (N:Nat) (p1:api_Prog):Option (List api_Thread):=
 (Cj 72 ([]:List api_Thread) p1.Threads).bind fun l32=>
 (Cj 72 l32 p1.Recover).bind fun l41=>
 some l41
def Z41 (N:Nat) (kZ3z:Option Bool) (p1:api_Prog):Nat→Int→Option Bool
 | 0,_=>none
 | n+1,B1=>
  if B1 < (p1.Lines.length:Int) then
   (getI p1.Lines B1).bind fun x30=>
   if 4 < (x30.length:Int) then
    some true
   else
    (Z41 N kZ3z p1 n) (i64.wrap (B1+1))
  else
   kZ3z
def Z42 (N:Nat) (kZ40:Option Bool) (r40:List api_Thread):Nat→Int→Option Bool
 | 0,_=>none
 | n+1,B2=>
  if B2 < (r40.length:Int) then
   (getI r40 B2).bind fun x51=>
   if 4 < (x51.Regs.length:Int) then
    some true
   else
    (Z42 N kZ40 r40 n) (i64.wrap (B2+1))
  else
   kZ40
def Z40 (p1:api_Prog):Option Bool:=
 some ((((((decide (4 < (p1.Lines.length:Int))) || (decide (4 < (p1.Vols.length:Int)))) || (decide (2 < (p1.Locks.length:Int)))) || (decide ((p1.Threads.length:Int) < 1))) || (decide (3 < (p1.Threads.length:Int)))) || (decide (4 < (p1.Claims.length:Int))))
def Z3z (N:Nat) (p1:api_Prog):Option Bool:=
 (Z3x N p1).bind fun r40=>
 (Z42 N (Z40 p1) r40) N 0
def Z3y (N:Nat) (p1:api_Prog):Option Bool:=
 (Z41 N (Z3z N p1) p1) N 0
def Z4k (rf:(List api_Stmt)→Int→Option Int) (p1:List api_Stmt) (p6:Int) (xz8:api_Stmt) (A1:Int):Option Int:=
 if 64 < A1 then
  some xz8.At
 else
  (Dj p1 1 (i64.wrap ((i64.wrap (1+xz8.Body))+xz8.Else))).bind fun l24=>
  (rf l24 A1).bind fun r32=>
  if 0≤r32 then
   some r32
  else
   (Dj p1 (i64.wrap ((i64.wrap (1+xz8.Body))+xz8.Else)) (p1.length:Int)).bind fun l35=>
   (rf l35 p6).bind fun r43=>
   some r43
def Z4j:Nat→(List api_Stmt)→Int→Option Int
 | 0,_,_=>none
 | N+1,p1,p6=>
  if (p1.length:Int)=0 then
   some (-1)
  else
   (getI p1 0).bind fun xz8=>
   if xz8.Kind=12 then
    (Z4k (Z4j N) p1 p6 xz8) (i64.wrap (p6 * xz8.N))
   else
    (Z4k (Z4j N) p1 p6 xz8) p6
def Z2z (N:Nat) (kZ2y:(List api_Cell)→Option (List api_Cell)) (p1:api_Prog):Nat→(List api_Cell)→Int→Option (List api_Cell)
 | 0,_,_=>none
 | n+1,B1,B7=>
  if B7 < (p1.Lines.length:Int) then
   (getI p1.Lines B7).bind fun x33=>
   (Cj 32 B1 x33).bind fun l42=>
   (Z2z N kZ2y p1 n) l42 (i64.wrap (B7+1))
  else
   kZ2y B1
def Z2y (p1:api_Prog) (A1:List api_Cell):Option (List api_Cell):=
 (Cj 32 A1 p1.Vols).bind fun l51=>
 some l51
def Z2x (N:Nat) (p1:api_Prog):Option (List api_Cell):=
 (Z2z N (Z2y p1) p1) N [] 0
def Z3s (N:Nat) (kZ3r:(List Str)→Option (List Str)) (p1:List api_Cell):Nat→(List Str)→Int→Option (List Str)
 | 0,_,_=>none
 | n+1,B1,B7=>
  if B7 < (p1.length:Int) then
   (getI p1 B7).bind fun x10=>
   (Cj 16 B1 ([x10.Name]:List Str)).bind fun l18=>
   (Z3s N kZ3r p1 n) l18 (i64.wrap (B7+1))
  else
   kZ3r B1
def Z3r (A1:List Str):Option (List Str):=
 some A1
def Z3q (N:Nat) (p1:List api_Cell):Option (List Str):=
 (Z3s N Z3r p1) N [] 0
def Z3v (N:Nat) (kZ3u:Option Int) (p1:List Str) (p6:Str):Nat→Int→Option Int
 | 0,_=>none
 | n+1,B1=>
  if B1 < (p1.length:Int) then
   (getI p1 B1).bind fun xz8=>
   if xz8=p6 then
    some B1
   else
    (Z3v N kZ3u p1 p6 n) (i64.wrap (B1+1))
  else
   kZ3u
def Z3u  : Option Int:=
 some (-1)
def Z3t (N:Nat) (p1:List Str) (p6:Str):Option Int:=
 (Z3v N Z3u p1 p6) N 0
def Z4d (N:Nat) (kZ4b:(List api_Cell)→Option Int) (p1:api_Prog):Nat→(List api_Cell)→Int→Option Int
 | 0,_,_=>none
 | n+1,B1,B7=>
  if B7 < (p1.Threads.length:Int) then
   (getI p1.Threads B7).bind fun x55=>
   (Cj 32 B1 ([(api_Cell.mk x55.Name 0 x55.At)]:List api_Cell)).bind fun l71=>
   (Z4d N kZ4b p1 n) l71 (i64.wrap (B7+1))
  else
   kZ4b B1
def Z4e (N:Nat) (kZ4c:Option Int) (A1:List api_Cell) (r77:List Str):Nat→Int→Option Int
 | 0,_=>none
 | n+1,B8=>
  if B8 < (A1.length:Int) then
   (getI A1 B8).bind fun x85=>
   (Z3t N r77 x85.Name).bind fun r91=>
   if r91 < B8 then
    some x85.At
   else
    (Z4e N kZ4c A1 r77 n) (i64.wrap (B8+1))
  else
   kZ4c
def Z4c  : Option Int:=
 some (-1)
def Z4b (N:Nat) (A1:List api_Cell):Option Int:=
 (Z3q N A1).bind fun r77=>
 (Z4e N Z4c A1 r77) N 0
def Z4a (N:Nat) (p1:api_Prog):Option Int:=
 (Z2x N p1).bind fun r32=>
 (Cj 32 ([]:List api_Cell) r32).bind fun l39=>
 (Cj 32 l39 p1.Locks).bind fun l45=>
 (Z4d N (Z4b N) p1) N l45 0
def Z30 (N:Nat) (p1:api_Prog):Option (List Str):=
 (Z2x N p1).bind fun r29=>
 (Z3q N r29).bind fun r36=>
 some r36
def Z3p (N:Nat) (p1:api_Prog):Option (List Str):=
 (Z3q N p1.Locks).bind fun r29=>
 some r29
def Z3w (N:Nat) (p1:api_Prog):Option Int:=
 (Z2x N p1).bind fun r29=>
 some (i64.wrap ((r29.length:Int) - (p1.Vols.length:Int)))
def Z4h (kZ4i:Int→Option Int) (p1:List api_Node) (B1:Int) (C1:Bool):Option Int:=
 if C1=true then
  (getI p1 B1).bind fun x21=>
  some x21.At
 else
  kZ4i (i64.wrap (B1+1))
def Z4i (N:Nat) (kZ4g:Option Int) (p1:List api_Node) (p6:List Str):Nat→Int→Option Int
 | 0,_=>none
 | n+1,B1=>
  if B1 < (p1.length:Int) then
   (getI p1 B1).bind fun x12=>
   if x12.Op=2 then
    (Z3t N p6 x12.Name).bind fun r18=>
    (Z4h (Z4i N kZ4g p1 p6 n) p1 B1) (decide (r18 < 0))
   else
    (Z4h (Z4i N kZ4g p1 p6 n) p1 B1) false
  else
   kZ4g
def Z4g  : Option Int:=
 some (-1)
def Z4f (N:Nat) (p1:List api_Node) (p6:List Str):Option Int:=
 (Z4i N Z4g p1 p6) N 0
def Z48 (kZ45:Option Int) (p7:api_Stmt) (B3:Bool):Option Int:=
 if B3=true then
  some p7.At
 else
  kZ45
def Z49 (N:Nat) (kZ45:Option Int) (p1:api_Prog) (p7:api_Stmt) (B4:Bool):Option Int:=
 if B4=true then
  (Z3p N p1).bind fun r78=>
  (Z3t N r78 p7.Name).bind fun r85=>
  if r85 < 0 then
   some p7.At
  else
   kZ45
 else
  kZ45
def Z47 (N:Nat) (kZ45:Option Int) (p1:api_Prog) (p7:api_Stmt) (r64:Int) (B2:Bool):Option Int:=
 if B2=true then
  if r64 < 0 then
   (Z48 kZ45 p7) true
  else
   (Z3w N p1).bind fun r73=>
   (Z48 kZ45 p7) (decide (r73≤r64))
 else
  if p7.Kind=9 then
   (Z49 N kZ45 p1 p7) (decide (p7.Kind=9))
  else
   (Z49 N kZ45 p1 p7) (decide (p7.Kind=10))
def Z46 (N:Nat) (kZ45:Option Int) (p1:api_Prog) (p7:api_Stmt) (r64:Int) (B1:Bool):Option Int:=
 if B1=true then
  if r64 < 0 then
   some p7.At
  else
   kZ45
 else
  if p7.Kind=5 then
   (Z47 N kZ45 p1 p7 r64) (decide (p7.Kind=5))
  else
   (Z47 N kZ45 p1 p7 r64) (decide (p7.Kind=6))
def Z45 (N:Nat) (p4:api_Thread) (p7:api_Stmt):Option Int:=
 (Z4f N p7.E p4.Regs).bind fun r88=>
 if 0≤r88 then
  some r88
 else
  (Z4f N p7.F p4.Regs).bind fun r91=>
  some r91
def Z44 (N:Nat) (p1:api_Prog) (p4:api_Thread) (p7:api_Stmt) (A1:Bool):Option Int:=
 if A1=true then
  some p7.At
 else
  (Z30 N p1).bind fun r57=>
  (Z3t N r57 p7.Name).bind fun r64=>
  if p7.Kind=2 then
   (Z46 N (Z45 N p4 p7) p1 p7 r64) (decide (p7.Kind=2))
  else
   if p7.Kind=3 then
    (Z46 N (Z45 N p4 p7) p1 p7 r64) (decide (p7.Kind=3))
   else
    (Z46 N (Z45 N p4 p7) p1 p7 r64) (decide (p7.Kind=4))
def Z43 (N:Nat) (p1:api_Prog) (p4:api_Thread) (p7:api_Stmt):Option Int:=
 if p7.Reg≠[] then
  (Z3t N p4.Regs p7.Reg).bind fun r54=>
  (Z44 N p1 p4 p7) (decide (r54 < 0))
 else
  (Z44 N p1 p4 p7) false
def Z3b (N:Nat) (kZ32:Option (Int×Int)) (r35:List api_Thread):Nat→Int→Option (Int×Int)
 | 0,_=>none
 | n+1,B1=>
  if B1 < (r35.length:Int) then
   (getI r35 B1).bind fun x46=>
   (Z4j N x46.Body 1).bind fun r59=>
   if 0≤r59 then
    some (11,r59)
   else
    (Z3b N kZ32 r35 n) (i64.wrap (B1+1))
  else
   kZ32
def Z37 (kZ3d:Int→Option (Int×Int)) (x66:api_Thread) (D2:Int) (vE2:Bool):Option (Int×Int):=
 if vE2=true then
  some (10,x66.At)
 else
  kZ3d (i64.wrap (D2+1))
def Z3d (N:Nat) (kZ36:Option (Int×Int)) (p1:api_Prog) (r35:List api_Thread) (B3:Int):Nat→Int→Option (Int×Int)
 | 0,_=>none
 | n+1,D2=>
  (getI r35 B3).bind fun x66=>
  if D2 < (x66.Regs.length:Int) then
   (getI x66.Regs D2).bind fun x80=>
   (Z3t N x66.Regs x80).bind fun r85=>
   if r85 < D2 then
    (Z37 (Z3d N kZ36 p1 r35 B3 n) x66 D2) true
   else
    (Z30 N p1).bind fun r88=>
    (Z3t N r88 x80).bind fun r98=>
    if 0≤r98 then
     (Z37 (Z3d N kZ36 p1 r35 B3 n) x66 D2) true
    else
     (Z3p N p1).bind fun r101=>
     (Z3t N r101 x80).bind fun r108=>
     (Z37 (Z3d N kZ36 p1 r35 B3 n) x66 D2) (decide (0≤r108))
  else
   kZ36
def Z36 (kZ3c:Int→Option (Int×Int)) (B3:Int):Option (Int×Int):=
 kZ3c (i64.wrap (B3+1))
def Z3c (N:Nat) (kZ35:Option (Int×Int)) (p1:api_Prog) (r35:List api_Thread):Nat→Int→Option (Int×Int)
 | 0,_=>none
 | n+1,B3=>
  if B3 < (r35.length:Int) then
   (Z3d N (Z36 (Z3c N kZ35 p1 r35 n) B3) p1 r35 B3) N 0
  else
   kZ35
def Z39 (N:Nat) (kZ33:Option (Int×Int)) (p1:api_Prog) (r35:List api_Thread) (B4:Int):Nat→Int→Option (Int×Int)
 | 0,_=>none
 | n+1,D3=>
  (getI r35 B4).bind fun x112=>
  if D3 < (x112.Body.length:Int) then
   (getI x112.Body D3).bind fun x126=>
   (Z43 N p1 x112 x126).bind fun r139=>
   if 0≤r139 then
    some (9,r139)
   else
    (Z39 N kZ33 p1 r35 B4 n) (i64.wrap (D3+1))
  else
   kZ33
def Z33 (kZ3e:Int→Option (Int×Int)) (B4:Int):Option (Int×Int):=
 kZ3e (i64.wrap (B4+1))
def Z3e (N:Nat) (kZ38:Option (Int×Int)) (p1:api_Prog) (r35:List api_Thread):Nat→Int→Option (Int×Int)
 | 0,_=>none
 | n+1,B4=>
  if B4 < (r35.length:Int) then
   (Z39 N (Z33 (Z3e N kZ38 p1 r35 n) B4) p1 r35 B4) N 0
  else
   kZ38
def Z3a (N:Nat) (kZ34:Option (Int×Int)) (p1:api_Prog) (l154:List Str):Nat→Int→Option (Int×Int)
 | 0,_=>none
 | n+1,B5=>
  if B5 < (p1.Claims.length:Int) then
   (getI p1.Claims B5).bind fun x163=>
   (Z4f N x163.E l154).bind fun r172=>
   if 0≤r172 then
    some (9,r172)
   else
    (Z3a N kZ34 p1 l154 n) (i64.wrap (B5+1))
  else
   kZ34
def Z34  : Option (Int×Int):=
 some (0,0)
def Z38 (N:Nat) (p1:api_Prog):Option (Int×Int):=
 (Z30 N p1).bind fun r142=>
 (Z3w N p1).bind fun r152=>
 (Dj r142 0 r152).bind fun l154=>
 (Z3a N Z34 p1 l154) N 0
def Z35 (N:Nat) (p1:api_Prog) (r35:List api_Thread):Option (Int×Int):=
 (Z3e N (Z38 N p1) p1 r35) N 0
def Z32 (N:Nat) (p1:api_Prog) (r35:List api_Thread):Option (Int×Int):=
 (Z4a N p1).bind fun r62=>
 if 0≤r62 then
  some (10,r62)
 else
  (Z3c N (Z35 N p1 r35) p1 r35) N 0
def Z31 (N:Nat) (p1:api_Prog):Option (Int×Int):=
 (Z2f N p1).bind fun r29=>
 if r29=true then
  (Z3y N p1).bind fun r32=>
  if r32=true then
   some (2,0)
  else
   (Z3x N p1).bind fun r35=>
   (Z3b N (Z32 N p1 r35) r35) N 0
 else
  some (8,0)
def Z3h (N:Nat) (kZ3g:(List Int)→Option (List Int)) (r32:List api_Cell):Nat→(List Int)→Int→Option (List Int)
 | 0,_,_=>none
 | n+1,B1,B7=>
  if B7 < (r32.length:Int) then
   (getI r32 B7).bind fun x40=>
   (Cj 8 B1 ([x40.N]:List Int)).bind fun l49=>
   (Z3h N kZ3g r32 n) l49 (i64.wrap (B7+1))
  else
   kZ3g B1
def Z3g (A1:List Int):Option (List Int):=
 some A1
def Z3f (N:Nat) (p1:api_Prog):Option (List Int):=
 (Z2x N p1).bind fun r32=>
 (Z3h N Z3g r32) N [] 0
def Z3o (N:Nat) (kZ3n:Int→Option Int) (p1:api_Prog):Nat→Int→Int→Option Int
 | 0,_,_=>none
 | n+1,B1,B2=>
  if B2 < (p1.Lines.length:Int) then
   (getI p1.Lines B2).bind fun x40=>
   if B1 < (x40.length:Int) then
    some B2
   else
    (Z3o N kZ3n p1 n) (i64.wrap (B1 - (x40.length:Int))) (i64.wrap (B2+1))
  else
   kZ3n B1
def Z3n (p1:api_Prog) (A2:Int):Option Int:=
 some (i64.wrap ((p1.Lines.length:Int)+A2))
def Z3m (N:Nat) (p1:api_Prog) (p4:Int) (A1:Bool):Option Int:=
 if A1=true then
  some (-1)
 else
  (Z3o N (Z3n p1) p1) N p4 0
def Z3l (N:Nat) (p1:api_Prog) (p4:Int):Option Int:=
 if p4 < 0 then
  (Z3m N p1 p4) true
 else
  (Z2x N p1).bind fun r31=>
  (Z3m N p1 p4) (decide ((r31.length:Int)≤p4))
def Z68 (rf:(List api_Stmt)→Option Int) (p1:List api_Stmt) (xz7:api_Stmt) (A1:Int):Option Int:=
 (Dj p1 (i64.wrap ((i64.wrap (1+xz7.Body))+xz7.Else)) (p1.length:Int)).bind fun l42=>
 (rf l42).bind fun r50=>
 some (max A1 r50)
def Z67:Nat→(List api_Stmt)→Option Int
 | 0,_=>none
 | N+1,p1=>
  if (p1.length:Int)=0 then
   some 0
  else
   (getI p1 0).bind fun xz7=>
   (Dj p1 1 (i64.wrap (1+xz7.Body))).bind fun l21=>
   ((Z67 N) l21).bind fun r29=>
   (Dj p1 (i64.wrap (1+xz7.Body)) (i64.wrap ((i64.wrap (1+xz7.Body))+xz7.Else))).bind fun l31=>
   ((Z67 N) l31).bind fun r39=>
   if xz7.Kind=12 then
    (Z68 (Z67 N) p1 xz7) (i64.wrap ((max r29 r39)+1))
   else
    (Z68 (Z67 N) p1 xz7) (max r29 r39)
def Z54 (rf:(List api_Node)→Int→(List Str)→Option (List api_Op)) (N:Nat) (kZ52:(List api_Op)→Option (List api_Op)) (p1:List api_Node) (p6:Int) (p7:List Str):Nat→(List api_Op)→Int→Int→Option (List api_Op)
 | 0,_,_,_=>none
 | n+1,B1,B7,B8=>
  (getI p1 p6).bind fun x15=>
  (Z1r N x15.Op).bind fun r20=>
  if B8 < r20 then
   (rf p1 B7 p7).bind fun r23=>
   (Cj 16 B1 r23).bind fun l30=>
   (Z1n N p1 B7).bind fun r36=>
   (Z54 rf N kZ52 p1 p6 p7 n) l30 r36 (i64.wrap (B8+1))
  else
   kZ52 B1
def Z53 (A1:List api_Op) (x38:api_Node) (A7:Int):Option (List api_Op):=
 (Cj 16 A1 ([(api_Op.mk x38.Op A7)]:List api_Op)).bind fun l49=>
 some l49
def Z52 (N:Nat) (p1:List api_Node) (p6:Int) (p7:List Str) (A1:List api_Op):Option (List api_Op):=
 (getI p1 p6).bind fun x38=>
 if x38.Op=2 then
  (Z3t N p7 x38.Name).bind fun r44=>
  (Z53 A1 x38) r44
 else
  (Z53 A1 x38) x38.N
def Z51:Nat→(List api_Node)→Int→(List Str)→Option (List api_Op)
 | 0,_,_,_=>none
 | N+1,p1,p6,p7=>
  (Z54 (Z51 N) N (Z52 N p1 p6 p7) p1 p6 p7) N [] (i64.wrap (p6+1)) 0
def Z4n (kZ4o:Int→Option ((List api_Op)×Int)) (B1:Int) (C1:Bool):Option ((List api_Op)×Int):=
 if C1=true then
  some ([],9)
 else
  kZ4o (i64.wrap (B1+1))
def Z4o (N:Nat) (kZ4m:Option ((List api_Op)×Int)) (p1:List api_Node) (p6:List Str):Nat→Int→Option ((List api_Op)×Int)
 | 0,_=>none
 | n+1,B1=>
  if B1 < (p1.length:Int) then
   (getI p1 B1).bind fun x15=>
   if x15.Op=2 then
    (Z3t N p6 x15.Name).bind fun r21=>
    (Z4n (Z4o N kZ4m p1 p6 n) B1) (decide (r21 < 0))
   else
    (Z4n (Z4o N kZ4m p1 p6 n) B1) false
  else
   kZ4m
def Z4m (N:Nat) (p1:List api_Node) (p6:List Str):Option ((List api_Op)×Int):=
 (Z51 N p1 0 p6).bind fun r24=>
 some (r24,0)
def Z4l (N:Nat) (p1:List api_Node) (p6:List Str):Option ((List api_Op)×Int):=
 (Z1s N p1).bind fun r11=>
 if r11=true then
  (Z4o N (Z4m N p1 p6) p1 p6) N 0
 else
  some ([],8)
def Z6k (rf:(List api_Stmt)→Option Int) (p1:List api_Stmt) (xz7:api_Stmt) (A2:Int):Option Int:=
 (Dj p1 (i64.wrap ((i64.wrap (1+xz7.Body))+xz7.Else)) (p1.length:Int)).bind fun l54=>
 (rf l54).bind fun r62=>
 some (i64.wrap (A2+r62))
def Z6j (rf:(List api_Stmt)→Option Int) (p1:List api_Stmt) (xz7:api_Stmt) (A1:Int):Option Int:=
 if xz7.Kind=12 then
  (Dj p1 1 (i64.wrap (1+xz7.Body))).bind fun l44=>
  (rf l44).bind fun r52=>
  (Z6k rf p1 xz7) (i64.wrap (2+r52))
 else
  (Z6k rf p1 xz7) A1
def Z6i:Nat→(List api_Stmt)→Option Int
 | 0,_=>none
 | N+1,p1=>
  if (p1.length:Int)=0 then
   some 0
  else
   (getI p1 0).bind fun xz7=>
   if xz7.Kind=11 then
    (Dj p1 1 (i64.wrap (1+xz7.Body))).bind fun l22=>
    ((Z6i N) l22).bind fun r30=>
    (Dj p1 (i64.wrap (1+xz7.Body)) (i64.wrap ((i64.wrap (1+xz7.Body))+xz7.Else))).bind fun l32=>
    ((Z6i N) l32).bind fun r40=>
    if 0 < xz7.Else then
     (Z6j (Z6i N) p1 xz7) (i64.wrap ((i64.wrap ((i64.wrap (1+r30))+r40))+1))
    else
     (Z6j (Z6i N) p1 xz7) (i64.wrap ((i64.wrap (1+r30))+r40))
   else
    (Z6j (Z6i N) p1 xz7) 1
def Z5n (N:Nat) (kZ5k:Int→Int→Option api_Instr) (p1:leadlineref09_Env) (p4:api_Stmt) (B3:Bool):Option api_Instr:=
 if B3=true then
  (Z3p N p1.P).bind fun r86=>
  (Z3t N r86 p4.Name).bind fun r93=>
  kZ5k p4.Kind r93
 else
  if p4.Kind=14 then
   kZ5k 15 0
  else
   kZ5k p4.Kind 0
def Z5m (N:Nat) (kZ5k:Int→Int→Option api_Instr) (p1:leadlineref09_Env) (p4:api_Stmt) (r60:Int) (B2:Bool):Option api_Instr:=
 if B2=true then
  (Z3l N p1.P r60).bind fun r82=>
  kZ5k p4.Kind r82
 else
  if p4.Kind=9 then
   (Z5n N kZ5k p1 p4) (decide (p4.Kind=9))
  else
   (Z5n N kZ5k p1 p4) (decide (p4.Kind=10))
def Z5l (N:Nat) (kZ5k:Int→Int→Option api_Instr) (p1:leadlineref09_Env) (p4:api_Stmt) (r60:Int) (B1:Bool):Option api_Instr:=
 if B1=true then
  kZ5k p4.Kind r60
 else
  if p4.Kind=5 then
   (Z5m N kZ5k p1 p4 r60) (decide (p4.Kind=5))
  else
   (Z5m N kZ5k p1 p4 r60) (decide (p4.Kind=6))
def Z5k (r51:Int) (r62:((List api_Op)×Int)) (r69:((List api_Op)×Int)) (A1:Int) (A2:Int):Option api_Instr:=
 some (api_Instr.mk A1 (max 0 r51) A2 r62.1 r69.1 0)
def Z5j (N:Nat) (p1:leadlineref09_Env) (p4:api_Stmt):Option api_Instr:=
 (Z3t N p1.Regs p4.Reg).bind fun r51=>
 (Z30 N p1.P).bind fun r53=>
 (Z3t N r53 p4.Name).bind fun r60=>
 (Z4l N p4.E p1.Regs).bind fun r62=>
 (Z4l N p4.F p1.Regs).bind fun r69=>
 if p4.Kind=2 then
  (Z5l N (Z5k r51 r62 r69) p1 p4 r60) (decide (p4.Kind=2))
 else
  if p4.Kind=3 then
   (Z5l N (Z5k r51 r62 r69) p1 p4 r60) (decide (p4.Kind=3))
  else
   (Z5l N (Z5k r51 r62 r69) p1 p4 r60) (decide (p4.Kind=4))
def Z5i (rf:leadlineref09_Env→(List api_Stmt)→Int→Int→Int→Option (List api_Instr)) (kZ5g:(List api_Instr)→Option (List api_Instr)) (p1:leadlineref09_Env) (p10:Int) (p11:Int) (l69:List api_Stmt) (B1:Int) (B2:List api_Instr):Option (List api_Instr):=
 (rf p1 l69 B1 p10 p11).bind fun r135=>
 (Cj 80 B2 r135).bind fun l145=>
 kZ5g l145
def Z5h (rf:leadlineref09_Env→(List api_Stmt)→Int→Int→Int→Option (List api_Instr)) (N:Nat) (kZ5g:(List api_Instr)→Option (List api_Instr)) (p1:leadlineref09_Env) (p9:Int) (p10:Int) (p11:Int) (x47:api_Stmt) (l61:List api_Stmt) (l69:List api_Stmt) (r81:((List api_Op)×Int)) (B1:Int):Option (List api_Instr):=
 (Cj 80 ([]:List api_Instr) ([(api_Instr.mk 12 0 0 r81.1 [] B1)]:List api_Instr)).bind fun l98=>
 (rf p1 l61 (i64.wrap (p9+1)) p10 p11).bind fun r104=>
 (Cj 80 l98 r104).bind fun l114=>
 if 0 < x47.Else then
  (Z6i N l69).bind fun r124=>
  (Cj 80 l114 ([(api_Instr.mk 11 0 0 [] [] (i64.wrap (B1+r124)))]:List api_Instr)).bind fun l129=>
  (Z5i rf kZ5g p1 p10 p11 l69 B1) l129
 else
  (Z5i rf kZ5g p1 p10 p11 l69 B1) l114
def Z5g (rf:leadlineref09_Env→(List api_Stmt)→Int→Int→Int→Option (List api_Instr)) (p1:leadlineref09_Env) (p4:List api_Stmt) (p9:Int) (p10:Int) (p11:Int) (x47:api_Stmt) (A2:List api_Instr):Option (List api_Instr):=
 (Dj p4 (i64.wrap ((i64.wrap (1+x47.Body))+x47.Else)) (p4.length:Int)).bind fun l229=>
 (rf p1 l229 (i64.wrap (p9+(A2.length:Int))) p10 p11).bind fun r237=>
 (Cj 80 A2 r237).bind fun l247=>
 some l247
def Z5f:Nat→leadlineref09_Env→(List api_Stmt)→Int→Int→Int→Option (List api_Instr)
 | 0,_,_,_,_,_=>none
 | N+1,p1,p4,p9,p10,p11=>
  if (p4.length:Int)=0 then
   some []
  else
   (getI p4 0).bind fun x47=>
   (Dj p4 1 (i64.wrap (1+x47.Body))).bind fun l61=>
   (Dj p4 (i64.wrap (1+x47.Body)) (i64.wrap ((i64.wrap (1+x47.Body))+x47.Else))).bind fun l69=>
   if x47.Kind=11 then
    (Z4l N x47.E p1.Regs).bind fun r81=>
    (Z6i N l61).bind fun r88=>
    if 0 < x47.Else then
     (Z5h (Z5f N) N (Z5g (Z5f N) p1 p4 p9 p10 p11 x47) p1 p9 p10 p11 x47 l61 l69 r81) (i64.wrap ((i64.wrap ((i64.wrap (p9+1))+r88))+1))
    else
     (Z5h (Z5f N) N (Z5g (Z5f N) p1 p4 p9 p10 p11 x47) p1 p9 p10 p11 x47 l61 l69 r81) (i64.wrap ((i64.wrap (p9+1))+r88))
   else
    if x47.Kind=12 then
     (Z6i N l61).bind fun r155=>
     (Cj 80 ([]:List api_Instr) ([(api_Instr.mk 13 p10 x47.N [] [] 0)]:List api_Instr)).bind fun l160=>
     ((Z5f N) p1 l61 (i64.wrap (p9+1)) (i64.wrap (p10+1)) (i64.wrap ((i64.wrap (p9+2))+r155))).bind fun r166=>
     (Cj 80 l160 r166).bind fun l176=>
     (Cj 80 l176 ([(api_Instr.mk 14 p10 0 [] [] (i64.wrap (p9+1)))]:List api_Instr)).bind fun l188=>
     (Z5g (Z5f N) p1 p4 p9 p10 p11 x47) l188
    else
     if x47.Kind=13 then
      (Cj 80 ([]:List api_Instr) ([(api_Instr.mk 11 0 0 [] [] p11)]:List api_Instr)).bind fun l198=>
      (Z5g (Z5f N) p1 p4 p9 p10 p11 x47) l198
     else
      (Z5j N p1 x47).bind fun r204=>
      (Cj 80 ([]:List api_Instr) ([r204]:List api_Instr)).bind fun l223=>
      (Z5g (Z5f N) p1 p4 p9 p10 p11 x47) l223
def Z6l (N:Nat) (p1:api_Prog) (p4:api_Thread):Option api_Code:=
 (Z67 N p4.Body).bind fun r43=>
 (Z5f N (leadlineref09_Env.mk p1 p4.Regs) p4.Body 0 0 0).bind fun r45=>
 some (api_Code.mk (p4.Regs.length:Int) r43 r45)
def Z63 (N:Nat) (kZ5z:(List Int)→Option (api_Unit×Int)) (p1:api_Prog) (A3:List Int):Nat→(List Int)→Int→Option (api_Unit×Int)
 | 0,_,_=>none
 | n+1,B1,B7=>
  if B7 < (A3.length:Int) then
   (Z3l N p1 B7).bind fun r44=>
   (Cj 8 B1 ([r44]:List Int)).bind fun l49=>
   (Z63 N kZ5z p1 A3 n) l49 (i64.wrap (B7+1))
  else
   kZ5z B1
def Z64 (N:Nat) (kZ60:(List api_Code)→Option (api_Unit×Int)) (p1:api_Prog):Nat→(List api_Code)→Int→Option (api_Unit×Int)
 | 0,_,_=>none
 | n+1,B9,B15=>
  if B15 < (p1.Threads.length:Int) then
   (getI p1.Threads B15).bind fun x56=>
   (Z6l N p1 x56).bind fun r69=>
   (Cj 40 B9 ([r69]:List api_Code)).bind fun l84=>
   (Z64 N kZ60 p1 n) l84 (i64.wrap (B15+1))
  else
   kZ60 B9
def Z65 (N:Nat) (kZ62:(List (List api_Op))→Option (api_Unit×Int)) (p1:api_Prog) (A2:Int):Nat→(List (List api_Op))→Int→Option (api_Unit×Int)
 | 0,_,_=>none
 | n+1,B17,B23=>
  if B23 < (p1.Claims.length:Int) then
   (getI p1.Claims B23).bind fun x117=>
   (Z30 N p1).bind fun r126=>
   (Dj r126 0 A2).bind fun l136=>
   (Z4l N x117.E l136).bind fun r144=>
   (Cj 24 B17 ([r144.1]:List (List api_Op))).bind fun l158=>
   (Z65 N kZ62 p1 A2 n) l158 (i64.wrap (B23+1))
  else
   kZ62 B17
def Z62 (p1:api_Prog) (A2:Int) (A3:List Int) (A9:List Int) (A16:List api_Code) (A23:Int) (A24:Int) (A25:List api_Instr) (A31:List (List api_Op)):Option (api_Unit×Int):=
 some ((api_Unit.mk A9 A2 A3 (p1.Locks.length:Int) A16 (api_Code.mk A23 A24 A25) A31),0)
def Z61 (N:Nat) (p1:api_Prog) (A2:Int) (A3:List Int) (A9:List Int) (A16:List api_Code) (A23:Int) (A24:Int) (A25:List api_Instr):Option (api_Unit×Int):=
 (Z65 N (Z62 p1 A2 A3 A9 A16 A23 A24 A25) p1 A2) N [] 0
def Z60 (N:Nat) (p1:api_Prog) (A2:Int) (A3:List Int) (A9:List Int) (A16:List api_Code):Option (api_Unit×Int):=
 if 0 < (p1.Recover.length:Int) then
  (getI p1.Recover 0).bind fun x91=>
  (Z6l N p1 x91).bind fun r104=>
  (Z61 N p1 A2 A3 A9 A16) r104.Regs r104.Counts r104.L
 else
  (Z61 N p1 A2 A3 A9 A16) 0 0 []
def Z5z (N:Nat) (p1:api_Prog) (A2:Int) (A3:List Int) (A9:List Int):Option (api_Unit×Int):=
 (Z64 N (Z60 N p1 A2 A3 A9) p1) N [] 0
def Z5y (N:Nat) (p1:api_Prog) (A2:Int) (A3:List Int):Option (api_Unit×Int):=
 (Z63 N (Z5z N p1 A2 A3) p1 A3) N [] 0
def Z5x (N:Nat) (p1:api_Prog):Option (api_Unit×Int):=
 (Z31 N p1).bind fun r30=>
 if r30.1≠0 then
  some ((api_Unit.mk [] 0 [] 0 [] (api_Code.mk 0 0 []) []),r30.1)
 else
  (Z3w N p1).bind fun r33=>
  (Z3f N p1).bind fun r35=>
  (Z5y N p1) r33 r35
def Z5o (N:Nat) (p1:api_Unit):Option Int:=
 if ((decide (1≤p1.Stays)) && (decide (p1.Stays≤(p1.Lines.length:Int))))=true then
  (getI p1.Lines (i64.wrap (p1.Stays - 1))).bind fun x51=>
  some (i64.wrap (x51+1))
 else
  some 0
def Z6h (N:Nat) (p1:Int) (p2:Int):Option Bool:=
 some ((decide (0≤p1)) && (decide (p1 < p2)))
def Z4z (kZ50:Int→Int→Option Int) (B2:Int) (C2:Int):Option Int:=
 if C2 < 0 then
  some (-1)
 else
  kZ50 (i64.wrap (C2+1)) (i64.wrap (B2+1))
def Z4y (kZ50:Int→Int→Option Int) (xz8:api_Op) (B2:Int) (C1:Int):Option Int:=
 if ((decide (5≤xz8.Kind)) && (decide (xz8.Kind≤15)))=true then
  (Z4z kZ50 B2) (i64.wrap (C1 - 2))
 else
  (Z4z kZ50 B2) C1
def Z50 (N:Nat) (kZ4x:Int→Option Int) (p1:List api_Op) (p6:Int):Nat→Int→Int→Option Int
 | 0,_,_=>none
 | n+1,B1,B2=>
  if B2 < p6 then
   (getI p1 B2).bind fun xz8=>
   if ((decide (xz8.Kind=3)) || (decide (xz8.Kind=4)))=true then
    (Z4y (Z50 N kZ4x p1 p6 n) xz8 B2) (i64.wrap (B1 - 1))
   else
    (Z4y (Z50 N kZ4x p1 p6 n) xz8 B2) B1
  else
   kZ4x B1
def Z4x (A1:Int):Option Int:=
 some A1
def Z4w (N:Nat) (p1:List api_Op) (p6:Int):Option Int:=
 (Z50 N Z4x p1 p6) N 0 0
def Z4r (N:Nat) (kZ4q:Option Bool) (p1:List api_Op) (p6:Int):Nat→Int→Option Bool
 | 0,_=>none
 | n+1,B1=>
  if B1 < (p1.length:Int) then
   (getI p1 B1).bind fun xz8=>
   if (((((decide (xz8.Kind < 1)) || (decide (15 < xz8.Kind))) || ((decide (xz8.Kind=1)) && ((decide (xz8.N < 0)) || (decide (4294967296 < xz8.N))))) || ((decide (xz8.Kind=2)) && ((decide (xz8.N < 0)) || (decide (p6≤xz8.N))))) || ((decide (2 < xz8.Kind)) && (decide (xz8.N≠0))))=true then
    some false
   else
    (Z4r N kZ4q p1 p6 n) (i64.wrap (B1+1))
  else
   kZ4q
def Z4q (N:Nat) (p1:List api_Op):Option Bool:=
 if ((decide (1≤(p1.length:Int))) && (decide ((p1.length:Int)≤40)))=true then
  (Z4w N p1 (p1.length:Int)).bind fun r15=>
  some (decide (r15=1))
 else
  some false
def Z4p (N:Nat) (p1:List api_Op) (p6:Int):Option Bool:=
 (Z4r N (Z4q N p1) p1 p6) N 0
def Z6f (N:Nat) (kZ6c:Bool→Option Bool) (p1:api_Instr) (p9:Int) (B3:Bool):Option Bool:=
 if B3=true then
  (Z6h N p1.B p9).bind fun r41=>
  kZ6c r41
 else
  if p1.Kind=13 then
   kZ6c ((decide (1≤p1.B)) && (decide (p1.B≤8)))
  else
   kZ6c (decide (p1.B=0))
def Z6e (N:Nat) (kZ6c:Bool→Option Bool) (p1:api_Instr) (p8:Int) (p9:Int) (B2:Bool):Option Bool:=
 if B2=true then
  (Z6h N p1.B p8).bind fun r37=>
  kZ6c r37
 else
  if p1.Kind=9 then
   (Z6f N kZ6c p1 p9) (decide (p1.Kind=9))
  else
   (Z6f N kZ6c p1 p9) (decide (p1.Kind=10))
def Z6d (N:Nat) (kZ6c:Bool→Option Bool) (p1:api_Instr) (p7:Int) (p8:Int) (p9:Int) (B1:Bool):Option Bool:=
 if B1=true then
  (Z6h N p1.B p7).bind fun r33=>
  kZ6c r33
 else
  if p1.Kind=5 then
   (Z6e N kZ6c p1 p8 p9) (decide (p1.Kind=5))
  else
   (Z6e N kZ6c p1 p8 p9) (decide (p1.Kind=6))
def Z6g (p1:api_Instr) (A2:Bool) (A3:Bool) (A4:Bool):Option Bool:=
 if A4=true then
  some false
 else
  some ((((decide (1≤p1.Kind)) && (decide (p1.Kind≤15))) && A2) && A3)
def Z6c (N:Nat) (p1:api_Instr) (p4:api_Code) (A2:Bool) (A3:Bool):Option Bool:=
 if (((((decide (p1.Kind=1)) || (decide (p1.Kind=3))) || (decide (p1.Kind=4))) || (decide (p1.Kind=12))) || (decide (p1.Kind=15)))=true then
  (Z4p N p1.E p4.Regs).bind fun r45=>
  if ((!r45) || ((!(((((decide (p1.Kind=1)) || (decide (p1.Kind=3))) || (decide (p1.Kind=4))) || (decide (p1.Kind=12))) || (decide (p1.Kind=15)))) && (decide (0 < (p1.E.length:Int)))))=true then
   (Z6g p1 A2 A3) true
  else
   if p1.Kind=4 then
    (Z4p N p1.F p4.Regs).bind fun r49=>
    (Z6g p1 A2 A3) ((!r49) || ((decide (p1.Kind≠4)) && (decide (0 < (p1.F.length:Int)))))
   else
    (Z6g p1 A2 A3) ((decide (p1.Kind≠4)) && (decide (0 < (p1.F.length:Int))))
 else
  if ((!(((((decide (p1.Kind=1)) || (decide (p1.Kind=3))) || (decide (p1.Kind=4))) || (decide (p1.Kind=12))) || (decide (p1.Kind=15)))) && (decide (0 < (p1.E.length:Int))))=true then
   (Z6g p1 A2 A3) true
  else
   if p1.Kind=4 then
    (Z4p N p1.F p4.Regs).bind fun r53=>
    (Z6g p1 A2 A3) ((!r53) || ((decide (p1.Kind≠4)) && (decide (0 < (p1.F.length:Int)))))
   else
    (Z6g p1 A2 A3) ((decide (p1.Kind≠4)) && (decide (0 < (p1.F.length:Int))))
def Z6b (N:Nat) (p1:api_Instr) (p4:api_Code) (p7:Int) (p8:Int) (p9:Int) (A2:Bool):Option Bool:=
 if p1.Kind=2 then
  (Z6d N (Z6c N p1 p4 A2) p1 p7 p8 p9) (decide (p1.Kind=2))
 else
  if p1.Kind=3 then
   (Z6d N (Z6c N p1 p4 A2) p1 p7 p8 p9) (decide (p1.Kind=3))
  else
   (Z6d N (Z6c N p1 p4 A2) p1 p7 p8 p9) (decide (p1.Kind=4))
def Z6a (N:Nat) (p1:api_Instr) (p4:api_Code) (p7:Int) (p8:Int) (p9:Int) (A1:Bool):Option Bool:=
 if ((decide (p1.Kind=13)) || (decide (p1.Kind=14)))=true then
  (Z6h N p1.A p4.Counts).bind fun r28=>
  (Z6b N p1 p4 p7 p8 p9) r28
 else
  (Z6b N p1 p4 p7 p8 p9) A1
def Z69 (N:Nat) (p1:api_Instr) (p4:api_Code) (p7:Int) (p8:Int) (p9:Int):Option Bool:=
 if (((decide (p1.Kind=1)) || (decide (p1.Kind=2))) || (decide (p1.Kind=4)))=true then
  (Z6h N p1.A p4.Regs).bind fun r25=>
  (Z6a N p1 p4 p7 p8 p9) r25
 else
  (Z6a N p1 p4 p7 p8 p9) (decide (p1.A=0))
def Z6p (N:Nat) (kZ6o:Option Bool) (p1:List api_Instr) (p6:Int) (xz7:api_Instr):Nat→Int→Option Bool
 | 0,_=>none
 | n+1,B1=>
  if B1 < p6 then
   (getI p1 B1).bind fun x39=>
   if ((decide (x39.Kind=13)) && (decide (x39.A=xz7.A)))=true then
    some false
   else
    (Z6p N kZ6o p1 p6 xz7 n) (i64.wrap (B1+1))
  else
   kZ6o
def Z6o  : Option Bool:=
 some true
def Z6n (N:Nat) (p1:List api_Instr) (p6:Int) (xz7:api_Instr) (A1:Bool):Option Bool:=
 if A1=true then
  some false
 else
  (Z6p N Z6o p1 p6 xz7) N xz7.To
def Z6m (N:Nat) (p1:List api_Instr) (p6:Int):Option Bool:=
 (getI p1 p6).bind fun xz7=>
 if ((decide (xz7.Kind=11)) || (decide (xz7.Kind=12)))=true then
  some ((decide (p6 < xz7.To)) && (decide (xz7.To≤(p1.length:Int))))
 else
  if xz7.Kind≠14 then
   some (decide (xz7.To=0))
  else
   if ((decide (xz7.To < 1)) || (decide (p6 < xz7.To)))=true then
    (Z6n N p1 p6 xz7) true
   else
    (getI p1 (i64.wrap (xz7.To - 1))).bind fun x24=>
    (Z6n N p1 p6 xz7) ((decide (x24.Kind≠13)) || (decide (x24.A≠xz7.A)))
def Z66 (N:Nat) (p1:Int) (p2:Int) (p3:Int) (p4:Int):Option Bool:=
 some (((((decide (p3≤p1)) && (decide (p2≤p4))) || ((decide (p1≤p3)) && (decide (p4≤p2)))) || (decide (p2 < p3))) || (decide (p4 < p1)))
def Z57 (kZ5c:Int→Option Bool) (B1:Int) (C1:Bool):Option Bool:=
 if C1=true then
  some false
 else
  kZ5c (i64.wrap (B1+1))
def Z5c (N:Nat) (kZ56:Option Bool) (p1:api_Code) (p4:Int) (p5:Int) (p6:Int):Nat→Int→Option Bool
 | 0,_=>none
 | n+1,B1=>
  if B1 < (p1.L.length:Int) then
   (getI p1.L B1).bind fun x14=>
   (Z69 N x14 p1 p4 p5 p6).bind fun r27=>
   if r27=true then
    (Z6m N p1.L B1).bind fun r30=>
    (Z57 (Z5c N kZ56 p1 p4 p5 p6 n) B1) (!r30)
   else
    (Z57 (Z5c N kZ56 p1 p4 p5 p6 n) B1) true
  else
   kZ56
def Z5b (kZ5e:Int→Option Bool) (D1:Int) (vE31:Bool):Option Bool:=
 if vE31=true then
  some false
 else
  kZ5e (i64.wrap (D1+1))
def Z5a (N:Nat) (kZ5e:Int→Option Bool) (D1:Int) (B2:Int) (vE2:Int) (vE3:Int) (vE4:Int) (vE5:List api_Op) (vE10:List api_Op) (vE15:Int) (vE17:Int) (vE18:Int) (vE19:Int) (vE20:List api_Op) (vE25:List api_Op) (vE30:Int):Option Bool:=
 if ((decide (vE2=14)) && (decide (vE17=14)))=true then
  (Z66 N (i64.wrap (vE15 - 1)) B2 (i64.wrap (vE30 - 1)) D1).bind fun r64=>
  (Z5b kZ5e D1) (!r64)
 else
  (Z5b kZ5e D1) false
def Z5e (N:Nat) (kZ59:Option Bool) (p1:api_Code) (B2:Int):Nat→Int→Option Bool
 | 0,_=>none
 | n+1,D1=>
  if D1 < B2 then
   (getI p1.L B2).bind fun x35=>
   (getI p1.L D1).bind fun x48=>
   (Z5a N (Z5e N kZ59 p1 B2 n) D1 B2) x35.Kind x35.A x35.B x35.E x35.F x35.To x48.Kind x48.A x48.B x48.E x48.F x48.To
  else
   kZ59
def Z59 (kZ5d:Int→Option Bool) (B2:Int):Option Bool:=
 kZ5d (i64.wrap (B2+1))
def Z5d (N:Nat) (kZ58:Option Bool) (p1:api_Code):Nat→Int→Option Bool
 | 0,_=>none
 | n+1,B2=>
  if B2 < (p1.L.length:Int) then
   (Z5e N (Z59 (Z5d N kZ58 p1 n) B2) p1 B2) N 0
  else
   kZ58
def Z58  : Option Bool:=
 some true
def Z56 (N:Nat) (p1:api_Code):Option Bool:=
 (Z5d N Z58 p1) N 0
def Z55 (N:Nat) (p1:api_Code) (p4:Int) (p5:Int) (p6:Int):Option Bool:=
 if ((((decide (p1.Regs < 0)) || (decide (4 < p1.Regs))) || (decide (p1.Counts < 0))) || (decide (12 < p1.Counts)))=true then
  some false
 else
  (Z5c N (Z56 N p1) p1 p4 p5 p6) N 0
def Z5r (kZ5u:Int→Option Bool) (p1:api_Unit) (B1:Int) (C1:Int):Option Bool:=
 (getI p1.Lines B1).bind fun x64=>
 if ((decide (x64≠C1)) && (((decide (B1=0)) || (decide (p1.Stays≤B1))) || (decide (x64≠(i64.wrap (C1 - 1))))))=true then
  some false
 else
  kZ5u (i64.wrap (B1+1))
def Z5u (N:Nat) (kZ5q:Option Bool) (p1:api_Unit):Nat→Int→Option Bool
 | 0,_=>none
 | n+1,B1=>
  if B1 < (p1.Lines.length:Int) then
   (getI p1.Firsts B1).bind fun x52=>
   if ((decide (x52 < 0)) || (decide (4294967296 < x52)))=true then
    some false
   else
    if 0 < B1 then
     (getI p1.Lines (i64.wrap (B1 - 1))).bind fun x59=>
     (Z5r (Z5u N kZ5q p1 n) p1 B1) (i64.wrap (x59+1))
    else
     (Z5r (Z5u N kZ5q p1 n) p1 B1) 0
  else
   kZ5q
def Z5v (N:Nat) (kZ5s:Option Bool) (p1:api_Unit):Nat→Int→Option Bool
 | 0,_=>none
 | n+1,B2=>
  if B2 < (p1.Threads.length:Int) then
   (getI p1.Threads B2).bind fun x71=>
   (Z5o N p1).bind fun r80=>
   (Z55 N x71 (p1.Lines.length:Int) r80 p1.Locks).bind fun r82=>
   if r82=true then
    (Z5v N kZ5s p1 n) (i64.wrap (B2+1))
   else
    some false
  else
   kZ5s
def Z5w (N:Nat) (kZ5t:Option Bool) (p1:api_Unit):Nat→Int→Option Bool
 | 0,_=>none
 | n+1,B3=>
  if B3 < (p1.Claims.length:Int) then
   (getI p1.Claims B3).bind fun x86=>
   (Z4p N x86 p1.Stays).bind fun r95=>
   if r95=true then
    (Z5w N kZ5t p1 n) (i64.wrap (B3+1))
   else
    some false
  else
   kZ5t
def Z5t (N:Nat) (p1:api_Unit):Option Bool:=
 (Z5o N p1).bind fun r98=>
 (Z55 N p1.Recover (p1.Lines.length:Int) r98 p1.Locks).bind fun r100=>
 some r100
def Z5s (N:Nat) (p1:api_Unit):Option Bool:=
 (Z5w N (Z5t N p1) p1) N 0
def Z5q (N:Nat) (p1:api_Unit):Option Bool:=
 (Z5v N (Z5s N p1) p1) N 0
def Z5p (N:Nat) (p1:api_Unit):Option Bool:=
 if ((((((((decide (20 < (p1.Lines.length:Int))) || (decide (p1.Stays < 0))) || (decide ((p1.Lines.length:Int) < p1.Stays))) || (decide ((p1.Firsts.length:Int)≠(p1.Lines.length:Int)))) || (decide (p1.Locks < 0))) || (decide (2 < p1.Locks))) || (decide ((p1.Threads.length:Int) < 1))) || (decide (3 < (p1.Threads.length:Int))))=true then
  some false
 else
  (Z5u N (Z5q N p1) p1) N 0
def Zj (N:Nat) (p1:api_Event):Option Bool:=
 some ((decide (p1.Kind=15)) || (decide (p1.Kind=16)))
def Zi (kZd:(List api_Use)→Option (List api_Use)) (C4:Bool):Option (List api_Use):=
 if C4=true then
  (Cj 24 ([]:List api_Use) ([(api_Use.mk 4 0 true)]:List api_Use)).bind fun l57=>
  kZd l57
 else
  kZd []
def Zh (kZd:(List api_Use)→Option (List api_Use)) (p1:api_Event) (C3:Bool):Option (List api_Use):=
 if C3=true then
  (Cj 24 ([]:List api_Use) ([(api_Use.mk 3 p1.A true)]:List api_Use)).bind fun l45=>
  kZd l45
 else
  if p1.Kind=15 then
   (Zi kZd) (decide (p1.Kind=15))
  else
   (Zi kZd) (decide (p1.Kind=16))
def Zg (N:Nat) (kZd:(List api_Use)→Option (List api_Use)) (kZe:api_Event→(List api_Use)→Option (List api_Use)) (p1:api_Event) (p2:List Int) (p7:Int) (C2:Bool):Option (List api_Use):=
 if C2=true then
  (Cj 24 ([]:List api_Use) ([(api_Use.mk 1 p1.A true)]:List api_Use)).bind fun l26=>
  if (((decide (p1.A < 0)) || (decide (p7≤p1.A))) || (decide ((p2.length:Int)≤p1.A)))=true then
   kZd l26
  else
   (getI p2 p1.A).bind fun x34=>
   kZe (api_Event.mk p1.Kind p1.T x34 p1.N p1.M) l26
 else
  if p1.Kind=13 then
   kZe p1 []
  else
   if p1.Kind=10 then
    (Zh kZd p1) (decide (p1.Kind=10))
   else
    (Zh kZd p1) (decide (p1.Kind=11))
def Zf (N:Nat) (kZd:(List api_Use)→Option (List api_Use)) (kZe:api_Event→(List api_Use)→Option (List api_Use)) (p1:api_Event) (p2:List Int) (p7:Int) (C1:Bool):Option (List api_Use):=
 if C1=true then
  (Cj 24 ([]:List api_Use) ([(api_Use.mk 1 p1.A false)]:List api_Use)).bind fun l14=>
  kZd l14
 else
  if p1.Kind=8 then
   (Zg N kZd kZe p1 p2 p7) (decide (p1.Kind=8))
  else
   (Zg N kZd kZe p1 p2 p7) (decide (p1.Kind=12))
def Ze (kZd:(List api_Use)→Option (List api_Use)) (B1:api_Event) (B2:List api_Use):Option (List api_Use):=
 (Cj 24 B2 ([(api_Use.mk 2 B1.A true)]:List api_Use)).bind fun l67=>
 kZd l67
def Zd (A1:List api_Use):Option (List api_Use):=
 some A1
def Zc (N:Nat) (p1:api_Event) (p2:List Int) (p7:Int):Option (List api_Use):=
 if p1.Kind=1 then
  (Zf N Zd (Ze Zd) p1 p2 p7) (decide (p1.Kind=1))
 else
  (Zf N Zd (Ze Zd) p1 p2 p7) (decide (p1.Kind=9))
def Z0 (N:Nat) (p1:api_Use) (p2:api_Use):Option Bool:=
 if ((decide (p1.What=4)) || (decide (p2.What=4)))=true then
  some true
 else
  some (((decide (p1.What=p2.What)) && (decide (p1.N=p2.N))) && (p1.Write || p2.Write))
def Z3 (N:Nat) (p1:api_Use) (y3:api_Use):Option Bool:=
 (Z0 N y3 p1).bind fun rz6=>
 some rz6
def Z81 (N:Nat) (kZ80:Option Int) (p1:List api_Use) (y7:api_Use):Nat→Int→Option Int
 | 0,_=>none
 | n+1,B1=>
  if B1 < (p1.length:Int) then
   (getI p1 B1).bind fun x10=>
   (Z3 N x10 y7).bind fun r15=>
   if r15=true then
    some B1
   else
    (Z81 N kZ80 p1 y7 n) (i64.wrap (B1+1))
  else
   kZ80
def Z80  : Option Int:=
 some (-1)
def Z7z (N:Nat) (p1:List api_Use) (y7:api_Use):Option Int:=
 (Z81 N Z80 p1 y7) N 0
def Z7x (N:Nat) (p1:List api_Use) (y7:api_Use):Option Bool:=
 (Z7z N p1 y7).bind fun rz9=>
 some (decide (0≤rz9))
def Z2 (N:Nat) (p1:api_Use) (y3:List api_Use):Option Bool:=
 (Z7x N y3 p1).bind fun r10=>
 some r10
def Z83 (N:Nat) (kZ82:Option Int) (p1:List api_Use) (y7:List api_Use):Nat→Int→Option Int
 | 0,_=>none
 | n+1,B1=>
  if B1 < (p1.length:Int) then
   (getI p1 B1).bind fun x14=>
   (Z2 N x14 y7).bind fun r19=>
   if r19=true then
    some B1
   else
    (Z83 N kZ82 p1 y7 n) (i64.wrap (B1+1))
  else
   kZ82
def Z82  : Option Int:=
 some (-1)
def Z7y (N:Nat) (p1:List api_Use) (y7:List api_Use):Option Int:=
 (Z83 N Z82 p1 y7) N 0
def Z7w (N:Nat) (p1:List api_Use) (y7:List api_Use):Option Bool:=
 (Z7y N p1 y7).bind fun r13=>
 some (decide (0≤r13))
def Z4 (N:Nat) (p1:api_Event) (p2:api_Event) (p3:List Int) (p8:Int) (A1:Bool):Option Bool:=
 if A1=true then
  some true
 else
  (Zc N p2 p3 p8).bind fun r18=>
  (Zc N p1 p3 p8).bind fun r26=>
  (Z7w N r26 r18).bind fun r33=>
  some r33
def Z1 (N:Nat) (p1:api_Event) (p2:api_Event) (p3:List Int) (p8:Int):Option Bool:=
 if p1.T=p2.T then
  (Z4 N p1 p2 p3 p8) true
 else
  (Zj N p1).bind fun r12=>
  if r12=true then
   (Z4 N p1 p2 p3 p8) true
  else
   (Zj N p2).bind fun r15=>
   (Z4 N p1 p2 p3 p8) r15
def Z7v (N:Nat) (kZ7u:Option Bool) (p1:List api_Use) (p6:List api_Use):Nat→Int→Option Bool
 | 0,_=>none
 | n+1,B1=>
  if B1 < (p1.length:Int) then
   (getI p1 B1).bind fun x13=>
   (getI p6 B1).bind fun x18=>
   if x13≠x18 then
    some false
   else
    (Z7v N kZ7u p1 p6 n) (i64.wrap (B1+1))
  else
   kZ7u
def Z7u  : Option Bool:=
 some true
def Z7t (N:Nat) (p1:List api_Use) (p6:List api_Use):Option Bool:=
 if (p1.length:Int)≠(p6.length:Int) then
  some false
 else
  (Z7v N Z7u p1 p6) N 0
def Zl (N:Nat) (p1:Int):Option Bool:=
 some ((decide (1≤p1)) && (decide (p1 < 17)))
def Zk (N:Nat)  : Option (Arr 17 event_kind):=
 some (⟨[(event_kind.mk [] false false false),(event_kind.mk [108,111,97,100] true true false),(event_kind.mk [111,119,110] true true false),(event_kind.mk [115,116,111,114,101] true true false),(event_kind.mk [102,108,117,115,104] true false false),(event_kind.mk [111,112,116] true false false),(event_kind.mk [115,102,101,110,99,101] false false false),(event_kind.mk [109,102,101,110,99,101] false false false),(event_kind.mk [99,97,115] true true true),(event_kind.mk [102,97,105,108] true true false),(event_kind.mk [116,97,107,101] true false false),(event_kind.mk [103,105,118,101] true false false),(event_kind.mk [99,111,109,101] true true false),(event_kind.mk [111,117,116] true false false),(event_kind.mk [102,101,110,99,101] false false false),(event_kind.mk [99,114,97,115,104] false true false),(event_kind.mk [102,97,117,108,116] true false false)],rfl⟩:(Arr 17 event_kind))
def Z84 (N:Nat) (p1:Int):Option Str:=
 (Ww p1).bind fun rz2=>
 some rz2
def Za (kZb:Str→Int→Option Str) (B2:Int) (C1:Str):Option Str:=
 kZb C1 (i64.wrap (B2+1))
def Zb (N:Nat) (kZ9:Str→Option Str) (p1:api_Event) (A3:event_kind):Nat→Str→Int→Option Str
 | 0,_,_=>none
 | n+1,B1,B2=>
  if B2 < (([(S_is_n.mk A3.a p1.A),(S_is_n.mk A3.n p1.N),(S_is_n.mk A3.m p1.M)]:List S_is_n).length:Int) then
   (getI ([(S_is_n.mk A3.a p1.A),(S_is_n.mk A3.n p1.N),(S_is_n.mk A3.m p1.M)]:List S_is_n) B2).bind fun x31=>
   if x31.is'=true then
    (Z84 N x31.n).bind fun r39=>
    (Vm [32] r39).bind fun s41=>
    (Vm B1 s41).bind fun s43=>
    (Za (Zb N kZ9 p1 A3 n) B2) s43
   else
    (Za (Zb N kZ9 p1 A3 n) B2) B1
  else
   kZ9 B1
def Z9 (A4:Str):Option Str:=
 some A4
def Z8 (N:Nat) (p1:api_Event) (A3:event_kind):Option Str:=
 (Z84 N p1.T).bind fun r21=>
 (Vm r21 [32]).bind fun s23=>
 (Vm s23 A3.name).bind fun s25=>
 (Zb N Z9 p1 A3) N s25 0
def Z7 (N:Nat) (p1:api_Event):Option Str:=
 (Zl N p1.Kind).bind fun rz3=>
 if rz3=true then
  (Zk N).bind fun rz6=>
  (getI rz6.l p1.Kind).bind fun x15=>
  (Z8 N p1) x15
 else
  some []
def Z6 (N:Nat) (p1:api_Event) (A3:event_kind):Option Bool:=
 some ((((A3.a || (decide (p1.A=0))) && (A3.n || (decide (p1.N=0)))) && (A3.m || (decide (p1.M=0)))) && ((decide (p1.Kind≠15)) || (decide (p1.T=0))))
def Z5 (N:Nat) (p1:api_Event):Option Bool:=
 (Zl N p1.Kind).bind fun rz3=>
 if (((!rz3) || (decide (p1.T < 0))) || (decide (p1.A < 0)))=true then
  some false
 else
  (Zk N).bind fun rz6=>
  (getI rz6.l p1.Kind).bind fun x15=>
  (Z6 N p1) x15
def Z18 (N:Nat)  : Option Bool:=
 (Z1 N (api_Event.mk 1 0 0 5 0) (api_Event.mk 1 1 0 0 0) ([0,0,1]:List Int) 2).bind fun rz9=>
 (Lx (!rz9)).bind fun _=>
 (Z1 N (api_Event.mk 1 0 0 5 0) (api_Event.mk 12 1 0 0 0) ([0,0,1]:List Int) 2).bind fun r12=>
 (Lx r12).bind fun _=>
 (Z1 N (api_Event.mk 12 1 0 0 0) (api_Event.mk 13 2 0 0 0) ([0,0,1]:List Int) 2).bind fun r15=>
 (Lx r15).bind fun _=>
 (Z1 N (api_Event.mk 12 1 0 0 0) (api_Event.mk 13 2 0 0 0) ([0,0,1]:List Int) 0).bind fun r18=>
 (Lx (!r18)).bind fun _=>
 (Z1 N (api_Event.mk 1 0 0 5 0) (api_Event.mk 13 2 0 0 0) ([0,0,1]:List Int) 2).bind fun r21=>
 (Lx (!r21)).bind fun _=>
 (Z1 N (api_Event.mk 1 0 0 5 0) (api_Event.mk 16 1 2 0 0) ([0,0,1]:List Int) 2).bind fun r24=>
 (Lx r24).bind fun _=>
 (Zc N (api_Event.mk 12 1 0 0 0) ([0,0,1]:List Int) 2).bind fun r27=>
 (Z7t N r27 ([(api_Use.mk 1 0 true),(api_Use.mk 2 0 true)]:List api_Use)).bind fun r37=>
 (Lx r37).bind fun _=>
 (Z7 N (api_Event.mk 1 0 0 5 0)).bind fun r40=>
 (Lx (decide (r40=[48,32,108,111,97,100,32,48,32,53]))).bind fun _=>
 (Z7 N (api_Event.mk 16 1 2 0 0)).bind fun r43=>
 (Lx (decide (r43=[49,32,102,97,117,108,116,32,50]))).bind fun _=>
 (Z7 N (api_Event.mk 0 0 0 0 0)).bind fun r46=>
 (Lx (decide (r46=[]))).bind fun _=>
 (Z5 N (api_Event.mk 1 0 0 5 0)).bind fun r49=>
 (Lx r49).bind fun _=>
 (Z5 N (api_Event.mk 14 0 1 0 0)).bind fun r52=>
 (Lx (!r52)).bind fun _=>
 (Z0 N (api_Use.mk 4 0 false) (api_Use.mk 0 0 false)).bind fun r55=>
 (Lx r55).bind fun _=>
 (Z5 N (api_Event.mk 8 0 0 0 3)).bind fun r58=>
 (Lx r58).bind fun _=>
 (Z5 N (api_Event.mk 15 1 0 0 0)).bind fun r61=>
 some (!r61)
def Z3k (N:Nat) (kZ3j:Option Bool) (p1:List Int) (p6:List Int):Nat→Int→Option Bool
 | 0,_=>none
 | n+1,B1=>
  if B1 < (p1.length:Int) then
   (getI p1 B1).bind fun x13=>
   (getI p6 B1).bind fun x18=>
   if x13≠x18 then
    some false
   else
    (Z3k N kZ3j p1 p6 n) (i64.wrap (B1+1))
  else
   kZ3j
def Z3j  : Option Bool:=
 some true
def Z3i (N:Nat) (p1:List Int) (p6:List Int):Option Bool:=
 if (p1.length:Int)≠(p6.length:Int) then
  some false
 else
  (Z3k N Z3j p1 p6) N 0
def Z7n (kZ7o:Int→Option Bool) (B1:Int) (C1:Bool):Option Bool:=
 if C1=true then
  some false
 else
  kZ7o (i64.wrap (B1+1))
def Z7o (N:Nat) (kZ7m:Option Bool) (p1:List api_Pick) (p6:List api_Pick):Nat→Int→Option Bool
 | 0,_=>none
 | n+1,B1=>
  if B1 < (p1.length:Int) then
   (getI p1 B1).bind fun x13=>
   (getI p6 B1).bind fun x22=>
   if x13.Kind≠x22.Kind then
    (Z7n (Z7o N kZ7m p1 p6 n) B1) true
   else
    if x13.T≠x22.T then
     (Z7n (Z7o N kZ7m p1 p6 n) B1) true
    else
     if x13.I≠x22.I then
      (Z7n (Z7o N kZ7m p1 p6 n) B1) true
     else
      (Z3i N x13.Cut x22.Cut).bind fun r34=>
      (Z7n (Z7o N kZ7m p1 p6 n) B1) (!r34)
  else
   kZ7m
def Z7m  : Option Bool:=
 some true
def Z7l (N:Nat) (p1:List api_Pick) (p6:List api_Pick):Option Bool:=
 if (p1.length:Int)≠(p6.length:Int) then
  some false
 else
  (Z7o N Z7m p1 p6) N 0
def Z71 (kZ72:Int→Option ((Option leadlineref11_Mem)×Int)) (B1:Int) (C1:Bool):Option ((Option leadlineref11_Mem)×Int):=
 if C1=true then
  some (none,1)
 else
  kZ72 (i64.wrap (B1+1))
def Z72 (N:Nat) (kZ70:Option ((Option leadlineref11_Mem)×Int)) (p1:List Int) (p6:Int):Nat→Int→Option ((Option leadlineref11_Mem)×Int)
 | 0,_=>none
 | n+1,B1=>
  if B1 < p6 then
   if B1=0 then
    (getI p1 0).bind fun x15=>
    if x15≠0 then
     (Z71 (Z72 N kZ70 p1 p6 n) B1) true
    else
     if 0 < B1 then
      (getI p1 B1).bind fun x22=>
      (getI p1 (i64.wrap (B1 - 1))).bind fun x27=>
      (Z71 (Z72 N kZ70 p1 p6 n) B1) ((decide (x22≠x27)) && (decide (x22≠(i64.wrap (x27+1)))))
     else
      (Z71 (Z72 N kZ70 p1 p6 n) B1) false
   else
    if 0 < B1 then
     (getI p1 B1).bind fun x33=>
     (getI p1 (i64.wrap (B1 - 1))).bind fun x38=>
     (Z71 (Z72 N kZ70 p1 p6 n) B1) ((decide (x33≠x38)) && (decide (x33≠(i64.wrap (x38+1)))))
    else
     (Z71 (Z72 N kZ70 p1 p6 n) B1) false
  else
   kZ70
def Z70 (p1:List Int) (p6:Int) (p7:List Int):Option ((Option leadlineref11_Mem)×Int):=
 (Dj p1 0 p6).bind fun l47=>
 (Cj 8 ([]:List Int) l47).bind fun l55=>
 (Cj 8 ([]:List Int) p7).bind fun l67=>
 (Cj 8 ([]:List Int) p7).bind fun l80=>
 (Dj p7 0 p6).bind fun l92=>
 (Cj 8 ([]:List Int) l92).bind fun l100=>
 some ((some (leadlineref11_Mem.mk l55 l67 l80 l100 [])),0)
def Z6z (N:Nat) (p1:List Int) (p6:Int) (p7:List Int):Option ((Option leadlineref11_Mem)×Int):=
 if ((((decide ((p1.length:Int)≠(p7.length:Int))) || (decide (20 < (p1.length:Int)))) || (decide (p6 < 0))) || (decide ((p1.length:Int) < p6)))=true then
  some (none,1)
 else
  (Z72 N (Z70 p1 p6 p7) p1 p6) N 0
def Z7i (N:Nat) (p1:Int):Option ((Option leadlineref12_Buffer)×Int):=
 if ((decide (p1 < 1)) || (decide (16 < p1)))=true then
  some (none,1)
 else
  some ((some (leadlineref12_Buffer.mk p1 [])),0)
def Z6y (p1:leadlineref11_Mem) (l32:List Int) (A1:List leadlineref11_Put):Option (Int×leadlineref11_Mem):=
 some (0,(leadlineref11_Mem.mk p1.Of p1.Firsts l32 p1.K A1))
def Z6x (N:Nat) (p1:leadlineref11_Mem) (p26:Int) (p27:Int):Option (Int×leadlineref11_Mem):=
 if ((decide (p26 < 0)) || (decide ((p1.L.length:Int)≤p26)))=true then
  some (1,p1)
 else
  (getI p1.L p26).bind fun x29=>
  (Kc p1.L p26 p27).bind fun l32=>
  if p26 < (p1.Of.length:Int) then
   (getI p1.Of p26).bind fun x38=>
   (Cj 24 p1.W ([(leadlineref11_Put.mk x38 p26 p27)]:List leadlineref11_Put)).bind fun l46=>
   (Z6y p1 l32) l46
  else
   (Z6y p1 l32) p1.W
def Z6r (N:Nat) (p1:leadlineref11_Mem):Option (Int×leadlineref11_Mem):=
 if (p1.Of.length:Int)=0 then
  some (0,p1)
 else
  (getI p1.Of (i64.wrap ((p1.Of.length:Int) - 1))).bind fun x27=>
  some ((i64.wrap (x27+1)),p1)
def Z6v (kZ6w:(List Int)→(List leadlineref11_Put)→Int→Option (Int×leadlineref11_Mem)) (B13:Int) (C1:List Int) (C7:List leadlineref11_Put):Option (Int×leadlineref11_Mem):=
 kZ6w C1 C7 (i64.wrap (B13+1))
def Z6w (N:Nat) (kZ6u:(List Int)→(List leadlineref11_Put)→Option (Int×leadlineref11_Mem)) (p26:Int) (A23:List leadlineref11_Put):Nat→(List Int)→(List leadlineref11_Put)→Int→Option (Int×leadlineref11_Mem)
 | 0,_,_,_=>none
 | n+1,B1,B7,B13=>
  if B13 < (A23.length:Int) then
   (getI A23 B13).bind fun x58=>
   if x58.Line=p26 then
    (getI B1 x58.Cell).bind fun x67=>
    (Kc B1 x58.Cell x58.N).bind fun l70=>
    (Z6v (Z6w N kZ6u p26 A23 n) B13) l70 B7
   else
    (Cj 24 B7 ([x58]:List leadlineref11_Put)).bind fun l79=>
    (Z6v (Z6w N kZ6u p26 A23 n) B13) B1 l79
  else
   kZ6u B1 B7
def Z6u (A1:List Int) (A6:List Int) (A11:List Int) (A30:List Int) (A36:List leadlineref11_Put):Option (Int×leadlineref11_Mem):=
 some (0,(leadlineref11_Mem.mk A1 A6 A11 A30 A36))
def Z6t (N:Nat) (p26:Int) (A1:List Int) (A6:List Int) (A11:List Int) (A17:List Int) (A23:List leadlineref11_Put) (A29:Bool):Option (Int×leadlineref11_Mem):=
 if A29=true then
  some (1,(leadlineref11_Mem.mk A1 A6 A11 A17 A23))
 else
  (Z6w N (Z6u A1 A6 A11) p26 A23) N A17 [] 0
def Z6s (N:Nat) (p1:leadlineref11_Mem) (p26:Int):Option (Int×leadlineref11_Mem):=
 if p26 < 0 then
  (Z6t N p26) p1.Of p1.Firsts p1.L p1.K p1.W true
 else
  (Z6r N p1).bind fun r28=>
  (Z6t N p26) r28.2.Of r28.2.Firsts r28.2.L r28.2.K r28.2.W (decide (r28.1≤p26))
def Z6q (N:Nat) (p1:leadlineref11_Mem):Option ((Option leadlineref11_Mem)×leadlineref11_Mem):=
 (Cj 8 ([]:List Int) p1.L).bind fun l29=>
 (Cj 8 ([]:List Int) p1.K).bind fun l38=>
 (Cj 24 ([]:List leadlineref11_Put) p1.W).bind fun l47=>
 some ((some (leadlineref11_Mem.mk p1.Of p1.Firsts l29 l38 l47)),p1)
def Z7k (N:Nat) (p1:api_Entry):Option Bool:=
 if p1.Kind=3 then
  some ((decide (0≤p1.Line)) && (decide (0≤p1.Cell)))
 else
  if ((decide (p1.Cell≠0)) || (decide (p1.N≠0)))=true then
   some false
  else
   some ((((decide (p1.Kind=5)) || (decide (p1.Kind=6))) && (decide (0≤p1.Line))) || ((decide (p1.Kind=7)) && (decide (p1.Line=0))))
def Z7g (p1:leadlineref12_Buffer) (A1:List api_Entry):Option (Int×leadlineref12_Buffer):=
 some (0,(leadlineref12_Buffer.mk p1.Room A1))
def Z7f (N:Nat) (p1:leadlineref12_Buffer) (p8:api_Entry):Option (Int×leadlineref12_Buffer):=
 (Z7k N p8).bind fun r10=>
 if r10=true then
  if p1.Room≤(p1.L.length:Int) then
   some (2,p1)
  else
   (Cj 32 p1.L ([p8]:List api_Entry)).bind fun l17=>
   (Z7g p1) l17
 else
  some (1,p1)
def Z7j (N:Nat) (p1:api_Entry) (p2:api_Entry):Option Bool:=
 if (((decide (p1.Kind=7)) || (decide (p2.Kind=7))) || (decide (p1.Line=p2.Line)))=true then
  some false
 else
  some ((decide (p1.Kind=6)) || (decide (p2.Kind=6)))
def Z75 (N:Nat) (kZ74:Option (Bool×leadlineref12_Buffer)) (p1:leadlineref12_Buffer) (p8:Int):Nat→Int→Option (Bool×leadlineref12_Buffer)
 | 0,_=>none
 | n+1,B1=>
  if B1 < p8 then
   (getI p1.L p8).bind fun x11=>
   (getI p1.L B1).bind fun x17=>
   (Z7j N x11 x17).bind fun r23=>
   if r23=true then
    (Z75 N kZ74 p1 p8 n) (i64.wrap (B1+1))
   else
    some (false,(leadlineref12_Buffer.mk p1.Room p1.L))
  else
   kZ74
def Z74 (p1:leadlineref12_Buffer):Option (Bool×leadlineref12_Buffer):=
 some (true,(leadlineref12_Buffer.mk p1.Room p1.L))
def Z73 (N:Nat) (p1:leadlineref12_Buffer) (p8:Int):Option (Bool×leadlineref12_Buffer):=
 if ((decide (p8 < 0)) || (decide ((p1.L.length:Int)≤p8)))=true then
  some (false,p1)
 else
  (Z75 N (Z74 p1) p1 p8) N 0
def Z78 (kZ79:Int→(List api_Entry)→(List Int)→Int→Option ((List Int)×leadlineref12_Buffer)) (B14:Int) (C1:Int) (C2:List api_Entry) (C8:List Int):Option ((List Int)×leadlineref12_Buffer):=
 kZ79 C1 C2 C8 (i64.wrap (B14+1))
def Z79 (N:Nat) (kZ77:Int→(List api_Entry)→(List Int)→Option ((List Int)×leadlineref12_Buffer)):Nat→Int→(List api_Entry)→(List Int)→Int→Option ((List Int)×leadlineref12_Buffer)
 | 0,_,_,_,_=>none
 | n+1,B1,B2,B8,B14=>
  if B14 < (B2.length:Int) then
   (Z73 N (leadlineref12_Buffer.mk B1 B2) B14).bind fun r12=>
   if r12.1=true then
    (Cj 8 B8 ([B14]:List Int)).bind fun l23=>
    (Z78 (Z79 N kZ77 n) B14) r12.2.Room r12.2.L l23
   else
    (Z78 (Z79 N kZ77 n) B14) r12.2.Room r12.2.L B8
  else
   kZ77 B1 B2 B8
def Z77 (A1:Int) (A2:List api_Entry) (A8:List Int):Option ((List Int)×leadlineref12_Buffer):=
 some (A8,(leadlineref12_Buffer.mk A1 A2))
def Z76 (N:Nat) (p1:leadlineref12_Buffer):Option ((List Int)×leadlineref12_Buffer):=
 (Z79 N Z77) N p1.Room p1.L [] 0
def Z7h (N:Nat) (p1:leadlineref12_Buffer) (p8:Int):Option (api_Entry×Int×leadlineref12_Buffer):=
 if ((decide (p8 < 0)) || (decide ((p1.L.length:Int)≤p8)))=true then
  some ((api_Entry.mk 0 0 0 0),1,p1)
 else
  (Z73 N p1 p8).bind fun r11=>
  if r11.1=true then
   (getI r11.2.L p8).bind fun x19=>
   (Dj r11.2.L 0 p8).bind fun l33=>
   (Cj 32 ([]:List api_Entry) l33).bind fun l41=>
   (Dj r11.2.L (i64.wrap (p8+1)) (r11.2.L.length:Int)).bind fun l50=>
   (Cj 32 l41 l50).bind fun l58=>
   some (x19,0,(leadlineref12_Buffer.mk r11.2.Room l58))
  else
   some ((api_Entry.mk 0 0 0 0),13,r11.2)
def Z7d (N:Nat) (kZ7e:Int→Option (Int×Bool×leadlineref12_Buffer)) (p1:leadlineref12_Buffer) (B1:Int) (C1:Bool):Option (Int×Bool×leadlineref12_Buffer):=
 if C1=true then
  (getI p1.L B1).bind fun x19=>
  some (x19.N,true,(leadlineref12_Buffer.mk p1.Room p1.L))
 else
  kZ7e (i64.wrap (B1 - 1))
def Z7e (N:Nat) (kZ7c:Option (Int×Bool×leadlineref12_Buffer)) (p1:leadlineref12_Buffer) (p8:Int):Nat→Int→Option (Int×Bool×leadlineref12_Buffer)
 | 0,_=>none
 | n+1,B1=>
  if 0≤B1 then
   (getI p1.L B1).bind fun x10=>
   if x10.Kind=3 then
    (Z7d N (Z7e N kZ7c p1 p8 n) p1 B1) (decide (x10.Cell=p8))
   else
    (Z7d N (Z7e N kZ7c p1 p8 n) p1 B1) false
  else
   kZ7c
def Z7c (p1:leadlineref12_Buffer):Option (Int×Bool×leadlineref12_Buffer):=
 some (0,false,(leadlineref12_Buffer.mk p1.Room p1.L))
def Z7b (N:Nat) (p1:leadlineref12_Buffer) (p8:Int):Option (Int×Bool×leadlineref12_Buffer):=
 (Z7e N (Z7c p1) p1 p8) N (i64.wrap ((p1.L.length:Int) - 1))
def Z7a (N:Nat) (p1:leadlineref12_Buffer):Option ((Option leadlineref12_Buffer)×leadlineref12_Buffer):=
 (Cj 32 ([]:List api_Entry) p1.L).bind fun l11=>
 some ((some (leadlineref12_Buffer.mk p1.Room l11)),p1)
def Z19 (N:Nat) (p1:Bool):Option Int:=
 if p1=true then
  some 1
 else
  some 0
def Z1a (N:Nat) (p1:Int) (p2:Int):Option (Int×Int):=
 if p1=3 then
  some ((i64.wrap (0 - p2)),0)
 else
  if p1=4 then
   (Z19 N (decide (p2=0))).bind fun rz5=>
   some (rz5,0)
  else
   some (0,1)
def Z1c (N:Nat) (p1:Int) (p2:Int):Option Int:=
 if ((decide (p1=(-9223372036854775808))) && (decide (p2=(-1))))=true then
  some (-9223372036854775808)
 else
  (Jd9 .i64 p1 p2).bind fun xz4=>
  some xz4
def Z1b (N:Nat) (p1:Int) (p2:Int) (p3:Int):Option (Int×Int):=
 if p1=5 then
  some ((i64.wrap (p2+p3)),0)
 else
  if p1=6 then
   some ((i64.wrap (p2 - p3)),0)
  else
   if p1=7 then
    some ((i64.wrap (p2 * p3)),0)
   else
    if p1=8 then
     if p3=0 then
      some (0,12)
     else
      (Z1c N p2 p3).bind fun rz9=>
      some (rz9,0)
    else
     if p1=9 then
      if p3=0 then
       some (0,12)
      else
       (Z1c N p2 p3).bind fun r13=>
       some ((i64.wrap (p2 - (i64.wrap (p3 * r13)))),0)
     else
      if p1=10 then
       (Z19 N (decide (p2=p3))).bind fun r16=>
       some (r16,0)
      else
       if p1=11 then
        (Z19 N (decide (p2≠p3))).bind fun r19=>
        some (r19,0)
       else
        if p1=12 then
         (Z19 N (decide (p2 < p3))).bind fun r22=>
         some (r22,0)
        else
         if p1=13 then
          (Z19 N (decide (p2≤p3))).bind fun r25=>
          some (r25,0)
         else
          if p1=14 then
           (Z19 N ((decide (p2≠0)) && (decide (p3≠0)))).bind fun r28=>
           some (r28,0)
          else
           if p1=15 then
            (Z19 N ((decide (p2≠0)) || (decide (p3≠0)))).bind fun r31=>
            some (r31,0)
           else
            some (0,1)
def Z4u (kZ4v:(List Int)→Int→Option (Int×Int)) (B7:Int) (C1:List Int):Option (Int×Int):=
 kZ4v C1 (i64.wrap (B7+1))
def Z4v (N:Nat) (kZ4t:(List Int)→Option (Int×Int)) (p1:List api_Op) (p6:List Int):Nat→(List Int)→Int→Option (Int×Int)
 | 0,_,_=>none
 | n+1,B1,B7=>
  if B7 < (p1.length:Int) then
   (getI p1 B7).bind fun x18=>
   if x18.Kind=1 then
    (Cj 8 B1 ([x18.N]:List Int)).bind fun l27=>
    (Z4u (Z4v N kZ4t p1 p6 n) B7) l27
   else
    if x18.Kind=2 then
     (getI p6 x18.N).bind fun x34=>
     (Cj 8 B1 ([x34]:List Int)).bind fun l42=>
     (Z4u (Z4v N kZ4t p1 p6 n) B7) l42
    else
     if ((decide (x18.Kind=3)) || (decide (x18.Kind=4)))=true then
      (getI B1 (i64.wrap ((B1.length:Int) - 1))).bind fun x49=>
      (Z1a N x18.Kind x49).bind fun r55=>
      (Kc B1 (i64.wrap ((B1.length:Int) - 1)) r55.1).bind fun l58=>
      (Z4u (Z4v N kZ4t p1 p6 n) B7) l58
     else
      (getI B1 (i64.wrap ((i64.wrap ((B1.length:Int) - 1)) - 1))).bind fun x63=>
      (getI B1 (i64.wrap ((B1.length:Int) - 1))).bind fun x69=>
      (Z1b N x18.Kind x63 x69).bind fun r75=>
      if r75.2≠0 then
       some (0,r75.2)
      else
       (Dj B1 0 (i64.wrap ((B1.length:Int) - 1))).bind fun l78=>
       (getI l78 (i64.wrap ((i64.wrap ((B1.length:Int) - 1)) - 1))).bind fun x83=>
       (Kc l78 (i64.wrap ((i64.wrap ((B1.length:Int) - 1)) - 1)) r75.1).bind fun l86=>
       (Z4u (Z4v N kZ4t p1 p6 n) B7) l86
  else
   kZ4t B1
def Z4t (A1:List Int):Option (Int×Int):=
 (getI A1 0).bind fun x91=>
 some (x91,0)
def Z4s (N:Nat) (p1:List api_Op) (p6:List Int):Option (Int×Int):=
 (Z4p N p1 (p6.length:Int)).bind fun r11=>
 if r11=true then
  (Z4v N Z4t p1 p6) N [] 0
 else
  some (0,8)
def Z7s (N:Nat) (p1:leadlineref13_Thread) (p17:List api_Op):Option (Int×Bool×leadlineref13_Thread):=
 if (p17.length:Int)=0 then
  some (0,true,p1)
 else
  (Z4s N p17 p1.Regs).bind fun r23=>
  some (r23.1,(decide (r23.2=0)),p1)
def Z7q (kZ7r:Int→Int→(List api_Instr)→Int→(List Int)→(List Int)→Option Addr→Int→Option leadlineref13_Thread) (r48:(Int×Bool×leadlineref13_Thread)) (B1:List Int) (B7:List Int) (B13:Int):Option leadlineref13_Thread:=
 kZ7r r48.2.2.C.Regs r48.2.2.C.Counts r48.2.2.C.L B13 B1 B7 r48.2.2.B r48.2.2.Fault
def Z7r (N:Nat):Nat→Int→Int→(List api_Instr)→Int→(List Int)→(List Int)→Option Addr→Int→Option leadlineref13_Thread
 | 0,_,_,_,_,_,_,_,_=>none
 | n+1,A1,A2,A3,A8,A9,A15,A21,A22=>
  if A8 < (A3.length:Int) then
   (getI A3 A8).bind fun x18=>
   (Z7s N (leadlineref13_Thread.mk (api_Code.mk A1 A2 A3) A8 A9 A15 A21 A22) x18.E).bind fun r32=>
   (Z7s N r32.2.2 x18.F).bind fun r48=>
   if ((!r32.2.1) || (!r48.2.1))=true then
    some (leadlineref13_Thread.mk r48.2.2.C r48.2.2.At r48.2.2.Regs r48.2.2.Counts r48.2.2.B 2)
   else
    if x18.Kind=1 then
     (getI r48.2.2.Regs x18.A).bind fun x66=>
     (Kc r48.2.2.Regs x18.A r32.1).bind fun l69=>
     (Z7q (Z7r N n) r48) l69 r48.2.2.Counts (i64.wrap (r48.2.2.At+1))
    else
     if ((decide (x18.Kind=11)) || ((decide (x18.Kind=12)) && (decide (r32.1=0))))=true then
      (Z7q (Z7r N n) r48) r48.2.2.Regs r48.2.2.Counts x18.To
     else
      if x18.Kind=13 then
       (getI r48.2.2.Counts x18.A).bind fun x76=>
       (Kc r48.2.2.Counts x18.A x18.B).bind fun l79=>
       (Z7q (Z7r N n) r48) r48.2.2.Regs l79 (i64.wrap (r48.2.2.At+1))
      else
       if x18.Kind=14 then
        (getI r48.2.2.Counts x18.A).bind fun x85=>
        (Kc r48.2.2.Counts x18.A (i64.wrap (x85 - 1))).bind fun l92=>
        (getI l92 x18.A).bind fun x97=>
        if 0 < x97 then
         (Z7q (Z7r N n) r48) r48.2.2.Regs l92 x18.To
        else
         (Z7q (Z7r N n) r48) r48.2.2.Regs l92 (i64.wrap (r48.2.2.At+1))
       else
        if ((decide (x18.Kind=15)) && (decide (r32.1=0)))=true then
         some (leadlineref13_Thread.mk r48.2.2.C r48.2.2.At r48.2.2.Regs r48.2.2.Counts r48.2.2.B 1)
        else
         if ((decide (x18.Kind≠12)) && (decide (x18.Kind≠15)))=true then
          some r48.2.2
         else
          (Z7q (Z7r N n) r48) r48.2.2.Regs r48.2.2.Counts (i64.wrap (r48.2.2.At+1))
  else
   some (leadlineref13_Thread.mk (api_Code.mk A1 A2 A3) A8 A9 A15 A21 A22)
def Z7p (N:Nat) (p1:leadlineref13_Thread):Option leadlineref13_Thread:=
 (Z7r N) N p1.C.Regs p1.C.Counts p1.C.L p1.At p1.Regs p1.Counts p1.B p1.Fault
end Go.MD.SWAPS
namespace Go.LM.SWAPS
open Go Go.LL Go.MD Go.LM Go.Proofs Go.MD.SWAPS
abbrev ru4:=@Tryz.runUnderlying4
abbrev ru9:=@Tryz.runUnderlying9
abbrev Ms:=@Tryz.runUnderlying22
abbrev Fz:=@Tryz.runUnderlying23
abbrev Da:=@Tryz.runUnderlying24
abbrev Pp:=@Tryz.runUnderlying25
abbrev Bn:=@Tryz.runUnderlying28
abbrev JgZ:=@Tryz.runUnderlying29
abbrev Vt:=@Tryz.runUnderlying30
abbrev Jl:=@Tryz.runUnderlying31
abbrev JfK:=@Tryz.runUnderlying34
abbrev Eh:=@Tryz.runUnderlying45
abbrev Jat:=@Tryz.runUnderlying60
abbrev Po:=@Tryz.runUnderlying64
abbrev Ly:=@Tryz.runUnderlying75
abbrev Ew:=@Tryz.runUnderlying76
abbrev Gf:=@Tryz.runUnderlying79
abbrev Fq:=@Tryz.runUnderlying82
abbrev Ud:=@Tryz.runUnderlying90
abbrev Ff:=@Tryz.runUnderlying118
abbrev Ja4:=@Tryz.runUnderlying148
abbrev Jg0:=@Tryz.runUnderlying152
abbrev FA (t f k:Nat):Prop:=∀ (ad:Addr) (w:World),(Instr.fieldAt t (.pointer (some ad)) f).run Tryz.prog w=.ok (.pointer (some (ad.add k))) w
abbrev pgC (a0:Option Addr) (c0:Nat) (a1:Option Addr) (c1:Nat) (a2:Option Addr) (c2:Nat) (a3:Option Addr) (c3:Nat) (a4:Option Addr) (c4:Nat) (a5:Option Addr) (c5:Nat) (x:api_Prog):List Value:=[.slice a0 x.Lines.length c0,.slice a1 x.Vols.length c1,.slice a2 x.Locks.length c2,.slice a3 x.Threads.length c3,.slice a4 x.Recover.length c4,.slice a5 x.Claims.length c5]
abbrev mmC (a0:Option Addr) (c0:Nat) (a1:Option Addr) (c1:Nat) (a2:Option Addr) (c2:Nat) (a3:Option Addr) (c3:Nat) (a4:Option Addr) (c4:Nat) (x:leadlineref11_Mem):List Value:=[.slice a0 x.Of.length c0,.slice a1 x.Firsts.length c1,.slice a2 x.L.length c2,.slice a3 x.K.length c3,.slice a4 x.W.length c4]
abbrev stC (a3:Option Addr) (c3:Nat) (a4:Option Addr) (c4:Nat) (x:api_Stmt):List Value:=[.int .i64 x.Kind,Ae x.Reg,Ae x.Name,.slice a3 x.E.length c3,.slice a4 x.F.length c4,.int .i64 x.N,.int .i64 x.Body,.int .i64 x.Else,.int .i64 x.At]
abbrev unC (a0:Option Addr) (c0:Nat) (a2:Option Addr) (c2:Nat) (a4:Option Addr) (c4:Nat) (a7:Option Addr) (c7:Nat) (a8:Option Addr) (c8:Nat) (x:api_Unit):List Value:=[.slice a0 x.Lines.length c0,.int .i64 x.Stays,.slice a2 x.Firsts.length c2,.int .i64 x.Locks,.slice a4 x.Threads.length c4,.int .i64 x.Recover.Regs,.int .i64 x.Recover.Counts,.slice a7 x.Recover.L.length c7,.slice a8 x.Claims.length c8]
abbrev inC (a3:Option Addr) (c3:Nat) (a4:Option Addr) (c4:Nat) (x:api_Instr):List Value:=[.int .i64 x.Kind,.int .i64 x.A,.int .i64 x.B,.slice a3 x.E.length c3,.slice a4 x.F.length c4,.int .i64 x.To]
abbrev thC (a1:Option Addr) (c1:Nat) (a2:Option Addr) (c2:Nat) (x:api_Thread):List Value:=[Ae x.Name,.slice a1 x.Regs.length c1,.slice a2 x.Body.length c2]
abbrev enC (a0:Option Addr) (c0:Nat) (a1:Option Addr) (c1:Nat) (a2:Option Addr) (c2:Nat) (a3:Option Addr) (c3:Nat) (a4:Option Addr) (c4:Nat) (a5:Option Addr) (c5:Nat) (a6:Option Addr) (c6:Nat) (x:leadlineref09_Env):List Value:=[.slice a0 x.P.Lines.length c0,.slice a1 x.P.Vols.length c1,.slice a2 x.P.Locks.length c2,.slice a3 x.P.Threads.length c3,.slice a4 x.P.Recover.length c4,.slice a5 x.P.Claims.length c5,.slice a6 x.Regs.length c6]
theorem wide:Tryz.prog.follows .mixedOrders=true:=by kernel_rfl
theorem Bs:(Tryz.prog.info? 3).map (fun i=>(i.zero,i.size,i.bytes))=some (some (.int .i64 0),1,8):=by kernel_rfl
theorem JeB:(Tryz.prog.info? 9).map (fun i=>(i.zero,i.size,i.bytes))=some (some (.string ⟨#[]⟩),1,16):=by kernel_rfl
theorem JeN:(Tryz.prog.info? 23).map (fun i=>(i.zero,i.size,i.bytes))=some (some (.slice none 0 0),1,24):=by kernel_rfl
theorem JeY:(Tryz.prog.info? 33).map (fun i=>(i.zero,i.size,i.bytes))=some (some (.agg #[.int .i64 0,.int .i64 0,.slice none 0 0]),3,40):=by kernel_rfl
theorem Jax:(Tryz.prog.info? 78).map (fun i=>(i.zero,i.size,i.bytes))=some (some (.agg #[.string ⟨#[]⟩,.slice none 0 0,.slice none 0 0,.int .i64 0]),4,72):=by kernel_rfl
theorem JeM:(Tryz.prog.info? 79).map (fun i=>(i.zero,i.size,i.bytes))=some (some (.slice none 0 0),1,24):=by kernel_rfl
theorem Jfm:(Tryz.prog.info? 84).map (fun i=>(i.zero,i.size,i.bytes))=some (some (.agg #[.slice none 0 0,.int .i64 0]),2,32):=by kernel_rfl
theorem Ql:(Tryz.prog.info? 93).map (fun i=>(i.zero,i.size,i.bytes))=some (some (.agg #[.int .i64 0,.int .i64 0,.bool false]),3,24):=by kernel_rfl
theorem Nx:(Tryz.prog.info? 123).map (fun i=>(i.zero,i.size,i.bytes))=some (some (.agg #[.int .i64 0,.int .i64 0,.int .i64 0]),3,24):=by kernel_rfl
theorem Jdu:(Tryz.prog.info? 130).map (fun i=>(i.zero,i.size,i.bytes))=some (some (.agg #[.int .i64 0,.string ⟨#[]⟩,.string ⟨#[]⟩,.slice none 0 0,.slice none 0 0,.int .i64 0,.int .i64 0,.int .i64 0,.int .i64 0]),9,120):=by kernel_rfl
theorem Lj:(Tryz.prog.info? 134).map (fun i=>(i.zero,i.size,i.bytes))=some (some (.agg #[.string ⟨#[]⟩,.int .i64 0,.int .i64 0]),3,32):=by kernel_rfl
theorem Jdq:(Tryz.prog.info? 141).map (fun i=>(i.zero,i.size,i.bytes))=some (some (.agg #[.int .i64 0,.int .i64 0,.string ⟨#[]⟩,.int .i64 0]),4,40):=by kernel_rfl
theorem Gm:(Tryz.prog.info? 157).map (fun i=>(i.zero,i.size,i.bytes))=some (some (.agg #[.int .i64 0,.int .i64 0,.int .i64 0,.slice none 0 0,.slice none 0 0,.int .i64 0]),6,80):=by kernel_rfl
theorem Ni:(Tryz.prog.info? 159).map (fun i=>(i.zero,i.size,i.bytes))=some (some (.agg #[.int .i64 0,.int .i64 0,.int .i64 0,.int .i64 0]),4,32):=by kernel_rfl
theorem JaL:(Tryz.prog.info? 176).map (fun i=>(i.zero,i.size,i.bytes))=some (some (.agg #[.int .i64 0,.int .i64 0]),2,16):=by kernel_rfl
theorem Ei:FA 27 0 0:=fun _ _=>by kernel_rfl
theorem Km:FA 27 1 1:=fun _ _=>by kernel_rfl
theorem Kw:FA 27 2 2:=fun _ _=>by kernel_rfl
theorem Ia:FA 27 3 3:=fun _ _=>by kernel_rfl
theorem Oe:FA 27 4 4:=fun _ _=>by kernel_rfl
theorem Fw:FA 27 5 5:=fun _ _=>by kernel_rfl
theorem Jn:FA 33 0 0:=fun _ _=>by kernel_rfl
theorem Uf:FA 33 1 1:=fun _ _=>by kernel_rfl
theorem Ge:FA 33 2 2:=fun _ _=>by kernel_rfl
theorem Et:FA 36 0 0:=fun _ _=>by kernel_rfl
theorem Iq:FA 36 1 1:=fun _ _=>by kernel_rfl
theorem Rf:FA 36 2 2:=fun _ _=>by kernel_rfl
theorem Se:FA 36 3 3:=fun _ _=>by kernel_rfl
theorem Mx:FA 36 4 4:=fun _ _=>by kernel_rfl
theorem JbY:FA 36 5 5:=fun _ _=>by kernel_rfl
theorem Vi:FA 36 6 8:=fun _ _=>by kernel_rfl
theorem Dv:FA 48 0 0:=fun _ _=>by kernel_rfl
theorem Jp:FA 48 1 1:=fun _ _=>by kernel_rfl
theorem Gx:FA 48 2 2:=fun _ _=>by kernel_rfl
theorem Kp:FA 48 3 3:=fun _ _=>by kernel_rfl
theorem Jad:FA 48 4 4:=fun _ _=>by kernel_rfl
theorem Ha:FA 52 0 0:=fun _ _=>by kernel_rfl
theorem Gy:FA 52 1 1:=fun _ _=>by kernel_rfl
theorem Ml:FA 52 2 2:=fun _ _=>by kernel_rfl
theorem Yn:FA 52 3 3:=fun _ _=>by kernel_rfl
theorem Jt:FA 62 0 0:=fun _ _=>by kernel_rfl
theorem Jfe:FA 62 1 1:=fun _ _=>by kernel_rfl
theorem Ks:FA 62 2 2:=fun _ _=>by kernel_rfl
theorem Qn:FA 62 3 3:=fun _ _=>by kernel_rfl
theorem Gh:FA 62 4 4:=fun _ _=>by kernel_rfl
theorem Jm:FA 78 0 0:=fun _ _=>by kernel_rfl
theorem Ec:FA 78 1 1:=fun _ _=>by kernel_rfl
theorem Mt:FA 78 2 2:=fun _ _=>by kernel_rfl
theorem Rj:FA 78 3 3:=fun _ _=>by kernel_rfl
theorem Ub:FA 84 0 0:=fun _ _=>by kernel_rfl
theorem Ja1:FA 84 1 1:=fun _ _=>by kernel_rfl
theorem U9:FA 93 0 0:=fun _ _=>by kernel_rfl
theorem JcJ:FA 93 1 1:=fun _ _=>by kernel_rfl
theorem Jcf:FA 93 2 2:=fun _ _=>by kernel_rfl
theorem Jr:FA 107 0 0:=fun _ _=>by kernel_rfl
theorem Fi:FA 107 1 3:=fun _ _=>by kernel_rfl
theorem Kz:FA 107 2 4:=fun _ _=>by kernel_rfl
theorem Nl:FA 107 3 5:=fun _ _=>by kernel_rfl
theorem Ll:FA 107 5 7:=fun _ _=>by kernel_rfl
theorem Jbb:FA 120 0 0:=fun _ _=>by kernel_rfl
theorem Cd:FA 120 1 1:=fun _ _=>by kernel_rfl
theorem JaD:FA 123 0 0:=fun _ _=>by kernel_rfl
theorem JdZ:FA 123 1 1:=fun _ _=>by kernel_rfl
theorem JdK:FA 123 2 2:=fun _ _=>by kernel_rfl
theorem Cz:FA 130 0 0:=fun _ _=>by kernel_rfl
theorem Fl:FA 130 1 1:=fun _ _=>by kernel_rfl
theorem Hf:FA 130 2 2:=fun _ _=>by kernel_rfl
theorem Hr:FA 130 3 3:=fun _ _=>by kernel_rfl
theorem Li:FA 130 4 4:=fun _ _=>by kernel_rfl
theorem N3:FA 130 5 5:=fun _ _=>by kernel_rfl
theorem Ho:FA 130 6 6:=fun _ _=>by kernel_rfl
theorem El:FA 130 7 7:=fun _ _=>by kernel_rfl
theorem Jx:FA 130 8 8:=fun _ _=>by kernel_rfl
theorem Jw:FA 134 0 0:=fun _ _=>by kernel_rfl
theorem Nk:FA 134 1 1:=fun _ _=>by kernel_rfl
theorem JaK:FA 134 2 2:=fun _ _=>by kernel_rfl
theorem Vf:FA 136 0 0:=fun _ _=>by kernel_rfl
theorem Pr:FA 136 1 6:=fun _ _=>by kernel_rfl
theorem Cy:FA 141 0 0:=fun _ _=>by kernel_rfl
theorem Gp:FA 141 1 1:=fun _ _=>by kernel_rfl
theorem Gn:FA 141 2 2:=fun _ _=>by kernel_rfl
theorem Ji:FA 141 3 3:=fun _ _=>by kernel_rfl
theorem Jdn:FA 147 0 0:=fun _ _=>by kernel_rfl
theorem Ja8:FA 147 1 1:=fun _ _=>by kernel_rfl
theorem JaZ:FA 147 2 2:=fun _ _=>by kernel_rfl
theorem JaS:FA 147 3 3:=fun _ _=>by kernel_rfl
theorem Jdy:FA 151 0 0:=fun _ _=>by kernel_rfl
theorem JdQ:FA 151 1 1:=fun _ _=>by kernel_rfl
theorem Bq:FA 157 0 0:=fun _ _=>by kernel_rfl
theorem Dw:FA 157 1 1:=fun _ _=>by kernel_rfl
theorem Ch:FA 157 2 2:=fun _ _=>by kernel_rfl
theorem Fp:FA 157 3 3:=fun _ _=>by kernel_rfl
theorem Ij:FA 157 4 4:=fun _ _=>by kernel_rfl
theorem Ee:FA 157 5 5:=fun _ _=>by kernel_rfl
theorem Fa:FA 159 0 0:=fun _ _=>by kernel_rfl
theorem Ju:FA 159 1 1:=fun _ _=>by kernel_rfl
theorem Nc:FA 159 2 2:=fun _ _=>by kernel_rfl
theorem Pu:FA 159 3 3:=fun _ _=>by kernel_rfl
theorem Lf:FA 176 0 0:=fun _ _=>by kernel_rfl
theorem Vd:FA 176 1 1:=fun _ _=>by kernel_rfl
instance:Enc (Option Addr):={ sz:=1,rep:=fun _ cs x=>cs=[.pointer x],len:=fun h=>by rw [h];rfl,mono:=fun _ h=>h,one:=fun h=>by subst h;exact Jbk rfl }
instance:EncF (Option Addr):={ ind:=fun h=>h }
instance:Enc api_Cell:=Enc.via (β:=Str×Int×Int) 3 rfl fun x=>(x.Name,x.N,x.At)
theorem Ex {h:PH} {cs:List Value} {x:api_Cell} (hx:Enc.rep h cs x):cs=[Ae x.Name,.int .i64 x.N,.int .i64 x.At]:=by
  have hx:Enc.rep (α:=Str×Int×Int) h cs (x.Name,x.N,x.At):=hx
  obtain ⟨q0,r0,e0,g0,hx⟩:=hx
  obtain ⟨q1,r1,e1,g1,hx⟩:=hx
  have w0:=g0
  have w1:=g1
  have w2:=hx
  exact (by rw [e0,w0,e1,w1,w2];rfl)
instance:EncF api_Cell:={ ind:=fun h=>EncF.ind (α:=Str×Int×Int) h }
instance:Enc api_Node:=Enc.via (β:=Int×Int×Str×Int) 4 rfl fun x=>(x.Op,x.N,x.Name,x.At)
theorem Cf {h:PH} {cs:List Value} {x:api_Node} (hx:Enc.rep h cs x):cs=[.int .i64 x.Op,.int .i64 x.N,Ae x.Name,.int .i64 x.At]:=by
  have hx:Enc.rep (α:=Int×Int×Str×Int) h cs (x.Op,x.N,x.Name,x.At):=hx
  obtain ⟨q0,r0,e0,g0,hx⟩:=hx
  obtain ⟨q1,r1,e1,g1,hx⟩:=hx
  obtain ⟨q2,r2,e2,g2,hx⟩:=hx
  have w0:=g0
  have w1:=g1
  have w2:=g2
  have w3:=hx
  exact (by rw [e0,w0,e1,w1,e2,w2,w3];rfl)
instance:EncF api_Node:={ ind:=fun h=>EncF.ind (α:=Int×Int×Str×Int) h }
instance:Enc api_Stmt:=Enc.via (β:=Int×Str×Str×(List api_Node)×(List api_Node)×Int×Int×Int×Int) 9 rfl fun x=>(x.Kind,x.Reg,x.Name,x.E,x.F,x.N,x.Body,x.Else,x.At)
theorem Cb {h:PH} {cs:List Value} {x:api_Stmt} (hx:Enc.rep h cs x):∃ (o3:Option Addr) (c3:Nat) (o4:Option Addr) (c4:Nat),cs=[.int .i64 x.Kind,Ae x.Reg,Ae x.Name,.slice o3 x.E.length c3,.slice o4 x.F.length c4,.int .i64 x.N,.int .i64 x.Body,.int .i64 x.Else,.int .i64 x.At]∧x.E.length≤c3∧SR h o3 x.E∧x.F.length≤c4∧SR h o4 x.F:=by
  have hx:Enc.rep (α:=Int×Str×Str×(List api_Node)×(List api_Node)×Int×Int×Int×Int) h cs (x.Kind,x.Reg,x.Name,x.E,x.F,x.N,x.Body,x.Else,x.At):=hx
  obtain ⟨q0,r0,e0,g0,hx⟩:=hx
  obtain ⟨q1,r1,e1,g1,hx⟩:=hx
  obtain ⟨q2,r2,e2,g2,hx⟩:=hx
  obtain ⟨q3,r3,e3,g3,hx⟩:=hx
  obtain ⟨q4,r4,e4,g4,hx⟩:=hx
  obtain ⟨q5,r5,e5,g5,hx⟩:=hx
  obtain ⟨q6,r6,e6,g6,hx⟩:=hx
  obtain ⟨q7,r7,e7,g7,hx⟩:=hx
  have w0:=g0
  have w1:=g1
  have w2:=g2
  obtain ⟨o3,c3,w3,y3,z3⟩:=g3
  obtain ⟨o4,c4,w4,y4,z4⟩:=g4
  have w5:=g5
  have w6:=g6
  have w7:=g7
  have w8:=hx
  exact ⟨o3,c3,o4,c4,by rw [e0,w0,e1,w1,e2,w2,e3,w3,e4,w4,e5,w5,e6,w6,e7,w7,w8];rfl,y3,z3,y4,z4⟩
instance:Enc api_Thread:=Enc.via (β:=Str×(List Str)×(List api_Stmt)×Int) 4 rfl fun x=>(x.Name,x.Regs,x.Body,x.At)
theorem Bm {h:PH} {cs:List Value} {x:api_Thread} (hx:Enc.rep h cs x):∃ (o1:Option Addr) (c1:Nat) (o2:Option Addr) (c2:Nat),cs=[Ae x.Name,.slice o1 x.Regs.length c1,.slice o2 x.Body.length c2,.int .i64 x.At]∧x.Regs.length≤c1∧SR h o1 x.Regs∧x.Body.length≤c2∧SR h o2 x.Body:=by
  have hx:Enc.rep (α:=Str×(List Str)×(List api_Stmt)×Int) h cs (x.Name,x.Regs,x.Body,x.At):=hx
  obtain ⟨q0,r0,e0,g0,hx⟩:=hx
  obtain ⟨q1,r1,e1,g1,hx⟩:=hx
  obtain ⟨q2,r2,e2,g2,hx⟩:=hx
  have w0:=g0
  obtain ⟨o1,c1,w1,y1,z1⟩:=g1
  obtain ⟨o2,c2,w2,y2,z2⟩:=g2
  have w3:=hx
  exact ⟨o1,c1,o2,c2,by rw [e0,w0,e1,w1,e2,w2,w3];rfl,y1,z1,y2,z2⟩
instance:Enc api_Claim:=Enc.via (β:=(List api_Node)×Int) 2 rfl fun x=>(x.E,x.At)
theorem Fj {h:PH} {cs:List Value} {x:api_Claim} (hx:Enc.rep h cs x):∃ (o0:Option Addr) (c0:Nat),cs=[.slice o0 x.E.length c0,.int .i64 x.At]∧x.E.length≤c0∧SR h o0 x.E:=by
  have hx:Enc.rep (α:=(List api_Node)×Int) h cs (x.E,x.At):=hx
  obtain ⟨q0,r0,e0,g0,hx⟩:=hx
  obtain ⟨o0,c0,w0,y0,z0⟩:=g0
  have w1:=hx
  exact ⟨o0,c0,by rw [e0,w0,w1];rfl,y0,z0⟩
instance:Enc api_Prog:=Enc.via (β:=(List (List api_Cell))×(List api_Cell)×(List api_Cell)×(List api_Thread)×(List api_Thread)×(List api_Claim)) 6 rfl fun x=>(x.Lines,x.Vols,x.Locks,x.Threads,x.Recover,x.Claims)
theorem Bc {h:PH} {cs:List Value} {x:api_Prog} (hx:Enc.rep h cs x):∃ (o0:Option Addr) (c0:Nat) (o1:Option Addr) (c1:Nat) (o2:Option Addr) (c2:Nat) (o3:Option Addr) (c3:Nat) (o4:Option Addr) (c4:Nat) (o5:Option Addr) (c5:Nat),cs=[.slice o0 x.Lines.length c0,.slice o1 x.Vols.length c1,.slice o2 x.Locks.length c2,.slice o3 x.Threads.length c3,.slice o4 x.Recover.length c4,.slice o5 x.Claims.length c5]∧x.Lines.length≤c0∧SR h o0 x.Lines∧x.Vols.length≤c1∧SR h o1 x.Vols∧x.Locks.length≤c2∧SR h o2 x.Locks∧x.Threads.length≤c3∧SR h o3 x.Threads∧x.Recover.length≤c4∧SR h o4 x.Recover∧x.Claims.length≤c5∧SR h o5 x.Claims:=by
  have hx:Enc.rep (α:=(List (List api_Cell))×(List api_Cell)×(List api_Cell)×(List api_Thread)×(List api_Thread)×(List api_Claim)) h cs (x.Lines,x.Vols,x.Locks,x.Threads,x.Recover,x.Claims):=hx
  obtain ⟨q0,r0,e0,g0,hx⟩:=hx
  obtain ⟨q1,r1,e1,g1,hx⟩:=hx
  obtain ⟨q2,r2,e2,g2,hx⟩:=hx
  obtain ⟨q3,r3,e3,g3,hx⟩:=hx
  obtain ⟨q4,r4,e4,g4,hx⟩:=hx
  obtain ⟨o0,c0,w0,y0,z0⟩:=g0
  obtain ⟨o1,c1,w1,y1,z1⟩:=g1
  obtain ⟨o2,c2,w2,y2,z2⟩:=g2
  obtain ⟨o3,c3,w3,y3,z3⟩:=g3
  obtain ⟨o4,c4,w4,y4,z4⟩:=g4
  obtain ⟨o5,c5,w5,y5,z5⟩:=hx
  exact ⟨o0,c0,o1,c1,o2,c2,o3,c3,o4,c4,o5,c5,by rw [e0,w0,e1,w1,e2,w2,e3,w3,e4,w4,w5];rfl,y0,z0,y1,z1,y2,z2,y3,z3,y4,z4,y5,z5⟩
instance:Enc api_Op:=Enc.via (β:=Int×Int) 2 rfl fun x=>(x.Kind,x.N)
theorem Kf {h:PH} {cs:List Value} {x:api_Op} (hx:Enc.rep h cs x):cs=[.int .i64 x.Kind,.int .i64 x.N]:=by
  have hx:Enc.rep (α:=Int×Int) h cs (x.Kind,x.N):=hx
  obtain ⟨q0,r0,e0,g0,hx⟩:=hx
  have w0:=g0
  have w1:=hx
  exact (by rw [e0,w0,w1];rfl)
instance:EncF api_Op:={ ind:=fun h=>EncF.ind (α:=Int×Int) h }
instance:Enc api_Instr:=Enc.via (β:=Int×Int×Int×(List api_Op)×(List api_Op)×Int) 6 rfl fun x=>(x.Kind,x.A,x.B,x.E,x.F,x.To)
theorem Bv {h:PH} {cs:List Value} {x:api_Instr} (hx:Enc.rep h cs x):∃ (o3:Option Addr) (c3:Nat) (o4:Option Addr) (c4:Nat),cs=[.int .i64 x.Kind,.int .i64 x.A,.int .i64 x.B,.slice o3 x.E.length c3,.slice o4 x.F.length c4,.int .i64 x.To]∧x.E.length≤c3∧SR h o3 x.E∧x.F.length≤c4∧SR h o4 x.F:=by
  have hx:Enc.rep (α:=Int×Int×Int×(List api_Op)×(List api_Op)×Int) h cs (x.Kind,x.A,x.B,x.E,x.F,x.To):=hx
  obtain ⟨q0,r0,e0,g0,hx⟩:=hx
  obtain ⟨q1,r1,e1,g1,hx⟩:=hx
  obtain ⟨q2,r2,e2,g2,hx⟩:=hx
  obtain ⟨q3,r3,e3,g3,hx⟩:=hx
  obtain ⟨q4,r4,e4,g4,hx⟩:=hx
  have w0:=g0
  have w1:=g1
  have w2:=g2
  obtain ⟨o3,c3,w3,y3,z3⟩:=g3
  obtain ⟨o4,c4,w4,y4,z4⟩:=g4
  have w5:=hx
  exact ⟨o3,c3,o4,c4,by rw [e0,w0,e1,w1,e2,w2,e3,w3,e4,w4,w5];rfl,y3,z3,y4,z4⟩
instance:Enc api_Code:=Enc.via (β:=Int×Int×(List api_Instr)) 3 rfl fun x=>(x.Regs,x.Counts,x.L)
theorem Cp {h:PH} {cs:List Value} {x:api_Code} (hx:Enc.rep h cs x):∃ (o2:Option Addr) (c2:Nat),cs=[.int .i64 x.Regs,.int .i64 x.Counts,.slice o2 x.L.length c2]∧x.L.length≤c2∧SR h o2 x.L:=by
  have hx:Enc.rep (α:=Int×Int×(List api_Instr)) h cs (x.Regs,x.Counts,x.L):=hx
  obtain ⟨q0,r0,e0,g0,hx⟩:=hx
  obtain ⟨q1,r1,e1,g1,hx⟩:=hx
  have w0:=g0
  have w1:=g1
  obtain ⟨o2,c2,w2,y2,z2⟩:=hx
  exact ⟨o2,c2,by rw [e0,w0,e1,w1,w2];rfl,y2,z2⟩
instance:Enc api_Unit:=Enc.via (β:=(List Int)×Int×(List Int)×Int×(List api_Code)×api_Code×(List (List api_Op))) 9 rfl fun x=>(x.Lines,x.Stays,x.Firsts,x.Locks,x.Threads,x.Recover,x.Claims)
instance:Enc leadlineref09_Env:=Enc.via (β:=api_Prog×(List Str)) 7 rfl fun x=>(x.P,x.Regs)
instance:Enc api_Event:=Enc.via (β:=Int×Int×Int×Int×Int) 5 rfl fun x=>(x.Kind,x.T,x.A,x.N,x.M)
instance:EncF api_Event:={ ind:=fun h=>EncF.ind (α:=Int×Int×Int×Int×Int) h }
instance:Enc api_Use:=Enc.via (β:=Int×Int×Bool) 3 rfl fun x=>(x.What,x.N,x.Write)
theorem Hk {h:PH} {cs:List Value} {x:api_Use} (hx:Enc.rep h cs x):cs=[.int .i64 x.What,.int .i64 x.N,.bool x.Write]:=by
  have hx:Enc.rep (α:=Int×Int×Bool) h cs (x.What,x.N,x.Write):=hx
  obtain ⟨q0,r0,e0,g0,hx⟩:=hx
  obtain ⟨q1,r1,e1,g1,hx⟩:=hx
  have w0:=g0
  have w1:=g1
  have w2:=hx
  exact (by rw [e0,w0,e1,w1,w2];rfl)
instance:EncF api_Use:={ ind:=fun h=>EncF.ind (α:=Int×Int×Bool) h }
instance:Enc event_kind:=Enc.via (β:=Str×Bool×Bool×Bool) 4 rfl fun x=>(x.name,x.a,x.n,x.m)
theorem Ez {h:PH} {cs:List Value} {x:event_kind} (hx:Enc.rep h cs x):cs=[Ae x.name,.bool x.a,.bool x.n,.bool x.m]:=by
  have hx:Enc.rep (α:=Str×Bool×Bool×Bool) h cs (x.name,x.a,x.n,x.m):=hx
  obtain ⟨q0,r0,e0,g0,hx⟩:=hx
  obtain ⟨q1,r1,e1,g1,hx⟩:=hx
  obtain ⟨q2,r2,e2,g2,hx⟩:=hx
  have w0:=g0
  have w1:=g1
  have w2:=g2
  have w3:=hx
  exact (by rw [e0,w0,e1,w1,e2,w2,w3];rfl)
instance:EncF event_kind:={ ind:=fun h=>EncF.ind (α:=Str×Bool×Bool×Bool) h }
instance:Enc S_is_n:=Enc.via (β:=Bool×Int) 2 rfl fun x=>(x.is',x.n)
theorem Xa {h:PH} {cs:List Value} {x:S_is_n} (hx:Enc.rep h cs x):cs=[.bool x.is',.int .i64 x.n]:=by
  have hx:Enc.rep (α:=Bool×Int) h cs (x.is',x.n):=hx
  obtain ⟨q0,r0,e0,g0,hx⟩:=hx
  have w0:=g0
  have w1:=hx
  exact (by rw [e0,w0,w1];rfl)
instance:EncF S_is_n:={ ind:=fun h=>EncF.ind (α:=Bool×Int) h }
instance:Enc api_Pick:=Enc.via (β:=Int×Int×Int×(List Int)) 4 rfl fun x=>(x.Kind,x.T,x.I,x.Cut)
theorem Md {h:PH} {cs:List Value} {x:api_Pick} (hx:Enc.rep h cs x):∃ (o3:Option Addr) (c3:Nat),cs=[.int .i64 x.Kind,.int .i64 x.T,.int .i64 x.I,.slice o3 x.Cut.length c3]∧x.Cut.length≤c3∧SR h o3 x.Cut:=by
  have hx:Enc.rep (α:=Int×Int×Int×(List Int)) h cs (x.Kind,x.T,x.I,x.Cut):=hx
  obtain ⟨q0,r0,e0,g0,hx⟩:=hx
  obtain ⟨q1,r1,e1,g1,hx⟩:=hx
  obtain ⟨q2,r2,e2,g2,hx⟩:=hx
  have w0:=g0
  have w1:=g1
  have w2:=g2
  obtain ⟨o3,c3,w3,y3,z3⟩:=hx
  exact ⟨o3,c3,by rw [e0,w0,e1,w1,e2,w2,w3];rfl,y3,z3⟩
instance:Enc leadlineref11_Put:=Enc.via (β:=Int×Int×Int) 3 rfl fun x=>(x.Line,x.Cell,x.N)
theorem Fs {h:PH} {cs:List Value} {x:leadlineref11_Put} (hx:Enc.rep h cs x):cs=[.int .i64 x.Line,.int .i64 x.Cell,.int .i64 x.N]:=by
  have hx:Enc.rep (α:=Int×Int×Int) h cs (x.Line,x.Cell,x.N):=hx
  obtain ⟨q0,r0,e0,g0,hx⟩:=hx
  obtain ⟨q1,r1,e1,g1,hx⟩:=hx
  have w0:=g0
  have w1:=g1
  have w2:=hx
  exact (by rw [e0,w0,e1,w1,w2];rfl)
instance:EncF leadlineref11_Put:={ ind:=fun h=>EncF.ind (α:=Int×Int×Int) h }
instance:Enc leadlineref11_Mem:=Enc.via (β:=(List Int)×(List Int)×(List Int)×(List Int)×(List leadlineref11_Put)) 5 rfl fun x=>(x.Of,x.Firsts,x.L,x.K,x.W)
instance:Enc api_Entry:=Enc.via (β:=Int×Int×Int×Int) 4 rfl fun x=>(x.Kind,x.Line,x.Cell,x.N)
theorem Dm {h:PH} {cs:List Value} {x:api_Entry} (hx:Enc.rep h cs x):cs=[.int .i64 x.Kind,.int .i64 x.Line,.int .i64 x.Cell,.int .i64 x.N]:=by
  have hx:Enc.rep (α:=Int×Int×Int×Int) h cs (x.Kind,x.Line,x.Cell,x.N):=hx
  obtain ⟨q0,r0,e0,g0,hx⟩:=hx
  obtain ⟨q1,r1,e1,g1,hx⟩:=hx
  obtain ⟨q2,r2,e2,g2,hx⟩:=hx
  have w0:=g0
  have w1:=g1
  have w2:=g2
  have w3:=hx
  exact (by rw [e0,w0,e1,w1,e2,w2,w3];rfl)
instance:EncF api_Entry:={ ind:=fun h=>EncF.ind (α:=Int×Int×Int×Int) h }
instance:Enc leadlineref12_Buffer:=Enc.via (β:=Int×(List api_Entry)) 2 rfl fun x=>(x.Room,x.L)
instance:Enc leadlineref13_Thread:=Enc.via (β:=api_Code×Int×(List Int)×(List Int)×(Option Addr)×Int) 8 rfl fun x=>(x.C,x.At,x.Regs,x.Counts,x.B,x.Fault)
theorem Wk (x y:api_Use) (w:World):(Op.equalIn 10000 93 (.agg #[.int .i64 x.What,.int .i64 x.N,.bool x.Write]) (.agg #[.int .i64 y.What,.int .i64 y.N,.bool y.Write])).run Tryz.prog w=.ok (decide (x=y)) w:=by
  rw [show (10000:Nat)=9998+1+1 from rfl,run_equalIn_struct w _ 93 _ _ (by rw [Program.fieldsOf,Tryz.underlying93]) Tryz.stoodInHeld93]
  rw [Program.fieldsOf,Tryz.underlying93]
  obtain ⟨x0,x1,x2⟩:=x
  obtain ⟨y0,y1,y2⟩:=y
  simp [Op.eqFields,part,Tryz.isAgg3,Tryz.isAgg4,run_equalIn_int w 9998 3 _ _ _ _ Tryz.underlying3,run_equalIn_bool' w 9998 4 _ _ Tryz.underlying4,I9]
  repeat (first | rfl | (split <;> simp_all))
theorem Vy {N:FN} {F:List (Nat×Value)} {a:Act} {w:World} {d:Option Tmp} {ty u:TypeId} {pos:String} {af:Array Edge} {g:Option (Nat×Bool)} {p q:Operand} {x y:api_Use} (hF:Fr N F a) (hx:opv F p=some (.agg #[.int .i64 x.What,.int .i64 x.N,.bool x.Write])) (hy:opv F q=some (.agg #[.int .i64 y.What,.int .i64 y.N,.bool y.Write])) :
    (execOp a.eval ⟨d,.binOp .neq 93 p q u,ty,pos,af,g⟩).run Tryz.prog w=.ok (.value (.bool (decide (x≠y)))) w:=by
  simp only [execOp,hF.ev hx,hF.ev hy,Sem.run_bind,run_eqGuard_agg w _ 93 _ _ _ _ Tryz.eqGuardType93,Result.andThen_ok,run_neq_struct,Wk,Sem.run_pure,ne_eq,decide_not]
def Tab (H : PH) : Prop := ∀ w : World, H.le w → Lib.TabIs Tryz.prog w "internal/strconv.uint64pow10" .u64 Lib.pow10Tab
theorem Tab.mono {H H':PH} (h:Tab H) (hs:∀ b o,H b=some o→H' b=some o):Tab H':=fun w hl=>h w (fun b o hb=>hl b o (hs b o hb))
theorem Keep.grew (w:World) (k:Nat) (os:Array Obj):Keep Nil w (Go.Sort.grow (w.drewN k) os):=by
  have hh:(w.drewN k).heap=w.heap:=rfl
  refine ⟨rfl,rfl,rfl,by simp [Go.Sort.grow,hh],fun b hb _=>?_,fun a ha=>?_⟩
  · show ((w.drewN k).heap ++ os)[b]? = _
    rw [hh,Array.getElem?_append_left hb]
  · unfold World.frozen?
    have:(Go.Sort.grow (w.drewN k) os).heap[a.block]? = w.heap[a.block]?:=by
      show ((w.drewN k).heap ++ os)[a.block]? = _
      rw [hh,Array.getElem?_append_left ha]
    rw [this]
theorem Jdw {w0:World} {H:PH} (hH:H.le w0) (hT:Tab H) {n:Int} {r:Str} (hm:Ww n=some r):Tot Tryz.prog 90 #[.int .i64 n] w0 (fun v w'=>v=Ae r∧Keep Nil w0 w'):=by
  unfold Ww at hm
  split at hm
  · rename_i h
    cases hm
    refine Calls.mono (Tryz.strconv_Itoa n h.1 h.2 w0 (hT w0 hH)) ?_
    rintro e w' ⟨rfl,k,os,rfl⟩
    exact ⟨_,rfl,rfl,Keep.grew w0 k os⟩
  · cases hm
def Jfy (pv:Value) (A:HA) (x:Option leadlineref11_Mem):Prop:=(pv=.pointer none∧A=sepA []∧x=none)∨∃ (b:Nat) (o0:Option Addr) (c0:Nat) (v0:List Value) (o1:Option Addr) (c1:Nat) (v1:List Value) (o2:Option Addr) (c2:Nat) (v2:List Value) (o3:Option Addr) (c3:Nat) (v3:List Value) (o4:Option Addr) (c4:Nat) (v4:List Value) (k:leadlineref11_Mem),pv=.pointer (some ⟨b,0,none⟩)∧A=sepA [blk b (.cells [.slice o0 k.Of.length c0,.slice o1 k.Firsts.length c1,.slice o2 k.L.length c2,.slice o3 k.K.length c3,.slice o4 k.W.length c4].toArray 62 (0,0)),sla 3 1 o0 k.Of.length c0 v0,sla 3 1 o1 k.Firsts.length c1 v1,sla 3 1 o2 k.L.length c2 v2,sla 3 1 o3 k.K.length c3 v3,sla 123 3 o4 k.W.length c4 v4]∧x=some k∧(∀ h,Rows h v0 k.Of)∧(∀ h,Rows h v1 k.Firsts)∧(∀ h,Rows h v2 k.L)∧(∀ h,Rows h v3 k.K)∧(∀ h,Rows h v4 k.W)
def JaP (pv:Value) (A:HA) (x:Option leadlineref12_Buffer):Prop:=(pv=.pointer none∧A=sepA []∧x=none)∨∃ (b:Nat) (o0:Option Addr) (c0:Nat) (v0:List Value) (k:leadlineref12_Buffer),pv=.pointer (some ⟨b,0,none⟩)∧A=sepA [blk b (.cells [.int .i64 k.Room,.slice o0 k.L.length c0].toArray 120 (0,0)),sla 159 4 o0 k.L.length c0 v0]∧x=some k∧(∀ h,Rows h v0 k.L)
def Uv (H:PH) (pv:Value) (A:HA) (x:Option leadlineref11_Mem):Prop:=(pv=.pointer none∧A=sepA []∧x=none)∨∃ (b:Nat) (o0:Option Addr) (c0:Nat) (o1:Option Addr) (c1:Nat) (o2:Option Addr) (c2:Nat) (v2:List Value) (o3:Option Addr) (c3:Nat) (v3:List Value) (o4:Option Addr) (c4:Nat) (v4:List Value) (k:leadlineref11_Mem),pv=.pointer (some ⟨b,0,none⟩)∧A=sepA [blk b (.cells [.slice o0 k.Of.length c0,.slice o1 k.Firsts.length c1,.slice o2 k.L.length c2,.slice o3 k.K.length c3,.slice o4 k.W.length c4].toArray 62 (0,0)),sla 3 1 o2 k.L.length c2 v2,sla 3 1 o3 k.K.length c3 v3,sla 123 3 o4 k.W.length c4 v4]∧x=some k∧k.Of.length≤c0∧SR H o0 k.Of∧k.Firsts.length≤c1∧SR H o1 k.Firsts∧(∀ h,Rows h v2 k.L)∧(∀ h,Rows h v3 k.K)∧(∀ h,Rows h v4 k.W)
end Go.LM.SWAPS
