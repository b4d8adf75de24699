/- Plain functions, lifted by program from the seat et. No condition: definitions. -/
import Derived.Test.YtimaeihmnipfgaaDoorMD
namespace Go.MD.ET
open Go Go.MD

structure api_Event where
  Kind : Int
  T : Int
  A : Int
  N : Int
  M : Int
  deriving DecidableEq
structure api_Use where
  What : Int
  N : Int
  Write : Bool
  deriving DecidableEq
structure event_kind where
  name : Str
  a : Bool
  n : Bool
  m : Bool
  deriving DecidableEq
structure S_is_n where
  is' : Bool
  n : Int
  deriving DecidableEq

def event_Uses_j6 (kevent_Uses_j1 : (List api_Use) → Option (List api_Use)) (vC9 : Bool) : Option (List api_Use) :=
  if vC9 = true then
    (appG 24 ([] : List api_Use) ([(api_Use.mk 4 0 true)] : List api_Use)).bind fun l57 =>
    kevent_Uses_j1 l57
  else
    kevent_Uses_j1 []
def event_Uses_j5 (kevent_Uses_j1 : (List api_Use) → Option (List api_Use)) (p1 : api_Event) (vC8 : Bool) : Option (List api_Use) :=
  if vC8 = true then
    (appG 24 ([] : List api_Use) ([(api_Use.mk 3 p1.A true)] : List api_Use)).bind fun l45 =>
    kevent_Uses_j1 l45
  else
    if p1.Kind = 15 then
      (event_Uses_j6 kevent_Uses_j1) (decide (p1.Kind = 15))
    else
      (event_Uses_j6 kevent_Uses_j1) (decide (p1.Kind = 16))
def event_Uses_j4 (N : Nat) (kevent_Uses_j1 : (List api_Use) → Option (List api_Use)) (kevent_Uses_j2 : api_Event → (List api_Use) → Option (List api_Use)) (p1 : api_Event) (p2 : (List Int)) (p7 : Int) (vC7 : Bool) : Option (List api_Use) :=
  if vC7 = true then
    (appG 24 ([] : List api_Use) ([(api_Use.mk 1 p1.A true)] : List api_Use)).bind fun l26 =>
    if (((decide (p1.A < 0)) || (decide (p7 ≤ p1.A))) || (decide ((p2.length : Int) ≤ p1.A))) = true then
      kevent_Uses_j1 l26
    else
      (getI p2 p1.A).bind fun x34 =>
      kevent_Uses_j2 (api_Event.mk p1.Kind p1.T x34 p1.N p1.M) l26
  else
    if p1.Kind = 13 then
      kevent_Uses_j2 p1 []
    else
      if p1.Kind = 10 then
        (event_Uses_j5 kevent_Uses_j1 p1) (decide (p1.Kind = 10))
      else
        (event_Uses_j5 kevent_Uses_j1 p1) (decide (p1.Kind = 11))
def event_Uses_j3 (N : Nat) (kevent_Uses_j1 : (List api_Use) → Option (List api_Use)) (kevent_Uses_j2 : api_Event → (List api_Use) → Option (List api_Use)) (p1 : api_Event) (p2 : (List Int)) (p7 : Int) (vC6 : Bool) : Option (List api_Use) :=
  if vC6 = true then
    (appG 24 ([] : List api_Use) ([(api_Use.mk 1 p1.A false)] : List api_Use)).bind fun l14 =>
    kevent_Uses_j1 l14
  else
    if p1.Kind = 8 then
      (event_Uses_j4 N kevent_Uses_j1 kevent_Uses_j2 p1 p2 p7) (decide (p1.Kind = 8))
    else
      (event_Uses_j4 N kevent_Uses_j1 kevent_Uses_j2 p1 p2 p7) (decide (p1.Kind = 12))
def event_Uses_j2 (kevent_Uses_j1 : (List api_Use) → Option (List api_Use)) (vB2 : api_Event) (vB3 : (List api_Use)) : Option (List api_Use) :=
  (appG 24 vB3 ([(api_Use.mk 2 vB2.A true)] : List api_Use)).bind fun l67 =>
  kevent_Uses_j1 l67
def event_Uses_j1 (vA2 : (List api_Use)) : Option (List api_Use) :=
  some vA2
def event_Uses (N : Nat) (p1 : api_Event) (p2 : (List Int)) (p7 : Int) : Option (List api_Use) :=
  if p1.Kind = 1 then
    (event_Uses_j3 N event_Uses_j1 (event_Uses_j2 event_Uses_j1) p1 p2 p7) (decide (p1.Kind = 1))
  else
    (event_Uses_j3 N event_Uses_j1 (event_Uses_j2 event_Uses_j1) p1 p2 p7) (decide (p1.Kind = 9))

def leadlineref15_Uses_j3 (vA8 : (List api_Use)) : Option (List api_Use) :=
  some vA8
def leadlineref15_Uses_j5 (vA15 : Bool) : Option (List api_Use) :=
  if vA15 = true then
    some ([(api_Use.mk 4 0 true)] : List api_Use)
  else
    some []
def leadlineref15_Uses_j4 (p1 : api_Event) (vA14 : Bool) : Option (List api_Use) :=
  if vA14 = true then
    some ([(api_Use.mk 3 p1.A true)] : List api_Use)
  else
    if p1.Kind = 15 then
      leadlineref15_Uses_j5 (decide (p1.Kind = 15))
    else
      leadlineref15_Uses_j5 (decide (p1.Kind = 16))
def leadlineref15_Uses_j2 (p1 : api_Event) (p2 : (List Int)) (p7 : Int) (vA7 : Bool) : Option (List api_Use) :=
  if vA7 = true then
    if (((decide (0 ≤ p1.A)) && (decide (p1.A < p7))) && (decide (p1.A < (p2.length : Int)))) = true then
      (getI p2 p1.A).bind fun x20 =>
      (appG 24 ([(api_Use.mk 1 p1.A true)] : List api_Use) ([(api_Use.mk 2 x20 true)] : List api_Use)).bind fun l28 =>
      leadlineref15_Uses_j3 l28
    else
      leadlineref15_Uses_j3 ([(api_Use.mk 1 p1.A true)] : List api_Use)
  else
    if p1.Kind = 13 then
      some ([(api_Use.mk 2 p1.A true)] : List api_Use)
    else
      if p1.Kind = 10 then
        (leadlineref15_Uses_j4 p1) (decide (p1.Kind = 10))
      else
        (leadlineref15_Uses_j4 p1) (decide (p1.Kind = 11))
def leadlineref15_Uses_j1 (p1 : api_Event) (p2 : (List Int)) (p7 : Int) (vA6 : Bool) : Option (List api_Use) :=
  if vA6 = true then
    some ([(api_Use.mk 1 p1.A false)] : List api_Use)
  else
    if p1.Kind = 8 then
      (leadlineref15_Uses_j2 p1 p2 p7) (decide (p1.Kind = 8))
    else
      (leadlineref15_Uses_j2 p1 p2 p7) (decide (p1.Kind = 12))
def leadlineref15_Uses (N : Nat) (p1 : api_Event) (p2 : (List Int)) (p7 : Int) : Option (List api_Use) :=
  if p1.Kind = 1 then
    (leadlineref15_Uses_j1 p1 p2 p7) (decide (p1.Kind = 1))
  else
    (leadlineref15_Uses_j1 p1 p2 p7) (decide (p1.Kind = 9))

def leadlineref15_Same_l2 (N : Nat) (kleadlineref15_Same_j1 : Option Bool) (p1 : (List api_Use)) (p6 : (List api_Use)) : Nat → Int → Option Bool
  | 0, _ => none
  | n + 1, vB10 =>
    if vB10 < (p1.length : Int) then
      (getI p1 vB10).bind fun x13 =>
      (getI p6 vB10).bind fun x18 =>
      if x13 ≠ x18 then
        some false
      else
        (leadlineref15_Same_l2 N kleadlineref15_Same_j1 p1 p6 n) (IntKind.i64.wrap (vB10 + 1))
    else
      kleadlineref15_Same_j1
def leadlineref15_Same_j1  : Option Bool :=
  some true
def leadlineref15_Same (N : Nat) (p1 : (List api_Use)) (p6 : (List api_Use)) : Option Bool :=
  if (p1.length : Int) ≠ (p6.length : Int) then
    some false
  else
    (leadlineref15_Same_l2 N leadlineref15_Same_j1 p1 p6) N 0

def event_all (N : Nat) (p1 : api_Event) : Option Bool :=
  some ((decide (p1.Kind = 15)) || (decide (p1.Kind = 16)))

def event_Clash (N : Nat) (p1 : api_Use) (p2 : api_Use) : Option Bool :=
  if ((decide (p1.What = 4)) || (decide (p2.What = 4))) = true then
    some true
  else
    some (((decide (p1.What = p2.What)) && (decide (p1.N = p2.N))) && (p1.Write || p2.Write))

def event_Depend_1_1 (N : Nat) (p1 : api_Use) (y3 : api_Use) : Option Bool :=
  (event_Clash N y3 p1).bind fun r6 =>
  some r6

def slices_IndexFunc_api_Use_api_Use__Depend_1_1_l2 (N : Nat) (kslices_IndexFunc_api_Use_api_Use__Depend_1_1_j1 : Option Int) (p1 : (List api_Use)) (y7 : api_Use) : Nat → Int → Option Int
  | 0, _ => none
  | n + 1, vB6 =>
    if vB6 < (p1.length : Int) then
      (getI p1 vB6).bind fun x10 =>
      (event_Depend_1_1 N x10 y7).bind fun r15 =>
      if r15 = true then
        some vB6
      else
        (slices_IndexFunc_api_Use_api_Use__Depend_1_1_l2 N kslices_IndexFunc_api_Use_api_Use__Depend_1_1_j1 p1 y7 n) (IntKind.i64.wrap (vB6 + 1))
    else
      kslices_IndexFunc_api_Use_api_Use__Depend_1_1_j1
def slices_IndexFunc_api_Use_api_Use__Depend_1_1_j1  : Option Int :=
  some (-1)
def slices_IndexFunc_api_Use_api_Use__Depend_1_1 (N : Nat) (p1 : (List api_Use)) (y7 : api_Use) : Option Int :=
  (slices_IndexFunc_api_Use_api_Use__Depend_1_1_l2 N slices_IndexFunc_api_Use_api_Use__Depend_1_1_j1 p1 y7) N 0

def slices_ContainsFunc_api_Use_api_Use__Depend_1_1 (N : Nat) (p1 : (List api_Use)) (y7 : api_Use) : Option Bool :=
  (slices_IndexFunc_api_Use_api_Use__Depend_1_1 N p1 y7).bind fun r9 =>
  some (decide (0 ≤ r9))

def event_Depend_1 (N : Nat) (p1 : api_Use) (y3 : (List api_Use)) : Option Bool :=
  (slices_ContainsFunc_api_Use_api_Use__Depend_1_1 N y3 p1).bind fun r10 =>
  some r10

def slices_IndexFunc_api_Use_api_Use__Depend_1_l2 (N : Nat) (kslices_IndexFunc_api_Use_api_Use__Depend_1_j1 : Option Int) (p1 : (List api_Use)) (y7 : (List api_Use)) : Nat → Int → Option Int
  | 0, _ => none
  | n + 1, vB6 =>
    if vB6 < (p1.length : Int) then
      (getI p1 vB6).bind fun x14 =>
      (event_Depend_1 N x14 y7).bind fun r19 =>
      if r19 = true then
        some vB6
      else
        (slices_IndexFunc_api_Use_api_Use__Depend_1_l2 N kslices_IndexFunc_api_Use_api_Use__Depend_1_j1 p1 y7 n) (IntKind.i64.wrap (vB6 + 1))
    else
      kslices_IndexFunc_api_Use_api_Use__Depend_1_j1
def slices_IndexFunc_api_Use_api_Use__Depend_1_j1  : Option Int :=
  some (-1)
def slices_IndexFunc_api_Use_api_Use__Depend_1 (N : Nat) (p1 : (List api_Use)) (y7 : (List api_Use)) : Option Int :=
  (slices_IndexFunc_api_Use_api_Use__Depend_1_l2 N slices_IndexFunc_api_Use_api_Use__Depend_1_j1 p1 y7) N 0

def slices_ContainsFunc_api_Use_api_Use__Depend_1 (N : Nat) (p1 : (List api_Use)) (y7 : (List api_Use)) : Option Bool :=
  (slices_IndexFunc_api_Use_api_Use__Depend_1 N p1 y7).bind fun r13 =>
  some (decide (0 ≤ r13))

def event_Depend_j1 (N : Nat) (p1 : api_Event) (p2 : api_Event) (p3 : (List Int)) (p8 : Int) (vA6 : Bool) : Option Bool :=
  if vA6 = true then
    some true
  else
    (event_Uses N p2 p3 p8).bind fun r18 =>
    (event_Uses N p1 p3 p8).bind fun r26 =>
    (slices_ContainsFunc_api_Use_api_Use__Depend_1 N r26 r18).bind fun r33 =>
    some r33
def event_Depend (N : Nat) (p1 : api_Event) (p2 : api_Event) (p3 : (List Int)) (p8 : Int) : Option Bool :=
  if p1.T = p2.T then
    (event_Depend_j1 N p1 p2 p3 p8) true
  else
    (event_all N p1).bind fun r12 =>
    if r12 = true then
      (event_Depend_j1 N p1 p2 p3 p8) true
    else
      (event_all N p2).bind fun r15 =>
      (event_Depend_j1 N p1 p2 p3 p8) r15

def leadlineref15_Clash (N : Nat) (p1 : api_Use) (p2 : api_Use) : Option Bool :=
  some (((decide (p1.What = 4)) || (decide (p2.What = 4))) || (((decide (p1.What = p2.What)) && (decide (p1.N = p2.N))) && (p1.Write || p2.Write)))

def leadlineref15_Depend_l4 (N : Nat) (kleadlineref15_Depend_j3 : Option Bool) (r12 : (List api_Use)) (r19 : (List api_Use)) (vB2 : Int) : Nat → Int → Option Bool
  | 0, _ => none
  | n + 1, vD1 =>
    if vD1 < (r19.length : Int) then
      (getI r12 vB2).bind fun x28 =>
      (getI r19 vD1).bind fun x34 =>
      (leadlineref15_Clash N x28 x34).bind fun r40 =>
      if r40 = true then
        some true
      else
        (leadlineref15_Depend_l4 N kleadlineref15_Depend_j3 r12 r19 vB2 n) (IntKind.i64.wrap (vD1 + 1))
    else
      kleadlineref15_Depend_j3
def leadlineref15_Depend_j3 (kleadlineref15_Depend_l2 : Int → Option Bool) (vB2 : Int) : Option Bool :=
  kleadlineref15_Depend_l2 (IntKind.i64.wrap (vB2 + 1))
def leadlineref15_Depend_l2 (N : Nat) (kleadlineref15_Depend_j1 : Option Bool) (r12 : (List api_Use)) (r19 : (List api_Use)) : Nat → Int → Option Bool
  | 0, _ => none
  | n + 1, vB2 =>
    if vB2 < (r12.length : Int) then
      (leadlineref15_Depend_l4 N (leadlineref15_Depend_j3 (leadlineref15_Depend_l2 N kleadlineref15_Depend_j1 r12 r19 n) vB2) r12 r19 vB2) N 0
    else
      kleadlineref15_Depend_j1
def leadlineref15_Depend_j1  : Option Bool :=
  some false
def leadlineref15_Depend (N : Nat) (p1 : api_Event) (p2 : api_Event) (p3 : (List Int)) (p8 : Int) : Option Bool :=
  if (((decide (p1.T = p2.T)) || ((decide (15 ≤ p1.Kind)) && (decide (p1.Kind ≤ 16)))) || ((decide (15 ≤ p2.Kind)) && (decide (p2.Kind ≤ 16)))) = true then
    some true
  else
    (leadlineref15_Uses N p1 p3 p8).bind fun r12 =>
    (leadlineref15_Uses N p2 p3 p8).bind fun r19 =>
    (leadlineref15_Depend_l2 N leadlineref15_Depend_j1 r12 r19) N 0

def event_known (N : Nat) (p1 : Int) : Option Bool :=
  some ((decide (1 ≤ p1)) && (decide (p1 < 17)))

def event_kinds (N : Nat)  : Option (Arr 17 event_kind) :=
  some (⟨[(event_kind.mk [] false false false), (event_kind.mk [108, 111, 97, 100] true true false), (event_kind.mk [111, 119, 110] true true false), (event_kind.mk [115, 116, 111, 114, 101] true true false), (event_kind.mk [102, 108, 117, 115, 104] true false false), (event_kind.mk [111, 112, 116] true false false), (event_kind.mk [115, 102, 101, 110, 99, 101] false false false), (event_kind.mk [109, 102, 101, 110, 99, 101] false false false), (event_kind.mk [99, 97, 115] true true true), (event_kind.mk [102, 97, 105, 108] true true false), (event_kind.mk [116, 97, 107, 101] true false false), (event_kind.mk [103, 105, 118, 101] true false false), (event_kind.mk [99, 111, 109, 101] true true false), (event_kind.mk [111, 117, 116] true false false), (event_kind.mk [102, 101, 110, 99, 101] false false false), (event_kind.mk [99, 114, 97, 115, 104] false true false), (event_kind.mk [102, 97, 117, 108, 116] true false false)], rfl⟩ : (Arr 17 event_kind))

def event_Right_j1 (N : Nat) (p1 : api_Event) (vA3 : event_kind) : Option Bool :=
  some ((((vA3.a || (decide (p1.A = 0))) && (vA3.n || (decide (p1.N = 0)))) && (vA3.m || (decide (p1.M = 0)))) && ((decide (p1.Kind ≠ 15)) || (decide (p1.T = 0))))
def event_Right (N : Nat) (p1 : api_Event) : Option Bool :=
  (event_known N p1.Kind).bind fun r3 =>
  if (((!r3) || (decide (p1.T < 0))) || (decide (p1.A < 0))) = true then
    some false
  else
    (event_kinds N).bind fun r6 =>
    (getI r6.l p1.Kind).bind fun x14 =>
    (event_Right_j1 N p1) x14

def leadlineref15_has_l2 (N : Nat) (kleadlineref15_has_j1 : Option Bool) (x6 : Str) (x11 : Int) : Nat → Int → Option Bool
  | 0, _ => none
  | n + 1, vB2 =>
    if vB2 < (x6.length : Int) then
      (byteI x6 vB2).bind fun x14 =>
      if x14 = x11 then
        some true
      else
        (leadlineref15_has_l2 N kleadlineref15_has_j1 x6 x11 n) (IntKind.i64.wrap (vB2 + 1))
    else
      kleadlineref15_has_j1
def leadlineref15_has_j1  : Option Bool :=
  some false
def leadlineref15_has (N : Nat) (p1 : Int) (p2 : Int) : Option Bool :=
  (getI ([[], [97, 110], [97, 110], [97, 110], [97], [97], [], [], [97, 110, 109], [97, 110], [97], [97], [97, 110], [97], [], [110], [97]] : List Str) p1).bind fun x6 =>
  (byteI [97, 110, 109] p2).bind fun x11 =>
  (leadlineref15_has_l2 N leadlineref15_has_j1 x6 x11) N 0

def leadlineref15_Right (N : Nat) (p1 : api_Event) : Option Bool :=
  if (((((decide (p1.Kind < 1)) || (decide (16 < p1.Kind))) || (decide (p1.T < 0))) || (decide (p1.A < 0))) || ((decide (p1.Kind = 15)) && (decide (p1.T ≠ 0)))) = true then
    some false
  else
    (leadlineref15_has N p1.Kind 0).bind fun r4 =>
    if (r4 || (decide (p1.A = 0))) = true then
      (leadlineref15_has N p1.Kind 1).bind fun r7 =>
      if (r7 || (decide (p1.N = 0))) = true then
        (leadlineref15_has N p1.Kind 2).bind fun r10 =>
        some (r10 || (decide (p1.M = 0)))
      else
        some false
    else
      some false

def words_Text (N : Nat) (p1 : Int) : Option Str :=
  (itoaM p1).bind fun r2 =>
  some r2

def event_Show_j4 (kevent_Show_l3 : Str → Int → Option Str) (vB2 : Int) (vC1 : Str) : Option Str :=
  kevent_Show_l3 vC1 (IntKind.i64.wrap (vB2 + 1))
def event_Show_l3 (N : Nat) (kevent_Show_j2 : Str → Option Str) (p1 : api_Event) (vA3 : event_kind) : Nat → Str → Int → Option Str
  | 0, _, _ => none
  | n + 1, vB1, vB2 =>
    if vB2 < (([(S_is_n.mk vA3.a p1.A), (S_is_n.mk vA3.n p1.N), (S_is_n.mk vA3.m p1.M)] : List S_is_n).length : Int) then
      (getI ([(S_is_n.mk vA3.a p1.A), (S_is_n.mk vA3.n p1.N), (S_is_n.mk vA3.m p1.M)] : List S_is_n) vB2).bind fun x30 =>
      if x30.is' = true then
        (words_Text N x30.n).bind fun r38 =>
        (catG [32] r38).bind fun s40 =>
        (catG vB1 s40).bind fun s42 =>
        (event_Show_j4 (event_Show_l3 N kevent_Show_j2 p1 vA3 n) vB2) s42
      else
        (event_Show_j4 (event_Show_l3 N kevent_Show_j2 p1 vA3 n) vB2) vB1
    else
      kevent_Show_j2 vB1
def event_Show_j2 (vA4 : Str) : Option Str :=
  some vA4
def event_Show_j1 (N : Nat) (p1 : api_Event) (vA3 : event_kind) : Option Str :=
  (words_Text N p1.T).bind fun r20 =>
  (catG r20 [32]).bind fun s22 =>
  (catG s22 vA3.name).bind fun s24 =>
  (event_Show_l3 N event_Show_j2 p1 vA3) N s24 0
def event_Show (N : Nat) (p1 : api_Event) : Option Str :=
  (event_known N p1.Kind).bind fun r3 =>
  if r3 = true then
    (event_kinds N).bind fun r6 =>
    (getI r6.l p1.Kind).bind fun x14 =>
    (event_Show_j1 N p1) x14
  else
    some []

def leadlineref01_Text : Nat → Int → Option Str
  | 0, _ => none
  | N + 1, p1 =>
    if ((decide (0 ≤ p1)) && (decide (p1 < 10))) = true then
      some (bytesStr ([(IntK.mk (IntKind.u8.wrap (IntKind.i64.wrap (48 + p1))))] : List (IntK .u8)))
    else
      if 0 < p1 then
        ((leadlineref01_Text N) (IntKind.i64.wrap (p1.tdiv 10))).bind fun r7 =>
        ((leadlineref01_Text N) (p1.tmod 10)).bind fun r9 =>
        (catG r7 r9).bind fun s11 =>
        some s11
      else
        if (IntKind.i64.wrap (p1.tdiv 10)) = 0 then
          ((leadlineref01_Text N) (IntKind.i64.wrap (0 - (p1.tmod 10)))).bind fun r14 =>
          (catG [45] r14).bind fun s16 =>
          some s16
        else
          ((leadlineref01_Text N) (IntKind.i64.wrap (p1.tdiv 10))).bind fun r18 =>
          ((leadlineref01_Text N) (IntKind.i64.wrap (0 - (p1.tmod 10)))).bind fun r20 =>
          (catG r18 r20).bind fun s22 =>
          some s22

def leadlineref15_Show_j4 (kleadlineref15_Show_l3 : Str → Int → Option Str) (vB2 : Int) (vC1 : Str) : Option Str :=
  kleadlineref15_Show_l3 vC1 (IntKind.i64.wrap (vB2 + 1))
def leadlineref15_Show_l3 (N : Nat) (kleadlineref15_Show_j2 : Str → Option Str) (p1 : api_Event) : Nat → Str → Int → Option Str
  | 0, _, _ => none
  | n + 1, vB1, vB2 =>
    if vB2 < 3 then
      (leadlineref15_has N p1.Kind vB2).bind fun r22 =>
      if r22 = true then
        (getI ([p1.A, p1.N, p1.M] : List Int) vB2).bind fun x25 =>
        (leadlineref01_Text N x25).bind fun r31 =>
        (catG [32] r31).bind fun s33 =>
        (catG vB1 s33).bind fun s35 =>
        (leadlineref15_Show_j4 (leadlineref15_Show_l3 N kleadlineref15_Show_j2 p1 n) vB2) s35
      else
        (leadlineref15_Show_j4 (leadlineref15_Show_l3 N kleadlineref15_Show_j2 p1 n) vB2) vB1
    else
      kleadlineref15_Show_j2 vB1
def leadlineref15_Show_j2 (vA3 : Str) : Option Str :=
  some vA3
def leadlineref15_Show_j1 (N : Nat) (p1 : api_Event) (vA2 : Str) : Option Str :=
  (leadlineref15_Show_l3 N leadlineref15_Show_j2 p1) N vA2 0
def leadlineref15_Show (N : Nat) (p1 : api_Event) : Option Str :=
  if ((decide (p1.Kind < 1)) || (decide (16 < p1.Kind))) = true then
    some []
  else
    (leadlineref01_Text N p1.T).bind fun r4 =>
    (catG r4 [32]).bind fun s6 =>
    (getI ([[], [108, 111, 97, 100], [111, 119, 110], [115, 116, 111, 114, 101], [102, 108, 117, 115, 104], [111, 112, 116], [115, 102, 101, 110, 99, 101], [109, 102, 101, 110, 99, 101], [99, 97, 115], [102, 97, 105, 108], [116, 97, 107, 101], [103, 105, 118, 101], [99, 111, 109, 101], [111, 117, 116], [102, 101, 110, 99, 101], [99, 114, 97, 115, 104], [102, 97, 117, 108, 116]] : List Str) p1.Kind).bind fun x11 =>
    (catG s6 x11).bind fun s16 =>
    (leadlineref15_Show_j1 N p1) s16

def leadlinelaw15_fixed (N : Nat)  : Option Bool :=
  (event_Depend N (api_Event.mk 1 0 0 5 0) (api_Event.mk 1 1 0 0 0) ([0, 0, 1] : List Int) 2).bind fun r9 =>
  (sure (!r9)).bind fun _ =>
  (event_Depend N (api_Event.mk 1 0 0 5 0) (api_Event.mk 12 1 0 0 0) ([0, 0, 1] : List Int) 2).bind fun r12 =>
  (sure r12).bind fun _ =>
  (event_Depend N (api_Event.mk 12 1 0 0 0) (api_Event.mk 13 2 0 0 0) ([0, 0, 1] : List Int) 2).bind fun r15 =>
  (sure r15).bind fun _ =>
  (event_Depend N (api_Event.mk 12 1 0 0 0) (api_Event.mk 13 2 0 0 0) ([0, 0, 1] : List Int) 0).bind fun r18 =>
  (sure (!r18)).bind fun _ =>
  (event_Depend N (api_Event.mk 1 0 0 5 0) (api_Event.mk 13 2 0 0 0) ([0, 0, 1] : List Int) 2).bind fun r21 =>
  (sure (!r21)).bind fun _ =>
  (event_Depend N (api_Event.mk 1 0 0 5 0) (api_Event.mk 16 1 2 0 0) ([0, 0, 1] : List Int) 2).bind fun r24 =>
  (sure r24).bind fun _ =>
  (event_Uses N (api_Event.mk 12 1 0 0 0) ([0, 0, 1] : List Int) 2).bind fun r27 =>
  (leadlineref15_Same N r27 ([(api_Use.mk 1 0 true), (api_Use.mk 2 0 true)] : List api_Use)).bind fun r37 =>
  (sure r37).bind fun _ =>
  (event_Show N (api_Event.mk 1 0 0 5 0)).bind fun r40 =>
  (sure (decide (r40 = [48, 32, 108, 111, 97, 100, 32, 48, 32, 53]))).bind fun _ =>
  (event_Show N (api_Event.mk 16 1 2 0 0)).bind fun r43 =>
  (sure (decide (r43 = [49, 32, 102, 97, 117, 108, 116, 32, 50]))).bind fun _ =>
  (event_Show N (api_Event.mk 0 0 0 0 0)).bind fun r46 =>
  (sure (decide (r46 = []))).bind fun _ =>
  (event_Right N (api_Event.mk 1 0 0 5 0)).bind fun r49 =>
  (sure r49).bind fun _ =>
  (event_Right N (api_Event.mk 14 0 1 0 0)).bind fun r52 =>
  (sure (!r52)).bind fun _ =>
  (event_Clash N (api_Use.mk 4 0 false) (api_Use.mk 0 0 false)).bind fun r55 =>
  (sure r55).bind fun _ =>
  (event_Right N (api_Event.mk 8 0 0 0 3)).bind fun r58 =>
  (sure r58).bind fun _ =>
  (event_Right N (api_Event.mk 15 1 0 0 0)).bind fun r61 =>
  some (!r61)

def leadlinelaw15_EventTells_j1 (N : Nat) (p1 : api_Event) (p2 : api_Event) (p8 : Int) (l10 : (List Int)) : Option Bool :=
  (event_Uses N p1 l10 p8).bind fun r22 =>
  (leadlineref15_Uses N p1 l10 p8).bind fun r29 =>
  (leadlineref15_Same N r22 r29).bind fun r36 =>
  (sure r36).bind fun _ =>
  (event_Depend N p1 p2 l10 p8).bind fun r39 =>
  (leadlineref15_Depend N p1 p2 l10 p8).bind fun r41 =>
  (sure (r39 == r41)).bind fun _ =>
  (event_Right N p1).bind fun r44 =>
  (leadlineref15_Right N p1).bind fun r46 =>
  (sure (r44 == r46)).bind fun _ =>
  (event_Show N p1).bind fun r49 =>
  (leadlineref15_Show N p1).bind fun r51 =>
  (sure (decide (r49 = r51))).bind fun _ =>
  (event_Clash N (api_Use.mk p1.A p1.N (decide (0 < p1.M))) (api_Use.mk p2.A p2.N (decide (0 < p2.M)))).bind fun r54 =>
  (leadlineref15_Clash N (api_Use.mk p1.A p1.N (decide (0 < p1.M))) (api_Use.mk p2.A p2.N (decide (0 < p2.M)))).bind fun r56 =>
  (sure (r54 == r56)).bind fun _ =>
  (leadlinelaw15_fixed N).bind fun r59 =>
  some r59
def leadlinelaw15_EventTells (N : Nat) (p1 : api_Event) (p2 : api_Event) (p3 : (List Int)) (p8 : Int) : Option Bool :=
  (subI p3 0 (min (p3.length : Int) 20)).bind fun l10 =>
  (leadlinelaw15_EventTells_j1 N p1 p2 p8 l10)

def leadlinelaw15_EventBoth (N : Nat) (p1 : api_Event) (p2 : api_Event) (p3 : Int) : Option Bool :=
  (event_Depend N p1 p2 ([0, 0, 1, 1, 2] : List Int) p3).bind fun r9 =>
  (event_Depend N p2 p1 ([0, 0, 1, 1, 2] : List Int) p3).bind fun r11 =>
  (sure (!((r9 != r11) || ((decide (p1.T = p2.T)) && (!r9))))).bind fun _ =>
  if ((decide (p1.T = p2.T)) || ((((decide (p1.Kind = 15)) || (decide (p1.Kind = 16))) || (decide (p2.Kind = 15))) || (decide (p2.Kind = 16)))) = true then
    (leadlinelaw15_fixed N).bind fun r15 =>
    some r15
  else
    (event_Uses N p1 ([0, 0, 1, 1, 2] : List Int) p3).bind fun r17 =>
    (sure ((decide (0 < (r17.length : Int))) || (!r9))).bind fun _ =>
    (leadlinelaw15_fixed N).bind fun r25 =>
    some r25

def leadlinelaw15_EventShows_j1 (N : Nat) (p1 : api_Event) (p2 : api_Event) (vA2 : Bool) : Option Bool :=
  if vA2 = true then
    (leadlinelaw15_fixed N).bind fun r11 =>
    some r11
  else
    (event_Show N p1).bind fun r13 =>
    (event_Show N p2).bind fun r15 =>
    (sure ((decide (r13 = r15)) == (decide (p1 = p2)))).bind fun _ =>
    (event_Show N p1).bind fun r18 =>
    (sure (decide (r18 ≠ []))).bind fun _ =>
    (leadlinelaw15_fixed N).bind fun r21 =>
    some r21
def leadlinelaw15_EventShows (N : Nat) (p1 : api_Event) (p2 : api_Event) : Option Bool :=
  (event_Right N p1).bind fun r5 =>
  if r5 = true then
    (event_Right N p2).bind fun r8 =>
    (leadlinelaw15_EventShows_j1 N p1 p2) (!r8)
  else
    (leadlinelaw15_EventShows_j1 N p1 p2) true

def leadlinelaw15_EventUses_l5 (N : Nat) (kleadlinelaw15_EventUses_j3 : Bool → Option Bool) (r9 : (List api_Use)) (r16 : (List api_Use)) (vB3 : Int) : Nat → Bool → Int → Option Bool
  | 0, _, _ => none
  | n + 1, vD2, vD3 =>
    if vD3 < (r16.length : Int) then
      (getI r9 vB3).bind fun x38 =>
      (getI r16 vD3).bind fun x44 =>
      (event_Clash N x38 x44).bind fun r50 =>
      (event_Clash N x44 x38).bind fun r54 =>
      (sure (!(r50 != r54))).bind fun _ =>
      (leadlinelaw15_EventUses_l5 N kleadlinelaw15_EventUses_j3 r9 r16 vB3 n) (vD2 || r50) (IntKind.i64.wrap (vD3 + 1))
    else
      kleadlinelaw15_EventUses_j3 vD2
def leadlinelaw15_EventUses_j4 (N : Nat) (kleadlinelaw15_EventUses_j3 : Bool → Option Bool) (r9 : (List api_Use)) (r16 : (List api_Use)) (vB2 : Bool) (vB3 : Int) (vD1 : Bool) : Option Bool :=
  (sure (!vD1)).bind fun _ =>
  (leadlinelaw15_EventUses_l5 N kleadlinelaw15_EventUses_j3 r9 r16 vB3) N vB2 0
def leadlinelaw15_EventUses_j3 (kleadlinelaw15_EventUses_l2 : Bool → Int → Option Bool) (vB3 : Int) (vC1 : Bool) : Option Bool :=
  kleadlinelaw15_EventUses_l2 vC1 (IntKind.i64.wrap (vB3 + 1))
def leadlinelaw15_EventUses_l2 (N : Nat) (kleadlinelaw15_EventUses_j1 : Bool → Option Bool) (r9 : (List api_Use)) (r16 : (List api_Use)) : Nat → Bool → Int → Option Bool
  | 0, _, _ => none
  | n + 1, vB2, vB3 =>
    if vB3 < (r9.length : Int) then
      (getI r9 vB3).bind fun x24 =>
      (event_Clash N x24 x24).bind fun r31 =>
      if x24.Write = true then
        (leadlinelaw15_EventUses_j4 N (leadlinelaw15_EventUses_j3 (leadlinelaw15_EventUses_l2 N kleadlinelaw15_EventUses_j1 r9 r16 n) vB3) r9 r16 vB2 vB3) (r31 != true)
      else
        (leadlinelaw15_EventUses_j4 N (leadlinelaw15_EventUses_j3 (leadlinelaw15_EventUses_l2 N kleadlinelaw15_EventUses_j1 r9 r16 n) vB3) r9 r16 vB2 vB3) (r31 != (decide (x24.What = 4)))
    else
      kleadlinelaw15_EventUses_j1 vB2
def leadlinelaw15_EventUses_j1 (N : Nat) (p1 : api_Event) (p2 : api_Event) (p3 : Int) (vA2 : Bool) : Option Bool :=
  if ((decide (p1.T = p2.T)) || ((((decide (p1.Kind = 15)) || (decide (p1.Kind = 16))) || (decide (p2.Kind = 15))) || (decide (p2.Kind = 16)))) = true then
    (leadlinelaw15_fixed N).bind fun r58 =>
    some r58
  else
    (event_Depend N p1 p2 ([0, 0, 1, 1, 2] : List Int) p3).bind fun r60 =>
    (sure (r60 == vA2)).bind fun _ =>
    (leadlinelaw15_fixed N).bind fun r63 =>
    some r63
def leadlinelaw15_EventUses (N : Nat) (p1 : api_Event) (p2 : api_Event) (p3 : Int) : Option Bool :=
  (event_Uses N p1 ([0, 0, 1, 1, 2] : List Int) p3).bind fun r9 =>
  (event_Uses N p2 ([0, 0, 1, 1, 2] : List Int) p3).bind fun r16 =>
  (leadlinelaw15_EventUses_l2 N (leadlinelaw15_EventUses_j1 N p1 p2 p3) r9 r16) N false 0

def leadlinelaw17_cut (N : Nat) (p1 : (List api_Event)) : Option (List api_Event) :=
  (subI p1 0 (min (p1.length : Int) 30)).bind fun l6 =>
  some l6

def clock_Threads_l2 (N : Nat) (kclock_Threads_j1 : Int → Option Int) (p1 : (List api_Event)) : Nat → Int → Int → Option Int
  | 0, _, _ => none
  | n + 1, vB2, vB7 =>
    if vB7 < (p1.length : Int) then
      (getI p1 vB7).bind fun x7 =>
      if ((decide (x7.T < 0)) || (decide (8 ≤ x7.T))) = true then
        some 0
      else
        (clock_Threads_l2 N kclock_Threads_j1 p1 n) (max vB2 (IntKind.i64.wrap (x7.T + 1))) (IntKind.i64.wrap (vB7 + 1))
    else
      kclock_Threads_j1 vB2
def clock_Threads_j1 (vA2 : Int) : Option Int :=
  some vA2
def clock_Threads (N : Nat) (p1 : (List api_Event)) : Option Int :=
  (clock_Threads_l2 N clock_Threads_j1 p1) N 0 0

def slices_Clone_api_Event_api_Event (N : Nat) (p1 : (List api_Event)) : Option (List api_Event) :=
  (appG 40 ([] : List api_Event) p1).bind fun l10 =>
  some l10

def trace_Swap_j2 (vA7 : (List api_Event)) : Option ((List api_Event) × Bool) :=
  some (vA7, true)
def trace_Swap_j1 (N : Nat) (p1 : (List api_Event)) (p6 : Int) (vA6 : Bool) : Option ((List api_Event) × Bool) :=
  if vA6 = true then
    some ([], false)
  else
    (slices_Clone_api_Event_api_Event N p1).bind fun r31 =>
    (getI r31 (IntKind.i64.wrap (p6 + 1))).bind fun x38 =>
    (getI r31 p6).bind fun x44 =>
    (setI r31 p6 x38).bind fun l51 =>
    (getI l51 (IntKind.i64.wrap (p6 + 1))).bind fun x56 =>
    (setI l51 (IntKind.i64.wrap (p6 + 1)) x44).bind fun l58 =>
    trace_Swap_j2 l58
def trace_Swap (N : Nat) (p1 : (List api_Event)) (p6 : Int) (p7 : (List Int)) (p12 : Int) : Option ((List api_Event) × Bool) :=
  (clock_Threads N p1).bind fun r13 =>
  if r13 = 0 then
    (trace_Swap_j1 N p1 p6) true
  else
    if p6 < 0 then
      (trace_Swap_j1 N p1 p6) true
    else
      if (IntKind.i64.wrap ((p1.length : Int) - 1)) ≤ p6 then
        (trace_Swap_j1 N p1 p6) true
      else
        (getI p1 p6).bind fun x18 =>
        (getI p1 (IntKind.i64.wrap (p6 + 1))).bind fun x23 =>
        (event_Depend N x18 x23 p7 p12).bind fun r28 =>
        (trace_Swap_j1 N p1 p6) r28

def leadlineref16_Threads_l2 (N : Nat) (kleadlineref16_Threads_j1 : Int → Option Int) (p1 : (List api_Event)) : Nat → Int → Int → Option Int
  | 0, _, _ => none
  | n + 1, vB6, vB7 =>
    if vB7 < (p1.length : Int) then
      (getI p1 vB7).bind fun x7 =>
      if ((decide (x7.T < 0)) || (decide (7 < x7.T))) = true then
        some 0
      else
        (leadlineref16_Threads_l2 N kleadlineref16_Threads_j1 p1 n) (max vB6 (IntKind.i64.wrap (x7.T + 1))) (IntKind.i64.wrap (vB7 + 1))
    else
      kleadlineref16_Threads_j1 vB6
def leadlineref16_Threads_j1 (vA2 : Int) : Option Int :=
  some vA2
def leadlineref16_Threads (N : Nat) (p1 : (List api_Event)) : Option Int :=
  (leadlineref16_Threads_l2 N leadlineref16_Threads_j1 p1) N 0 0

def leadlineref17_Swap_j1 (p1 : (List api_Event)) (p6 : Int) (vA6 : Bool) : Option ((List api_Event) × Bool) :=
  if vA6 = true then
    some ([], false)
  else
    (subI p1 0 p6).bind fun l35 =>
    (appG 40 ([] : List api_Event) l35).bind fun l43 =>
    (getI p1 (IntKind.i64.wrap (p6 + 1))).bind fun x52 =>
    (getI p1 p6).bind fun x57 =>
    (appG 40 l43 ([x52, x57] : List api_Event)).bind fun l65 =>
    (subI p1 (IntKind.i64.wrap (p6 + 2)) (p1.length : Int)).bind fun l71 =>
    (appG 40 l65 l71).bind fun l79 =>
    some (l79, true)
def leadlineref17_Swap (N : Nat) (p1 : (List api_Event)) (p6 : Int) (p7 : (List Int)) (p12 : Int) : Option ((List api_Event) × Bool) :=
  (leadlineref16_Threads N p1).bind fun r13 =>
  if r13 = 0 then
    (leadlineref17_Swap_j1 p1 p6) true
  else
    if p6 < 0 then
      (leadlineref17_Swap_j1 p1 p6) true
    else
      if (p1.length : Int) ≤ (IntKind.i64.wrap (p6 + 1)) then
        (leadlineref17_Swap_j1 p1 p6) true
      else
        if 1000000 < p6 then
          (leadlineref17_Swap_j1 p1 p6) true
        else
          (getI p1 p6).bind fun x19 =>
          (getI p1 (IntKind.i64.wrap (p6 + 1))).bind fun x24 =>
          (leadlineref15_Depend N x19 x24 p7 p12).bind fun r29 =>
          (leadlineref17_Swap_j1 p1 p6) r29

def trace_Form_1_j3 (ktrace_Form_1_l2 : Int → Option Bool) (vB2 : Int) (vC1 : Bool) : Option Bool :=
  if vC1 = true then
    some true
  else
    ktrace_Form_1_l2 (IntKind.i64.wrap (vB2 + 1))
def trace_Form_1_l2 (N : Nat) (ktrace_Form_1_j1 : Option Bool) (p1 : Int) (y3 : (List (Int × Bool))) (y11 : (List api_Event)) (y18 : (List Int)) (y25 : Int) : Nat → Int → Option Bool
  | 0, _ => none
  | n + 1, vB2 =>
    if vB2 < p1 then
      if ((plook vB2 y3).getD false) = true then
        (getI y11 vB2).bind fun x29 =>
        (getI y11 p1).bind fun x34 =>
        (event_Depend N x29 x34 y18 y25).bind fun r39 =>
        (trace_Form_1_j3 (trace_Form_1_l2 N ktrace_Form_1_j1 p1 y3 y11 y18 y25 n) vB2) r39
      else
        (trace_Form_1_j3 (trace_Form_1_l2 N ktrace_Form_1_j1 p1 y3 y11 y18 y25 n) vB2) false
    else
      ktrace_Form_1_j1
def trace_Form_1_j1  : Option Bool :=
  some false
def trace_Form_1 (N : Nat) (p1 : Int) (y3 : (List (Int × Bool))) (y11 : (List api_Event)) (y18 : (List Int)) (y25 : Int) : Option Bool :=
  (trace_Form_1_l2 N trace_Form_1_j1 p1 y3 y11 y18 y25) N 0

def trace_Form_l2 (N : Nat) (ktrace_Form_j1 : (List (Int × Bool)) → Option (List api_Event)) (p1 : (List api_Event)) : Nat → (List (Int × Bool)) → Int → Option (List api_Event)
  | 0, _, _ => none
  | n + 1, vB10, vB14 =>
    if vB14 < (p1.length : Int) then
      (trace_Form_l2 N ktrace_Form_j1 p1 n) (pput vB14 true vB10) (IntKind.i64.wrap (vB14 + 1))
    else
      ktrace_Form_j1 vB10
def trace_Form_j8 (ktrace_Form_j7 : Int → Option (List api_Event)) (vD1 : Int) (vD2 : Int) (vF1 : Bool) : Option (List api_Event) :=
  if vF1 = true then
    ktrace_Form_j7 vD2
  else
    ktrace_Form_j7 vD1
def trace_Form_j7 (ktrace_Form_l6 : Int → Int → Option (List api_Event)) (vD2 : Int) (vE1 : Int) : Option (List api_Event) :=
  ktrace_Form_l6 vE1 (IntKind.i64.wrap (vD2 + 1))
def trace_Form_l6 (N : Nat) (ktrace_Form_j5 : Int → Option (List api_Event)) (p1 : (List api_Event)) (p6 : (List Int)) (p11 : Int) (vB15 : (List (Int × Bool))) : Nat → Int → Int → Option (List api_Event)
  | 0, _, _ => none
  | n + 1, vD1, vD2 =>
    if vD2 < (p1.length : Int) then
      if ((plook vD2 vB15).getD false) = true then
        if vD1 < 0 then
          (trace_Form_1 N vD2 vB15 p1 p6 p11).bind fun r29 =>
          (trace_Form_j8 (trace_Form_j7 (trace_Form_l6 N ktrace_Form_j5 p1 p6 p11 vB15 n) vD2) vD1 vD2) (!r29)
        else
          (getI p1 vD2).bind fun x31 =>
          (getI p1 vD1).bind fun x36 =>
          if x31.T < x36.T then
            (trace_Form_1 N vD2 vB15 p1 p6 p11).bind fun r42 =>
            (trace_Form_j8 (trace_Form_j7 (trace_Form_l6 N ktrace_Form_j5 p1 p6 p11 vB15 n) vD2) vD1 vD2) (!r42)
          else
            (trace_Form_j8 (trace_Form_j7 (trace_Form_l6 N ktrace_Form_j5 p1 p6 p11 vB15 n) vD2) vD1 vD2) false
      else
        (trace_Form_j8 (trace_Form_j7 (trace_Form_l6 N ktrace_Form_j5 p1 p6 p11 vB15 n) vD2) vD1 vD2) false
    else
      ktrace_Form_j5 vD1
def trace_Form_j5 (ktrace_Form_l4 : (List (Int × Bool)) → (List api_Event) → Option (List api_Event)) (p1 : (List api_Event)) (vB15 : (List (Int × Bool))) (vB19 : (List api_Event)) (vC1 : Int) : Option (List api_Event) :=
  (getI p1 vC1).bind fun x45 =>
  (appG 40 vB19 ([x45] : List api_Event)).bind fun l53 =>
  ktrace_Form_l4 (pdel vC1 vB15) l53
def trace_Form_l4 (N : Nat) (ktrace_Form_j3 : (List api_Event) → Option (List api_Event)) (p1 : (List api_Event)) (p6 : (List Int)) (p11 : Int) : Nat → (List (Int × Bool)) → (List api_Event) → Option (List api_Event)
  | 0, _, _ => none
  | n + 1, vB15, vB19 =>
    if 0 < (vB15.length : Int) then
      (trace_Form_l6 N (trace_Form_j5 (trace_Form_l4 N ktrace_Form_j3 p1 p6 p11 n) p1 vB15 vB19) p1 p6 p11 vB15) N (-1) 0
    else
      ktrace_Form_j3 vB19
def trace_Form_j3 (vA14 : (List api_Event)) : Option (List api_Event) :=
  some vA14
def trace_Form_j1 (N : Nat) (p1 : (List api_Event)) (p6 : (List Int)) (p11 : Int) (vA10 : (List (Int × Bool))) : Option (List api_Event) :=
  (trace_Form_l4 N trace_Form_j3 p1 p6 p11) N vA10 []
def trace_Form (N : Nat) (p1 : (List api_Event)) (p6 : (List Int)) (p11 : Int) : Option (List api_Event) :=
  (clock_Threads N p1).bind fun r15 =>
  if r15 = 0 then
    some []
  else
    (trace_Form_l2 N (trace_Form_j1 N p1 p6 p11) p1) N [] 0

def leadlineref17_first_l2 (N : Nat) (kleadlineref17_first_j1 : Option Bool) (p1 : (List api_Event)) (p6 : Int) (p7 : (List Int)) (p12 : Int) : Nat → Int → Option Bool
  | 0, _ => none
  | n + 1, vB10 =>
    if vB10 < p6 then
      (getI p1 vB10).bind fun x14 =>
      (getI p1 p6).bind fun x19 =>
      (leadlineref15_Depend N x14 x19 p7 p12).bind fun r24 =>
      if r24 = true then
        some false
      else
        (leadlineref17_first_l2 N kleadlineref17_first_j1 p1 p6 p7 p12 n) (IntKind.i64.wrap (vB10 + 1))
    else
      kleadlineref17_first_j1
def leadlineref17_first_j1  : Option Bool :=
  some true
def leadlineref17_first (N : Nat) (p1 : (List api_Event)) (p6 : Int) (p7 : (List Int)) (p12 : Int) : Option Bool :=
  (leadlineref17_first_l2 N leadlineref17_first_j1 p1 p6 p7 p12) N 0

def leadlineref17_Form_j7 (kleadlineref17_Form_j6 : Int → Option (List api_Event)) (vD1 : Int) (vD2 : Int) (vF1 : Bool) : Option (List api_Event) :=
  if vF1 = true then
    kleadlineref17_Form_j6 vD2
  else
    kleadlineref17_Form_j6 vD1
def leadlineref17_Form_j6 (kleadlineref17_Form_l5 : Int → Int → Option (List api_Event)) (vD2 : Int) (vE1 : Int) : Option (List api_Event) :=
  kleadlineref17_Form_l5 vE1 (IntKind.i64.wrap (vD2 + 1))
def leadlineref17_Form_l5 (N : Nat) (kleadlineref17_Form_j4 : Int → Option (List api_Event)) (p6 : (List Int)) (p11 : Int) (vB16 : (List api_Event)) : Nat → Int → Int → Option (List api_Event)
  | 0, _, _ => none
  | n + 1, vD1, vD2 =>
    if vD2 < (vB16.length : Int) then
      (getI vB16 vD2).bind fun x32 =>
      (getI vB16 vD1).bind fun x38 =>
      if x32.T < x38.T then
        (leadlineref17_first N vB16 vD2 p6 p11).bind fun r45 =>
        (leadlineref17_Form_j7 (leadlineref17_Form_j6 (leadlineref17_Form_l5 N kleadlineref17_Form_j4 p6 p11 vB16 n) vD2) vD1 vD2) r45
      else
        (leadlineref17_Form_j7 (leadlineref17_Form_j6 (leadlineref17_Form_l5 N kleadlineref17_Form_j4 p6 p11 vB16 n) vD2) vD1 vD2) false
    else
      kleadlineref17_Form_j4 vD1
def leadlineref17_Form_j4 (kleadlineref17_Form_l2 : (List api_Event) → (List api_Event) → Option (List api_Event)) (vB10 : (List api_Event)) (vB16 : (List api_Event)) (vC2 : Int) : Option (List api_Event) :=
  (getI vB16 vC2).bind fun x48 =>
  (appG 40 vB10 ([x48] : List api_Event)).bind fun l57 =>
  (subI vB16 0 vC2).bind fun l70 =>
  (appG 40 ([] : List api_Event) l70).bind fun l78 =>
  (subI vB16 (IntKind.i64.wrap (vC2 + 1)) (vB16.length : Int)).bind fun l87 =>
  (appG 40 l78 l87).bind fun l95 =>
  kleadlineref17_Form_l2 l57 l95
def leadlineref17_Form_j3 (N : Nat) (kleadlineref17_Form_j1 : (List api_Event) → Option (List api_Event)) (kleadlineref17_Form_l2 : (List api_Event) → (List api_Event) → Option (List api_Event)) (p6 : (List Int)) (p11 : Int) (vB10 : (List api_Event)) (vB16 : (List api_Event)) (vC1 : Bool) : Option (List api_Event) :=
  if vC1 = true then
    (leadlineref17_Form_l5 N (leadlineref17_Form_j4 kleadlineref17_Form_l2 vB10 vB16) p6 p11 vB16) N 0 1
  else
    kleadlineref17_Form_j1 vB10
def leadlineref17_Form_l2 (N : Nat) (kleadlineref17_Form_j1 : (List api_Event) → Option (List api_Event)) (p1 : (List api_Event)) (p6 : (List Int)) (p11 : Int) : Nat → (List api_Event) → (List api_Event) → Option (List api_Event)
  | 0, _, _ => none
  | n + 1, vB10, vB16 =>
    if 0 < (vB16.length : Int) then
      (leadlineref16_Threads N p1).bind fun r28 =>
      (leadlineref17_Form_j3 N kleadlineref17_Form_j1 (leadlineref17_Form_l2 N kleadlineref17_Form_j1 p1 p6 p11 n) p6 p11 vB10 vB16) (decide (0 < r28))
    else
      (leadlineref17_Form_j3 N kleadlineref17_Form_j1 (leadlineref17_Form_l2 N kleadlineref17_Form_j1 p1 p6 p11 n) p6 p11 vB10 vB16) false
def leadlineref17_Form_j1 (vA2 : (List api_Event)) : Option (List api_Event) :=
  some vA2
def leadlineref17_Form (N : Nat) (p1 : (List api_Event)) (p6 : (List Int)) (p11 : Int) : Option (List api_Event) :=
  (appG 40 ([] : List api_Event) p1).bind fun l18 =>
  (leadlineref17_Form_l2 N leadlineref17_Form_j1 p1 p6 p11) N [] l18

def leadlineref17_Equal_l2 (N : Nat) (kleadlineref17_Equal_j1 : Option Bool) (p1 : (List api_Event)) (p6 : (List api_Event)) : Nat → Int → Option Bool
  | 0, _ => none
  | n + 1, vB10 =>
    if vB10 < (p1.length : Int) then
      (getI p1 vB10).bind fun x13 =>
      (getI p6 vB10).bind fun x18 =>
      if x13 ≠ x18 then
        some false
      else
        (leadlineref17_Equal_l2 N kleadlineref17_Equal_j1 p1 p6 n) (IntKind.i64.wrap (vB10 + 1))
    else
      kleadlineref17_Equal_j1
def leadlineref17_Equal_j1  : Option Bool :=
  some true
def leadlineref17_Equal (N : Nat) (p1 : (List api_Event)) (p6 : (List api_Event)) : Option Bool :=
  if (p1.length : Int) ≠ (p6.length : Int) then
    some false
  else
    (leadlineref17_Equal_l2 N leadlineref17_Equal_j1 p1 p6) N 0

def trace_Same_1 (N : Nat) (p1 : (List api_Event)) : Option Bool :=
  if 0 < (p1.length : Int) then
    (clock_Threads N p1).bind fun r7 =>
    some (decide (r7 = 0))
  else
    some false

def slices_Equal_api_Event_api_Event_l2 (N : Nat) (kslices_Equal_api_Event_api_Event_j1 : Option Bool) (p1 : (List api_Event)) (p6 : (List api_Event)) : Nat → Int → Option Bool
  | 0, _ => none
  | n + 1, vB10 =>
    if vB10 < (p1.length : Int) then
      (getI p1 vB10).bind fun x13 =>
      (getI p6 vB10).bind fun x18 =>
      if x13 ≠ x18 then
        some false
      else
        (slices_Equal_api_Event_api_Event_l2 N kslices_Equal_api_Event_api_Event_j1 p1 p6 n) (IntKind.i64.wrap (vB10 + 1))
    else
      kslices_Equal_api_Event_api_Event_j1
def slices_Equal_api_Event_api_Event_j1  : Option Bool :=
  some true
def slices_Equal_api_Event_api_Event (N : Nat) (p1 : (List api_Event)) (p6 : (List api_Event)) : Option Bool :=
  if (p1.length : Int) ≠ (p6.length : Int) then
    some false
  else
    (slices_Equal_api_Event_api_Event_l2 N slices_Equal_api_Event_api_Event_j1 p1 p6) N 0

def trace_Same (N : Nat) (p1 : (List api_Event)) (p6 : (List api_Event)) (p11 : (List Int)) (p16 : Int) : Option Bool :=
  (trace_Same_1 N p1).bind fun r17 =>
  if r17 = true then
    some false
  else
    (trace_Same_1 N p6).bind fun r20 =>
    if r20 = true then
      some false
    else
      (trace_Form N p1 p11 p16).bind fun r23 =>
      (trace_Form N p6 p11 p16).bind fun r30 =>
      (slices_Equal_api_Event_api_Event N r23 r30).bind fun r37 =>
      some r37

def leadlineref17_Same_j7 (kleadlineref17_Same_l6 : Int → Int → Option Bool) (vE2 : Int) (vF1 : Int) : Option Bool :=
  kleadlineref17_Same_l6 vF1 (IntKind.i64.wrap (vE2 + 1))
def leadlineref17_Same_l6 (N : Nat) (kleadlineref17_Same_j5 : Int → Option Bool) (p1 : (List api_Event)) (vB7 : Int) : Nat → Int → Int → Option Bool
  | 0, _, _ => none
  | n + 1, vE1, vE2 =>
    if vE2 < vB7 then
      (getI p1 vE2).bind fun x30 =>
      (getI p1 vB7).bind fun x35 =>
      if x30.T = x35.T then
        (leadlineref17_Same_j7 (leadlineref17_Same_l6 N kleadlineref17_Same_j5 p1 vB7 n) vE2) (IntKind.i64.wrap (vE1 + 1))
      else
        (leadlineref17_Same_j7 (leadlineref17_Same_l6 N kleadlineref17_Same_j5 p1 vB7 n) vE2) vE1
    else
      kleadlineref17_Same_j5 vE1
def leadlineref17_Same_j11 (kleadlineref17_Same_j10 : Int → Int → Option Bool) (vE3 : Int) (vG1 : Int) : Option Bool :=
  kleadlineref17_Same_j10 (IntKind.i64.wrap (vE3 - 1)) vG1
def leadlineref17_Same_j10 (kleadlineref17_Same_l9 : Int → Int → Int → Option Bool) (vE5 : Int) (vF2 : Int) (vF3 : Int) : Option Bool :=
  kleadlineref17_Same_l9 vF2 vF3 (IntKind.i64.wrap (vE5 + 1))
def leadlineref17_Same_l9 (N : Nat) (kleadlineref17_Same_j8 : Int → Option Bool) (p1 : (List api_Event)) (p6 : (List api_Event)) (vB7 : Int) : Nat → Int → Int → Int → Option Bool
  | 0, _, _, _ => none
  | n + 1, vE3, vE4, vE5 =>
    if vE5 < (p6.length : Int) then
      (getI p6 vE5).bind fun x42 =>
      (getI p1 vB7).bind fun x47 =>
      if x42.T = x47.T then
        if ((decide (vE3 = 0)) && (decide (x42 = x47))) = true then
          (leadlineref17_Same_j11 (leadlineref17_Same_j10 (leadlineref17_Same_l9 N kleadlineref17_Same_j8 p1 p6 vB7 n) vE5) vE3) vE5
        else
          (leadlineref17_Same_j11 (leadlineref17_Same_j10 (leadlineref17_Same_l9 N kleadlineref17_Same_j8 p1 p6 vB7 n) vE5) vE3) vE4
      else
        (leadlineref17_Same_j10 (leadlineref17_Same_l9 N kleadlineref17_Same_j8 p1 p6 vB7 n) vE5) vE3 vE4
    else
      kleadlineref17_Same_j8 vE4
def leadlineref17_Same_j8 (kleadlineref17_Same_j4 : (List Int) → Option Bool) (vB1 : (List Int)) (vD2 : Int) : Option Bool :=
  if vD2 < 0 then
    some false
  else
    (appG 8 vB1 ([vD2] : List Int)).bind fun l58 =>
    kleadlineref17_Same_j4 l58
def leadlineref17_Same_j5 (N : Nat) (kleadlineref17_Same_j4 : (List Int) → Option Bool) (p1 : (List api_Event)) (p6 : (List api_Event)) (vB1 : (List Int)) (vB7 : Int) (vD1 : Int) : Option Bool :=
  (leadlineref17_Same_l9 N (leadlineref17_Same_j8 kleadlineref17_Same_j4 vB1) p1 p6 vB7) N vD1 (-1) 0
def leadlineref17_Same_j4 (kleadlineref17_Same_l3 : (List Int) → Int → Option Bool) (vB7 : Int) (vC1 : (List Int)) : Option Bool :=
  kleadlineref17_Same_l3 vC1 (IntKind.i64.wrap (vB7 + 1))
def leadlineref17_Same_l3 (N : Nat) (kleadlineref17_Same_j2 : (List Int) → Option Bool) (p1 : (List api_Event)) (p6 : (List api_Event)) : Nat → (List Int) → Int → Option Bool
  | 0, _, _ => none
  | n + 1, vB1, vB7 =>
    if vB7 < (p1.length : Int) then
      (leadlineref17_Same_l6 N (leadlineref17_Same_j5 N (leadlineref17_Same_j4 (leadlineref17_Same_l3 N kleadlineref17_Same_j2 p1 p6 n) vB7) p1 p6 vB1 vB7) p1 vB7) N 0 0
    else
      kleadlineref17_Same_j2 vB1
def leadlineref17_Same_j16 (kleadlineref17_Same_l15 : Int → Option Bool) (vD3 : Int) (vE6 : Bool) : Option Bool :=
  if vE6 = true then
    some false
  else
    kleadlineref17_Same_l15 (IntKind.i64.wrap (vD3 + 1))
def leadlineref17_Same_l15 (N : Nat) (kleadlineref17_Same_j14 : Option Bool) (p1 : (List api_Event)) (p11 : (List Int)) (p16 : Int) (vA15 : (List Int)) (vB8 : Int) : Nat → Int → Option Bool
  | 0, _ => none
  | n + 1, vD3 =>
    if vD3 < vB8 then
      (getI p1 vD3).bind fun x66 =>
      (getI p1 vB8).bind fun x71 =>
      (leadlineref15_Depend N x66 x71 p11 p16).bind fun r76 =>
      if r76 = true then
        (getI vA15 vD3).bind fun x79 =>
        (getI vA15 vB8).bind fun x85 =>
        (leadlineref17_Same_j16 (leadlineref17_Same_l15 N kleadlineref17_Same_j14 p1 p11 p16 vA15 vB8 n) vD3) (decide (x85 < x79))
      else
        (leadlineref17_Same_j16 (leadlineref17_Same_l15 N kleadlineref17_Same_j14 p1 p11 p16 vA15 vB8 n) vD3) false
    else
      kleadlineref17_Same_j14
def leadlineref17_Same_j14 (kleadlineref17_Same_l13 : Int → Option Bool) (vB8 : Int) : Option Bool :=
  kleadlineref17_Same_l13 (IntKind.i64.wrap (vB8 + 1))
def leadlineref17_Same_l13 (N : Nat) (kleadlineref17_Same_j12 : Option Bool) (p1 : (List api_Event)) (p11 : (List Int)) (p16 : Int) (vA15 : (List Int)) : Nat → Int → Option Bool
  | 0, _ => none
  | n + 1, vB8 =>
    if vB8 < (p1.length : Int) then
      (leadlineref17_Same_l15 N (leadlineref17_Same_j14 (leadlineref17_Same_l13 N kleadlineref17_Same_j12 p1 p11 p16 vA15 n) vB8) p1 p11 p16 vA15 vB8) N 0
    else
      kleadlineref17_Same_j12
def leadlineref17_Same_j12  : Option Bool :=
  some true
def leadlineref17_Same_j2 (N : Nat) (p1 : (List api_Event)) (p11 : (List Int)) (p16 : Int) (vA15 : (List Int)) : Option Bool :=
  (leadlineref17_Same_l13 N leadlineref17_Same_j12 p1 p11 p16 vA15) N 0
def leadlineref17_Same_j1 (N : Nat) (p1 : (List api_Event)) (p6 : (List api_Event)) (p11 : (List Int)) (p16 : Int) (vA14 : Bool) : Option Bool :=
  if vA14 = true then
    some false
  else
    (leadlineref17_Same_l3 N (leadlineref17_Same_j2 N p1 p11 p16) p1 p6) N [] 0
def leadlineref17_Same (N : Nat) (p1 : (List api_Event)) (p6 : (List api_Event)) (p11 : (List Int)) (p16 : Int) : Option Bool :=
  if (p1.length : Int) ≠ (p6.length : Int) then
    (leadlineref17_Same_j1 N p1 p6 p11 p16) true
  else
    if 0 < (p1.length : Int) then
      (leadlineref16_Threads N p1).bind fun r19 =>
      if r19 = 0 then
        (leadlineref17_Same_j1 N p1 p6 p11 p16) true
      else
        (leadlineref16_Threads N p6).bind fun r22 =>
        (leadlineref17_Same_j1 N p1 p6 p11 p16) (decide (r22 = 0))
    else
      (leadlineref17_Same_j1 N p1 p6 p11 p16) false

def trace_Key_l2 (N : Nat) (ktrace_Key_j1 : Str → Option Str) (r13 : (List api_Event)) : Nat → Str → Int → Option Str
  | 0, _, _ => none
  | n + 1, vB2, vB7 =>
    if vB7 < (r13.length : Int) then
      (getI r13 vB7).bind fun x21 =>
      (event_Show N x21).bind fun r28 =>
      (catG r28 [10]).bind fun s30 =>
      (catB vB2 s30).bind fun s32 =>
      (trace_Key_l2 N ktrace_Key_j1 r13 n) s32 (IntKind.i64.wrap (vB7 + 1))
    else
      ktrace_Key_j1 vB2
def trace_Key_j1 (vA2 : Str) : Option Str :=
  some vA2
def trace_Key (N : Nat) (p1 : (List api_Event)) (p6 : (List Int)) (p11 : Int) : Option Str :=
  (trace_Form N p1 p6 p11).bind fun r13 =>
  (trace_Key_l2 N trace_Key_j1 r13) N [] 0

def leadlineref17_Key_l2 (N : Nat) (kleadlineref17_Key_j1 : Str → Option Str) (r12 : (List api_Event)) : Nat → Str → Int → Option Str
  | 0, _, _ => none
  | n + 1, vB2, vB3 =>
    if vB3 < (r12.length : Int) then
      (getI r12 vB3).bind fun x20 =>
      (leadlineref15_Show N x20).bind fun r26 =>
      (catG r26 [10]).bind fun s28 =>
      (catG vB2 s28).bind fun s30 =>
      (leadlineref17_Key_l2 N kleadlineref17_Key_j1 r12 n) s30 (IntKind.i64.wrap (vB3 + 1))
    else
      kleadlineref17_Key_j1 vB2
def leadlineref17_Key_j1 (vA2 : Str) : Option Str :=
  some vA2
def leadlineref17_Key (N : Nat) (p1 : (List api_Event)) (p6 : (List Int)) (p11 : Int) : Option Str :=
  (leadlineref17_Form N p1 p6 p11).bind fun r12 =>
  (leadlineref17_Key_l2 N leadlineref17_Key_j1 r12) N [] 0

def trace_Steps_j6 (ktrace_Steps_l5 : (List Int) → Int → Option (List (List Int))) (vE7 : Int) (vF1 : (List Int)) : Option (List (List Int)) :=
  ktrace_Steps_l5 vF1 (IntKind.i64.wrap (vE7 + 1))
def trace_Steps_l5 (N : Nat) (ktrace_Steps_j4 : (List Int) → Option (List (List Int))) (p1 : (List api_Event)) (p6 : (List Int)) (p11 : Int) (vB22 : Int) : Nat → (List Int) → Int → Option (List (List Int))
  | 0, _, _ => none
  | n + 1, vE1, vE7 =>
    if vE7 < vB22 then
      (getI p1 vE7).bind fun x23 =>
      (getI p1 vB22).bind fun x28 =>
      (event_Depend N x23 x28 p6 p11).bind fun r33 =>
      if r33 = true then
        (getI vE1 vB22).bind fun x36 =>
        (getI vE1 vE7).bind fun x42 =>
        (setI vE1 vB22 (max x36 (IntKind.i64.wrap (x42 + 1)))).bind fun l49 =>
        (trace_Steps_j6 (trace_Steps_l5 N ktrace_Steps_j4 p1 p6 p11 vB22 n) vE7) l49
      else
        (trace_Steps_j6 (trace_Steps_l5 N ktrace_Steps_j4 p1 p6 p11 vB22 n) vE7) vE1
    else
      ktrace_Steps_j4 vE1
def trace_Steps_j7 (ktrace_Steps_j3 : (List (List Int)) → (List Int) → Option (List (List Int))) (vD1 : (List Int)) (x54 : Int) (vB22 : Int) (vD7 : (List (List Int))) : Option (List (List Int)) :=
  (getI vD7 x54).bind fun x71 =>
  (appG 8 x71 ([vB22] : List Int)).bind fun l81 =>
  (setI vD7 x54 l81).bind fun l87 =>
  ktrace_Steps_j3 l87 vD1
def trace_Steps_j4 (ktrace_Steps_j3 : (List (List Int)) → (List Int) → Option (List (List Int))) (vB10 : (List (List Int))) (vB22 : Int) (vD1 : (List Int)) : Option (List (List Int)) :=
  (getI vD1 vB22).bind fun x54 =>
  if x54 = (vB10.length : Int) then
    (appG 24 vB10 ([[]] : List (List Int))).bind fun l64 =>
    (trace_Steps_j7 ktrace_Steps_j3 vD1 x54 vB22) l64
  else
    (trace_Steps_j7 ktrace_Steps_j3 vD1 x54 vB22) vB10
def trace_Steps_j3 (ktrace_Steps_l2 : (List (List Int)) → (List Int) → Int → Option (List (List Int))) (vB22 : Int) (vC1 : (List (List Int))) (vC7 : (List Int)) : Option (List (List Int)) :=
  ktrace_Steps_l2 vC1 vC7 (IntKind.i64.wrap (vB22 + 1))
def trace_Steps_l2 (N : Nat) (ktrace_Steps_j1 : (List (List Int)) → Option (List (List Int))) (p1 : (List api_Event)) (p6 : (List Int)) (p11 : Int) : Nat → (List (List Int)) → (List Int) → Int → Option (List (List Int))
  | 0, _, _, _ => none
  | n + 1, vB10, vB16, vB22 =>
    if vB22 < (p1.length : Int) then
      (trace_Steps_l5 N (trace_Steps_j4 (trace_Steps_j3 (trace_Steps_l2 N ktrace_Steps_j1 p1 p6 p11 n) vB22) vB10 vB22) p1 p6 p11 vB22) N vB16 0
    else
      ktrace_Steps_j1 vB10
def trace_Steps_j1 (vA2 : (List (List Int))) : Option (List (List Int)) :=
  some vA2
def trace_Steps (N : Nat) (p1 : (List api_Event)) (p6 : (List Int)) (p11 : Int) : Option (List (List Int)) :=
  (clock_Threads N p1).bind fun r12 =>
  if r12 = 0 then
    some []
  else
    (mkL 8 (p1.length : Int) 0).bind fun l15 =>
    (trace_Steps_l2 N trace_Steps_j1 p1 p6 p11) N [] l15 0

def leadlineref17_Steps_j10 (kleadlineref17_Steps_l9 : Bool → Int → Option (List (List Int))) (vG2 : Int) (vH1 : Bool) : Option (List (List Int)) :=
  kleadlineref17_Steps_l9 vH1 (IntKind.i64.wrap (vG2 + 1))
def leadlineref17_Steps_l9 (N : Nat) (kleadlineref17_Steps_j8 : Bool → Option (List (List Int))) (p1 : (List api_Event)) (p6 : (List Int)) (p11 : Int) (vD7 : Int) (vB8 : (List Bool)) : Nat → Bool → Int → Option (List (List Int))
  | 0, _, _ => none
  | n + 1, vG1, vG2 =>
    if vG2 < vD7 then
      if vG1 = true then
        (getI vB8 vG2).bind fun x37 =>
        if x37 = true then
          (leadlineref17_Steps_j10 (leadlineref17_Steps_l9 N kleadlineref17_Steps_j8 p1 p6 p11 vD7 vB8 n) vG2) true
        else
          (getI p1 vG2).bind fun x44 =>
          (getI p1 vD7).bind fun x49 =>
          (leadlineref15_Depend N x44 x49 p6 p11).bind fun r54 =>
          (leadlineref17_Steps_j10 (leadlineref17_Steps_l9 N kleadlineref17_Steps_j8 p1 p6 p11 vD7 vB8 n) vG2) (!r54)
      else
        (leadlineref17_Steps_j10 (leadlineref17_Steps_l9 N kleadlineref17_Steps_j8 p1 p6 p11 vD7 vB8 n) vG2) false
    else
      kleadlineref17_Steps_j8 vG1
def leadlineref17_Steps_j8 (kleadlineref17_Steps_j7 : (List Int) → Option (List (List Int))) (vD1 : (List Int)) (vD7 : Int) (vF1 : Bool) : Option (List (List Int)) :=
  if vF1 = true then
    (appG 8 vD1 ([vD7] : List Int)).bind fun l60 =>
    kleadlineref17_Steps_j7 l60
  else
    kleadlineref17_Steps_j7 vD1
def leadlineref17_Steps_j7 (kleadlineref17_Steps_l6 : (List Int) → Int → Option (List (List Int))) (vD7 : Int) (vE1 : (List Int)) : Option (List (List Int)) :=
  kleadlineref17_Steps_l6 vE1 (IntKind.i64.wrap (vD7 + 1))
def leadlineref17_Steps_l6 (N : Nat) (kleadlineref17_Steps_j5 : (List Int) → Option (List (List Int))) (p1 : (List api_Event)) (p6 : (List Int)) (p11 : Int) (vB8 : (List Bool)) : Nat → (List Int) → Int → Option (List (List Int))
  | 0, _, _ => none
  | n + 1, vD1, vD7 =>
    if vD7 < (p1.length : Int) then
      (getI vB8 vD7).bind fun x29 =>
      (leadlineref17_Steps_l9 N (leadlineref17_Steps_j8 (leadlineref17_Steps_j7 (leadlineref17_Steps_l6 N kleadlineref17_Steps_j5 p1 p6 p11 vB8 n) vD7) vD1 vD7) p1 p6 p11 vD7 vB8) N (!x29) 0
    else
      kleadlineref17_Steps_j5 vD1
def leadlineref17_Steps_l12 (N : Nat) (kleadlineref17_Steps_j11 : (List Bool) → Option (List (List Int))) (vC1 : (List Int)) : Nat → (List Bool) → Int → Option (List (List Int))
  | 0, _, _ => none
  | n + 1, vD8, vD14 =>
    if vD14 < (vC1.length : Int) then
      (getI vC1 vD14).bind fun x67 =>
      (getI vD8 x67).bind fun x73 =>
      (setI vD8 x67 true).bind fun l76 =>
      (leadlineref17_Steps_l12 N kleadlineref17_Steps_j11 vC1 n) l76 (IntKind.i64.wrap (vD14 + 1))
    else
      kleadlineref17_Steps_j11 vD8
def leadlineref17_Steps_j11 (kleadlineref17_Steps_l4 : (List (List Int)) → (List Bool) → Int → Option (List (List Int))) (vC1 : (List Int)) (vB2 : (List (List Int))) (vB14 : Int) (vC7 : (List Bool)) : Option (List (List Int)) :=
  (appG 24 vB2 ([vC1] : List (List Int))).bind fun l88 =>
  kleadlineref17_Steps_l4 l88 vC7 (IntKind.i64.wrap (vB14 - (vC1.length : Int)))
def leadlineref17_Steps_j5 (N : Nat) (kleadlineref17_Steps_l4 : (List (List Int)) → (List Bool) → Int → Option (List (List Int))) (vB2 : (List (List Int))) (vB8 : (List Bool)) (vB14 : Int) (vC1 : (List Int)) : Option (List (List Int)) :=
  (leadlineref17_Steps_l12 N (leadlineref17_Steps_j11 kleadlineref17_Steps_l4 vC1 vB2 vB14) vC1) N vB8 0
def leadlineref17_Steps_l4 (N : Nat) (kleadlineref17_Steps_j3 : (List (List Int)) → Option (List (List Int))) (p1 : (List api_Event)) (p6 : (List Int)) (p11 : Int) : Nat → (List (List Int)) → (List Bool) → Int → Option (List (List Int))
  | 0, _, _, _ => none
  | n + 1, vB2, vB8, vB14 =>
    if 0 < vB14 then
      (leadlineref17_Steps_l6 N (leadlineref17_Steps_j5 N (leadlineref17_Steps_l4 N kleadlineref17_Steps_j3 p1 p6 p11 n) vB2 vB8 vB14) p1 p6 p11 vB8) N [] 0
    else
      kleadlineref17_Steps_j3 vB2
def leadlineref17_Steps_j3 (vA23 : (List (List Int))) : Option (List (List Int)) :=
  some vA23
def leadlineref17_Steps_j2 (N : Nat) (p1 : (List api_Event)) (p6 : (List Int)) (p11 : Int) (vA15 : (List Bool)) (vA21 : Int) : Option (List (List Int)) :=
  (leadlineref17_Steps_l4 N leadlineref17_Steps_j3 p1 p6 p11) N [] vA15 vA21
def leadlineref17_Steps_j1 (N : Nat) (p1 : (List api_Event)) (p6 : (List Int)) (p11 : Int) (vA15 : (List Bool)) : Option (List (List Int)) :=
  (leadlineref16_Threads N p1).bind fun r21 =>
  if r21 = 0 then
    (leadlineref17_Steps_j2 N p1 p6 p11 vA15) 0
  else
    (leadlineref17_Steps_j2 N p1 p6 p11 vA15) (p1.length : Int)
def leadlineref17_Steps (N : Nat) (p1 : (List api_Event)) (p6 : (List Int)) (p11 : Int) : Option (List (List Int)) :=
  (mkL 1 (p1.length : Int) false).bind fun l15 =>
  (leadlineref17_Steps_j1 N p1 p6 p11) l15

def leadlineref06_Ints_l2 (N : Nat) (kleadlineref06_Ints_j1 : Option Bool) (p1 : (List Int)) (p6 : (List Int)) : Nat → Int → Option Bool
  | 0, _ => none
  | n + 1, vB10 =>
    if vB10 < (p1.length : Int) then
      (getI p1 vB10).bind fun x13 =>
      (getI p6 vB10).bind fun x18 =>
      if x13 ≠ x18 then
        some false
      else
        (leadlineref06_Ints_l2 N kleadlineref06_Ints_j1 p1 p6 n) (IntKind.i64.wrap (vB10 + 1))
    else
      kleadlineref06_Ints_j1
def leadlineref06_Ints_j1  : Option Bool :=
  some true
def leadlineref06_Ints (N : Nat) (p1 : (List Int)) (p6 : (List Int)) : Option Bool :=
  if (p1.length : Int) ≠ (p6.length : Int) then
    some false
  else
    (leadlineref06_Ints_l2 N leadlineref06_Ints_j1 p1 p6) N 0

def leadlineref11_Rows_l2 (N : Nat) (kleadlineref11_Rows_j1 : Option Bool) (p1 : (List (List Int))) (p6 : (List (List Int))) : Nat → Int → Option Bool
  | 0, _ => none
  | n + 1, vB10 =>
    if vB10 < (p1.length : Int) then
      (getI p1 vB10).bind fun x13 =>
      (getI p6 vB10).bind fun x22 =>
      (leadlineref06_Ints N x13 x22).bind fun r31 =>
      if r31 = true then
        (leadlineref11_Rows_l2 N kleadlineref11_Rows_j1 p1 p6 n) (IntKind.i64.wrap (vB10 + 1))
      else
        some false
    else
      kleadlineref11_Rows_j1
def leadlineref11_Rows_j1  : Option Bool :=
  some true
def leadlineref11_Rows (N : Nat) (p1 : (List (List Int))) (p6 : (List (List Int))) : Option Bool :=
  if (p1.length : Int) ≠ (p6.length : Int) then
    some false
  else
    (leadlineref11_Rows_l2 N leadlineref11_Rows_j1 p1 p6) N 0

def leadlinelaw17_fixed (N : Nat)  : Option Bool :=
  (trace_Swap N ([(api_Event.mk 12 1 0 1 0), (api_Event.mk 12 0 2 1 0), (api_Event.mk 1 0 0 1 0)] : List api_Event) 0 ([0, 0, 1] : List Int) 3).bind fun r10 =>
  (trace_Swap N ([(api_Event.mk 12 1 0 1 0), (api_Event.mk 12 0 2 1 0), (api_Event.mk 1 0 0 1 0)] : List api_Event) 1 ([0, 0, 1] : List Int) 3).bind fun r17 =>
  (trace_Form N ([(api_Event.mk 12 1 0 1 0), (api_Event.mk 12 0 2 1 0), (api_Event.mk 1 0 0 1 0)] : List api_Event) ([0, 0, 1] : List Int) 3).bind fun r32 =>
  (leadlineref17_Equal N r32 ([(api_Event.mk 12 0 2 1 0), (api_Event.mk 12 1 0 1 0), (api_Event.mk 1 0 0 1 0)] : List api_Event)).bind fun r42 =>
  (sure r42).bind fun _ =>
  (trace_Same N ([(api_Event.mk 12 1 0 1 0), (api_Event.mk 12 0 2 1 0), (api_Event.mk 1 0 0 1 0)] : List api_Event) r10.1 ([0, 0, 1] : List Int) 3).bind fun r45 =>
  (sure r45).bind fun _ =>
  (trace_Same N ([(api_Event.mk 12 1 0 1 0), (api_Event.mk 12 0 2 1 0), (api_Event.mk 1 0 0 1 0)] : List api_Event) ([(api_Event.mk 12 1 0 1 0), (api_Event.mk 1 0 0 1 0), (api_Event.mk 12 0 2 1 0)] : List api_Event) ([0, 0, 1] : List Int) 3).bind fun r51 =>
  (sure (!r51)).bind fun _ =>
  (sure r10.2).bind fun _ =>
  (sure (!r17.2)).bind fun _ =>
  (leadlineref17_Equal N r10.1 ([(api_Event.mk 12 0 2 1 0), (api_Event.mk 12 1 0 1 0), (api_Event.mk 1 0 0 1 0)] : List api_Event)).bind fun r59 =>
  (sure r59).bind fun _ =>
  (trace_Key N ([(api_Event.mk 12 1 0 1 0), (api_Event.mk 12 0 2 1 0), (api_Event.mk 1 0 0 1 0)] : List api_Event) ([0, 0, 1] : List Int) 3).bind fun r62 =>
  (sure (decide (r62 = [48, 32, 99, 111, 109, 101, 32, 50, 32, 49, 10, 49, 32, 99, 111, 109, 101, 32, 48, 32, 49, 10, 48, 32, 108, 111, 97, 100, 32, 48, 32, 49, 10]))).bind fun _ =>
  (trace_Steps N ([(api_Event.mk 12 1 0 1 0), (api_Event.mk 12 0 2 1 0), (api_Event.mk 1 0 0 1 0)] : List api_Event) ([0, 0, 1] : List Int) 3).bind fun r65 =>
  (leadlineref11_Rows N r65 ([([0, 1] : List Int), ([2] : List Int)] : List (List Int))).bind fun r83 =>
  (sure r83).bind fun _ =>
  (trace_Same N ([] : (List api_Event)) ([] : (List api_Event)) ([0, 0, 1] : List Int) 3).bind fun r86 =>
  (sure r86).bind fun _ =>
  (trace_Same N ([(api_Event.mk 0 9 0 0 0)] : List api_Event) ([(api_Event.mk 0 9 0 0 0)] : List api_Event) ([0, 0, 1] : List Int) 3).bind fun r95 =>
  some (!r95)

def leadlinelaw17_TraceTells (N : Nat) (p1 : (List api_Event)) (p6 : (List api_Event)) (p11 : Int) (p12 : Int) : Option Bool :=
  (leadlinelaw17_cut N p1).bind fun r14 =>
  (leadlinelaw17_cut N p6).bind fun r23 =>
  (appG 40 ([] : List api_Event) r14).bind fun l38 =>
  (trace_Swap N r14 p12 ([0, 0, 1] : List Int) p11).bind fun r47 =>
  (leadlineref17_Swap N r14 p12 ([0, 0, 1] : List Int) p11).bind fun r54 =>
  (trace_Form N r14 ([0, 0, 1] : List Int) p11).bind fun r65 =>
  (leadlineref17_Form N r14 ([0, 0, 1] : List Int) p11).bind fun r72 =>
  (leadlineref17_Equal N r65 r72).bind fun r79 =>
  (sure r79).bind fun _ =>
  (trace_Same N r14 r23 ([0, 0, 1] : List Int) p11).bind fun r82 =>
  (leadlineref17_Same N r14 r23 ([0, 0, 1] : List Int) p11).bind fun r84 =>
  (sure (r82 == r84)).bind fun _ =>
  (trace_Key N r14 ([0, 0, 1] : List Int) p11).bind fun r87 =>
  (leadlineref17_Key N r14 ([0, 0, 1] : List Int) p11).bind fun r89 =>
  (sure (decide (r87 = r89))).bind fun _ =>
  (leadlineref17_Equal N r47.1 r54.1).bind fun r92 =>
  (sure r92).bind fun _ =>
  (sure (r47.2 == r54.2)).bind fun _ =>
  (trace_Steps N r14 ([0, 0, 1] : List Int) p11).bind fun r96 =>
  (leadlineref17_Steps N r14 ([0, 0, 1] : List Int) p11).bind fun r105 =>
  (leadlineref11_Rows N r96 r105).bind fun r114 =>
  (sure r114).bind fun _ =>
  (leadlineref17_Equal N r14 l38).bind fun r117 =>
  (sure r117).bind fun _ =>
  (leadlinelaw17_fixed N).bind fun r120 =>
  some r120

def leadlinelaw17_threads_l2 (N : Nat) (kleadlinelaw17_threads_j1 : (List api_Event) → Option (List api_Event)) (p1 : (List api_Event)) : Nat → (List api_Event) → Int → Option (List api_Event)
  | 0, _, _ => none
  | n + 1, vB6, vB12 =>
    if ((decide (vB12 < (p1.length : Int))) && (decide (vB12 < 30))) = true then
      (getI p1 vB12).bind fun x10 =>
      (appG 40 vB6 ([(api_Event.mk x10.Kind (iand .i64 x10.T 7) x10.A x10.N x10.M)] : List api_Event)).bind fun l19 =>
      (leadlinelaw17_threads_l2 N kleadlinelaw17_threads_j1 p1 n) l19 (IntKind.i64.wrap (vB12 + 1))
    else
      kleadlinelaw17_threads_j1 vB6
def leadlinelaw17_threads_j1 (vA2 : (List api_Event)) : Option (List api_Event) :=
  some vA2
def leadlinelaw17_threads (N : Nat) (p1 : (List api_Event)) : Option (List api_Event) :=
  (leadlinelaw17_threads_l2 N leadlinelaw17_threads_j1 p1) N [] 0

def leadlinelaw17_TraceSame_j3 (kleadlinelaw17_TraceSame_l2 : (List api_Event) → Int → Option Bool) (vB33 : Int) (vC6 : (List api_Event)) : Option Bool :=
  kleadlinelaw17_TraceSame_l2 vC6 (IntKind.i64.wrap (vB33 + 1))
def leadlinelaw17_TraceSame_l2 (N : Nat) (kleadlinelaw17_TraceSame_j1 : (List api_Event) → Option Bool) (p6 : (List Int)) (p11 : Int) (r12 : (List api_Event)) : Nat → (List api_Event) → Int → Option Bool
  | 0, _, _ => none
  | n + 1, vB28, vB33 =>
    if (((decide (vB33 < (p6.length : Int))) && (decide (vB33 < 60))) && (decide (1 < (r12.length : Int)))) = true then
      (getI p6 vB33).bind fun x23 =>
      (remI (iand .i64 x23 65535) (IntKind.i64.wrap ((r12.length : Int) - 1))).bind fun x28 =>
      (trace_Swap N vB28 x28 ([0, 0, 1] : List Int) p11).bind fun r30 =>
      if r30.2 = true then
        (sure (!(decide ((r30.1.length : Int) ≠ (r12.length : Int))))).bind fun _ =>
        (leadlinelaw17_TraceSame_j3 (leadlinelaw17_TraceSame_l2 N kleadlinelaw17_TraceSame_j1 p6 p11 r12 n) vB33) r30.1
      else
        (leadlinelaw17_TraceSame_j3 (leadlinelaw17_TraceSame_l2 N kleadlinelaw17_TraceSame_j1 p6 p11 r12 n) vB33) vB28
    else
      kleadlinelaw17_TraceSame_j1 vB28
def leadlinelaw17_TraceSame_j1 (N : Nat) (p11 : Int) (r12 : (List api_Event)) (vA10 : (List api_Event)) : Option Bool :=
  (trace_Form N r12 ([0, 0, 1] : List Int) p11).bind fun r39 =>
  (trace_Form N vA10 ([0, 0, 1] : List Int) p11).bind fun r46 =>
  (leadlineref17_Equal N r39 r46).bind fun r53 =>
  (sure r53).bind fun _ =>
  (trace_Same N r12 vA10 ([0, 0, 1] : List Int) p11).bind fun r56 =>
  (sure r56).bind fun _ =>
  (trace_Same N r12 r39 ([0, 0, 1] : List Int) p11).bind fun r59 =>
  (sure r59).bind fun _ =>
  (trace_Form N r39 ([0, 0, 1] : List Int) p11).bind fun r62 =>
  (leadlineref17_Equal N r62 r39).bind fun r69 =>
  (sure r69).bind fun _ =>
  (trace_Key N r12 ([0, 0, 1] : List Int) p11).bind fun r72 =>
  (trace_Key N vA10 ([0, 0, 1] : List Int) p11).bind fun r74 =>
  (sure ((decide (r72 = r74)) && (decide ((r39.length : Int) = (r12.length : Int))))).bind fun _ =>
  (leadlinelaw17_fixed N).bind fun r77 =>
  some r77
def leadlinelaw17_TraceSame (N : Nat) (p1 : (List api_Event)) (p6 : (List Int)) (p11 : Int) : Option Bool :=
  (leadlinelaw17_threads N p1).bind fun r12 =>
  (leadlinelaw17_TraceSame_l2 N (leadlinelaw17_TraceSame_j1 N p11 r12) p6 p11 r12) N r12 0

def leadlinelaw17_TraceOrder_j1 (N : Nat) (p7 : Int) (r8 : (List api_Event)) (x21 : Int) (vA2 : Bool) : Option Bool :=
  if vA2 = true then
    (leadlinelaw17_fixed N).bind fun r41 =>
    some r41
  else
    (subI r8 0 x21).bind fun l50 =>
    (appG 40 ([] : List api_Event) l50).bind fun l58 =>
    (getI r8 (IntKind.i64.wrap (x21 + 1))).bind fun x67 =>
    (getI r8 x21).bind fun x72 =>
    (appG 40 l58 ([x67, x72] : List api_Event)).bind fun l80 =>
    (subI r8 (IntKind.i64.wrap (x21 + 2)) (r8.length : Int)).bind fun l86 =>
    (appG 40 l80 l86).bind fun l94 =>
    (trace_Swap N r8 x21 ([0, 0, 1] : List Int) p7).bind fun r103 =>
    (sure (!r103.2)).bind fun _ =>
    (trace_Same N r8 l94 ([0, 0, 1] : List Int) p7).bind fun r111 =>
    (sure (!r111)).bind fun _ =>
    (trace_Form N r8 ([0, 0, 1] : List Int) p7).bind fun r114 =>
    (trace_Form N l94 ([0, 0, 1] : List Int) p7).bind fun r121 =>
    (leadlineref17_Equal N r114 r121).bind fun r128 =>
    (sure (!r128)).bind fun _ =>
    (leadlinelaw17_fixed N).bind fun r131 =>
    some r131
def leadlinelaw17_TraceOrder (N : Nat) (p1 : (List api_Event)) (p6 : Int) (p7 : Int) : Option Bool :=
  (leadlinelaw17_threads N p1).bind fun r8 =>
  if (r8.length : Int) < 2 then
    (leadlinelaw17_fixed N).bind fun r19 =>
    some r19
  else
    (remI (iand .i64 p6 65535) (IntKind.i64.wrap ((r8.length : Int) - 1))).bind fun x21 =>
    (getI r8 x21).bind fun x23 =>
    (getI r8 (IntKind.i64.wrap (x21 + 1))).bind fun x29 =>
    (leadlineref15_Depend N x23 x29 ([0, 0, 1] : List Int) p7).bind fun r35 =>
    if r35 = true then
      (leadlinelaw17_TraceOrder_j1 N p7 r8 x21) (decide (x23 = x29))
    else
      (leadlinelaw17_TraceOrder_j1 N p7 r8 x21) true

def leadlinelaw17_TraceSteps_l8 (N : Nat) (kleadlinelaw17_TraceSteps_j7 : Option Bool) (p6 : Int) (r7 : (List api_Event)) (x35 : (List Int)) (x45 : Int) (vD2 : Int) : Nat → Int → Option Bool
  | 0, _ => none
  | n + 1, vG1 =>
    if vG1 < vD2 then
      (getI x35 vG1).bind fun x59 =>
      (getI r7 x59).bind fun x64 =>
      (getI r7 x45).bind fun x69 =>
      (leadlineref15_Depend N x64 x69 ([0, 0, 1] : List Int) p6).bind fun r74 =>
      (sure (!r74)).bind fun _ =>
      (leadlinelaw17_TraceSteps_l8 N kleadlinelaw17_TraceSteps_j7 p6 r7 x35 x45 vD2 n) (IntKind.i64.wrap (vG1 + 1))
    else
      kleadlinelaw17_TraceSteps_j7
def leadlinelaw17_TraceSteps_j12 (kleadlinelaw17_TraceSteps_l10 : Bool → Int → Option Bool) (vG3 : Int) (vH2 : Bool) : Option Bool :=
  kleadlinelaw17_TraceSteps_l10 vH2 (IntKind.i64.wrap (vG3 + 1))
def leadlinelaw17_TraceSteps_j11 (N : Nat) (kleadlinelaw17_TraceSteps_j9 : Bool → Option Bool) (kleadlinelaw17_TraceSteps_l10 : Bool → Int → Option Bool) (p6 : Int) (r7 : (List api_Event)) (r25 : (List (List Int))) (x45 : Int) (vB2 : Int) (vG2 : Bool) (vG3 : Int) (vH1 : Bool) : Option Bool :=
  if vH1 = true then
    if vG2 = true then
      (leadlinelaw17_TraceSteps_j12 kleadlinelaw17_TraceSteps_l10 vG3) true
    else
      (getI r25 (IntKind.i64.wrap (vB2 - 1))).bind fun x89 =>
      (getI x89 vG3).bind fun x98 =>
      if x98 < x45 then
        (getI r7 x98).bind fun x104 =>
        (getI r7 x45).bind fun x109 =>
        (leadlineref15_Depend N x104 x109 ([0, 0, 1] : List Int) p6).bind fun r114 =>
        (leadlinelaw17_TraceSteps_j12 kleadlinelaw17_TraceSteps_l10 vG3) r114
      else
        (leadlinelaw17_TraceSteps_j12 kleadlinelaw17_TraceSteps_l10 vG3) false
  else
    kleadlinelaw17_TraceSteps_j9 vG2
def leadlinelaw17_TraceSteps_l10 (N : Nat) (kleadlinelaw17_TraceSteps_j9 : Bool → Option Bool) (p6 : Int) (r7 : (List api_Event)) (r25 : (List (List Int))) (x45 : Int) (vB2 : Int) : Nat → Bool → Int → Option Bool
  | 0, _, _ => none
  | n + 1, vG2, vG3 =>
    if 0 < vB2 then
      (getI r25 (IntKind.i64.wrap (vB2 - 1))).bind fun x78 =>
      (leadlinelaw17_TraceSteps_j11 N kleadlinelaw17_TraceSteps_j9 (leadlinelaw17_TraceSteps_l10 N kleadlinelaw17_TraceSteps_j9 p6 r7 r25 x45 vB2 n) p6 r7 r25 x45 vB2 vG2 vG3) (decide (vG3 < (x78.length : Int)))
    else
      (leadlinelaw17_TraceSteps_j11 N kleadlinelaw17_TraceSteps_j9 (leadlinelaw17_TraceSteps_l10 N kleadlinelaw17_TraceSteps_j9 p6 r7 r25 x45 vB2 n) p6 r7 r25 x45 vB2 vG2 vG3) false
def leadlinelaw17_TraceSteps_j9 (kleadlinelaw17_TraceSteps_j5 : Option Bool) (vF2 : Bool) : Option Bool :=
  (sure (!(!vF2))).bind fun _ =>
  kleadlinelaw17_TraceSteps_j5
def leadlinelaw17_TraceSteps_j7 (N : Nat) (kleadlinelaw17_TraceSteps_j5 : Option Bool) (p6 : Int) (r7 : (List api_Event)) (r25 : (List (List Int))) (x45 : Int) (vB2 : Int) : Option Bool :=
  (leadlinelaw17_TraceSteps_l10 N (leadlinelaw17_TraceSteps_j9 kleadlinelaw17_TraceSteps_j5) p6 r7 r25 x45 vB2) N (decide (vB2 = 0)) 0
def leadlinelaw17_TraceSteps_j6 (N : Nat) (kleadlinelaw17_TraceSteps_j5 : Option Bool) (p6 : Int) (r7 : (List api_Event)) (r25 : (List (List Int))) (x35 : (List Int)) (x45 : Int) (vD2 : Int) (vB2 : Int) (vF1 : Bool) : Option Bool :=
  (sure (!vF1)).bind fun _ =>
  (leadlinelaw17_TraceSteps_l8 N (leadlinelaw17_TraceSteps_j7 N kleadlinelaw17_TraceSteps_j5 p6 r7 r25 x45 vB2) p6 r7 x35 x45 vD2) N 0
def leadlinelaw17_TraceSteps_j5 (kleadlinelaw17_TraceSteps_l4 : Int → Int → Option Bool) (vD1 : Int) (vD2 : Int) : Option Bool :=
  kleadlinelaw17_TraceSteps_l4 (IntKind.i64.wrap (vD1 + 1)) (IntKind.i64.wrap (vD2 + 1))
def leadlinelaw17_TraceSteps_l4 (N : Nat) (kleadlinelaw17_TraceSteps_j3 : Int → Option Bool) (p6 : Int) (r7 : (List api_Event)) (r25 : (List (List Int))) (vB2 : Int) : Nat → Int → Int → Option Bool
  | 0, _, _ => none
  | n + 1, vD1, vD2 =>
    (getI r25 vB2).bind fun x35 =>
    if vD2 < (x35.length : Int) then
      (getI x35 vD2).bind fun x45 =>
      if ((decide (x45 < 0)) || (decide ((r7.length : Int) ≤ x45))) = true then
        (leadlinelaw17_TraceSteps_j6 N (leadlinelaw17_TraceSteps_j5 (leadlinelaw17_TraceSteps_l4 N kleadlinelaw17_TraceSteps_j3 p6 r7 r25 vB2 n) vD1 vD2) p6 r7 r25 x35 x45 vD2 vB2) true
      else
        if 0 < vD2 then
          (getI x35 (IntKind.i64.wrap (vD2 - 1))).bind fun x52 =>
          (leadlinelaw17_TraceSteps_j6 N (leadlinelaw17_TraceSteps_j5 (leadlinelaw17_TraceSteps_l4 N kleadlinelaw17_TraceSteps_j3 p6 r7 r25 vB2 n) vD1 vD2) p6 r7 r25 x35 x45 vD2 vB2) (decide (x45 ≤ x52))
        else
          (leadlinelaw17_TraceSteps_j6 N (leadlinelaw17_TraceSteps_j5 (leadlinelaw17_TraceSteps_l4 N kleadlinelaw17_TraceSteps_j3 p6 r7 r25 vB2 n) vD1 vD2) p6 r7 r25 x35 x45 vD2 vB2) false
    else
      kleadlinelaw17_TraceSteps_j3 vD1
def leadlinelaw17_TraceSteps_j3 (kleadlinelaw17_TraceSteps_l2 : Int → Int → Option Bool) (vB2 : Int) (vC1 : Int) : Option Bool :=
  kleadlinelaw17_TraceSteps_l2 vC1 (IntKind.i64.wrap (vB2 + 1))
def leadlinelaw17_TraceSteps_l2 (N : Nat) (kleadlinelaw17_TraceSteps_j1 : Int → Option Bool) (p6 : Int) (r7 : (List api_Event)) (r25 : (List (List Int))) : Nat → Int → Int → Option Bool
  | 0, _, _ => none
  | n + 1, vB1, vB2 =>
    if vB2 < (r25.length : Int) then
      (leadlinelaw17_TraceSteps_l4 N (leadlinelaw17_TraceSteps_j3 (leadlinelaw17_TraceSteps_l2 N kleadlinelaw17_TraceSteps_j1 p6 r7 r25 n) vB2) p6 r7 r25 vB2) N vB1 0
    else
      kleadlinelaw17_TraceSteps_j1 vB1
def leadlinelaw17_TraceSteps_j1 (N : Nat) (r7 : (List api_Event)) (vA1 : Int) : Option Bool :=
  if vA1 = (r7.length : Int) then
    (leadlinelaw17_fixed N).bind fun r118 =>
    some r118
  else
    some false
def leadlinelaw17_TraceSteps (N : Nat) (p1 : (List api_Event)) (p6 : Int) : Option Bool :=
  (leadlinelaw17_threads N p1).bind fun r7 =>
  (trace_Steps N r7 ([0, 0, 1] : List Int) p6).bind fun r25 =>
  (leadlinelaw17_TraceSteps_l2 N (leadlinelaw17_TraceSteps_j1 N r7) p6 r7 r25) N 0 0

def leadlinelaw17_TraceJoins (N : Nat) (p1 : (List api_Event)) (p6 : Int) (p7 : Int) : Option Bool :=
  (leadlinelaw17_threads N p1).bind fun r8 =>
  (remI (iand .i64 p6 65535) (IntKind.i64.wrap ((r8.length : Int) + 1))).bind fun x18 =>
  (subI r8 0 x18).bind fun l27 =>
  (trace_Form N l27 ([0, 0, 1] : List Int) p7).bind fun r35 =>
  (appG 40 ([] : List api_Event) r35).bind fun l42 =>
  (subI r8 x18 (r8.length : Int)).bind fun l48 =>
  (trace_Form N l48 ([0, 0, 1] : List Int) p7).bind fun r56 =>
  (appG 40 l42 r56).bind fun l63 =>
  (trace_Form N l63 ([0, 0, 1] : List Int) p7).bind fun r69 =>
  (trace_Form N r8 ([0, 0, 1] : List Int) p7).bind fun r76 =>
  (leadlineref17_Equal N r69 r76).bind fun r83 =>
  (sure r83).bind fun _ =>
  (trace_Same N r8 l63 ([0, 0, 1] : List Int) p7).bind fun r86 =>
  (sure r86).bind fun _ =>
  (leadlinelaw17_fixed N).bind fun r89 =>
  some r89

def leadlinelaw17_TraceThreads_j6 (kleadlinelaw17_TraceThreads_l5 : (List api_Event) → Int → Option Bool) (vE7 : Int) (vF1 : (List api_Event)) : Option Bool :=
  kleadlinelaw17_TraceThreads_l5 vF1 (IntKind.i64.wrap (vE7 + 1))
def leadlinelaw17_TraceThreads_l5 (N : Nat) (kleadlinelaw17_TraceThreads_j4 : (List api_Event) → Option Bool) (r7 : (List api_Event)) (vB2 : Int) : Nat → (List api_Event) → Int → Option Bool
  | 0, _, _ => none
  | n + 1, vE1, vE7 =>
    if vE7 < (r7.length : Int) then
      (getI r7 vE7).bind fun x32 =>
      if x32.T = vB2 then
        (appG 40 vE1 ([x32] : List api_Event)).bind fun l43 =>
        (leadlinelaw17_TraceThreads_j6 (leadlinelaw17_TraceThreads_l5 N kleadlinelaw17_TraceThreads_j4 r7 vB2 n) vE7) l43
      else
        (leadlinelaw17_TraceThreads_j6 (leadlinelaw17_TraceThreads_l5 N kleadlinelaw17_TraceThreads_j4 r7 vB2 n) vE7) vE1
    else
      kleadlinelaw17_TraceThreads_j4 vE1
def leadlinelaw17_TraceThreads_j9 (kleadlinelaw17_TraceThreads_l8 : (List api_Event) → Int → Option Bool) (vE14 : Int) (vF7 : (List api_Event)) : Option Bool :=
  kleadlinelaw17_TraceThreads_l8 vF7 (IntKind.i64.wrap (vE14 + 1))
def leadlinelaw17_TraceThreads_l8 (N : Nat) (kleadlinelaw17_TraceThreads_j7 : (List api_Event) → Option Bool) (r17 : (List api_Event)) (vB2 : Int) : Nat → (List api_Event) → Int → Option Bool
  | 0, _, _ => none
  | n + 1, vE8, vE14 =>
    if vE14 < (r17.length : Int) then
      (getI r17 vE14).bind fun x50 =>
      if x50.T = vB2 then
        (appG 40 vE8 ([x50] : List api_Event)).bind fun l61 =>
        (leadlinelaw17_TraceThreads_j9 (leadlinelaw17_TraceThreads_l8 N kleadlinelaw17_TraceThreads_j7 r17 vB2 n) vE14) l61
      else
        (leadlinelaw17_TraceThreads_j9 (leadlinelaw17_TraceThreads_l8 N kleadlinelaw17_TraceThreads_j7 r17 vB2 n) vE14) vE8
    else
      kleadlinelaw17_TraceThreads_j7 vE8
def leadlinelaw17_TraceThreads_j7 (N : Nat) (kleadlinelaw17_TraceThreads_j3 : Option Bool) (vD1 : (List api_Event)) (vD7 : (List api_Event)) : Option Bool :=
  (leadlineref17_Equal N vD1 vD7).bind fun r67 =>
  (sure (!(!r67))).bind fun _ =>
  kleadlinelaw17_TraceThreads_j3
def leadlinelaw17_TraceThreads_j4 (N : Nat) (kleadlinelaw17_TraceThreads_j3 : Option Bool) (r17 : (List api_Event)) (vB2 : Int) (vD1 : (List api_Event)) : Option Bool :=
  (leadlinelaw17_TraceThreads_l8 N (leadlinelaw17_TraceThreads_j7 N kleadlinelaw17_TraceThreads_j3 vD1) r17 vB2) N [] 0
def leadlinelaw17_TraceThreads_j3 (kleadlinelaw17_TraceThreads_l2 : Int → Option Bool) (vB2 : Int) : Option Bool :=
  kleadlinelaw17_TraceThreads_l2 (IntKind.i64.wrap (vB2 + 1))
def leadlinelaw17_TraceThreads_l2 (N : Nat) (kleadlinelaw17_TraceThreads_j1 : Option Bool) (r7 : (List api_Event)) (r17 : (List api_Event)) : Nat → Int → Option Bool
  | 0, _ => none
  | n + 1, vB2 =>
    if vB2 < 8 then
      (leadlinelaw17_TraceThreads_l5 N (leadlinelaw17_TraceThreads_j4 N (leadlinelaw17_TraceThreads_j3 (leadlinelaw17_TraceThreads_l2 N kleadlinelaw17_TraceThreads_j1 r7 r17 n) vB2) r17 vB2) r7 vB2) N [] 0
    else
      kleadlinelaw17_TraceThreads_j1
def leadlinelaw17_TraceThreads_j1 (N : Nat) (r7 : (List api_Event)) (r17 : (List api_Event)) : Option Bool :=
  (sure (decide ((r17.length : Int) = (r7.length : Int)))).bind fun _ =>
  (leadlinelaw17_fixed N).bind fun r71 =>
  some r71
def leadlinelaw17_TraceThreads (N : Nat) (p1 : (List api_Event)) (p6 : Int) : Option Bool :=
  (leadlinelaw17_threads N p1).bind fun r7 =>
  (trace_Form N r7 ([0, 0, 1] : List Int) p6).bind fun r17 =>
  (leadlinelaw17_TraceThreads_l2 N (leadlinelaw17_TraceThreads_j1 N r7 r17) r7 r17) N 0
end Go.MD.ET
