/- Plain functions, lifted by program from the seat lines. No condition: definitions. -/
import Derived.Test.YtkgaliichchanaaMD
namespace Go.MD.LINES
open Go Go.MD

structure leadlineref11_Put where
  Line : Int
  Cell : Int
  N : Int
  deriving DecidableEq
structure leadlineref11_Mem where
  Of : (List Int)
  Firsts : (List Int)
  L : (List Int)
  K : (List Int)
  W : (List leadlineref11_Put)
  deriving DecidableEq
structure leadlinelaw11_Set where
  Of : (List Int)
  Stays : Int
  Firsts : (List Int)
  deriving DecidableEq

def leadlineref11_Mem_Lines__m0_71_ffooo (N : Nat) (p1 : leadlineref11_Mem) : Option (Int × leadlineref11_Mem) :=
  if (p1.Of.length : Int) = 0 then
    some (0, p1)
  else
    (getI p1.Of (IntKind.i64.wrap ((p1.Of.length : Int) - 1))).bind fun x27 =>
    some ((IntKind.i64.wrap (x27 + 1)), p1)

def leadlineref11_Mem_Read__m0_71_ffooo (N : Nat) (p1 : leadlineref11_Mem) (p26 : Int) : Option (Int × Int × leadlineref11_Mem) :=
  if ((decide (p26 < 0)) || (decide ((p1.L.length : Int) ≤ p26))) = true then
    some (0, 1, p1)
  else
    (getI p1.L p26).bind fun x28 =>
    some (x28, 0, p1)

def leadlineref11_Mem_Write__m0_71_ffooo_j1 (p1 : leadlineref11_Mem) (l32 : (List Int)) (vA1 : (List leadlineref11_Put)) : Option (Int × leadlineref11_Mem) :=
  some (0, (leadlineref11_Mem.mk p1.Of p1.Firsts l32 p1.K vA1))
def leadlineref11_Mem_Write__m0_71_ffooo (N : Nat) (p1 : leadlineref11_Mem) (p26 : Int) (p27 : Int) : Option (Int × leadlineref11_Mem) :=
  if ((decide (p26 < 0)) || (decide ((p1.L.length : Int) ≤ p26))) = true then
    some (1, p1)
  else
    (getI p1.L p26).bind fun x29 =>
    (setI p1.L p26 p27).bind fun l32 =>
    if p26 < (p1.Of.length : Int) then
      (getI p1.Of p26).bind fun x38 =>
      (appG 24 p1.W ([(leadlineref11_Put.mk x38 p26 p27)] : List leadlineref11_Put)).bind fun l46 =>
      (leadlineref11_Mem_Write__m0_71_ffooo_j1 p1 l32) l46
    else
      (leadlineref11_Mem_Write__m0_71_ffooo_j1 p1 l32) p1.W

def leadlineref11_Mem_Out__m0_71_ffooo_j4 (kleadlineref11_Mem_Out__m0_71_ffooo_l3 : (List Int) → (List leadlineref11_Put) → Int → Option (Int × leadlineref11_Mem)) (vB13 : Int) (vC1 : (List Int)) (vC7 : (List leadlineref11_Put)) : Option (Int × leadlineref11_Mem) :=
  kleadlineref11_Mem_Out__m0_71_ffooo_l3 vC1 vC7 (IntKind.i64.wrap (vB13 + 1))
def leadlineref11_Mem_Out__m0_71_ffooo_l3 (N : Nat) (kleadlineref11_Mem_Out__m0_71_ffooo_j2 : (List Int) → (List leadlineref11_Put) → Option (Int × leadlineref11_Mem)) (p26 : Int) (vA23 : (List leadlineref11_Put)) : Nat → (List Int) → (List leadlineref11_Put) → Int → Option (Int × leadlineref11_Mem)
  | 0, _, _, _ => none
  | n + 1, vB1, vB7, vB13 =>
    if vB13 < (vA23.length : Int) then
      (getI vA23 vB13).bind fun x58 =>
      if x58.Line = p26 then
        (getI vB1 x58.Cell).bind fun x67 =>
        (setI vB1 x58.Cell x58.N).bind fun l70 =>
        (leadlineref11_Mem_Out__m0_71_ffooo_j4 (leadlineref11_Mem_Out__m0_71_ffooo_l3 N kleadlineref11_Mem_Out__m0_71_ffooo_j2 p26 vA23 n) vB13) l70 vB7
      else
        (appG 24 vB7 ([x58] : List leadlineref11_Put)).bind fun l79 =>
        (leadlineref11_Mem_Out__m0_71_ffooo_j4 (leadlineref11_Mem_Out__m0_71_ffooo_l3 N kleadlineref11_Mem_Out__m0_71_ffooo_j2 p26 vA23 n) vB13) vB1 l79
    else
      kleadlineref11_Mem_Out__m0_71_ffooo_j2 vB1 vB7
def leadlineref11_Mem_Out__m0_71_ffooo_j2 (vA1 : (List Int)) (vA6 : (List Int)) (vA11 : (List Int)) (vA30 : (List Int)) (vA36 : (List leadlineref11_Put)) : Option (Int × leadlineref11_Mem) :=
  some (0, (leadlineref11_Mem.mk vA1 vA6 vA11 vA30 vA36))
def leadlineref11_Mem_Out__m0_71_ffooo_j1 (N : Nat) (p26 : Int) (vA1 : (List Int)) (vA6 : (List Int)) (vA11 : (List Int)) (vA17 : (List Int)) (vA23 : (List leadlineref11_Put)) (vA29 : Bool) : Option (Int × leadlineref11_Mem) :=
  if vA29 = true then
    some (1, (leadlineref11_Mem.mk vA1 vA6 vA11 vA17 vA23))
  else
    (leadlineref11_Mem_Out__m0_71_ffooo_l3 N (leadlineref11_Mem_Out__m0_71_ffooo_j2 vA1 vA6 vA11) p26 vA23) N vA17 [] 0
def leadlineref11_Mem_Out__m0_71_ffooo (N : Nat) (p1 : leadlineref11_Mem) (p26 : Int) : Option (Int × leadlineref11_Mem) :=
  if p26 < 0 then
    (leadlineref11_Mem_Out__m0_71_ffooo_j1 N p26) p1.Of p1.Firsts p1.L p1.K p1.W true
  else
    (leadlineref11_Mem_Lines__m0_71_ffooo N p1).bind fun r28 =>
    (leadlineref11_Mem_Out__m0_71_ffooo_j1 N p26) r28.2.Of r28.2.Firsts r28.2.L r28.2.K r28.2.W (decide (r28.1 ≤ p26))

def leadlineref11_Mem_Pending__m0_71_ffooo_l2 (N : Nat) (kleadlineref11_Mem_Pending__m0_71_ffooo_j1 : (List Int) → Option ((List Int) × leadlineref11_Mem)) (r26 : (Int × leadlineref11_Mem)) : Nat → (List Int) → Int → Option ((List Int) × leadlineref11_Mem)
  | 0, _, _ => none
  | n + 1, vB1, vB7 =>
    if vB7 < (r26.2.W.length : Int) then
      (getI r26.2.W vB7).bind fun x58 =>
      (getI vB1 x58.Line).bind fun x64 =>
      (setI vB1 x58.Line (IntKind.i64.wrap (x64 + 1))).bind fun l71 =>
      (leadlineref11_Mem_Pending__m0_71_ffooo_l2 N kleadlineref11_Mem_Pending__m0_71_ffooo_j1 r26 n) l71 (IntKind.i64.wrap (vB7 + 1))
    else
      kleadlineref11_Mem_Pending__m0_71_ffooo_j1 vB1
def leadlineref11_Mem_Pending__m0_71_ffooo_j1 (r26 : (Int × leadlineref11_Mem)) (vA1 : (List Int)) : Option ((List Int) × leadlineref11_Mem) :=
  some (vA1, (leadlineref11_Mem.mk r26.2.Of r26.2.Firsts r26.2.L r26.2.K r26.2.W))
def leadlineref11_Mem_Pending__m0_71_ffooo (N : Nat) (p1 : leadlineref11_Mem) : Option ((List Int) × leadlineref11_Mem) :=
  (leadlineref11_Mem_Lines__m0_71_ffooo N p1).bind fun r26 =>
  (mkL 8 r26.1 0).bind fun l51 =>
  (leadlineref11_Mem_Pending__m0_71_ffooo_l2 N (leadlineref11_Mem_Pending__m0_71_ffooo_j1 r26) r26) N l51 0

def leadlineref11_Mem_Image__m0_71_ffooo_j3 (kleadlineref11_Mem_Image__m0_71_ffooo_l2 : Int → Option ((List Int) × Int × leadlineref11_Mem)) (r31 : ((List Int) × leadlineref11_Mem)) (vB1 : Int) (vC1 : Bool) : Option ((List Int) × Int × leadlineref11_Mem) :=
  if vC1 = true then
    some ([], 1, (leadlineref11_Mem.mk r31.2.Of r31.2.Firsts r31.2.L r31.2.K r31.2.W))
  else
    kleadlineref11_Mem_Image__m0_71_ffooo_l2 (IntKind.i64.wrap (vB1 + 1))
def leadlineref11_Mem_Image__m0_71_ffooo_l2 (N : Nat) (kleadlineref11_Mem_Image__m0_71_ffooo_j1 : Option ((List Int) × Int × leadlineref11_Mem)) (p26 : (List Int)) (r31 : ((List Int) × leadlineref11_Mem)) : Nat → Int → Option ((List Int) × Int × leadlineref11_Mem)
  | 0, _ => none
  | n + 1, vB1 =>
    if vB1 < (r31.1.length : Int) then
      (getI p26 vB1).bind fun x63 =>
      if x63 < 0 then
        (leadlineref11_Mem_Image__m0_71_ffooo_j3 (leadlineref11_Mem_Image__m0_71_ffooo_l2 N kleadlineref11_Mem_Image__m0_71_ffooo_j1 p26 r31 n) r31 vB1) true
      else
        (getI r31.1 vB1).bind fun x69 =>
        (leadlineref11_Mem_Image__m0_71_ffooo_j3 (leadlineref11_Mem_Image__m0_71_ffooo_l2 N kleadlineref11_Mem_Image__m0_71_ffooo_j1 p26 r31 n) r31 vB1) (decide (x69 < x63))
    else
      kleadlineref11_Mem_Image__m0_71_ffooo_j1
def leadlineref11_Mem_Image__m0_71_ffooo_j7 (kleadlineref11_Mem_Image__m0_71_ffooo_l6 : (List Int) → (List Int) → Int → Option ((List Int) × Int × leadlineref11_Mem)) (vB14 : Int) (vC2 : (List Int)) (vC8 : (List Int)) : Option ((List Int) × Int × leadlineref11_Mem) :=
  kleadlineref11_Mem_Image__m0_71_ffooo_l6 vC2 vC8 (IntKind.i64.wrap (vB14 + 1))
def leadlineref11_Mem_Image__m0_71_ffooo_l6 (N : Nat) (kleadlineref11_Mem_Image__m0_71_ffooo_j5 : (List Int) → Option ((List Int) × Int × leadlineref11_Mem)) (r31 : ((List Int) × leadlineref11_Mem)) : Nat → (List Int) → (List Int) → Int → Option ((List Int) × Int × leadlineref11_Mem)
  | 0, _, _, _ => none
  | n + 1, vB2, vB8, vB14 =>
    if vB14 < (r31.2.W.length : Int) then
      (getI r31.2.W vB14).bind fun x98 =>
      (getI vB2 x98.Line).bind fun x105 =>
      if 0 < x105 then
        (setI vB2 x98.Line (IntKind.i64.wrap (x105 - 1))).bind fun l114 =>
        (getI vB8 x98.Cell).bind fun x119 =>
        (setI vB8 x98.Cell x98.N).bind fun l122 =>
        (leadlineref11_Mem_Image__m0_71_ffooo_j7 (leadlineref11_Mem_Image__m0_71_ffooo_l6 N kleadlineref11_Mem_Image__m0_71_ffooo_j5 r31 n) vB14) l114 l122
      else
        (leadlineref11_Mem_Image__m0_71_ffooo_j7 (leadlineref11_Mem_Image__m0_71_ffooo_l6 N kleadlineref11_Mem_Image__m0_71_ffooo_j5 r31 n) vB14) vB2 vB8
    else
      kleadlineref11_Mem_Image__m0_71_ffooo_j5 vB8
def leadlineref11_Mem_Image__m0_71_ffooo_j5 (r31 : ((List Int) × leadlineref11_Mem)) (vA13 : (List Int)) : Option ((List Int) × Int × leadlineref11_Mem) :=
  some (vA13, 0, (leadlineref11_Mem.mk r31.2.Of r31.2.Firsts r31.2.L r31.2.K r31.2.W))
def leadlineref11_Mem_Image__m0_71_ffooo_j4 (N : Nat) (r31 : ((List Int) × leadlineref11_Mem)) (vA1 : (List Int)) (vA7 : (List Int)) : Option ((List Int) × Int × leadlineref11_Mem) :=
  (leadlineref11_Mem_Image__m0_71_ffooo_l6 N (leadlineref11_Mem_Image__m0_71_ffooo_j5 r31) r31) N vA1 vA7 0
def leadlineref11_Mem_Image__m0_71_ffooo_j1 (N : Nat) (p26 : (List Int)) (r31 : ((List Int) × leadlineref11_Mem)) : Option ((List Int) × Int × leadlineref11_Mem) :=
  (appG 8 ([] : List Int) p26).bind fun l79 =>
  (appG 8 ([] : List Int) r31.2.K).bind fun l91 =>
  (leadlineref11_Mem_Image__m0_71_ffooo_j4 N r31) l79 l91
def leadlineref11_Mem_Image__m0_71_ffooo (N : Nat) (p1 : leadlineref11_Mem) (p26 : (List Int)) : Option ((List Int) × Int × leadlineref11_Mem) :=
  (leadlineref11_Mem_Pending__m0_71_ffooo N p1).bind fun r31 =>
  if (p26.length : Int) ≠ (r31.1.length : Int) then
    some ([], 1, r31.2)
  else
    (leadlineref11_Mem_Image__m0_71_ffooo_l2 N (leadlineref11_Mem_Image__m0_71_ffooo_j1 N p26 r31) p26 r31) N 0

def leadlineref11_grow_l2 (rf : (List Int) → (List Int) → Option (List (List Int))) (N : Nat) (kleadlineref11_grow_j1 : (List (List Int)) → Option (List (List Int))) (p1 : (List Int)) (p6 : (List Int)) : Nat → (List (List Int)) → Int → Option (List (List Int))
  | 0, _, _ => none
  | n + 1, vB2, vB8 =>
    (getI p1 (p6.length : Int)).bind fun x22 =>
    if vB8 ≤ x22 then
      (appG 8 ([] : List Int) p6).bind fun l31 =>
      (appG 8 l31 ([vB8] : List Int)).bind fun l43 =>
      (rf p1 l43).bind fun r53 =>
      (appG 24 vB2 r53).bind fun l63 =>
      (leadlineref11_grow_l2 rf N kleadlineref11_grow_j1 p1 p6 n) l63 (IntKind.i64.wrap (vB8 + 1))
    else
      kleadlineref11_grow_j1 vB2
def leadlineref11_grow_j1 (vA2 : (List (List Int))) : Option (List (List Int)) :=
  some vA2
def leadlineref11_grow : Nat → (List Int) → (List Int) → Option (List (List Int))
  | 0, _, _ => none
  | N + 1, p1, p6 =>
    if (p6.length : Int) = (p1.length : Int) then
      some ([p6] : List (List Int))
    else
      (leadlineref11_grow_l2 (leadlineref11_grow N) N leadlineref11_grow_j1 p1 p6) N [] 0

def leadlineref06_Ints_l2 (N : Nat) (kleadlineref06_Ints_j1 : Option Bool) (p1 : (List Int)) (p6 : (List Int)) : Nat → Int → Option Bool
  | 0, _ => none
  | n + 1, vB1 =>
    if vB1 < (p1.length : Int) then
      (getI p1 vB1).bind fun x13 =>
      (getI p6 vB1).bind fun x18 =>
      if x13 ≠ x18 then
        some false
      else
        (leadlineref06_Ints_l2 N kleadlineref06_Ints_j1 p1 p6 n) (IntKind.i64.wrap (vB1 + 1))
    else
      kleadlineref06_Ints_j1
def leadlineref06_Ints_j1  : Option Bool :=
  some true
def leadlineref06_Ints (N : Nat) (p1 : (List Int)) (p6 : (List Int)) : Option Bool :=
  if (p1.length : Int) ≠ (p6.length : Int) then
    some false
  else
    (leadlineref06_Ints_l2 N leadlineref06_Ints_j1 p1 p6) N 0

def leadlineref11_Mem_Cuts__m0_71_ffooo_j6 (kleadlineref11_Mem_Cuts__m0_71_ffooo_l5 : Bool → Int → Option ((List (List Int)) × leadlineref11_Mem)) (vE2 : Int) (vF1 : Bool) : Option ((List (List Int)) × leadlineref11_Mem) :=
  kleadlineref11_Mem_Cuts__m0_71_ffooo_l5 vF1 (IntKind.i64.wrap (vE2 + 1))
def leadlineref11_Mem_Cuts__m0_71_ffooo_l5 (N : Nat) (kleadlineref11_Mem_Cuts__m0_71_ffooo_j4 : Bool → Option ((List (List Int)) × leadlineref11_Mem)) (r93 : ((List Int) × Int × leadlineref11_Mem)) (vB36 : (List (List Int))) : Nat → Bool → Int → Option ((List (List Int)) × leadlineref11_Mem)
  | 0, _, _ => none
  | n + 1, vE1, vE2 =>
    if vE2 < (vB36.length : Int) then
      if vE1 = true then
        (leadlineref11_Mem_Cuts__m0_71_ffooo_j6 (leadlineref11_Mem_Cuts__m0_71_ffooo_l5 N kleadlineref11_Mem_Cuts__m0_71_ffooo_j4 r93 vB36 n) vE2) true
      else
        (getI vB36 vE2).bind fun x125 =>
        (leadlineref06_Ints N x125 r93.1).bind fun r135 =>
        (leadlineref11_Mem_Cuts__m0_71_ffooo_j6 (leadlineref11_Mem_Cuts__m0_71_ffooo_l5 N kleadlineref11_Mem_Cuts__m0_71_ffooo_j4 r93 vB36 n) vE2) r135
    else
      kleadlineref11_Mem_Cuts__m0_71_ffooo_j4 vE1
def leadlineref11_Mem_Cuts__m0_71_ffooo_j4 (kleadlineref11_Mem_Cuts__m0_71_ffooo_j3 : (List Int) → (List Int) → (List Int) → (List Int) → (List leadlineref11_Put) → (List (List Int)) → (List (List Int)) → Option ((List (List Int)) × leadlineref11_Mem)) (x84 : (List Int)) (r93 : ((List Int) × Int × leadlineref11_Mem)) (vB30 : (List (List Int))) (vB36 : (List (List Int))) (vD1 : Bool) : Option ((List (List Int)) × leadlineref11_Mem) :=
  if vD1 = true then
    kleadlineref11_Mem_Cuts__m0_71_ffooo_j3 r93.2.2.Of r93.2.2.Firsts r93.2.2.L r93.2.2.K r93.2.2.W vB30 vB36
  else
    (appG 24 vB36 ([r93.1] : List (List Int))).bind fun l145 =>
    (appG 24 vB30 ([x84] : List (List Int))).bind fun l154 =>
    kleadlineref11_Mem_Cuts__m0_71_ffooo_j3 r93.2.2.Of r93.2.2.Firsts r93.2.2.L r93.2.2.K r93.2.2.W l154 l145
def leadlineref11_Mem_Cuts__m0_71_ffooo_j3 (kleadlineref11_Mem_Cuts__m0_71_ffooo_l2 : (List Int) → (List Int) → (List Int) → (List Int) → (List leadlineref11_Put) → (List (List Int)) → (List (List Int)) → Int → Option ((List (List Int)) × leadlineref11_Mem)) (vB42 : Int) (vC2 : (List Int)) (vC7 : (List Int)) (vC12 : (List Int)) (vC18 : (List Int)) (vC24 : (List leadlineref11_Put)) (vC30 : (List (List Int))) (vC36 : (List (List Int))) : Option ((List (List Int)) × leadlineref11_Mem) :=
  kleadlineref11_Mem_Cuts__m0_71_ffooo_l2 vC2 vC7 vC12 vC18 vC24 vC30 vC36 (IntKind.i64.wrap (vB42 + 1))
def leadlineref11_Mem_Cuts__m0_71_ffooo_l2 (N : Nat) (kleadlineref11_Mem_Cuts__m0_71_ffooo_j1 : (List Int) → (List Int) → (List Int) → (List Int) → (List leadlineref11_Put) → (List (List Int)) → Option ((List (List Int)) × leadlineref11_Mem)) (r67 : (List (List Int))) : Nat → (List Int) → (List Int) → (List Int) → (List Int) → (List leadlineref11_Put) → (List (List Int)) → (List (List Int)) → Int → Option ((List (List Int)) × leadlineref11_Mem)
  | 0, _, _, _, _, _, _, _, _ => none
  | n + 1, vB2, vB7, vB12, vB18, vB24, vB30, vB36, vB42 =>
    if vB42 < (r67.length : Int) then
      (getI r67 vB42).bind fun x84 =>
      (leadlineref11_Mem_Image__m0_71_ffooo N (leadlineref11_Mem.mk vB2 vB7 vB12 vB18 vB24) x84).bind fun r93 =>
      (leadlineref11_Mem_Cuts__m0_71_ffooo_l5 N (leadlineref11_Mem_Cuts__m0_71_ffooo_j4 (leadlineref11_Mem_Cuts__m0_71_ffooo_j3 (leadlineref11_Mem_Cuts__m0_71_ffooo_l2 N kleadlineref11_Mem_Cuts__m0_71_ffooo_j1 r67 n) vB42) x84 r93 vB30 vB36) r93 vB36) N false 0
    else
      kleadlineref11_Mem_Cuts__m0_71_ffooo_j1 vB2 vB7 vB12 vB18 vB24 vB30
def leadlineref11_Mem_Cuts__m0_71_ffooo_j1 (vA2 : (List Int)) (vA7 : (List Int)) (vA12 : (List Int)) (vA18 : (List Int)) (vA24 : (List leadlineref11_Put)) (vA30 : (List (List Int))) : Option ((List (List Int)) × leadlineref11_Mem) :=
  some (vA30, (leadlineref11_Mem.mk vA2 vA7 vA12 vA18 vA24))
def leadlineref11_Mem_Cuts__m0_71_ffooo (N : Nat) (p1 : leadlineref11_Mem) : Option ((List (List Int)) × leadlineref11_Mem) :=
  (leadlineref11_Mem_Pending__m0_71_ffooo N p1).bind fun r26 =>
  (leadlineref11_grow N r26.1 ([] : (List Int))).bind fun r67 =>
  (leadlineref11_Mem_Cuts__m0_71_ffooo_l2 N leadlineref11_Mem_Cuts__m0_71_ffooo_j1 r67) N r26.2.Of r26.2.Firsts r26.2.L r26.2.K r26.2.W [] [] 0

def leadlineref11_Mem_Crash__m0_71_ffooo (N : Nat) (p1 : leadlineref11_Mem) (p26 : (List Int)) : Option (Int × leadlineref11_Mem) :=
  (leadlineref11_Mem_Image__m0_71_ffooo N p1 p26).bind fun r31 =>
  if r31.2.1 ≠ 0 then
    some (r31.2.1, r31.2.2)
  else
    (appG 8 ([] : List Int) r31.1).bind fun l65 =>
    (subI r31.2.2.Firsts (r31.2.2.Of.length : Int) (r31.2.2.Firsts.length : Int)).bind fun l71 =>
    (appG 8 l65 l71).bind fun l79 =>
    some (0, (leadlineref11_Mem.mk r31.2.2.Of r31.2.2.Firsts l79 r31.1 []))

def leadlineref11_New_j3 (kleadlineref11_New_l2 : Int → Option ((Option leadlineref11_Mem) × Int)) (vB1 : Int) (vC1 : Bool) : Option ((Option leadlineref11_Mem) × Int) :=
  if vC1 = true then
    some (none, 1)
  else
    kleadlineref11_New_l2 (IntKind.i64.wrap (vB1 + 1))
def leadlineref11_New_l2 (N : Nat) (kleadlineref11_New_j1 : Option ((Option leadlineref11_Mem) × Int)) (p1 : (List Int)) (p6 : Int) : Nat → Int → Option ((Option leadlineref11_Mem) × Int)
  | 0, _ => none
  | n + 1, vB1 =>
    if vB1 < p6 then
      if vB1 = 0 then
        (getI p1 0).bind fun x15 =>
        if x15 ≠ 0 then
          (leadlineref11_New_j3 (leadlineref11_New_l2 N kleadlineref11_New_j1 p1 p6 n) vB1) true
        else
          if 0 < vB1 then
            (getI p1 vB1).bind fun x22 =>
            (getI p1 (IntKind.i64.wrap (vB1 - 1))).bind fun x27 =>
            (leadlineref11_New_j3 (leadlineref11_New_l2 N kleadlineref11_New_j1 p1 p6 n) vB1) ((decide (x22 ≠ x27)) && (decide (x22 ≠ (IntKind.i64.wrap (x27 + 1)))))
          else
            (leadlineref11_New_j3 (leadlineref11_New_l2 N kleadlineref11_New_j1 p1 p6 n) vB1) false
      else
        if 0 < vB1 then
          (getI p1 vB1).bind fun x33 =>
          (getI p1 (IntKind.i64.wrap (vB1 - 1))).bind fun x38 =>
          (leadlineref11_New_j3 (leadlineref11_New_l2 N kleadlineref11_New_j1 p1 p6 n) vB1) ((decide (x33 ≠ x38)) && (decide (x33 ≠ (IntKind.i64.wrap (x38 + 1)))))
        else
          (leadlineref11_New_j3 (leadlineref11_New_l2 N kleadlineref11_New_j1 p1 p6 n) vB1) false
    else
      kleadlineref11_New_j1
def leadlineref11_New_j1 (p1 : (List Int)) (p6 : Int) (p7 : (List Int)) : Option ((Option leadlineref11_Mem) × Int) :=
  (subI p1 0 p6).bind fun l47 =>
  (appG 8 ([] : List Int) l47).bind fun l55 =>
  (appG 8 ([] : List Int) p7).bind fun l67 =>
  (appG 8 ([] : List Int) p7).bind fun l80 =>
  (subI p7 0 p6).bind fun l92 =>
  (appG 8 ([] : List Int) l92).bind fun l100 =>
  some ((some (leadlineref11_Mem.mk l55 l67 l80 l100 [])), 0)
def leadlineref11_New (N : Nat) (p1 : (List Int)) (p6 : Int) (p7 : (List Int)) : Option ((Option leadlineref11_Mem) × Int) :=
  if ((((decide ((p1.length : Int) ≠ (p7.length : Int))) || (decide (20 < (p1.length : Int)))) || (decide (p6 < 0))) || (decide ((p1.length : Int) < p6))) = true then
    some (none, 1)
  else
    (leadlineref11_New_l2 N (leadlineref11_New_j1 p1 p6 p7) p1 p6) N 0

def leadlinelaw11_cut (N : Nat) (p1 : leadlinelaw11_Set) : Option leadlinelaw11_Set :=
  (subI p1.Of 0 (min (p1.Of.length : Int) 22)).bind fun l14 =>
  (subI p1.Firsts 0 (min (p1.Firsts.length : Int) 22)).bind fun l22 =>
  some (leadlinelaw11_Set.mk l14 p1.Stays l22)
end Go.MD.LINES
