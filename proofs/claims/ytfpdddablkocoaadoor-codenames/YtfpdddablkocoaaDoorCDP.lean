/- Plain functions, lifted by program from the seat code. No condition: definitions. -/
import Derived.Test.YtfpdddablkocoaaDoorMD
namespace Go.MD.CODE
open Go Go.MD

/-- strings.Split, at the texts of the program -/
def splitM (s p : Str) : Option (List Str) :=
  if s = [108, 105, 110, 101, 32, 118, 111, 108, 32, 108, 111, 99, 107, 32, 116, 104, 114, 101, 97, 100, 32, 114, 101, 103, 32, 108, 111, 97, 100, 32, 115, 116, 111, 114, 101, 32, 99, 97, 115, 32, 102, 108, 117, 115, 104, 32, 111, 112, 116, 32, 115, 102, 101, 110, 99, 101, 32, 109, 102, 101, 110, 99, 101, 32, 116, 97, 107, 101, 32, 103, 105, 118, 101, 32, 105, 102, 32, 101, 108, 115, 101, 32, 108, 111, 111, 112, 32, 98, 114, 101, 97, 107, 32, 99, 104, 101, 99, 107, 32, 114, 101, 99, 111, 118, 101, 114, 32, 97, 108, 119, 97, 121, 115] ∧ p = [32] then some [[108, 105, 110, 101], [118, 111, 108], [108, 111, 99, 107], [116, 104, 114, 101, 97, 100], [114, 101, 103], [108, 111, 97, 100], [115, 116, 111, 114, 101], [99, 97, 115], [102, 108, 117, 115, 104], [111, 112, 116], [115, 102, 101, 110, 99, 101], [109, 102, 101, 110, 99, 101], [116, 97, 107, 101], [103, 105, 118, 101], [105, 102], [101, 108, 115, 101], [108, 111, 111, 112], [98, 114, 101, 97, 107], [99, 104, 101, 99, 107], [114, 101, 99, 111, 118, 101, 114], [97, 108, 119, 97, 121, 115]] else
  none
structure api_Node where
  Op : Int
  N : Int
  Name : Str
  At : Int
  deriving DecidableEq
structure api_Op where
  Kind : Int
  N : Int
  deriving DecidableEq
structure code_list where
  l : (List Int)
  deriving DecidableEq
structure code_pile where
  list : code_list
  high : Int
  deriving DecidableEq

def leadlinelaw03_Cut_l2 (N : Nat) (kleadlinelaw03_Cut_j1 : (List api_Node) → Option (List api_Node)) (p1 : (List api_Node)) : Nat → (List api_Node) → Int → Option (List api_Node)
  | 0, _, _ => none
  | n + 1, vB6, vB12 =>
    if ((decide (vB12 < (p1.length : Int))) && (decide (vB12 < 60))) = true then
      (getI p1 vB12).bind fun x10 =>
      (subI x10.Name 0 (min (x10.Name.length : Int) 40)).bind fun s16 =>
      (appG 40 vB6 ([(api_Node.mk x10.Op x10.N s16 x10.At)] : List api_Node)).bind fun l21 =>
      (leadlinelaw03_Cut_l2 N kleadlinelaw03_Cut_j1 p1 n) l21 (IntKind.i64.wrap (vB12 + 1))
    else
      kleadlinelaw03_Cut_j1 vB6
def leadlinelaw03_Cut_j1 (vA2 : (List api_Node)) : Option (List api_Node) :=
  some vA2
def leadlinelaw03_Cut (N : Nat) (p1 : (List api_Node)) : Option (List api_Node) :=
  (leadlinelaw03_Cut_l2 N leadlinelaw03_Cut_j1 p1) N [] 0

def leadlinelaw08_few_l2 (N : Nat) (kleadlinelaw08_few_j1 : (List Str) → Option (List Str)) (p1 : (List Str)) : Nat → (List Str) → Int → Option (List Str)
  | 0, _, _ => none
  | n + 1, vB6, vB12 =>
    if ((decide (vB12 < (p1.length : Int))) && (decide (vB12 < 6))) = true then
      (getI p1 vB12).bind fun x10 =>
      (subI x10 0 (min (x10.length : Int) 40)).bind fun s15 =>
      (appG 16 vB6 ([s15] : List Str)).bind fun l20 =>
      (leadlinelaw08_few_l2 N kleadlinelaw08_few_j1 p1 n) l20 (IntKind.i64.wrap (vB12 + 1))
    else
      kleadlinelaw08_few_j1 vB6
def leadlinelaw08_few_j1 (vA2 : (List Str)) : Option (List Str) :=
  some vA2
def leadlinelaw08_few (N : Nat) (p1 : (List Str)) : Option (List Str) :=
  (leadlinelaw08_few_l2 N leadlinelaw08_few_j1 p1) N [] 0

def scan_letter (N : Nat) (p1 : Int) : Option Bool :=
  some (((decide (97 ≤ p1)) && (decide (p1 ≤ 122))) || (decide (p1 = 95)))

def scan_kept_l2 (N : Nat) (kscan_kept_j1 : (List (Str × Bool)) → Option (List (Str × Bool))) (r3 : (List Str)) : Nat → (List (Str × Bool)) → Int → Option (List (Str × Bool))
  | 0, _, _ => none
  | n + 1, vB2, vB6 =>
    if vB6 < (r3.length : Int) then
      (getI r3 vB6).bind fun x11 =>
      (scan_kept_l2 N kscan_kept_j1 r3 n) (pput x11 true vB2) (IntKind.i64.wrap (vB6 + 1))
    else
      kscan_kept_j1 vB2
def scan_kept_j1 (vA2 : (List (Str × Bool))) : Option (List (Str × Bool)) :=
  some vA2
def scan_kept (N : Nat)  : Option (List (Str × Bool)) :=
  (splitM [108, 105, 110, 101, 32, 118, 111, 108, 32, 108, 111, 99, 107, 32, 116, 104, 114, 101, 97, 100, 32, 114, 101, 103, 32, 108, 111, 97, 100, 32, 115, 116, 111, 114, 101, 32, 99, 97, 115, 32, 102, 108, 117, 115, 104, 32, 111, 112, 116, 32, 115, 102, 101, 110, 99, 101, 32, 109, 102, 101, 110, 99, 101, 32, 116, 97, 107, 101, 32, 103, 105, 118, 101, 32, 105, 102, 32, 101, 108, 115, 101, 32, 108, 111, 111, 112, 32, 98, 114, 101, 97, 107, 32, 99, 104, 101, 99, 107, 32, 114, 101, 99, 111, 118, 101, 114, 32, 97, 108, 119, 97, 121, 115] [32]).bind fun r3 =>
  (scan_kept_l2 N scan_kept_j1 r3) N [] 0

def scan_Kept (N : Nat) (p1 : Str) : Option Bool :=
  (scan_kept N).bind fun r2 =>
  some ((plook p1 r2).getD false)

def scan_digit (N : Nat) (p1 : Int) : Option Bool :=
  some ((decide (48 ≤ p1)) && (decide (p1 ≤ 57)))

def scan_Name_1 (N : Nat) (p1 : Int) : Option Bool :=
  (scan_letter N p1).bind fun r2 =>
  if r2 = true then
    some true
  else
    (scan_digit N p1).bind fun r5 =>
    some r5

def scan_run__Name_1_j3 (kscan_run__Name_1_j1 : Int → Option Int) (kscan_run__Name_1_l2 : Int → Option Int) (vB2 : Int) (vC1 : Bool) : Option Int :=
  if vC1 = true then
    kscan_run__Name_1_l2 (IntKind.i64.wrap (vB2 + 1))
  else
    kscan_run__Name_1_j1 vB2
def scan_run__Name_1_l2 (N : Nat) (kscan_run__Name_1_j1 : Int → Option Int) (p1 : Str) : Nat → Int → Option Int
  | 0, _ => none
  | n + 1, vB2 =>
    if vB2 < (p1.length : Int) then
      (byteI p1 vB2).bind fun x3 =>
      (scan_Name_1 N x3).bind fun r5 =>
      (scan_run__Name_1_j3 kscan_run__Name_1_j1 (scan_run__Name_1_l2 N kscan_run__Name_1_j1 p1 n) vB2) r5
    else
      (scan_run__Name_1_j3 kscan_run__Name_1_j1 (scan_run__Name_1_l2 N kscan_run__Name_1_j1 p1 n) vB2) false
def scan_run__Name_1_j1 (vA2 : Int) : Option Int :=
  some vA2
def scan_run__Name_1 (N : Nat) (p1 : Str) : Option Int :=
  (scan_run__Name_1_l2 N scan_run__Name_1_j1 p1) N 0

def scan_Name_j1 (N : Nat) (p1 : Str) (vA2 : Bool) : Option Bool :=
  if vA2 = true then
    some false
  else
    (scan_run__Name_1 N p1).bind fun r11 =>
    some (decide (r11 = (p1.length : Int)))
def scan_Name (N : Nat) (p1 : Str) : Option Bool :=
  if ((decide (p1 = [])) || (decide (16 < (p1.length : Int)))) = true then
    (scan_Name_j1 N p1) true
  else
    (byteI p1 0).bind fun x3 =>
    (scan_letter N x3).bind fun r5 =>
    if r5 = true then
      (scan_Kept N p1).bind fun r8 =>
      (scan_Name_j1 N p1) r8
    else
      (scan_Name_j1 N p1) true

def expr_may (N : Nat) (p1 : api_Node) : Option Bool :=
  if ((decide (p1.At < 0)) || (decide (4000 < p1.At))) = true then
    some false
  else
    if p1.Op = 1 then
      some (((decide (0 ≤ p1.N)) && (decide (p1.N ≤ 4294967296))) && (decide (p1.Name = [])))
    else
      if p1.Op = 2 then
        if p1.N = 0 then
          (scan_Name N p1.Name).bind fun r7 =>
          some r7
        else
          some false
      else
        some ((decide (p1.N = 0)) && (decide (p1.Name = [])))

def expr_Right_1 (N : Nat) (p1 : api_Node) : Option Bool :=
  (expr_may N p1).bind fun r3 =>
  some (!r3)

def slices_IndexFunc_api_Node_api_Node__Right_1_l2 (N : Nat) (kslices_IndexFunc_api_Node_api_Node__Right_1_j1 : Option Int) (p1 : (List api_Node)) : Nat → Int → Option Int
  | 0, _ => none
  | n + 1, vB6 =>
    if vB6 < (p1.length : Int) then
      (getI p1 vB6).bind fun x7 =>
      (expr_Right_1 N x7).bind fun r12 =>
      if r12 = true then
        some vB6
      else
        (slices_IndexFunc_api_Node_api_Node__Right_1_l2 N kslices_IndexFunc_api_Node_api_Node__Right_1_j1 p1 n) (IntKind.i64.wrap (vB6 + 1))
    else
      kslices_IndexFunc_api_Node_api_Node__Right_1_j1
def slices_IndexFunc_api_Node_api_Node__Right_1_j1  : Option Int :=
  some (-1)
def slices_IndexFunc_api_Node_api_Node__Right_1 (N : Nat) (p1 : (List api_Node)) : Option Int :=
  (slices_IndexFunc_api_Node_api_Node__Right_1_l2 N slices_IndexFunc_api_Node_api_Node__Right_1_j1 p1) N 0

def slices_ContainsFunc_api_Node_api_Node__Right_1 (N : Nat) (p1 : (List api_Node)) : Option Bool :=
  (slices_IndexFunc_api_Node_api_Node__Right_1 N p1).bind fun r6 =>
  some (decide (0 ≤ r6))

def expr_many (N : Nat) (p1 : Int) : Option Int :=
  if ((decide (p1 = 1)) || (decide (p1 = 2))) = true then
    some 0
  else
    if ((decide (p1 = 3)) || (decide (p1 = 4))) = true then
      some 1
    else
      if ((decide (5 ≤ p1)) && (decide (p1 ≤ 15))) = true then
        some 2
      else
        some (-1)

def expr_End_j3 (N : Nat) (kexpr_End_l2 : Int → Int → Option Int) (p1 : (List api_Node)) (vB6 : Int) (vB7 : Int) (vC1 : Bool) : Option Int :=
  if vC1 = true then
    some (-1)
  else
    (getI p1 vB6).bind fun x17 =>
    (expr_many N x17.Op).bind fun r22 =>
    kexpr_End_l2 (IntKind.i64.wrap (vB6 + 1)) (IntKind.i64.wrap ((IntKind.i64.wrap (vB7 + r22)) - 1))
def expr_End_l2 (N : Nat) (kexpr_End_j1 : Int → Option Int) (p1 : (List api_Node)) : Nat → Int → Int → Option Int
  | 0, _, _ => none
  | n + 1, vB6, vB7 =>
    if 0 < vB7 then
      if ((decide (vB6 < 0)) || (decide ((p1.length : Int) ≤ vB6))) = true then
        (expr_End_j3 N (expr_End_l2 N kexpr_End_j1 p1 n) p1 vB6 vB7) true
      else
        (getI p1 vB6).bind fun x9 =>
        (expr_many N x9.Op).bind fun r14 =>
        (expr_End_j3 N (expr_End_l2 N kexpr_End_j1 p1 n) p1 vB6 vB7) (decide (r14 = (-1)))
    else
      kexpr_End_j1 vB6
def expr_End_j1 (vA2 : Int) : Option Int :=
  some vA2
def expr_End (N : Nat) (p1 : (List api_Node)) (p6 : Int) : Option Int :=
  (expr_End_l2 N expr_End_j1 p1) N p6 1

def expr_operands_l2 (N : Nat) (kexpr_operands_j1 : (List Int) → Option (List Int)) (p1 : (List api_Node)) (r12 : Int) : Nat → (List Int) → Int → Int → Option (List Int)
  | 0, _, _, _ => none
  | n + 1, vB6, vB12, vB13 =>
    if vB13 < r12 then
      (appG 8 vB6 ([vB12] : List Int)).bind fun l18 =>
      (expr_End N p1 vB12).bind fun r24 =>
      (expr_operands_l2 N kexpr_operands_j1 p1 r12 n) l18 r24 (IntKind.i64.wrap (vB13 + 1))
    else
      kexpr_operands_j1 vB6
def expr_operands_j1 (vA2 : (List Int)) : Option (List Int) :=
  some vA2
def expr_operands (N : Nat) (p1 : (List api_Node)) (p6 : Int) : Option (List Int) :=
  (getI p1 p6).bind fun x7 =>
  (expr_many N x7.Op).bind fun r12 =>
  (expr_operands_l2 N expr_operands_j1 p1 r12) N [] (IntKind.i64.wrap (p6 + 1)) 0

def expr_depth_l2 (rf : (List api_Node) → Int → Option Int) (N : Nat) (kexpr_depth_j1 : Int → Option Int) (p1 : (List api_Node)) (r7 : (List Int)) : Nat → Int → Int → Option Int
  | 0, _, _ => none
  | n + 1, vB6, vB7 =>
    if vB7 < (r7.length : Int) then
      (getI r7 vB7).bind fun x15 =>
      (rf p1 x15).bind fun r21 =>
      (expr_depth_l2 rf N kexpr_depth_j1 p1 r7 n) (max vB6 r21) (IntKind.i64.wrap (vB7 + 1))
    else
      kexpr_depth_j1 vB6
def expr_depth_j1 (vA2 : Int) : Option Int :=
  some (IntKind.i64.wrap (vA2 + 1))
def expr_depth : Nat → (List api_Node) → Int → Option Int
  | 0, _, _ => none
  | N + 1, p1, p6 =>
    (expr_operands N p1 p6).bind fun r7 =>
    (expr_depth_l2 (expr_depth N) N expr_depth_j1 p1 r7) N 0 0

def expr_Right_j1 (N : Nat) (p1 : (List api_Node)) (vA6 : Bool) : Option Bool :=
  if vA6 = true then
    some false
  else
    (expr_depth N p1 0).bind fun r13 =>
    some (decide (r13 ≤ 12))
def expr_Right (N : Nat) (p1 : (List api_Node)) : Option Bool :=
  if ((decide ((p1.length : Int) = 0)) || (decide (40 < (p1.length : Int)))) = true then
    (expr_Right_j1 N p1) true
  else
    (slices_ContainsFunc_api_Node_api_Node__Right_1 N p1).bind fun r7 =>
    if r7 = true then
      (expr_Right_j1 N p1) true
    else
      (expr_End N p1 0).bind fun r10 =>
      (expr_Right_j1 N p1) (decide (r10 ≠ (p1.length : Int)))

def slices_Index_string_string_l2 (N : Nat) (kslices_Index_string_string_j1 : Option Int) (p1 : (List Str)) (p6 : Str) : Nat → Int → Option Int
  | 0, _ => none
  | n + 1, vB6 =>
    if vB6 < (p1.length : Int) then
      (getI p1 vB6).bind fun x8 =>
      if p6 = x8 then
        some vB6
      else
        (slices_Index_string_string_l2 N kslices_Index_string_string_j1 p1 p6 n) (IntKind.i64.wrap (vB6 + 1))
    else
      kslices_Index_string_string_j1
def slices_Index_string_string_j1  : Option Int :=
  some (-1)
def slices_Index_string_string (N : Nat) (p1 : (List Str)) (p6 : Str) : Option Int :=
  (slices_Index_string_string_l2 N slices_Index_string_string_j1 p1 p6) N 0

def slices_Contains_string_string (N : Nat) (p1 : (List Str)) (p6 : Str) : Option Bool :=
  (slices_Index_string_string N p1 p6).bind fun r7 =>
  some (decide (0 ≤ r7))

def expr_Names_j4 (kexpr_Names_j3 : (List Str) → Option (List Str)) (x10 : api_Node) (vB2 : (List Str)) (vD1 : Bool) : Option (List Str) :=
  if vD1 = true then
    (appG 16 vB2 ([x10.Name] : List Str)).bind fun l23 =>
    kexpr_Names_j3 l23
  else
    kexpr_Names_j3 vB2
def expr_Names_j3 (kexpr_Names_l2 : (List Str) → Int → Option (List Str)) (vB12 : Int) (vC1 : (List Str)) : Option (List Str) :=
  kexpr_Names_l2 vC1 (IntKind.i64.wrap (vB12 + 1))
def expr_Names_l2 (N : Nat) (kexpr_Names_j1 : (List Str) → Option (List Str)) (p1 : (List api_Node)) : Nat → (List Str) → Int → Option (List Str)
  | 0, _, _ => none
  | n + 1, vB2, vB12 =>
    if vB12 < (p1.length : Int) then
      (getI p1 vB12).bind fun x10 =>
      if x10.Op = 2 then
        (slices_Contains_string_string N vB2 x10.Name).bind fun r17 =>
        (expr_Names_j4 (expr_Names_j3 (expr_Names_l2 N kexpr_Names_j1 p1 n) vB12) x10 vB2) (!r17)
      else
        (expr_Names_j4 (expr_Names_j3 (expr_Names_l2 N kexpr_Names_j1 p1 n) vB12) x10 vB2) false
    else
      kexpr_Names_j1 vB2
def expr_Names_j1 (vA2 : (List Str)) : Option (List Str) :=
  some vA2
def expr_Names (N : Nat) (p1 : (List api_Node)) : Option (List Str) :=
  (expr_Right N p1).bind fun r6 =>
  if r6 = true then
    (expr_Names_l2 N expr_Names_j1 p1) N [] 0
  else
    some []

def code_Make_1 (N : Nat) (p1 : Str) (y3 : (List Str)) : Option Bool :=
  (slices_Contains_string_string N y3 p1).bind fun r9 =>
  some (!r9)

def slices_IndexFunc_string_string__Make_1_l2 (N : Nat) (kslices_IndexFunc_string_string__Make_1_j1 : Option Int) (p1 : (List Str)) (y7 : (List Str)) : Nat → Int → Option Int
  | 0, _ => none
  | n + 1, vB6 =>
    if vB6 < (p1.length : Int) then
      (getI p1 vB6).bind fun x14 =>
      (code_Make_1 N x14 y7).bind fun r19 =>
      if r19 = true then
        some vB6
      else
        (slices_IndexFunc_string_string__Make_1_l2 N kslices_IndexFunc_string_string__Make_1_j1 p1 y7 n) (IntKind.i64.wrap (vB6 + 1))
    else
      kslices_IndexFunc_string_string__Make_1_j1
def slices_IndexFunc_string_string__Make_1_j1  : Option Int :=
  some (-1)
def slices_IndexFunc_string_string__Make_1 (N : Nat) (p1 : (List Str)) (y7 : (List Str)) : Option Int :=
  (slices_IndexFunc_string_string__Make_1_l2 N slices_IndexFunc_string_string__Make_1_j1 p1 y7) N 0

def slices_ContainsFunc_string_string__Make_1 (N : Nat) (p1 : (List Str)) (y7 : (List Str)) : Option Bool :=
  (slices_IndexFunc_string_string__Make_1 N p1 y7).bind fun r13 =>
  some (decide (0 ≤ r13))

def code_wants (N : Nat) (p1 : Int) : Option Int :=
  if ((decide (p1 = 3)) || (decide (p1 = 4))) = true then
    some 1
  else
    if ((decide (5 ≤ p1)) && (decide (p1 ≤ 15))) = true then
      some 2
    else
      some 0

def code_make_l2 (rf : (List api_Node) → Int → (List Str) → Option (List api_Op)) (N : Nat) (kcode_make_j1 : (List api_Op) → Option (List api_Op)) (p1 : (List api_Node)) (p7 : (List Str)) (r17 : Int) : Nat → (List api_Op) → Int → Int → Option (List api_Op)
  | 0, _, _, _ => none
  | n + 1, vB10, vB16, vB17 =>
    if vB17 < r17 then
      (rf p1 vB16 p7).bind fun r20 =>
      (appG 16 vB10 r20).bind fun l27 =>
      (expr_End N p1 vB16).bind fun r33 =>
      (code_make_l2 rf N kcode_make_j1 p1 p7 r17 n) l27 r33 (IntKind.i64.wrap (vB17 + 1))
    else
      kcode_make_j1 vB10
def code_make_j3 (vA10 : (List api_Op)) (vA16 : api_Op) : Option (List api_Op) :=
  (appG 16 vA10 ([vA16] : List api_Op)).bind fun l45 =>
  some l45
def code_make_j1 (N : Nat) (p7 : (List Str)) (x12 : api_Node) (vA10 : (List api_Op)) : Option (List api_Op) :=
  if x12.Op = 2 then
    (slices_Index_string_string N p7 x12.Name).bind fun r40 =>
    (code_make_j3 vA10) (api_Op.mk x12.Op r40)
  else
    (code_make_j3 vA10) (api_Op.mk x12.Op x12.N)
def code_make : Nat → (List api_Node) → Int → (List Str) → Option (List api_Op)
  | 0, _, _, _ => none
  | N + 1, p1, p6, p7 =>
    (getI p1 p6).bind fun x12 =>
    (code_wants N x12.Op).bind fun r17 =>
    (code_make_l2 (code_make N) N (code_make_j1 N p7 x12) p1 p7 r17) N [] (IntKind.i64.wrap (p6 + 1)) 0

def code_Make (N : Nat) (p1 : (List api_Node)) (p6 : (List Str)) : Option ((List api_Op) × Int) :=
  (expr_Right N p1).bind fun r12 =>
  if r12 = true then
    (expr_Names N p1).bind fun r15 =>
    (slices_ContainsFunc_string_string__Make_1 N r15 p6).bind fun r22 =>
    if r22 = true then
      some ([], 9)
    else
      (code_make N p1 0 p6).bind fun r25 =>
      some (r25, 0)
  else
    some ([], 8)

def leadlineref03_Kids (N : Nat) (p1 : Int) : Option Int :=
  if ((decide (p1 = 1)) || (decide (p1 = 2))) = true then
    some 0
  else
    if ((decide (p1 = 3)) || (decide (p1 = 4))) = true then
      some 1
    else
      if ((decide (5 ≤ p1)) && (decide (p1 ≤ 15))) = true then
        some 2
      else
        some (-1)

def leadlineref03_End_l3 (rf : (List api_Node) → Int → Option Int) (N : Nat) (kleadlineref03_End_j2 : Int → Option Int) (p1 : (List api_Node)) (p6 : Int) : Nat → Int → Int → Option Int
  | 0, _, _ => none
  | n + 1, vB1, vB2 =>
    (getI p1 p6).bind fun x16 =>
    (leadlineref03_Kids N x16.Op).bind fun r21 =>
    if ((decide (vB2 < r21)) && (decide (0 ≤ vB1))) = true then
      (rf p1 vB1).bind fun r24 =>
      (leadlineref03_End_l3 rf N kleadlineref03_End_j2 p1 p6 n) r24 (IntKind.i64.wrap (vB2 + 1))
    else
      kleadlineref03_End_j2 vB1
def leadlineref03_End_j2 (vA7 : Int) : Option Int :=
  some vA7
def leadlineref03_End_j1 (rf : (List api_Node) → Int → Option Int) (N : Nat) (p1 : (List api_Node)) (p6 : Int) (vA6 : Bool) : Option Int :=
  if vA6 = true then
    some (-1)
  else
    (leadlineref03_End_l3 rf N leadlineref03_End_j2 p1 p6) N (IntKind.i64.wrap (p6 + 1)) 0
def leadlineref03_End : Nat → (List api_Node) → Int → Option Int
  | 0, _, _ => none
  | N + 1, p1, p6 =>
    if ((decide (p6 < 0)) || (decide ((p1.length : Int) ≤ p6))) = true then
      (leadlineref03_End_j1 (leadlineref03_End N) N p1 p6) true
    else
      (getI p1 p6).bind fun x8 =>
      (leadlineref03_Kids N x8.Op).bind fun r13 =>
      (leadlineref03_End_j1 (leadlineref03_End N) N p1 p6) (decide (r13 < 0))

def leadlineref02_letter (N : Nat) (p1 : Int) : Option Bool :=
  some (((decide (97 ≤ p1)) && (decide (p1 ≤ 122))) || (decide (p1 = 95)))

def leadlineref02_Kept_l2 (N : Nat) (kleadlineref02_Kept_j1 : Option Bool) (p1 : Str) : Nat → Int → Option Bool
  | 0, _ => none
  | n + 1, vB2 =>
    if vB2 < (([[108, 105, 110, 101], [118, 111, 108], [108, 111, 99, 107], [116, 104, 114, 101, 97, 100], [114, 101, 103], [108, 111, 97, 100], [115, 116, 111, 114, 101], [99, 97, 115], [102, 108, 117, 115, 104], [111, 112, 116], [115, 102, 101, 110, 99, 101], [109, 102, 101, 110, 99, 101], [116, 97, 107, 101], [103, 105, 118, 101], [105, 102], [101, 108, 115, 101], [108, 111, 111, 112], [98, 114, 101, 97, 107], [99, 104, 101, 99, 107], [114, 101, 99, 111, 118, 101, 114], [97, 108, 119, 97, 121, 115]] : List Str).length : Int) then
      (getI ([[108, 105, 110, 101], [118, 111, 108], [108, 111, 99, 107], [116, 104, 114, 101, 97, 100], [114, 101, 103], [108, 111, 97, 100], [115, 116, 111, 114, 101], [99, 97, 115], [102, 108, 117, 115, 104], [111, 112, 116], [115, 102, 101, 110, 99, 101], [109, 102, 101, 110, 99, 101], [116, 97, 107, 101], [103, 105, 118, 101], [105, 102], [101, 108, 115, 101], [108, 111, 111, 112], [98, 114, 101, 97, 107], [99, 104, 101, 99, 107], [114, 101, 99, 111, 118, 101, 114], [97, 108, 119, 97, 121, 115]] : List Str) vB2).bind fun x6 =>
      if x6 = p1 then
        some true
      else
        (leadlineref02_Kept_l2 N kleadlineref02_Kept_j1 p1 n) (IntKind.i64.wrap (vB2 + 1))
    else
      kleadlineref02_Kept_j1
def leadlineref02_Kept_j1  : Option Bool :=
  some false
def leadlineref02_Kept (N : Nat) (p1 : Str) : Option Bool :=
  (leadlineref02_Kept_l2 N leadlineref02_Kept_j1 p1) N 0

def leadlineref02_digit (N : Nat) (p1 : Int) : Option Bool :=
  some ((decide (48 ≤ p1)) && (decide (p1 ≤ 57)))

def leadlineref02_Name_j4 (kleadlineref02_Name_l3 : Int → Option Bool) (vB1 : Int) (vC1 : Bool) : Option Bool :=
  if vC1 = true then
    some false
  else
    kleadlineref02_Name_l3 (IntKind.i64.wrap (vB1 + 1))
def leadlineref02_Name_l3 (N : Nat) (kleadlineref02_Name_j2 : Option Bool) (p1 : Str) : Nat → Int → Option Bool
  | 0, _ => none
  | n + 1, vB1 =>
    if vB1 < (p1.length : Int) then
      (byteI p1 vB1).bind fun x12 =>
      (leadlineref02_letter N x12).bind fun r14 =>
      if r14 = true then
        (leadlineref02_Name_j4 (leadlineref02_Name_l3 N kleadlineref02_Name_j2 p1 n) vB1) false
      else
        (byteI p1 vB1).bind fun x17 =>
        (leadlineref02_digit N x17).bind fun r19 =>
        (leadlineref02_Name_j4 (leadlineref02_Name_l3 N kleadlineref02_Name_j2 p1 n) vB1) (!r19)
    else
      kleadlineref02_Name_j2
def leadlineref02_Name_j2  : Option Bool :=
  some true
def leadlineref02_Name_j1 (N : Nat) (p1 : Str) (vA2 : Bool) : Option Bool :=
  if vA2 = true then
    some false
  else
    (leadlineref02_Name_l3 N leadlineref02_Name_j2 p1) N 0
def leadlineref02_Name (N : Nat) (p1 : Str) : Option Bool :=
  if ((decide ((p1.length : Int) < 1)) || (decide (16 < (p1.length : Int)))) = true then
    (leadlineref02_Name_j1 N p1) true
  else
    (byteI p1 0).bind fun x3 =>
    (leadlineref02_letter N x3).bind fun r5 =>
    if r5 = true then
      (leadlineref02_Kept N p1).bind fun r8 =>
      (leadlineref02_Name_j1 N p1) r8
    else
      (leadlineref02_Name_j1 N p1) true

def leadlineref03_deep_l2 (rf : (List api_Node) → Int → Option Int) (N : Nat) (kleadlineref03_deep_j1 : Int → Option Int) (p1 : (List api_Node)) (p6 : Int) : Nat → Int → Int → Int → Option Int
  | 0, _, _, _ => none
  | n + 1, vB6, vB7, vB8 =>
    (getI p1 p6).bind fun x7 =>
    (leadlineref03_Kids N x7.Op).bind fun r12 =>
    if vB8 < r12 then
      (rf p1 vB7).bind fun r15 =>
      (leadlineref03_End N p1 vB7).bind fun r17 =>
      (leadlineref03_deep_l2 rf N kleadlineref03_deep_j1 p1 p6 n) (max vB6 r15) r17 (IntKind.i64.wrap (vB8 + 1))
    else
      kleadlineref03_deep_j1 vB6
def leadlineref03_deep_j1 (vA2 : Int) : Option Int :=
  some (IntKind.i64.wrap (vA2 + 1))
def leadlineref03_deep : Nat → (List api_Node) → Int → Option Int
  | 0, _, _ => none
  | N + 1, p1, p6 =>
    (leadlineref03_deep_l2 (leadlineref03_deep N) N leadlineref03_deep_j1 p1 p6) N 0 (IntKind.i64.wrap (p6 + 1)) 0

def leadlineref03_Right_j4 (kleadlineref03_Right_l3 : Int → Option Bool) (vB1 : Int) (vC1 : Bool) : Option Bool :=
  if vC1 = true then
    some false
  else
    kleadlineref03_Right_l3 (IntKind.i64.wrap (vB1 + 1))
def leadlineref03_Right_l3 (N : Nat) (kleadlineref03_Right_j2 : Option Bool) (p1 : (List api_Node)) : Nat → Int → Option Bool
  | 0, _ => none
  | n + 1, vB1 =>
    if vB1 < (p1.length : Int) then
      (getI p1 vB1).bind fun x11 =>
      if ((((((decide (x11.At < 0)) || (decide (4000 < x11.At))) || ((decide (x11.Op ≠ 1)) && (decide (x11.N ≠ 0)))) || ((decide (x11.Op ≠ 2)) && (decide (x11.Name ≠ [])))) || (decide (x11.N < 0))) || (decide (4294967296 < x11.N))) = true then
        (leadlineref03_Right_j4 (leadlineref03_Right_l3 N kleadlineref03_Right_j2 p1 n) vB1) true
      else
        if x11.Op = 2 then
          (leadlineref02_Name N x11.Name).bind fun r19 =>
          (leadlineref03_Right_j4 (leadlineref03_Right_l3 N kleadlineref03_Right_j2 p1 n) vB1) (!r19)
        else
          (leadlineref03_Right_j4 (leadlineref03_Right_l3 N kleadlineref03_Right_j2 p1 n) vB1) false
    else
      kleadlineref03_Right_j2
def leadlineref03_Right_j2 (N : Nat) (p1 : (List api_Node)) : Option Bool :=
  (leadlineref03_deep N p1 0).bind fun r22 =>
  some (decide (r22 ≤ 12))
def leadlineref03_Right_j1 (N : Nat) (p1 : (List api_Node)) (vA6 : Bool) : Option Bool :=
  if vA6 = true then
    some false
  else
    (leadlineref03_Right_l3 N (leadlineref03_Right_j2 N p1) p1) N 0
def leadlineref03_Right (N : Nat) (p1 : (List api_Node)) : Option Bool :=
  if 40 < (p1.length : Int) then
    (leadlineref03_Right_j1 N p1) true
  else
    (leadlineref03_End N p1 0).bind fun r7 =>
    (leadlineref03_Right_j1 N p1) (decide (r7 ≠ (p1.length : Int)))

def leadlineref06_Place_l2 (N : Nat) (kleadlineref06_Place_j1 : Option Int) (p1 : (List Str)) (p6 : Str) : Nat → Int → Option Int
  | 0, _ => none
  | n + 1, vB6 =>
    if vB6 < (p1.length : Int) then
      (getI p1 vB6).bind fun x8 =>
      if x8 = p6 then
        some vB6
      else
        (leadlineref06_Place_l2 N kleadlineref06_Place_j1 p1 p6 n) (IntKind.i64.wrap (vB6 + 1))
    else
      kleadlineref06_Place_j1
def leadlineref06_Place_j1  : Option Int :=
  some (-1)
def leadlineref06_Place (N : Nat) (p1 : (List Str)) (p6 : Str) : Option Int :=
  (leadlineref06_Place_l2 N leadlineref06_Place_j1 p1 p6) N 0

def leadlineref08_steps_l2 (rf : (List api_Node) → Int → (List Str) → Option (List api_Op)) (N : Nat) (kleadlineref08_steps_j1 : (List api_Op) → Option (List api_Op)) (p1 : (List api_Node)) (p6 : Int) (p7 : (List Str)) : Nat → (List api_Op) → Int → Int → Option (List api_Op)
  | 0, _, _, _ => none
  | n + 1, vB10, vB16, vB17 =>
    (getI p1 p6).bind fun x15 =>
    (leadlineref03_Kids N x15.Op).bind fun r20 =>
    if vB17 < r20 then
      (rf p1 vB16 p7).bind fun r23 =>
      (appG 16 vB10 r23).bind fun l30 =>
      (leadlineref03_End N p1 vB16).bind fun r36 =>
      (leadlineref08_steps_l2 rf N kleadlineref08_steps_j1 p1 p6 p7 n) l30 r36 (IntKind.i64.wrap (vB17 + 1))
    else
      kleadlineref08_steps_j1 vB10
def leadlineref08_steps_j3 (vA10 : (List api_Op)) (x38 : api_Node) (vA16 : Int) : Option (List api_Op) :=
  (appG 16 vA10 ([(api_Op.mk x38.Op vA16)] : List api_Op)).bind fun l49 =>
  some l49
def leadlineref08_steps_j1 (N : Nat) (p1 : (List api_Node)) (p6 : Int) (p7 : (List Str)) (vA10 : (List api_Op)) : Option (List api_Op) :=
  (getI p1 p6).bind fun x38 =>
  if x38.Op = 2 then
    (leadlineref06_Place N p7 x38.Name).bind fun r44 =>
    (leadlineref08_steps_j3 vA10 x38) r44
  else
    (leadlineref08_steps_j3 vA10 x38) x38.N
def leadlineref08_steps : Nat → (List api_Node) → Int → (List Str) → Option (List api_Op)
  | 0, _, _, _ => none
  | N + 1, p1, p6, p7 =>
    (leadlineref08_steps_l2 (leadlineref08_steps N) N (leadlineref08_steps_j1 N p1 p6 p7) p1 p6 p7) N [] (IntKind.i64.wrap (p6 + 1)) 0

def leadlineref08_Make_j3 (kleadlineref08_Make_l2 : Int → Option ((List api_Op) × Int)) (vB10 : Int) (vC1 : Bool) : Option ((List api_Op) × Int) :=
  if vC1 = true then
    some ([], 9)
  else
    kleadlineref08_Make_l2 (IntKind.i64.wrap (vB10 + 1))
def leadlineref08_Make_l2 (N : Nat) (kleadlineref08_Make_j1 : Option ((List api_Op) × Int)) (p1 : (List api_Node)) (p6 : (List Str)) : Nat → Int → Option ((List api_Op) × Int)
  | 0, _ => none
  | n + 1, vB10 =>
    if vB10 < (p1.length : Int) then
      (getI p1 vB10).bind fun x15 =>
      if x15.Op = 2 then
        (leadlineref06_Place N p6 x15.Name).bind fun r21 =>
        (leadlineref08_Make_j3 (leadlineref08_Make_l2 N kleadlineref08_Make_j1 p1 p6 n) vB10) (decide (r21 < 0))
      else
        (leadlineref08_Make_j3 (leadlineref08_Make_l2 N kleadlineref08_Make_j1 p1 p6 n) vB10) false
    else
      kleadlineref08_Make_j1
def leadlineref08_Make_j1 (N : Nat) (p1 : (List api_Node)) (p6 : (List Str)) : Option ((List api_Op) × Int) :=
  (leadlineref08_steps N p1 0 p6).bind fun r24 =>
  some (r24, 0)
def leadlineref08_Make (N : Nat) (p1 : (List api_Node)) (p6 : (List Str)) : Option ((List api_Op) × Int) :=
  (leadlineref03_Right N p1).bind fun r11 =>
  if r11 = true then
    (leadlineref08_Make_l2 N (leadlineref08_Make_j1 N p1 p6) p1 p6) N 0
  else
    some ([], 8)

def leadlineref08_Same_l2 (N : Nat) (kleadlineref08_Same_j1 : Option Bool) (p1 : (List api_Op)) (p6 : (List api_Op)) : Nat → Int → Option Bool
  | 0, _ => none
  | n + 1, vB10 =>
    if vB10 < (p1.length : Int) then
      (getI p1 vB10).bind fun x13 =>
      (getI p6 vB10).bind fun x18 =>
      if x13 ≠ x18 then
        some false
      else
        (leadlineref08_Same_l2 N kleadlineref08_Same_j1 p1 p6 n) (IntKind.i64.wrap (vB10 + 1))
    else
      kleadlineref08_Same_j1
def leadlineref08_Same_j1  : Option Bool :=
  some true
def leadlineref08_Same (N : Nat) (p1 : (List api_Op)) (p6 : (List api_Op)) : Option Bool :=
  if (p1.length : Int) ≠ (p6.length : Int) then
    some false
  else
    (leadlineref08_Same_l2 N leadlineref08_Same_j1 p1 p6) N 0

def code_heights_l2 (N : Nat) (kcode_heights_j1 : Int → Int → Option (Int × Int × Bool)) (p1 : (List api_Op)) : Nat → Int → Int → Int → Option (Int × Int × Bool)
  | 0, _, _, _ => none
  | n + 1, vB2, vB3, vB8 =>
    if vB8 < (p1.length : Int) then
      (getI p1 vB8).bind fun x7 =>
      (code_wants N x7.Kind).bind fun r13 =>
      if (IntKind.i64.wrap (vB2 - r13)) < 0 then
        some (0, 0, false)
      else
        (code_heights_l2 N kcode_heights_j1 p1 n) (IntKind.i64.wrap ((IntKind.i64.wrap (vB2 - r13)) + 1)) (max vB3 (IntKind.i64.wrap ((IntKind.i64.wrap (vB2 - r13)) + 1))) (IntKind.i64.wrap (vB8 + 1))
    else
      kcode_heights_j1 vB2 vB3
def code_heights_j1 (vA2 : Int) (vA3 : Int) : Option (Int × Int × Bool) :=
  some (vA2, vA3, true)
def code_heights (N : Nat) (p1 : (List api_Op)) : Option (Int × Int × Bool) :=
  (code_heights_l2 N code_heights_j1 p1) N 0 0 0

def code_Right_1 (N : Nat) (p1 : api_Op) (y3 : Int) : Option Bool :=
  if p1.Kind = 1 then
    some ((decide (p1.N < 0)) || (decide (4294967296 < p1.N)))
  else
    if p1.Kind = 2 then
      some ((decide (p1.N < 0)) || (decide (y3 ≤ p1.N)))
    else
      some (((decide (p1.N ≠ 0)) || (decide (p1.Kind < 1))) || (decide (16 ≤ p1.Kind)))

def slices_IndexFunc_api_Op_api_Op__Right_1_l2 (N : Nat) (kslices_IndexFunc_api_Op_api_Op__Right_1_j1 : Option Int) (p1 : (List api_Op)) (y7 : Int) : Nat → Int → Option Int
  | 0, _ => none
  | n + 1, vB6 =>
    if vB6 < (p1.length : Int) then
      (getI p1 vB6).bind fun x10 =>
      (code_Right_1 N x10 y7).bind fun r15 =>
      if r15 = true then
        some vB6
      else
        (slices_IndexFunc_api_Op_api_Op__Right_1_l2 N kslices_IndexFunc_api_Op_api_Op__Right_1_j1 p1 y7 n) (IntKind.i64.wrap (vB6 + 1))
    else
      kslices_IndexFunc_api_Op_api_Op__Right_1_j1
def slices_IndexFunc_api_Op_api_Op__Right_1_j1  : Option Int :=
  some (-1)
def slices_IndexFunc_api_Op_api_Op__Right_1 (N : Nat) (p1 : (List api_Op)) (y7 : Int) : Option Int :=
  (slices_IndexFunc_api_Op_api_Op__Right_1_l2 N slices_IndexFunc_api_Op_api_Op__Right_1_j1 p1 y7) N 0

def slices_ContainsFunc_api_Op_api_Op__Right_1 (N : Nat) (p1 : (List api_Op)) (y7 : Int) : Option Bool :=
  (slices_IndexFunc_api_Op_api_Op__Right_1 N p1 y7).bind fun r9 =>
  some (decide (0 ≤ r9))

def code_Right (N : Nat) (p1 : (List api_Op)) (p6 : Int) : Option Bool :=
  (code_heights N p1).bind fun r8 =>
  if (((decide ((p1.length : Int) ≤ 40)) && r8.2.2) && (decide (r8.1 = 1))) = true then
    (slices_ContainsFunc_api_Op_api_Op__Right_1 N p1 p6).bind fun r11 =>
    some (!r11)
  else
    some false

def code_list_put__m0_61_0_o (N : Nat) (p1 : code_pile) (p8 : Int) : Option code_pile :=
  (appG 8 p1.list.l ([p8] : List Int)).bind fun l12 =>
  some (code_pile.mk (code_list.mk l12) p1.high)

def code_pile_up__m0_61_o (N : Nat) (p1 : code_pile) (p8 : Int) : Option code_pile :=
  (code_list_put__m0_61_0_o N p1 p8).bind fun r9 =>
  some (code_pile.mk r9.list (max r9.high (r9.list.l.length : Int)))

def code_list_take__m0_61_0_o (N : Nat) (p1 : code_pile) : Option (Int × code_pile) :=
  (getI p1.list.l (IntKind.i64.wrap ((p1.list.l.length : Int) - 1))).bind fun x8 =>
  (subI p1.list.l 0 (IntKind.i64.wrap ((p1.list.l.length : Int) - 1))).bind fun l14 =>
  some (x8, (code_pile.mk (code_list.mk l14) p1.high))

def words_Truth (N : Nat) (p1 : Int) : Option Bool :=
  some (decide (p1 ≠ 0))

def words_Bool (N : Nat) (p1 : Bool) : Option Int :=
  if p1 = true then
    some 1
  else
    some 0

def words_One (N : Nat) (p1 : Int) (p2 : Int) : Option (Int × Int) :=
  if p1 = 3 then
    some ((IntKind.i64.wrap (0 - p2)), 0)
  else
    if p1 = 4 then
      (words_Truth N p2).bind fun r5 =>
      (words_Bool N (!r5)).bind fun r7 =>
      some (r7, 0)
    else
      some (0, 1)

def words_ops_1__ops_7 (N : Nat)  : Option Unit :=
  some ()

def words_ops_1__ops_8 (N : Nat)  : Option Unit :=
  some ()

def words_ops_1__ops_9 (N : Nat)  : Option Unit :=
  some ()

def words_ops_1__ops_10 (N : Nat)  : Option Unit :=
  some ()

def words_ops_1__ops_11 (N : Nat)  : Option Unit :=
  some ()

def words_ops_1__ops_12 (N : Nat)  : Option Unit :=
  some ()

def words_ops (N : Nat)  : Option Unit :=
  (words_ops_1__ops_7 N).bind fun r3 =>
  (words_ops_1__ops_8 N).bind fun r6 =>
  (words_ops_1__ops_9 N).bind fun r9 =>
  (words_ops_1__ops_10 N).bind fun r12 =>
  (words_ops_1__ops_11 N).bind fun r15 =>
  (words_ops_1__ops_12 N).bind fun r18 =>
  some ()

def words_ops_2 (N : Nat) (p1 : Int) (p2 : Int) : Option Int :=
  some (IntKind.i64.wrap (p1 + p2))

def words_ops_3 (N : Nat) (p1 : Int) (p2 : Int) : Option Int :=
  some (IntKind.i64.wrap (p1 - p2))

def words_ops_4 (N : Nat) (p1 : Int) (p2 : Int) : Option Int :=
  some (IntKind.i64.wrap (p1 * p2))

def words_ops_5 (N : Nat) (p1 : Int) (p2 : Int) : Option Int :=
  (divI .i64 p1 p2).bind fun x3 =>
  some x3

def words_ops_6 (N : Nat) (p1 : Int) (p2 : Int) : Option Int :=
  (remI p1 p2).bind fun x3 =>
  some x3

def words_ops_7 (N : Nat) (p1 : Int) (p2 : Int) : Option Bool :=
  some (decide (p1 = p2))

def words_ops_1_1__ops_7 (N : Nat) (p1 : Int) (p2 : Int) : Option Int :=
  (words_ops_7 N p1 p2).bind fun r5 =>
  (words_Bool N r5).bind fun r7 =>
  some r7

def words_ops_8 (N : Nat) (p1 : Int) (p2 : Int) : Option Bool :=
  some (decide (p1 ≠ p2))

def words_ops_1_1__ops_8 (N : Nat) (p1 : Int) (p2 : Int) : Option Int :=
  (words_ops_8 N p1 p2).bind fun r5 =>
  (words_Bool N r5).bind fun r7 =>
  some r7

def words_ops_9 (N : Nat) (p1 : Int) (p2 : Int) : Option Bool :=
  some (decide (p1 < p2))

def words_ops_1_1__ops_9 (N : Nat) (p1 : Int) (p2 : Int) : Option Int :=
  (words_ops_9 N p1 p2).bind fun r5 =>
  (words_Bool N r5).bind fun r7 =>
  some r7

def words_ops_10 (N : Nat) (p1 : Int) (p2 : Int) : Option Bool :=
  some (decide (p1 ≤ p2))

def words_ops_1_1__ops_10 (N : Nat) (p1 : Int) (p2 : Int) : Option Int :=
  (words_ops_10 N p1 p2).bind fun r5 =>
  (words_Bool N r5).bind fun r7 =>
  some r7

def words_ops_11 (N : Nat) (p1 : Int) (p2 : Int) : Option Bool :=
  (words_Truth N p1).bind fun r3 =>
  if r3 = true then
    (words_Truth N p2).bind fun r6 =>
    some r6
  else
    some false

def words_ops_1_1__ops_11 (N : Nat) (p1 : Int) (p2 : Int) : Option Int :=
  (words_ops_11 N p1 p2).bind fun r5 =>
  (words_Bool N r5).bind fun r7 =>
  some r7

def words_ops_12 (N : Nat) (p1 : Int) (p2 : Int) : Option Bool :=
  (words_Truth N p1).bind fun r3 =>
  if r3 = true then
    some true
  else
    (words_Truth N p2).bind fun r6 =>
    some r6

def words_ops_1_1__ops_12 (N : Nat) (p1 : Int) (p2 : Int) : Option Int :=
  (words_ops_12 N p1 p2).bind fun r5 =>
  (words_Bool N r5).bind fun r7 =>
  some r7

def words_Two (N : Nat) (p1 : Int) (p2 : Int) (p3 : Int) : Option (Int × Int) :=
  if ((decide (p1 < 0)) || (decide (16 ≤ p1))) = true then
    some (0, 1)
  else
    if p1 = 0 then
      (words_ops N).bind fun r6 =>
      some (0, 1)
    else
      if p1 = 1 then
        (words_ops N).bind fun r15 =>
        some (0, 1)
      else
        if p1 = 2 then
          (words_ops N).bind fun r24 =>
          some (0, 1)
        else
          if p1 = 3 then
            (words_ops N).bind fun r33 =>
            some (0, 1)
          else
            if p1 = 4 then
              (words_ops N).bind fun r42 =>
              some (0, 1)
            else
              if p1 = 5 then
                (words_ops N).bind fun r51 =>
                (words_ops_2 N p2 p3).bind fun r59 =>
                some (r59, 0)
              else
                if p1 = 6 then
                  (words_ops N).bind fun r62 =>
                  (words_ops_3 N p2 p3).bind fun r70 =>
                  some (r70, 0)
                else
                  if p1 = 7 then
                    (words_ops N).bind fun r73 =>
                    (words_ops_4 N p2 p3).bind fun r81 =>
                    some (r81, 0)
                  else
                    if p1 = 8 then
                      (words_ops N).bind fun r84 =>
                      if p3 = 0 then
                        some (0, 12)
                      else
                        (words_ops_5 N p2 p3).bind fun r93 =>
                        some (r93, 0)
                    else
                      if p1 = 9 then
                        (words_ops N).bind fun r96 =>
                        if p3 = 0 then
                          some (0, 12)
                        else
                          (words_ops_6 N p2 p3).bind fun r105 =>
                          some (r105, 0)
                      else
                        if p1 = 10 then
                          (words_ops N).bind fun r108 =>
                          (words_ops_1_1__ops_7 N p2 p3).bind fun r116 =>
                          some (r116, 0)
                        else
                          if p1 = 11 then
                            (words_ops N).bind fun r119 =>
                            (words_ops_1_1__ops_8 N p2 p3).bind fun r127 =>
                            some (r127, 0)
                          else
                            if p1 = 12 then
                              (words_ops N).bind fun r130 =>
                              (words_ops_1_1__ops_9 N p2 p3).bind fun r138 =>
                              some (r138, 0)
                            else
                              if p1 = 13 then
                                (words_ops N).bind fun r141 =>
                                (words_ops_1_1__ops_10 N p2 p3).bind fun r149 =>
                                some (r149, 0)
                              else
                                if p1 = 14 then
                                  (words_ops N).bind fun r152 =>
                                  (words_ops_1_1__ops_11 N p2 p3).bind fun r160 =>
                                  some (r160, 0)
                                else
                                  if p1 = 15 then
                                    (words_ops N).bind fun r163 =>
                                    (words_ops_1_1__ops_12 N p2 p3).bind fun r171 =>
                                    some (r171, 0)
                                  else
                                    none

def code_Run_j4 (N : Nat) (kcode_Run_j3 : (List Int) → Int → Option (Int × Int)) (vB6 : (List Int)) (vB12 : Int) (vD1 : Int) : Option (Int × Int) :=
  (code_pile_up__m0_61_o N (code_pile.mk (code_list.mk vB6) vB12) vD1).bind fun r31 =>
  kcode_Run_j3 r31.list.l r31.high
def code_Run_j3 (kcode_Run_l2 : (List Int) → Int → Int → Option (Int × Int)) (vB17 : Int) (vC1 : (List Int)) (vC7 : Int) : Option (Int × Int) :=
  kcode_Run_l2 vC1 vC7 (IntKind.i64.wrap (vB17 + 1))
def code_Run_l2 (N : Nat) (kcode_Run_j1 : (List Int) → Int → Option (Int × Int)) (p1 : (List api_Op)) (p6 : (List Int)) : Nat → (List Int) → Int → Int → Option (Int × Int)
  | 0, _, _, _ => none
  | n + 1, vB6, vB12, vB17 =>
    if vB17 < (p1.length : Int) then
      (getI p1 vB17).bind fun x16 =>
      (code_wants N x16.Kind).bind fun r22 =>
      if r22 = 0 then
        if x16.Kind = 2 then
          (getI p6 x16.N).bind fun x26 =>
          (code_Run_j4 N (code_Run_j3 (code_Run_l2 N kcode_Run_j1 p1 p6 n) vB17) vB6 vB12) x26
        else
          (code_Run_j4 N (code_Run_j3 (code_Run_l2 N kcode_Run_j1 p1 p6 n) vB17) vB6 vB12) x16.N
      else
        if r22 = 1 then
          (code_list_take__m0_61_0_o N (code_pile.mk (code_list.mk vB6) vB12)).bind fun r39 =>
          (words_One N x16.Kind r39.1).bind fun r46 =>
          (code_pile_up__m0_61_o N r39.2 r46.1).bind fun r48 =>
          (code_Run_j3 (code_Run_l2 N kcode_Run_j1 p1 p6 n) vB17) r48.list.l r48.high
        else
          (code_list_take__m0_61_0_o N (code_pile.mk (code_list.mk vB6) vB12)).bind fun r55 =>
          (code_list_take__m0_61_0_o N r55.2).bind fun r62 =>
          (words_Two N x16.Kind r62.1 r55.1).bind fun r69 =>
          if r69.2 ≠ 0 then
            some (0, r69.2)
          else
            (code_pile_up__m0_61_o N r62.2 r69.1).bind fun r72 =>
            (code_Run_j3 (code_Run_l2 N kcode_Run_j1 p1 p6 n) vB17) r72.list.l r72.high
    else
      kcode_Run_j1 vB6 vB12
def code_Run_j1 (N : Nat) (vA2 : (List Int)) (vA8 : Int) : Option (Int × Int) :=
  (code_list_take__m0_61_0_o N (code_pile.mk (code_list.mk vA2) vA8)).bind fun r79 =>
  some (r79.1, 0)
def code_Run (N : Nat) (p1 : (List api_Op)) (p6 : (List Int)) : Option (Int × Int) :=
  (code_Right N p1 (p6.length : Int)).bind fun r11 =>
  if r11 = true then
    (code_Run_l2 N (code_Run_j1 N) p1 p6) N [] 0 0
  else
    some (0, 8)

def code_Value (N : Nat) (p1 : (List api_Node)) (p6 : (List Str)) (p11 : (List Int)) : Option (Int × Int) :=
  if (p6.length : Int) ≠ (p11.length : Int) then
    some (0, 1)
  else
    (code_Make N p1 p6).bind fun r17 =>
    if r17.2 ≠ 0 then
      some (0, r17.2)
    else
      (code_Run N r17.1 p11).bind fun r25 =>
      some (r25.1, r25.2)

def code_High (N : Nat) (p1 : (List api_Op)) : Option Int :=
  (code_heights N p1).bind fun r6 =>
  some r6.2.1

def slices_Equal_api_Op_api_Op_l2 (N : Nat) (kslices_Equal_api_Op_api_Op_j1 : Option Bool) (p1 : (List api_Op)) (p6 : (List api_Op)) : Nat → Int → Option Bool
  | 0, _ => none
  | n + 1, vB10 =>
    if vB10 < (p1.length : Int) then
      (getI p1 vB10).bind fun x13 =>
      (getI p6 vB10).bind fun x18 =>
      if x13 ≠ x18 then
        some false
      else
        (slices_Equal_api_Op_api_Op_l2 N kslices_Equal_api_Op_api_Op_j1 p1 p6 n) (IntKind.i64.wrap (vB10 + 1))
    else
      kslices_Equal_api_Op_api_Op_j1
def slices_Equal_api_Op_api_Op_j1  : Option Bool :=
  some true
def slices_Equal_api_Op_api_Op (N : Nat) (p1 : (List api_Op)) (p6 : (List api_Op)) : Option Bool :=
  if (p1.length : Int) ≠ (p6.length : Int) then
    some false
  else
    (slices_Equal_api_Op_api_Op_l2 N slices_Equal_api_Op_api_Op_j1 p1 p6) N 0

def code_Same (N : Nat) (p1 : (List api_Op)) (p6 : (List api_Op)) : Option Bool :=
  (slices_Equal_api_Op_api_Op N p1 p6).bind fun r11 =>
  some r11

def leadlinelaw08_fixed (N : Nat)  : Option Bool :=
  (code_Make N ([(api_Node.mk 5 0 [] 0), (api_Node.mk 2 0 [97] 0), (api_Node.mk 7 0 [] 0), (api_Node.mk 2 0 [98] 0), (api_Node.mk 1 2 [] 0)] : List api_Node) ([[97], [98]] : List Str)).bind fun r7 =>
  (code_Run N r7.1 ([3, 4] : List Int)).bind fun r17 =>
  (code_Value N ([(api_Node.mk 5 0 [] 0), (api_Node.mk 2 0 [97] 0), (api_Node.mk 7 0 [] 0), (api_Node.mk 2 0 [98] 0), (api_Node.mk 1 2 [] 0)] : List api_Node) ([[97], [98]] : List Str) ([3, 4] : List Int)).bind fun r22 =>
  (code_Make N ([(api_Node.mk 5 0 [] 0), (api_Node.mk 2 0 [97] 0), (api_Node.mk 7 0 [] 0), (api_Node.mk 2 0 [98] 0), (api_Node.mk 1 2 [] 0)] : List api_Node) ([[97]] : List Str)).bind fun r27 =>
  (code_Run N r7.1 ([3] : List Int)).bind fun r37 =>
  (code_Value N ([(api_Node.mk 5 0 [] 0), (api_Node.mk 2 0 [97] 0), (api_Node.mk 7 0 [] 0), (api_Node.mk 2 0 [98] 0), (api_Node.mk 1 2 [] 0)] : List api_Node) ([[97], [98]] : List Str) ([] : (List Int))).bind fun r39 =>
  (code_Run N ([(api_Op.mk 1 0), (api_Op.mk 1 0), (api_Op.mk 9 0)] : List api_Op) ([] : (List Int))).bind fun r44 =>
  (leadlineref08_Same N r7.1 ([(api_Op.mk 2 0), (api_Op.mk 2 1), (api_Op.mk 1 2), (api_Op.mk 7 0), (api_Op.mk 5 0)] : List api_Op)).bind fun r53 =>
  (sure (((((((((r53 && (decide (r7.2 = 0))) && (decide (r17.1 = 11))) && (decide (r17.2 = 0))) && (decide (r22.1 = 11))) && (decide (r22.2 = 0))) && (decide (r27.2 = 9))) && (decide (r37.2 = 8))) && (decide (r39.2 = 1))) && (decide (r44.2 = 12)))).bind fun _ =>
  (code_High N r7.1).bind fun r56 =>
  (sure (decide (r56 = 3))).bind fun _ =>
  (subI r7.1 3 (r7.1.length : Int)).bind fun l59 =>
  (code_High N l59).bind fun r67 =>
  (sure (decide (r67 = 0))).bind fun _ =>
  (code_Right N r7.1 2).bind fun r70 =>
  (sure r70).bind fun _ =>
  (code_Right N r7.1 1).bind fun r73 =>
  (sure (!r73)).bind fun _ =>
  (code_Same N r7.1 ([(api_Op.mk 2 0), (api_Op.mk 2 1), (api_Op.mk 1 2), (api_Op.mk 7 0), (api_Op.mk 5 0)] : List api_Op)).bind fun r76 =>
  (sure r76).bind fun _ =>
  (code_Same N r7.1 ([] : (List api_Op))).bind fun r79 =>
  some (!r79)

def leadlinelaw08_CodeMakes (N : Nat) (p1 : (List api_Node)) (p6 : (List Str)) : Option Bool :=
  (leadlinelaw03_Cut N p1).bind fun r11 =>
  (leadlinelaw08_few N p6).bind fun r18 =>
  (code_Make N r11 r18).bind fun r25 =>
  (leadlineref08_Make N r11 r18).bind fun r32 =>
  (leadlineref08_Same N r25.1 r32.1).bind fun r39 =>
  if (r39 && (decide (r25.2 = r32.2))) = true then
    (leadlinelaw08_fixed N).bind fun r42 =>
    some r42
  else
    some false

def leadlineref01_Bool (N : Nat) (p1 : Bool) : Option Int :=
  if p1 = true then
    some 1
  else
    some 0

def leadlineref01_One (N : Nat) (p1 : Int) (p2 : Int) : Option (Int × Int) :=
  if p1 = 3 then
    some ((IntKind.i64.wrap (0 - p2)), 0)
  else
    if p1 = 4 then
      (leadlineref01_Bool N (decide (p2 = 0))).bind fun r5 =>
      some (r5, 0)
    else
      some (0, 1)

def leadlineref01_quotient (N : Nat) (p1 : Int) (p2 : Int) : Option Int :=
  if ((decide (p1 = (-9223372036854775808))) && (decide (p2 = (-1)))) = true then
    some (-9223372036854775808)
  else
    (divI .i64 p1 p2).bind fun x4 =>
    some x4

def leadlineref01_Two (N : Nat) (p1 : Int) (p2 : Int) (p3 : Int) : Option (Int × Int) :=
  if p1 = 5 then
    some ((IntKind.i64.wrap (p2 + p3)), 0)
  else
    if p1 = 6 then
      some ((IntKind.i64.wrap (p2 - p3)), 0)
    else
      if p1 = 7 then
        some ((IntKind.i64.wrap (p2 * p3)), 0)
      else
        if p1 = 8 then
          if p3 = 0 then
            some (0, 12)
          else
            (leadlineref01_quotient N p2 p3).bind fun r9 =>
            some (r9, 0)
        else
          if p1 = 9 then
            if p3 = 0 then
              some (0, 12)
            else
              (leadlineref01_quotient N p2 p3).bind fun r13 =>
              some ((IntKind.i64.wrap (p2 - (IntKind.i64.wrap (p3 * r13)))), 0)
          else
            if p1 = 10 then
              (leadlineref01_Bool N (decide (p2 = p3))).bind fun r16 =>
              some (r16, 0)
            else
              if p1 = 11 then
                (leadlineref01_Bool N (decide (p2 ≠ p3))).bind fun r19 =>
                some (r19, 0)
              else
                if p1 = 12 then
                  (leadlineref01_Bool N (decide (p2 < p3))).bind fun r22 =>
                  some (r22, 0)
                else
                  if p1 = 13 then
                    (leadlineref01_Bool N (decide (p2 ≤ p3))).bind fun r25 =>
                    some (r25, 0)
                  else
                    if p1 = 14 then
                      (leadlineref01_Bool N ((decide (p2 ≠ 0)) && (decide (p3 ≠ 0)))).bind fun r28 =>
                      some (r28, 0)
                    else
                      if p1 = 15 then
                        (leadlineref01_Bool N ((decide (p2 ≠ 0)) || (decide (p3 ≠ 0)))).bind fun r31 =>
                        some (r31, 0)
                      else
                        some (0, 1)

def leadlineref08_value : Nat → (List api_Node) → Int → (List Str) → (List Int) → Option (Int × Int)
  | 0, _, _, _, _ => none
  | N + 1, p1, p6, p7, p12 =>
    (getI p1 p6).bind fun x17 =>
    if x17.Op = 1 then
      some (x17.N, 0)
    else
      if x17.Op = 2 then
        (leadlineref06_Place N p7 x17.Name).bind fun r25 =>
        (getI p12 r25).bind fun x27 =>
        some (x27, 0)
      else
        ((leadlineref08_value N) p1 (IntKind.i64.wrap (p6 + 1)) p7 p12).bind fun r32 =>
        if r32.2 ≠ 0 then
          some (0, r32.2)
        else
          (leadlineref03_Kids N x17.Op).bind fun r35 =>
          if r35 = 1 then
            (leadlineref01_One N x17.Op r32.1).bind fun r38 =>
            some (r38.1, r38.2)
          else
            (leadlineref03_End N p1 (IntKind.i64.wrap (p6 + 1))).bind fun r40 =>
            ((leadlineref08_value N) p1 r40 p7 p12).bind fun r42 =>
            if r42.2 ≠ 0 then
              some (0, r42.2)
            else
              (leadlineref01_Two N x17.Op r32.1 r42.1).bind fun r45 =>
              some (r45.1, r45.2)

def leadlineref08_Value (N : Nat) (p1 : (List api_Node)) (p6 : (List Str)) (p11 : (List Int)) : Option (Int × Int) :=
  if (p6.length : Int) ≠ (p11.length : Int) then
    some (0, 1)
  else
    (leadlineref08_Make N p1 p6).bind fun r17 =>
    if r17.2 ≠ 0 then
      some (0, r17.2)
    else
      (leadlineref08_value N p1 0 p6 p11).bind fun r25 =>
      some (r25.1, r25.2)

def leadlinelaw08_CodeValues (N : Nat) (p1 : (List api_Node)) (p6 : (List Str)) (p11 : (List Int)) : Option Bool :=
  (leadlinelaw03_Cut N p1).bind fun r16 =>
  (leadlinelaw08_few N p6).bind fun r23 =>
  (subI p11 0 (min (p11.length : Int) 8)).bind fun l30 =>
  (code_Value N r16 r23 l30).bind fun r38 =>
  (leadlineref08_Value N r16 r23 l30).bind fun r40 =>
  if ((decide (r38.1 = r40.1)) && (decide (r38.2 = r40.2))) = true then
    (leadlinelaw08_fixed N).bind fun r43 =>
    some r43
  else
    some false

def leadlinelaw08_CodeSame_l2 (N : Nat) (kleadlinelaw08_CodeSame_j1 : (List Int) → Option Bool) (p11 : Int) (r19 : (List Str)) : Nat → (List Int) → Int → Option Bool
  | 0, _, _ => none
  | n + 1, vB2, vB8 =>
    if vB8 < (r19.length : Int) then
      (appG 8 vB2 ([(IntKind.i64.wrap (p11 + (IntKind.i64.wrap (vB8 * p11))))] : List Int)).bind fun l33 =>
      (leadlinelaw08_CodeSame_l2 N kleadlinelaw08_CodeSame_j1 p11 r19 n) l33 (IntKind.i64.wrap (vB8 + 1))
    else
      kleadlinelaw08_CodeSame_j1 vB2
def leadlinelaw08_CodeSame_j5 (kleadlinelaw08_CodeSame_l4 : Int → Int → Option Bool) (vB10 : Int) (vC1 : Int) : Option Bool :=
  kleadlinelaw08_CodeSame_l4 vC1 (IntKind.i64.wrap (vB10 + 1))
def leadlinelaw08_CodeSame_l4 (N : Nat) (kleadlinelaw08_CodeSame_j3 : Int → Option Bool) (r12 : (List api_Node)) : Nat → Int → Int → Option Bool
  | 0, _, _ => none
  | n + 1, vB9, vB10 =>
    if vB10 < (r12.length : Int) then
      (getI r12 vB10).bind fun x51 =>
      (leadlineref03_Kids N x51.Op).bind fun r57 =>
      if r57 = 0 then
        (leadlinelaw08_CodeSame_j5 (leadlinelaw08_CodeSame_l4 N kleadlinelaw08_CodeSame_j3 r12 n) vB10) (IntKind.i64.wrap (vB9 + 1))
      else
        (leadlinelaw08_CodeSame_j5 (leadlinelaw08_CodeSame_l4 N kleadlinelaw08_CodeSame_j3 r12 n) vB10) vB9
    else
      kleadlinelaw08_CodeSame_j3 vB9
def leadlinelaw08_CodeSame_j3 (N : Nat) (r12 : (List api_Node)) (r19 : (List Str)) (vA2 : (List Int)) (r39 : ((List api_Op) × Int)) (vA8 : Int) : Option Bool :=
  (code_Run N r39.1 vA2).bind fun r60 =>
  (code_Value N r12 r19 vA2).bind fun r62 =>
  (code_Right N r39.1 (vA2.length : Int)).bind fun r64 =>
  if (((r64 && (decide ((r39.1.length : Int) = (r12.length : Int)))) && (decide (r60.1 = r62.1))) && (decide (r60.2 = r62.2))) = true then
    (code_High N r39.1).bind fun r67 =>
    if 1 ≤ r67 then
      (code_High N r39.1).bind fun r70 =>
      if r70 ≤ vA8 then
        (leadlinelaw08_fixed N).bind fun r73 =>
        some r73
      else
        some false
    else
      some false
  else
    some false
def leadlinelaw08_CodeSame_j1 (N : Nat) (r12 : (List api_Node)) (r19 : (List Str)) (vA2 : (List Int)) : Option Bool :=
  (code_Make N r12 r19).bind fun r39 =>
  if r39.2 ≠ 0 then
    if (r39.1.length : Int) = 0 then
      (leadlinelaw08_fixed N).bind fun r48 =>
      some r48
    else
      some false
  else
    (leadlinelaw08_CodeSame_l4 N (leadlinelaw08_CodeSame_j3 N r12 r19 vA2 r39) r12) N 0 0
def leadlinelaw08_CodeSame (N : Nat) (p1 : (List api_Node)) (p6 : (List Str)) (p11 : Int) : Option Bool :=
  (leadlinelaw03_Cut N p1).bind fun r12 =>
  (leadlinelaw08_few N p6).bind fun r19 =>
  (leadlinelaw08_CodeSame_l2 N (leadlinelaw08_CodeSame_j1 N r12 r19) p11 r19) N [] 0

def leadlinelaw08_Cut (N : Nat) (p1 : (List api_Op)) : Option (List api_Op) :=
  (subI p1 0 (min (p1.length : Int) 60)).bind fun l6 =>
  some l6

def leadlineref08_height_j4 (kleadlineref08_height_l2 : Int → Int → Option Int) (vB7 : Int) (vC2 : Int) : Option Int :=
  if vC2 < 0 then
    some (-1)
  else
    kleadlineref08_height_l2 (IntKind.i64.wrap (vC2 + 1)) (IntKind.i64.wrap (vB7 + 1))
def leadlineref08_height_j3 (kleadlineref08_height_l2 : Int → Int → Option Int) (x8 : api_Op) (vB7 : Int) (vC1 : Int) : Option Int :=
  if ((decide (5 ≤ x8.Kind)) && (decide (x8.Kind ≤ 15))) = true then
    (leadlineref08_height_j4 kleadlineref08_height_l2 vB7) (IntKind.i64.wrap (vC1 - 2))
  else
    (leadlineref08_height_j4 kleadlineref08_height_l2 vB7) vC1
def leadlineref08_height_l2 (N : Nat) (kleadlineref08_height_j1 : Int → Option Int) (p1 : (List api_Op)) (p6 : Int) : Nat → Int → Int → Option Int
  | 0, _, _ => none
  | n + 1, vB6, vB7 =>
    if vB7 < p6 then
      (getI p1 vB7).bind fun x8 =>
      if ((decide (x8.Kind = 3)) || (decide (x8.Kind = 4))) = true then
        (leadlineref08_height_j3 (leadlineref08_height_l2 N kleadlineref08_height_j1 p1 p6 n) x8 vB7) (IntKind.i64.wrap (vB6 - 1))
      else
        (leadlineref08_height_j3 (leadlineref08_height_l2 N kleadlineref08_height_j1 p1 p6 n) x8 vB7) vB6
    else
      kleadlineref08_height_j1 vB6
def leadlineref08_height_j1 (vA2 : Int) : Option Int :=
  some vA2
def leadlineref08_height (N : Nat) (p1 : (List api_Op)) (p6 : Int) : Option Int :=
  (leadlineref08_height_l2 N leadlineref08_height_j1 p1 p6) N 0 0

def leadlineref08_Right_l2 (N : Nat) (kleadlineref08_Right_j1 : Option Bool) (p1 : (List api_Op)) (p6 : Int) : Nat → Int → Option Bool
  | 0, _ => none
  | n + 1, vB6 =>
    if vB6 < (p1.length : Int) then
      (getI p1 vB6).bind fun x8 =>
      if (((((decide (x8.Kind < 1)) || (decide (15 < x8.Kind))) || ((decide (x8.Kind = 1)) && ((decide (x8.N < 0)) || (decide (4294967296 < x8.N))))) || ((decide (x8.Kind = 2)) && ((decide (x8.N < 0)) || (decide (p6 ≤ x8.N))))) || ((decide (2 < x8.Kind)) && (decide (x8.N ≠ 0)))) = true then
        some false
      else
        (leadlineref08_Right_l2 N kleadlineref08_Right_j1 p1 p6 n) (IntKind.i64.wrap (vB6 + 1))
    else
      kleadlineref08_Right_j1
def leadlineref08_Right_j1 (N : Nat) (p1 : (List api_Op)) : Option Bool :=
  if ((decide (1 ≤ (p1.length : Int))) && (decide ((p1.length : Int) ≤ 40))) = true then
    (leadlineref08_height N p1 (p1.length : Int)).bind fun r15 =>
    some (decide (r15 = 1))
  else
    some false
def leadlineref08_Right (N : Nat) (p1 : (List api_Op)) (p6 : Int) : Option Bool :=
  (leadlineref08_Right_l2 N (leadlineref08_Right_j1 N p1) p1 p6) N 0

def leadlineref08_Run_j3 (kleadlineref08_Run_l2 : (List Int) → Int → Option (Int × Int)) (vB16 : Int) (vC1 : (List Int)) : Option (Int × Int) :=
  kleadlineref08_Run_l2 vC1 (IntKind.i64.wrap (vB16 + 1))
def leadlineref08_Run_l2 (N : Nat) (kleadlineref08_Run_j1 : (List Int) → Option (Int × Int)) (p1 : (List api_Op)) (p6 : (List Int)) : Nat → (List Int) → Int → Option (Int × Int)
  | 0, _, _ => none
  | n + 1, vB10, vB16 =>
    if vB16 < (p1.length : Int) then
      (getI p1 vB16).bind fun x18 =>
      if x18.Kind = 1 then
        (appG 8 vB10 ([x18.N] : List Int)).bind fun l27 =>
        (leadlineref08_Run_j3 (leadlineref08_Run_l2 N kleadlineref08_Run_j1 p1 p6 n) vB16) l27
      else
        if x18.Kind = 2 then
          (getI p6 x18.N).bind fun x34 =>
          (appG 8 vB10 ([x34] : List Int)).bind fun l42 =>
          (leadlineref08_Run_j3 (leadlineref08_Run_l2 N kleadlineref08_Run_j1 p1 p6 n) vB16) l42
        else
          if ((decide (x18.Kind = 3)) || (decide (x18.Kind = 4))) = true then
            (getI vB10 (IntKind.i64.wrap ((vB10.length : Int) - 1))).bind fun x49 =>
            (leadlineref01_One N x18.Kind x49).bind fun r55 =>
            (setI vB10 (IntKind.i64.wrap ((vB10.length : Int) - 1)) r55.1).bind fun l58 =>
            (leadlineref08_Run_j3 (leadlineref08_Run_l2 N kleadlineref08_Run_j1 p1 p6 n) vB16) l58
          else
            (getI vB10 (IntKind.i64.wrap ((IntKind.i64.wrap ((vB10.length : Int) - 1)) - 1))).bind fun x63 =>
            (getI vB10 (IntKind.i64.wrap ((vB10.length : Int) - 1))).bind fun x69 =>
            (leadlineref01_Two N x18.Kind x63 x69).bind fun r75 =>
            if r75.2 ≠ 0 then
              some (0, r75.2)
            else
              (subI vB10 0 (IntKind.i64.wrap ((vB10.length : Int) - 1))).bind fun l78 =>
              (getI l78 (IntKind.i64.wrap ((IntKind.i64.wrap ((vB10.length : Int) - 1)) - 1))).bind fun x83 =>
              (setI l78 (IntKind.i64.wrap ((IntKind.i64.wrap ((vB10.length : Int) - 1)) - 1)) r75.1).bind fun l86 =>
              (leadlineref08_Run_j3 (leadlineref08_Run_l2 N kleadlineref08_Run_j1 p1 p6 n) vB16) l86
    else
      kleadlineref08_Run_j1 vB10
def leadlineref08_Run_j1 (vA2 : (List Int)) : Option (Int × Int) :=
  (getI vA2 0).bind fun x91 =>
  some (x91, 0)
def leadlineref08_Run (N : Nat) (p1 : (List api_Op)) (p6 : (List Int)) : Option (Int × Int) :=
  (leadlineref08_Right N p1 (p6.length : Int)).bind fun r11 =>
  if r11 = true then
    (leadlineref08_Run_l2 N leadlineref08_Run_j1 p1 p6) N [] 0
  else
    some (0, 8)

def leadlinelaw08_CodeJoins (N : Nat) (p1 : (List api_Op)) (p6 : (List api_Op)) (p11 : Int) : Option Bool :=
  (leadlinelaw08_Cut N p1).bind fun r15 =>
  (leadlinelaw08_Cut N p6).bind fun r24 =>
  (code_Run N r15 ([7, (-2), 0] : List Int)).bind fun r33 =>
  (code_Run N r24 ([7, (-2), 0] : List Int)).bind fun r35 =>
  (appG 16 ([] : List api_Op) r15).bind fun l40 =>
  (appG 16 l40 r24).bind fun l49 =>
  (appG 16 l49 ([(api_Op.mk (IntKind.i64.wrap (5 + ((iand .i64 p11 65535).tmod 11))) 0)] : List api_Op)).bind fun l61 =>
  (code_Run N l61 ([7, (-2), 0] : List Int)).bind fun r67 =>
  if (((decide (r33.2 = 8)) || (decide (r35.2 = 8))) || (decide (40 < (l61.length : Int)))) = true then
    (leadlinelaw08_fixed N).bind fun r70 =>
    some r70
  else
    if ((decide (r33.2 ≠ 0)) || (decide (r35.2 ≠ 0))) = true then
      if ((decide (r67.2 = 12)) && (decide (r67.1 = 0))) = true then
        (leadlinelaw08_fixed N).bind fun r74 =>
        some r74
      else
        some false
    else
      (leadlineref08_Run N ([(api_Op.mk 2 0), (api_Op.mk 2 1), (api_Op.mk (IntKind.i64.wrap (5 + ((iand .i64 p11 65535).tmod 11))) 0)] : List api_Op) ([r33.1, r35.1] : List Int)).bind fun r82 =>
      if ((decide (r67.1 = r82.1)) && (decide (r67.2 = r82.2))) = true then
        (leadlinelaw08_fixed N).bind fun r85 =>
        some r85
      else
        some false

def leadlinelaw08_CodeNames_j3 (kleadlinelaw08_CodeNames_l2 : Int → Option Bool) (vB2 : Int) (vC1 : Bool) : Option Bool :=
  (sure (!vC1)).bind fun _ =>
  kleadlinelaw08_CodeNames_l2 (IntKind.i64.wrap (vB2 + 1))
def leadlinelaw08_CodeNames_l2 (N : Nat) (kleadlinelaw08_CodeNames_j1 : Option Bool) (r32 : ((List api_Op) × Int)) (r42 : ((List api_Op) × Int)) : Nat → Int → Option Bool
  | 0, _ => none
  | n + 1, vB2 =>
    if vB2 < (r32.1.length : Int) then
      (getI r32.1 vB2).bind fun x51 =>
      (getI r42.1 vB2).bind fun x57 =>
      if x51.Kind ≠ x57.Kind then
        (leadlinelaw08_CodeNames_j3 (leadlinelaw08_CodeNames_l2 N kleadlinelaw08_CodeNames_j1 r32 r42 n) vB2) true
      else
        if x51.Kind ≠ 2 then
          if x51 ≠ x57 then
            (leadlinelaw08_CodeNames_j3 (leadlinelaw08_CodeNames_l2 N kleadlinelaw08_CodeNames_j1 r32 r42 n) vB2) true
          else
            if x51.Kind = 2 then
              (leadlinelaw08_CodeNames_j3 (leadlinelaw08_CodeNames_l2 N kleadlinelaw08_CodeNames_j1 r32 r42 n) vB2) (decide (((IntKind.i64.wrap (x51.N + 1)).tmod 3) ≠ x57.N))
            else
              (leadlinelaw08_CodeNames_j3 (leadlinelaw08_CodeNames_l2 N kleadlinelaw08_CodeNames_j1 r32 r42 n) vB2) false
        else
          if x51.Kind = 2 then
            (leadlinelaw08_CodeNames_j3 (leadlinelaw08_CodeNames_l2 N kleadlinelaw08_CodeNames_j1 r32 r42 n) vB2) (decide (((IntKind.i64.wrap (x51.N + 1)).tmod 3) ≠ x57.N))
          else
            (leadlinelaw08_CodeNames_j3 (leadlinelaw08_CodeNames_l2 N kleadlinelaw08_CodeNames_j1 r32 r42 n) vB2) false
    else
      kleadlinelaw08_CodeNames_j1
def leadlinelaw08_CodeNames_j1 (N : Nat) : Option Bool :=
  (leadlinelaw08_fixed N).bind fun r78 =>
  some r78
def leadlinelaw08_CodeNames (N : Nat) (p1 : (List api_Node)) (p6 : Int) (p7 : Int) (p8 : Int) : Option Bool :=
  if 60 < (p1.length : Int) then
    (leadlinelaw08_fixed N).bind fun r11 =>
    some r11
  else
    (code_Value N p1 ([[97], [98], [120, 49]] : List Str) ([p6, p7, p8] : List Int)).bind fun r19 =>
    (code_Value N p1 ([[120, 49], [97], [98]] : List Str) ([p8, p6, p7] : List Int)).bind fun r27 =>
    (code_Make N p1 ([[97], [98], [120, 49]] : List Str)).bind fun r32 =>
    (code_Make N p1 ([[120, 49], [97], [98]] : List Str)).bind fun r42 =>
    (sure (!((((decide (r19.1 ≠ r27.1)) || (decide (r19.2 ≠ r27.2))) || (decide (r32.2 ≠ r42.2))) || (decide ((r32.1.length : Int) ≠ (r42.1.length : Int)))))).bind fun _ =>
    (leadlinelaw08_CodeNames_l2 N (leadlinelaw08_CodeNames_j1 N) r32 r42) N 0

def leadlinelaw08_CodeParts (N : Nat) (p1 : (List api_Op)) (p6 : Int) : Option Bool :=
  (leadlinelaw08_Cut N p1).bind fun r7 =>
  (code_Right N r7 3).bind fun r16 =>
  if r16 = true then
    (remI (iand .i64 p6 65535) (IntKind.i64.wrap ((r7.length : Int) + 1))).bind fun x19 =>
    (appG 16 ([] : List api_Op) r7).bind fun l24 =>
    (appG 16 l24 ([(api_Op.mk 4 0)] : List api_Op)).bind fun l36 =>
    (code_Run N r7 ([1, 2, 3] : List Int)).bind fun r45 =>
    (code_Run N l36 ([1, 2, 3] : List Int)).bind fun r50 =>
    (sure (!((decide ((l36.length : Int) ≤ 40)) && ((decide (r45.2 ≠ r50.2)) || (((decide (r50.2 = 0)) && (decide (r50.1 ≠ 0))) && (decide (r50.1 ≠ 1))))))).bind fun _ =>
    (subI r7 0 x19).bind fun l53 =>
    (code_High N l53).bind fun r61 =>
    (code_High N r7).bind fun r63 =>
    if r61 ≤ r63 then
      (subI l36 0 (r7.length : Int)).bind fun l66 =>
      (leadlineref08_Same N l66 r7).bind fun r71 =>
      if r71 = true then
        (leadlinelaw08_fixed N).bind fun r74 =>
        some r74
      else
        some false
    else
      some false
  else
    (leadlinelaw08_fixed N).bind fun r76 =>
    some r76
end Go.MD.CODE
