/- Statements as trees. No condition: plain lemmas. -/
import Derived.Test.YtgdkaddhhpgeiaaGreatDoorLBJ
namespace Go.MD.LB
open Go Go.MD
inductive B
  | nil
  | cons (x:api_Stmt) (a b r:B)
def B.flat:B→List api_Stmt
  | .nil=>[]
  | .cons x a b r=>x :: (a.flat ++ (b.flat ++ r.flat))
def B.size:B→Nat
  | .nil=>0
  | .cons _ a b r=>1+a.size+b.size+r.size
def isBl (x:api_Stmt):Prop:=x.Kind=11∨x.Kind=12
instance (x:api_Stmt):Decidable (isBl x):=inferInstanceAs (Decidable (_∨_))
def B.depth:B→Nat
  | .nil=>0
  | .cons x a b r=>if isBl x then max (max (a.depth+1) (b.depth+1)) r.depth else r.depth
def inL (x:api_Stmt) (p:Nat):Nat:=if x.Kind=12 then p+1 else p
def B.good:Nat→B→Prop
  | _,.nil=>True
  | p,.cons x a b r=>x.Body=(a.size:Int)∧x.Else=(b.size:Int)∧(¬ isBl x→a=.nil)∧(x.Kind≠11→b=.nil)∧¬ (x.Kind=13∧p=0)∧a.good (inL x p)∧b.good (inL x p)∧r.good p
theorem B.flat_len:∀ b:B,b.flat.length=b.size
  | .nil=>rfl
  | .cons x a b r=>by simp only [B.flat,B.size,List.length_cons,List.length_append,a.flat_len,b.flat_len,r.flat_len];omega
theorem B.split {l:List api_Stmt} {i:Nat} (hi:i < l.length) {b:B} {p:Nat} (hg:b.good p) (h:l.drop i=b.flat) :
    ∃ a c r,b=.cons l[i] a c r∧(l.drop (i+1)).take a.size=a.flat∧(l.drop (i+1+a.size)).take c.size=c.flat∧l.drop (i+1+a.size+c.size)=r.flat∧i+1+a.size+c.size≤l.length:=by
  cases b with
  | nil=>rw [List.drop_eq_getElem_cons hi] at h;cases h
  | cons x a c r =>
    rw [List.drop_eq_getElem_cons hi,B.flat] at h
    injection h with h1 h2
    have e1:=a.flat_len
    have e2:=c.flat_len
    refine ⟨a,c,r,by rw [h1],?_,?_,?_,?_⟩
    · rw [h2,← e1,List.take_left]
    · rw [← List.drop_drop,h2,← e1,List.drop_left,← e2,List.take_left]
    · rw [← List.drop_drop,← List.drop_drop,h2,← e1,List.drop_left,← e2,List.drop_left]
    · have := congrArg List.length h2
      simp only [List.length_drop,List.length_append,e1,e2] at this
      omega
theorem end_w {i n:Nat} {x y:Int} (hn:n≤40) (hi:i < n) (hx:0≤x) (hx2:x≤40) (hy:0≤y) (hy2:y≤40) :
    IntKind.i64.wrap ((i:Int)+1)=((i+1:Nat):Int)∧IntKind.i64.wrap (IntKind.i64.wrap ((i:Int)+1)+x)=((i+1+x.toNat:Nat):Int)∧IntKind.i64.wrap (IntKind.i64.wrap (IntKind.i64.wrap ((i:Int)+1)+x)+y)=((i+1+x.toNat+y.toNat:Nat):Int):=by
  have h1:IntKind.i64.wrap ((i:Int)+1)=((i+1:Nat):Int):=wsucc hi (by omega)
  have h2:IntKind.i64.wrap (IntKind.i64.wrap ((i:Int)+1)+x)=((i+1+x.toNat:Nat):Int):=by rw [h1,w64 (by omega) (by omega)];omega
  have h3:IntKind.i64.wrap (IntKind.i64.wrap (IntKind.i64.wrap ((i:Int)+1)+x)+y)=((i+1+x.toNat+y.toNat:Nat):Int):=by rw [h2,w64 (by omega) (by omega)];omega
  exact ⟨h1,h2,h3⟩
theorem sub_take {α:Type} {l:List α} {i j:Nat} (h:i+j≤l.length):subI l (i:Int) ((i+j:Nat):Int)=some ((l.drop i).take j):=by
  rw [subI_ok (by omega) (by omega) (by omega)]
  congr 1
  simp only [Int.toNat_natCast]
  rw [List.drop_take]
  congr 1
  omega
end Go.MD.LB
