/- Statements as trees. No condition: plain lemmas. -/
import Derived.Test.YtgdkaddhhpgeiaaGreatDoorLBJ
namespace Go.MD.LB
open Go Go.MD
inductive B
  | nil
  | cons (x:api_Stmt) (a b r:B)
def B.flat:B→List api_Stmt
  | .nil=>[]
  | .cons x a b r=>x :: (a.flat ++ (b.flat ++ r.flat))
def B.size:B→Nat
  | .nil=>0
  | .cons _ a b r=>1+a.size+b.size+r.size
def Kr (x:api_Stmt):Prop:=x.Kind=11∨x.Kind=12
instance (x:api_Stmt):Decidable (Kr x):=inferInstanceAs (Decidable (_∨_))
def B.depth:B→Nat
  | .nil=>0
  | .cons x a b r=>if Kr x then max (max (a.depth+1) (b.depth+1)) r.depth else r.depth
def inL (x:api_Stmt) (p:Nat):Nat:=if x.Kind=12 then p+1 else p
def B.good:Nat→B→Prop
  | _,.nil=>True
  | p,.cons x a b r=>x.Body=(a.size:Int)∧x.Else=(b.size:Int)∧(¬ Kr x→a=.nil)∧(x.Kind≠11→b=.nil)∧¬ (x.Kind=13∧p=0)∧a.good (inL x p)∧b.good (inL x p)∧r.good p
theorem B.flat_len:∀ b:B,b.flat.length=b.size
  | .nil=>rfl
  | .cons x a b r=>by simp only [B.flat,B.size,List.length_cons,List.length_append,a.flat_len,b.flat_len,r.flat_len];omega
theorem B.depth_le:∀ b:B,b.depth≤b.size
  | .nil=>Nat.le_refl _
  | .cons x a b r => by
    have:=a.depth_le;have:=b.depth_le;have:=r.depth_le
    simp only [B.depth,B.size]
    split <;> omega
theorem B.split {l:List api_Stmt} {i:Nat} (hi:i < l.length) {b:B} {p:Nat} (hg:b.good p) (h:l.drop i=b.flat) :
    ∃ a c r,b=.cons l[i] a c r∧(l.drop (i+1)).take a.size=a.flat∧(l.drop (i+1+a.size)).take c.size=c.flat∧l.drop (i+1+a.size+c.size)=r.flat∧i+1+a.size+c.size≤l.length:=by
  cases b with
  | nil=>rw [List.drop_eq_getElem_cons hi] at h;cases h
  | cons x a c r =>
    rw [List.drop_eq_getElem_cons hi,B.flat] at h
    injection h with h1 h2
    have e1:=a.flat_len
    have e2:=c.flat_len
    refine ⟨a,c,r,by rw [h1],?_,?_,?_,?_⟩
    · rw [h2,← e1,List.take_left]
    · rw [← List.drop_drop,h2,← e1,List.drop_left,← e2,List.take_left]
    · rw [← List.drop_drop,← List.drop_drop,h2,← e1,List.drop_left,← e2,List.drop_left]
    · have := congrArg List.length h2
      simp only [List.length_drop,List.length_append,e1,e2] at this
      omega
theorem Xn {l:List api_Stmt} {i m n:Nat} (hi:i < l.length) (_:i+1+m+n≤l.length):l.drop i=l[i] :: ((l.drop (i+1)).take m ++ ((l.drop (i+1+m)).take n ++ l.drop (i+1+m+n))):=by
  rw [List.drop_eq_getElem_cons hi]
  congr 1
  rw [← List.drop_drop (i:=n) (j:=i+1+m),List.take_append_drop,← List.drop_drop (i:=m) (j:=i+1),List.take_append_drop]
theorem Rf {i n:Nat} {x y:Int} (hn:n≤40) (hi:i < n) (hx:0≤x) (hx2:x≤40) (hy:0≤y) (hy2:y≤40) :
    IntKind.i64.wrap ((i:Int)+1)=((i+1:Nat):Int)∧IntKind.i64.wrap (IntKind.i64.wrap ((i:Int)+1)+x)=((i+1+x.toNat:Nat):Int)∧IntKind.i64.wrap (IntKind.i64.wrap (IntKind.i64.wrap ((i:Int)+1)+x)+y)=((i+1+x.toNat+y.toNat:Nat):Int):=by
  have h1:IntKind.i64.wrap ((i:Int)+1)=((i+1:Nat):Int):=Bf hi (by omega)
  have h2:IntKind.i64.wrap (IntKind.i64.wrap ((i:Int)+1)+x)=((i+1+x.toNat:Nat):Int):=by rw [h1,w64 (by omega) (by omega)];omega
  have h3:IntKind.i64.wrap (IntKind.i64.wrap (IntKind.i64.wrap ((i:Int)+1)+x)+y)=((i+1+x.toNat+y.toNat:Nat):Int):=by rw [h2,w64 (by omega) (by omega)];omega
  exact ⟨h1,h2,h3⟩
theorem Gb {α:Type} {l:List α} {i j:Nat} (h:i+j≤l.length):Du l (i:Int) ((i+j:Nat):Int)=some ((l.drop i).take j):=by
  rw [Fl (by omega) (by omega) (by omega)]
  congr 1
  simp only [Int.toNat_natCast]
  rw [List.drop_take]
  congr 1
  omega
def DR (l:List api_Stmt) (p i v:Nat) (r:Int):Prop:=
  (∃ b:B,b.good p∧l.drop i=b.flat∧r=((max v b.depth:Nat):Int))∨(r = -1∧∀ b:B,b.good p→l.drop i≠b.flat)
def stA (D:List api_Stmt→Int→Option Int) (N:Nat) (L:Int→Int→Option Int) (p1:List api_Stmt) (p6 vB1 vB2:Int):Option Int:=
  if vB2 < (p1.length:Int) then
      (getI p1 vB2).bind fun x8=>
      if (((((decide (x8.Body < 0)) || (decide (x8.Else < 0))) || (decide ((p1.length:Int) < x8.Body))) || (decide ((p1.length:Int) < x8.Else))) || (decide ((p1.length:Int) < (IntKind.i64.wrap ((IntKind.i64.wrap ((IntKind.i64.wrap (vB2+1))+x8.Body))+x8.Else)))))=true then
        some (-1)
      else
        if ((!((decide (x8.Kind=11)) || (decide (x8.Kind=12)))) && (decide (0 < x8.Body)))=true then
          (Zb6 D N L p1 p6 x8 vB1 vB2) ((!((decide (x8.Kind=11)) || (decide (x8.Kind=12)))) && (decide (0 < x8.Body)))
        else
          if ((decide (x8.Kind≠11)) && (decide (0 < x8.Else)))=true then
            (Zb6 D N L p1 p6 x8 vB1 vB2) ((decide (x8.Kind≠11)) && (decide (0 < x8.Else)))
          else
            (Zb6 D N L p1 p6 x8 vB1 vB2) ((decide (x8.Kind=13)) && (decide (p6=0)))
    else
      some vB1
def stB (D:List api_Stmt→Int→Option Int) (L:Int→Int→Option Int) (p1:List api_Stmt) (p6 vB1 vB2:Int):Option Int:=
  if vB2 < (p1.length:Int) then
      (getI p1 vB2).bind fun x8=>
      if (((((decide (x8.Body < 0)) || (decide (x8.Else < 0))) || (decide (40 < x8.Body))) || (decide (40 < x8.Else))) || (decide ((p1.length:Int) < (IntKind.i64.wrap ((IntKind.i64.wrap ((IntKind.i64.wrap (vB2+1))+x8.Body))+x8.Else)))))=true then
        some (-1)
      else
        if (((((decide (0 < x8.Body)) && (decide (x8.Kind≠11))) && (decide (x8.Kind≠12))) || ((decide (0 < x8.Else)) && (decide (x8.Kind≠11)))) || ((decide (x8.Kind=13)) && (decide (p6=0))))=true then
          some (-1)
        else
          if x8.Kind=12 then
            (Z41 D L p1 x8 vB1 vB2) (IntKind.i64.wrap (p6+1))
          else
            (Z41 D L p1 x8 vB1 vB2) p6
    else
      some vB1
theorem Jaw (D:List api_Stmt→Int→Option Int) (N:Nat) (p1:List api_Stmt) (p6 vB1 vB2:Int) (n:Nat):Zb8 D N Zb5 p1 p6 (n+1) vB1 vB2=stA D N (Zb8 D N Zb5 p1 p6 n) p1 p6 vB1 vB2:=rfl
theorem Ja4 (D:List api_Stmt→Int→Option Int) (N:Nat) (p1:List api_Stmt) (p6 vB1 vB2:Int) (n:Nat):Z43 D N Z40 p1 p6 (n+1) vB1 vB2=stB D (Z43 D N Z40 p1 p6 n) p1 p6 vB1 vB2:=rfl
theorem Mm (p:Nat):(p:Int)+1=((p+1:Nat):Int):=by omega
set_option maxHeartbeats 1000000 in
theorem Sz (D1 D2:List api_Stmt→Int→Option Int) (L1 L2:Int→Int→Option Int) (N:Nat) {l:List api_Stmt} {i p v:Nat} (h40:l.length≤40) (hp:p+l.length≤1000) (hv:v≤100) (h1:i < l.length)
    (ih:∀ l':List api_Stmt,l'.length < l.length→∀ q:Nat,q≤p+1→∃ r,D1 l' (q:Int)=some r∧D2 l' (q:Int)=some r∧DR l' q 0 0 r)
    (nx:∀ j v':Nat,i < j→j≤l.length→v'≤100→∃ r,L1 (v':Int) (j:Int)=some r∧L2 (v':Int) (j:Int)=some r∧DR l p j v' r) :
    ∃ r,stA D1 N L1 l (p:Int) (v:Int) (i:Int)=some r∧stB D2 L2 l (p:Int) (v:Int) (i:Int)=some r∧DR l p i v r:=by
  rw [stA,stB,if_pos (by omega),if_pos (by omega),As rfl h1]
  simp only [Option.bind_some,Bool.or_eq_true,Bool.and_eq_true,decide_eq_true_eq,Bool.not_eq_true',Bool.or_eq_false_iff,decide_eq_false_iff_not]
  generalize hx:l[i]=x
  -- is there room
  by_cases hroom:0≤x.Body∧0≤x.Else∧(i:Int)+1+x.Body+x.Else≤(l.length:Int)
  rotate_left
  · refine ⟨-1, ?_, ?_, .inr ⟨rfl, fun b hg hb => ?_⟩⟩
    · rw [if_pos]
      by_cases q:0≤x.Body∧0≤x.Else∧x.Body≤(l.length:Int)∧x.Else≤(l.length:Int)
      · right;rw [(Rf h40 h1 q.1 (by omega) q.2.1 (by omega)).2.2];omega
      · left;omega
    · rw [if_pos]
      by_cases q:0≤x.Body∧0≤x.Else∧x.Body≤40∧x.Else≤40
      · right;rw [(Rf h40 h1 q.1 (by omega) q.2.1 (by omega)).2.2];omega
      · left;omega
    · obtain ⟨a, c, r, rfl, _, _, _, h5⟩ := B.split h1 hg hb
      rw [hx] at hg
      obtain ⟨g1,g2,_⟩:=hg
      omega
  obtain ⟨w1,w2,w3⟩:=Rf (x:=x.Body) (y:=x.Else) h40 h1 hroom.1 (by omega) hroom.2.1 (by omega)
  obtain ⟨bn,hbn⟩:∃ q:Nat,x.Body=(q:Int):=⟨x.Body.toNat,by omega⟩
  obtain ⟨en,hen⟩:∃ q:Nat,x.Else=(q:Int):=⟨x.Else.toNat,by omega⟩
  rw [w3]
  have hA : ¬ ((((x.Body < 0∨x.Else < 0)∨(l.length:Int) < x.Body)∨(l.length:Int) < x.Else)∨(l.length:Int) < ((i+1+x.Body.toNat+x.Else.toNat:Nat):Int)):=by omega
  have hB : ¬ ((((x.Body < 0∨x.Else < 0)∨40 < x.Body)∨40 < x.Else)∨(l.length:Int) < ((i+1+x.Body.toNat+x.Else.toNat:Nat):Int)):=by omega
  rw [if_neg hA,if_neg hB]
  have hle:i+1+bn+en≤l.length:=by omega
  rw [hbn,hen,Int.toNat_natCast,Int.toNat_natCast] at w3
  rw [hbn,Int.toNat_natCast] at w2
  by_cases hk:(¬ Kr x∧0 < bn)∨(x.Kind≠11∧0 < en)∨(x.Kind=13∧p=0)
  · refine ⟨-1, ?_, ?_, .inr ⟨rfl, fun b hg hb => ?_⟩⟩
    · unfold Kr at hk
      by_cases q1:(¬x.Kind=11∧¬x.Kind=12)∧0 < x.Body
      · rw [if_pos q1,Zb6,if_pos (by simp only [Bool.and_eq_true,Bool.not_eq_true',Bool.or_eq_false_iff,decide_eq_false_iff_not,decide_eq_true_eq];exact q1)]
      · rw [if_neg q1]
        by_cases q2:x.Kind≠11∧0 < x.Else
        · rw [if_pos q2,Zb6,if_pos (by simpa using q2)]
        · rw [if_neg q2,Zb6,if_pos (by simp only [Bool.and_eq_true,decide_eq_true_eq];omega)]
    · unfold Kr at hk
      rw [if_pos (by omega)]
    · obtain ⟨a, c, r, rfl, _, _, _, _⟩ := B.split h1 hg hb
      rw [hx] at hg
      obtain ⟨g1,g2,g3,g4,g5,_⟩:=hg
      rcases hk with ⟨q1,q2⟩ | ⟨q1,q2⟩ | q
      · rw [g3 q1] at g1;simp [B.size] at g1;omega
      · rw [g4 q1] at g2;simp [B.size] at g2;omega
      · exact g5 q
  have hk1 : ¬ Kr x→bn=0:=fun q=>by
    rcases Nat.eq_zero_or_pos bn with h | h
    · exact h
    · exact absurd (.inl ⟨q,h⟩) hk
  have hk2:x.Kind≠11→en=0:=fun q=>by
    rcases Nat.eq_zero_or_pos en with h | h
    · exact h
    · exact absurd (.inr (.inl ⟨q,h⟩)) hk
  have hk3 : ¬ (x.Kind=13∧p=0):=fun q=>hk (.inr (.inr q))
  have e1 : ¬ ((¬x.Kind=11∧¬x.Kind=12)∧0 < x.Body):=by
    rintro ⟨⟨q1,q2⟩,q3⟩
    have:=hk1 (fun h=>by rcases h with h | h <;> omega)
    omega
  have e2 : ¬ (x.Kind≠11∧0 < x.Else):=by
    rintro ⟨q1,q3⟩
    have:=hk2 q1
    omega
  have e3 : ¬ ((((0 < x.Body∧x.Kind≠11)∧x.Kind≠12)∨0 < x.Else∧x.Kind≠11)∨x.Kind=13∧(p:Int)=0):=by
    intro q
    rcases q with (q | q) | q
    · exact e1 ⟨⟨q.1.2,q.2⟩,q.1.1⟩
    · exact e2 ⟨q.2,q.1⟩
    · exact hk3 ⟨q.1,by omega⟩
  rw [if_neg e1,if_neg e2,if_neg e3]
  have e4:((decide (x.Kind=13)) && (decide ((p:Int)=0)))=false:=by
    rw [Bool.eq_false_iff];simp only [ne_eq,Bool.and_eq_true,decide_eq_true_eq]
    intro q;exact hk3 ⟨q.1,by omega⟩
  rw [e4,Zb6,if_neg (by decide)]
  -- Hw comes behind
  have next:∀ v':Nat,v'≤100→∃ r,Zb7 L1 x (i:Int) (v':Int)=some r∧Z42 L2 x (i:Int) (v':Int)=some r∧DR l p (i+1+bn+en) v' r:=by
    intro v' hv'
    obtain ⟨r,r1,r2,r3⟩:=nx (i+1+bn+en) v' (by omega) hle hv'
    refine ⟨r,?_,?_,r3⟩
    · rw [Zb7,hbn,hen,w3,r1]
    · rw [Z42,hbn,hen,w3,r2]
  have hpp:(if x.Kind=12 then Z41 D2 L2 l x (v:Int) (i:Int) (IntKind.i64.wrap ((p:Int)+1)) else Z41 D2 L2 l x (v:Int) (i:Int) (p:Int)) =
      Z41 D2 L2 l x (v:Int) (i:Int) ((inL x p:Nat):Int):=by
    unfold inL
    by_cases q:x.Kind=12
    · rw [if_pos q,if_pos q,w64 (by omega) (by omega),Mm]
    · rw [if_neg q,if_neg q]
  rw [hpp,Z41]
  by_cases hbl:Kr x
  · have hb2 : ((decide (x.Kind = 11)) || (decide (x.Kind = 12))) = true := by simpa [Kr] using hbl
    rw [if_pos hb2,if_pos hb2,Zbf]
    have hwb:IntKind.i64.wrap ((p:Int)+(if x.Kind=12 then 1 else 0))=((inL x p:Nat):Int):=by
      unfold inL
      split
      · rw [w64 (by omega) (by omega),Mm]
      · rw [w64 (by omega) (by omega)];omega
    have hwb2:(if decide (x.Kind=12)=true then some (1:Int) else some 0)=some (if x.Kind=12 then 1 else 0):=by
      simp only [decide_eq_true_eq];split <;> rfl
    rw [hwb2]
    simp only [Option.bind_some,hwb]
    rw [hbn,hen,w3,w2,w1,Gb (by omega),show i+1+bn+en=(i+1+bn)+en from rfl,Gb (i:=i+1+bn) (by omega)]
    simp only [Option.bind_some]
    have hil2:inL x p≤p+1:=by unfold inL;split <;> omega
    obtain ⟨r1,a1,a2,a3⟩:=ih ((l.drop (i+1)).take bn) (by simp;omega) (inL x p) hil2
    obtain ⟨r2,c1,c2,c3⟩:=ih ((l.drop (i+1+bn)).take en) (by simp;omega) (inL x p) hil2
    rw [a1,a2]
    simp only [Option.bind_some]
    rw [c1,c2]
    simp only [Option.bind_some]
    unfold DR at a3 c3
    rw [List.drop_zero] at a3 c3
    rcases a3 with ⟨ba,ga,fa,da⟩ | ⟨da,na⟩
    rotate_left
    · refine ⟨-1, ?_, ?_, .inr ⟨rfl, fun b hg hb => ?_⟩⟩
      · rw [if_pos (by simp [da])]
      · rw [if_pos (by simp [da])]
      · obtain ⟨a, c, r, rfl, s1, _⟩ := B.split h1 hg hb
        rw [hx] at hg
        obtain ⟨g1,g2,_,_,_,g6,_⟩:=hg
        have:a.size=bn:=by omega
        rw [this] at s1
        exact na a g6 s1
    rcases c3 with ⟨bc,gc,fc,dc⟩ | ⟨dc,nc⟩
    rotate_left
    · refine ⟨-1, ?_, ?_, .inr ⟨rfl, fun b hg hb => ?_⟩⟩
      · rw [if_pos (by simp [dc])]
      · rw [if_pos (by simp [dc])]
      · obtain ⟨a, c, r, rfl, _, s2, _⟩ := B.split h1 hg hb
        rw [hx] at hg
        obtain ⟨g1,g2,_,_,_,_,g7,_⟩:=hg
        have q1:a.size=bn:=by omega
        have q2:c.size=en:=by omega
        rw [q1,q2] at s2
        exact nc c g7 s2
    have la:=congrArg List.length fa
    have lc:=congrArg List.length fc
    rw [B.flat_len] at la lc
    simp only [List.length_take,List.length_drop] at la lc
    have sa:x.Body=(ba.size:Int):=by rw [hbn];clear hpp hA hB hk;omega
    have sc:x.Else=(bc.size:Int):=by rw [hen];clear hpp hA hB hk;omega
    have dla:=ba.depth_le
    have dlc:=bc.depth_le
    rw [if_neg (by simp [da,dc]),if_neg (by simp [da,dc]),da,dc]
    have ex1:max (max (v:Int) (IntKind.i64.wrap (((max 0 ba.depth:Nat):Int)+1))) (IntKind.i64.wrap (((max 0 bc.depth:Nat):Int)+1))=((max (max v (ba.depth+1)) (bc.depth+1):Nat):Int):=by
      rw [w64 (by omega) (by omega),w64 (by omega) (by omega)];omega
    have ex2:max (max (v:Int) (IntKind.i64.wrap (1+((max 0 ba.depth:Nat):Int)))) (IntKind.i64.wrap (1+((max 0 bc.depth:Nat):Int)))=((max (max v (ba.depth+1)) (bc.depth+1):Nat):Int):=by
      rw [w64 (by omega) (by omega),w64 (by omega) (by omega)];omega
    rw [ex1,ex2]
    clear ex1 ex2 hpp hA hB hk
    obtain ⟨r,r1',r2',r3⟩:=next (max (max v (ba.depth+1)) (bc.depth+1)) (by omega)
    refine ⟨r,r1',r2',?_⟩
    rcases r3 with ⟨br,gr,fr,dr⟩ | ⟨dr,nr⟩
    · refine .inl ⟨.cons x ba bc br, ⟨sa, sc, fun q => absurd hbl q, fun q => ?_, hk3, ga, gc, gr⟩, ?_, ?_⟩
      · have := hk2 q
        cases bc with
        | nil=>rfl
        | cons _ _ _ _=>simp only [B.size] at lc;omega
      · rw [Xn h1 hle,hx,fa,fc,fr];rfl
      · rw [dr];simp only [B.depth,if_pos hbl];omega
    · refine .inr ⟨dr, fun b hg hb => ?_⟩
      obtain ⟨a,c,r,rfl,_,_,s3,_⟩:=B.split h1 hg hb
      rw [hx] at hg
      obtain ⟨g1,g2,_,_,_,_,_,g8⟩:=hg
      have q1:a.size=bn:=by omega
      have q2:c.size=en:=by omega
      rw [q1,q2] at s3
      exact nr r g8 s3
  · have hb2 : ¬ (((decide (x.Kind = 11)) || (decide (x.Kind = 12))) = true) := by simpa [Kr] using hbl
    rw [if_neg hb2,if_neg hb2]
    have q1:=hk1 hbl
    have q2:=hk2 (fun h=>hbl (.inl h))
    subst q1;subst q2
    obtain ⟨r,r1',r2',r3⟩:=next v hv
    refine ⟨r,r1',r2',?_⟩
    rcases r3 with ⟨br,gr,fr,dr⟩ | ⟨dr,nr⟩
    · refine .inl ⟨.cons x .nil .nil br, ⟨hbn, hen, fun _ => rfl, fun _ => rfl, hk3, trivial, trivial, gr⟩, ?_, ?_⟩
      · rw [Xn h1 hle,hx,fr];simp [B.flat]
      · rw [dr,B.depth,if_neg hbl]
    · refine .inr ⟨dr, fun b hg hb => ?_⟩
      obtain ⟨a,c,r,rfl,_,_,s3,_⟩:=B.split h1 hg hb
      rw [hx] at hg
      obtain ⟨g1,g2,_,_,_,_,_,g8⟩:=hg
      have q1:a.size=0:=by omega
      have q2:c.size=0:=by omega
      rw [q1,q2] at s3
      exact nr r g8 s3
theorem Tf:∀ (m:Nat) (l:List api_Stmt),l.length≤m→l.length≤40→∀ (p fuel:Nat),p+l.length≤1000→l.length+2≤fuel→
    ∃ r,Zb4 fuel l (p:Int)=some r∧Z3z fuel l (p:Int)=some r∧DR l p 0 0 r:=by
  intro m
  induction m with
  | zero =>
    intro l hm h40 p fuel hp hf
    have:l=[]:=List.eq_nil_of_length_eq_zero (by omega)
    subst this
    obtain ⟨f,rfl⟩:∃ f,fuel=f+1+1:=⟨fuel - 2,by simp at hf;omega⟩
    refine ⟨0,?_,?_,.inl ⟨.nil,trivial,rfl,rfl⟩⟩
    · rw [Zb4,Zb8,if_neg (by simp)];rfl
    · rw [Z3z,Z43,if_neg (by simp)];rfl
  | succ m ih =>
    intro l hm h40 p fuel hp hf
    obtain ⟨f,rfl⟩:∃ f,fuel=f+1:=⟨fuel - 1,by omega⟩
    have key:∀ (d i n v:Nat),l.length - i≤d→i≤l.length→l.length - i < n→v≤100→
        ∃ r,Zb8 (Zb4 f) f Zb5 l (p:Int) n (v:Int) (i:Int)=some r∧Z43 (Z3z f) f Z40 l (p:Int) n (v:Int) (i:Int)=some r∧DR l p i v r:=by
      intro d
      induction d with
      | zero =>
        intro i n v hd hi hn hv
        obtain ⟨n,rfl⟩:∃ q,n=q+1:=⟨n - 1,by omega⟩
        refine ⟨v,?_,?_,.inl ⟨.nil,trivial,by rw [List.drop_of_length_le (by omega)];rfl,by simp [B.depth]⟩⟩
        · rw [Zb8,if_neg (by omega)];rfl
        · rw [Z43,if_neg (by omega)];rfl
      | succ d ihd =>
        intro i n v hd hi hn hv
        obtain ⟨n,rfl⟩:∃ q,n=q+1:=⟨n - 1,by omega⟩
        by_cases hil:i=l.length
        · refine ⟨v, ?_, ?_, .inl ⟨.nil, trivial, by rw [List.drop_of_length_le (by omega)]; rfl, by simp [B.depth]⟩⟩
          · rw [Zb8,if_neg (by omega)];rfl
          · rw [Z43,if_neg (by omega)];rfl
        have h1:i < l.length:=by omega
        rw [Jaw,Ja4]
        exact Sz (Zb4 f) (Z3z f) _ _ f h40 hp hv h1 (fun l' hl' q hq=>ih l' (by omega) (by omega) q f (by omega) (by omega)) (fun j v' hj hj2 hv'=>ihd j n v' (by omega) hj2 (by omega) hv')
    obtain ⟨r,r1,r2,r3⟩:=key l.length 0 f 0 (by omega) (Nat.zero_le _) (by omega) (by omega)
    refine ⟨r,?_,?_,r3⟩
    · rw [Zb4];exact r1
    · rw [Z3z];exact r2
end Go.MD.LB
