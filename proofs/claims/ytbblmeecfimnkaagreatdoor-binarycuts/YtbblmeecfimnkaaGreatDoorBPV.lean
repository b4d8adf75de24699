/- Units that are right, both ways. No condition: plain lemmas. -/
import Derived.Test.YtbblmeecfimnkaaGreatDoorBMX
namespace Go.MD.BINZ
open Go Go.MD
def wN (k:Int):Nat:=if k=3∨k=4 then 1 else if 5≤k∧k≤15 then 2 else 0
theorem Wx (N:Nat) (k:Int):Z1f N k=some (wN k:Int):=by
  unfold Z1f wN
  by_cases h1:k=3∨k=4
  · rw [if_pos (by simpa using h1),if_pos h1];rfl
  · rw [if_neg (by simpa using h1), if_neg h1]
    by_cases h2:5≤k∧k≤15
    · rw [if_pos (by simpa using h2),if_pos h2];rfl
    · rw [if_neg (by simpa using h2),if_neg h2];rfl
theorem Jds (k:Int):wN k≤2:=by unfold wN;split <;> (try split) <;> omega
def hts:List api_Op→Nat→Nat→Option (Nat×Nat)
  | [],n,h=>some (n,h)
  | x :: l,n,h=>if n < wN x.Kind then none else hts l (n - wN x.Kind+1) (max h (n - wN x.Kind+1))
def Nh (many:Int) (x:api_Op):Bool:=if x.Kind=1 then decide (0≤x.N∧x.N≤4294967296) else if x.Kind=2 then decide (0≤x.N∧x.N < many) else decide (x.N=0∧1≤x.Kind∧x.Kind≤15)
def De (l:List api_Op) (many:Int):Bool:=decide (l.length≤40) && (match hts l 0 0 with | some q=>decide (q.1=1) | none=>false) && l.all (Nh many)
def hI (o:Option (Nat×Nat)):Int×Int×Bool:=match o with | some q=>((q.1:Int),(q.2:Int),true) | none=>(0,0,false)
theorem Oo {N:Nat} {l:List api_Op} (hl:l.length≤300000):∀ (d j n a b:Nat),j+d=l.length→d < n→a≤j→b≤j→
    Z1e N Z1d l n (a:Int) (b:Int) (j:Int)=some (hI (hts (l.drop j) a b)):=by
  intro d
  induction d with
  | zero =>
    intro j n a b hj hn _ _
    obtain ⟨n,rfl⟩:∃ m,n=m+1:=⟨n - 1,by omega⟩
    rw [Z1e,if_neg (by omega),List.drop_of_length_le (by omega)]
    rfl
  | succ d ih =>
    intro j n a b hj hn ha hb
    obtain ⟨n,rfl⟩:∃ m,n=m+1:=⟨n - 1,by omega⟩
    have h1:j < l.length:=by omega
    have hw:=Jds l[j].Kind
    rw [Z1e,if_pos (by omega),Aw rfl h1]
    simp only [Option.bind_some,Wx]
    rw [List.drop_eq_getElem_cons h1,w64 (by omega) (by omega),hts]
    by_cases hc:a < wN l[j].Kind
    · rw [if_pos (by omega),if_pos hc];rfl
    · rw [if_neg (by omega), if_neg hc, w64 (by omega) (by omega), Bd h1 (by omega), show ((a : Int) - (wN l[j].Kind : Int) + 1) = ((a - wN l[j].Kind + 1 : Nat) : Int) by omega, show max (b : Int) ((a - wN l[j].Kind + 1 : Nat) : Int) = ((max b (a - wN l[j].Kind + 1) : Nat) : Int) by omega]
      exact ih (j+1) n _ _ (by omega) (by omega) (by omega) (by omega)
theorem Ry {N:Nat} {l:List api_Op} (hl:l.length≤300000) (hN:l.length < N):Z1c N l=some (hI (hts l 0 0)):=by
  unfold Z1c
  exact Oo (N:=N) hl l.length 0 N 0 0 (by omega) hN (Nat.le_refl _) (Nat.le_refl _)
theorem X8 {N:Nat} {l:List api_Op} {many:Int} (hl:l.length≤300000):∀ (d j n:Nat),j+d=l.length→d < n→
    ∃ r,Z9y N Z9x l many n (j:Int)=some r∧(decide (0≤r) = !(l.drop j).all (Nh many)):=by
  intro d
  induction d with
  | zero =>
    intro j n hj hn
    obtain ⟨n,rfl⟩:∃ m,n=m+1:=⟨n - 1,by omega⟩
    rw [Z9y,if_neg (by omega),List.drop_of_length_le (by omega)]
    exact ⟨-1,rfl,rfl⟩
  | succ d ih =>
    intro j n hj hn
    obtain ⟨n,rfl⟩:∃ m,n=m+1:=⟨n - 1,by omega⟩
    have h1:j < l.length:=by omega
    have ho:Z1b N l[j] many=some (!Nh many l[j]):=by
      unfold Z1b Nh
      by_cases e1:l[j].Kind=1
      · rw [if_pos e1,if_pos e1];congr 1;rw [Bool.eq_iff_iff];first | (simp;done) | (simp;omega)
      · rw [if_neg e1, if_neg e1]
        by_cases e2:l[j].Kind=2
        · rw [if_pos e2,if_pos e2];congr 1;rw [Bool.eq_iff_iff];first | (simp;done) | (simp;omega)
        · rw [if_neg e2,if_neg e2];congr 1;rw [Bool.eq_iff_iff];first | (simp;done) | (simp;omega)
    rw [Z9y,if_pos (by omega),Aw rfl h1]
    simp only [Option.bind_some,ho]
    rw [List.drop_eq_getElem_cons h1,List.all_cons]
    cases hk:Nh many l[j] with
    | false=>exact ⟨j,by simp,by simp⟩
    | true =>
      obtain ⟨r,h2,h3⟩:=ih (j+1) n (by omega) (by omega)
      rw [Bd h1 (by omega)]
      exact ⟨r,by simpa using h2,by simpa using h3⟩
theorem Mi {N:Nat} {l:List api_Op} (hl:l.length≤300000) (hN:l.length < N) (many:Int):Z1a N l many=some (De l many):=by
  unfold Z1a
  rw [Ry hl hN]
  simp only [Option.bind_some]
  obtain ⟨r,h1,h2⟩:=X8 (N:=N) (many:=many) hl l.length 0 N (by omega) hN
  have h3:Z9k N l many=some (!l.all (Nh many)):=by
    unfold Z9k Z9w
    rw [show (0:Int)=((0:Nat):Int) from rfl,h1]
    simpa using h2
  unfold De
  cases hh:hts l 0 0 with
  | none=>simp [hI]
  | some q =>
    obtain ⟨a,b⟩:=q
    simp only [hI,Bool.and_true]
    by_cases e1:l.length≤40
    · by_cases e2 : a = 1
      · subst e2
        rw [if_pos (by simp;omega),h3];simp [e1]
      · have e3 : ¬ (a : Int) = 1 := by omega
        rw [if_neg (by simp [e3])];simp [e2]
    · rw [if_neg (by simp;intro h;omega)];simp [e1]
theorem JbE {N:Nat} {l:List (Int)} {pb:Int→Bool} (hl:l.length≤300000) (hp:∀ x∈l,Z91 N x=some (pb x)):∀ (d j n:Nat),j+d=l.length→d < n→
    ∃ r,Za1 N Za0 l n (j:Int)=some r∧(decide (0≤r)=(l.drop j).any pb):=by
  intro d
  induction d with
  | zero =>
    intro j n hj hn
    obtain ⟨n,rfl⟩:∃ m,n=m+1:=⟨n - 1,by omega⟩
    rw [Za1,if_neg (by omega),List.drop_of_length_le (by omega)]
    exact ⟨-1,rfl,rfl⟩
  | succ d ih =>
    intro j n hj hn
    obtain ⟨n,rfl⟩:∃ m,n=m+1:=⟨n - 1,by omega⟩
    have h1:j < l.length:=by omega
    have ho:=hp l[j] (List.getElem_mem h1)
    rw [Za1,if_pos (by omega),Aw rfl h1]
    simp only [Option.bind_some,ho]
    rw [List.drop_eq_getElem_cons h1,List.any_cons]
    cases hk:pb l[j] with
    | true=>exact ⟨j,by simp,by simp⟩
    | false =>
      obtain ⟨r,h2,h3⟩:=ih (j+1) n (by omega) (by omega)
      rw [Bd h1 (by omega)]
      exact ⟨r,by simpa using h2,by simpa using h3⟩
theorem JbQ {N:Nat} {l:List (Int)} {pb:Int→Bool} (hl:l.length≤300000) (hN:l.length < N) (hp:∀ x∈l,Z91 N x=some (pb x)):Z9l N l=some (l.any pb):=by
  obtain ⟨r,h1,h2⟩:=JbE hl hp l.length 0 N (by omega) hN
  unfold Z9l Z9z
  rw [show (0:Int)=((0:Nat):Int) from rfl,h1]
  simpa using h2
theorem Ja0 {N:Nat} {l:List (api_Code)} {y:api_Unit} {pb:api_Code→Bool} (hl:l.length≤300000) (hp:∀ x∈l,Z92 N x y=some (pb x)):∀ (d j n:Nat),j+d=l.length→d < n→
    ∃ r,Z9s N Z9r l y n (j:Int)=some r∧(decide (0≤r)=(l.drop j).any pb):=by
  intro d
  induction d with
  | zero =>
    intro j n hj hn
    obtain ⟨n,rfl⟩:∃ m,n=m+1:=⟨n - 1,by omega⟩
    rw [Z9s,if_neg (by omega),List.drop_of_length_le (by omega)]
    exact ⟨-1,rfl,rfl⟩
  | succ d ih =>
    intro j n hj hn
    obtain ⟨n,rfl⟩:∃ m,n=m+1:=⟨n - 1,by omega⟩
    have h1:j < l.length:=by omega
    have ho:=hp l[j] (List.getElem_mem h1)
    rw [Z9s,if_pos (by omega),Aw rfl h1]
    simp only [Option.bind_some,ho]
    rw [List.drop_eq_getElem_cons h1,List.any_cons]
    cases hk:pb l[j] with
    | true=>exact ⟨j,by simp,by simp⟩
    | false =>
      obtain ⟨r,h2,h3⟩:=ih (j+1) n (by omega) (by omega)
      rw [Bd h1 (by omega)]
      exact ⟨r,by simpa using h2,by simpa using h3⟩
theorem JaV {N:Nat} {l:List (api_Code)} {y:api_Unit} {pb:api_Code→Bool} (hl:l.length≤300000) (hN:l.length < N) (hp:∀ x∈l,Z92 N x y=some (pb x)):Z9i N l y=some (l.any pb):=by
  obtain ⟨r,h1,h2⟩:=Ja0 hl hp l.length 0 N (by omega) hN
  unfold Z9i Z9q
  rw [show (0:Int)=((0:Nat):Int) from rfl,h1]
  simpa using h2
theorem Xc {N:Nat} {l:List (List api_Op)} {y:api_Unit} {pb:List api_Op→Bool} (hl:l.length≤300000) (hp:∀ x∈l,Z93 N x y=some (pb x)):∀ (d j n:Nat),j+d=l.length→d < n→
    ∃ r,Z9p N Z9o l y n (j:Int)=some r∧(decide (0≤r)=(l.drop j).any pb):=by
  intro d
  induction d with
  | zero =>
    intro j n hj hn
    obtain ⟨n,rfl⟩:∃ m,n=m+1:=⟨n - 1,by omega⟩
    rw [Z9p,if_neg (by omega),List.drop_of_length_le (by omega)]
    exact ⟨-1,rfl,rfl⟩
  | succ d ih =>
    intro j n hj hn
    obtain ⟨n,rfl⟩:∃ m,n=m+1:=⟨n - 1,by omega⟩
    have h1:j < l.length:=by omega
    have ho:=hp l[j] (List.getElem_mem h1)
    rw [Z9p,if_pos (by omega),Aw rfl h1]
    simp only [Option.bind_some,ho]
    rw [List.drop_eq_getElem_cons h1,List.any_cons]
    cases hk:pb l[j] with
    | true=>exact ⟨j,by simp,by simp⟩
    | false =>
      obtain ⟨r,h2,h3⟩:=ih (j+1) n (by omega) (by omega)
      rw [Bd h1 (by omega)]
      exact ⟨r,by simpa using h2,by simpa using h3⟩
theorem Xl {N:Nat} {l:List (List api_Op)} {y:api_Unit} {pb:List api_Op→Bool} (hl:l.length≤300000) (hN:l.length < N) (hp:∀ x∈l,Z93 N x y=some (pb x)):Z9h N l y=some (l.any pb):=by
  obtain ⟨r,h1,h2⟩:=Xc hl hp l.length 0 N (by omega) hN
  unfold Z9h Z9n
  rw [show (0:Int)=((0:Nat):Int) from rfl,h1]
  simpa using h2
theorem Y9 {N:Nat} {l:List (api_Instr)} {y:api_Instr} {pb:api_Instr→Bool} (hl:l.length≤300000) (hp:∀ x∈l,Z97 N x y=some (pb x)):∀ (d j n:Nat),j+d=l.length→d < n→
    ∃ r,Z9v N Z9u l y n (j:Int)=some r∧(decide (0≤r)=(l.drop j).any pb):=by
  intro d
  induction d with
  | zero =>
    intro j n hj hn
    obtain ⟨n,rfl⟩:∃ m,n=m+1:=⟨n - 1,by omega⟩
    rw [Z9v,if_neg (by omega),List.drop_of_length_le (by omega)]
    exact ⟨-1,rfl,rfl⟩
  | succ d ih =>
    intro j n hj hn
    obtain ⟨n,rfl⟩:∃ m,n=m+1:=⟨n - 1,by omega⟩
    have h1:j < l.length:=by omega
    have ho:=hp l[j] (List.getElem_mem h1)
    rw [Z9v,if_pos (by omega),Aw rfl h1]
    simp only [Option.bind_some,ho]
    rw [List.drop_eq_getElem_cons h1,List.any_cons]
    cases hk:pb l[j] with
    | true=>exact ⟨j,by simp,by simp⟩
    | false =>
      obtain ⟨r,h2,h3⟩:=ih (j+1) n (by omega) (by omega)
      rw [Bd h1 (by omega)]
      exact ⟨r,by simpa using h2,by simpa using h3⟩
theorem Wz {N:Nat} {l:List (api_Instr)} {y:api_Instr} {pb:api_Instr→Bool} (hl:l.length≤300000) (hN:l.length < N) (hp:∀ x∈l,Z97 N x y=some (pb x)):Z9j N l y=some (l.any pb):=by
  obtain ⟨r,h1,h2⟩:=Y9 hl hp l.length 0 N (by omega) hN
  unfold Z9j Z9t
  rw [show (0:Int)=((0:Nat):Int) from rfl,h1]
  simpa using h2
end Go.MD.BINZ
namespace Go.MD.BINZ
open Go Go.MD
def inB (a n:Int):Bool:=decide (0≤a) && decide (a < n)
def fA (x:api_Instr) (R C:Int):Bool:=if x.Kind=13∨x.Kind=14 then inB x.A C else if x.Kind=1∨x.Kind=2∨x.Kind=4 then inB x.A R else decide (x.A=0)
def fB (x:api_Instr) (p4 p5 p6:Int):Bool:=if x.Kind=2∨x.Kind=3∨x.Kind=4 then inB x.B p4 else if x.Kind=5∨x.Kind=6 then inB x.B p5 else if x.Kind=9∨x.Kind=10 then inB x.B p6 else if x.Kind=13 then decide (1≤x.B) && decide (x.B≤8) else decide (x.B=0)
def fE (x:api_Instr) (R:Int):Bool:=if x.Kind=1∨x.Kind=3∨x.Kind=4∨x.Kind=12∨x.Kind=15 then De x.E R else decide ((x.E.length:Int)=0)
def fF (x:api_Instr) (R:Int):Bool:=if x.Kind=4 then De x.F R else decide ((x.F.length:Int)=0)
def Cn (x:api_Instr) (R C p4 p5 p6:Int):Bool:=(decide (1≤x.Kind) && decide (x.Kind≤15)) && (fA x R C && (fB x p4 p5 p6 && (fE x R && fF x R)))
theorem Ju {k:Int} (h1:1≤k) (h2:k≤15):k=1∨k=2∨k=3∨k=4∨k=5∨k=6∨k=7∨k=8∨k=9∨k=10∨k=11∨k=12∨k=13∨k=14∨k=15:=by omega
end Go.MD.BINZ
namespace Go.MD.BINZ
open Go Go.MD
theorem cbl {N:Nat} {l:List (IntK .u8)} {c:Int} (hl:l.length≤300000):∀ (d j n:Nat),j+d=l.length→d < n→
    ∃ r,Za4 N Za3 l c n (j:Int)=some r∧(decide (0≤r)=(l.drop j).any fun x=>decide (c=x.v)):=by
  intro d
  induction d with
  | zero =>
    intro j n hj hn
    obtain ⟨n,rfl⟩:∃ m,n=m+1:=⟨n - 1,by omega⟩
    rw [Za4,if_neg (by omega),List.drop_of_length_le (by omega)]
    exact ⟨-1,rfl,rfl⟩
  | succ d ih =>
    intro j n hj hn
    obtain ⟨n,rfl⟩:∃ m,n=m+1:=⟨n - 1,by omega⟩
    have h1:j < l.length:=by omega
    rw [Za4,if_pos (by omega),Aw rfl h1]
    simp only [Option.bind_some]
    rw [List.drop_eq_getElem_cons h1,List.any_cons]
    by_cases hk:c=l[j].v
    · rw [if_pos hk];exact ⟨j,rfl,by simp [hk]⟩
    · rw [if_neg hk]
      obtain ⟨r,h2,h3⟩:=ih (j+1) n (by omega) (by omega)
      rw [Bd h1 (by omega)]
      exact ⟨r,h2,by rw [h3];simp [hk]⟩
def havesL:List Str:=[[],[114,101],[114,99],[99,101],[114,99,101,102],[108],[108],[],[],[109],[109],[116],[101,116],[107,110],[107,116],[101]]
def hav (k:Nat) (c:Int):Bool:=(Ga ((havesL[k]?).getD [])).any fun x=>decide (c=x.v)
theorem Va:∀ k:Fin 16,((havesL[k.val]?).getD []).length≤10:=by decide
theorem lc1 {N:Nat} (hN:100 < N) (c:Int) {x:api_Instr} (h1:1≤x.Kind) (h2:x.Kind≤15):Z8r N c x=some (hav x.Kind.toNat c):=by
  unfold Z8r Z99
  simp only [Option.bind_some]
  obtain ⟨k,hk⟩:∃ k:Nat,x.Kind=(k:Int):=⟨x.Kind.toNat,by omega⟩
  have hk16:k < 16:=by omega
  have hg:getI havesL x.Kind=some ((havesL[k]?).getD []):=by
    rw [hk,Cl]
    have:k < havesL.length:=hk16
    rw [List.getElem?_eq_getElem this];rfl
  rw [show getI ([[],[114,101],[114,99],[99,101],[114,99,101,102],[108],[108],[],[],[109],[109],[116],[101,116],[107,110],[107,116],[101]]:List Str) x.Kind=_ from hg]
  simp only [Option.bind_some]
  have hl:(Ga ((havesL[k]?).getD [])).length≤10:=by
    show (List.map _ ((havesL[k]?).getD [])).length≤10
    rw [List.length_map];exact Va ⟨k,hk16⟩
  obtain ⟨r,e1,e2⟩:=cbl (N:=N) (c:=c) (l:=Ga ((havesL[k]?).getD [])) (by omega) _ 0 N (Nat.zero_add _) (by omega)
  unfold Z9m Za2
  rw [show (0:Int)=((0:Nat):Int) from rfl,e1]
  simp only [Option.bind_some]
  rw [hk,Int.toNat_natCast]
  exact congrArg some e2
def toB (l:List api_Instr) (i:Nat) (x:api_Instr):Bool:=
  if x.Kind=11∨x.Kind=12 then decide ((i:Int) < x.To) && decide (x.To≤(l.length:Int))
  else if x.Kind=14 then
    if x.To < 1∨(i:Int) < x.To then false
    else (match l[(x.To - 1).toNat]? with | some y=>decide (y.Kind=13) && decide (y.A=x.A) | none=>false) && !((l.take i).drop x.To.toNat).any fun y=>decide (y.Kind=13) && decide (y.A=x.A)
  else decide (x.To=0)
theorem Jar {N:Nat} {l:List api_Instr} {i:Nat} {x:api_Instr} (hl:l.length≤300000) (hN:300000 < N) (hi:l[i]? = some x) (hk:x.Kind=14):Z96 N l (i:Int)=some (toB l i x):=by
  have hil:i < l.length:=(List.getElem?_eq_some_iff.1 hi).1
  unfold Z96 toB
  rw [Cl,hi]
  simp only [Option.bind_some]
  rw [if_neg (show ¬ (x.Kind=11∨x.Kind=12) by omega),if_pos hk]
  by_cases h:x.To < 1∨(i:Int) < x.To
  · rw [if_pos (by simp;omega),if_pos h];rfl
  · rw [if_neg (by simp; omega), if_neg h]
    obtain ⟨t,ht⟩:∃ t:Nat,x.To=(t:Int)+1:=⟨(x.To - 1).toNat,by omega⟩
    have htl:t < l.length:=by omega
    rw [w64 (by omega) (by omega),ht,show (t:Int)+1 - 1=(t:Int) from by omega,Cl,Int.toNat_natCast,List.getElem?_eq_getElem htl]
    simp only [Option.bind_some]
    unfold Z98
    have hc:((decide (l[t].Kind≠13)) || (decide (l[t].A≠x.A))) = !(decide (l[t].Kind=13) && decide (l[t].A=x.A)):=by simp
    rw [hc]
    cases hb:(decide (l[t].Kind=13) && decide (l[t].A=x.A)) with
    | false=>rfl
    | true =>
      rw [if_neg (by simp),ht,show ((t:Int)+1)=((t+1:Nat):Int) from by omega,Eg (by omega) (by omega) (by omega)]
      simp only [Option.bind_some,Int.toNat_natCast]
      rw [Wz (pb:=fun y=>decide (y.Kind=13) && decide (y.A=x.A)) (by rw [List.length_drop,List.length_take];omega) (by rw [List.length_drop,List.length_take];omega) (fun y _=>by unfold Z97;rfl)]
      rfl
end Go.MD.BINZ
namespace Go.MD.BINZ
open Go Go.MD
section
variable {k:Int} (h1:1≤k) (h2:k≤15)
include h1 h2
theorem Jc7:hav k.toNat 114=decide (k=1∨k=2∨k=4):=by rcases Ju h1 h2 with rfl | rfl | rfl | rfl | rfl | rfl | rfl | rfl | rfl | rfl | rfl | rfl | rfl | rfl | rfl <;> decide
theorem Jc9:hav k.toNat 107=decide (k=13∨k=14):=by rcases Ju h1 h2 with rfl | rfl | rfl | rfl | rfl | rfl | rfl | rfl | rfl | rfl | rfl | rfl | rfl | rfl | rfl <;> decide
theorem Jd4:hav k.toNat 99=decide (k=2∨k=3∨k=4):=by rcases Ju h1 h2 with rfl | rfl | rfl | rfl | rfl | rfl | rfl | rfl | rfl | rfl | rfl | rfl | rfl | rfl | rfl <;> decide
theorem Jcv:hav k.toNat 108=decide (k=5∨k=6):=by rcases Ju h1 h2 with rfl | rfl | rfl | rfl | rfl | rfl | rfl | rfl | rfl | rfl | rfl | rfl | rfl | rfl | rfl <;> decide
theorem JcL:hav k.toNat 109=decide (k=9∨k=10):=by rcases Ju h1 h2 with rfl | rfl | rfl | rfl | rfl | rfl | rfl | rfl | rfl | rfl | rfl | rfl | rfl | rfl | rfl <;> decide
theorem JcK:hav k.toNat 110=decide (k=13):=by rcases Ju h1 h2 with rfl | rfl | rfl | rfl | rfl | rfl | rfl | rfl | rfl | rfl | rfl | rfl | rfl | rfl | rfl <;> decide
theorem Jdh:hav k.toNat 101=decide (k=1∨k=3∨k=4∨k=12∨k=15):=by rcases Ju h1 h2 with rfl | rfl | rfl | rfl | rfl | rfl | rfl | rfl | rfl | rfl | rfl | rfl | rfl | rfl | rfl <;> decide
theorem Jd1:hav k.toNat 102=decide (k=4):=by rcases Ju h1 h2 with rfl | rfl | rfl | rfl | rfl | rfl | rfl | rfl | rfl | rfl | rfl | rfl | rfl | rfl | rfl <;> decide
theorem JcE:hav k.toNat 116=decide (k=11∨k=12∨k=14):=by rcases Ju h1 h2 with rfl | rfl | rfl | rfl | rfl | rfl | rfl | rfl | rfl | rfl | rfl | rfl | rfl | rfl | rfl <;> decide
end
section
variable {N:Nat} (hN:300000 < N) {x:api_Instr} (h1:1≤x.Kind) (h2:x.Kind≤15) {p:api_Code} (hl:p.L.length≤300000) {j:Nat} (hx:p.L[j]? = some x) (hE:x.E.length≤300000) (hF:x.F.length≤300000)
theorem Jak (q:Int→Option Bool) (c1 c2 c3 c4 c5:Bool) (hj:j < 300000):Z8x q c1 c2 c3 c4 (j:Int) c5=if (c1 && (c2 && (c3 && (c4 && c5))))=true then q ((j+1:Nat):Int) else some false:=by
  unfold Z8x
  rw [Bd (n:=300000) hj (by decide)]
  cases c1 <;> cases c2 <;> cases c3 <;> cases c4 <;> cases c5 <;> rfl
include hN h1 h2 hl hx
theorem Wy (q:Int→Option Bool) (c1 c2 c3 c4:Bool):Z8w N q p x c1 c2 c3 (j:Int) c4=if (c1 && (c2 && (c3 && (c4 && toB p.L j x))))=true then q ((j+1:Nat):Int) else some false:=by
  have hjl:j < p.L.length:=(List.getElem?_eq_some_iff.1 hx).1
  unfold Z8w
  rw [lc1 (by omega) _ h1 h2,JcE h1 h2]
  simp only [Option.bind_some]
  by_cases k14:x.Kind=14
  · rw [if_pos (by simp [k14]), Jar hl hN hx k14]
    simp only [Option.bind_some]
    rw [Jak q _ _ _ _ _ (by omega)]
  · rw [if_neg (by simp [k14])]
    by_cases k11:x.Kind=11∨x.Kind=12
    · rw [if_pos (by simp; omega), Jak q _ _ _ _ _ (by omega)]
      unfold toB
      rw [if_pos k11]
    · rw [if_neg (by simp; omega), Jak q _ _ _ _ _ (by omega)]
      unfold toB
      rw [if_neg k11,if_neg k14]
include hF
theorem Jad (q:Int→Option Bool) (c1 c2 c3:Bool):Z8v N q p x c1 c2 (j:Int) c3=if (c1 && (c2 && (c3 && (fF x p.Regs && toB p.L j x))))=true then q ((j+1:Nat):Int) else some false:=by
  unfold Z8v fF
  rw [lc1 (by omega) _ h1 h2,Jd1 h1 h2]
  simp only [Option.bind_some]
  by_cases k4:x.Kind=4
  · rw [if_pos (by simp [k4]), if_pos k4, Mi hF (by omega)]
    simp only [Option.bind_some]
    cases De x.F p.Regs with
    | true=>rw [if_pos rfl,Wy hN h1 h2 hl hx]
    | false=>rw [if_neg (by simp),Wy hN h1 h2 hl hx];simp [k4]
  · rw [if_neg (by simp [k4]), if_neg k4, Wy hN h1 h2 hl hx]
    simp [k4]
include hE
theorem Rq (q:Int→Option Bool) (c1 c2:Bool):Z8u N q p x c1 (j:Int) c2=if (c1 && (c2 && (fE x p.Regs && (fF x p.Regs && toB p.L j x))))=true then q ((j+1:Nat):Int) else some false:=by
  unfold Z8u fE
  rw [lc1 (by omega) _ h1 h2,Jdh h1 h2]
  simp only [Option.bind_some]
  by_cases k4:x.Kind=1∨x.Kind=3∨x.Kind=4∨x.Kind=12∨x.Kind=15
  · rw [if_pos (decide_eq_true k4), if_pos k4, Mi hE (by omega)]
    simp only [Option.bind_some]
    cases De x.E p.Regs with
    | true=>rw [if_pos rfl,Jad hN h1 h2 hl hx hF]
    | false=>rw [if_neg (by simp),Jad hN h1 h2 hl hx hF,decide_eq_true k4];simp
  · rw [if_neg (by rw [decide_eq_false k4]; decide), if_neg k4, Jad hN h1 h2 hl hx hF, decide_eq_false k4]
    simp
theorem Yx (q:Int→Option Bool) (p4 p5 p6:Int) (c1:Bool):Z8t N q p p4 p5 p6 x (j:Int) c1=if (c1 && (fB x p4 p5 p6 && (fE x p.Regs && (fF x p.Regs && toB p.L j x))))=true then q ((j+1:Nat):Int) else some false:=by
  unfold Z8t fB
  have wt:∀ a b:Int,Z9g N true a b=some (inB a b):=fun a b=>rfl
  rw [lc1 (by omega) _ h1 h2,Jd4 h1 h2,lc1 (by omega) _ h1 h2,Jcv h1 h2,lc1 (by omega) _ h1 h2,JcL h1 h2,lc1 (by omega) _ h1 h2,JcK h1 h2]
  simp only [Option.bind_some,wt]
  by_cases k1:x.Kind=2∨x.Kind=3∨x.Kind=4
  · rw [if_pos (decide_eq_true k1),if_pos k1,Rq hN h1 h2 hl hx hE hF]
  · rw [if_neg (by rw [decide_eq_false k1]; decide), if_neg k1]
    by_cases k2:x.Kind=5∨x.Kind=6
    · rw [if_pos (decide_eq_true k2),if_pos k2,Rq hN h1 h2 hl hx hE hF]
    · rw [if_neg (by rw [decide_eq_false k2]; decide), if_neg k2]
      by_cases k3:x.Kind=9∨x.Kind=10
      · rw [if_pos (decide_eq_true k3),if_pos k3,Rq hN h1 h2 hl hx hE hF]
      · rw [if_neg (by rw [decide_eq_false k3]; decide), if_neg k3]
        by_cases k5:x.Kind=13
        · rw [if_pos (decide_eq_true k5),if_pos k5,Rq hN h1 h2 hl hx hE hF]
        · rw [if_neg (by rw [decide_eq_false k5];decide),if_neg k5,Rq hN h1 h2 hl hx hE hF]
end
theorem Jco {N:Nat} (hN:300000 < N) {q:Option Bool} {p:api_Code} {p4 p5 p6:Int} {j n:Nat} {x:api_Instr} (hl:p.L.length≤300000) (hx:p.L[j]? = some x) (hE:x.E.length≤300000) (hF:x.F.length≤300000) :
    Z8y N q p p4 p5 p6 (n+1) (j:Int)=if (Cn x p.Regs p.Counts p4 p5 p6 && toB p.L j x)=true then Z8y N q p p4 p5 p6 n ((j+1:Nat):Int) else some false:=by
  have hjl:j < p.L.length:=(List.getElem?_eq_some_iff.1 hx).1
  rw [Z8y,if_pos (by omega),Cl,hx]
  simp only [Option.bind_some]
  by_cases h:1≤x.Kind∧x.Kind≤15
  · obtain ⟨h1, h2⟩ := h
    have wt:∀ a b:Int,Z9g N true a b=some (inB a b):=fun a b=>rfl
    have wf:∀ a b:Int,Z9g N false a b=some (decide (a=0)):=fun a b=>rfl
    have hk:(decide (1≤x.Kind) && decide (x.Kind≤15))=true:=by simp;omega
    rw [if_neg (by simp;omega),lc1 (by omega) _ h1 h2,Jc7 h1 h2,lc1 (by omega) _ h1 h2,Jc9 h1 h2]
    unfold Cn fA
    rw [hk,Bool.true_and]
    simp only [Option.bind_some,wt,Bool.and_assoc]
    by_cases k1:x.Kind=13∨x.Kind=14
    · have k2 : ¬ (x.Kind = 1 ∨ x.Kind = 2 ∨ x.Kind = 4) := by omega
      rw [decide_eq_false k2,decide_eq_true k1,wf,if_pos k1]
      simp only [Option.bind_some]
      rw [if_pos trivial,Yx hN h1 h2 hl hx hE hF]
    · rw [decide_eq_false k1, if_neg k1]
      by_cases k2:x.Kind=1∨x.Kind=2∨x.Kind=4
      · rw [decide_eq_true k2, wt, if_pos k2]
        simp only [Option.bind_some]
        rw [if_neg (by decide),Yx hN h1 h2 hl hx hE hF]
      · rw [decide_eq_false k2, if_neg k2, wf]
        simp only [Option.bind_some]
        rw [if_neg (by decide),Yx hN h1 h2 hl hx hE hF]
  · have hk : (decide (1 ≤ x.Kind) && decide (x.Kind ≤ 15)) = false := by simp; omega
    rw [if_pos (by simp;omega)]
    unfold Cn
    rw [hk];rfl
end Go.MD.BINZ
namespace Go.MD.BINZ
open Go Go.MD
def F9 (L:List api_Instr) (j:Nat):Bool:=match L[j]? with | some y=>decide (y.Kind=14) | none=>false
def g14 (L:List api_Instr) (a j:Nat):Bool:=match L[a]?,L[j]? with | some x,some y=>!(decide (y.To - 1 < x.To - 1) && decide (x.To - 1≤(j:Int))) | _,_=>true
def Pq (L:List api_Instr) (a:Nat):Bool:=!F9 L a || ((List.range a).filter (F9 L)).all (g14 L a)
def nz (xs:List Nat):List Int:=xs.map fun (x:Nat)=>(x:Int)
def JaO (L:List api_Instr):Prop:=∀ (i:Nat) (x:api_Instr),L[i]? = some x→x.Kind=14→1≤x.To∧x.To≤(i:Int)
theorem Jdg {N:Nat} {L:List api_Instr} {k:Option Bool} {a:Nat} {x:api_Instr} (hT:JaO L) (hl:L.length≤300000) (hx:L[a]? = some x) (hk:x.Kind=14) {es:List Nat} (he:∀ j∈es,F9 L j=true) (hel:es.length≤300000):∀ (d c n:Nat),c+d=es.length→d < n→
    Z9f N k L x (nz es) n (c:Int)=if ((es.drop c).all (g14 L a))=true then k else some false:=by
  intro d
  induction d with
  | zero =>
    intro c n hc hn
    obtain ⟨n,rfl⟩:∃ m,n=m+1:=⟨n - 1,by omega⟩
    rw [Z9f,if_neg (by simp [nz];omega),List.drop_of_length_le (by omega)]
    rfl
  | succ d ih =>
    intro c n hc hn
    obtain ⟨n,rfl⟩:∃ m,n=m+1:=⟨n - 1,by omega⟩
    have h1:c < es.length:=by omega
    have hg:getI (nz es) (c:Int)=some ((es[c]:Nat):Int):=by rw [Cl];simp [nz,h1]
    have h14:=he es[c] (List.getElem_mem h1)
    unfold F9 at h14
    cases hy:L[es[c]]? with
    | none=>rw [hy] at h14;cases h14
    | some y =>
      rw [hy] at h14
      have hyk:y.Kind=14:=of_decide_eq_true h14
      obtain ⟨t1,t2⟩:=hT _ _ hx hk
      obtain ⟨t3,t4⟩:=hT _ _ hy hyk
      have b1:a < L.length:=(List.getElem?_eq_some_iff.1 hx).1
      have b2:es[c] < L.length:=(List.getElem?_eq_some_iff.1 hy).1
      rw [Z9f,if_pos (by simp [nz];omega),hg]
      simp only [Option.bind_some]
      rw [Cl,hy]
      simp only [Option.bind_some]
      rw [w64 (n:=y.To - 1) (by omega) (by omega),w64 (n:=x.To - 1) (by omega) (by omega),List.drop_eq_getElem_cons h1,List.all_cons]
      have e:g14 L a es[c] = !(decide (y.To - 1 < x.To - 1) && decide (x.To - 1≤((es[c]:Nat):Int))):=by unfold g14;rw [hx,hy]
      rw [e]
      cases hb:(decide (y.To - 1 < x.To - 1) && decide (x.To - 1≤((es[c]:Nat):Int))) with
      | true=>rfl
      | false=>rw [if_neg (by decide),Bd h1 (by omega),ih (c+1) n (by omega) (by omega)];rfl
theorem JaM {N:Nat} (hN:300000 < N) {L:List api_Instr} (hT:JaO L) (hl:L.length≤300000):∀ (d i n:Nat),i+d=L.length→d < n→
    Z9e N Z9b L n (nz ((List.range i).filter (F9 L))) (i:Int)=some ((List.range' i d).all (Pq L)):=by
  intro d
  induction d with
  | zero =>
    intro i n hi hn
    obtain ⟨n,rfl⟩:∃ m,n=m+1:=⟨n - 1,by omega⟩
    rw [Z9e,if_neg (by omega)]
    rfl
  | succ d ih =>
    intro i n hi hn
    obtain ⟨n,rfl⟩:∃ m,n=m+1:=⟨n - 1,by omega⟩
    have h1:i < L.length:=by omega
    have hx:L[i]? = some L[i]:=List.getElem?_eq_getElem h1
    have rc:=ih (i+1) n (by omega) (by omega)
    rw [List.range_succ,List.filter_append] at rc
    rw [Z9e,if_pos (by omega),Aw rfl h1]
    simp only [Option.bind_some]
    rw [List.range'_succ,List.all_cons]
    have hfl:((List.range i).filter (F9 L)).length≤i:=by
      have:=List.length_filter_le (F9 L) (List.range i);rw [List.length_range] at this;exact this
    by_cases hk:L[i].Kind=14
    · have hi14 : F9 L i = true := by unfold F9; rw [hx]; exact decide_eq_true hk
      have ho:Pq L i=((List.range i).filter (F9 L)).all (g14 L i):=by unfold Pq;rw [hi14];rfl
      have h5:=Jdg (N:=N) (k:=Z9d (Z9c (Z9e N Z9b L n) (i:Int)) (nz ((List.range i).filter (F9 L))) (i:Int)) hT hl hx hk (es:=(List.range i).filter (F9 L)) (fun j hj=>(List.mem_filter.1 hj).2) (by omega) _ 0 N (Nat.zero_add _) (by omega)
      rw [if_neg (by omega)]
      refine Eq.trans h5 ?_
      rw [List.drop_zero,ho]
      cases hb:((List.range i).filter (F9 L)).all (g14 L i) with
      | false=>rfl
      | true =>
        rw [if_pos rfl,Z9d,Az (by simp [nz];omega) (by decide)]
        simp only [Option.bind_some]
        rw [Z9c,Bd h1 (by omega)]
        have e:nz ((List.range i).filter (F9 L)) ++ [(i:Int)]=nz ((List.range i).filter (F9 L) ++ [i].filter (F9 L)):=by simp [nz,hi14]
        rw [e,rc];rfl
    · have hi14 : F9 L i = false := by unfold F9; rw [hx]; exact decide_eq_false hk
      have ho:Pq L i=true:=by unfold Pq;rw [hi14];rfl
      rw [if_pos hk,Z9c,Bd h1 (by omega),ho]
      have e:nz ((List.range i).filter (F9 L))=nz ((List.range i).filter (F9 L) ++ [i].filter (F9 L)):=by simp [nz,hi14]
      rw [e,rc];rfl
theorem Wd {N:Nat} (hN:300000 < N) {L:List api_Instr} (hT:JaO L) (hl:L.length≤300000):Z9a N L=some ((List.range' 0 L.length).all (Pq L)):=by
  unfold Z9a
  exact JaM hN hT hl L.length 0 N (by omega) (by omega)
def Nc (p:api_Code) (p4 p5 p6:Int) (j:Nat):Bool:=match p.L[j]? with | some x=>Cn x p.Regs p.Counts p4 p5 p6 && toB p.L j x | none=>true
def small (p:api_Code):Prop:=p.L.length≤300000∧∀ x∈p.L,x.E.length≤300000∧x.F.length≤300000
theorem Xy {N:Nat} (hN:300000 < N) {q:Option Bool} {p:api_Code} {p4 p5 p6:Int} (hs:small p):∀ (d j n:Nat),j+d=p.L.length→d < n→
    Z8y N q p p4 p5 p6 n (j:Int)=if ((List.range' j d).all (Nc p p4 p5 p6))=true then q else some false:=by
  intro d
  induction d with
  | zero =>
    intro j n hj hn
    obtain ⟨n,rfl⟩:∃ m,n=m+1:=⟨n - 1,by omega⟩
    rw [Z8y,if_neg (by omega)];rfl
  | succ d ih =>
    intro j n hj hn
    obtain ⟨n,rfl⟩:∃ m,n=m+1:=⟨n - 1,by omega⟩
    have h1:j < p.L.length:=by omega
    have hx:p.L[j]? = some p.L[j]:=List.getElem?_eq_getElem h1
    have hm:=hs.2 _ (List.getElem_mem h1)
    rw [Jco hN hs.1 hx hm.1 hm.2,ih (j+1) n (by omega) (by omega),List.range'_succ,List.all_cons]
    have:Nc p p4 p5 p6 j=(Cn p.L[j] p.Regs p.Counts p4 p5 p6 && toB p.L j p.L[j]):=by unfold Nc;rw [hx]
    rw [this]
    cases (Cn p.L[j] p.Regs p.Counts p4 p5 p6 && toB p.L j p.L[j]) <;> rfl
theorem Jay {p:api_Code} {p4 p5 p6:Int} (h:(List.range' 0 p.L.length).all (Nc p p4 p5 p6)=true):JaO p.L:=by
  intro i x hx hk
  have hi:i < p.L.length:=(List.getElem?_eq_some_iff.1 hx).1
  have h1:=List.all_eq_true.1 h i (by rw [← List.range_eq_range'];exact List.mem_range.2 hi)
  unfold Nc at h1
  rw [hx] at h1
  simp only [Bool.and_eq_true] at h1
  have h2:=h1.2
  unfold toB at h2
  rw [if_neg (by omega),if_pos hk] at h2
  by_cases hc:x.To < 1∨(i:Int) < x.To
  · rw [if_pos hc] at h2;cases h2
  · omega
def Gy (p:api_Code) (p4 p5 p6:Int):Bool:=
  !((((decide (p.Regs < 0)) || (decide (4 < p.Regs))) || (decide (p.Counts < 0))) || (decide (12 < p.Counts))) && ((List.range' 0 p.L.length).all (Nc p p4 p5 p6) && (List.range' 0 p.L.length).all (Pq p.L))
theorem Jao {N:Nat} (hN:300000 < N) {p:api_Code} (p4 p5 p6:Int) (hs:small p):Z8q N p p4 p5 p6=some (Gy p p4 p5 p6):=by
  unfold Z8q Gy
  have h2:=Xy hN (q:=Z8s N p) (p4:=p4) (p5:=p5) (p6:=p6) hs p.L.length 0 N (by omega) (by have:=hs.1;omega)
  rw [show ((0:Nat):Int)=0 from rfl] at h2
  rw [h2]
  cases ((((decide (p.Regs < 0)) || (decide (4 < p.Regs))) || (decide (p.Counts < 0))) || (decide (12 < p.Counts))) with
  | true=>rfl
  | false =>
    rw [if_neg (by decide)]
    cases ha:(List.range' 0 p.L.length).all (Nc p p4 p5 p6) with
    | false=>rfl
    | true=>rw [if_pos rfl,Z8s,Wd hN (Jay ha) hs.1];rfl
end Go.MD.BINZ
namespace Go.MD.BINZ
open Go Go.MD
def Hh (st:Int):Nat→Int→List Int→Bool
  | _,_,[]=>true
  | j,pv,x :: r=>(decide (x=pv+1) || (decide (0 < j) && (decide ((j:Int) < st) && decide (x=pv)))) && Hh st (j+1) x r
def lnI (u:api_Unit):Int:=if 1≤u.Stays∧u.Stays≤(u.Lines.length:Int) then IntKind.i64.wrap (((u.Lines[(u.Stays - 1).toNat]?).getD 0)+1) else 0
theorem Ve (N:Nat) {u:api_Unit} (hl:u.Lines.length≤300000):Z8z N u=some (lnI u):=by
  unfold Z8z lnI
  by_cases h:1≤u.Stays∧u.Stays≤(u.Lines.length:Int)
  · obtain ⟨t, ht⟩ : ∃ t : Nat, u.Stays = (t : Int) + 1 := ⟨(u.Stays - 1).toNat, by omega⟩
    rw [if_neg (by simp;omega),if_pos h,w64 (by omega) (by omega),ht,show (t:Int)+1 - 1=(t:Int) from by omega,Cl,Int.toNat_natCast]
    have:t < u.Lines.length:=by omega
    rw [List.getElem?_eq_getElem this];rfl
  · rw [if_pos (by simp;omega),if_neg h]
def Cy (u:api_Unit):Prop:=u.Lines.length≤300000∧u.Firsts.length≤300000∧u.Threads.length≤300000∧u.Claims.length≤300000∧(∀ c∈u.Threads,small c)∧small u.Recover∧∀ c∈u.Claims,c.length≤300000
def okF (x:Int):Bool:=!((decide (x < 0)) || (decide (4294967296 < x)))
def cB (u:api_Unit) (c:api_Code):Bool:=Gy c (u.Lines.length:Int) (lnI u) u.Locks
def Vp (u:api_Unit):Bool:=(((((((decide (20 < (u.Lines.length:Int))) || (decide (u.Stays < 0))) || (decide ((u.Lines.length:Int) < u.Stays))) || (decide ((u.Firsts.length:Int)≠(u.Lines.length:Int)))) || (decide (u.Locks < 0))) || (decide (2 < u.Locks))) || (decide ((u.Threads.length:Int) < 1))) || (decide (3 < (u.Threads.length:Int)))
def Em (u:api_Unit):Bool:=!Vp u && (Hh u.Stays 0 (-1) u.Lines && (u.Firsts.all okF && (u.Threads.all (cB u) && (cB u u.Recover && u.Claims.all fun c=>De c u.Stays))))
theorem JcN {N:Nat} {q:Option Bool} {u:api_Unit} (hl:u.Lines.length≤300000):∀ (d j n:Nat) (pv:Int),j+d=u.Lines.length→d < n→-1≤pv→pv < (j:Int)→
    Z95 N q u n pv (j:Int)=if Hh u.Stays j pv (u.Lines.drop j)=true then q else some false:=by
  intro d
  induction d with
  | zero =>
    intro j n pv hj hn _ _
    obtain ⟨n,rfl⟩:∃ m,n=m+1:=⟨n - 1,by omega⟩
    rw [Z95,if_neg (by omega),List.drop_of_length_le (by omega)];rfl
  | succ d ih =>
    intro j n pv hj hn h1 h2
    obtain ⟨n,rfl⟩:∃ m,n=m+1:=⟨n - 1,by omega⟩
    have hjl:j < u.Lines.length:=by omega
    rw [Z95,if_pos (by omega),Aw rfl hjl]
    simp only [Option.bind_some]
    rw [w64 (n:=pv+1) (by omega) (by omega),List.drop_eq_getElem_cons hjl,Hh]
    by_cases h:u.Lines[j]=pv+1∨(0 < j∧(j:Int) < u.Stays∧u.Lines[j]=pv)
    · have hb : (decide (u.Lines[j] = pv + 1) || (decide (0 < j) && (decide ((j : Int) < u.Stays) && decide (u.Lines[j] = pv)))) = true := by simpa using h
      rw [hb,Bool.true_and,if_neg (by simp;omega),Bd hjl (by omega),ih (j+1) n _ (by omega) (by omega) (by omega) (by omega)]
    · have hb : (decide (u.Lines[j] = pv + 1) || (decide (0 < j) && (decide ((j : Int) < u.Stays) && decide (u.Lines[j] = pv)))) = false := by rw [Bool.eq_false_iff]; intro hh; exact h (by simpa using hh)
      rw [hb,if_pos (by simp;omega)];rfl
theorem Ul {N:Nat} (hN:300000 < N) {u:api_Unit} (hs:Cy u) {c:api_Code} (hc:small c):Z92 N c u=some (!cB u c):=by
  unfold Z92 cB
  rw [Ve N hs.1]
  simp only [Option.bind_some]
  rw [Jao hN _ _ _ hc]
  rfl
theorem Pe {α:Type} (l:List α) (f:α→Bool):(l.any fun x=>!f x) = !l.all f:=by
  induction l with
  | nil=>rfl
  | cons x r ih=>rw [List.any_cons,List.all_cons,ih];cases f x <;> simp
theorem Ut {N:Nat} (hN:300000 < N) {u:api_Unit} (hs:Cy u):Z90 N u=some (Em u):=by
  unfold Z90 Em
  obtain ⟨s1,s2,s3,s4,s5,s6,s7⟩:=hs
  have hs:Cy u:=⟨s1,s2,s3,s4,s5,s6,s7⟩
  show (if Vp u=true then _ else _)=_
  cases Vp u with
  | true=>rfl
  | false =>
    have h2:=JcN (N:=N) (q:=Z94 N u) s1 u.Lines.length 0 N (-1) (by omega) (by omega) (by omega) (by omega)
    rw [List.drop_zero,show ((0:Nat):Int)=0 from rfl] at h2
    rw [if_neg (by decide),h2,Bool.not_false,Bool.true_and]
    cases Hh u.Stays 0 (-1) u.Lines with
    | false=>rfl
    | true =>
      rw [if_pos rfl,Bool.true_and,Z94,JbQ (pb:=fun x=>!okF x) s2 (by omega) (fun x _=>by unfold Z91 okF;simp),Pe]
      simp only [Option.bind_some]
      cases u.Firsts.all okF with
      | false=>rfl
      | true =>
        rw [Bool.not_true,if_neg (by decide),Bool.true_and,JaV (pb:=fun c=>!cB u c) s3 (by omega) (fun c hc=>Ul hN hs (s5 c hc)),Pe]
        simp only [Option.bind_some]
        cases u.Threads.all (cB u) with
        | false=>rfl
        | true =>
          rw [Bool.not_true,if_neg (by decide),Bool.true_and,Ul hN hs s6]
          simp only [Option.bind_some]
          cases cB u u.Recover with
          | false=>rfl
          | true =>
            rw [Bool.not_true,if_neg (by decide),Bool.true_and,Xl (pb:=fun c=>!De c u.Stays) s4 (by omega) (fun c hc=>by unfold Z93;rw [Mi (s7 c hc) (by have:=s7 c hc;omega)];rfl),Pe]
            simp
end Go.MD.BINZ
