/- A text's tokens, as the document reads them: it never fails, and their places lie in the text. No condition: plain lemmas. -/
import Derived.Test.YtgdkaddhhpgeiaaGreatDoorLU3
import Derived.Test.YtgdkaddhhpgeiaaGreatDoorPL
namespace Go.MD.LB
open Go Go.MD
structure OkT (x:api_Token):Prop where
  low:0≤x.At
  high:x.At+(x.Text.length:Int)≤2000
def OkL (l:List api_Token):Prop:=l.length≤2000∧∀ x∈l,OkT x
theorem Ef {s:Str} {j:Nat} (hj:j < s.length):Cv s (j:Int)=some (s[j].toNat:Int):=by
  unfold Cv;rw [Ao rfl hj];rfl
theorem Mg {N:Nat} {s:Str} (hl:s.length≤2000) {j:Nat} (hj:j≤s.length) {t:Str} (ht:t.length=2):∃ b,Z14 N s (j:Int) t=some b∧(b=true→j+2≤s.length∧(s.take (j+2)).drop j=t):=by
  unfold Z14
  rw [ht,w64 (by omega) (by omega)]
  by_cases h:j+2≤s.length
  · rw [if_pos (by omega), Iw (by omega) (by omega) (by omega)]
    refine ⟨_,rfl,fun q=>⟨h,?_⟩⟩
    have:=of_decide_eq_true q
    rwa [show ((j:Int)+((2:Nat):Int)).toNat=j+2 by omega,Int.toNat_natCast] at this
  · rw [if_neg (by omega)]
    exact ⟨false,rfl,fun q=>by cases q⟩
theorem Jcs {N:Nat} {k:Int→Option Int} {s:Str} (hl:s.length≤2000):∀ (d j m:Nat),j+d=s.length→d < m→∃ j':Nat,Z1b N k s m (j:Int)=k (j':Int)∧j≤j'∧j'≤s.length∧(∀ b,s[j]? = some b→b.toNat≠10→j < j'):=by
  intro d
  induction d with
  | zero =>
    intro j m hj hm
    obtain ⟨m,rfl⟩:∃ q,m=q+1:=⟨m - 1,by omega⟩
    rw [Z1b,if_neg (by omega),Z19,if_neg (by decide)]
    refine ⟨j,rfl,Nat.le_refl _,by omega,fun b hb=>?_⟩
    rw [List.getElem?_eq_none (by omega)] at hb;cases hb
  | succ d ih =>
    intro j m hj hm
    obtain ⟨m,rfl⟩:∃ q,m=q+1:=⟨m - 1,by omega⟩
    have h1:j < s.length:=by omega
    rw [Z1b,if_pos (by omega),Ef h1]
    simp only [Option.bind_some,Z19]
    by_cases h:s[j].toNat=10
    · rw [if_neg (by simp; omega)]
      refine ⟨j,rfl,Nat.le_refl _,by omega,fun b hb hn=>?_⟩
      rw [List.getElem?_eq_getElem h1] at hb
      injection hb with hb;subst hb;omega
    · rw [if_pos (by simp; omega), Bc h1 (by omega)]
      obtain ⟨j',e,a,b,_⟩:=ih (j+1) m (by omega) (by omega)
      exact ⟨j',e,by omega,b,fun _ _ _=>by omega⟩
theorem JaR {N:Nat} {s:Str} (hl:s.length≤2000) (hN:2001 < N):∀ (d j m:Nat),s.length - j≤d→j≤s.length→d < m→∃ r:Nat,Z1a N Z18 s m (j:Int)=some (r:Int)∧j≤r∧r≤s.length:=by
  intro d
  induction d with
  | zero =>
    intro j m hj hj2 hm
    obtain ⟨m,rfl⟩:∃ q,m=q+1:=⟨m - 1,by omega⟩
    rw [Z1a,if_neg (by omega)]
    exact ⟨j,rfl,Nat.le_refl _,hj2⟩
  | succ d ih =>
    intro j m hj hj2 hm
    obtain ⟨m,rfl⟩:∃ q,m=q+1:=⟨m - 1,by omega⟩
    by_cases h1:j < s.length
    · rw [Z1a, if_pos (by omega), Ef h1]
      simp only [Option.bind_some]
      split
      · rw [Bc h1 (by omega)]
        obtain ⟨r,e,a,b⟩:=ih (j+1) m (by omega) (by omega) (by omega)
        exact ⟨r,e,by omega,b⟩
      · obtain ⟨b, e, hb⟩ := Mg (N := N) hl hj2 (t := [47, 47]) rfl
        rw [e]
        simp only [Option.bind_some]
        cases b with
        | false=>rw [if_neg (by decide)];exact ⟨j,rfl,Nat.le_refl _,hj2⟩
        | true =>
          obtain ⟨q1,q2⟩:=hb rfl
          have hs:s[j].toNat=47:=by
            have:=congrArg (fun x=>x[0]?) q2
            simp only [List.getElem?_drop,List.getElem?_take] at this
            rw [if_pos (by omega),show j+0=j from rfl,List.getElem?_eq_getElem h1] at this
            simp at this;rw [this];rfl
          rw [if_pos rfl]
          obtain ⟨j',e2,a1,a2,a3⟩:=Jcs (N:=N) (k:=Z1a N Z18 s m) hl (s.length - j) j N (by omega) (by omega)
          have:=a3 s[j] (List.getElem?_eq_getElem h1) (by omega)
          rw [e2]
          obtain ⟨r,e,a,b⟩:=ih j' m (by omega) a2 (by omega)
          exact ⟨r,e,by omega,b⟩
    · rw [Z1a, if_neg (by omega)]
      exact ⟨j,rfl,Nat.le_refl _,hj2⟩
theorem Rq {N:Nat} {s:Str} (hl:s.length≤2000) (hN:2001 < N) {j:Nat} (hj:j≤s.length):∃ r:Nat,Z17 N s (j:Int)=some (r:Int)∧j≤r∧r≤s.length:=
  JaR hl hN s.length j N (by omega) hj (by omega)
theorem JaT {N:Nat} {s:Str} (hl:s.length≤2000) {j:Nat} (hj:j < s.length):∀ (d i m:Nat),i+d=14→d < m→∃ r:Nat,Z1g N Z1e s (j:Int) m (i:Int)=some (r:Int)∧j+r≤s.length:=by
  intro d
  induction d with
  | zero =>
    intro i m hi hm
    obtain ⟨m,rfl⟩:∃ q,m=q+1:=⟨m - 1,by omega⟩
    rw [Z1g,if_neg (by omega)]
    exact ⟨0,rfl,by omega⟩
  | succ d ih =>
    intro i m hi hm
    obtain ⟨m,rfl⟩:∃ q,m=q+1:=⟨m - 1,by omega⟩
    rw [Z1g,if_pos (by omega),Ef (s:=[40,41,123,125,59,44,61,60,33,43,45,42,47,37]) (show i < 14 by omega),Ef hj]
    simp only [Option.bind_some]
    split
    · exact ⟨1,rfl,by omega⟩
    · rw [Bc (n := 14) (by omega) (by decide)]
      exact ih (i+1) m (by omega) (by omega)
theorem JbJ {N:Nat} {s:Str} (hl:s.length≤2000) (hN:2001 < N) {j:Nat} (hj:j < s.length):∀ (d i m:Nat),i+d=5→d < m→∃ r:Nat,Z1f N (Z1d N s (j:Int)) s (j:Int) m (i:Int)=some (r:Int)∧j+r≤s.length:=by
  intro d
  induction d with
  | zero =>
    intro i m hi hm
    obtain ⟨m,rfl⟩:∃ q,m=q+1:=⟨m - 1,by omega⟩
    rw [Z1f,if_neg (by simp;omega),Z1d]
    exact JaT hl hj 14 0 N rfl (by omega)
  | succ d ih =>
    intro i m hi hm
    obtain ⟨m,rfl⟩:∃ q,m=q+1:=⟨m - 1,by omega⟩
    have h5:i < ([[61,61],[33,61],[60,61],[38,38],[124,124]]:List Str).length:=by simp;omega
    rw [Z1f,if_pos (by omega),Ao rfl h5]
    simp only [Option.bind_some]
    have hlen:(([[61,61],[33,61],[60,61],[38,38],[124,124]]:List Str)[i]'h5).length=2:=by
      have:∀ x∈([[61,61],[33,61],[60,61],[38,38],[124,124]]:List Str),x.length=2:=by decide
      exact this _ (List.getElem_mem h5)
    obtain ⟨b,e,hb⟩:=Mg (N:=N) hl (Nat.le_of_lt hj) hlen
    rw [e]
    simp only [Option.bind_some]
    cases b with
    | true=>rw [if_pos rfl];exact ⟨2,rfl,(hb rfl).1⟩
    | false =>
      rw [if_neg (by decide),Bc (n:=5) (by omega) (by decide)]
      exact ih (i+1) m (by omega) (by omega)
theorem Xf {N:Nat} {s:Str} (hl:s.length≤2000) (hN:2001 < N) {j:Nat} (hj:j < s.length):∃ r:Nat,Z1c N s (j:Int)=some (r:Int)∧j+r≤s.length:=
  JbJ hl hN hj 5 0 N rfl (by omega)
abbrev SC:=Option ((List api_Token)×Int×Int)
theorem Jch {N:Nat} {k:Int→SC} {s:Str} (hl:s.length≤2000):∀ (d j m:Nat),j+d=s.length→d < m→∃ j':Nat,Z12 N k s m (j:Int)=k (j':Int)∧j≤j'∧j'≤s.length∧((∀ b,s[j]? = some b→Z16 N (b.toNat:Int)=some true)→j < s.length→j < j'):=by
  intro d
  induction d with
  | zero =>
    intro j m hj hm
    obtain ⟨m,rfl⟩:∃ q,m=q+1:=⟨m - 1,by omega⟩
    rw [Z12,if_neg (by omega),Zy,if_neg (by decide)]
    exact ⟨j,rfl,Nat.le_refl _,by omega,fun _ _=>by omega⟩
  | succ d ih =>
    intro j m hj hm
    obtain ⟨m,rfl⟩:∃ q,m=q+1:=⟨m - 1,by omega⟩
    have h1:j < s.length:=by omega
    obtain ⟨j',e,a,b,_⟩:=ih (j+1) m (by omega) (by omega)
    rw [Z12,if_pos (by omega),Ef h1]
    simp only [Option.bind_some]
    obtain ⟨c,hc⟩:∃ c,Z16 N (s[j].toNat:Int)=some c:=⟨_,rfl⟩
    rw [hc]
    simp only [Option.bind_some]
    cases c with
    | true =>
      rw [if_pos rfl,Zy,if_pos rfl,Bc h1 (by omega)]
      exact ⟨j',e,by omega,b,fun _ _=>by omega⟩
    | false =>
      rw [if_neg (by decide)]
      obtain ⟨c,hd⟩:∃ c,Z15 N (s[j].toNat:Int)=some c:=⟨_,rfl⟩
      rw [hd]
      simp only [Option.bind_some,Zy]
      cases c with
      | true =>
        rw [if_pos rfl,Bc h1 (by omega)]
        exact ⟨j',e,by omega,b,fun _ _=>by omega⟩
      | false =>
        rw [if_neg (by decide)]
        refine ⟨j,rfl,Nat.le_refl _,by omega,fun h _=>?_⟩
        have:=h s[j] (List.getElem?_eq_getElem h1)
        rw [hc] at this;cases this
theorem Jby {N:Nat} {k:Int→api_Token→SC} {s:Str} (hl:s.length≤2000):∀ (d j m:Nat) (t:api_Token),j+d=s.length→d < m→∃ (j':Nat) (t':api_Token),Z13 N k s m (j:Int) t=k (j':Int) t'∧t'.At=t.At∧j≤j'∧j'≤s.length∧((∀ b,s[j]? = some b→Z15 N (b.toNat:Int)=some true)→j < s.length→j < j'):=by
  intro d
  induction d with
  | zero =>
    intro j m t hj hm
    obtain ⟨m,rfl⟩:∃ q,m=q+1:=⟨m - 1,by omega⟩
    rw [Z13,if_neg (by omega),Z10,if_neg (by decide)]
    exact ⟨j,t,rfl,rfl,Nat.le_refl _,by omega,fun _ _=>by omega⟩
  | succ d ih =>
    intro j m t hj hm
    obtain ⟨m,rfl⟩:∃ q,m=q+1:=⟨m - 1,by omega⟩
    have h1:j < s.length:=by omega
    rw [Z13,if_pos (by omega),Ef h1]
    simp only [Option.bind_some]
    obtain ⟨c,hc⟩:∃ c,Z15 N (s[j].toNat:Int)=some c:=⟨_,rfl⟩
    rw [hc]
    simp only [Option.bind_some]
    rw [Z10]
    cases c with
    | true =>
      rw [if_pos rfl]
      split
      · rw [Ef h1]
        simp only [Option.bind_some]
        rw [Zv,Bc h1 (by omega)]
        obtain ⟨j',t',e,z,a,b,_⟩:=ih (j+1) m (api_Token.mk t.Kind t.Text (IntKind.i64.wrap ((IntKind.i64.wrap (10 * t.N))+(IntKind.i64.wrap (IntKind.u8.wrap ((s[j].toNat:Int) - 48))))) t.At) (by omega) (by omega)
        exact ⟨j',t',e,z,by omega,b,fun _ _=>by omega⟩
      · rw [Zv, Bc h1 (by omega)]
        obtain ⟨j',t',e,z,a,b,_⟩:=ih (j+1) m t (by omega) (by omega)
        exact ⟨j',t',e,z,by omega,b,fun _ _=>by omega⟩
    | false =>
      rw [if_neg (by decide)]
      refine ⟨j,t,rfl,rfl,Nat.le_refl _,by omega,fun h _=>?_⟩
      have:=h s[j] (List.getElem?_eq_getElem h1)
      rw [hc] at this;cases this
theorem Jbu {N:Nat} {s:Str} (hl:s.length≤2000) (hN:2001 < N):∀ (d j m:Nat) (out:List api_Token),s.length - j≤d→j≤s.length→d < m→out.length≤j→(∀ x∈out,OkT x)→
    ∃ l e a,Z11 N Zu s m out (j:Int)=some (l,e,a)∧OkL l:=by
  intro d
  induction d with
  | zero =>
    intro j m out hj hj2 hm ho hx
    obtain ⟨m,rfl⟩:∃ q,m=q+1:=⟨m - 1,by omega⟩
    rw [Z11,if_neg (by omega)]
    exact ⟨out,0,0,rfl,by omega,hx⟩
  | succ d ih =>
    intro j m out hj hj2 hm ho hx
    obtain ⟨m,rfl⟩:∃ q,m=q+1:=⟨m - 1,by omega⟩
    by_cases h1:j < s.length
    · have bad : ∃ (l : List api_Token) (e a : Int), (some ([], e, a) : SC) = some (l, e, a) ∧ OkL l := ⟨[], 0, 0, rfl, Nat.zero_le _, fun x hx => nomatch hx⟩
      have next:∀ (j':Nat) (t:api_Token),j < j'→j'≤s.length→t.At=(j:Int)→∃ l e a,Zw N (Z11 N Zu s m) s out (j:Int) (j':Int) t=some (l,e,a)∧OkL l:=by
        intro j' t g1 g2 ht
        rw [Zw,Iw (by omega) (by omega) (by omega)]
        simp only [Option.bind_some]
        rw [Bq (by simp;omega) (by decide)]
        simp only [Option.bind_some]
        obtain ⟨r,e,a,b⟩:=Rq hl hN g2
        rw [e]
        simp only [Option.bind_some]
        refine ih r m _ (by omega) b (by omega) (by simp;omega) (fun x hx'=>?_)
        rcases List.mem_append.1 hx' with h | h
        · exact hx x h
        · rw [List.mem_singleton] at h
          subst h
          refine ⟨by show 0≤t.At;omega,?_⟩
          show t.At+(((s.take (j':Int).toNat).drop (j:Int).toNat).length:Int)≤2000
          rw [List.length_drop,List.length_take];omega
      rw [Z11,if_pos (by omega),Ef h1]
      simp only [Option.bind_some]
      obtain ⟨c,hc⟩:∃ c,Z16 N (s[j].toNat:Int)=some c:=⟨_,rfl⟩
      rw [hc]
      simp only [Option.bind_some]
      have hget:∀ b,s[j]? = some b→b=s[j]:=fun b hb=>by rw [List.getElem?_eq_getElem h1] at hb;injection hb with hb;exact hb.symm
      cases c with
      | true =>
        rw [if_pos rfl]
        obtain ⟨j',e,a,b,g⟩:=Jch (N:=N) (k:=Zx (Zw N (Z11 N Zu s m) s out (j:Int)) (j:Int)) hl (s.length - j) j N (by omega) (by omega)
        have:=g (fun b hb=>by rw [hget b hb];exact hc) h1
        rw [e,Zx]
        split
        · exact ⟨[],2,j,rfl,Nat.zero_le _,fun x hx=>nomatch hx⟩
        · exact next j' _ this b rfl
      | false =>
        rw [if_neg (by decide)]
        obtain ⟨c,hd⟩:∃ c,Z15 N (s[j].toNat:Int)=some c:=⟨_,rfl⟩
        rw [hd]
        simp only [Option.bind_some]
        cases c with
        | true =>
          rw [if_pos rfl]
          obtain ⟨j',t',e,z,a,b,g⟩:=Jby (N:=N) (k:=Zz N (Zw N (Z11 N Zu s m) s out (j:Int)) (j:Int)) hl (s.length - j) j N (api_Token.mk 2 [] 0 (j:Int)) (by omega) (by omega)
          have:=g (fun b hb=>by rw [hget b hb];exact hd) h1
          rw [e,Zz]
          split
          · exact ⟨[],4,j,rfl,Nat.zero_le _,fun x hx=>nomatch hx⟩
          · exact next j' _ this b z
        | false =>
          rw [if_neg (by decide)]
          obtain ⟨r,e,a⟩:=Xf hl hN h1
          rw [e]
          simp only [Option.bind_some]
          rw [w64 (by omega) (by omega)]
          split
          · exact ⟨[],3,j,rfl,Nat.zero_le _,fun x hx=>nomatch hx⟩
          · rw [show (j : Int) + (r : Int) = ((j + r : Nat) : Int) by omega]
            exact next (j+r) _ (by omega) a rfl
    · rw [Z11, if_neg (by omega)]
      exact ⟨out,0,0,rfl,by omega,hx⟩
theorem Wr {N:Nat} {s:Str} (hl:s.length≤2000) (hN:2001 < N):∃ l e a,Zt N s=some (l,e,a)∧OkL l:=by
  unfold Zt
  rw [if_neg (by omega)]
  obtain ⟨r,e,a,b⟩:=Rq hl hN (Nat.zero_le s.length)
  rw [show (0:Int)=((0:Nat):Int) from rfl,e]
  simp only [Option.bind_some]
  exact Jbu hl hN s.length r N [] (by omega) b (by omega) (Nat.zero_le _) (fun x hx=>nomatch hx)
end Go.MD.LB
namespace Go.MD.LB.W
open Go Go.MD Go.MD.LB
theorem JbI {N:Nat} {s:Str}:∀ (d i m:Nat),i+d=21→d < m→∃ b,Zm N Zl s m (i:Int)=some b:=by
  intro d
  induction d with
  | zero =>
    intro i m hi hm
    obtain ⟨m,rfl⟩:∃ q,m=q+1:=⟨m - 1,by omega⟩
    rw [Zm,if_neg (by simp;omega)]
    exact ⟨_,rfl⟩
  | succ d ih =>
    intro i m hi hm
    obtain ⟨m,rfl⟩:∃ q,m=q+1:=⟨m - 1,by omega⟩
    rw [Zm,if_pos (by simp;omega),Ao rfl (by simp;omega)]
    simp only [Option.bind_some]
    split
    · exact ⟨_,rfl⟩
    · rw [Bc (n := 21) (by omega) (by decide)]
      exact ih (i+1) m (by omega) (by omega)
theorem Ja0 {N:Nat} {s:Str} (hl:s.length≤16):∀ (d i m:Nat),i+d=s.length→d < m→∃ b,Zr N Zp s m (i:Int)=some b:=by
  intro d
  induction d with
  | zero =>
    intro i m hi hm
    obtain ⟨m,rfl⟩:∃ q,m=q+1:=⟨m - 1,by omega⟩
    rw [Zr,if_neg (by omega)]
    exact ⟨_,rfl⟩
  | succ d ih =>
    intro i m hi hm
    obtain ⟨m,rfl⟩:∃ q,m=q+1:=⟨m - 1,by omega⟩
    have h1:i < s.length:=by omega
    have go:∀ b,∃ r,Zq (Zr N Zp s m) (i:Int) b=some r:=by
      intro b
      cases b with
      | true=>exact ⟨false,rfl⟩
      | false=>rw [Zq,if_neg (by decide),Bc h1 (by omega)];exact ih (i+1) m (by omega) (by omega)
    rw [Zr,if_pos (by omega),Ef h1]
    simp only [Option.bind_some]
    obtain ⟨c,hc⟩:∃ c,Z16 N (s[i].toNat:Int)=some c:=⟨_,rfl⟩
    rw [hc]
    simp only [Option.bind_some]
    split
    · exact go _
    · obtain ⟨c, hc⟩ : ∃ c, Z15 N (s[i].toNat : Int) = some c := ⟨_, rfl⟩
      rw [hc]
      exact go _
theorem Uw {N:Nat} (hN:30 < N) (s:Str):∃ b,Zn N s=some b:=by
  have one:∀ b,s.length≤16→∃ r,Zo N s b=some r:=by
    intro b hl
    cases b with
    | true=>exact ⟨false,rfl⟩
    | false=>exact Ja0 hl s.length 0 N (by omega) (by omega)
  unfold Zn
  split
  · exact ⟨false,rfl⟩
  · rename_i h
    simp only [Bool.or_eq_true,decide_eq_true_eq,not_or] at h
    have h0:0 < s.length:=by omega
    rw [show (0:Int)=((0:Nat):Int) from rfl,Ef h0]
    simp only [Option.bind_some]
    obtain ⟨c,hc⟩:∃ c,Z16 N (s[0].toNat:Int)=some c:=⟨_,rfl⟩
    rw [hc]
    simp only [Option.bind_some]
    split
    · obtain ⟨b, hb⟩ := JbI (N := N) (s := s) 21 0 N rfl (by omega)
      have hb':Zk N s=some b:=hb
      rw [hb']
      exact one _ (by omega)
    · exact one _ (by omega)
variable {l:List api_Token}
theorem Ic (hl:OkL l) {i:Nat} (hi:i < l.length):0≤l[i].At∧l[i].At≤2000:=by
  have:=hl.2 _ (List.getElem_mem hi)
  have h1:=this.low;have h2:=this.high
  omega
theorem isX (N:Nat) (i:Int) (s:Str):∃ b,Zj N l i s=some b∧(b=true→0≤i∧i < (l.length:Int)):=by
  unfold Zj
  by_cases h:0≤i∧i < (l.length:Int)
  · obtain ⟨j, rfl⟩ : ∃ j : Nat, i = (j : Int) := ⟨i.toNat, by omega⟩
    rw [if_pos (by simpa using h),Ao rfl (by omega)]
    exact ⟨_,rfl,fun _=>h⟩
  · rw [if_neg (by simpa using h)]
    exact ⟨false,rfl,fun q=>by cases q⟩
theorem Nz (hl:OkL l) (N:Nat) {i:Int} (hi:0≤i):∃ r,Zs N l i=some r∧0≤r∧r≤2000:=by
  unfold Zs
  by_cases h:0≤i∧i < (l.length:Int)
  · obtain ⟨j, rfl⟩ : ∃ j : Nat, i = (j : Int) := ⟨i.toNat, by omega⟩
    rw [if_pos (by simpa using h),Ao rfl (by omega)]
    exact ⟨_,rfl,Ic hl _⟩
  · rw [if_neg (by simpa using h)]
    split
    · exact ⟨0,rfl,by decide,by decide⟩
    · have h1 := hl.1
      have h0:l.length - 1 < l.length:=by omega
      rw [w64 (by omega) (by omega),Ao (j:=l.length - 1) (by omega) h0]
      have:=hl.2 _ (List.getElem_mem h0)
      have h1:=this.low;have h2:=this.high
      simp only [Option.bind_some]
      rw [w64 (by omega) (by omega)]
      exact ⟨_,rfl,by omega,by omega⟩
theorem Jcx (hl:OkL l) (N:Nat) {i e:Int} (hi:0≤i) (he:e≠0):∃ r,Z1y N l i e=some r∧r.E≠0:=by
  obtain ⟨r,h,_⟩:=Nz hl N hi
  unfold Z1y
  split
  · rw [Z1z,h];exact ⟨_,rfl,by show (6:Int)≠0;decide⟩
  · rw [Z1z,h];exact ⟨_,rfl,he⟩
def RR (l:List api_Token) (i:Nat) (r:leadlineref03_Read):Prop:=
  r.E≠0∨(r.E=0∧∃ (t:T) (to:Nat),t.wk∧r.L=t.flat∧r.To=(to:Int)∧i+t.size≤to∧to≤l.length∧∀ x∈r.L,0≤x.At∧x.At≤2000)
theorem fl4 {N:Nat} {k:Int→Option leadlineref03_Read} {fl:List Int} {n:Int} {at':Int} (hf:Z23 N n=some fl) (hm:∀ x∈fl,5≤x∧x≤15) (h4:fl.length≤4):∀ (d i m:Nat) (op:Int),i+d=fl.length→d < m→(op=0∨5≤op∧op≤15)→
    ∃ op':Int,Z1q N k l n at' m op (i:Int)=k op'∧(op'=0∨5≤op'∧op'≤15)∧(op'≠0→op≠0∨0≤at'∧at' < (l.length:Int)):=by
  intro d
  induction d with
  | zero =>
    intro i m op hi hm' ho
    obtain ⟨m,rfl⟩:∃ q,m=q+1:=⟨m - 1,by omega⟩
    rw [Z1q,hf]
    simp only [Option.bind_some]
    rw [if_neg (by omega)]
    exact ⟨op,rfl,ho,fun q=>.inl q⟩
  | succ d ih =>
    intro i m op hi hm' ho
    obtain ⟨m,rfl⟩:∃ q,m=q+1:=⟨m - 1,by omega⟩
    have h1:i < fl.length:=by omega
    have hx:=hm _ (List.getElem_mem h1)
    rw [Z1q,hf]
    simp only [Option.bind_some]
    rw [if_pos (by omega),Ao rfl h1]
    simp only [Option.bind_some]
    obtain ⟨sg,hs⟩:∃ s,Z28 N fl[i]=some s:=by
      unfold Z28
      obtain ⟨j,hj⟩:∃ j:Nat,fl[i]=(j:Int):=⟨fl[i].toNat,by omega⟩
      rw [hj,Ao rfl (by simp;omega)]
      exact ⟨_,rfl⟩
    obtain ⟨b,hb,hb2⟩:=isX (l:=l) N at' sg
    rw [hs]
    simp only [Option.bind_some]
    rw [hb]
    simp only [Option.bind_some]
    cases b with
    | true =>
      rw [if_pos rfl,Z1o,Bc h1 (by omega)]
      obtain ⟨o,e,a,c⟩:=ih (i+1) m fl[i] (by omega) (by omega) (.inr hx)
      exact ⟨o,e,a,fun _=>.inr (hb2 rfl)⟩
    | false =>
      rw [if_neg (by decide),Z1o,Bc h1 (by omega)]
      exact ih (i+1) m op (by omega) (by omega) ho
theorem Ue (N:Nat) {n:Nat} (hn:n < 5):∃ fl,Z23 N (n:Int)=some fl∧(∀ x∈fl,5≤x∧x≤15)∧fl.length≤4:=by
  rcases (show n=0∨n=1∨n=2∨n=3∨n=4 by omega) with rfl | rfl | rfl | rfl | rfl
  · exact ⟨[15],rfl,by decide,by decide⟩
  · exact ⟨[14],rfl,by decide,by decide⟩
  · exact ⟨[10,11,12,13],rfl,by decide,by decide⟩
  · exact ⟨[5,6],rfl,by decide,by decide⟩
  · exact ⟨[7,8,9],rfl,by decide,by decide⟩
theorem fl2 (hl:OkL l) {rf:List api_Token→Int→Int→Int→Option leadlineref03_Read} {N:Nat} (hN:2010 < N) {k n:Nat} (hn:n < 5) (hk:k≤12)
    (hrf:∀ i:Nat,∃ r,rf l (i:Int) (k:Int) ((n+1:Nat):Int)=some r∧RR l i r) (i0:Nat):∀ (d m:Nat) (r0:leadlineref03_Read),(∀ to:Nat,r0.E=0→r0.To=(to:Int)→l.length - to≤d)→d+1 < m→RR l i0 r0→
    ∃ r,Z1p rf N Z1m l (k:Int) (n:Int) m r0.L r0.To r0.E r0.At=some r∧RR l i0 r:=by
  intro d
  induction d with
  | zero =>
    intro m r0 hd hm hr
    obtain ⟨m,rfl⟩:∃ q,m=q+1:=⟨m - 1,by omega⟩
    rw [Z1p]
    rcases hr with he | ⟨he,t,to,hw,hL,hT,h1,h2,h3⟩
    · rw [if_neg he,Z1m];exact ⟨_,rfl,.inl he⟩
    · have := hd to he hT
      obtain ⟨fl,f1,f2,f3⟩:=Ue N hn
      rw [if_pos he,show (0:Int)=((0:Nat):Int) from rfl]
      obtain ⟨op,e,a,b⟩:=fl4 (l:=l) (k:=Z1n rf (Z1p rf N Z1m l (k:Int) (n:Int) m) l (k:Int) (n:Int) r0.L r0.To r0.E r0.At) (at':=r0.To) f1 f2 f3 fl.length 0 N ((0:Nat):Int) (by omega) (by omega) (.inl rfl)
      rw [e,Z1n]
      have:op=0:=by
        rcases Classical.em (op=0) with q | q
        · exact q
        · rcases b q with w | w
          · exact absurd rfl w
          · omega
      rw [if_pos this]
      exact ⟨_,rfl,.inr ⟨he,t,to,hw,hL,hT,h1,h2,h3⟩⟩
  | succ d ih =>
    intro m r0 hd hm hr
    obtain ⟨m,rfl⟩:∃ q,m=q+1:=⟨m - 1,by omega⟩
    rw [Z1p]
    rcases hr with he | ⟨he,t,to,hw,hL,hT,h1,h2,h3⟩
    · rw [if_neg he,Z1m];exact ⟨_,rfl,.inl he⟩
    · have hdt := hd to he hT
      obtain ⟨fl,f1,f2,f3⟩:=Ue N hn
      rw [if_pos he,show (0:Int)=((0:Nat):Int) from rfl]
      obtain ⟨op,e,a,b⟩:=fl4 (l:=l) (k:=Z1n rf (Z1p rf N Z1m l (k:Int) (n:Int) m) l (k:Int) (n:Int) r0.L r0.To r0.E r0.At) (at':=r0.To) f1 f2 f3 fl.length 0 N ((0:Nat):Int) (by omega) (by omega) (.inl rfl)
      rw [e,Z1n]
      by_cases h0:op=0
      · rw [if_pos h0]
        exact ⟨_,rfl,.inr ⟨he,t,to,hw,hL,hT,h1,h2,h3⟩⟩
      · rw [if_neg h0]
        have hop:5≤op∧op≤15:=a.resolve_left h0
        have hlt:to < l.length:=by
          rcases b h0 with w | w
          · exact absurd rfl w
          · omega
        have hl1:=hl.1
        rw [hT,Bc hlt (by omega),show IntKind.i64.wrap ((n:Int)+1)=((n+1:Nat):Int) by rw [w64 (by omega) (by omega)];omega]
        obtain ⟨r,e2,hr2⟩:=hrf (to+1)
        rw [e2]
        simp only [Option.bind_some]
        rcases hr2 with q | ⟨q,t2,to2,w2,L2,T2,g1,g2,g3⟩
        · rw [if_pos q];exact ⟨_,rfl,.inl q⟩
        · rw [if_neg (by simp [q]), Ao rfl hlt]
          simp only [Option.bind_some]
          have z1:=t.flat_len
          have z2:=t2.flat_len
          rw [hL,L2,Bq (by simp;omega) (by decide)]
          simp only [Option.bind_some]
          rw [Bq (by simp;omega) (by decide)]
          simp only [Option.bind_some]
          have hs2:=t2.size_pos
          have har:ar op=2:=by unfold ar;rw [if_neg (by omega),if_neg (by omega),if_pos (by omega)]
          have new:∀ (x a':Int),RR l i0 (leadlineref03_Read.mk ([(api_Node.mk op 0 [] l[to].At)] ++ t.flat ++ t2.flat) r.To 0 0):=fun _ _=>by
            refine .inr ⟨rfl,.bin (api_Node.mk op 0 [] l[to].At) t t2,to2,⟨har,hw,w2⟩,by simp [T.flat],T2,by simp only [T.size];omega,g2,fun y hy=>?_⟩
            simp only [List.mem_append,List.mem_singleton] at hy
            rcases hy with (rfl | hy) | hy
            · exact Ic hl hlt
            · exact h3 y (by rw [hL];exact hy)
            · exact g3 y (by rw [L2];exact hy)
          split
          · exact ⟨_,rfl,new 0 0⟩
          · exact ih m (leadlineref03_Read.mk ([(api_Node.mk op 0 [] l[to].At)] ++ t.flat ++ t2.flat) r.To 0 0) (fun to' _ hto'=>by
              have:r.To=(to':Int):=hto'
              omega) (by omega) (new 0 0)
theorem N4 (hl:OkL l) {i:Nat} (hi:i < l.length) {k:Int} (hk:k=1∨k=2) (n:Int) (s:Str):RR l i (leadlineref03_Read.mk ([(api_Node.mk k n s l[i].At)]:List api_Node) (IntKind.i64.wrap ((i:Int)+1)) 0 0):=by
  have hl1:=hl.1
  rw [Bc hi (by omega)]
  refine .inr ⟨rfl,.leaf (api_Node.mk k n s l[i].At),i+1,?_,rfl,rfl,by simp only [T.size];omega,by omega,fun y hy=>?_⟩
  · show ar k = 0
    unfold ar;rw [if_pos hk]
  · rw [List.mem_singleton] at hy
    subst hy;exact Ic hl hi
theorem Jb2 (hl:OkL l):∀ (f:Nat),
    (∀ (i k:Nat),k≤12→8 * (12 - k)+3000≤f→∃ r,Z24 f l (i:Int) (k:Int)=some r∧RR l i r)∧
    (∀ (i k n:Nat),k≤12→n≤5→8 * (12 - k)+(5 - n)+3001≤f→∃ r,Z1l f l (i:Int) (k:Int) (n:Int)=some r∧RR l i r):=by
  have hl1:=hl.1
  intro f
  induction f with
  | zero=>exact ⟨fun i k _ h=>by omega,fun i k n _ _ h=>by omega⟩
  | succ f ih =>
    obtain ⟨ihp,ihf⟩:=ih
    constructor
    · intro i k hk hf
      rw [Z24]
      have bad:∀ (j:Int) (e:Int),0≤j→e≠0→∃ r,((Z1y f l j e).bind fun r=>some r)=some r∧RR l i r:=by
        intro j e hj he
        obtain ⟨r,h1,h2⟩:=Jcx hl f hj he
        rw [h1];exact ⟨r,rfl,.inl h2⟩
      by_cases hi:(l.length:Int)≤(i:Int)
      · rw [if_pos hi];exact bad _ _ (by omega) (by decide)
      · rw [if_neg hi]
        have hil:i < l.length:=by omega
        have go:∀ un:Bool,∃ r,Z25 (Z24 f) (Z1l f) f l (i:Int) (k:Int) un=some r∧RR l i r:=by
          intro un
          rw [Z25]
          obtain ⟨op,ho,_⟩:=isX (l:=l) f (i:Int) [40]
          rw [ho]
          simp only [Option.bind_some]
          by_cases h12:((un || op) && (decide ((k:Int)=12)))=true
          · rw [if_pos h12];exact bad _ _ (by omega) (by decide)
          · rw [if_neg h12]
            simp only [Bool.and_eq_true,Bool.or_eq_true,decide_eq_true_eq,not_and] at h12
            cases un with
            | true =>
              have hk2:=h12 (.inl rfl)
              rw [if_pos rfl,Bc hil (by omega),show IntKind.i64.wrap ((k:Int)+1)=((k+1:Nat):Int) by rw [w64 (by omega) (by omega)];omega]
              obtain ⟨r,e,hr⟩:=ihp (i+1) (k+1) (by omega) (by omega)
              rw [e]
              simp only [Option.bind_some]
              rcases hr with q | ⟨q,t,to,hw,hL,hT,g1,g2,g3⟩
              · rw [if_pos q];exact ⟨_,rfl,.inl q⟩
              · rw [if_neg (by simp [q]), Ao rfl hil]
                simp only [Option.bind_some]
                have z1:=t.flat_len
                have fin:∀ c:Int,c=3∨c=4→∃ r',Z26 r l[i] c=some r'∧RR l i r':=by
                  intro c hc
                  rw [Z26,hL,Bq (by simp;omega) (by decide)]
                  refine ⟨_,rfl,.inr ⟨q,.un (api_Node.mk c 0 [] l[i].At) t,to,⟨?_,hw⟩,by simp [T.flat],hT,by simp only [T.size];omega,g2,fun y hy=>?_⟩⟩
                  · show ar c = 1
                    unfold ar;rw [if_neg (by omega),if_pos hc]
                  · simp only [List.mem_append, List.mem_singleton] at hy
                    rcases hy with rfl | hy
                    · exact Ic hl hil
                    · exact g3 y (by rw [hL];exact hy)
                split
                · exact fin 3 (.inl rfl)
                · exact fin 4 (.inr rfl)
            | false =>
              rw [if_neg (by decide)]
              cases op with
              | true =>
                have hk2:=h12 (.inr rfl)
                rw [if_pos rfl,Bc hil (by omega),show IntKind.i64.wrap ((k:Int)+1)=((k+1:Nat):Int) by rw [w64 (by omega) (by omega)];omega]
                obtain ⟨r,e,hr⟩:=ihf (i+1) (k+1) 0 (by omega) (by omega) (by omega)
                rw [show ((0:Nat):Int)=0 from rfl] at e
                rw [e]
                simp only [Option.bind_some]
                rcases hr with q | ⟨q,t,to,hw,hL,hT,g1,g2,g3⟩
                · rw [if_pos q];exact ⟨_,rfl,.inl q⟩
                · rw [if_neg (by simp [q])]
                  obtain ⟨b,hb,hb2⟩:=isX (l:=l) f r.To [41]
                  rw [hb]
                  simp only [Option.bind_some]
                  cases b with
                  | true =>
                    have:=hb2 rfl
                    rw [if_pos rfl,hT,Bc (n:=l.length) (by omega) (by omega)]
                    exact ⟨_,rfl,.inr ⟨q,t,to+1,hw,hL,rfl,by omega,by omega,g3⟩⟩
                  | false =>
                    rw [if_neg (by decide)]
                    exact bad _ _ (by omega) (by decide)
              | false =>
                rw [if_neg (by decide),Ao rfl hil]
                simp only [Option.bind_some]
                have j3:∀ b,∃ r,Z27 f l (i:Int) l[i] b=some r∧RR l i r:=by
                  intro b
                  rw [Z27]
                  cases b with
                  | true=>rw [if_pos rfl];exact ⟨_,rfl,N4 hl hil (.inr rfl) _ _⟩
                  | false=>rw [if_neg (by decide)];exact bad _ _ (by omega) (by decide)
                split
                · exact ⟨_,rfl,N4 hl hil (.inl rfl) _ _⟩
                · split
                  · obtain ⟨b, hb⟩ := Uw (N := f) (by omega) l[i].Text
                    rw [hb]
                    exact j3 b
                  · exact j3 false
        obtain ⟨b,hb,_⟩:=isX (l:=l) f (i:Int) [33]
        rw [hb]
        simp only [Option.bind_some]
        split
        · exact go true
        · obtain ⟨b, hb, _⟩ := isX (l := l) f (i : Int) [45]
          rw [hb]
          exact go b
    · intro i k n hk hn hf
      rw [Z1l]
      by_cases h5:n=5
      · rw [if_pos (by omega)]
        obtain ⟨r,e,hr⟩:=ihp i k hk (by omega)
        rw [e];exact ⟨r,rfl,hr⟩
      · rw [if_neg (by omega), show IntKind.i64.wrap ((n : Int) + 1) = ((n + 1 : Nat) : Int) by rw [w64 (by omega) (by omega)]; omega]
        obtain ⟨r,e,hr⟩:=ihf i k (n+1) hk (by omega) (by omega)
        rw [e]
        simp only [Option.bind_some]
        exact fl2 hl (by omega) (by omega) hk (fun j=>ihf j k (n+1) hk (by omega) (by omega)) i 2000 f r (fun to _ _=>by omega) (by omega) hr
theorem Mj (hl:OkL l) {N:Nat} (hN:9000≤N) (i:Nat):∃ (r:List api_Node) (to e a:Int),Z1s N l (i:Int)=some (r,to,e,a)∧r.length≤40∧(∀ x∈r,0≤x.At∧x.At≤2000)∧(e=0→(i:Int) < to∧to≤(l.length:Int)):=by
  have hl1:=hl.1
  unfold Z1s
  rw [if_neg (by omega)]
  obtain ⟨r,e,hr⟩:=(Jb2 hl N).2 i 0 0 (by omega) (by omega) (by omega)
  rw [show ((0:Nat):Int)=0 from rfl] at e
  rw [e]
  simp only [Option.bind_some]
  rcases hr with q | ⟨q,t,to,hw,hL,hT,g1,g2,g3⟩
  · rw [if_pos q]
    exact ⟨[],0,r.E,r.At,rfl,by simp,fun x hx=>(nomatch hx),fun h=>absurd h q⟩
  · have hs := t.size_pos
    have hil:i < l.length:=by omega
    have hd:=t.depth_le
    have z1:=t.flat_len
    rw [if_neg (by simp [q]),hL]
    have:=Hp (l:=t.flat) (by omega) t N [] [] (by simp) hw (by omega)
    rw [List.length_nil] at this
    rw [show (0:Int)=((0:Nat):Int) from rfl,this]
    simp only [Option.bind_some]
    split
    · rw [Ao rfl hil]
      exact ⟨[],0,7,_,rfl,by simp,fun x hx=>(nomatch hx),fun h=>(by cases h)⟩
    · split
      · rw [Ao rfl hil]
        exact ⟨[],0,2,_,rfl,by simp,fun x hx=>(nomatch hx),fun h=>(by cases h)⟩
      · exact ⟨t.flat,r.To,0,0,rfl,by omega,fun x hx=>g3 x (by rw [hL];exact hx),fun _=>by omega⟩
end Go.MD.LB.W
namespace Go.MD.LB.W
open Go Go.MD Go.MD.LB
variable {l:List api_Token} {N:Nat}
structure SX (x:api_Stmt):Prop where
  low:0≤x.At
  high:x.At≤2000
  e:x.E.length≤40
  f:x.F.length≤40
  ne:∀ y∈x.E,0≤y.At∧y.At≤2000
  nf:∀ y∈x.F,0≤y.At∧y.At≤2000
structure PP (l:List api_Token) (p:leadlineref04_P):Prop where
  toks:p.L=l
  low:0≤p.At
  high:p.At≤(l.length:Int)
  out:∀ x∈p.Out,SX x
  cnt:(p.Out.length:Int)≤p.At+(if p.E=0 then 0 else 1)
structure ST (p p':leadlineref04_P):Prop where
  ge:p.At≤p'.At
  out:p'.Out=p.Out
  err:p'.E=0→p.E=0
theorem ST.trans {a b c:leadlineref04_P} (h:ST a b) (g:ST b c):ST a c:=⟨Int.le_trans h.ge g.ge,g.out.trans h.out,fun e=>h.err (g.err e)⟩
theorem ST.refl (a:leadlineref04_P):ST a a:=⟨Int.le_refl _,rfl,fun e=>e⟩
structure RX (p p':leadlineref04_P):Prop where
  ge:p.At≤p'.At
  len:p.Out.length≤p'.Out.length
  err:p'.E=0→p.E=0
theorem RX.trans {a b c:leadlineref04_P} (h:RX a b) (g:RX b c):RX a c:=⟨Int.le_trans h.ge g.ge,Nat.le_trans h.len g.len,fun e=>h.err (g.err e)⟩
theorem RX.refl (a:leadlineref04_P):RX a a:=⟨Int.le_refl _,Nat.le_refl _,fun e=>e⟩
theorem ST.rx {a b:leadlineref04_P} (h:ST a b):RX a b:=⟨h.ge,by rw [h.out];exact Nat.le_refl _,h.err⟩
theorem PP.mv {p:leadlineref04_P} (hp:PP l p) {a e q:Int} (h1:p.At≤a) (h2:a≤(l.length:Int)) (h3:e=0→p.E=0):PP l (leadlineref04_P.mk p.L a e q p.Out):=by
  have h:=hp.cnt
  have h0:=hp.low
  refine ⟨hp.toks,by show 0≤a;omega,h2,hp.out,?_⟩
  show (p.Out.length:Int)≤a+(if e=0 then 0 else 1)
  by_cases q:e=0
  · rw [if_pos (h3 q)] at h;rw [if_pos q];omega
  · rw [if_neg q];split at h <;> omega
theorem Ev (p:leadlineref04_P):leadlineref04_P.mk p.L p.At p.E p.Pos p.Out=p:=rfl
theorem Tg (hl:OkL l) {p:leadlineref04_P} (hp:PP l p) {e:Int} (he:e≠0):∃ p',Z2a N p e=some p'∧PP l p'∧ST p p'∧p'.E≠0:=by
  unfold Z2a
  by_cases h:p.E=0
  · obtain ⟨r, hr, _⟩ := Nz hl N hp.low
    have fin:∀ c:Int,c≠0→∃ p',Z2b N p c=some p'∧PP l p'∧ST p p'∧p'.E≠0:=by
      intro c hc
      rw [Z2b,hp.toks,hr]
      refine ⟨_,rfl,?_,⟨Int.le_refl _,rfl,fun q=>absurd q hc⟩,hc⟩
      have:=hp.mv (a:=p.At) (e:=c) (q:=r) (Int.le_refl _) hp.high (fun q=>absurd q hc)
      rwa [hp.toks] at this
    rw [if_pos h]
    split
    · exact fin 6 (by decide)
    · exact fin e he
  · rw [if_neg h];exact ⟨p,rfl,hp,ST.refl p,h⟩
theorem Ro {p:leadlineref04_P} (hl:OkL l) (hp:PP l p) (h:p.At < (l.length:Int)):PP l (leadlineref04_P.mk p.L (IntKind.i64.wrap (p.At+1)) p.E p.Pos p.Out)∧ST p (leadlineref04_P.mk p.L (IntKind.i64.wrap (p.At+1)) p.E p.Pos p.Out)∧IntKind.i64.wrap (p.At+1)=p.At+1:=by
  have h0:=hp.low
  have h1:=hl.1
  have w:IntKind.i64.wrap (p.At+1)=p.At+1:=w64 (by omega) (by omega)
  rw [w]
  exact ⟨hp.mv (by omega) (by omega) (fun e=>e),⟨by show p.At≤p.At+1;omega,rfl,fun e=>e⟩,rfl⟩
theorem Jcl {p:leadlineref04_P} (hp:PP l p) (h:p.At < (l.length:Int)):∃ x,getI p.L p.At=some x:=by
  obtain ⟨j,hj⟩:∃ j:Nat,p.At=(j:Int):=⟨p.At.toNat,by have:=hp.low;omega⟩
  rw [hp.toks,hj,Ao rfl (by omega)]
  exact ⟨_,rfl⟩
theorem isP {p:leadlineref04_P} (hp:PP l p) (N:Nat) (s:Str):∃ b,Zj N p.L p.At s=some b∧(b=true→p.At < (l.length:Int)):=by
  obtain ⟨b,h1,h2⟩:=isX (l:=l) N p.At s
  exact ⟨b,by rw [hp.toks];exact h1,fun q=>(h2 q).2⟩
theorem H5 (hl:OkL l) {p:leadlineref04_P} (hp:PP l p) (s:Str):∃ p',Z2j N p s=some p'∧PP l p'∧ST p p'∧(p'.E=0→p.At < p'.At):=by
  have bad:∃ p',Z2k N p false=some p'∧PP l p'∧ST p p'∧(p'.E=0→p.At < p'.At):=by
    rw [Z2k,if_neg (by decide)]
    obtain ⟨p',e,a,b,c⟩:=Tg (N:=N) hl hp (e:=5) (by decide)
    rw [Ev,e]
    exact ⟨p',rfl,a,b,fun q=>absurd q c⟩
  unfold Z2j
  split
  · obtain ⟨b, hb, hb2⟩ := isX (l := l) N p.At s
    rw [hp.toks,hb]
    simp only [Option.bind_some]
    cases b with
    | false=>exact bad
    | true =>
      obtain ⟨a,b,w⟩:=Ro hl hp (hb2 rfl).2
      rw [Z2k,if_pos rfl]
      exact ⟨_,rfl,a,b,fun _=>by show p.At < IntKind.i64.wrap (p.At+1);rw [w];omega⟩
  · exact bad
theorem Tu (hl:OkL l) (hN:30 < N) {p:leadlineref04_P} (hp:PP l p):∃ s p',Z2l N p=some (s,p')∧PP l p'∧ST p p'∧(p'.E=0→p.At < p'.At):=by
  have bad:∃ s p',Z2m N p false=some (s,p')∧PP l p'∧ST p p'∧(p'.E=0→p.At < p'.At):=by
    rw [Z2m,if_neg (by decide)]
    obtain ⟨p',e,a,b,c⟩:=Tg (N:=N) hl hp (e:=5) (by decide)
    rw [Ev,e]
    exact ⟨[],p',rfl,a,b,fun q=>absurd q c⟩
  unfold Z2l
  split
  · by_cases h : p.At < (l.length : Int)
    · have h0 := hp.low
      have hl1:=hl.1
      obtain ⟨x,hx⟩:=Jcl hp h
      rw [if_pos (by rw [hp.toks];exact h),hx]
      simp only [Option.bind_some]
      split
      · obtain ⟨b, hb⟩ := Uw hN x.Text
        rw [hb]
        simp only [Option.bind_some]
        cases b with
        | false=>exact bad
        | true =>
          obtain ⟨a,b,w⟩:=Ro hl hp h
          rw [Z2m,if_pos rfl,w,w64 (by omega) (by omega),show p.At+1 - 1=p.At by omega,hx]
          rw [w] at a b
          exact ⟨_,_,rfl,a,b,fun _=>by show p.At < p.At+1;omega⟩
      · exact bad
    · rw [if_neg (by rw [hp.toks];exact h)];exact bad
  · exact bad
theorem Pm (hl:OkL l) (hN:9000≤N) {p:leadlineref04_P} (hp:PP l p):∃ s p',Z2i N p=some (s,p')∧PP l p'∧ST p p'∧s.length≤40∧(∀ y∈s,0≤y.At∧y.At≤2000):=by
  have nil:∀ y∈([]:List api_Node),0≤y.At∧y.At≤2000:=fun y hy=>nomatch hy
  unfold Z2i
  by_cases h:p.E≠0
  · rw [if_pos h];exact ⟨[],p,rfl,hp,ST.refl p,by simp,nil⟩
  · rw [if_neg h]
    have h':p.E=0:=by omega
    obtain ⟨j,hj⟩:∃ j:Nat,p.At=(j:Int):=⟨p.At.toNat,by have:=hp.low;omega⟩
    obtain ⟨r,to,e,a,he,r1,r2,r3⟩:=Mj hl hN j
    have he':Z1s N p.L p.At=some (r,to,e,a):=by rw [hp.toks,hj];exact he
    rw [he']
    simp only [Option.bind_some]
    by_cases q:e=0
    · obtain ⟨g1, g2⟩ := r3 q
      rw [if_neg (by simp [q])]
      exact ⟨_,_,rfl,hp.mv (by omega) g2 (fun e=>e),⟨by show p.At≤to;omega,rfl,fun e=>e⟩,r1,r2⟩
    · rw [if_pos q]
      exact ⟨_,_,rfl,hp.mv (Int.le_refl _) hp.high (fun w=>absurd w q),⟨Int.le_refl _,rfl,fun w=>absurd w q⟩,by simp,nil⟩
theorem Ja6 (hl:OkL l) {p:leadlineref04_P} (hp:PP l p):∃ s p',Z30 N p=some (s,p')∧PP l p'∧ST p p':=by
  have bad:∀ c:Int,c≠0→∃ s p',((Z2a N (leadlineref04_P.mk p.L p.At p.E p.Pos p.Out) c).bind fun r40=>some ((0:Int),r40))=some (s,p')∧PP l p'∧ST p p':=by
    intro c hc
    obtain ⟨p',e,a,b,c⟩:=Tg (N:=N) hl hp hc
    rw [Ev,e]
    exact ⟨0,p',rfl,a,b⟩
  unfold Z30
  split
  · rename_i h
    simp only [Bool.and_eq_true,decide_eq_true_eq] at h
    have h2:p.At < (l.length:Int):=by rw [← hp.toks];exact h.2
    obtain ⟨x,hx⟩:=Jcl hp h2
    rw [hx]
    simp only [Option.bind_some]
    rw [Z31]
    split
    · rw [hx]
      simp only [Option.bind_some]
      split
      · obtain ⟨a, b, _⟩ := Ro hl hp h2
        exact ⟨_,_,rfl,a,b⟩
      · exact bad 11 (by decide)
    · exact bad 5 (by decide)
  · rw [Z31, if_neg (by decide)]
    exact bad 5 (by decide)
def PL (l:List api_Token) (p:leadlineref04_P) (k a:Int) (o:Option (api_Stmt×leadlineref04_P)):Prop:=
  ∃ x p',o=some (x,p')∧SX x∧PP l p'∧ST p p'∧(k=1→p'.E=0→p.At < p'.At)
theorem Ek {p p':leadlineref04_P} {k a:Int} (ha:0≤a∧a≤2000) (hp:PP l p') (hs:ST p p') (hk:k=1→p'.E=0→p.At < p'.At) {r n:Str} {e f:List api_Node} {m:Int} (h1:e.length≤40) (h2:f.length≤40)
    (h3:∀ y∈e,0≤y.At∧y.At≤2000) (h4:∀ y∈f,0≤y.At∧y.At≤2000):PL l p k a (Z2x k a p'.L p'.At p'.E p'.Pos p'.Out r n e f m):=
  ⟨_,p',rfl,⟨ha.1,ha.2,h1,h2,h3,h4⟩,hp,hs,hk⟩
theorem Ha:([]:List api_Node).length≤40:=by decide
theorem Lp:∀ y∈([]:List api_Node),0≤y.At∧y.At≤2000:=fun y hy=>nomatch hy
theorem JaO (hl:OkL l) (hN:9000≤N) {p:leadlineref04_P} (hp:PP l p) (k:Int) {a:Int} (ha:0≤a∧a≤2000):PL l p k a (Z2w N p k a):=by
  unfold Z2w
  obtain ⟨s1,q1,e1,a1,b1,c1⟩:=Tu hl (by omega:30 < N) hp
  have hn1:∀ {q:leadlineref04_P},ST q1 q→(k=1→q.E=0→p.At < q.At):=fun {q} h _ e=>by
    have:=c1 (h.err e);have:=h.ge;omega
  by_cases h1:k=1
  · rw [if_pos h1, e1]
    simp only [Option.bind_some]
    obtain ⟨q2,e2,a2,b2,_⟩:=H5 (N:=N) hl a1 [61]
    rw [e2]
    simp only [Option.bind_some]
    obtain ⟨s3,q3,e3,a3,b3,c3,d3⟩:=Pm hl hN a2
    rw [e3]
    exact Ek ha a3 (b1.trans (b2.trans b3)) (hn1 (b2.trans b3)) c3 Ha d3 Lp
  · rw [if_neg h1]
    have no1:∀ {q:leadlineref04_P},k=1→q.E=0→p.At < q.At:=fun w=>absurd w h1
    by_cases h2:k=2
    · rw [if_pos h2, e1]
      simp only [Option.bind_some]
      obtain ⟨q2,e2,a2,b2,_⟩:=H5 (N:=N) hl a1 [61]
      rw [e2]
      simp only [Option.bind_some]
      obtain ⟨s3,q3,e3,a3,b3,_⟩:=Tu hl (by omega:30 < N) a2
      rw [e3]
      exact Ek ha a3 (b1.trans (b2.trans b3)) no1 Ha Ha Lp Lp
    · rw [if_neg h2]
      by_cases h3:k=3
      · rw [if_pos h3, e1]
        simp only [Option.bind_some]
        obtain ⟨q2,e2,a2,b2,_⟩:=H5 (N:=N) hl a1 [61]
        rw [e2]
        simp only [Option.bind_some]
        obtain ⟨s3,q3,e3,a3,b3,c3,d3⟩:=Pm hl hN a2
        rw [e3]
        exact Ek ha a3 (b1.trans (b2.trans b3)) no1 c3 Ha d3 Lp
      · rw [if_neg h3]
        by_cases h4:k=4
        · rw [if_pos h4, e1]
          simp only [Option.bind_some]
          obtain ⟨q2,e2,a2,b2,_⟩:=H5 (N:=N) hl a1 [61]
          rw [e2]
          simp only [Option.bind_some]
          obtain ⟨s3,q3,e3,a3,b3,_⟩:=Tu hl (by omega:30 < N) a2
          rw [e3]
          simp only [Option.bind_some]
          obtain ⟨q4,e4,a4,b4,_⟩:=H5 (N:=N) hl a3 [44]
          rw [e4]
          simp only [Option.bind_some]
          obtain ⟨s5,q5,e5,a5,b5,c5,d5⟩:=Pm hl hN a4
          rw [e5]
          simp only [Option.bind_some]
          obtain ⟨q6,e6,a6,b6,_⟩:=H5 (N:=N) hl a5 [44]
          rw [e6]
          simp only [Option.bind_some]
          obtain ⟨s7,q7,e7,a7,b7,c7,d7⟩:=Pm hl hN a6
          rw [e7]
          exact Ek ha a7 (b1.trans (b2.trans (b3.trans (b4.trans (b5.trans (b6.trans b7)))))) no1 c5 c7 d5 d7
        · rw [if_neg h4]
          have j3:∀ b,PL l p k a (Z2z N (Z2x k a) p k b):=by
            intro b
            rw [Z2z]
            split
            · obtain ⟨s3, q3, e3, a3, b3, c3, d3⟩ := Pm hl hN hp
              rw [Ev,e3]
              exact Ek ha a3 b3 no1 c3 Ha d3 Lp
            · split
              · obtain ⟨s3, q3, e3, a3, b3⟩ := Ja6 (N := N) hl hp
                rw [Ev,e3]
                exact Ek ha a3 b3 no1 Ha Ha Lp Lp
              · exact Ek ha hp (ST.refl p) no1 Ha Ha Lp Lp
          have j2:∀ b,PL l p k a (Z2y N (Z2x k a) p k b):=by
            intro b
            rw [Z2y]
            split
            · rw [Ev, e1]
              exact Ek ha a1 b1 no1 Ha Ha Lp Lp
            · split
              · exact j3 _
              · exact j3 _
          split
          · exact j2 _
          · split
            · exact j2 _
            · split
              · exact j2 _
              · exact j2 _
theorem Qx (hl:OkL l) {k:Int→Option leadlineref04_P} {p:leadlineref04_P} (hp:PP l p):∀ (d i m:Nat) (v:Int),i+d=15→d < m→(v=1∨p.At < (l.length:Int))→
    ∃ v',Z2v N k p m v (i:Int)=k v'∧(v'=1∨p.At < (l.length:Int)):=by
  intro d
  induction d with
  | zero =>
    intro i m v hi hm hv
    obtain ⟨m,rfl⟩:∃ q,m=q+1:=⟨m - 1,by omega⟩
    rw [Z2v,if_neg (by omega)]
    exact ⟨v,rfl,hv⟩
  | succ d ih =>
    intro i m v hi hm hv
    obtain ⟨m,rfl⟩:∃ q,m=q+1:=⟨m - 1,by omega⟩
    obtain ⟨s,hs⟩:∃ s,Z39 N (i:Int)=some s:=by
      unfold Z39
      rw [Ao rfl (by simp;omega)]
      exact ⟨_,rfl⟩
    obtain ⟨b,hb,hb2⟩:=isX (l:=l) N p.At s
    rw [Z2v,if_pos (by omega),hs]
    simp only [Option.bind_some]
    rw [hp.toks,hb]
    simp only [Option.bind_some,Z2p]
    rw [Bc (n:=15) (by omega) (by decide)]
    split
    · rename_i q;exact ih (i+1) m _ (by omega) (by omega) (.inr (hb2 q).2)
    · exact ih (i+1) m _ (by omega) (by omega) hv
def ONE (l:List api_Token) (p:leadlineref04_P) (o:Option leadlineref04_P):Prop:=∃ p',o=some p'∧PP l p'∧RX p p'∧(p'.E=0→p.At < p'.At)
def BLK (l:List api_Token) (p:leadlineref04_P) (o:Option (Int×leadlineref04_P)):Prop:=∃ n p',o=some (n,p')∧PP l p'∧RX p p'
theorem Ja1 (hl:OkL l) {rg:leadlineref04_P→Int→Int→Option leadlineref04_P} {k:List api_Token→Int→Int→Int→List api_Stmt→Option (Int×leadlineref04_P)} {dp lp:Int} (hrg:∀ p,PP l p→p.E=0→ONE l p (rg p dp lp)) (p0:leadlineref04_P) :
    ∀ (d m:Nat) (p:leadlineref04_P),PP l p→RX p0 p→(l.length:Int) - p.At≤(d:Int)→d+1 < m→∃ p',Z2h rg N k dp lp m p.L p.At p.E p.Pos p.Out=k p'.L p'.At p'.E p'.Pos p'.Out∧PP l p'∧RX p0 p':=by
  intro d
  induction d with
  | zero =>
    intro m p hp h0 hd hm
    obtain ⟨m,rfl⟩:∃ q,m=q+2:=⟨m - 2,by omega⟩
    rw [Z2h]
    by_cases he:p.E=0
    · obtain ⟨b, hb, _⟩ := isP hp N [125]
      rw [if_pos he,hb]
      simp only [Option.bind_some,Z2g]
      cases b with
      | true=>rw [if_neg (by decide)];exact ⟨p,rfl,hp,h0⟩
      | false =>
        rw [if_pos (by decide),Ev]
        obtain ⟨p',e,a,b,c⟩:=hrg p hp he
        rw [e]
        simp only [Option.bind_some]
        have hne:p'.E≠0:=fun q=>by have:=c q;have:=a.high;omega
        rw [Z2h,if_neg hne,Z2g,if_neg (by decide)]
        exact ⟨p',rfl,a,h0.trans b⟩
    · rw [if_neg he, Z2g, if_neg (by decide)]
      exact ⟨p,rfl,hp,h0⟩
  | succ d ih =>
    intro m p hp h0 hd hm
    obtain ⟨m,rfl⟩:∃ q,m=q+2:=⟨m - 2,by omega⟩
    rw [Z2h]
    by_cases he:p.E=0
    · obtain ⟨b, hb, _⟩ := isP hp N [125]
      rw [if_pos he,hb]
      simp only [Option.bind_some,Z2g]
      cases b with
      | true=>rw [if_neg (by decide)];exact ⟨p,rfl,hp,h0⟩
      | false =>
        rw [if_pos (by decide),Ev]
        obtain ⟨p',e,a,b,c⟩:=hrg p hp he
        rw [e]
        simp only [Option.bind_some]
        by_cases hne:p'.E=0
        · have := c hne
          exact ih (m+1) p' a (h0.trans b) (by omega) (by omega)
        · rw [Z2h, if_neg hne, Z2g, if_neg (by decide)]
          exact ⟨p',rfl,a,h0.trans b⟩
    · rw [if_neg he, Z2g, if_neg (by decide)]
      exact ⟨p,rfl,hp,h0⟩
theorem Ja4 (hl:OkL l):∀ (f:Nat),
    (∀ (p:leadlineref04_P) (dp:Nat) (lp:Int),dp≤13→PP l p→4 * (13 - dp)+9100≤f→BLK l p (Z2c f p (dp:Int) lp))∧
    (∀ (p:leadlineref04_P) (dp:Nat) (lp:Int),dp≤12→PP l p→p.E=0→4 * (13 - dp)+9098≤f→ONE l p (Z2n f p (dp:Int) lp)):=by
  have hl1:=hl.1
  intro f
  induction f with
  | zero=>exact ⟨fun p dp lp _ _ h=>by omega,fun p dp lp _ _ _ h=>by omega⟩
  | succ f ih =>
    obtain ⟨ihb,iho⟩:=ih
    constructor
    · intro p dp lp hd hp hf
      have j2:∀ q:leadlineref04_P,PP l q→RX p q→(dp≤12∨q.E≠0∨∀ r,(Zj f q.L q.At [123]=some r→r=false))→BLK l p (Z2e (Z2n f) f p (dp:Int) lp q.L q.At q.E q.Pos q.Out):=by
        intro q hq h0 hor
        rw [Z2e,Ev]
        obtain ⟨q2,e2,a2,b2,_⟩:=H5 (N:=f) hl hq [123]
        rw [e2]
        simp only [Option.bind_some]
        have fin:∃ p',Z2h (Z2n f) f (Z2f f p) (dp:Int) lp f q2.L q2.At q2.E q2.Pos q2.Out=Z2f f p p'.L p'.At p'.E p'.Pos p'.Out∧PP l p'∧RX p p':=by
          by_cases hE:q2.E=0
          · have hd12:dp≤12:=by
              rcases hor with h | h | h
              · exact h
              · exact absurd (b2.err hE) h
              · exfalso
                obtain ⟨b,hb,_⟩:=isX (l:=l) f q.At [123]
                have hb':Zj f q.L q.At [123]=some b:=by rw [hq.toks];exact hb
                have hbf:=h b hb'
                subst hbf
                have hqE:=b2.err hE
                unfold Z2j at e2
                rw [if_pos hqE,hb'] at e2
                simp only [Option.bind_some] at e2
                rw [Z2k,if_neg (by decide),Ev] at e2
                obtain ⟨p',e,_,_,c⟩:=Tg (N:=f) hl hq (e:=5) (by decide)
                rw [e] at e2
                injection e2 with e2
                subst e2
                exact c hE
            exact Ja1 hl (fun p1 h1 h2=>iho p1 dp lp hd12 h1 h2 (by omega)) p l.length f q2 a2 (h0.trans b2.rx) (by have:=a2.low;omega) (by omega)
          · obtain ⟨f', rfl⟩ : ∃ z, f = z + 1 := ⟨f - 1, by omega⟩
            rw [Z2h,if_neg hE,Z2g,if_neg (by decide)]
            exact ⟨q2,rfl,a2,h0.trans b2.rx⟩
        obtain ⟨p',e3,a3,b3⟩:=fin
        rw [e3,Z2f,Ev]
        obtain ⟨q4,e4,a4,b4,_⟩:=H5 (N:=f) hl a3 [125]
        rw [e4]
        exact ⟨_,q4,rfl,a4,b3.trans b4.rx⟩
      have j1:∀ b:Bool,(b=false→dp≤12∨∀ r,(Zj f p.L p.At [123]=some r→r=false))→BLK l p (Z2d (Z2n f) f p (dp:Int) lp b):=by
        intro b hb
        rw [Z2d]
        cases b with
        | true =>
          rw [if_pos rfl,Ev]
          obtain ⟨q,e,a,b,c⟩:=Tg (N:=f) hl hp (e:=7) (by decide)
          rw [e]
          exact j2 q a b.rx (.inr (.inl c))
        | false =>
          rw [if_neg (by decide)]
          refine j2 p hp (RX.refl p) ?_
          rcases hb rfl with h | h
          · exact .inl h
          · exact .inr (.inr h)
      rw [Z2c]
      split
      · obtain ⟨b, hb, _⟩ := isX (l := l) f p.At [123]
        have hb':Zj f p.L p.At [123]=some b:=by rw [hp.toks];exact hb
        rw [hb']
        simp only [Option.bind_some]
        refine j1 b fun q=>.inr fun r hr=>?_
        rw [hb'] at hr
        injection hr with hr
        rw [← hr,q]
      · exact j1 false fun _=>.inl (by omega)
    · intro p dp lp hd hp hE hf
      have h0:=hp.low
      obtain ⟨a,ha,ha1,ha2⟩:=Nz hl f hp.low
      rw [Z2n,hp.toks,ha]
      simp only [Option.bind_some]
      obtain ⟨v,ev,hv⟩:=Qx (N:=f) hl (k:=Z2o (Z2c f) f p (dp:Int) lp a) hp 13 2 f 1 (by omega) (by omega) (.inl rfl)
      rw [show ((2:Nat):Int)=2 from rfl] at ev
      rw [ev,Z2o]
      split
      · obtain ⟨q, e, a, b, c⟩ := Tg (N := f) hl hp (e := 5) (by decide)
        rw [Ev,e]
        exact ⟨q,rfl,a,b.rx,fun z=>absurd z c⟩
      · -- the statement itself
        have j4:∀ (q:leadlineref04_P),PP l q→ST p q→(v≠1→p.At < q.At)→ONE l p (Z2q (Z2c f) f p (dp:Int) lp a v q.At)→True:=fun _ _ _ _ _=>trivial
        have main:∀ (b:Int),p.At≤b→b≤(l.length:Int)→(v≠1→p.At < b)→ONE l p (Z2q (Z2c f) f p (dp:Int) lp a v b):=by
          intro b hb1 hb2 hb3
          have hq:PP l (leadlineref04_P.mk p.L b p.E p.Pos p.Out):=hp.mv hb1 hb2 (fun e=>e)
          obtain ⟨x,p1,e1,hx,hp1,hs1,hk1⟩:=JaO hl (by omega:9000≤f) hq v (a:=a) ⟨ha1,ha2⟩
          rw [Z2q,e1]
          simp only [Option.bind_some]
          have hout:p1.Out=p.Out:=hs1.out
          have hge:b≤p1.At:=hs1.ge
          have hstrict:p1.E=0→p.At < p1.At:=fun z=>by
            by_cases w:v=1
            · have : b < p1.At := hk1 w z
              omega
            · have:=hb3 w;omega
          have hcnt:=hp.cnt
          rw [if_pos hE] at hcnt
          have hhigh:=hp.high
          rw [Bq (by rw [hout];simp;omega) (by decide)]
          simp only [Option.bind_some]
          have hp2:PP l (leadlineref04_P.mk p1.L p1.At p1.E p1.Pos (p1.Out ++ [x])):=by
            refine ⟨hp1.toks,hp1.low,hp1.high,fun y hy=>?_,?_⟩
            · rcases List.mem_append.1 hy with h | h
              · exact hp1.out y h
              · rw [List.mem_singleton] at h;subst h;exact hx
            · show ((p1.Out ++ [x]).length : Int) ≤ p1.At + (if p1.E = 0 then 0 else 1)
              rw [hout]
              simp only [List.length_append,List.length_singleton]
              by_cases z:p1.E=0
              · rw [if_pos z];have:=hstrict z;omega
              · rw [if_neg z];omega
          have hr2:RX p (leadlineref04_P.mk p1.L p1.At p1.E p1.Pos (p1.Out ++ [x])):=⟨by show p.At≤p1.At;omega,by show p.Out.length≤(p1.Out ++ [x]).length;rw [hout];simp,fun z=>hE⟩
          rw [Z2r]
          split
          · obtain ⟨q, e, a, b, _⟩ := H5 (N := f) hl hp2 [59]
            rw [e]
            refine ⟨q,rfl,a,hr2.trans b.rx,fun z=>?_⟩
            have:p1.At≤q.At:=b.ge
            have:=hstrict (b.err z)
            omega
          · have j8:∀ (q:leadlineref04_P) (n:Int) (q':leadlineref04_P) (c:Int),PP l q→RX (leadlineref04_P.mk p1.L p1.At p1.E p1.Pos (p1.Out ++ [x])) q→ONE l p (Z2u f (x,p1) (n,q') q.L q.At q.E q.Pos q.Out c):=by
              intro q n q' c hq hr
              have hlen:p1.Out.length < q.Out.length:=by
                have h:(p1.Out ++ [x]).length≤q.Out.length:=hr.len
                rw [List.length_append,List.length_singleton] at h;omega
              rw [Z2u,Ao rfl hlen]
              simp only [Option.bind_some]
              unfold Te
              rw [if_pos ⟨by omega,by simpa using hlen⟩]
              simp only [Option.bind_some]
              have hge:p1.At≤q.At:=hr.ge
              refine ⟨_,rfl,⟨hq.toks,hq.low,hq.high,fun y hy=>?_,?_⟩,⟨?_,?_,fun _=>hE⟩,fun z=>?_⟩
              · rcases List.mem_or_eq_of_mem_set hy with h | h
                · exact hq.out y h
                · subst h;exact ⟨hx.low,hx.high,hx.e,hx.f,hx.ne,hx.nf⟩
              · have := hq.cnt
                show ((q.Out.set _ _).length:Int)≤_
                rw [List.length_set];exact this
              · show p.At≤q.At;omega
              · show p.Out.length ≤ (q.Out.set _ _).length
                rw [List.length_set,← hout];omega
              · show p.At < q.At
                have:=hstrict (hr.err z);omega
            have j7:∀ (q:leadlineref04_P) (n lp':Int) (b:Bool),PP l q→RX (leadlineref04_P.mk p1.L p1.At p1.E p1.Pos (p1.Out ++ [x])) q→(b=true→q.At < (l.length:Int))→ONE l p (Z2t (Z2c f) f (dp:Int) (x,p1) lp' (n,q) b):=by
              intro q n lp' b hq hr hb
              rw [Z2t]
              split
              · rename_i z
                obtain ⟨a,b,w⟩:=Ro hl hq (hb z)
                rw [show IntKind.i64.wrap ((dp:Int)+1)=((dp+1:Nat):Int) by rw [w64 (by omega) (by omega)];omega]
                obtain ⟨n2,q2,e2,a2,b2⟩:=ihb _ (dp+1) lp' (by omega) a (by omega)
                rw [e2]
                exact j8 q2 n q n2 a2 (hr.trans (b.rx.trans b2))
              · exact j8 q n q _ hq hr
            have j6:∀ lp':Int,ONE l p (Z2s (Z2c f) f (dp:Int) v (x,p1) (p1.Out ++ [x]) lp'):=by
              intro lp'
              rw [Z2s,show IntKind.i64.wrap ((dp:Int)+1)=((dp+1:Nat):Int) by rw [w64 (by omega) (by omega)];omega]
              obtain ⟨n2,q2,e2,a2,b2⟩:=ihb _ (dp+1) lp' (by omega) hp2 (by omega)
              rw [e2]
              simp only [Option.bind_some]
              split
              · split
                · obtain ⟨b, hb, hb2⟩ := isX (l := l) f q2.At [101, 108, 115, 101]
                  rw [a2.toks,hb]
                  exact j7 q2 n2 lp' b a2 b2 fun z=>(hb2 z).2
                · exact j7 q2 n2 lp' false a2 b2 fun z=>by cases z
              · exact j7 q2 n2 lp' false a2 b2 fun z=>by cases z
            split
            · exact j6 _
            · exact j6 _
        split
        · rename_i hv1
          have hlt:p.At < (l.length:Int):=hv.resolve_left hv1
          rw [w64 (by omega) (by omega)]
          exact main _ (by omega) (by omega) (fun _=>by omega)
        · rename_i hv1
          exact main _ (Int.le_refl _) hp.high (fun z=>absurd z hv1)
theorem Xt (hl:OkL l) (hN:9200≤N) {k:List api_Token→Int→Int→Int→List api_Stmt→Option ((List api_Stmt)×Int×Int×Int)} (p0:leadlineref04_P) :
    ∀ (d m:Nat) (p:leadlineref04_P),PP l p→RX p0 p→(l.length:Int) - p.At≤(d:Int)→d+1 < m→∃ p',Z35 N k m p.L p.At p.E p.Pos p.Out=k p'.L p'.At p'.E p'.Pos p'.Out∧PP l p'∧RX p0 p':=by
  have hrg:∀ p,PP l p→p.E=0→ONE l p (Z2n N p 0 0):=fun p h1 h2=>(Ja4 hl N).2 p 0 0 (by omega) h1 h2 (by omega)
  intro d
  induction d with
  | zero =>
    intro m p hp h0 hd hm
    obtain ⟨m,rfl⟩:∃ q,m=q+2:=⟨m - 2,by omega⟩
    rw [Z35]
    by_cases he:p.E=0
    · obtain ⟨b, hb, _⟩ := isP hp N [125]
      rw [if_pos he,hb]
      simp only [Option.bind_some,Z34]
      cases b with
      | true=>rw [if_neg (by decide)];exact ⟨p,rfl,hp,h0⟩
      | false =>
        rw [if_pos (by decide),Ev]
        obtain ⟨p',e,a,b,c⟩:=hrg p hp he
        rw [e]
        simp only [Option.bind_some]
        have hne:p'.E≠0:=fun q=>by have:=c q;have:=a.high;omega
        rw [Z35,if_neg hne,Z34,if_neg (by decide)]
        exact ⟨p',rfl,a,h0.trans b⟩
    · rw [if_neg he, Z34, if_neg (by decide)]
      exact ⟨p,rfl,hp,h0⟩
  | succ d ih =>
    intro m p hp h0 hd hm
    obtain ⟨m,rfl⟩:∃ q,m=q+2:=⟨m - 2,by omega⟩
    rw [Z35]
    by_cases he:p.E=0
    · obtain ⟨b, hb, _⟩ := isP hp N [125]
      rw [if_pos he,hb]
      simp only [Option.bind_some,Z34]
      cases b with
      | true=>rw [if_neg (by decide)];exact ⟨p,rfl,hp,h0⟩
      | false =>
        rw [if_pos (by decide),Ev]
        obtain ⟨p',e,a,b,c⟩:=hrg p hp he
        rw [e]
        simp only [Option.bind_some]
        by_cases hne:p'.E=0
        · have := c hne
          exact ih (m+1) p' a (h0.trans b) (by omega) (by omega)
        · rw [Z35, if_neg hne, Z34, if_neg (by decide)]
          exact ⟨p',rfl,a,h0.trans b⟩
    · rw [if_neg he, Z34, if_neg (by decide)]
      exact ⟨p,rfl,hp,h0⟩
theorem Wz (hl:OkL l) (hN:9200≤N) {i o:Int} (hi:0≤i) (hi2:i≤(l.length:Int)) (ho:0≤o) (ho2:o < (l.length:Int)) :
    ∃ (r:List api_Stmt) (to e a:Int),Z32 N l i o=some (r,to,e,a)∧r.length≤40∧(∀ x∈r,SX x)∧(e=0→i≤to∧to≤(l.length:Int))∧0≤to∧to≤(l.length:Int):=by
  have nil:∀ x∈([]:List api_Stmt),SX x:=fun x hx=>nomatch hx
  have hl1:=hl.1
  have hp:PP l (leadlineref04_P.mk l i 0 0 []):=⟨rfl,hi,hi2,nil,by show (0:Int)≤i+(if (0:Int)=0 then 0 else 1);rw [if_pos rfl];omega⟩
  unfold Z32
  obtain ⟨p',e,a,b⟩:=Xt hl hN (k:=Z33 N l o) (leadlineref04_P.mk l i 0 0 []) l.length N _ hp (RX.refl _) (by show (l.length:Int) - i≤_;omega) (by omega)
  have e':Z35 N (Z33 N l o) N l i 0 0 []=Z33 N l o p'.L p'.At p'.E p'.Pos p'.Out:=e
  rw [e',Z33,Ev]
  obtain ⟨q,e2,a2,b2,_⟩:=H5 (N:=N) hl a [125]
  rw [e2]
  simp only [Option.bind_some]
  by_cases hE:q.E=0
  · rw [if_neg (by simp [hE])]
    split
    · obtain ⟨j, rfl⟩ : ∃ j : Nat, o = (j : Int) := ⟨o.toNat, by omega⟩
      rw [Ao rfl (by omega)]
      exact ⟨[],0,2,_,rfl,by simp,nil,fun z=>(by cases z),by omega,by omega⟩
    · have h1 : i ≤ p'.At := b.ge
      have h2:=b2.ge
      exact ⟨q.Out,q.At,0,0,rfl,by omega,a2.out,fun _=>⟨by omega,a2.high⟩,a2.low,a2.high⟩
  · rw [if_pos hE]
    exact ⟨[],0,q.E,q.Pos,rfl,by simp,nil,fun z=>absurd z hE,by omega,by omega⟩
end Go.MD.LB.W
namespace Go.MD.LB.W
open Go Go.MD Go.MD.LB
variable {l:List api_Token} {N:Nat}
def PA (a:Int):Prop:=0≤a∧a≤2000
structure II (l:List api_Token) (p:leadlineref05_In):Prop where
  toks:p.L=l
  low:0≤p.At
  high:p.At≤(l.length:Int)
structure RI (p p':leadlineref05_In):Prop where
  ge:p.At≤p'.At
  err:p'.E=0→p.E=0
theorem RI.trans {a b c:leadlineref05_In} (h:RI a b) (g:RI b c):RI a c:=⟨Int.le_trans h.ge g.ge,fun e=>h.err (g.err e)⟩
theorem RI.refl (a:leadlineref05_In):RI a a:=⟨Int.le_refl _,fun e=>e⟩
theorem Dn (p:leadlineref05_In):leadlineref05_In.mk p.L p.At p.E p.Pos=p:=rfl
theorem isI (hl:OkL l) {p:leadlineref05_In} (hp:II l p) (s:Str):∃ b p',Z3o N p s=some (b,p')∧II l p'∧RI p p'∧(b=false→p'=p)∧(b=true→p.E=0∧p'.E=0∧p'.At=p.At+1∧p.At < (l.length:Int)):=by
  have h0:=hp.low
  have h1:=hl.1
  have h2:=hp.high
  have no:∃ b p',Z3p p false=some (b,p')∧II l p'∧RI p p'∧(b=false→p'=p)∧(b=true→p.E=0∧p'.E=0∧p'.At=p.At+1∧p.At < (l.length:Int)):=
    ⟨false,p,rfl,hp,RI.refl p,fun _=>rfl,fun h=>by cases h⟩
  unfold Z3o
  split
  · rename_i hE
    obtain ⟨b,hb,hb2⟩:=isX (l:=l) N p.At s
    rw [hp.toks,hb]
    simp only [Option.bind_some]
    cases b with
    | false=>exact no
    | true =>
      have:=hb2 rfl
      rw [Z3p,if_pos rfl,w64 (by omega) (by omega)]
      exact ⟨true,_,rfl,⟨hp.toks,by show 0≤p.At+1;omega,by show p.At+1≤_;omega⟩,⟨by show p.At≤p.At+1;omega,fun e=>e⟩,(fun h=>by cases h),fun _=>⟨hE,hE,rfl,this.2⟩⟩
  · exact no
theorem Xo (hl:OkL l) {p:leadlineref05_In} (hp:II l p):∃ p',Z3l N p=some p'∧II l p'∧RI p p'∧p'.E≠0∧p'.At=p.At:=by
  unfold Z3l
  by_cases h:p.E=0
  · obtain ⟨r, hr, _⟩ := Nz hl N hp.low
    have fin:∀ c:Int,c≠0→∃ p',Z3m N p c=some p'∧II l p'∧RI p p'∧p'.E≠0∧p'.At=p.At:=by
      intro c hc
      rw [Z3m,hp.toks,hr]
      exact ⟨_,rfl,⟨rfl,hp.low,hp.high⟩,⟨Int.le_refl _,fun q=>absurd q hc⟩,hc,rfl⟩
    rw [if_pos h]
    split
    · exact fin 6 (by decide)
    · exact fin 5 (by decide)
  · rw [if_neg h];exact ⟨p,rfl,hp,RI.refl p,h,rfl⟩
theorem Ub (hl:OkL l) {p:leadlineref05_In} (hp:II l p) (s:Str):∃ p',Z3q N p s=some p'∧II l p'∧RI p p'∧(p'.E=0→p.At < p'.At∧p.At < (l.length:Int)):=by
  unfold Z3q
  obtain ⟨b,q,e,a,r,f,t⟩:=isI (N:=N) hl hp s
  rw [e]
  simp only [Option.bind_some]
  cases b with
  | true=>rw [if_pos rfl];exact ⟨q,rfl,a,r,fun _=>by have:=t rfl;omega⟩
  | false =>
    obtain ⟨q2,e2,a2,r2,n2,_⟩:=Xo (N:=N) hl a
    rw [if_neg (by decide),e2]
    exact ⟨q2,rfl,a2,r.trans r2,fun z=>absurd z n2⟩
theorem Uk (hl:OkL l) (hN:30 < N) {p:leadlineref05_In} (hp:II l p):∃ c p',Z3r N p=some (c,p')∧II l p'∧RI p p'∧PA c.At∧(p'.E=0→p.At < p'.At):=by
  have h0:=hp.low
  have h1:=hl.1
  have h2:=hp.high
  have bad:∃ c p',Z3s N p false=some (c,p')∧II l p'∧RI p p'∧PA c.At∧(p'.E=0→p.At < p'.At):=by
    rw [Z3s,if_neg (by decide)]
    obtain ⟨q,e,a,r,n,_⟩:=Xo (N:=N) hl hp
    rw [e]
    exact ⟨_,q,rfl,a,r,⟨by decide,by decide⟩,fun z=>absurd z n⟩
  unfold Z3r
  split
  · rename_i hE
    by_cases h:p.At < (l.length:Int)
    · obtain ⟨j, hj⟩ : ∃ j : Nat, p.At = (j : Int) := ⟨p.At.toNat, by omega⟩
      have hx:getI p.L p.At=some (l[j]'(by omega)):=by rw [hp.toks,hj,Ao rfl (by omega)]
      rw [if_pos (by rw [hp.toks];exact h),hx]
      simp only [Option.bind_some]
      split
      · obtain ⟨b, hb⟩ := Uw hN (l[j]'(by omega)).Text
        rw [hb]
        simp only [Option.bind_some]
        cases b with
        | false=>exact bad
        | true =>
          rw [Z3s,if_pos rfl,w64 (n:=p.At+1) (by omega) (by omega),w64 (by omega) (by omega),show p.At+1 - 1=p.At by omega,hx]
          exact ⟨_,_,rfl,⟨hp.toks,by show 0≤p.At+1;omega,by show p.At+1≤_;omega⟩,⟨by show p.At≤p.At+1;omega,fun e=>e⟩,Ic hl _,fun _=>by show p.At < p.At+1;omega⟩
      · exact bad
    · rw [if_neg (by rw [hp.toks];exact h)];exact bad
  · exact bad
structure NM (p:leadlineref05_In) (out:List api_Cell) (p':leadlineref05_In):Prop where
  ats:∀ c∈out,PA c.At
  len:(out.length:Int)≤p'.At - p.At+(if p'.E=0 then 0 else 1)
theorem Ua (hl:OkL l) (hN:30 < N) {num:Bool} {k:List api_Token→Int→Int→Int→List api_Cell→Option ((List api_Cell)×leadlineref05_In)} (p0:leadlineref05_In):∀ (d m:Nat) (p:leadlineref05_In) (out:List api_Cell) (more:Bool),II l p→RI p0 p→NM p0 out p→0≤p0.At→(l.length:Int) - p.At≤(d:Int)→d+1 < m→
    ∃ p' out',Z3y N k num m p.L p.At p.E p.Pos out more=k p'.L p'.At p'.E p'.Pos out'∧II l p'∧RI p0 p'∧NM p0 out' p':=by
  have h1:=hl.1
  intro d
  induction d with
  | zero =>
    intro m p out more hp h0 hn hp0 hd hm
    obtain ⟨m,rfl⟩:∃ q,m=q+2:=⟨m - 2,by omega⟩
    rw [Z3y]
    by_cases hc:(more && (decide (p.E=0)))=true
    · rw [if_pos hc, Dn]
      obtain ⟨c,p1,e1,a1,r1,c1,s1⟩:=Uk hl hN hp
      have hge:=h0.ge
      have hhi:=hp.high
      have hE:p.E=0:=by simp at hc;exact hc.2
      have hcnt:=hn.len
      rw [if_pos hE] at hcnt
      have hE1:p1.E≠0:=fun z=>by have:=s1 z;have:=a1.high;omega
      -- an error: one cell more, and no more
      have j4:∀ (q:leadlineref05_In) (x:api_Cell),II l q→RI p q→PA x.At→q.E≠0→∃ p' out',Z3w N (Z3y N k num (m+1)) out q.L q.At q.E q.Pos x=k p'.L p'.At p'.E p'.Pos out'∧II l p'∧RI p0 p'∧NM p0 out' p':=by
        intro q x hq hr hx hqE
        have hlo:=hq.high
        rw [Z3w,Bq (by simp;omega) (by decide)]
        simp only [Option.bind_some]
        rw [Dn]
        obtain ⟨b,q2,e2,a2,r2,f2,t2⟩:=isI (N:=N) hl hq [44]
        rw [e2]
        simp only [Option.bind_some]
        have hb:b=false:=by
          cases b with
          | false=>rfl
          | true=>exact absurd (t2 rfl).1 hqE
        have:=f2 hb
        subst this;subst hb
        rw [Z3y,if_neg (by simp)]
        have hge2:=hr.ge
        refine ⟨q2,_,rfl,hq,h0.trans hr,fun y hy=>?_,?_⟩
        · rcases List.mem_append.1 hy with h | h
          · exact hn.ats y h
          · rw [List.mem_singleton] at h;subst h;exact hx
        · rw [if_neg hqE];simp only [List.length_append,List.length_singleton];omega
      rw [e1]
      simp only [Option.bind_some]
      have j3:Z3v N (Z3y N k num (m+1)) (c,p1) out p1.L p1.At p1.E p1.Pos false=Z3w N (Z3y N k num (m+1)) out p1.L p1.At p1.E p1.Pos c:=by
        rw [Z3v,if_neg (by decide)]
      split
      · obtain ⟨b, q2, e2, a2, r2, f2, t2⟩ := isI (N := N) hl a1 [61]
        rw [e2]
        simp only [Option.bind_some]
        have hb:b=false:=by
          cases b with
          | false=>rfl
          | true=>exact absurd (t2 rfl).1 hE1
        have:=f2 hb
        subst this;subst hb
        rw [j3]
        exact j4 q2 c a1 r1 c1 hE1
      · rw [j3]
        exact j4 p1 c a1 r1 c1 hE1
    · rw [if_neg hc]
      exact ⟨p,out,rfl,hp,h0,hn⟩
  | succ d ih =>
    intro m p out more hp h0 hn hp0 hd hm
    obtain ⟨m,rfl⟩:∃ q,m=q+2:=⟨m - 2,by omega⟩
    rw [Z3y]
    by_cases hc:(more && (decide (p.E=0)))=true
    · rw [if_pos hc, Dn]
      obtain ⟨c,p1,e1,a1,r1,c1,s1⟩:=Uk hl hN hp
      have hge:=h0.ge
      have hhi:=hp.high
      have hE:p.E=0:=by simp at hc;exact hc.2
      have hcnt:=hn.len
      rw [if_pos hE] at hcnt
      have j4:∀ (q:leadlineref05_In) (x:api_Cell),II l q→RI p q→PA x.At→(q.E=0→p.At < q.At)→∃ p' out',Z3w N (Z3y N k num (m+1)) out q.L q.At q.E q.Pos x=k p'.L p'.At p'.E p'.Pos out'∧II l p'∧RI p0 p'∧NM p0 out' p':=by
        intro q x hq hr hx hqs
        have hlo:=hq.high
        rw [Z3w,Bq (by simp;omega) (by decide)]
        simp only [Option.bind_some]
        rw [Dn]
        obtain ⟨b,q2,e2,a2,r2,f2,t2⟩:=isI (N:=N) hl hq [44]
        rw [e2]
        simp only [Option.bind_some]
        have hge2:=hr.ge
        have ats:∀ y∈out ++ [x],PA y.At:=fun y hy=>by
          rcases List.mem_append.1 hy with h | h
          · exact hn.ats y h
          · rw [List.mem_singleton] at h;subst h;exact hx
        have hge3:=r2.ge
        have nm:NM p0 (out ++ [x]) q2:=⟨ats,by
          simp only [List.length_append,List.length_singleton]
          by_cases z:q2.E=0
          · rw [if_pos z];have:=hqs (r2.err z);omega
          · rw [if_neg z];omega⟩
        by_cases z:q2.E=0
        · have := hqs (r2.err z)
          exact ih (m+1) q2 _ b a2 (h0.trans (hr.trans r2)) nm hp0 (by omega) (by omega)
        · rw [Z3y, if_neg (by simp [z])]
          exact ⟨q2,_,rfl,a2,h0.trans (hr.trans r2),nm⟩
      rw [e1]
      simp only [Option.bind_some]
      have j3:∀ (b:Bool) (q:leadlineref05_In),II l q→RI p q→(q.E=0→p.At < q.At)→∃ p' out',Z3v N (Z3y N k num (m+1)) (c,p1) out q.L q.At q.E q.Pos b=k p'.L p'.At p'.E p'.Pos out'∧II l p'∧RI p0 p'∧NM p0 out' p':=by
        intro b q hq hr hqs
        have hq0:=hq.low
        have hq1:=hq.high
        have j5:∀ b,(b=true→q.At < (l.length:Int))→∃ p' out',Z3x N (Z3w N (Z3y N k num (m+1)) out) (c,p1) q.L q.At q.E q.Pos b=k p'.L p'.At p'.E p'.Pos out'∧II l p'∧RI p0 p'∧NM p0 out' p':=by
          intro b hb
          rw [Z3x]
          split
          · rename_i z
            have hlt:=hb z
            obtain ⟨j,hj⟩:∃ j:Nat,q.At=(j:Int):=⟨q.At.toNat,by omega⟩
            have hx:getI q.L q.At=some (l[j]'(by omega)):=by rw [hq.toks,hj,Ao rfl (by omega)]
            rw [hx]
            simp only [Option.bind_some]
            rw [w64 (by omega) (by omega)]
            exact j4 (leadlineref05_In.mk q.L (q.At+1) q.E q.Pos) _ ⟨hq.toks,by show 0≤q.At+1;omega,by show q.At+1≤_;omega⟩ ⟨by have:=hr.ge;show p.At≤q.At+1;omega,hr.err⟩ c1 (fun z=>by have:=hqs z;show p.At < q.At+1;omega)
          · obtain ⟨q3, e3, a3, r3, n3, _⟩ := Xo (N := N) hl hq
            rw [Dn,e3]
            exact j4 q3 c a3 (hr.trans r3) c1 (fun z=>absurd z n3)
        rw [Z3v]
        split
        · split
          · rename_i hlt
            rw [hq.toks] at hlt
            obtain ⟨j,hj⟩:∃ j:Nat,q.At=(j:Int):=⟨q.At.toNat,by omega⟩
            have hx:getI q.L q.At=some (l[j]'(by omega)):=by rw [hq.toks,hj,Ao rfl (by omega)]
            rw [hx]
            exact j5 _ (fun _=>hlt)
          · exact j5 false (fun z=>by cases z)
        · exact j4 q c hq hr c1 hqs
      split
      · obtain ⟨b, q2, e2, a2, r2, f2, t2⟩ := isI (N := N) hl a1 [61]
        rw [e2]
        have hge4:=r2.ge
        exact j3 b q2 a2 (r1.trans r2) (fun z=>by have:=s1 (r2.err z);omega)
      · exact j3 false p1 a1 r1 s1
    · rw [if_neg hc]
      exact ⟨p,out,rfl,hp,h0,hn⟩
theorem Ny (hl:OkL l) (hN:2100 < N) {p:leadlineref05_In} (hp:II l p) (num:Bool):∃ out p',Z3t N p num=some (out,p')∧II l p'∧RI p p'∧NM p out p':=by
  have h1:=hl.1
  unfold Z3t
  obtain ⟨q,out,e,a,r,n⟩:=Ua hl (by omega:30 < N) (num:=num) (k:=Z3u N) p l.length N p [] true hp (RI.refl p) ⟨(fun c hc=>nomatch hc),by show (0:Int)≤p.At - p.At+(if p.E=0 then 0 else 1);split <;> omega⟩ hp.low (by have:=hp.low;omega) (by omega)
  rw [e,Z3u,Dn]
  obtain ⟨q2,e2,a2,r2,_⟩:=Ub (N:=N) hl a [59]
  rw [e2]
  refine ⟨out,q2,rfl,a2,r.trans r2,n.ats,?_⟩
  have hn:=n.len
  have hg:=r2.ge
  by_cases z:q2.E=0
  · rw [if_pos (r2.err z)] at hn;rw [if_pos z];omega
  · rw [if_neg z];split at hn <;> omega
structure TX (t:api_Thread):Prop where
  at':PA t.At
  regs:t.Regs.length≤2001
  body:t.Body.length≤40
  stmts:∀ x∈t.Body,SX x
theorem Xi {r:(List api_Cell)×leadlineref05_In} (hr:r.1.length≤2001) {k:List api_Token→Int→Int→Int→List Str→Option (api_Thread×leadlineref05_In)}:∀ (d j m:Nat) (out:List Str),j+d=r.1.length→d < m→out.length=j→
    ∃ out',Z42 N k r m out (j:Int)=k r.2.L r.2.At r.2.E r.2.Pos out'∧out'.length=r.1.length:=by
  intro d
  induction d with
  | zero =>
    intro j m out hj hm ho
    obtain ⟨m,rfl⟩:∃ q,m=q+1:=⟨m - 1,by omega⟩
    rw [Z42,if_neg (by omega)]
    exact ⟨out,rfl,by omega⟩
  | succ d ih =>
    intro j m out hj hm ho
    obtain ⟨m,rfl⟩:∃ q,m=q+1:=⟨m - 1,by omega⟩
    have h1:j < r.1.length:=by omega
    rw [Z42,if_pos (by omega),Ao rfl h1]
    simp only [Option.bind_some]
    rw [Bq (by simp;omega) (by decide)]
    simp only [Option.bind_some]
    rw [Bc h1 (by omega)]
    exact ih (j+1) m _ (by omega) (by omega) (by simp;omega)
theorem Re (hl:OkL l) (hN:10000≤N) {p:leadlineref05_In} (hp:II l p) (nm:Str) {a:Int} (ha:PA a):∃ t p',Z3z N p nm ([]:List api_Stmt) a=some (t,p')∧TX t∧II l p'∧(p'.E=0→p.At < p'.At):=by
  have h1:=hl.1
  have h0:=hp.low
  unfold Z3z
  obtain ⟨q,e,a1,r1,s1⟩:=Ub (N:=N) hl hp [123]
  rw [e]
  simp only [Option.bind_some]
  have j1:∀ (q2:leadlineref05_In) (regs:List Str),II l q2→RI q q2→regs.length≤2001→∃ t p',Z40 N p nm ([]:List api_Stmt) a q2.L q2.At q2.E q2.Pos regs=some (t,p')∧TX t∧II l p'∧(p'.E=0→p.At < p'.At):=by
    intro q2 regs hq hr hg
    rw [Z40]
    split
    · rename_i hE
      obtain ⟨s1a,s1b⟩:=s1 (hr.err hE)
      have hge:=hr.ge
      obtain ⟨r,to,e',a',h2,b1,b2,b3,b4,b5⟩:=Wz hl (by omega:9200≤N) hq.low hq.high hp.low s1b
      rw [hq.toks,h2]
      exact ⟨_,_,rfl,⟨ha,hg,b1,b2⟩,⟨rfl,b4,b5⟩,fun z=>by have:=b3 z;show p.At < to;omega⟩
    · rename_i hE
      exact ⟨_,_,rfl,⟨ha,hg,Nat.zero_le _,fun x hx=>nomatch hx⟩,⟨hq.toks,hq.low,hq.high⟩,fun z=>absurd z hE⟩
  obtain ⟨b,q2,e2,a2,r2,f2,t2⟩:=isI (N:=N) hl a1 [114,101,103]
  rw [e2]
  simp only [Option.bind_some]
  split
  · obtain ⟨out, q3, e3, a3, r3, n3⟩ := Ny (N := N) hl (by omega) a2 false
    rw [e3]
    simp only [Option.bind_some]
    have hlen:out.length≤2001:=by
      have hn:=n3.len
      have hg:=a3.high
      have hz:=a2.low
      split at hn <;> omega
    obtain ⟨o2,e4,g4⟩:=Xi (N:=N) (r:=(out,q3)) hlen (k:=Z40 N p nm ([]:List api_Stmt) a) out.length 0 N [] (by simp) (by omega) rfl
    rw [show ((0:Nat):Int)=0 from rfl] at e4
    rw [e4]
    exact j1 q3 o2 a3 (r2.trans r3) (by rw [g4];exact hlen)
  · exact j1 q2 [] a2 r2 (Nat.zero_le _)
structure CX (c:api_Claim):Prop where
  at':PA c.At
  e:c.E.length≤40
  ne:∀ y∈c.E,PA y.At
theorem Jai (hl:OkL l) (hN:9000≤N) {p:leadlineref05_In} (hp:II l p) {a:Int} (ha:PA a):∃ c p',Z3n N p a=some (c,p')∧CX c∧II l p'∧(p'.E=0→p.At < p'.At):=by
  unfold Z3n
  obtain ⟨j,hj⟩:∃ j:Nat,p.At=(j:Int):=⟨p.At.toNat,by have:=hp.low;omega⟩
  obtain ⟨r,to,e,b,he,r1,r2,r3⟩:=Mj hl hN j
  have he':Z1s N p.L p.At=some (r,to,e,b):=by rw [hp.toks,hj];exact he
  rw [he']
  simp only [Option.bind_some]
  by_cases z:e=0
  · obtain ⟨g1, g2⟩ := r3 z
    rw [if_neg (by simp [z])]
    have hq:II l (leadlineref05_In.mk p.L to p.E p.Pos):=⟨hp.toks,by show 0≤to;omega,g2⟩
    obtain ⟨q,e2,a2,r2',s2⟩:=Ub (N:=N) hl hq [59]
    rw [e2]
    exact ⟨_,q,rfl,⟨ha,r1,r2⟩,a2,fun w=>by have:to < q.At:=(s2 w).1;omega⟩
  · rw [if_pos z]
    exact ⟨_,_,rfl,⟨⟨by decide,by decide⟩,Nat.zero_le _,fun y hy=>nomatch hy⟩,⟨hp.toks,hp.low,hp.high⟩,fun w=>absurd w z⟩
structure PX (p:api_Prog):Prop where
  lines:p.Lines.length≤2001
  line:∀ x∈p.Lines,x.length≤2001∧∀ c∈x,PA c.At
  vols:p.Vols.length≤2001∧∀ c∈p.Vols,PA c.At
  locks:p.Locks.length≤2001∧∀ c∈p.Locks,PA c.At
  threads:p.Threads.length≤2001∧∀ t∈p.Threads,TX t
  recover:p.Recover.length≤1∧∀ t∈p.Recover,TX t
  claims:p.Claims.length≤2001∧∀ c∈p.Claims,CX c
theorem We:PX (api_Prog.mk [] [] [] [] [] []):=
  ⟨Nat.zero_le _,(fun x hx=>nomatch hx),⟨Nat.zero_le _,fun x hx=>nomatch hx⟩,⟨Nat.zero_le _,fun x hx=>nomatch hx⟩,⟨Nat.zero_le _,fun x hx=>nomatch hx⟩,⟨Nat.zero_le _,fun x hx=>nomatch hx⟩,⟨Nat.zero_le _,fun x hx=>nomatch hx⟩⟩
def RES (o:Option (api_Prog×Int×Int)):Prop:=∃ p e a,o=some (p,e,a)∧PX p
theorem Xk (hl:OkL l) (hN:2100 < N) {k:List api_Token→Int→Int→Int→List (List api_Cell)→Option (api_Prog×Int×Int)} (hk:∀ (q:leadlineref05_In) (out:List (List api_Cell)),II l q→out.length≤2001→(∀ x∈out,x.length≤2001∧∀ c∈x,PA c.At)→RES (k q.L q.At q.E q.Pos out)) :
    ∀ (d m:Nat) (q:leadlineref05_In) (out:List (List api_Cell)),II l q→(l.length:Int) - q.At≤(d:Int)→d+1 < m→(out.length:Int)≤q.At+(if q.E=0 then 0 else 1)→(∀ x∈out,x.length≤2001∧∀ c∈x,PA c.At)→RES (Z4c N k m q.L q.At q.E q.Pos out):=by
  have h1:=hl.1
  intro d
  induction d with
  | zero =>
    intro m q out hq hd hm ho hx
    obtain ⟨m,rfl⟩:∃ z,m=z+1:=⟨m - 1,by omega⟩
    have hhi:=hq.high
    rw [Z4c,Dn]
    obtain ⟨b,q2,e2,a2,r2,f2,t2⟩:=isI (N:=N) hl hq [108,105,110,101]
    rw [e2]
    simp only [Option.bind_some]
    cases b with
    | true=>have:=t2 rfl;omega
    | false =>
      have:=f2 rfl
      subst this
      rw [if_neg (by decide)]
      exact hk q2 out hq (by split at ho <;> omega) hx
  | succ d ih =>
    intro m q out hq hd hm ho hx
    obtain ⟨m,rfl⟩:∃ z,m=z+1:=⟨m - 1,by omega⟩
    have hhi:=hq.high
    rw [Z4c,Dn]
    obtain ⟨b,q2,e2,a2,r2,f2,t2⟩:=isI (N:=N) hl hq [108,105,110,101]
    rw [e2]
    simp only [Option.bind_some]
    cases b with
    | false =>
      have:=f2 rfl
      subst this
      rw [if_neg (by decide)]
      exact hk q2 out hq (by split at ho <;> omega) hx
    | true =>
      obtain ⟨t2a,t2b,t2c,t2d⟩:=t2 rfl
      rw [if_pos t2a] at ho
      obtain ⟨cs,q3,e3,a3,r3,n3⟩:=Ny (N:=N) hl hN a2 true
      have hge:=r3.ge
      have hlo:=hq.low
      have hh3:=a3.high
      have hcs:cs.length≤2001:=by
        have hn:=n3.len
        split at hn <;> omega
      rw [if_pos rfl,e3]
      simp only [Option.bind_some]
      rw [Bq (by simp;omega) (by decide)]
      simp only [Option.bind_some]
      refine ih m q3 _ a3 (by omega) (by omega) (by simp only [List.length_append,List.length_singleton];split <;> omega) (fun x hx'=>?_)
      rcases List.mem_append.1 hx' with h | h
      · exact hx x h
      · rw [List.mem_singleton] at h;subst h;exact ⟨hcs,n3.ats⟩
theorem JaE (hl:OkL l) (hN:2100 < N) {k:List api_Token→Int→Int→Int→List api_Cell→Option (api_Prog×Int×Int)} (hk:∀ (q:leadlineref05_In) (out:List api_Cell),II l q→out.length≤2001→(∀ c∈out,PA c.At)→RES (k q.L q.At q.E q.Pos out)) :
    ∀ (d m:Nat) (q:leadlineref05_In) (out:List api_Cell),II l q→(l.length:Int) - q.At≤(d:Int)→d+1 < m→(out.length:Int)≤q.At+(if q.E=0 then 0 else 1)→(∀ c∈out,PA c.At)→RES (Z4d N k m q.L q.At q.E q.Pos out):=by
  have h1:=hl.1
  intro d
  induction d with
  | zero =>
    intro m q out hq hd hm ho hx
    obtain ⟨m,rfl⟩:∃ z,m=z+1:=⟨m - 1,by omega⟩
    have hhi:=hq.high
    rw [Z4d,Dn]
    obtain ⟨b,q2,e2,a2,r2,f2,t2⟩:=isI (N:=N) hl hq [118,111,108]
    rw [e2]
    simp only [Option.bind_some]
    cases b with
    | true=>have:=t2 rfl;omega
    | false =>
      have:=f2 rfl
      subst this
      rw [if_neg (by decide)]
      exact hk q2 out hq (by split at ho <;> omega) hx
  | succ d ih =>
    intro m q out hq hd hm ho hx
    obtain ⟨m,rfl⟩:∃ z,m=z+1:=⟨m - 1,by omega⟩
    have hhi:=hq.high
    rw [Z4d,Dn]
    obtain ⟨b,q2,e2,a2,r2,f2,t2⟩:=isI (N:=N) hl hq [118,111,108]
    rw [e2]
    simp only [Option.bind_some]
    cases b with
    | false =>
      have:=f2 rfl
      subst this
      rw [if_neg (by decide)]
      exact hk q2 out hq (by split at ho <;> omega) hx
    | true =>
      obtain ⟨t2a,t2b,t2c,t2d⟩:=t2 rfl
      rw [if_pos t2a] at ho
      obtain ⟨cs,q3,e3,a3,r3,n3⟩:=Ny (N:=N) hl hN a2 true
      have hge:=r3.ge
      have hlo:=hq.low
      have hh3:=a3.high
      have hcs:=n3.len
      have hcs1:cs.length≤2001:=by split at hcs <;> omega
      rw [if_pos rfl,e3]
      simp only [Option.bind_some]
      rw [Bq (by omega) (by decide)]
      simp only [Option.bind_some]
      refine ih m q3 _ a3 (by omega) (by omega) (by simp only [List.length_append];split at hcs <;> split <;> omega) (fun x hx'=>?_)
      rcases List.mem_append.1 hx' with h | h
      · exact hx x h
      · exact n3.ats x h
theorem Xl (hl:OkL l) (hN:2100 < N) {k:List api_Token→Int→Int→Int→List api_Cell→Option (api_Prog×Int×Int)} (hk:∀ (q:leadlineref05_In) (out:List api_Cell),II l q→out.length≤2001→(∀ c∈out,PA c.At)→RES (k q.L q.At q.E q.Pos out)) :
    ∀ (d m:Nat) (q:leadlineref05_In) (out:List api_Cell),II l q→(l.length:Int) - q.At≤(d:Int)→d+1 < m→(out.length:Int)≤q.At+(if q.E=0 then 0 else 1)→(∀ c∈out,PA c.At)→RES (Z4e N k m q.L q.At q.E q.Pos out):=by
  have h1:=hl.1
  intro d
  induction d with
  | zero =>
    intro m q out hq hd hm ho hx
    obtain ⟨m,rfl⟩:∃ z,m=z+1:=⟨m - 1,by omega⟩
    have hhi:=hq.high
    rw [Z4e,Dn]
    obtain ⟨b,q2,e2,a2,r2,f2,t2⟩:=isI (N:=N) hl hq [108,111,99,107]
    rw [e2]
    simp only [Option.bind_some]
    cases b with
    | true=>have:=t2 rfl;omega
    | false =>
      have:=f2 rfl
      subst this
      rw [if_neg (by decide)]
      exact hk q2 out hq (by split at ho <;> omega) hx
  | succ d ih =>
    intro m q out hq hd hm ho hx
    obtain ⟨m,rfl⟩:∃ z,m=z+1:=⟨m - 1,by omega⟩
    have hhi:=hq.high
    rw [Z4e,Dn]
    obtain ⟨b,q2,e2,a2,r2,f2,t2⟩:=isI (N:=N) hl hq [108,111,99,107]
    rw [e2]
    simp only [Option.bind_some]
    cases b with
    | false =>
      have:=f2 rfl
      subst this
      rw [if_neg (by decide)]
      exact hk q2 out hq (by split at ho <;> omega) hx
    | true =>
      obtain ⟨t2a,t2b,t2c,t2d⟩:=t2 rfl
      rw [if_pos t2a] at ho
      obtain ⟨cs,q3,e3,a3,r3,n3⟩:=Ny (N:=N) hl hN a2 false
      have hge:=r3.ge
      have hlo:=hq.low
      have hh3:=a3.high
      have hcs:=n3.len
      have hcs1:cs.length≤2001:=by split at hcs <;> omega
      rw [if_pos rfl,e3]
      simp only [Option.bind_some]
      rw [Bq (by omega) (by decide)]
      simp only [Option.bind_some]
      refine ih m q3 _ a3 (by omega) (by omega) (by simp only [List.length_append];split at hcs <;> split <;> omega) (fun x hx'=>?_)
      rcases List.mem_append.1 hx' with h | h
      · exact hx x h
      · exact n3.ats x h
theorem Tn (hl:OkL l) (hN:10000≤N) {k:List api_Token→Int→Int→Int→List api_Thread→Option (api_Prog×Int×Int)} (hk:∀ (q:leadlineref05_In) (out:List api_Thread),II l q→out.length≤2001→(∀ c∈out,TX c)→RES (k q.L q.At q.E q.Pos out)) :
    ∀ (d m:Nat) (q:leadlineref05_In) (out:List api_Thread),II l q→(l.length:Int) - q.At≤(d:Int)→d+2 < m→(out.length:Int)≤q.At+(if q.E=0 then 0 else 1)→(∀ c∈out,TX c)→RES (Z4f N k m q.L q.At q.E q.Pos out):=by
  have h1:=hl.1
  have stop:∀ (m:Nat) (q:leadlineref05_In) (out:List api_Thread),II l q→q.E≠0→out.length≤2001→(∀ c∈out,TX c)→RES (Z4f N k (m+1) q.L q.At q.E q.Pos out):=by
    intro m q out hq hE ho hx
    rw [Z4f,Dn]
    obtain ⟨b,q2,e2,a2,r2,f2,t2⟩:=isI (N:=N) hl hq [116,104,114,101,97,100]
    rw [e2]
    simp only [Option.bind_some]
    cases b with
    | true=>exact absurd (t2 rfl).1 hE
    | false =>
      have:=f2 rfl
      subst this
      rw [if_neg (by decide)]
      exact hk q2 out hq ho hx
  intro d
  induction d with
  | zero =>
    intro m q out hq hd hm ho hx
    obtain ⟨m,rfl⟩:∃ z,m=z+1:=⟨m - 1,by omega⟩
    have hhi:=hq.high
    rw [Z4f,Dn]
    obtain ⟨b,q2,e2,a2,r2,f2,t2⟩:=isI (N:=N) hl hq [116,104,114,101,97,100]
    rw [e2]
    simp only [Option.bind_some]
    cases b with
    | true=>have:=t2 rfl;omega
    | false =>
      have:=f2 rfl
      subst this
      rw [if_neg (by decide)]
      exact hk q2 out hq (by split at ho <;> omega) hx
  | succ d ih =>
    intro m q out hq hd hm ho hx
    obtain ⟨m,rfl⟩:∃ z,m=z+1:=⟨m - 1,by omega⟩
    have hhi:=hq.high
    rw [Z4f,Dn]
    obtain ⟨b,q2,e2,a2,r2,f2,t2⟩:=isI (N:=N) hl hq [116,104,114,101,97,100]
    rw [e2]
    simp only [Option.bind_some]
    cases b with
    | false =>
      have:=f2 rfl
      subst this
      rw [if_neg (by decide)]
      exact hk q2 out hq (by split at ho <;> omega) hx
    | true =>
      obtain ⟨t2a,t2b,t2c,t2d⟩:=t2 rfl
      rw [if_pos t2a] at ho
      obtain ⟨c,q3,e3,a3,r3,c3,s3⟩:=Uk hl (by omega:30 < N) a2
      rw [if_pos rfl,e3]
      simp only [Option.bind_some]
      obtain ⟨t,q4,e4,hT,a4,s4⟩:=Re hl hN a3 c.Name c3
      rw [e4]
      simp only [Option.bind_some]
      rw [Bq (by simp;omega) (by decide)]
      simp only [Option.bind_some]
      have hge:=r3.ge
      have hT':∀ x∈out ++ [t],TX x:=fun x hx'=>by
        rcases List.mem_append.1 hx' with h | h
        · exact hx x h
        · rw [List.mem_singleton] at h;subst h;exact hT
      by_cases z:q4.E=0
      · have := s4 z
        exact ih m q4 _ a4 (by omega) (by omega) (by rw [if_pos z];simp only [List.length_append,List.length_singleton];omega) hT'
      · obtain ⟨m, rfl⟩ : ∃ z, m = z + 1 := ⟨m - 1, by omega⟩
        exact stop m q4 _ a4 z (by simp only [List.length_append,List.length_singleton];omega) hT'
theorem Wi (hl:OkL l) (hN:10000≤N) {rz:(List api_Token)×Int×Int} (hrz:rz.1=l) {k:List api_Token→Int→Int→Int→List api_Claim→Option (api_Prog×Int×Int)} (hk:∀ (q:leadlineref05_In) (out:List api_Claim),II l q→out.length≤2001→(∀ c∈out,CX c)→RES (k q.L q.At q.E q.Pos out)) :
    ∀ (d m:Nat) (q:leadlineref05_In) (out:List api_Claim),II l q→(l.length:Int) - q.At≤(d:Int)→d+2 < m→(out.length:Int)≤q.At+(if q.E=0 then 0 else 1)→(∀ c∈out,CX c)→RES (Z4b N k rz m q.L q.At q.E q.Pos out):=by
  have h1:=hl.1
  have stop:∀ (m:Nat) (q:leadlineref05_In) (out:List api_Claim),II l q→q.E≠0→out.length≤2001→(∀ c∈out,CX c)→RES (Z4b N k rz (m+1) q.L q.At q.E q.Pos out):=by
    intro m q out hq hE ho hx
    rw [Z4b,Dn]
    obtain ⟨b,q2,e2,a2,r2,f2,t2⟩:=isI (N:=N) hl hq [97,108,119,97,121,115]
    rw [e2]
    simp only [Option.bind_some]
    cases b with
    | true=>exact absurd (t2 rfl).1 hE
    | false =>
      have:=f2 rfl
      subst this
      rw [if_neg (by decide)]
      exact hk q2 out hq ho hx
  intro d
  induction d with
  | zero =>
    intro m q out hq hd hm ho hx
    obtain ⟨m,rfl⟩:∃ z,m=z+1:=⟨m - 1,by omega⟩
    have hhi:=hq.high
    rw [Z4b,Dn]
    obtain ⟨b,q2,e2,a2,r2,f2,t2⟩:=isI (N:=N) hl hq [97,108,119,97,121,115]
    rw [e2]
    simp only [Option.bind_some]
    cases b with
    | true=>have:=t2 rfl;omega
    | false =>
      have:=f2 rfl
      subst this
      rw [if_neg (by decide)]
      exact hk q2 out hq (by split at ho <;> omega) hx
  | succ d ih =>
    intro m q out hq hd hm ho hx
    obtain ⟨m,rfl⟩:∃ z,m=z+1:=⟨m - 1,by omega⟩
    have hhi:=hq.high
    have hlo:=hq.low
    rw [Z4b,Dn]
    obtain ⟨b,q2,e2,a2,r2,f2,t2⟩:=isI (N:=N) hl hq [97,108,119,97,121,115]
    rw [e2]
    simp only [Option.bind_some]
    cases b with
    | false =>
      have:=f2 rfl
      subst this
      rw [if_neg (by decide)]
      exact hk q2 out hq (by split at ho <;> omega) hx
    | true =>
      obtain ⟨t2a,t2b,t2c,t2d⟩:=t2 rfl
      rw [if_pos t2a] at ho
      obtain ⟨j,hj⟩:∃ j:Nat,q.At=(j:Int):=⟨q.At.toNat,by omega⟩
      have hx0:getI rz.1 (IntKind.i64.wrap (q2.At - 1))=some (l[j]'(by omega)):=by
        rw [t2c,w64 (by omega) (by omega),show q.At+1 - 1=(j:Int) by omega,hrz,Ao rfl (by omega)]
      rw [if_pos rfl,hx0]
      simp only [Option.bind_some]
      obtain ⟨c,q4,e4,hT,a4,s4⟩:=Jai hl (by omega:9000≤N) a2 (a:=(l[j]'(by omega)).At) (Ic hl _)
      rw [e4]
      simp only [Option.bind_some]
      rw [Bq (by simp;omega) (by decide)]
      simp only [Option.bind_some]
      have hT':∀ x∈out ++ [c],CX x:=fun x hx'=>by
        rcases List.mem_append.1 hx' with h | h
        · exact hx x h
        · rw [List.mem_singleton] at h;subst h;exact hT
      by_cases z:q4.E=0
      · have := s4 z
        exact ih m q4 _ a4 (by omega) (by omega) (by rw [if_pos z];simp only [List.length_append,List.length_singleton];omega) hT'
      · obtain ⟨m, rfl⟩ : ∃ z, m = z + 1 := ⟨m - 1, by omega⟩
        exact stop m q4 _ a4 z (by simp only [List.length_append,List.length_singleton];omega) hT'
theorem Sv (hN:10000≤N) {s:Str} (hs:s.length≤2000):RES (Z43 N s):=by
  unfold Z43
  obtain ⟨l,e,a,he,hl⟩:=Wr hs (by omega:2001 < N)
  have h1:=hl.1
  rw [he]
  simp only [Option.bind_some]
  by_cases z:e=0
  · rw [if_neg (by simp [z])]
    have start:∀ q:leadlineref05_In,II l q→(l.length:Int) - q.At≤(l.length:Int):=fun q hq=>by have:=hq.low;omega
    have zero:∀ (q:leadlineref05_In),II l q→((([]:List Nat).length:Nat):Int)≤q.At+(if q.E=0 then 0 else 1):=fun q hq=>by
      have:=hq.low
      show (0:Int)≤_
      split <;> omega
    have h:=Xk hl (by omega:2100 < N) (k:=Z44 N (l,e,a)) (fun q1 ls hq1 b1 c1=>?_) l.length N (leadlineref05_In.mk l 0 0 0) [] ⟨rfl,Int.le_refl _,by show (0:Int)≤_;omega⟩ (by show (l.length:Int) - 0≤_;omega) (by omega) (by show (0:Int)≤0+(if (0:Int)=0 then 0 else 1);rw [if_pos rfl];decide) (fun x hx=>nomatch hx)
    · exact h
    · rw [Z44]
      refine JaE hl (by omega:2100 < N) (fun q2 vs hq2 b2 c2=>?_) l.length N q1 [] hq1 (start q1 hq1) (by omega) (zero q1 hq1) (fun x hx=>nomatch hx)
      rw [Z47]
      refine Xl hl (by omega:2100 < N) (fun q3 ks hq3 b3 c3=>?_) l.length N q2 [] hq2 (start q2 hq2) (by omega) (zero q2 hq2) (fun x hx=>nomatch hx)
      rw [Z48]
      refine Tn hl hN (fun q4 ts hq4 b4 c4=>?_) l.length N q3 [] hq3 (start q3 hq3) (by omega) (zero q3 hq3) (fun x hx=>nomatch hx)
      rw [Z49,Dn]
      have j9:∀ (q5:leadlineref05_In) (rs:List api_Thread),II l q5→rs.length≤1→(∀ t∈rs,TX t)→RES (Z4a N (l,e,a) ls vs ks ts q5.L q5.At q5.E q5.Pos rs):=by
        intro q5 rs hq5 b5 c5
        rw [Z4a]
        refine Wi hl hN (rz:=(l,e,a)) rfl (fun q6 cs hq6 b6 c6=>?_) l.length N q5 [] hq5 (start q5 hq5) (by omega) (zero q5 hq5) (fun x hx=>nomatch hx)
        have j12:∀ q7:leadlineref05_In,RES (Z46 ls vs ks ts rs cs q7.L q7.At q7.E q7.Pos):=by
          intro q7
          rw [Z46]
          split
          · exact ⟨_,_,_,rfl,We⟩
          · exact ⟨_,_,_,rfl,⟨b1,c1,⟨b2,c2⟩,⟨b3,c3⟩,⟨b4,c4⟩,⟨b5,c5⟩,⟨b6,c6⟩⟩⟩
        rw [Z45]
        split
        · obtain ⟨q7, e7, _⟩ := Xo (N := N) hl hq6
          rw [Dn,e7]
          exact j12 q7
        · exact j12 q6
      obtain ⟨b,q5,e5,a5,r5,f5,t5⟩:=isI (N:=N) hl hq4 [114,101,99,111,118,101,114]
      rw [e5]
      simp only [Option.bind_some]
      cases b with
      | false=>rw [if_neg (by decide)];exact j9 q5 [] a5 (Nat.zero_le _) (fun x hx=>nomatch hx)
      | true =>
        obtain ⟨t5a,t5b,t5c,t5d⟩:=t5 rfl
        have hlo:=hq4.low
        obtain ⟨j,hj⟩:∃ j:Nat,q4.At=(j:Int):=⟨q4.At.toNat,by omega⟩
        have hx0:getI l (IntKind.i64.wrap (q5.At - 1))=some (l[j]'(by omega)):=by
          rw [t5c,w64 (by omega) (by omega),show q4.At+1 - 1=(j:Int) by omega,Ao rfl (by omega)]
        rw [if_pos rfl,hx0]
        simp only [Option.bind_some]
        obtain ⟨t,q6,e6,hT,a6,_⟩:=Re hl hN a5 [] (a:=(l[j]'(by omega)).At) (Ic hl _)
        rw [e6]
        simp only [Option.bind_some]
        rw [Bq (by simp) (by decide)]
        simp only [Option.bind_some,List.nil_append]
        exact j9 q6 [t] a6 (Nat.le_refl _) (fun x hx=>by rw [List.mem_singleton] at hx;subst hx;exact hT)
  · rw [if_pos z]
    exact ⟨_,_,_,rfl,We⟩
end Go.MD.LB.W
namespace Go.MD.LB.W
open Go Go.MD Go.MD.LB
theorem TX.wide {t:api_Thread} (h:TX t):WideT t:=⟨h.regs,by have:=h.body;omega,fun x hx=>⟨by have:=(h.stmts x hx).e;omega,by have:=(h.stmts x hx).f;omega⟩⟩
theorem PX.wide {p:api_Prog} (h:PX p):WideP p:=
  ⟨h.lines,fun l hl=>(h.line l hl).1,h.vols.1,h.locks.1,h.threads.1,fun t ht=>(h.threads.2 t ht).wide,by have:=h.recover.1;omega,fun t ht=>(h.recover.2 t ht).wide,h.claims.1,fun c hc=>by have:=(h.claims.2 c hc).e;omega⟩
theorem PX.small {p:api_Prog} (h:PX p) (hb:Ks p=false):SmallP p:=by
  unfold Ks at hb
  simp only [Bool.or_eq_false_iff,Bool.not_eq_false',Bool.and_eq_true,decide_eq_false_iff_not,not_or,Nat.not_lt] at hb
  obtain ⟨⟨hnar,hfew⟩,g1,g2,g3,g4,g5,g6⟩:=hb
  have ht:∀ t∈Ce p,TX t→SmallT t:=fun t ht hT=>by
    have:=List.all_eq_true.1 hfew t ht
    unfold Kx at this
    simp only [Bool.not_eq_true',decide_eq_false_iff_not] at this
    have w:=hT.wide
    exact ⟨by omega,w.body,w.small⟩
  refine ⟨by omega,fun l hl=>?_,by omega,by omega,by omega,fun t h'=>ht t (List.mem_append_left _ h') (h.threads.2 t h'),by have:=h.recover.1;omega,fun t h'=>ht t (List.mem_append_right _ h') (h.recover.2 t h'),by omega,h.wide.claim⟩
  have:=List.all_eq_true.1 hnar l hl
  unfold Es at this
  simp only [Bool.not_eq_true',decide_eq_false_iff_not] at this
  omega
theorem Eb {α:Type} {f:α→Option Int} {l:List α} {v:Int} (h:l.findSome? f=some v) (P:Int→Prop) (hf:∀ x∈l,∀ v,f x=some v→P v):P v:=by
  obtain ⟨x,hx,e⟩:=List.exists_of_findSome?_eq_some h
  exact hf x hx v e
theorem Xe {names:List Str} {l:List api_Node} (hl:∀ y∈l,PA y.At) {v:Int} (h:l.findSome? (El names)=some v):PA v:=
  Eb h PA fun x hx v e=>by
    unfold El at e
    split at e
    · injection e with e;subst e;exact hl x hx
    · cases e
theorem Xj {p:api_Prog} {G:List Str} {x:api_Stmt} (hx:SX x) {v:Int} (h:Le p G x=some v):PA v:=
  Eb h PA fun u hu v e=>by
    have hv:u.at'=v:=by
      unfold Kv at e;split at e
      · cases e
      · exact Option.some.inj e
    subst hv
    have node:∀ {l:List api_Node},(∀ y∈l,0≤y.At∧y.At≤2000)→u∈Gq l→PA u.at':=by
      intro l hl hu
      obtain ⟨y,hy,e⟩:=List.mem_filterMap.1 hu
      split at e
      · injection e with e;subst e;exact hl y hy
      · cases e
    simp only [Jc,List.mem_append] at hu
    rcases hu with hu | hu | hu | hu
    · split at hu
      · simp only [List.mem_cons,List.not_mem_nil,or_false] at hu;subst hu;exact ⟨hx.low,hx.high⟩
      · cases hu
    · split at hu
      · simp only [List.mem_cons,List.not_mem_nil,or_false] at hu;subst hu;exact ⟨hx.low,hx.high⟩
      · cases hu
    · exact node hx.ne hu
    · exact node hx.nf hu
theorem PX.all {p:api_Prog} (h:PX p):∀ t∈Ce p,TX t:=fun t ht=>(List.mem_append.1 ht).elim (h.threads.2 t) (h.recover.2 t)
theorem Vd {p:api_Prog} (h:PX p) (hq:Gn p=true) (hb:Ks p=false):∃ e a,Jr p=some (e,a)∧PA a:=by
  have hB:=Jn.1 hq
  unfold Jr
  rw [if_pos hq,if_neg (by rw [hb];decide)]
  cases h1:(Ce p).findSome? Gs with
  | some v =>
    refine ⟨11,v,rfl,Eb h1 PA fun t ht v e=>?_⟩
    obtain ⟨_,_,b,hb⟩:=Fo (hB.thread t ht)
    have hlen:b.size≤40:=by have:=hb.len;rw [hb.flat,B.flat_len] at this;exact this
    have e1:=Rn 1000001 b hb.ok (by omega) 1 (by decide) (by decide)
    rw [← hb.flat] at e1
    rw [Ot e1] at e
    obtain ⟨x,hx,rfl⟩:=Hi b 1 e
    have:=(h.all t ht).stmts x (by rw [hb.flat];exact hx)
    exact ⟨this.low,this.high⟩
  | none =>
    cases h2:Ej (Dd p) [] with
    | some v =>
      refine ⟨10,v,rfl,?_⟩
      obtain ⟨e,he,rfl⟩:=Nw h2
      simp only [Dd,List.mem_append,List.mem_map] at he
      rcases he with ⟨c,hc,rfl⟩ | ⟨c,hc,rfl⟩ | ⟨t,ht,rfl⟩
      · rcases List.mem_append.1 hc with hc | hc
        · obtain ⟨l, hl, hcl⟩ := List.mem_flatten.1 hc
          exact (h.line l hl).2 c hcl
        · exact h.vols.2 c hc
      · exact h.locks.2 c hc
      · exact (h.threads.2 t ht).at'
    | none =>
      cases h3:(Ce p).findSome? (Jf p) with
      | some v =>
        refine ⟨10,v,rfl,Eb h3 PA fun t ht v e=>?_⟩
        unfold Jf at e
        split at e
        · injection e with e;subst e;exact (h.all t ht).at'
        · cases e
      | none =>
        cases h4:(Ce p).findSome? (Ia p) with
        | some v =>
          refine ⟨9,v,rfl,Eb h4 PA fun t ht v e=>?_⟩
          exact Eb e PA fun x hx v e'=>Xj ((h.all t ht).stmts x hx) e'
        | none =>
          cases h5:p.Claims.findSome? (He p) with
          | some v=>exact ⟨9,v,rfl,Eb h5 PA fun c hc v e=>Xe (h.claims.2 c hc).ne e⟩
          | none=>exact ⟨0,0,rfl,by decide,by decide⟩
theorem Px {p:api_Prog} (h:PX p):∃ e a,Z6k 1000001 p=some (e,a)∧Z52 1000001 p=some (e,a)∧PA a:=by
  have hw:=h.wide
  cases hq:Gn p with
  | false =>
    refine ⟨8,0,?_,?_,by decide,by decide⟩
    · obtain ⟨r, hr⟩ := Ki hw
      unfold Z6k
      rw [hr]
      simp only [Option.bind_some]
      rw [Jg hw,hq];rfl
    · unfold Z52
      rw [Jp hw,hq];rfl
  | true =>
    cases hb:Ks p with
    | true =>
      refine ⟨2,0,?_,?_,by decide,by decide⟩
      · obtain ⟨r, hr⟩ := Ki hw
        unfold Z6k
        rw [hr]
        simp only [Option.bind_some]
        rw [Jg hw,hq]
        simp only [Option.bind_some]
        rw [if_pos trivial,Un hw,hb];rfl
      · unfold Z52
        rw [Jp hw,hq]
        simp only [Option.bind_some]
        rw [if_pos trivial,Rr hw,hb];rfl
    | false =>
      have hs:=h.small hb
      obtain ⟨e,a,h1,h2⟩:=Vd h hq hb
      exact ⟨e,a,by rw [Up hs,h1],by rw [Ti hs,h1],h2⟩
theorem Texts0 (s:Str):Zg 1000001 s=some true:=by
  unfold Zg
  rw [Iw (by omega) (by omega) (by omega)]
  simp only [Option.bind_some]
  have hl:((s.take (min (s.length:Int) 2000).toNat).drop (0:Int).toNat).length≤2000:=by
    rw [List.length_drop,List.length_take];omega
  generalize (s.take (min (s.length:Int) 2000).toNat).drop (0:Int).toNat=t at hl
  obtain ⟨p,e,a,hp,hP⟩:=Sv (N:=1000001) (by decide) hl
  unfold Zi
  rw [hp]
  simp only [Option.bind_some]
  obtain ⟨e,a,h1,h2,h3⟩:=Px hP
  rw [h1,h2]
  simp only [Option.bind_some,decide_true,Bool.and_self,Bool.true_and]
  rw [decide_eq_true h3.1,decide_eq_true h3.2]
  simp only [Bool.and_self,if_true]
  exact JaG
end Go.MD.LB.W
namespace Go.MD.LB
open Go Go.MD
theorem Me (p1:Str):Zg 1000001 p1=some true:=W.Texts0 p1
end Go.MD.LB
