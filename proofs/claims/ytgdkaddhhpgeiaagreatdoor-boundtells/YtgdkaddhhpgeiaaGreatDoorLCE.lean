/- BoundTells: the plain law. No condition: plain lemmas. -/
import Derived.Test.YtgdkaddhhpgeiaaGreatDoorLCD
namespace Go.MD.LB
open Go Go.MD
theorem Rt {rf:List api_Stmt→Int→List Int→Option (List Int)} {f:Nat} {k:List Int→Option (List Int)} {most:Int} {x:api_Stmt} {l lb:List api_Stmt} {ws:List Int} {m:Int} (hx:x.N≤8)
    (hw:IntKind.i64.wrap (1+x.Body)=m) (hsub:Ci l 1 m=some lb)
    (hr:∀ v:List Int,v.length≤most.toNat→rf lb most v=some ((v ++ ws).take most.toNat)) :
    ∀ (d j n:Nat) (v:List Int),(j:Int)+d=x.N→d < n→v.length≤most.toNat→Z83 rf f k l most x n v (j:Int)=k ((v ++ rep d ws).take most.toNat):=by
  intro d
  induction d with
  | zero =>
    intro j n v hj hn hv
    obtain ⟨n,rfl⟩:∃ m,n=m+1:=⟨n - 1,by omega⟩
    rw [Z83,if_neg (by omega)]
    simp [rep,List.take_of_length_le hv]
  | succ d ih =>
    intro j n v hj hn hv
    obtain ⟨n,rfl⟩:∃ m,n=m+1:=⟨n - 1,by omega⟩
    rw [Z83,if_pos (by omega),hw,hsub]
    simp only [Option.bind_some]
    rw [hr v hv]
    simp only [Option.bind_some]
    rw [Be (n:=8) (by omega) (by decide),ih (j+1) n _ (by omega) (by omega) Eh,Kb,Pq,List.append_assoc]
theorem Tu:∀ (f:Nat) (b:B),OKB b→b.size+12≤f→∀ (out:List Int) (most:Int),most≤1000→out.length≤most.toNat→Z80 f b.flat most out=some ((out ++ b.ws).take most.toNat):=by
  intro f
  induction f with
  | zero=>intro b _ h;omega
  | succ f ih =>
    intro b hb hf out most hmost hout
    cases b with
    | nil =>
      rw [Z80,if_pos (by simp [B.flat])]
      simp [B.ws,List.take_of_length_le hout]
    | cons x a c r =>
      obtain ⟨h1,h2,w2,w3,s1,s2,s3⟩:=Qm hb rfl
      have hN':=hb.okN.1
      simp only [B.size] at hf
      generalize hl:(B.cons x a c r).flat=l at h1 h2 s1 s2 s3
      rw [Z80]
      by_cases hlt:out.length < most.toNat
      rotate_left
      · rw [if_pos (by simp only [Bool.or_eq_true,decide_eq_true_eq];omega),Mq (by omega)]
      rw [if_neg (by simp only [Bool.or_eq_true,decide_eq_true_eq];omega),h2]
      simp only [Option.bind_some,w2,w3,s1,s2]
      have sa:=N7 f a hb.a (by omega)
      have sc:=N7 f c hb.c (by omega)
      have ra:∀ u:List Int,u.length≤most.toNat→Z80 f a.flat most u=some ((u ++ a.ws).take most.toNat):=fun u hu=>ih a hb.a (by omega) u most hmost hu
      have rc:∀ u:List Int,u.length≤most.toNat→Z80 f c.flat most u=some ((u ++ c.ws).take most.toNat):=fun u hu=>ih c hb.c (by omega) u most hmost hu
      have next:∀ u:List Int,u.length≤most.toNat→Z81 (Z80 f) l most x u=some ((u ++ r.ws).take most.toNat):=by
        intro u hu
        rw [Z81]
        simp only [w2,w3,s3,Option.bind_some]
        rw [ih r hb.r (by omega) u most hmost hu]
        rfl
      simp only [B.ws]
      by_cases k1:x.Kind=11
      · rw [if_pos k1, if_pos k1, sc]
        simp only [Option.bind_some]
        rw [sa]
        simp only [Option.bind_some]
        by_cases k2:a.steps < c.steps
        · rw [if_pos (by omega), if_pos k2, rc out hout]
          simp only [Option.bind_some]
          rw [next _ Eh,Kb,List.append_assoc]
        · rw [if_neg (by omega), if_neg k2, ra out hout]
          simp only [Option.bind_some]
          rw [next _ Eh,Kb,List.append_assoc]
      · rw [if_neg k1, if_neg k1]
        have oth:Z82 (Z80 f) f (Z81 (Z80 f) l most x) l most out x false=some ((out ++ ((if 0 < cS x.Kind then [x.Kind] else []) ++ r.ws)).take most.toNat):=by
          rw [Z82,if_neg (by decide),Kt]
          simp only [Option.bind_some]
          by_cases k3:0 < cS x.Kind
          · rw [if_pos (by omega), if_pos k3, Jaq (by omega)]
            simp only [Option.bind_some]
            rw [next _ (by simp;omega),List.append_assoc]
          · rw [if_neg (by omega),if_neg k3,next out hout];rfl
        by_cases k2:x.Kind=12
        · rw [if_pos k2, if_pos k2, sa]
          simp only [Option.bind_some]
          have hN:=hN' k2
          by_cases k3:0 < a.steps
          · rw [decide_eq_true (by omega),if_pos k3,Z82,if_pos rfl,show (0:Int)=((0:Nat):Int) from rfl,
              Rt (ws:=a.ws) hN.2 w2 s1 ra x.N.toNat 0 f out (by omega) (by omega) hout,next _ Eh,Kb,List.append_assoc]
          · rw [decide_eq_false (by omega), if_neg k3, oth, k2]
            rfl
        · rw [if_neg k2,if_neg k2,oth]
theorem Qv {l:List api_Stmt} (hl:l.length≤1000) (hs:∀ x∈l,Do x) {most:Int} (hm:most≤1000) :
    ∃ v ws,Z8 1001 l=some v∧Z7v 1001 l=some v∧Z9 1001 l most=some ws∧Z7z 1001 l most=some ws∧ws.length≤most.toNat:=by
  obtain ⟨b,h1,h2,h3⟩:=Wz hl hs
  unfold Z8 Z7v Z9 Z7z
  rw [h1,h2]
  simp only [Option.bind_some]
  cases b with
  | false=>exact ⟨-1,[],rfl,rfl,rfl,rfl,Nat.zero_le _⟩
  | true =>
    obtain ⟨t,ht⟩:=h3.1 rfl
    have hz:=ht.ok.size
    refine ⟨t.steps,([] ++ t.ws).take most.toNat,?_,?_,?_,?_,Eh⟩ <;> rw [if_pos rfl,ht.flat]
    · rw [Jh 1001 t ht.ok (by omega)];rfl
    · rw [N7 1001 t ht.ok (by omega)];rfl
    · rw [show Za 1001 t.flat [] most=_ from Vx 1001 t ht.ok (by omega) [] most hm (Nat.zero_le _)];rfl
    · rw [Tu 1001 t ht.ok (by omega) [] most hm (Nat.zero_le _)];rfl
theorem Jbz {p:api_Prog} (hp:SmallP p) (m:Int) (k:Option Bool):∀ (d j n:Nat),j+d=p.Threads.length→d < n→Z1q 1001 k m p n (j:Int)=k:=by
  intro d
  have hT:=hp.threads
  induction d with
  | zero =>
    intro j n hj hn
    obtain ⟨n,rfl⟩:∃ m,n=m+1:=⟨n - 1,by omega⟩
    rw [Z1q,if_neg (by omega)]
  | succ d ih =>
    intro j n hj hn
    obtain ⟨n,rfl⟩:∃ m,n=m+1:=⟨n - 1,by omega⟩
    have h1:j < p.Threads.length:=by omega
    have hs:=hp.thread _ (List.getElem_mem h1)
    obtain ⟨v,ws,e1,e2,e3,e4,e5⟩:=Qv (l:=p.Threads[j].Body) (by have:=hs.body;omega) hs.small (most:=min m 200) (by omega)
    rw [Z1q,if_pos (by omega),As rfl h1]
    simp only [Option.bind_some]
    rw [e1,e2]
    simp only [Option.bind_some]
    rw [if_neg (fun q=>q rfl),e3,e4]
    simp only [Option.bind_some]
    rw [Jab (by omega) (by omega),decide_eq_true rfl]
    simp only [Option.bind_some]
    rw [Z1p,Yl (by decide)]
    simp only [Option.bind_some]
    rw [Be h1 (by omega)]
    exact ih (j+1) n (by omega) (by omega)
theorem Mi (p1:api_Prog) (p4 p5 p6:Int):Z1n 1001 p1 p4 p5 p6=some true:=by
  unfold Z1n
  obtain ⟨p,hq,hp⟩:=JcO p1
  have hT:=hp.threads
  rw [hq]
  simp only [Option.bind_some]
  have e1:=Jbz hp p5 (Z1o 1001 p4 p6 p) p.Threads.length 0 1001 (by omega) (by omega)
  refine Eq.trans e1 ?_
  obtain ⟨v,h1,h2⟩:∃ v,Z1 1001 p p4=some v∧Z7r 1001 p p4=some v:=by
    by_cases h:OKP p∧0≤p4∧p4≤8
    · obtain ⟨h, c1, c2⟩ := h
      obtain ⟨c,rfl⟩:∃ c:Nat,p4=(c:Int):=⟨p4.toNat,by omega⟩
      exact ⟨_,Yh hp h (by omega)⟩
    · exact ⟨_,Yw hp h⟩
  rw [Z1o,h1,h2]
  simp only [Option.bind_some]
  rw [if_pos trivial,Kk,Kt]
  simp only [Option.bind_some]
  rw [if_pos trivial]
  exact Jcz
end Go.MD.LB
