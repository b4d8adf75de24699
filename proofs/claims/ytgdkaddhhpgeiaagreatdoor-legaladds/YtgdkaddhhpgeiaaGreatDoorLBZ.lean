/- legal.Check is the document's Check. No condition: plain lemmas. -/
import Derived.Test.YtgdkaddhhpgeiaaGreatDoorLBE
namespace Go.MD.LB
open Go Go.MD
structure PB (p:api_Prog):Prop where
  line:∀ l∈p.Lines,Ho l=true
  vols:∀ c∈p.Vols,cellB 4294967296 c=true
  locks:∀ c∈p.Locks,cellB 0 c=true
  recover:p.Recover.length≤1
  named:∀ t∈p.Threads,Ek t=true
  unnamed:∀ t∈p.Recover,Cq t=true
  claims:∀ c∈p.Claims,Fh c=true
theorem Hc {p:api_Prog}:Jg p=true↔PB p:=by
  simp only [Jg,Bool.and_eq_true,List.all_eq_true,decide_eq_true_eq]
  exact ⟨fun ⟨a,b,c,d,e,f,g⟩=>⟨a,b,c,d,e,f,g⟩,fun ⟨a,b,c,d,e,f,g⟩=>⟨a,b,c,d,e,f,g⟩⟩
theorem Qt {a:Int}:Gm a=true↔0≤a∧a≤4000:=by simp [Gm]
theorem PB.cell {p:api_Prog} (h:PB p):∀ c∈Cb p,cellB 4294967296 c=true:=by
  intro c hc
  rcases List.mem_append.1 hc with hc | hc
  · obtain ⟨l, hl, hcl⟩ := List.mem_flatten.1 hc
    have:=h.line l hl
    unfold Ho at this
    rw [Bool.and_eq_true,List.all_eq_true] at this
    exact this.2 c hcl
  · exact h.vols c hc
theorem PB.thread {p:api_Prog} (h:PB p):∀ t∈Cx p,Ed t=true:=by
  intro t ht
  rcases List.mem_append.1 ht with ht | ht
  · have:=h.named t ht;unfold Ek at this;rw [Bool.and_eq_true] at this;exact this.2
  · have:=h.unnamed t ht;unfold Cq at this;rw [Bool.and_eq_true] at this;exact this.2
theorem Jm {t:api_Thread} (h:Ed t=true):(0≤t.At∧t.At≤4000)∧(∀ s∈t.Regs,Cy s=true)∧∃ b,RB t.Body b:=by
  unfold Ed at h
  rw [Bool.and_eq_true,Bool.and_eq_true,List.all_eq_true] at h
  exact ⟨Qt.1 h.1,h.2.1,Qz.1 h.2.2⟩
theorem Kt:∀ (a b:List (Str×Int)) (seen:List Str),Ef (a ++ b) seen=none→Ef a seen=none∧Ef b (seen ++ a.map (·.1))=none
  | [],b,seen,h=>⟨rfl,by simpa using h⟩
  | e :: a, b, seen, h => by
    simp only [List.cons_append,Ef] at h ⊢
    split at h
    · cases h
    · rename_i q
      have:=Kt a b _ h
      rw [if_neg q]
      refine ⟨this.1,?_⟩
      have:=this.2
      rw [List.append_assoc] at this
      simpa using this
theorem Kp:∀ (l:List (Str×Int)) (seen:List Str),Ef l seen=none→∀ e∈l,e.1 ∉ seen
  | [],_,_,e,he=>by cases he
  | x :: l, seen, h, e, he => by
    rw [Ef] at h
    split at h
    · cases h
    · rename_i q
      rcases List.mem_cons.1 he with rfl | he
      · exact q
      · exact fun k=>Kp l _ h e he (List.mem_append_left _ k)
theorem La:∀ (l:List (Str×Int)) (seen:List Str),Ef l seen=none→(l.map (·.1)).Nodup
  | [],_,_=>List.nodup_nil
  | x :: l, seen, h => by
    rw [Ef] at h
    split at h
    · cases h
    · refine List.nodup_cons.2 ⟨fun k => ?_, La l _ h⟩
      obtain ⟨e,he,hx⟩:=List.mem_map.1 k
      exact Kp l _ h e he (by rw [hx];simp)
theorem Ub {p:api_Prog} {G:List Str} (h1:Ef (Dx p) []=none) (h2:Fw (Fu p) G=false):Apt p G:=by
  have h3:=(Kt _ _ _ h1).2
  have h4:=(Kt _ _ _ h3).1
  refine ⟨fun s hs=>?_,fun s hs=>?_⟩
  · obtain ⟨c, hc, rfl⟩ := List.mem_map.1 hs
    have:=Kp _ _ h4 (c.Name,c.At) (List.mem_map.2 ⟨c,hc,rfl⟩)
    rw [← Dc]
    simpa [Function.comp_def] using this
  · have := Ii G _ h2 s hs
    rw [Kj,Dc,not_or] at this
    exact this
def Ia (t:api_Thread):Option Int:=(Z77 1001 t.Body 1).bind fun r=>if r.2=true then some r.1 else none
theorem Vi {t:api_Thread} {o:Option Int} (h:Z77 1001 t.Body 1=some (Lb o)):Ia t=o:=by
  unfold Ia;rw [h]
  cases o <;> rfl
theorem Yj {t:api_Thread} (h:Ed t=true):Z77 1001 t.Body 1=some (Lb (Ia t))∧Z5g 1001 t.Body 1=some ((Ia t).getD (-1))∧∀ v,Ia t=some v→0≤v∧v≤4000:=by
  obtain ⟨_,_,b,hb⟩:=Jm h
  have hat:∀ x∈b.flat,0≤x.At∧x.At≤4000:=fun x hx=>(Vw (hb.fits x (by rw [hb.flat];exact hx))).1
  have hlen:b.size≤40:=by have:=hb.len;rw [hb.flat,B.flat_len] at this;exact this
  have e1:=Vv 1001 b hb.ok (by omega) 1 (by decide) (by decide)
  have e2:=Tu 1001 b hb.ok (fun x hx=>(hat x hx).1) (by omega) 1 (by decide) (by decide)
  rw [← hb.flat] at e1 e2
  rw [Vi e1]
  refine ⟨e1,e2,fun v hv=>?_⟩
  obtain ⟨x,hx,rfl⟩:=Ic b 1 hv
  exact hat x hx
def out (c:Int) (o:Option Int) (k:Option (Int×Int)):Option (Int×Int):=match o with | some v=>some (c,v) | none=>k
theorem Jas {l:List api_Thread} (hl:l.length≤1000) (ht:∀ t∈l,Ed t=true) (k:Option (Int×Int)):∀ (d j n:Nat),j+d=l.length→d < n→Z5s 1001 k l n (j:Int)=out 11 ((l.drop j).findSome? Ia) k:=by
  intro d
  induction d with
  | zero =>
    intro j n hj hn
    obtain ⟨n,rfl⟩:∃ m,n=m+1:=⟨n - 1,by omega⟩
    rw [Z5s,if_neg (by omega),List.drop_of_length_le (by omega)];rfl
  | succ d ih =>
    intro j n hj hn
    obtain ⟨n,rfl⟩:∃ m,n=m+1:=⟨n - 1,by omega⟩
    have h1:j < l.length:=by omega
    rw [Z5s,if_pos (by omega),Ax rfl h1]
    simp only [Option.bind_some]
    rw [(Yj (ht _ (List.getElem_mem h1))).1,List.drop_eq_getElem_cons h1,List.findSome?_cons]
    simp only [Option.bind_some]
    cases Ia l[j] with
    | some v=>rfl
    | none=>rw [if_neg (by simp [Lb]),Bf h1 (by omega),ih (j+1) n (by omega) (by omega)]
def N8 (p:api_Prog) (t:api_Thread):Option Int:=if Fw (Fu p) t.Regs=true then some t.At else none
theorem JaT {p:api_Prog} {l:List api_Thread} (hl:l.length≤1000) (ht:∀ t∈l,SmallT t) (k:Option (Int×Int)) (a:Int) (b:Bool):∀ (d j n:Nat),j+d=l.length→d < n→Z5t 1001 k (Jo p,a,b) l n (j:Int)=out 10 ((l.drop j).findSome? (N8 p)) k:=by
  intro d
  induction d with
  | zero =>
    intro j n hj hn
    obtain ⟨n,rfl⟩:∃ m,n=m+1:=⟨n - 1,by omega⟩
    rw [Z5t,if_neg (by omega),List.drop_of_length_le (by omega)];rfl
  | succ d ih =>
    intro j n hj hn
    obtain ⟨n,rfl⟩:∃ m,n=m+1:=⟨n - 1,by omega⟩
    have h1:j < l.length:=by omega
    have hs:=ht _ (List.getElem_mem h1)
    rw [Z5t,if_pos (by omega),Ax rfl h1]
    simp only [Option.bind_some]
    rw [Mp (by have:=hs.regs;omega),List.drop_eq_getElem_cons h1,List.findSome?_cons]
    simp only [Option.bind_some]
    unfold N8
    cases Fw (Fu p) l[j].Regs with
    | true=>rfl
    | false=>rw [if_neg (by simp),Bf h1 (by omega),ih (j+1) n (by omega) (by omega)];rfl
def Pe (p:api_Prog) (t:api_Thread):Option Int:=t.Body.findSome? (Pq p t.Regs)
theorem Yx {p:api_Prog} {l:List api_Thread} (hl:l.length≤1000) (ht:∀ t∈l,SmallT t) (hr:∀ t∈l,Fw (Fu p) t.Regs=false) (k:Option (Int×Int)) (a:Int) (b:Bool):∀ (d j n:Nat),j+d=l.length→d < n→Z5u 1001 k (Jo p,a,b) l n (j:Int)=out 9 ((l.drop j).findSome? (Pe p)) k:=by
  intro d
  induction d with
  | zero =>
    intro j n hj hn
    obtain ⟨n,rfl⟩:∃ m,n=m+1:=⟨n - 1,by omega⟩
    rw [Z5u,if_neg (by omega),List.drop_of_length_le (by omega)];rfl
  | succ d ih =>
    intro j n hj hn
    obtain ⟨n,rfl⟩:∃ m,n=m+1:=⟨n - 1,by omega⟩
    have h1:j < l.length:=by omega
    have hs:=ht _ (List.getElem_mem h1)
    rw [Z5u,if_pos (by omega),Ax rfl h1]
    simp only [Option.bind_some]
    rw [Mp (by have:=hs.regs;omega),hr _ (List.getElem_mem h1),if_neg (by decide)]
    simp only [Option.bind_some,Z6u]
    rw [Ra (by have:=hs.body;omega) hs.small,List.drop_eq_getElem_cons h1,List.findSome?_cons]
    simp only [Option.bind_some]
    unfold Pe
    cases l[j].Body.findSome? (Pq p l[j].Regs) with
    | some v=>rfl
    | none=>simp only;rw [Bf h1 (by omega),ih (j+1) n (by omega) (by omega)];rfl
def N4 (p:api_Prog) (c:api_Claim):Option Int:=c.E.findSome? (Jq (A1 p))
theorem Ur (p:api_Prog) (s:Str):(Bd s (Jo p)).getD 0=1↔s∈A1 p:=by
  rw [Sd]
  simp only [Eg,Gw]
  rw [Co (f:=fun c:api_Cell=>c.Name),Co (f:=fun c:api_Cell=>c.Name),Co (f:=fun c:api_Cell=>c.Name),Co (f:=fun t:api_Thread=>t.Name)]
  unfold A1
  split
  · rename_i h;exact ⟨fun _=>h,fun _=>rfl⟩
  · simp only [*, iff_false, Option.none_or]
    split
    · simp
    · simp only [Option.none_or]
      split
      · simp
      · simp only [Option.none_or];split <;> simp
theorem Jaa {p:api_Prog} {c:api_Claim} (hc:c.E.length≤60) (k:Option (Int×Int)) (a:Int) (b:Bool):∀ (d j n:Nat),j+d=c.E.length→d < n→Z5r 1001 k (Jo p,a,b) c n (j:Int)=out 9 ((c.E.drop j).findSome? (Jq (A1 p))) k:=by
  intro d
  induction d with
  | zero =>
    intro j n hj hn
    obtain ⟨n,rfl⟩:∃ m,n=m+1:=⟨n - 1,by omega⟩
    rw [Z5r,if_neg (by omega),List.drop_of_length_le (by omega)];rfl
  | succ d ih =>
    intro j n hj hn
    obtain ⟨n,rfl⟩:∃ m,n=m+1:=⟨n - 1,by omega⟩
    have h1:j < c.E.length:=by omega
    rw [Z5r,if_pos (by omega),Ax rfl h1]
    simp only [Option.bind_some]
    rw [List.drop_eq_getElem_cons h1,List.findSome?_cons,Jq]
    have hw:=Ur p c.E[j].Name
    by_cases h:c.E[j].Op=2∧c.E[j].Name ∉ A1 p
    · rw [if_pos h,if_pos (by rw [Bool.and_eq_true,decide_eq_true_eq,decide_eq_true_eq];exact ⟨h.1,fun q=>h.2 (hw.1 q)⟩)];rfl
    · rw [if_neg h,if_neg (by rw [Bool.and_eq_true,decide_eq_true_eq,decide_eq_true_eq];exact fun q=>h ⟨q.1,fun z=>q.2 (hw.2 z)⟩),Bf h1 (by omega),ih (j+1) n (by omega) (by omega)]
theorem Wl {p:api_Prog} (hp:SmallP p) (k:Option (Int×Int)) (a:Int) (b:Bool):∀ (d j n:Nat),j+d=p.Claims.length→d < n→Z5v 1001 k p (Jo p,a,b) n (j:Int)=out 9 ((p.Claims.drop j).findSome? (N4 p)) k:=by
  intro d
  have hC:=hp.claims
  induction d with
  | zero =>
    intro j n hj hn
    obtain ⟨n,rfl⟩:∃ m,n=m+1:=⟨n - 1,by omega⟩
    rw [Z5v,if_neg (by omega),List.drop_of_length_le (by omega)];rfl
  | succ d ih =>
    intro j n hj hn
    obtain ⟨n,rfl⟩:∃ m,n=m+1:=⟨n - 1,by omega⟩
    have h1:j < p.Claims.length:=by omega
    have hs:=hp.claim _ (List.getElem_mem h1)
    rw [Z5v,if_pos (by omega),Ax rfl h1]
    simp only [Option.bind_some]
    rw [show (0:Int)=((0:Nat):Int) from rfl,Jaa hs _ a b p.Claims[j].E.length 0 1001 (by omega) (by omega),List.drop_zero,List.drop_eq_getElem_cons h1,List.findSome?_cons]
    unfold N4
    cases p.Claims[j].E.findSome? (Jq (A1 p)) with
    | some v=>rfl
    | none=>simp only [out];rw [Z5n,Bf h1 (by omega),ih (j+1) n (by omega) (by omega)];rfl
noncomputable def Gg (p:api_Prog):Option (Int×Int):=
  if Jg p=true then if Lo p=true then some (2,0) else
    out 11 ((Cx p).findSome? Ia) (out 10 (Ef (Dx p) []) (out 10 ((Cx p).findSome? (N8 p)) (out 9 ((Cx p).findSome? (Pe p)) (out 9 (p.Claims.findSome? (N4 p)) (some (0,0))))))
  else some (8,0)
theorem Je {α β:Type} {f:α→Option β} {l:List α} (h:l.findSome? f=none):∀ x∈l,f x=none:=List.findSome?_eq_none_iff.1 h
theorem Oh {p:api_Prog} (hp:SmallP p):Z5k 1001 p=Gg p:=by
  have hA:=Ls hp
  obtain ⟨n1,n2⟩:=Tk hp
  unfold Z5k Gg
  have hN:∃ r,Z6h 1001 p=some r∧∀ (q:Jg p=true),Z5m 1001 p r=out 10 (Ef (Dx p) []) (out 10 ((Cx p).findSome? (N8 p)) (out 9 ((Cx p).findSome? (Pe p)) (out 9 (p.Claims.findSome? (N4 p)) (some (0,0))))):=by
    cases hd:Ef (Dx p) [] with
    | some v =>
      obtain ⟨m,hm⟩:=n1 v hd
      exact ⟨_,hm,fun _=>by rw [Z5m,if_pos rfl];rfl⟩
    | none =>
      refine ⟨_,n2 hd,fun q=>?_⟩
      rw [Z5m,if_neg (show ¬ ((false:Bool)=true) from Bool.false_ne_true),Fp hp]
      simp only [Option.bind_some]
      have e1:=JaT (p:=p) (l:=Cx p) (by omega) hA.2 (Z5o 1001 p (Jo p,0,false)) 0 false (Cx p).length 0 1001 (by omega) (by omega)
      rw [List.drop_zero] at e1
      refine Eq.trans e1 ?_
      cases hr:(Cx p).findSome? (N8 p) with
      | some v=>rfl
      | none =>
        have hr':∀ t∈Cx p,Fw (Fu p) t.Regs=false:=by
          intro t ht
          have:=Je hr t ht
          unfold N8 at this
          split at this
          · cases this
          · rename_i z;simpa using z
        simp only [out]
        rw [Z5o,Fp hp]
        simp only [Option.bind_some]
        have e2:=Yx (p:=p) (l:=Cx p) (by omega) hA.2 hr' (Z5p 1001 p (Jo p,0,false)) 0 false (Cx p).length 0 1001 (by omega) (by omega)
        rw [List.drop_zero] at e2
        refine Eq.trans e2 ?_
        cases (Cx p).findSome? (Pe p) with
        | some v=>rfl
        | none =>
          simp only [out]
          rw [Z5p]
          have e3:=Wl hp Z5q 0 false p.Claims.length 0 1001 (by omega) (by have:=hp.claims;omega)
          rw [List.drop_zero] at e3
          exact e3
  obtain ⟨r,hr,hj⟩:=hN
  rw [hr]
  simp only [Option.bind_some]
  rw [Sk hp]
  simp only [Option.bind_some]
  cases hq:Jg p with
  | false=>rfl
  | true =>
    rw [if_pos rfl,if_pos rfl,Ye hp]
    simp only [Option.bind_some]
    cases Lo p with
    | true=>rfl
    | false =>
      rw [if_neg (by decide),if_neg (by decide),Fp hp]
      simp only [Option.bind_some]
      have e1:=Jas (l:=Cx p) (by omega) (Hc.1 hq).thread (Z5m 1001 p r) (Cx p).length 0 1001 (by omega) (by omega)
      rw [List.drop_zero,hj hq] at e1
      rw [hj hq]
      exact e1
theorem Jk {p:api_Prog}:∃ r,Gg p=some r:=by
  unfold Gg
  split
  · split
    · exact ⟨_,rfl⟩
    · unfold out
      split
      · exact ⟨_,rfl⟩
      · split
        · exact ⟨_,rfl⟩
        · split
          · exact ⟨_,rfl⟩
          · split
            · exact ⟨_,rfl⟩
            · split <;> exact ⟨_,rfl⟩
  · exact ⟨_,rfl⟩
end Go.MD.LB
