/- legal.Check is the document's Check. No condition: plain lemmas. -/
import Derived.Test.YtgdkaddhhpgeiaaGreatDoorLBE
namespace Go.MD.LB
open Go Go.MD
structure PB (p:api_Prog):Prop where
  line:∀ l∈p.Lines,Gk l=true
  vols:∀ c∈p.Vols,cellB 4294967296 c=true
  locks:∀ c∈p.Locks,cellB 0 c=true
  recover:p.Recover.length≤1
  named:∀ t∈p.Threads,Dh t=true
  unnamed:∀ t∈p.Recover,Cd t=true
  claims:∀ c∈p.Claims,Dw c=true
theorem Hz {p:api_Prog}:Hl p=true↔PB p:=by
  simp only [Hl,Bool.and_eq_true,List.all_eq_true,decide_eq_true_eq]
  exact ⟨fun ⟨a,b,c,d,e,f,g⟩=>⟨a,b,c,d,e,f,g⟩,fun ⟨a,b,c,d,e,f,g⟩=>⟨a,b,c,d,e,f,g⟩⟩
theorem Lv {a:Int}:Ez a=true↔0≤a∧a≤4000:=by simp [Ez]
theorem Qg {m:Int} {c:api_Cell} (h:cellB m c=true):0≤c.At∧c.At≤4000:=by
  unfold cellB at h;rw [Bool.and_eq_true] at h;exact Lv.1 h.2
theorem PB.cell {p:api_Prog} (h:PB p):∀ c∈Ce p,cellB 4294967296 c=true:=by
  intro c hc
  rcases List.mem_append.1 hc with hc | hc
  · obtain ⟨l, hl, hcl⟩ := List.mem_flatten.1 hc
    have:=h.line l hl
    unfold Gk at this
    rw [Bool.and_eq_true,List.all_eq_true] at this
    exact this.2 c hcl
  · exact h.vols c hc
theorem PB.thread {p:api_Prog} (h:PB p):∀ t∈Cq p,Dp t=true:=by
  intro t ht
  rcases List.mem_append.1 ht with ht | ht
  · have:=h.named t ht;unfold Dh at this;rw [Bool.and_eq_true] at this;exact this.2
  · have:=h.unnamed t ht;unfold Cd at this;rw [Bool.and_eq_true] at this;exact this.2
theorem Ex {t:api_Thread} (h:Dp t=true):(0≤t.At∧t.At≤4000)∧(∀ s∈t.Regs,Cj s=true)∧∃ b,RB t.Body b:=by
  unfold Dp at h
  rw [Bool.and_eq_true,Bool.and_eq_true,List.all_eq_true] at h
  exact ⟨Lv.1 h.1,h.2.1,Rv.1 h.2.2⟩
theorem Tm {p:api_Prog} (h:PB p):∀ e∈Dv p,0≤e.2∧e.2≤4000:=by
  intro e he
  simp only [Dv,List.mem_append,List.mem_map] at he
  rcases he with ⟨x,hx,rfl⟩ | ⟨x,hx,rfl⟩ | ⟨x,hx,rfl⟩
  · exact Qg (h.cell x hx)
  · exact Qg (h.locks x hx)
  · exact (Ex (h.thread x (List.mem_append_left _ hx))).1
theorem Sy:∀ {l:List (Str×Int)} {seen:List Str} {v:Int},Ev l seen=some v→∃ e∈l,e.2=v
  | [],_,_,h=>by simp [Ev] at h
  | e :: l, seen, v, h => by
    rw [Ev] at h
    split at h
    · exact ⟨e,.head _,Option.some.inj h⟩
    · obtain ⟨x,h1,h2⟩:=Sy h;exact ⟨x,.tail _ h1,h2⟩
theorem Ll:∀ (a b:List (Str×Int)) (seen:List Str),Ev (a ++ b) seen=none→Ev a seen=none∧Ev b (seen ++ a.map (·.1))=none
  | [],b,seen,h=>⟨rfl,by simpa using h⟩
  | e :: a, b, seen, h => by
    simp only [List.cons_append,Ev] at h ⊢
    split at h
    · cases h
    · rename_i q
      have:=Ll a b _ h
      rw [if_neg q]
      refine ⟨this.1,?_⟩
      have:=this.2
      rw [List.append_assoc] at this
      simpa using this
theorem Oj:∀ (l:List (Str×Int)) (seen:List Str),Ev l seen=none→∀ e∈l,e.1 ∉ seen
  | [],_,_,e,he=>by cases he
  | x :: l, seen, h, e, he => by
    rw [Ev] at h
    split at h
    · cases h
    · rename_i q
      rcases List.mem_cons.1 he with rfl | he
      · exact q
      · exact fun k=>Oj l _ h e he (List.mem_append_left _ k)
theorem Jbk {p:api_Prog} {G:List Str} (h1:Ev (Dv p) []=none) (h2:Gy (Fi p) G=false):Apt p G:=by
  have h3:=(Ll _ _ _ h1).2
  have h4:=(Ll _ _ _ h3).1
  refine ⟨fun s hs=>?_,fun s hs=>?_⟩
  · obtain ⟨c, hc, rfl⟩ := List.mem_map.1 hs
    have:=Oj _ _ h4 (c.Name,c.At) (List.mem_map.2 ⟨c,hc,rfl⟩)
    rw [← Ep]
    simpa [Function.comp_def] using this
  · have := Pd G _ h2 s hs
    rw [Jj,Ep,not_or] at this
    exact this
def Ha (t:api_Thread):Option Int:=(Z9g 1001 t.Body 1).bind fun r=>if r.2=true then some r.1 else none
theorem Wm {t:api_Thread} {o:Option Int} (h:Z9g 1001 t.Body 1=some (Mb o)):Ha t=o:=by
  unfold Ha;rw [h]
  cases o <;> rfl
theorem Xn {t:api_Thread} (h:Dp t=true):Z9g 1001 t.Body 1=some (Mb (Ha t))∧Z7m 1001 t.Body 1=some ((Ha t).getD (-1))∧∀ v,Ha t=some v→0≤v∧v≤4000:=by
  obtain ⟨_,_,b,hb⟩:=Ex h
  have hat:∀ x∈b.flat,0≤x.At∧x.At≤4000:=fun x hx=>(Nu (hb.fits x (by rw [hb.flat];exact hx))).1
  have hlen:b.size≤40:=by have:=hb.len;rw [hb.flat,B.flat_len] at this;exact this
  have e1:=Yx 1001 b hb.ok (by omega) 1 (by decide) (by decide)
  have e2:=Uv 1001 b hb.ok (fun x hx=>(hat x hx).1) (by omega) 1 (by decide) (by decide)
  rw [← hb.flat] at e1 e2
  rw [Wm e1]
  refine ⟨e1,e2,fun v hv=>?_⟩
  obtain ⟨x,hx,rfl⟩:=Je b 1 hv
  exact hat x hx
def out (c:Int) (o:Option Int) (k:Option (Int×Int)):Option (Int×Int):=match o with | some v=>some (c,v) | none=>k
theorem Jc3 {l:List api_Thread} (hl:l.length≤1000) (ht:∀ t∈l,Dp t=true) (k:Option (Int×Int)):∀ (d j n:Nat),j+d=l.length→d < n→Z8c 1001 k l n (j:Int)=out 11 ((l.drop j).findSome? Ha) k:=by
  intro d
  induction d with
  | zero =>
    intro j n hj hn
    obtain ⟨n,rfl⟩:∃ m,n=m+1:=⟨n - 1,by omega⟩
    rw [Z8c,if_neg (by omega),List.drop_of_length_le (by omega)];rfl
  | succ d ih =>
    intro j n hj hn
    obtain ⟨n,rfl⟩:∃ m,n=m+1:=⟨n - 1,by omega⟩
    have h1:j < l.length:=by omega
    rw [Z8c,if_pos (by omega),As rfl h1]
    simp only [Option.bind_some]
    rw [(Xn (ht _ (List.getElem_mem h1))).1,List.drop_eq_getElem_cons h1,List.findSome?_cons]
    simp only [Option.bind_some]
    cases Ha l[j] with
    | some v=>rfl
    | none=>rw [if_neg (by simp [Mb]),Be h1 (by omega),ih (j+1) n (by omega) (by omega)]
theorem Jbe {l:List api_Thread} (hl:l.length≤1000) (ht:∀ t∈l,Dp t=true) (k:Option (Int×Int)):∀ (d j n:Nat),j+d=l.length→d < n→Z6l 1001 k l n (j:Int)=out 11 ((l.drop j).findSome? Ha) k:=by
  intro d
  induction d with
  | zero =>
    intro j n hj hn
    obtain ⟨n,rfl⟩:∃ m,n=m+1:=⟨n - 1,by omega⟩
    rw [Z6l,if_neg (by omega),List.drop_of_length_le (by omega)];rfl
  | succ d ih =>
    intro j n hj hn
    obtain ⟨n,rfl⟩:∃ m,n=m+1:=⟨n - 1,by omega⟩
    have h1:j < l.length:=by omega
    have hw:=Xn (ht _ (List.getElem_mem h1))
    rw [Z6l,if_pos (by omega),As rfl h1]
    simp only [Option.bind_some]
    rw [hw.2.1,List.drop_eq_getElem_cons h1,List.findSome?_cons]
    simp only [Option.bind_some]
    cases hv:Ha l[j] with
    | some v=>rw [if_pos (by have:=(hw.2.2 v hv).1;simpa using this)];rfl
    | none=>rw [if_neg (by simp),Be h1 (by omega),ih (j+1) n (by omega) (by omega)]
def Jn (p:api_Prog) (t:api_Thread):Option Int:=if Gy (Fi p) t.Regs=true then some t.At else none
theorem Jbu {p:api_Prog} {l:List api_Thread} (hl:l.length≤1000) (ht:∀ t∈l,SmallT t) (k:Option (Int×Int)) (a:Int) (b:Bool):∀ (d j n:Nat),j+d=l.length→d < n→Z8d 1001 k (Kh p,a,b) l n (j:Int)=out 10 ((l.drop j).findSome? (Jn p)) k:=by
  intro d
  induction d with
  | zero =>
    intro j n hj hn
    obtain ⟨n,rfl⟩:∃ m,n=m+1:=⟨n - 1,by omega⟩
    rw [Z8d,if_neg (by omega),List.drop_of_length_le (by omega)];rfl
  | succ d ih =>
    intro j n hj hn
    obtain ⟨n,rfl⟩:∃ m,n=m+1:=⟨n - 1,by omega⟩
    have h1:j < l.length:=by omega
    have hs:=ht _ (List.getElem_mem h1)
    rw [Z8d,if_pos (by omega),As rfl h1]
    simp only [Option.bind_some]
    rw [Mv (by have:=hs.regs;omega),List.drop_eq_getElem_cons h1,List.findSome?_cons]
    simp only [Option.bind_some]
    unfold Jn
    cases Gy (Fi p) l[j].Regs with
    | true=>rfl
    | false=>rw [if_neg (by simp),Be h1 (by omega),ih (j+1) n (by omega) (by omega)];rfl
theorem JaH {p:api_Prog} (hp:SmallP p) {l:List api_Thread} (hl:l.length≤1000) (ht:∀ t∈l,SmallT t) (k:Option (Int×Int)):∀ (d j n:Nat),j+d=l.length→d < n→Z6m 1001 k p l n (j:Int)=out 10 ((l.drop j).findSome? (Jn p)) k:=by
  intro d
  induction d with
  | zero =>
    intro j n hj hn
    obtain ⟨n,rfl⟩:∃ m,n=m+1:=⟨n - 1,by omega⟩
    rw [Z6m,if_neg (by omega),List.drop_of_length_le (by omega)];rfl
  | succ d ih =>
    intro j n hj hn
    obtain ⟨n,rfl⟩:∃ m,n=m+1:=⟨n - 1,by omega⟩
    have h1:j < l.length:=by omega
    have hs:=ht _ (List.getElem_mem h1)
    rw [Z6m,if_pos (by omega),show (0:Int)=((0:Nat):Int) from rfl,Pr hp h1 (by have:=hs.regs;omega) _ l[j].Regs.length 0 1001 (by omega) (by have:=hs.regs;omega),
      List.take_zero,List.append_nil,List.drop_zero,List.drop_eq_getElem_cons h1,List.findSome?_cons]
    unfold Jn
    cases Gy (Fi p) l[j].Regs with
    | true=>rfl
    | false=>rw [if_neg (by decide),Z6g,Be h1 (by omega),ih (j+1) n (by omega) (by omega)];rfl
def Iw (p:api_Prog) (t:api_Thread):Option Int:=t.Body.findSome? (Kx p t.Regs)
theorem Jbi {p:api_Prog} {l:List api_Thread} (hl:l.length≤1000) (ht:∀ t∈l,SmallT t) (hr:∀ t∈l,Gy (Fi p) t.Regs=false) (k:Option (Int×Int)) (a:Int) (b:Bool):∀ (d j n:Nat),j+d=l.length→d < n→Z8e 1001 k (Kh p,a,b) l n (j:Int)=out 9 ((l.drop j).findSome? (Iw p)) k:=by
  intro d
  induction d with
  | zero =>
    intro j n hj hn
    obtain ⟨n,rfl⟩:∃ m,n=m+1:=⟨n - 1,by omega⟩
    rw [Z8e,if_neg (by omega),List.drop_of_length_le (by omega)];rfl
  | succ d ih =>
    intro j n hj hn
    obtain ⟨n,rfl⟩:∃ m,n=m+1:=⟨n - 1,by omega⟩
    have h1:j < l.length:=by omega
    have hs:=ht _ (List.getElem_mem h1)
    rw [Z8e,if_pos (by omega),As rfl h1]
    simp only [Option.bind_some]
    rw [Mv (by have:=hs.regs;omega),hr _ (List.getElem_mem h1),if_neg (by decide)]
    simp only [Option.bind_some,Z93]
    rw [Qo (by have:=hs.body;omega) hs.small,List.drop_eq_getElem_cons h1,List.findSome?_cons]
    simp only [Option.bind_some]
    unfold Iw
    cases l[j].Body.findSome? (Kx p l[j].Regs) with
    | some v=>rfl
    | none=>simp only;rw [Be h1 (by omega),ih (j+1) n (by omega) (by omega)];rfl
theorem JaG {p:api_Prog} (hp:SmallP p) {l:List api_Thread} {i:Nat} (hi:i < l.length) (hs:SmallT l[i]) (hf:∀ x∈l[i].Body,Cz x=true) (ha:Apt p l[i].Regs) (k:Option (Int×Int)):∀ (d j n:Nat),j+d=l[i].Body.length→d < n→
    Z6j 1001 k p l (i:Int) n (j:Int)=out 9 ((l[i].Body.drop j).findSome? (Kx p l[i].Regs)) k:=by
  intro d
  have hB:=hs.body
  induction d with
  | zero =>
    intro j n hj hn
    obtain ⟨n,rfl⟩:∃ m,n=m+1:=⟨n - 1,by omega⟩
    rw [Z6j,As rfl hi]
    simp only [Option.bind_some]
    rw [if_neg (by omega),List.drop_of_length_le (by omega)];rfl
  | succ d ih =>
    intro j n hj hn
    obtain ⟨n,rfl⟩:∃ m,n=m+1:=⟨n - 1,by omega⟩
    have h1:j < l[i].Body.length:=by omega
    have hx:=hf _ (List.getElem_mem h1)
    rw [Z6j,As rfl hi]
    simp only [Option.bind_some]
    rw [if_pos (by omega),As rfl h1]
    simp only [Option.bind_some]
    rw [Xy hp (by have:=hs.regs;omega) ha hx,List.drop_eq_getElem_cons h1,List.findSome?_cons]
    simp only [Option.bind_some]
    cases hv:Kx p l[i].Regs l[i].Body[j] with
    | some v=>rw [if_pos (by have:=(Jah hx hv).1;simpa using this)];rfl
    | none=>rw [if_neg (by simp),Be h1 (by omega),ih (j+1) n (by omega) (by omega)]
theorem Yu {p:api_Prog} (hp:SmallP p) {l:List api_Thread} (hl:l.length≤1000) (ht:∀ t∈l,SmallT t) (hf:∀ t∈l,∀ x∈t.Body,Cz x=true) (ha:∀ t∈l,Apt p t.Regs) (k:Option (Int×Int)):∀ (d j n:Nat),j+d=l.length→d < n→
    Z6o 1001 k p l n (j:Int)=out 9 ((l.drop j).findSome? (Iw p)) k:=by
  intro d
  induction d with
  | zero =>
    intro j n hj hn
    obtain ⟨n,rfl⟩:∃ m,n=m+1:=⟨n - 1,by omega⟩
    rw [Z6o,if_neg (by omega),List.drop_of_length_le (by omega)];rfl
  | succ d ih =>
    intro j n hj hn
    obtain ⟨n,rfl⟩:∃ m,n=m+1:=⟨n - 1,by omega⟩
    have h1:j < l.length:=by omega
    have hm:=List.getElem_mem h1
    have hs:=ht _ hm
    rw [Z6o,if_pos (by omega),show (0:Int)=((0:Nat):Int) from rfl,JaG hp h1 hs (hf _ hm) (ha _ hm) _ l[j].Body.length 0 1001 (by omega) (by have:=hs.body;omega),List.drop_zero,List.drop_eq_getElem_cons h1,List.findSome?_cons]
    unfold Iw
    cases l[j].Body.findSome? (Kx p l[j].Regs) with
    | some v=>rfl
    | none=>simp only [out];rw [Z6d,Be h1 (by omega),ih (j+1) n (by omega) (by omega)];rfl
def Ip (p:api_Prog) (c:api_Claim):Option Int:=c.E.findSome? (Ff (A1 p))
theorem Vw (p:api_Prog) (s:Str):(Bf s (Kh p)).getD 0=1↔s∈A1 p:=by
  rw [Sz]
  simp only [Fq,Hw]
  rw [Dj (f:=fun c:api_Cell=>c.Name),Dj (f:=fun c:api_Cell=>c.Name),Dj (f:=fun c:api_Cell=>c.Name),Dj (f:=fun t:api_Thread=>t.Name)]
  unfold A1
  split
  · rename_i h;exact ⟨fun _=>h,fun _=>rfl⟩
  · simp only [*, iff_false, Option.none_or]
    split
    · simp
    · simp only [Option.none_or]
      split
      · simp
      · simp only [Option.none_or];split <;> simp
theorem Jbd {p:api_Prog} {c:api_Claim} (hc:c.E.length≤60) (k:Option (Int×Int)) (a:Int) (b:Bool):∀ (d j n:Nat),j+d=c.E.length→d < n→Z8b 1001 k (Kh p,a,b) c n (j:Int)=out 9 ((c.E.drop j).findSome? (Ff (A1 p))) k:=by
  intro d
  induction d with
  | zero =>
    intro j n hj hn
    obtain ⟨n,rfl⟩:∃ m,n=m+1:=⟨n - 1,by omega⟩
    rw [Z8b,if_neg (by omega),List.drop_of_length_le (by omega)];rfl
  | succ d ih =>
    intro j n hj hn
    obtain ⟨n,rfl⟩:∃ m,n=m+1:=⟨n - 1,by omega⟩
    have h1:j < c.E.length:=by omega
    rw [Z8b,if_pos (by omega),As rfl h1]
    simp only [Option.bind_some]
    rw [List.drop_eq_getElem_cons h1,List.findSome?_cons,Ff]
    have hw:=Vw p c.E[j].Name
    by_cases h:c.E[j].Op=2∧c.E[j].Name ∉ A1 p
    · rw [if_pos h,if_pos (by rw [Bool.and_eq_true,decide_eq_true_eq,decide_eq_true_eq];exact ⟨h.1,fun q=>h.2 (hw.1 q)⟩)];rfl
    · rw [if_neg h,if_neg (by rw [Bool.and_eq_true,decide_eq_true_eq,decide_eq_true_eq];exact fun q=>h ⟨q.1,fun z=>q.2 (hw.2 z)⟩),Be h1 (by omega),ih (j+1) n (by omega) (by omega)]
theorem Xx {p:api_Prog} (hp:SmallP p) (k:Option (Int×Int)) (a:Int) (b:Bool):∀ (d j n:Nat),j+d=p.Claims.length→d < n→Z8f 1001 k p (Kh p,a,b) n (j:Int)=out 9 ((p.Claims.drop j).findSome? (Ip p)) k:=by
  intro d
  have hC:=hp.claims
  induction d with
  | zero =>
    intro j n hj hn
    obtain ⟨n,rfl⟩:∃ m,n=m+1:=⟨n - 1,by omega⟩
    rw [Z8f,if_neg (by omega),List.drop_of_length_le (by omega)];rfl
  | succ d ih =>
    intro j n hj hn
    obtain ⟨n,rfl⟩:∃ m,n=m+1:=⟨n - 1,by omega⟩
    have h1:j < p.Claims.length:=by omega
    have hs:=hp.claim _ (List.getElem_mem h1)
    rw [Z8f,if_pos (by omega),As rfl h1]
    simp only [Option.bind_some]
    rw [show (0:Int)=((0:Nat):Int) from rfl,Jbd hs _ a b p.Claims[j].E.length 0 1001 (by omega) (by omega),List.drop_zero,List.drop_eq_getElem_cons h1,List.findSome?_cons]
    unfold Ip
    cases p.Claims[j].E.findSome? (Ff (A1 p)) with
    | some v=>rfl
    | none=>simp only [out];rw [Z87,Be h1 (by omega),ih (j+1) n (by omega) (by omega)];rfl
theorem Wc {c:api_Claim} (h:Dw c=true):∀ x∈c.E,0≤x.At∧x.At≤4000:=by
  unfold Dw at h
  rw [Bool.and_eq_true] at h
  exact (Ve (is:=true) (l:=c.E) h.2).2
theorem Vu {p:api_Prog} (hp:SmallP p) (hc:∀ c∈p.Claims,Dw c=true) (k:Option (Int×Int)):∀ (d j n:Nat),j+d=p.Claims.length→d < n→Z6k 1001 k p (A1 p) n (j:Int)=out 9 ((p.Claims.drop j).findSome? (Ip p)) k:=by
  intro d
  have hC:=hp.claims
  have hF:=Eb hp
  have hA:(A1 p).length≤56:=by have e:=congrArg List.length (Ep p);simp only [List.length_map,List.length_append] at e;omega
  induction d with
  | zero =>
    intro j n hj hn
    obtain ⟨n,rfl⟩:∃ m,n=m+1:=⟨n - 1,by omega⟩
    rw [Z6k,if_neg (by omega),List.drop_of_length_le (by omega)];rfl
  | succ d ih =>
    intro j n hj hn
    obtain ⟨n,rfl⟩:∃ m,n=m+1:=⟨n - 1,by omega⟩
    have h1:j < p.Claims.length:=by omega
    have hs:=hp.claim _ (List.getElem_mem h1)
    rw [Z6k,if_pos (by omega),As rfl h1]
    simp only [Option.bind_some]
    rw [Md (by omega) (by omega),List.drop_eq_getElem_cons h1,List.findSome?_cons]
    simp only [Option.bind_some]
    unfold Ip
    cases hv:p.Claims[j].E.findSome? (Ff (A1 p)) with
    | some v=>rw [if_pos (by have:=Vl (fun x hx=>(Wc (hc _ (List.getElem_mem h1)) x hx).1) hv;simpa using this)];rfl
    | none=>rw [if_neg (by simp),Be h1 (by omega),ih (j+1) n (by omega) (by omega)];rfl
noncomputable def Hq (p:api_Prog):Option (Int×Int):=
  if Hl p=true then if N5 p=true then some (2,0) else
    out 11 ((Cq p).findSome? Ha) (out 10 (Ev (Dv p) []) (out 10 ((Cq p).findSome? (Jn p)) (out 9 ((Cq p).findSome? (Iw p)) (out 9 (p.Claims.findSome? (Ip p)) (some (0,0))))))
  else some (8,0)
theorem H4 {α β:Type} {f:α→Option β} {l:List α} (h:l.findSome? f=none):∀ x∈l,f x=none:=List.findSome?_eq_none_iff.1 h
theorem Ow {p:api_Prog} (hp:SmallP p):Z84 1001 p=Hq p:=by
  have hA:=Gq hp
  obtain ⟨n1,n2⟩:=Tp hp
  unfold Z84 Hq
  have hN:∃ r,Z8q 1001 p=some r∧∀ (q:Hl p=true),Z86 1001 p r=out 10 (Ev (Dv p) []) (out 10 ((Cq p).findSome? (Jn p)) (out 9 ((Cq p).findSome? (Iw p)) (out 9 (p.Claims.findSome? (Ip p)) (some (0,0))))):=by
    cases hd:Ev (Dv p) [] with
    | some v =>
      obtain ⟨m,hm⟩:=n1 v hd
      exact ⟨_,hm,fun _=>by rw [Z86,if_pos rfl];rfl⟩
    | none =>
      refine ⟨_,n2 hd,fun q=>?_⟩
      rw [Z86,if_neg (show ¬ ((false:Bool)=true) from Bool.false_ne_true),Gm hp]
      simp only [Option.bind_some]
      have e1:=Jbu (p:=p) (l:=Cq p) (by omega) hA.2 (Z88 1001 p (Kh p,0,false)) 0 false (Cq p).length 0 1001 (by omega) (by omega)
      rw [List.drop_zero] at e1
      refine Eq.trans e1 ?_
      cases hr:(Cq p).findSome? (Jn p) with
      | some v=>rfl
      | none =>
        have hr':∀ t∈Cq p,Gy (Fi p) t.Regs=false:=by
          intro t ht
          have:=H4 hr t ht
          unfold Jn at this
          split at this
          · cases this
          · rename_i z;simpa using z
        simp only [out]
        rw [Z88,Gm hp]
        simp only [Option.bind_some]
        have e2:=Jbi (p:=p) (l:=Cq p) (by omega) hA.2 hr' (Z89 1001 p (Kh p,0,false)) 0 false (Cq p).length 0 1001 (by omega) (by omega)
        rw [List.drop_zero] at e2
        refine Eq.trans e2 ?_
        cases (Cq p).findSome? (Iw p) with
        | some v=>rfl
        | none =>
          simp only [out]
          rw [Z89]
          have e3:=Xx hp Z8a 0 false p.Claims.length 0 1001 (by omega) (by have:=hp.claims;omega)
          rw [List.drop_zero] at e3
          exact e3
  obtain ⟨r,hr,hj⟩:=hN
  rw [hr]
  simp only [Option.bind_some]
  rw [Tj hp]
  simp only [Option.bind_some]
  cases hq:Hl p with
  | false=>rfl
  | true =>
    rw [if_pos rfl,if_pos rfl,JaU hp]
    simp only [Option.bind_some]
    cases N5 p with
    | true=>rfl
    | false =>
      rw [if_neg (by decide),if_neg (by decide),Gm hp]
      simp only [Option.bind_some]
      have e1:=Jc3 (l:=Cq p) (by omega) (Hz.1 hq).thread (Z86 1001 p r) (Cq p).length 0 1001 (by omega) (by omega)
      rw [List.drop_zero,hj hq] at e1
      rw [hj hq]
      exact e1
theorem Nq {p:api_Prog} (hp:SmallP p):Z6b 1001 p=Hq p:=by
  have hA:=Gq hp
  have hF:=Eb hp
  unfold Z6b Hq
  rw [Um hp]
  simp only [Option.bind_some]
  cases hq:Hl p with
  | false=>rfl
  | true =>
    have hB:=Hz.1 hq
    rw [if_pos rfl,if_pos rfl,Yq hp]
    simp only [Option.bind_some]
    cases N5 p with
    | true=>rfl
    | false =>
      rw [if_neg (by decide),if_neg (by decide),Hp hp]
      simp only [Option.bind_some]
      have e1:=Jbe (l:=Cq p) (by omega) hB.thread (Z6c 1001 p (Cq p)) (Cq p).length 0 1001 (by omega) (by omega)
      rw [List.drop_zero] at e1
      refine Eq.trans e1 ?_
      suffices hj:Z6c 1001 p (Cq p)=out 10 (Ev (Dv p) []) (out 10 ((Cq p).findSome? (Jn p)) (out 9 ((Cq p).findSome? (Iw p)) (out 9 (p.Claims.findSome? (Ip p)) (some (0,0))))) by rw [hj]
      rw [Z6c,Uq hp]
      simp only [Option.bind_some]
      cases hd:Ev (Dv p) [] with
      | some v =>
        obtain ⟨e,he,hv⟩:=Sy hd
        have:=(Tm hB e he).1
        rw [Option.getD_some,if_pos (show v≥0 by omega)];simp only [out]
      | none =>
        rw [if_neg (by simp)]
        have e1:=JaH hp (l:=Cq p) (by omega) hA.2 (Z6f 1001 p (Cq p)) (Cq p).length 0 1001 (by omega) (by omega)
        rw [List.drop_zero] at e1
        refine Eq.trans e1 ?_
        cases hr:(Cq p).findSome? (Jn p) with
        | some v=>rfl
        | none =>
          have hr':∀ t∈Cq p,Gy (Fi p) t.Regs=false:=by
            intro t ht
            have:=H4 hr t ht
            unfold Jn at this
            split at this
            · cases this
            · rename_i z;simpa using z
          simp only [out]
          rw [Z6f]
          have e2:=Yu hp (l:=Cq p) (by omega) hA.2 (fun t ht x hx=>by
            obtain ⟨_,_,b,hb⟩:=Ex (hB.thread t ht)
            exact hb.fits x hx) (fun t ht=>Jbk hd (hr' t ht)) (Z6i 1001 p) (Cq p).length 0 1001 (by omega) (by omega)
          rw [List.drop_zero] at e2
          refine Eq.trans e2 ?_
          cases (Cq p).findSome? (Iw p) with
          | some v=>rfl
          | none =>
            simp only [out]
            rw [Z6i,Jx hp,Jv hp]
            simp only [Option.bind_some]
            have hlen:(Ce p).length=p.Lines.flatten.length+p.Vols.length:=by simp [Ce]
            rw [Fu (by omega) (by omega) (by simp only [List.length_map];omega)]
            simp only [Option.bind_some]
            have hst:((List.map (fun x:api_Cell=>x.Name) (Ce p)).take (p.Lines.flatten.length:Int).toNat).drop (0:Int).toNat=A1 p:=by
              rw [Ep,Int.toNat_natCast,show (0:Int).toNat=0 from rfl,List.drop_zero,List.take_left' (by simp only [A1,List.length_map])]
            rw [hst]
            have e3:=Vu hp hB.claims Z6e p.Claims.length 0 1001 (by omega) (by have:=hp.claims;omega)
            rw [List.drop_zero] at e3
            exact e3
theorem Of {p:api_Prog}:∃ r,Hq p=some r:=by
  unfold Hq
  split
  · split
    · exact ⟨_,rfl⟩
    · unfold out
      split
      · exact ⟨_,rfl⟩
      · split
        · exact ⟨_,rfl⟩
        · split
          · exact ⟨_,rfl⟩
          · split
            · exact ⟨_,rfl⟩
            · split <;> exact ⟨_,rfl⟩
  · exact ⟨_,rfl⟩
end Go.MD.LB
