/- legal.Check is the document's Check. No condition: plain lemmas. -/
import Derived.Test.YtgdkaddhhpgeiaaGreatDoorLBE
namespace Go.MD.LB
open Go Go.MD
structure PB (p:api_Prog):Prop where
  line:∀ l∈p.Lines,Fw l=true
  vols:∀ c∈p.Vols,cellB 4294967296 c=true
  locks:∀ c∈p.Locks,cellB 0 c=true
  recover:p.Recover.length≤1
  named:∀ t∈p.Threads,De t=true
  unnamed:∀ t∈p.Recover,Cb t=true
  claims:∀ c∈p.Claims,Dr c=true
theorem Mi {p:api_Prog}:H4 p=true↔PB p:=by
  simp only [H4,Bool.and_eq_true,List.all_eq_true,decide_eq_true_eq]
  exact ⟨fun ⟨a,b,c,d,e,f,g⟩=>⟨a,b,c,d,e,f,g⟩,fun ⟨a,b,c,d,e,f,g⟩=>⟨a,b,c,d,e,f,g⟩⟩
theorem Le {a:Int}:Eo a=true↔0≤a∧a≤4000:=by simp [Eo]
theorem Ot {m:Int} {c:api_Cell} (h:cellB m c=true):0≤c.At∧c.At≤4000:=by
  unfold cellB at h;rw [Bool.and_eq_true] at h;exact Le.1 h.2
theorem PB.cell {p:api_Prog} (h:PB p):∀ c∈Cc p,cellB 4294967296 c=true:=by
  intro c hc
  rcases List.mem_append.1 hc with hc | hc
  · obtain ⟨l, hl, hcl⟩ := List.mem_flatten.1 hc
    have:=h.line l hl
    unfold Fw at this
    rw [Bool.and_eq_true,List.all_eq_true] at this
    exact this.2 c hcl
  · exact h.vols c hc
theorem PB.thread {p:api_Prog} (h:PB p):∀ t∈Cv p,Dm t=true:=by
  intro t ht
  rcases List.mem_append.1 ht with ht | ht
  · have:=h.named t ht;unfold De at this;rw [Bool.and_eq_true] at this;exact this.2
  · have:=h.unnamed t ht;unfold Cb at this;rw [Bool.and_eq_true] at this;exact this.2
theorem Hh {t:api_Thread} (h:Dm t=true):(0≤t.At∧t.At≤4000)∧(∀ s∈t.Regs,Ce s=true)∧∃ b,RB t.Body b:=by
  unfold Dm at h
  rw [Bool.and_eq_true,Bool.and_eq_true,List.all_eq_true] at h
  exact ⟨Le.1 h.1,h.2.1,Qn.1 h.2.2⟩
theorem Sl {p:api_Prog} (h:PB p):∀ e∈Dw p,0≤e.2∧e.2≤4000:=by
  intro e he
  simp only [Dw,List.mem_append,List.mem_map] at he
  rcases he with ⟨x,hx,rfl⟩ | ⟨x,hx,rfl⟩ | ⟨x,hx,rfl⟩
  · exact Ot (h.cell x hx)
  · exact Ot (h.locks x hx)
  · exact (Hh (h.thread x (List.mem_append_left _ hx))).1
theorem Ri:∀ {l:List (Str×Int)} {seen:List Str} {v:Int},Ep l seen=some v→∃ e∈l,e.2=v
  | [],_,_,h=>by simp [Ep] at h
  | e :: l, seen, v, h => by
    rw [Ep] at h
    split at h
    · exact ⟨e,.head _,Option.some.inj h⟩
    · obtain ⟨x,h1,h2⟩:=Ri h;exact ⟨x,.tail _ h1,h2⟩
theorem Ll:∀ (a b:List (Str×Int)) (seen:List Str),Ep (a ++ b) seen=none→Ep a seen=none∧Ep b (seen ++ a.map (·.1))=none
  | [],b,seen,h=>⟨rfl,by simpa using h⟩
  | e :: a, b, seen, h => by
    simp only [List.cons_append,Ep] at h ⊢
    split at h
    · cases h
    · rename_i q
      have:=Ll a b _ h
      rw [if_neg q]
      refine ⟨this.1,?_⟩
      have:=this.2
      rw [List.append_assoc] at this
      simpa using this
theorem Oz:∀ (l:List (Str×Int)) (seen:List Str),Ep l seen=none→∀ e∈l,e.1 ∉ seen
  | [],_,_,e,he=>by cases he
  | x :: l, seen, h, e, he => by
    rw [Ep] at h
    split at h
    · cases h
    · rename_i q
      rcases List.mem_cons.1 he with rfl | he
      · exact q
      · exact fun k=>Oz l _ h e he (List.mem_append_left _ k)
theorem Jaq {p:api_Prog} {G:List Str} (h1:Ep (Dw p) []=none) (h2:Hb (Fj p) G=false):Apt p G:=by
  have h3:=(Ll _ _ _ h1).2
  have h4:=(Ll _ _ _ h3).1
  refine ⟨fun s hs=>?_,fun s hs=>?_⟩
  · obtain ⟨c, hc, rfl⟩ := List.mem_map.1 hs
    have:=Oz _ _ h4 (c.Name,c.At) (List.mem_map.2 ⟨c,hc,rfl⟩)
    rw [← Ef]
    simpa [Function.comp_def] using this
  · have := Po G _ h2 s hs
    rw [Ja,Ef,not_or] at this
    exact this
def H5 (t:api_Thread):Option Int:=(Z8t 1001 t.Body 1).bind fun r=>if r.2=true then some r.1 else none
theorem Tr {t:api_Thread} {o:Option Int} (h:Z8t 1001 t.Body 1=some (Lb o)):H5 t=o:=by
  unfold H5;rw [h]
  cases o <;> rfl
theorem Vg {t:api_Thread} (h:Dm t=true):Z8t 1001 t.Body 1=some (Lb (H5 t))∧Z72 1001 t.Body 1=some ((H5 t).getD (-1))∧∀ v,H5 t=some v→0≤v∧v≤4000:=by
  obtain ⟨_,_,b,hb⟩:=Hh h
  have hat:∀ x∈b.flat,0≤x.At∧x.At≤4000:=fun x hx=>(Nj (hb.fits x (by rw [hb.flat];exact hx))).1
  have hlen:b.size≤40:=by have:=hb.len;rw [hb.flat,B.flat_len] at this;exact this
  have e1:=Wl 1001 b hb.ok (by omega) 1 (by decide) (by decide)
  have e2:=Vt 1001 b hb.ok (fun x hx=>(hat x hx).1) (by omega) 1 (by decide) (by decide)
  rw [← hb.flat] at e1 e2
  rw [Tr e1]
  refine ⟨e1,e2,fun v hv=>?_⟩
  obtain ⟨x,hx,rfl⟩:=Je b 1 hv
  exact hat x hx
def out (c:Int) (o:Option Int) (k:Option (Int×Int)):Option (Int×Int):=match o with | some v=>some (c,v) | none=>k
theorem JbQ {l:List api_Thread} (hl:l.length≤1000) (ht:∀ t∈l,Dm t=true) (k:Option (Int×Int)):∀ (d j n:Nat),j+d=l.length→d < n→Z7e 1001 k l n (j:Int)=out 11 ((l.drop j).findSome? H5) k:=by
  intro d
  induction d with
  | zero =>
    intro j n hj hn
    obtain ⟨n,rfl⟩:∃ m,n=m+1:=⟨n - 1,by omega⟩
    rw [Z7e,if_neg (by omega),List.drop_of_length_le (by omega)];rfl
  | succ d ih =>
    intro j n hj hn
    obtain ⟨n,rfl⟩:∃ m,n=m+1:=⟨n - 1,by omega⟩
    have h1:j < l.length:=by omega
    rw [Z7e,if_pos (by omega),As rfl h1]
    simp only [Option.bind_some]
    rw [(Vg (ht _ (List.getElem_mem h1))).1,List.drop_eq_getElem_cons h1,List.findSome?_cons]
    simp only [Option.bind_some]
    cases H5 l[j] with
    | some v=>rfl
    | none=>rw [if_neg (by simp [Lb]),Bf h1 (by omega),ih (j+1) n (by omega) (by omega)]
theorem Ys {l:List api_Thread} (hl:l.length≤1000) (ht:∀ t∈l,Dm t=true) (k:Option (Int×Int)):∀ (d j n:Nat),j+d=l.length→d < n→Z5y 1001 k l n (j:Int)=out 11 ((l.drop j).findSome? H5) k:=by
  intro d
  induction d with
  | zero =>
    intro j n hj hn
    obtain ⟨n,rfl⟩:∃ m,n=m+1:=⟨n - 1,by omega⟩
    rw [Z5y,if_neg (by omega),List.drop_of_length_le (by omega)];rfl
  | succ d ih =>
    intro j n hj hn
    obtain ⟨n,rfl⟩:∃ m,n=m+1:=⟨n - 1,by omega⟩
    have h1:j < l.length:=by omega
    have hw:=Vg (ht _ (List.getElem_mem h1))
    rw [Z5y,if_pos (by omega),As rfl h1]
    simp only [Option.bind_some]
    rw [hw.2.1,List.drop_eq_getElem_cons h1,List.findSome?_cons]
    simp only [Option.bind_some]
    cases hv:H5 l[j] with
    | some v=>rw [if_pos (by have:=(hw.2.2 v hv).1;simpa using this)];rfl
    | none=>rw [if_neg (by simp),Bf h1 (by omega),ih (j+1) n (by omega) (by omega)]
def Kz (p:api_Prog) (t:api_Thread):Option Int:=if Hb (Fj p) t.Regs=true then some t.At else none
theorem JbN {p:api_Prog} {l:List api_Thread} (hl:l.length≤1000) (ht:∀ t∈l,SmallT t) (k:Option (Int×Int)) (a:Int) (b:Bool):∀ (d j n:Nat),j+d=l.length→d < n→Z7f 1001 k (Jy p,a,b) l n (j:Int)=out 10 ((l.drop j).findSome? (Kz p)) k:=by
  intro d
  induction d with
  | zero =>
    intro j n hj hn
    obtain ⟨n,rfl⟩:∃ m,n=m+1:=⟨n - 1,by omega⟩
    rw [Z7f,if_neg (by omega),List.drop_of_length_le (by omega)];rfl
  | succ d ih =>
    intro j n hj hn
    obtain ⟨n,rfl⟩:∃ m,n=m+1:=⟨n - 1,by omega⟩
    have h1:j < l.length:=by omega
    have hs:=ht _ (List.getElem_mem h1)
    rw [Z7f,if_pos (by omega),As rfl h1]
    simp only [Option.bind_some]
    rw [Me (by have:=hs.regs;omega),List.drop_eq_getElem_cons h1,List.findSome?_cons]
    simp only [Option.bind_some]
    unfold Kz
    cases Hb (Fj p) l[j].Regs with
    | true=>rfl
    | false=>rw [if_neg (by simp),Bf h1 (by omega),ih (j+1) n (by omega) (by omega)];rfl
theorem Jay {p:api_Prog} (hp:SmallP p) {l:List api_Thread} (hl:l.length≤1000) (ht:∀ t∈l,SmallT t) (k:Option (Int×Int)):∀ (d j n:Nat),j+d=l.length→d < n→Z5z 1001 k p l n (j:Int)=out 10 ((l.drop j).findSome? (Kz p)) k:=by
  intro d
  induction d with
  | zero =>
    intro j n hj hn
    obtain ⟨n,rfl⟩:∃ m,n=m+1:=⟨n - 1,by omega⟩
    rw [Z5z,if_neg (by omega),List.drop_of_length_le (by omega)];rfl
  | succ d ih =>
    intro j n hj hn
    obtain ⟨n,rfl⟩:∃ m,n=m+1:=⟨n - 1,by omega⟩
    have h1:j < l.length:=by omega
    have hs:=ht _ (List.getElem_mem h1)
    rw [Z5z,if_pos (by omega),show (0:Int)=((0:Nat):Int) from rfl,Pk hp h1 (by have:=hs.regs;omega) _ l[j].Regs.length 0 1001 (by omega) (by have:=hs.regs;omega),
      List.take_zero,List.append_nil,List.drop_zero,List.drop_eq_getElem_cons h1,List.findSome?_cons]
    unfold Kz
    cases Hb (Fj p) l[j].Regs with
    | true=>rfl
    | false=>rw [if_neg (by decide),Z5t,Bf h1 (by omega),ih (j+1) n (by omega) (by omega)];rfl
def Ix (p:api_Prog) (t:api_Thread):Option Int:=t.Body.findSome? (Lx p t.Regs)
theorem Ja2 {p:api_Prog} {l:List api_Thread} (hl:l.length≤1000) (ht:∀ t∈l,SmallT t) (hr:∀ t∈l,Hb (Fj p) t.Regs=false) (k:Option (Int×Int)) (a:Int) (b:Bool):∀ (d j n:Nat),j+d=l.length→d < n→Z7g 1001 k (Jy p,a,b) l n (j:Int)=out 9 ((l.drop j).findSome? (Ix p)) k:=by
  intro d
  induction d with
  | zero =>
    intro j n hj hn
    obtain ⟨n,rfl⟩:∃ m,n=m+1:=⟨n - 1,by omega⟩
    rw [Z7g,if_neg (by omega),List.drop_of_length_le (by omega)];rfl
  | succ d ih =>
    intro j n hj hn
    obtain ⟨n,rfl⟩:∃ m,n=m+1:=⟨n - 1,by omega⟩
    have h1:j < l.length:=by omega
    have hs:=ht _ (List.getElem_mem h1)
    rw [Z7g,if_pos (by omega),As rfl h1]
    simp only [Option.bind_some]
    rw [Me (by have:=hs.regs;omega),hr _ (List.getElem_mem h1),if_neg (by decide)]
    simp only [Option.bind_some,Z8g]
    rw [Pt (by have:=hs.body;omega) hs.small,List.drop_eq_getElem_cons h1,List.findSome?_cons]
    simp only [Option.bind_some]
    unfold Ix
    cases l[j].Body.findSome? (Lx p l[j].Regs) with
    | some v=>rfl
    | none=>simp only;rw [Bf h1 (by omega),ih (j+1) n (by omega) (by omega)];rfl
theorem Ym {p:api_Prog} (hp:SmallP p) {l:List api_Thread} {i:Nat} (hi:i < l.length) (hs:SmallT l[i]) (hf:∀ x∈l[i].Body,Cy x=true) (ha:Apt p l[i].Regs) (k:Option (Int×Int)):∀ (d j n:Nat),j+d=l[i].Body.length→d < n→
    Z5w 1001 k p l (i:Int) n (j:Int)=out 9 ((l[i].Body.drop j).findSome? (Lx p l[i].Regs)) k:=by
  intro d
  have hB:=hs.body
  induction d with
  | zero =>
    intro j n hj hn
    obtain ⟨n,rfl⟩:∃ m,n=m+1:=⟨n - 1,by omega⟩
    rw [Z5w,As rfl hi]
    simp only [Option.bind_some]
    rw [if_neg (by omega),List.drop_of_length_le (by omega)];rfl
  | succ d ih =>
    intro j n hj hn
    obtain ⟨n,rfl⟩:∃ m,n=m+1:=⟨n - 1,by omega⟩
    have h1:j < l[i].Body.length:=by omega
    have hx:=hf _ (List.getElem_mem h1)
    rw [Z5w,As rfl hi]
    simp only [Option.bind_some]
    rw [if_pos (by omega),As rfl h1]
    simp only [Option.bind_some]
    rw [Wz hp (by have:=hs.regs;omega) ha hx,List.drop_eq_getElem_cons h1,List.findSome?_cons]
    simp only [Option.bind_some]
    cases hv:Lx p l[i].Regs l[i].Body[j] with
    | some v=>rw [if_pos (by have:=(Xb hx hv).1;simpa using this)];rfl
    | none=>rw [if_neg (by simp),Bf h1 (by omega),ih (j+1) n (by omega) (by omega)]
theorem Wc {p:api_Prog} (hp:SmallP p) {l:List api_Thread} (hl:l.length≤1000) (ht:∀ t∈l,SmallT t) (hf:∀ t∈l,∀ x∈t.Body,Cy x=true) (ha:∀ t∈l,Apt p t.Regs) (k:Option (Int×Int)):∀ (d j n:Nat),j+d=l.length→d < n→
    Z61 1001 k p l n (j:Int)=out 9 ((l.drop j).findSome? (Ix p)) k:=by
  intro d
  induction d with
  | zero =>
    intro j n hj hn
    obtain ⟨n,rfl⟩:∃ m,n=m+1:=⟨n - 1,by omega⟩
    rw [Z61,if_neg (by omega),List.drop_of_length_le (by omega)];rfl
  | succ d ih =>
    intro j n hj hn
    obtain ⟨n,rfl⟩:∃ m,n=m+1:=⟨n - 1,by omega⟩
    have h1:j < l.length:=by omega
    have hm:=List.getElem_mem h1
    have hs:=ht _ hm
    rw [Z61,if_pos (by omega),show (0:Int)=((0:Nat):Int) from rfl,Ym hp h1 hs (hf _ hm) (ha _ hm) _ l[j].Body.length 0 1001 (by omega) (by have:=hs.body;omega),List.drop_zero,List.drop_eq_getElem_cons h1,List.findSome?_cons]
    unfold Ix
    cases l[j].Body.findSome? (Lx p l[j].Regs) with
    | some v=>rfl
    | none=>simp only [out];rw [Z5q,Bf h1 (by omega),ih (j+1) n (by omega) (by omega)];rfl
def Io (p:api_Prog) (c:api_Claim):Option Int:=c.E.findSome? (Ez (A1 p))
theorem Ve (p:api_Prog) (s:Str):(Be s (Jy p)).getD 0=1↔s∈A1 p:=by
  rw [Rz]
  simp only [Ey,Hv]
  rw [Da (f:=fun c:api_Cell=>c.Name),Da (f:=fun c:api_Cell=>c.Name),Da (f:=fun c:api_Cell=>c.Name),Da (f:=fun t:api_Thread=>t.Name)]
  unfold A1
  split
  · rename_i h;exact ⟨fun _=>h,fun _=>rfl⟩
  · simp only [*, iff_false, Option.none_or]
    split
    · simp
    · simp only [Option.none_or]
      split
      · simp
      · simp only [Option.none_or];split <;> simp
theorem Yz {p:api_Prog} {c:api_Claim} (hc:c.E.length≤60) (k:Option (Int×Int)) (a:Int) (b:Bool):∀ (d j n:Nat),j+d=c.E.length→d < n→Z7d 1001 k (Jy p,a,b) c n (j:Int)=out 9 ((c.E.drop j).findSome? (Ez (A1 p))) k:=by
  intro d
  induction d with
  | zero =>
    intro j n hj hn
    obtain ⟨n,rfl⟩:∃ m,n=m+1:=⟨n - 1,by omega⟩
    rw [Z7d,if_neg (by omega),List.drop_of_length_le (by omega)];rfl
  | succ d ih =>
    intro j n hj hn
    obtain ⟨n,rfl⟩:∃ m,n=m+1:=⟨n - 1,by omega⟩
    have h1:j < c.E.length:=by omega
    rw [Z7d,if_pos (by omega),As rfl h1]
    simp only [Option.bind_some]
    rw [List.drop_eq_getElem_cons h1,List.findSome?_cons,Ez]
    have hw:=Ve p c.E[j].Name
    by_cases h:c.E[j].Op=2∧c.E[j].Name ∉ A1 p
    · rw [if_pos h,if_pos (by rw [Bool.and_eq_true,decide_eq_true_eq,decide_eq_true_eq];exact ⟨h.1,fun q=>h.2 (hw.1 q)⟩)];rfl
    · rw [if_neg h,if_neg (by rw [Bool.and_eq_true,decide_eq_true_eq,decide_eq_true_eq];exact fun q=>h ⟨q.1,fun z=>q.2 (hw.2 z)⟩),Bf h1 (by omega),ih (j+1) n (by omega) (by omega)]
theorem Ws {p:api_Prog} (hp:SmallP p) (k:Option (Int×Int)) (a:Int) (b:Bool):∀ (d j n:Nat),j+d=p.Claims.length→d < n→Z7h 1001 k p (Jy p,a,b) n (j:Int)=out 9 ((p.Claims.drop j).findSome? (Io p)) k:=by
  intro d
  have hC:=hp.claims
  induction d with
  | zero =>
    intro j n hj hn
    obtain ⟨n,rfl⟩:∃ m,n=m+1:=⟨n - 1,by omega⟩
    rw [Z7h,if_neg (by omega),List.drop_of_length_le (by omega)];rfl
  | succ d ih =>
    intro j n hj hn
    obtain ⟨n,rfl⟩:∃ m,n=m+1:=⟨n - 1,by omega⟩
    have h1:j < p.Claims.length:=by omega
    have hs:=hp.claim _ (List.getElem_mem h1)
    rw [Z7h,if_pos (by omega),As rfl h1]
    simp only [Option.bind_some]
    rw [show (0:Int)=((0:Nat):Int) from rfl,Yz hs _ a b p.Claims[j].E.length 0 1001 (by omega) (by omega),List.drop_zero,List.drop_eq_getElem_cons h1,List.findSome?_cons]
    unfold Io
    cases p.Claims[j].E.findSome? (Ez (A1 p)) with
    | some v=>rfl
    | none=>simp only [out];rw [Z79,Bf h1 (by omega),ih (j+1) n (by omega) (by omega)];rfl
theorem Vm {c:api_Claim} (h:Dr c=true):∀ x∈c.E,0≤x.At∧x.At≤4000:=by
  unfold Dr at h
  rw [Bool.and_eq_true] at h
  exact (Vo (is:=true) (l:=c.E) h.2).2
theorem Tw {p:api_Prog} (hp:SmallP p) (hc:∀ c∈p.Claims,Dr c=true) (k:Option (Int×Int)):∀ (d j n:Nat),j+d=p.Claims.length→d < n→Z5x 1001 k p (A1 p) n (j:Int)=out 9 ((p.Claims.drop j).findSome? (Io p)) k:=by
  intro d
  have hC:=hp.claims
  have hF:=Eb hp
  have hA:(A1 p).length≤56:=by have e:=congrArg List.length (Ef p);simp only [List.length_map,List.length_append] at e;omega
  induction d with
  | zero =>
    intro j n hj hn
    obtain ⟨n,rfl⟩:∃ m,n=m+1:=⟨n - 1,by omega⟩
    rw [Z5x,if_neg (by omega),List.drop_of_length_le (by omega)];rfl
  | succ d ih =>
    intro j n hj hn
    obtain ⟨n,rfl⟩:∃ m,n=m+1:=⟨n - 1,by omega⟩
    have h1:j < p.Claims.length:=by omega
    have hs:=hp.claim _ (List.getElem_mem h1)
    rw [Z5x,if_pos (by omega),As rfl h1]
    simp only [Option.bind_some]
    rw [Ku (by omega) (by omega),List.drop_eq_getElem_cons h1,List.findSome?_cons]
    simp only [Option.bind_some]
    unfold Io
    cases hv:p.Claims[j].E.findSome? (Ez (A1 p)) with
    | some v=>rw [if_pos (by have:=Vu (fun x hx=>(Vm (hc _ (List.getElem_mem h1)) x hx).1) hv;simpa using this)];rfl
    | none=>rw [if_neg (by simp),Bf h1 (by omega),ih (j+1) n (by omega) (by omega)];rfl
noncomputable def Jl (p:api_Prog):Option (Int×Int):=
  if H4 p=true then if Qh p=true then some (2,0) else
    out 11 ((Cv p).findSome? H5) (out 10 (Ep (Dw p) []) (out 10 ((Cv p).findSome? (Kz p)) (out 9 ((Cv p).findSome? (Ix p)) (out 9 (p.Claims.findSome? (Io p)) (some (0,0))))))
  else some (8,0)
theorem Mk {α β:Type} {f:α→Option β} {l:List α} (h:l.findSome? f=none):∀ x∈l,f x=none:=List.findSome?_eq_none_iff.1 h
theorem Vn {p:api_Prog} (hp:SmallP p):Z76 1001 p=Jl p:=by
  have hA:=Gh hp
  obtain ⟨n1,n2⟩:=Tg hp
  unfold Z76 Jl
  have hN:∃ r,Z83 1001 p=some r∧∀ (q:H4 p=true),Z78 1001 p r=out 10 (Ep (Dw p) []) (out 10 ((Cv p).findSome? (Kz p)) (out 9 ((Cv p).findSome? (Ix p)) (out 9 (p.Claims.findSome? (Io p)) (some (0,0))))):=by
    cases hd:Ep (Dw p) [] with
    | some v =>
      obtain ⟨m,hm⟩:=n1 v hd
      exact ⟨_,hm,fun _=>by rw [Z78,if_pos rfl];rfl⟩
    | none =>
      refine ⟨_,n2 hd,fun q=>?_⟩
      rw [Z78,if_neg (show ¬ ((false:Bool)=true) from Bool.false_ne_true),Gg hp]
      simp only [Option.bind_some]
      have e1:=JbN (p:=p) (l:=Cv p) (by omega) hA.2 (Z7a 1001 p (Jy p,0,false)) 0 false (Cv p).length 0 1001 (by omega) (by omega)
      rw [List.drop_zero] at e1
      refine Eq.trans e1 ?_
      cases hr:(Cv p).findSome? (Kz p) with
      | some v=>rfl
      | none =>
        have hr':∀ t∈Cv p,Hb (Fj p) t.Regs=false:=by
          intro t ht
          have:=Mk hr t ht
          unfold Kz at this
          split at this
          · cases this
          · rename_i z;simpa using z
        simp only [out]
        rw [Z7a,Gg hp]
        simp only [Option.bind_some]
        have e2:=Ja2 (p:=p) (l:=Cv p) (by omega) hA.2 hr' (Z7b 1001 p (Jy p,0,false)) 0 false (Cv p).length 0 1001 (by omega) (by omega)
        rw [List.drop_zero] at e2
        refine Eq.trans e2 ?_
        cases (Cv p).findSome? (Ix p) with
        | some v=>rfl
        | none =>
          simp only [out]
          rw [Z7b]
          have e3:=Ws hp Z7c 0 false p.Claims.length 0 1001 (by omega) (by have:=hp.claims;omega)
          rw [List.drop_zero] at e3
          exact e3
  obtain ⟨r,hr,hj⟩:=hN
  rw [hr]
  simp only [Option.bind_some]
  rw [Td hp]
  simp only [Option.bind_some]
  cases hq:H4 p with
  | false=>rfl
  | true =>
    rw [if_pos rfl,if_pos rfl,Jax hp]
    simp only [Option.bind_some]
    cases Qh p with
    | true=>rfl
    | false =>
      rw [if_neg (by decide),if_neg (by decide),Gg hp]
      simp only [Option.bind_some]
      have e1:=JbQ (l:=Cv p) (by omega) (Mi.1 hq).thread (Z78 1001 p r) (Cv p).length 0 1001 (by omega) (by omega)
      rw [List.drop_zero,hj hq] at e1
      rw [hj hq]
      exact e1
theorem Sv {p:api_Prog} (hp:SmallP p):Z5o 1001 p=Jl p:=by
  have hA:=Gh hp
  have hF:=Eb hp
  unfold Z5o Jl
  rw [Sy hp]
  simp only [Option.bind_some]
  cases hq:H4 p with
  | false=>rfl
  | true =>
    have hB:=Mi.1 hq
    rw [if_pos rfl,if_pos rfl,Xc hp]
    simp only [Option.bind_some]
    cases Qh p with
    | true=>rfl
    | false =>
      rw [if_neg (by decide),if_neg (by decide),Gx hp]
      simp only [Option.bind_some]
      have e1:=Ys (l:=Cv p) (by omega) hB.thread (Z5p 1001 p (Cv p)) (Cv p).length 0 1001 (by omega) (by omega)
      rw [List.drop_zero] at e1
      refine Eq.trans e1 ?_
      suffices hj:Z5p 1001 p (Cv p)=out 10 (Ep (Dw p) []) (out 10 ((Cv p).findSome? (Kz p)) (out 9 ((Cv p).findSome? (Ix p)) (out 9 (p.Claims.findSome? (Io p)) (some (0,0))))) by rw [hj]
      rw [Z5p,Tq hp]
      simp only [Option.bind_some]
      cases hd:Ep (Dw p) [] with
      | some v =>
        obtain ⟨e,he,hv⟩:=Ri hd
        have:=(Sl hB e he).1
        rw [Option.getD_some,if_pos (show v≥0 by omega)];simp only [out]
      | none =>
        rw [if_neg (by simp)]
        have e1:=Jay hp (l:=Cv p) (by omega) hA.2 (Z5s 1001 p (Cv p)) (Cv p).length 0 1001 (by omega) (by omega)
        rw [List.drop_zero] at e1
        refine Eq.trans e1 ?_
        cases hr:(Cv p).findSome? (Kz p) with
        | some v=>rfl
        | none =>
          have hr':∀ t∈Cv p,Hb (Fj p) t.Regs=false:=by
            intro t ht
            have:=Mk hr t ht
            unfold Kz at this
            split at this
            · cases this
            · rename_i z;simpa using z
          simp only [out]
          rw [Z5s]
          have e2:=Wc hp (l:=Cv p) (by omega) hA.2 (fun t ht x hx=>by
            obtain ⟨_,_,b,hb⟩:=Hh (hB.thread t ht)
            exact hb.fits x hx) (fun t ht=>Jaq hd (hr' t ht)) (Z5v 1001 p) (Cv p).length 0 1001 (by omega) (by omega)
          rw [List.drop_zero] at e2
          refine Eq.trans e2 ?_
          cases (Cv p).findSome? (Ix p) with
          | some v=>rfl
          | none =>
            simp only [out]
            rw [Z5v,Jn hp,Jk hp]
            simp only [Option.bind_some]
            have hlen:(Cc p).length=p.Lines.flatten.length+p.Vols.length:=by simp [Cc]
            rw [Fl (by omega) (by omega) (by simp only [List.length_map];omega)]
            simp only [Option.bind_some]
            have hst:((List.map (fun x:api_Cell=>x.Name) (Cc p)).take (p.Lines.flatten.length:Int).toNat).drop (0:Int).toNat=A1 p:=by
              rw [Ef,Int.toNat_natCast,show (0:Int).toNat=0 from rfl,List.drop_zero,List.take_left' (by simp only [A1,List.length_map])]
            rw [hst]
            have e3:=Tw hp hB.claims Z5r p.Claims.length 0 1001 (by omega) (by have:=hp.claims;omega)
            rw [List.drop_zero] at e3
            exact e3
theorem Oo {p:api_Prog}:∃ r,Jl p=some r:=by
  unfold Jl
  split
  · split
    · exact ⟨_,rfl⟩
    · unfold out
      split
      · exact ⟨_,rfl⟩
      · split
        · exact ⟨_,rfl⟩
        · split
          · exact ⟨_,rfl⟩
          · split
            · exact ⟨_,rfl⟩
            · split <;> exact ⟨_,rfl⟩
  · exact ⟨_,rfl⟩
theorem Ki (p1:api_Prog):Z12 1001 p1=some true:=by
  unfold Z12
  obtain ⟨p,hq,hp⟩:=Jcg p1
  obtain ⟨r,hr⟩:=Oo (p:=p)
  rw [hq]
  simp only [Option.bind_some]
  rw [Vn hp,Sv hp,hr]
  simp only [Option.bind_some,if_true]
  exact Yq
end Go.MD.LB
