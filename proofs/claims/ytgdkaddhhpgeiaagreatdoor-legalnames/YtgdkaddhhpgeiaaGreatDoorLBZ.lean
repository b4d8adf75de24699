/- legal.Check is the document's Check. No condition: plain lemmas. -/
import Derived.Test.YtgdkaddhhpgeiaaGreatDoorLBE
namespace Go.MD.LB
open Go Go.MD
structure PB (p:api_Prog):Prop where
  line:∀ l∈p.Lines,lineB l=true
  vols:∀ c∈p.Vols,cellB 4294967296 c=true
  locks:∀ c∈p.Locks,cellB 0 c=true
  recover:p.Recover.length≤1
  named:∀ t∈p.Threads,namedB t=true
  unnamed:∀ t∈p.Recover,unnamedB t=true
  claims:∀ c∈p.Claims,claimB c=true
theorem progB_iff {p:api_Prog}:progB p=true↔PB p:=by
  simp only [progB,Bool.and_eq_true,List.all_eq_true,decide_eq_true_eq]
  exact ⟨fun ⟨a,b,c,d,e,f,g⟩=>⟨a,b,c,d,e,f,g⟩,fun ⟨a,b,c,d,e,f,g⟩=>⟨a,b,c,d,e,f,g⟩⟩
theorem placeB_iff {a:Int}:placeB a=true↔0≤a∧a≤4000:=by simp [placeB]
theorem PB.cell {p:api_Prog} (h:PB p):∀ c∈flatC p,cellB 4294967296 c=true:=by
  intro c hc
  rcases List.mem_append.1 hc with hc | hc
  · obtain ⟨l, hl, hcl⟩ := List.mem_flatten.1 hc
    have:=h.line l hl
    unfold lineB at this
    rw [Bool.and_eq_true,List.all_eq_true] at this
    exact this.2 c hcl
  · exact h.vols c hc
theorem PB.thread {p:api_Prog} (h:PB p):∀ t∈allT p,threadB t=true:=by
  intro t ht
  rcases List.mem_append.1 ht with ht | ht
  · have:=h.named t ht;unfold namedB at this;rw [Bool.and_eq_true] at this;exact this.2
  · have:=h.unnamed t ht;unfold unnamedB at this;rw [Bool.and_eq_true] at this;exact this.2
theorem threadB_iff {t:api_Thread} (h:threadB t=true):(0≤t.At∧t.At≤4000)∧(∀ s∈t.Regs,nameS s=true)∧∃ b,RB t.Body b:=by
  unfold threadB at h
  rw [Bool.and_eq_true,Bool.and_eq_true,List.all_eq_true] at h
  exact ⟨placeB_iff.1 h.1,h.2.1,rightB_iff.1 h.2.2⟩
theorem dupL_app:∀ (a b:List (Str×Int)) (seen:List Str),dupL (a ++ b) seen=none→dupL a seen=none∧dupL b (seen ++ a.map (·.1))=none
  | [],b,seen,h=>⟨rfl,by simpa using h⟩
  | e :: a, b, seen, h => by
    simp only [List.cons_append,dupL] at h ⊢
    split at h
    · cases h
    · rename_i q
      have:=dupL_app a b _ h
      rw [if_neg q]
      refine ⟨this.1,?_⟩
      have:=this.2
      rw [List.append_assoc] at this
      simpa using this
theorem dupL_sub:∀ (l:List (Str×Int)) (seen:List Str),dupL l seen=none→∀ e∈l,e.1 ∉ seen
  | [],_,_,e,he=>by cases he
  | x :: l, seen, h, e, he => by
    rw [dupL] at h
    split at h
    · cases h
    · rename_i q
      rcases List.mem_cons.1 he with rfl | he
      · exact q
      · exact fun k=>dupL_sub l _ h e he (List.mem_append_left _ k)
theorem dupL_nodup:∀ (l:List (Str×Int)) (seen:List Str),dupL l seen=none→(l.map (·.1)).Nodup
  | [],_,_=>List.nodup_nil
  | x :: l, seen, h => by
    rw [dupL] at h
    split at h
    · cases h
    · refine List.nodup_cons.2 ⟨fun k => ?_, dupL_nodup l _ h⟩
      obtain ⟨e,he,hx⟩:=List.mem_map.1 k
      exact dupL_sub l _ h e he (by rw [hx];simp)
theorem apt_of {p:api_Prog} {G:List Str} (h1:dupL (namesL p) []=none) (h2:dupR (keysP p) G=false):Apt p G:=by
  have h3:=(dupL_app _ _ _ h1).2
  have h4:=(dupL_app _ _ _ h3).1
  refine ⟨fun s hs=>?_,fun s hs=>?_⟩
  · obtain ⟨c, hc, rfl⟩ := List.mem_map.1 hs
    have:=dupL_sub _ _ h4 (c.Name,c.At) (List.mem_map.2 ⟨c,hc,rfl⟩)
    rw [← flat_names]
    simpa [Function.comp_def] using this
  · have := dupR_sub G _ h2 s hs
    rw [keys_mem,flat_names,not_or] at this
    exact this
def wildT (t:api_Thread):Option Int:=(Z7c 1001 t.Body 1).bind fun r=>if r.2=true then some r.1 else none
theorem wildT_of {t:api_Thread} {o:Option Int} (h:Z7c 1001 t.Body 1=some (wildR o)):wildT t=o:=by
  unfold wildT;rw [h]
  cases o <;> rfl
theorem wild_t {t:api_Thread} (h:threadB t=true):Z7c 1001 t.Body 1=some (wildR (wildT t))∧Z5l 1001 t.Body 1=some ((wildT t).getD (-1))∧∀ v,wildT t=some v→0≤v∧v≤4000:=by
  obtain ⟨_,_,b,hb⟩:=threadB_iff h
  have hat:∀ x∈b.flat,0≤x.At∧x.At≤4000:=fun x hx=>(fits_at (hb.fits x (by rw [hb.flat];exact hx))).1
  have hlen:b.size≤40:=by have:=hb.len;rw [hb.flat,B.flat_len] at this;exact this
  have e1:=wild_eq 1001 b hb.ok (by omega) 1 (by decide) (by decide)
  have e2:=rwild_eq 1001 b hb.ok (fun x hx=>(hat x hx).1) (by omega) 1 (by decide) (by decide)
  rw [← hb.flat] at e1 e2
  rw [wildT_of e1]
  refine ⟨e1,e2,fun v hv=>?_⟩
  obtain ⟨x,hx,rfl⟩:=wild_at b 1 hv
  exact hat x hx
def out (c:Int) (o:Option Int) (k:Option (Int×Int)):Option (Int×Int):=match o with | some v=>some (c,v) | none=>k
theorem lwild {l:List api_Thread} (hl:l.length≤1000) (ht:∀ t∈l,threadB t=true) (k:Option (Int×Int)):∀ (d j n:Nat),j+d=l.length→d < n→Z5x 1001 k l n (j:Int)=out 11 ((l.drop j).findSome? wildT) k:=by
  intro d
  induction d with
  | zero =>
    intro j n hj hn
    obtain ⟨n,rfl⟩:∃ m,n=m+1:=⟨n - 1,by omega⟩
    rw [Z5x,if_neg (by omega),List.drop_of_length_le (by omega)];rfl
  | succ d ih =>
    intro j n hj hn
    obtain ⟨n,rfl⟩:∃ m,n=m+1:=⟨n - 1,by omega⟩
    have h1:j < l.length:=by omega
    rw [Z5x,if_pos (by omega),getI_at rfl h1]
    simp only [Option.bind_some]
    rw [(wild_t (ht _ (List.getElem_mem h1))).1,List.drop_eq_getElem_cons h1,List.findSome?_cons]
    simp only [Option.bind_some]
    cases wildT l[j] with
    | some v=>rfl
    | none=>rw [if_neg (by simp [wildR]),wsucc h1 (by omega),ih (j+1) n (by omega) (by omega)]
def regT (p:api_Prog) (t:api_Thread):Option Int:=if dupR (keysP p) t.Regs=true then some t.At else none
theorem lregs {p:api_Prog} {l:List api_Thread} (hl:l.length≤1000) (ht:∀ t∈l,SmallT t) (k:Option (Int×Int)) (a:Int) (b:Bool):∀ (d j n:Nat),j+d=l.length→d < n→Z5y 1001 k (mapL p,a,b) l n (j:Int)=out 10 ((l.drop j).findSome? (regT p)) k:=by
  intro d
  induction d with
  | zero =>
    intro j n hj hn
    obtain ⟨n,rfl⟩:∃ m,n=m+1:=⟨n - 1,by omega⟩
    rw [Z5y,if_neg (by omega),List.drop_of_length_le (by omega)];rfl
  | succ d ih =>
    intro j n hj hn
    obtain ⟨n,rfl⟩:∃ m,n=m+1:=⟨n - 1,by omega⟩
    have h1:j < l.length:=by omega
    have hs:=ht _ (List.getElem_mem h1)
    rw [Z5y,if_pos (by omega),getI_at rfl h1]
    simp only [Option.bind_some]
    rw [regs_spec (by have:=hs.regs;omega),List.drop_eq_getElem_cons h1,List.findSome?_cons]
    simp only [Option.bind_some]
    unfold regT
    cases dupR (keysP p) l[j].Regs with
    | true=>rfl
    | false=>rw [if_neg (by simp),wsucc h1 (by omega),ih (j+1) n (by omega) (by omega)];rfl
def nameT (p:api_Prog) (t:api_Thread):Option Int:=t.Body.findSome? (badS p t.Regs)
theorem lnames {p:api_Prog} {l:List api_Thread} (hl:l.length≤1000) (ht:∀ t∈l,SmallT t) (hr:∀ t∈l,dupR (keysP p) t.Regs=false) (k:Option (Int×Int)) (a:Int) (b:Bool):∀ (d j n:Nat),j+d=l.length→d < n→Z5z 1001 k (mapL p,a,b) l n (j:Int)=out 9 ((l.drop j).findSome? (nameT p)) k:=by
  intro d
  induction d with
  | zero =>
    intro j n hj hn
    obtain ⟨n,rfl⟩:∃ m,n=m+1:=⟨n - 1,by omega⟩
    rw [Z5z,if_neg (by omega),List.drop_of_length_le (by omega)];rfl
  | succ d ih =>
    intro j n hj hn
    obtain ⟨n,rfl⟩:∃ m,n=m+1:=⟨n - 1,by omega⟩
    have h1:j < l.length:=by omega
    have hs:=ht _ (List.getElem_mem h1)
    rw [Z5z,if_pos (by omega),getI_at rfl h1]
    simp only [Option.bind_some]
    rw [regs_spec (by have:=hs.regs;omega),hr _ (List.getElem_mem h1),if_neg (by decide)]
    simp only [Option.bind_some,Z6z]
    rw [uses_check (by have:=hs.body;omega) hs.small,List.drop_eq_getElem_cons h1,List.findSome?_cons]
    simp only [Option.bind_some]
    unfold nameT
    cases l[j].Body.findSome? (badS p l[j].Regs) with
    | some v=>rfl
    | none=>simp only;rw [wsucc h1 (by omega),ih (j+1) n (by omega) (by omega)];rfl
def claimT (p:api_Prog) (c:api_Claim):Option Int:=c.E.findSome? (varB (A1 p))
theorem look_map (p:api_Prog) (s:Str):(plook s (mapL p)).getD 0=1↔s∈A1 p:=by
  rw [mapL_eq]
  simp only [baseM,plook_app]
  rw [look_pairs (f:=fun c:api_Cell=>c.Name),look_pairs (f:=fun c:api_Cell=>c.Name),look_pairs (f:=fun c:api_Cell=>c.Name),look_pairs (f:=fun t:api_Thread=>t.Name)]
  unfold A1
  split
  · rename_i h;exact ⟨fun _=>h,fun _=>rfl⟩
  · simp only [*, iff_false, Option.none_or]
    split
    · simp
    · simp only [Option.none_or]
      split
      · simp
      · simp only [Option.none_or];split <;> simp
theorem lclaim {p:api_Prog} {c:api_Claim} (hc:c.E.length≤60) (k:Option (Int×Int)) (a:Int) (b:Bool):∀ (d j n:Nat),j+d=c.E.length→d < n→Z5w 1001 k (mapL p,a,b) c n (j:Int)=out 9 ((c.E.drop j).findSome? (varB (A1 p))) k:=by
  intro d
  induction d with
  | zero =>
    intro j n hj hn
    obtain ⟨n,rfl⟩:∃ m,n=m+1:=⟨n - 1,by omega⟩
    rw [Z5w,if_neg (by omega),List.drop_of_length_le (by omega)];rfl
  | succ d ih =>
    intro j n hj hn
    obtain ⟨n,rfl⟩:∃ m,n=m+1:=⟨n - 1,by omega⟩
    have h1:j < c.E.length:=by omega
    rw [Z5w,if_pos (by omega),getI_at rfl h1]
    simp only [Option.bind_some]
    rw [List.drop_eq_getElem_cons h1,List.findSome?_cons,varB]
    have hw:=look_map p c.E[j].Name
    by_cases h:c.E[j].Op=2∧c.E[j].Name ∉ A1 p
    · rw [if_pos h,if_pos (by rw [Bool.and_eq_true,decide_eq_true_eq,decide_eq_true_eq];exact ⟨h.1,fun q=>h.2 (hw.1 q)⟩)];rfl
    · rw [if_neg h,if_neg (by rw [Bool.and_eq_true,decide_eq_true_eq,decide_eq_true_eq];exact fun q=>h ⟨q.1,fun z=>q.2 (hw.2 z)⟩),wsucc h1 (by omega),ih (j+1) n (by omega) (by omega)]
theorem lclaims {p:api_Prog} (hp:SmallP p) (k:Option (Int×Int)) (a:Int) (b:Bool):∀ (d j n:Nat),j+d=p.Claims.length→d < n→Z60 1001 k p (mapL p,a,b) n (j:Int)=out 9 ((p.Claims.drop j).findSome? (claimT p)) k:=by
  intro d
  have hC:=hp.claims
  induction d with
  | zero =>
    intro j n hj hn
    obtain ⟨n,rfl⟩:∃ m,n=m+1:=⟨n - 1,by omega⟩
    rw [Z60,if_neg (by omega),List.drop_of_length_le (by omega)];rfl
  | succ d ih =>
    intro j n hj hn
    obtain ⟨n,rfl⟩:∃ m,n=m+1:=⟨n - 1,by omega⟩
    have h1:j < p.Claims.length:=by omega
    have hs:=hp.claim _ (List.getElem_mem h1)
    rw [Z60,if_pos (by omega),getI_at rfl h1]
    simp only [Option.bind_some]
    rw [show (0:Int)=((0:Nat):Int) from rfl,lclaim hs _ a b p.Claims[j].E.length 0 1001 (by omega) (by omega),List.drop_zero,List.drop_eq_getElem_cons h1,List.findSome?_cons]
    unfold claimT
    cases p.Claims[j].E.findSome? (varB (A1 p)) with
    | some v=>rfl
    | none=>simp only [out];rw [Z5s,wsucc h1 (by omega),ih (j+1) n (by omega) (by omega)];rfl
noncomputable def checkS (p:api_Prog):Option (Int×Int):=
  if progB p=true then if bigB p=true then some (2,0) else
    out 11 ((allT p).findSome? wildT) (out 10 (dupL (namesL p) []) (out 10 ((allT p).findSome? (regT p)) (out 9 ((allT p).findSome? (nameT p)) (out 9 (p.Claims.findSome? (claimT p)) (some (0,0))))))
  else some (8,0)
theorem find_none {α β:Type} {f:α→Option β} {l:List α} (h:l.findSome? f=none):∀ x∈l,f x=none:=List.findSome?_eq_none_iff.1 h
theorem Check_eq {p:api_Prog} (hp:SmallP p):Z5p 1001 p=checkS p:=by
  have hA:=allT_small hp
  obtain ⟨n1,n2⟩:=names_dup hp
  unfold Z5p checkS
  have hN:∃ r,Z6m 1001 p=some r∧∀ (q:progB p=true),Z5r 1001 p r=out 10 (dupL (namesL p) []) (out 10 ((allT p).findSome? (regT p)) (out 9 ((allT p).findSome? (nameT p)) (out 9 (p.Claims.findSome? (claimT p)) (some (0,0))))):=by
    cases hd:dupL (namesL p) [] with
    | some v =>
      obtain ⟨m,hm⟩:=n1 v hd
      exact ⟨_,hm,fun _=>by rw [Z5r,if_pos rfl];rfl⟩
    | none =>
      refine ⟨_,n2 hd,fun q=>?_⟩
      rw [Z5r,if_neg (show ¬ ((false:Bool)=true) from Bool.false_ne_true),threads_eq hp]
      simp only [Option.bind_some]
      have e1:=lregs (p:=p) (l:=allT p) (by omega) hA.2 (Z5t 1001 p (mapL p,0,false)) 0 false (allT p).length 0 1001 (by omega) (by omega)
      rw [List.drop_zero] at e1
      refine Eq.trans e1 ?_
      cases hr:(allT p).findSome? (regT p) with
      | some v=>rfl
      | none =>
        have hr':∀ t∈allT p,dupR (keysP p) t.Regs=false:=by
          intro t ht
          have:=find_none hr t ht
          unfold regT at this
          split at this
          · cases this
          · rename_i z;simpa using z
        simp only [out]
        rw [Z5t,threads_eq hp]
        simp only [Option.bind_some]
        have e2:=lnames (p:=p) (l:=allT p) (by omega) hA.2 hr' (Z5u 1001 p (mapL p,0,false)) 0 false (allT p).length 0 1001 (by omega) (by omega)
        rw [List.drop_zero] at e2
        refine Eq.trans e2 ?_
        cases (allT p).findSome? (nameT p) with
        | some v=>rfl
        | none =>
          simp only [out]
          rw [Z5u]
          have e3:=lclaims hp Z5v 0 false p.Claims.length 0 1001 (by omega) (by have:=hp.claims;omega)
          rw [List.drop_zero] at e3
          exact e3
  obtain ⟨r,hr,hj⟩:=hN
  rw [hr]
  simp only [Option.bind_some]
  rw [PRight_eq hp]
  simp only [Option.bind_some]
  cases hq:progB p with
  | false=>rfl
  | true =>
    rw [if_pos rfl,if_pos rfl,big_eq hp]
    simp only [Option.bind_some]
    cases bigB p with
    | true=>rfl
    | false =>
      rw [if_neg (by decide),if_neg (by decide),threads_eq hp]
      simp only [Option.bind_some]
      have e1:=lwild (l:=allT p) (by omega) (progB_iff.1 hq).thread (Z5r 1001 p r) (allT p).length 0 1001 (by omega) (by omega)
      rw [List.drop_zero,hj hq] at e1
      rw [hj hq]
      exact e1
theorem checkS_some {p:api_Prog}:∃ r,checkS p=some r:=by
  unfold checkS
  split
  · split
    · exact ⟨_,rfl⟩
    · unfold out
      split
      · exact ⟨_,rfl⟩
      · split
        · exact ⟨_,rfl⟩
        · split
          · exact ⟨_,rfl⟩
          · split
            · exact ⟨_,rfl⟩
            · split <;> exact ⟨_,rfl⟩
  · exact ⟨_,rfl⟩
end Go.MD.LB
