/- Names within threads, Hw statements use, as the program and the document have them. No condition: plain lemmas. -/
import Derived.Test.YtgdkaddhhpgeiaaGreatDoorLBC
namespace Go.MD.LB
open Go Go.MD
def Ey (p:api_Prog):List (Str×Int):=p.Lines.flatten.map (fun c=>(c.Name,(1:Int))) ++ (p.Vols.map (fun c=>(c.Name,(2:Int))) ++ p.Locks.map (fun c=>(c.Name,(3:Int))))
theorem Mu:∀ (ls:List (List api_Cell)) (i n:Nat),i+ls.length≤n→((Ju ls i).map (Ie n)).map (fun e=>(e.1,e.2.1))=ls.flatten.map (fun c=>(c.Name,(1:Int)))
  | [],_,_,_=>rfl
  | l :: r, i, n, h => by
    simp only [List.length_cons] at h
    simp only [Ju,List.map_append,List.flatten_cons,Mu r (i+1) n (by omega),List.map_map]
    congr 1
    apply List.map_congr_left
    intro c _
    simp only [Function.comp,Ie]
    rw [if_neg (by omega)]
theorem Pj:∀ (vs:List api_Cell) (i n:Nat),n≤i→((Ou vs i).map (Ie n)).map (fun e=>(e.1,e.2.1))=vs.map (fun c=>(c.Name,(2:Int)))
  | [],_,_,_=>rfl
  | c :: r, i, n, h => by
    simp only [Ou,List.map_cons,Pj r (i+1) n (by omega)]
    congr 1
    simp only [Ie]
    rw [if_pos (by omega)]
theorem Rz (p:api_Prog):Jy p=Ey p ++ p.Threads.map (fun t=>(t.Name,(4:Int))):=by
  unfold Jy Ng Ol Ey
  simp only [List.map_append]
  rw [Mu p.Lines 0 _ (by omega),Pj p.Vols _ _ (Nat.le_refl _)]
  simp only [List.map_map,List.append_assoc]
  rfl
theorem Rh {p:api_Prog}:∀ e∈Ey p,e.2≠0∧e.2≠4:=by
  intro e he
  simp only [Ey,List.mem_append,List.mem_map] at he
  rcases he with ⟨x,_,rfl⟩ | ⟨x,_,rfl⟩ | ⟨x,_,rfl⟩
  · exact ⟨by show (1:Int)≠0;decide,by show (1:Int)≠4;decide⟩
  · exact ⟨by show (2:Int)≠0;decide,by show (2:Int)≠4;decide⟩
  · exact ⟨by show (3:Int)≠0;decide,by show (3:Int)≠4;decide⟩
theorem N3 (p:api_Prog):(Jy p).filter (fun q=>decide (q.2≠4))=Ey p:=by
  rw [Rz,List.filter_append,List.filter_eq_self.2 (fun e he=>decide_eq_true (Rh e he).2),List.filter_eq_nil_iff.2,List.append_nil]
  intro e he
  obtain ⟨x,_,rfl⟩:=List.mem_map.1 he
  simp
def Fj (p:api_Prog):List Str:=(Cc p).map (·.Name) ++ p.Locks.map (·.Name)
theorem Te (p:api_Prog):(Ey p).map (·.1)=Fj p:=by
  simp [Ey,Fj,Cc,Function.comp_def]
def Hb:List Str→List Str→Bool
  | _,[]=>false
  | K,s :: r=>if s∈K then true else Hb (K ++ [s]) r
theorem Qk {t:api_Thread} (hr:t.Regs.length≤1000):∀ (d j n:Nat) (m:List (Str×Int)),j+d=t.Regs.length→d < n→(∀ e∈m,e.2≠0)→
    Z8e 1001 Z8d t n m (j:Int)=some (if Hb (m.map (·.1)) (t.Regs.drop j)=true then ([],true) else (m ++ (t.Regs.drop j).map (fun s=>(s,(5:Int))),false)):=by
  intro d
  induction d with
  | zero =>
    intro j n m hj hn hm
    obtain ⟨n,rfl⟩:∃ m,n=m+1:=⟨n - 1,by omega⟩
    rw [Z8e,if_neg (by omega),List.drop_of_length_le (by omega)]
    simp [Hb,Z8d]
  | succ d ih =>
    intro j n m hj hn hm
    obtain ⟨n,rfl⟩:∃ m,n=m+1:=⟨n - 1,by omega⟩
    have h1:j < t.Regs.length:=by omega
    rw [Z8e,if_pos (by omega),As rfl h1]
    simp only [Option.bind_some]
    rw [List.drop_eq_getElem_cons h1,Hb]
    by_cases h:t.Regs[j]∈m.map (·.1)
    · rw [if_pos ((Kb hm _).2 h),if_pos h];rfl
    · rw [if_neg (fun q=>h ((Kb hm _).1 q)),if_neg h,Og h,Bf h1 (by omega),ih (j+1) n _ (by omega) (by omega) (fun e he=>by
        rcases List.mem_append.1 he with he | he
        · exact hm e he
        · simp only [List.mem_cons, List.not_mem_nil, or_false] at he
          subst he;show (5:Int)≠0;decide)]
      simp only [List.map_append,List.map_cons,List.map_nil,List.append_assoc,List.cons_append,List.nil_append]
def gM (G:List Str):List (Str×Int):=G.map fun s=>(s,(5:Int))
theorem Me {p:api_Prog} {t:api_Thread} (hr:t.Regs.length≤1000):Z8c 1001 t (Jy p)=some (if Hb (Fj p) t.Regs=true then ([],true) else (Ey p ++ gM t.Regs,false)):=by
  unfold Z8c
  rw [N3]
  have:=Qk hr t.Regs.length 0 1001 (Ey p) (by omega) (by omega) (fun e he=>(Rh e he).1)
  rw [List.drop_zero,Te] at this
  exact this
theorem Ja {p:api_Prog} {s:Str}:s∈Fj p↔s∈(Cc p).map (·.Name)∨s∈p.Locks.map (·.Name):=by
  unfold Fj;exact List.mem_append
theorem Pk {p:api_Prog} (hp:SmallP p) {l:List api_Thread} {i:Nat} (hi:i < l.length) (hr:l[i].Regs.length≤200) (k:Option (Int×Int)):∀ (d j n:Nat),j+d=l[i].Regs.length→d < n→
    Z60 1001 k p l (i:Int) n (j:Int)=if Hb (Fj p ++ l[i].Regs.take j) (l[i].Regs.drop j)=true then some (10,l[i].At) else k:=by
  intro d
  have hC:=Eb hp
  have hL:=hp.locks
  induction d with
  | zero =>
    intro j n hj hn
    obtain ⟨n,rfl⟩:∃ m,n=m+1:=⟨n - 1,by omega⟩
    rw [Z60,As rfl hi]
    simp only [Option.bind_some]
    rw [if_neg (by omega),List.drop_of_length_le (by omega)]
    simp [Hb]
  | succ d ih =>
    intro j n hj hn
    obtain ⟨n,rfl⟩:∃ m,n=m+1:=⟨n - 1,by omega⟩
    have h1:j < l[i].Regs.length:=by omega
    rw [Z60,As rfl hi]
    simp only [Option.bind_some]
    rw [if_pos (by omega),As rfl h1]
    simp only [Option.bind_some]
    rw [En (by omega) (by omega)]
    simp only [Option.bind_some]
    rw [List.drop_eq_getElem_cons h1,Hb]
    have hb:=Lk h1
    by_cases h:l[i].Regs[j]∈l[i].Regs.take j
    · rw [if_pos (hb.2 h),if_pos (List.mem_append_right _ h),Z5u,if_pos rfl];rfl
    · rw [if_neg (fun q => h (hb.1 q)), Jn hp]
      simp only [Option.bind_some]
      rw [En (by simp;omega) (by simp;omega)]
      simp only [Option.bind_some]
      by_cases h2:l[i].Regs[j]∈(Cc p).map (·.Name)
      · rw [if_pos (Fp.2 h2),if_pos (List.mem_append_left _ (Ja.2 (.inl h2))),Z5u,if_pos rfl];rfl
      · rw [if_neg (fun q => h2 (Fp.1 q)), Mr hp]
        simp only [Option.bind_some]
        rw [En (by simp;omega) (by simp;omega)]
        simp only [Option.bind_some]
        by_cases h3:l[i].Regs[j]∈p.Locks.map (·.Name)
        · rw [decide_eq_true (Fp.2 h3),if_pos (List.mem_append_left _ (Ja.2 (.inr h3))),Z5u,if_pos rfl];rfl
        · have h4 : ¬ l[i].Regs[j]∈Fj p ++ l[i].Regs.take j:=by
            intro q
            rcases List.mem_append.1 q with q | q
            · rcases Ja.1 q with q | q
              · exact h2 q
              · exact h3 q
            · exact h q
          rw [decide_eq_false (fun q=>h3 (Fp.1 q)),if_neg h4,Z5u,if_neg (by decide),Bf h1 (by omega),ih (j+1) n (by omega) (by omega),List.take_succ_eq_append_getElem h1,List.append_assoc]
theorem Po:∀ (l K:List Str),Hb K l=false→∀ s∈l,s ∉ K
  | [],_,_,s,hs=>by cases hs
  | x :: l, K, h, s, hs => by
    rw [Hb] at h
    split at h
    · cases h
    · rename_i hx
      rcases List.mem_cons.1 hs with rfl | hs
      · exact hx
      · exact fun q=>Po l _ h s hs (List.mem_append_left _ q)
def A1 (p:api_Prog):List Str:=p.Lines.flatten.map (·.Name)
def A2 (p:api_Prog):List Str:=p.Vols.map (·.Name)
def K1 (p:api_Prog):List Str:=p.Locks.map (·.Name)
def Hw (p:api_Prog) (G:List Str) (s:Str):Int:=if s∈A1 p then 1 else if s∈A2 p then 2 else if s∈K1 p then 3 else if s∈G then 5 else 0
theorem Yl {G:List Str} {s:Str}:Be s (gM G)=if s∈G then some 5 else none:=by
  have:=Da (l:=G) (f:=fun x=>x) (v:=5) (k:=s)
  simpa [gM] using this
theorem S2 (p:api_Prog) (G:List Str) (s:Str):(Be s (Ey p ++ gM G)).getD 0=Hw p G s:=by
  simp only [Ey,Hv]
  rw [Da (f:=fun c:api_Cell=>c.Name),Da (f:=fun c:api_Cell=>c.Name),Da (f:=fun c:api_Cell=>c.Name),Yl]
  unfold Hw A1 A2 K1
  split
  · rfl
  · split
    · rfl
    · split
      · rfl
      · split <;> rfl
theorem Ef (p:api_Prog):(Cc p).map (·.Name)=A1 p ++ A2 p:=by simp [Cc,A1,A2]
structure Apt (p:api_Prog) (G:List Str):Prop where
  locks:∀ s∈K1 p,s ∉ A1 p ++ A2 p
  regs:∀ s∈G,s ∉ A1 p ++ A2 p∧s ∉ K1 p
theorem JbP {p:api_Prog} {G:List Str} {s:Str}:Hw p G s=1↔s∈A1 p:=by
  unfold Hw;split
  · simp [*]
  · split
    · simp [*]
    · split
      · simp [*]
      · split <;> simp [*]
theorem Jas {p:api_Prog} {G:List Str} {s:Str}:(Hw p G s=1∨Hw p G s=2)↔s∈A1 p ++ A2 p:=by
  unfold Hw;rw [List.mem_append];split
  · simp [*]
  · split
    · simp [*]
    · split
      · simp [*]
      · split <;> simp [*]
theorem JaN {p:api_Prog} {G:List Str} (ha:Apt p G) {s:Str}:Hw p G s=3↔s∈K1 p:=by
  have h:=ha.locks s
  rw [List.mem_append] at h
  unfold Hw;split
  · rename_i q;simp only [show ¬ (1:Int)=3 by decide,false_iff];exact fun k=>h k (.inl q)
  · split
    · rename_i q;simp only [show ¬ (2:Int)=3 by decide,false_iff];exact fun k=>h k (.inr q)
    · split
      · simp [*]
      · split <;> simp [*]
theorem Rj {p:api_Prog} {G:List Str} (ha:Apt p G) {s:Str}:Hw p G s=5↔s∈G:=by
  have h:=ha.regs s
  rw [List.mem_append] at h
  unfold Hw;split
  · rename_i q;simp only [show ¬ (1:Int)=5 by decide,false_iff];exact fun k=>(h k).1 (.inl q)
  · split
    · rename_i q;simp only [show ¬ (2:Int)=5 by decide,false_iff];exact fun k=>(h k).1 (.inr q)
    · split
      · rename_i q;simp only [show ¬ (3:Int)=5 by decide,false_iff];exact fun k=>(h k).2 q
      · split <;> simp [*]
def Hi (l:List api_Node):List legal_use:=l.filterMap fun x=>if x.Op=2 then some ⟨x.Name,x.At,[5]⟩ else none
def Hz (k:Int):List Int:=if k=5∨k=6 then [1] else if k=9∨k=10 then [3] else [1,2]
def Jz (x:api_Stmt):List legal_use:=(if x.Reg≠[] then [⟨x.Reg,x.At,[5]⟩] else []) ++ ((if x.Name≠[] then [⟨x.Name,x.At,Hz x.Kind⟩] else []) ++ (Hi x.E ++ Hi x.F))
def Kq {τ α:Type} (y:τ→α→Option (τ×Bool)):List α→τ→Option (Bool×τ)
  | [],s=>some (true,s)
  | x :: r,s=>(y s x).bind fun q=>if q.2=true then Kq y r q.1 else some (false,q.1)
theorem Qj {τ α:Type} (y:τ→α→Option (τ×Bool)) (k:τ→Option τ):∀ (l:List α) (s:τ),((Kq y l s).bind fun r=>if r.1=true then k r.2 else some r.2)=Bz y k l s
  | [],s=>by simp [Kq,Bz]
  | x :: l, s => by
    simp only [Kq,Bz,Option.bind_assoc]
    congr 1
    funext q
    split
    · exact Qj y k l q.1
    · rfl
theorem Qv {τ α:Type} (y:τ→α→Option (τ×Bool)) (k:τ→Option τ) (l m:List α):Bz y k (l ++ m)=Bz y (Bz y k m) l:=funext (Hm y k l m)
theorem Sk {τ:Type} {l:List api_Node} (hl:l.length≤1000) (y:τ→legal_use→Option (τ×Bool)):∀ (d j n:Nat) (s:τ),j+d=l.length→d < n→Z8s 1001 Z8q l 5 y n (j:Int) s=Kq y (Hi (l.drop j)) s:=by
  intro d
  induction d with
  | zero =>
    intro j n s hj hn
    obtain ⟨n,rfl⟩:∃ m,n=m+1:=⟨n - 1,by omega⟩
    rw [Z8s,if_neg (by omega),List.drop_of_length_le (by omega)];rfl
  | succ d ih =>
    intro j n s hj hn
    obtain ⟨n,rfl⟩:∃ m,n=m+1:=⟨n - 1,by omega⟩
    have h1:j < l.length:=by omega
    rw [Z8s,if_pos (by omega),As rfl h1]
    simp only [Option.bind_some]
    rw [List.drop_eq_getElem_cons h1,Hi,List.filterMap_cons]
    by_cases h:l[j].Op=2
    · rw [if_pos h, if_pos h]
      simp only [Kq]
      congr 1
      funext q
      rw [Z8r]
      cases q.2 with
      | false=>rfl
      | true=>rw [if_neg (by decide),if_pos rfl,Bf h1 (by omega),ih (j+1) n _ (by omega) (by omega)];rfl
    · rw [if_neg h,if_neg h,Z8r,if_neg (by decide),Bf h1 (by omega),ih (j+1) n _ (by omega) (by omega)];rfl
theorem Rb {τ:Type} {l:List api_Node} (hl:l.length≤1000) (y:τ→legal_use→Option (τ×Bool)) (s:τ):Z8p 1001 l 5 y s=Kq y (Hi l) s:=by
  have:=Sk hl y l.length 0 1001 s (by omega) (by omega)
  rw [List.drop_zero] at this
  exact this
theorem Xg {τ:Type} (k:List Int→τ→Option τ) (x:api_Stmt) (s:τ) :
    (if x.Kind=5 then Z8k k x (decide (x.Kind=5)) s else Z8k k x (decide (x.Kind=6)) s)=k (Hz x.Kind) s:=by
  unfold Z8k Z8l Hz
  by_cases h5:x.Kind=5
  · simp [h5]
  · by_cases h6 : x.Kind = 6
    · simp [h6]
    · by_cases h9 : x.Kind = 9
      · simp [h9]
      · by_cases h10 : x.Kind = 10
        · simp [h10]
        · simp [h5,h6,h9,h10]
theorem Tb {τ:Type} {l:List api_Stmt} (hl:l.length≤1000) (hs:∀ x∈l,Dn x) (y:τ→legal_use→Option (τ×Bool)):∀ (d j n:Nat) (s:τ),j+d=l.length→d < n→Z8o 1001 y l n (j:Int) s=Bz y some ((l.drop j).flatMap Jz) s:=by
  intro d
  induction d with
  | zero =>
    intro j n s hj hn
    obtain ⟨n,rfl⟩:∃ m,n=m+1:=⟨n - 1,by omega⟩
    rw [Z8o,if_neg (by omega),List.drop_of_length_le (by omega)];rfl
  | succ d ih =>
    intro j n s hj hn
    obtain ⟨n,rfl⟩:∃ m,n=m+1:=⟨n - 1,by omega⟩
    have h1:j < l.length:=by omega
    have hx:=hs _ (List.getElem_mem h1)
    rw [Z8o,if_pos (by omega),As rfl h1]
    simp only [Option.bind_some]
    rw [List.drop_eq_getElem_cons h1,List.flatMap_cons]
    generalize hxx:l[j]=x at hx
    have e7:∀ (b:Bool) (s:τ),Z8n (Z8o 1001 y l n) (j:Int) (!b) s=if b=true then Bz y some ((l.drop (j+1)).flatMap Jz) s else some s:=by
      intro b s
      rw [Z8n]
      cases b with
      | false=>rfl
      | true=>rw [if_neg (by decide),if_pos rfl,Bf h1 (by omega),ih (j+1) n s (by omega) (by omega)]
    have e6:∀ (b:Bool) (s:τ),Z8m 1001 (Z8o 1001 y l n) y x (j:Int) (!b) s=if b=true then Bz y (Bz y (Bz y some ((l.drop (j+1)).flatMap Jz)) (Hi x.F)) (Hi x.E) s else some s:=by
      intro b s
      rw [Z8m]
      cases b with
      | false=>rfl
      | true =>
        rw [if_neg (by decide),if_pos rfl,Rb (by have:=hx.1;omega),← Qj]
        congr 1
        funext r
        cases hr:r.1 with
        | false=>simp [Z8n]
        | true =>
          rw [if_pos rfl,if_pos rfl,Rb (by have:=hx.2;omega),← Qj]
          congr 1
          funext r
          exact e7 r.1 r.2
    have e3:∀ (may:List Int) (s:τ),may=Hz x.Kind→Z8j 1001 (Z8o 1001 y l n) y x (j:Int) may s=Bz y (Bz y (Bz y (Bz y some ((l.drop (j+1)).flatMap Jz)) (Hi x.F)) (Hi x.E)) (if x.Name≠[] then [⟨x.Name,x.At,Hz x.Kind⟩] else []) s:=by
      intro may s hmay
      subst hmay
      rw [Z8j]
      by_cases h:x.Name≠[]
      · rw [if_pos h, if_pos h, Bz]
        congr 1
        funext q
        rw [e6]
        rfl
      · rw [if_neg h, if_neg h]
        exact (e6 true s).trans (if_pos rfl)
    have e2:∀ (b:Bool) (s:τ),Z8i 1001 (Z8o 1001 y l n) y x (j:Int) (!b) s=if b=true then Bz y (Bz y (Bz y (Bz y some ((l.drop (j+1)).flatMap Jz)) (Hi x.F)) (Hi x.E)) (if x.Name≠[] then [⟨x.Name,x.At,Hz x.Kind⟩] else []) s else some s:=by
      intro b s
      rw [Z8i]
      cases b with
      | false=>rfl
      | true =>
        rw [if_neg (by decide),if_pos rfl,Xg]
        exact e3 _ s rfl
    rw [show Jz x=(if x.Reg≠[] then [⟨x.Reg,x.At,[5]⟩] else []) ++ ((if x.Name≠[] then [⟨x.Name,x.At,Hz x.Kind⟩] else []) ++ (Hi x.E ++ Hi x.F)) from rfl]
    simp only [Qv]
    by_cases h:x.Reg≠[]
    · rw [if_pos h, if_pos h]
      simp only [Bz]
      congr 1
      funext q
      exact e2 q.2 q.1
    · rw [if_neg h, if_neg h]
      exact (e2 true s).trans (if_pos rfl)
theorem Wo {τ:Type} {l:List api_Stmt} (hl:l.length≤1000) (hs:∀ x∈l,Dn x) (y:τ→legal_use→Option (τ×Bool)) (s:τ):Z8h 1001 y s l=Bz y some (l.flatMap Jz) s:=by
  have:=Tb hl hs y l.length 0 1001 s (by omega) (by omega)
  rw [List.drop_zero] at this
  exact this
end Go.MD.LB
