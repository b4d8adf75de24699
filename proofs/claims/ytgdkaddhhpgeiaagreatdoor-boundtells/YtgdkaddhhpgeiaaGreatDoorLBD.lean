/- Names within threads, Ic statements use, as the program and the document have them. No condition: plain lemmas. -/
import Derived.Test.YtgdkaddhhpgeiaaGreatDoorLBC
namespace Go.MD.LB
open Go Go.MD
def Fq (p:api_Prog):List (Str×Int):=p.Lines.flatten.map (fun c=>(c.Name,(1:Int))) ++ (p.Vols.map (fun c=>(c.Name,(2:Int))) ++ p.Locks.map (fun c=>(c.Name,(3:Int))))
theorem Ms:∀ (ls:List (List api_Cell)) (i n:Nat),i+ls.length≤n→((Jy ls i).map (Ij n)).map (fun e=>(e.1,e.2.1))=ls.flatten.map (fun c=>(c.Name,(1:Int)))
  | [],_,_,_=>rfl
  | l :: r, i, n, h => by
    simp only [List.length_cons] at h
    simp only [Jy,List.map_append,List.flatten_cons,Ms r (i+1) n (by omega),List.map_map]
    congr 1
    apply List.map_congr_left
    intro c _
    simp only [Function.comp,Ij]
    rw [if_neg (by omega)]
theorem Oz:∀ (vs:List api_Cell) (i n:Nat),n≤i→((Pz vs i).map (Ij n)).map (fun e=>(e.1,e.2.1))=vs.map (fun c=>(c.Name,(2:Int)))
  | [],_,_,_=>rfl
  | c :: r, i, n, h => by
    simp only [Pz,List.map_cons,Oz r (i+1) n (by omega)]
    congr 1
    simp only [Ij]
    rw [if_pos (by omega)]
theorem Sz (p:api_Prog):Kh p=Fq p ++ p.Threads.map (fun t=>(t.Name,(4:Int))):=by
  unfold Kh N4 Qc Fq
  simp only [List.map_append]
  rw [Ms p.Lines 0 _ (by omega),Oz p.Vols _ _ (Nat.le_refl _)]
  simp only [List.map_map,List.append_assoc]
  rfl
theorem Sn {p:api_Prog}:∀ e∈Fq p,e.2≠0∧e.2≠4:=by
  intro e he
  simp only [Fq,List.mem_append,List.mem_map] at he
  rcases he with ⟨x,_,rfl⟩ | ⟨x,_,rfl⟩ | ⟨x,_,rfl⟩
  · exact ⟨by show (1:Int)≠0;decide,by show (1:Int)≠4;decide⟩
  · exact ⟨by show (2:Int)≠0;decide,by show (2:Int)≠4;decide⟩
  · exact ⟨by show (3:Int)≠0;decide,by show (3:Int)≠4;decide⟩
theorem Ph (p:api_Prog):(Kh p).filter (fun q=>decide (q.2≠4))=Fq p:=by
  rw [Sz,List.filter_append,List.filter_eq_self.2 (fun e he=>decide_eq_true (Sn e he).2),List.filter_eq_nil_iff.2,List.append_nil]
  intro e he
  obtain ⟨x,_,rfl⟩:=List.mem_map.1 he
  simp
def Fi (p:api_Prog):List Str:=(Ce p).map (·.Name) ++ p.Locks.map (·.Name)
theorem Uk (p:api_Prog):(Fq p).map (·.1)=Fi p:=by
  simp [Fq,Fi,Ce,Function.comp_def]
def Gy:List Str→List Str→Bool
  | _,[]=>false
  | K,s :: r=>if s∈K then true else Gy (K ++ [s]) r
theorem Re {t:api_Thread} (hr:t.Regs.length≤1000):∀ (d j n:Nat) (m:List (Str×Int)),j+d=t.Regs.length→d < n→(∀ e∈m,e.2≠0)→
    Z91 1001 Z90 t n m (j:Int)=some (if Gy (m.map (·.1)) (t.Regs.drop j)=true then ([],true) else (m ++ (t.Regs.drop j).map (fun s=>(s,(5:Int))),false)):=by
  intro d
  induction d with
  | zero =>
    intro j n m hj hn hm
    obtain ⟨n,rfl⟩:∃ m,n=m+1:=⟨n - 1,by omega⟩
    rw [Z91,if_neg (by omega),List.drop_of_length_le (by omega)]
    simp [Gy,Z90]
  | succ d ih =>
    intro j n m hj hn hm
    obtain ⟨n,rfl⟩:∃ m,n=m+1:=⟨n - 1,by omega⟩
    have h1:j < t.Regs.length:=by omega
    rw [Z91,if_pos (by omega),As rfl h1]
    simp only [Option.bind_some]
    rw [List.drop_eq_getElem_cons h1,Gy]
    by_cases h:t.Regs[j]∈m.map (·.1)
    · rw [if_pos ((Kp hm _).2 h),if_pos h];rfl
    · rw [if_neg (fun q=>h ((Kp hm _).1 q)),if_neg h,Pt h,Be h1 (by omega),ih (j+1) n _ (by omega) (by omega) (fun e he=>by
        rcases List.mem_append.1 he with he | he
        · exact hm e he
        · simp only [List.mem_cons, List.not_mem_nil, or_false] at he
          subst he;show (5:Int)≠0;decide)]
      simp only [List.map_append,List.map_cons,List.map_nil,List.append_assoc,List.cons_append,List.nil_append]
def gM (G:List Str):List (Str×Int):=G.map fun s=>(s,(5:Int))
theorem Mv {p:api_Prog} {t:api_Thread} (hr:t.Regs.length≤1000):Z8z 1001 t (Kh p)=some (if Gy (Fi p) t.Regs=true then ([],true) else (Fq p ++ gM t.Regs,false)):=by
  unfold Z8z
  rw [Ph]
  have:=Re hr t.Regs.length 0 1001 (Fq p) (by omega) (by omega) (fun e he=>(Sn e he).1)
  rw [List.drop_zero,Uk] at this
  exact this
theorem Jj {p:api_Prog} {s:Str}:s∈Fi p↔s∈(Ce p).map (·.Name)∨s∈p.Locks.map (·.Name):=by
  unfold Fi;exact List.mem_append
theorem Pr {p:api_Prog} (hp:SmallP p) {l:List api_Thread} {i:Nat} (hi:i < l.length) (hr:l[i].Regs.length≤200) (k:Option (Int×Int)):∀ (d j n:Nat),j+d=l[i].Regs.length→d < n→
    Z6n 1001 k p l (i:Int) n (j:Int)=if Gy (Fi p ++ l[i].Regs.take j) (l[i].Regs.drop j)=true then some (10,l[i].At) else k:=by
  intro d
  have hC:=Eb hp
  have hL:=hp.locks
  induction d with
  | zero =>
    intro j n hj hn
    obtain ⟨n,rfl⟩:∃ m,n=m+1:=⟨n - 1,by omega⟩
    rw [Z6n,As rfl hi]
    simp only [Option.bind_some]
    rw [if_neg (by omega),List.drop_of_length_le (by omega)]
    simp [Gy]
  | succ d ih =>
    intro j n hj hn
    obtain ⟨n,rfl⟩:∃ m,n=m+1:=⟨n - 1,by omega⟩
    have h1:j < l[i].Regs.length:=by omega
    rw [Z6n,As rfl hi]
    simp only [Option.bind_some]
    rw [if_pos (by omega),As rfl h1]
    simp only [Option.bind_some]
    rw [Ew (by omega) (by omega)]
    simp only [Option.bind_some]
    rw [List.drop_eq_getElem_cons h1,Gy]
    have hb:=Kz h1
    by_cases h:l[i].Regs[j]∈l[i].Regs.take j
    · rw [if_pos (hb.2 h),if_pos (List.mem_append_right _ h),Z6h,if_pos rfl];rfl
    · rw [if_neg (fun q => h (hb.1 q)), Jx hp]
      simp only [Option.bind_some]
      rw [Ew (by simp;omega) (by simp;omega)]
      simp only [Option.bind_some]
      by_cases h2:l[i].Regs[j]∈(Ce p).map (·.Name)
      · rw [if_pos (Fz.2 h2),if_pos (List.mem_append_left _ (Jj.2 (.inl h2))),Z6h,if_pos rfl];rfl
      · rw [if_neg (fun q => h2 (Fz.1 q)), Np hp]
        simp only [Option.bind_some]
        rw [Ew (by simp;omega) (by simp;omega)]
        simp only [Option.bind_some]
        by_cases h3:l[i].Regs[j]∈p.Locks.map (·.Name)
        · rw [decide_eq_true (Fz.2 h3),if_pos (List.mem_append_left _ (Jj.2 (.inr h3))),Z6h,if_pos rfl];rfl
        · have h4 : ¬ l[i].Regs[j]∈Fi p ++ l[i].Regs.take j:=by
            intro q
            rcases List.mem_append.1 q with q | q
            · rcases Jj.1 q with q | q
              · exact h2 q
              · exact h3 q
            · exact h q
          rw [decide_eq_false (fun q=>h3 (Fz.1 q)),if_neg h4,Z6h,if_neg (by decide),Be h1 (by omega),ih (j+1) n (by omega) (by omega),List.take_succ_eq_append_getElem h1,List.append_assoc]
theorem Pd:∀ (l K:List Str),Gy K l=false→∀ s∈l,s ∉ K
  | [],_,_,s,hs=>by cases hs
  | x :: l, K, h, s, hs => by
    rw [Gy] at h
    split at h
    · cases h
    · rename_i hx
      rcases List.mem_cons.1 hs with rfl | hs
      · exact hx
      · exact fun q=>Pd l _ h s hs (List.mem_append_left _ q)
def A1 (p:api_Prog):List Str:=p.Lines.flatten.map (·.Name)
def A2 (p:api_Prog):List Str:=p.Vols.map (·.Name)
def K1 (p:api_Prog):List Str:=p.Locks.map (·.Name)
def Ic (p:api_Prog) (G:List Str) (s:Str):Int:=if s∈A1 p then 1 else if s∈A2 p then 2 else if s∈K1 p then 3 else if s∈G then 5 else 0
theorem Jbc {G:List Str} {s:Str}:Bf s (gM G)=if s∈G then some 5 else none:=by
  have:=Dj (l:=G) (f:=fun x=>x) (v:=5) (k:=s)
  simpa [gM] using this
theorem Tw (p:api_Prog) (G:List Str) (s:Str):(Bf s (Fq p ++ gM G)).getD 0=Ic p G s:=by
  simp only [Fq,Hw]
  rw [Dj (f:=fun c:api_Cell=>c.Name),Dj (f:=fun c:api_Cell=>c.Name),Dj (f:=fun c:api_Cell=>c.Name),Jbc]
  unfold Ic A1 A2 K1
  split
  · rfl
  · split
    · rfl
    · split
      · rfl
      · split <;> rfl
theorem Ep (p:api_Prog):(Ce p).map (·.Name)=A1 p ++ A2 p:=by simp [Ce,A1,A2]
structure Apt (p:api_Prog) (G:List Str):Prop where
  locks:∀ s∈K1 p,s ∉ A1 p ++ A2 p
  regs:∀ s∈G,s ∉ A1 p ++ A2 p∧s ∉ K1 p
theorem Jcu {p:api_Prog} {G:List Str} {s:Str}:Ic p G s=1↔s∈A1 p:=by
  unfold Ic;split
  · simp [*]
  · split
    · simp [*]
    · split
      · simp [*]
      · split <;> simp [*]
theorem JaC {p:api_Prog} {G:List Str} {s:Str}:(Ic p G s=1∨Ic p G s=2)↔s∈A1 p ++ A2 p:=by
  unfold Ic;rw [List.mem_append];split
  · simp [*]
  · split
    · simp [*]
    · split
      · simp [*]
      · split <;> simp [*]
theorem Jcf {p:api_Prog} {G:List Str} (ha:Apt p G) {s:Str}:Ic p G s=3↔s∈K1 p:=by
  have h:=ha.locks s
  rw [List.mem_append] at h
  unfold Ic;split
  · rename_i q;simp only [show ¬ (1:Int)=3 by decide,false_iff];exact fun k=>h k (.inl q)
  · split
    · rename_i q;simp only [show ¬ (2:Int)=3 by decide,false_iff];exact fun k=>h k (.inr q)
    · split
      · simp [*]
      · split <;> simp [*]
theorem Sx {p:api_Prog} {G:List Str} (ha:Apt p G) {s:Str}:Ic p G s=5↔s∈G:=by
  have h:=ha.regs s
  rw [List.mem_append] at h
  unfold Ic;split
  · rename_i q;simp only [show ¬ (1:Int)=5 by decide,false_iff];exact fun k=>(h k).1 (.inl q)
  · split
    · rename_i q;simp only [show ¬ (2:Int)=5 by decide,false_iff];exact fun k=>(h k).1 (.inr q)
    · split
      · rename_i q;simp only [show ¬ (3:Int)=5 by decide,false_iff];exact fun k=>(h k).2 q
      · split <;> simp [*]
def Ho (l:List api_Node):List legal_use:=l.filterMap fun x=>if x.Op=2 then some ⟨x.Name,x.At,[5]⟩ else none
def Ig (k:Int):List Int:=if k=5∨k=6 then [1] else if k=9∨k=10 then [3] else [1,2]
def Kj (x:api_Stmt):List legal_use:=(if x.Reg≠[] then [⟨x.Reg,x.At,[5]⟩] else []) ++ ((if x.Name≠[] then [⟨x.Name,x.At,Ig x.Kind⟩] else []) ++ (Ho x.E ++ Ho x.F))
def Kv {τ α:Type} (y:τ→α→Option (τ×Bool)):List α→τ→Option (Bool×τ)
  | [],s=>some (true,s)
  | x :: r,s=>(y s x).bind fun q=>if q.2=true then Kv y r q.1 else some (false,q.1)
theorem Qz {τ α:Type} (y:τ→α→Option (τ×Bool)) (k:τ→Option τ):∀ (l:List α) (s:τ),((Kv y l s).bind fun r=>if r.1=true then k r.2 else some r.2)=Cb y k l s
  | [],s=>by simp [Kv,Cb]
  | x :: l, s => by
    simp only [Kv,Cb,Option.bind_assoc]
    congr 1
    funext q
    split
    · exact Qz y k l q.1
    · rfl
theorem Rn {τ α:Type} (y:τ→α→Option (τ×Bool)) (k:τ→Option τ) (l m:List α):Cb y k (l ++ m)=Cb y (Cb y k m) l:=funext (Hr y k l m)
theorem Uc {τ:Type} {l:List api_Node} (hl:l.length≤1000) (y:τ→legal_use→Option (τ×Bool)):∀ (d j n:Nat) (s:τ),j+d=l.length→d < n→Z9f 1001 Z9d l 5 y n (j:Int) s=Kv y (Ho (l.drop j)) s:=by
  intro d
  induction d with
  | zero =>
    intro j n s hj hn
    obtain ⟨n,rfl⟩:∃ m,n=m+1:=⟨n - 1,by omega⟩
    rw [Z9f,if_neg (by omega),List.drop_of_length_le (by omega)];rfl
  | succ d ih =>
    intro j n s hj hn
    obtain ⟨n,rfl⟩:∃ m,n=m+1:=⟨n - 1,by omega⟩
    have h1:j < l.length:=by omega
    rw [Z9f,if_pos (by omega),As rfl h1]
    simp only [Option.bind_some]
    rw [List.drop_eq_getElem_cons h1,Ho,List.filterMap_cons]
    by_cases h:l[j].Op=2
    · rw [if_pos h, if_pos h]
      simp only [Kv]
      congr 1
      funext q
      rw [Z9e]
      cases q.2 with
      | false=>rfl
      | true=>rw [if_neg (by decide),if_pos rfl,Be h1 (by omega),ih (j+1) n _ (by omega) (by omega)];rfl
    · rw [if_neg h,if_neg h,Z9e,if_neg (by decide),Be h1 (by omega),ih (j+1) n _ (by omega) (by omega)];rfl
theorem Si {τ:Type} {l:List api_Node} (hl:l.length≤1000) (y:τ→legal_use→Option (τ×Bool)) (s:τ):Z9c 1001 l 5 y s=Kv y (Ho l) s:=by
  have:=Uc hl y l.length 0 1001 s (by omega) (by omega)
  rw [List.drop_zero] at this
  exact this
theorem Yc {τ:Type} (k:List Int→τ→Option τ) (x:api_Stmt) (s:τ) :
    (if x.Kind=5 then Z97 k x (decide (x.Kind=5)) s else Z97 k x (decide (x.Kind=6)) s)=k (Ig x.Kind) s:=by
  unfold Z97 Z98 Ig
  by_cases h5:x.Kind=5
  · simp [h5]
  · by_cases h6 : x.Kind = 6
    · simp [h6]
    · by_cases h9 : x.Kind = 9
      · simp [h9]
      · by_cases h10 : x.Kind = 10
        · simp [h10]
        · simp [h5,h6,h9,h10]
theorem Tk {τ:Type} {l:List api_Stmt} (hl:l.length≤1000) (hs:∀ x∈l,Do x) (y:τ→legal_use→Option (τ×Bool)):∀ (d j n:Nat) (s:τ),j+d=l.length→d < n→Z9b 1001 y l n (j:Int) s=Cb y some ((l.drop j).flatMap Kj) s:=by
  intro d
  induction d with
  | zero =>
    intro j n s hj hn
    obtain ⟨n,rfl⟩:∃ m,n=m+1:=⟨n - 1,by omega⟩
    rw [Z9b,if_neg (by omega),List.drop_of_length_le (by omega)];rfl
  | succ d ih =>
    intro j n s hj hn
    obtain ⟨n,rfl⟩:∃ m,n=m+1:=⟨n - 1,by omega⟩
    have h1:j < l.length:=by omega
    have hx:=hs _ (List.getElem_mem h1)
    rw [Z9b,if_pos (by omega),As rfl h1]
    simp only [Option.bind_some]
    rw [List.drop_eq_getElem_cons h1,List.flatMap_cons]
    generalize hxx:l[j]=x at hx
    have e7:∀ (b:Bool) (s:τ),Z9a (Z9b 1001 y l n) (j:Int) (!b) s=if b=true then Cb y some ((l.drop (j+1)).flatMap Kj) s else some s:=by
      intro b s
      rw [Z9a]
      cases b with
      | false=>rfl
      | true=>rw [if_neg (by decide),if_pos rfl,Be h1 (by omega),ih (j+1) n s (by omega) (by omega)]
    have e6:∀ (b:Bool) (s:τ),Z99 1001 (Z9b 1001 y l n) y x (j:Int) (!b) s=if b=true then Cb y (Cb y (Cb y some ((l.drop (j+1)).flatMap Kj)) (Ho x.F)) (Ho x.E) s else some s:=by
      intro b s
      rw [Z99]
      cases b with
      | false=>rfl
      | true =>
        rw [if_neg (by decide),if_pos rfl,Si (by have:=hx.1;omega),← Qz]
        congr 1
        funext r
        cases hr:r.1 with
        | false=>simp [Z9a]
        | true =>
          rw [if_pos rfl,if_pos rfl,Si (by have:=hx.2;omega),← Qz]
          congr 1
          funext r
          exact e7 r.1 r.2
    have e3:∀ (may:List Int) (s:τ),may=Ig x.Kind→Z96 1001 (Z9b 1001 y l n) y x (j:Int) may s=Cb y (Cb y (Cb y (Cb y some ((l.drop (j+1)).flatMap Kj)) (Ho x.F)) (Ho x.E)) (if x.Name≠[] then [⟨x.Name,x.At,Ig x.Kind⟩] else []) s:=by
      intro may s hmay
      subst hmay
      rw [Z96]
      by_cases h:x.Name≠[]
      · rw [if_pos h, if_pos h, Cb]
        congr 1
        funext q
        rw [e6]
        rfl
      · rw [if_neg h, if_neg h]
        exact (e6 true s).trans (if_pos rfl)
    have e2:∀ (b:Bool) (s:τ),Z95 1001 (Z9b 1001 y l n) y x (j:Int) (!b) s=if b=true then Cb y (Cb y (Cb y (Cb y some ((l.drop (j+1)).flatMap Kj)) (Ho x.F)) (Ho x.E)) (if x.Name≠[] then [⟨x.Name,x.At,Ig x.Kind⟩] else []) s else some s:=by
      intro b s
      rw [Z95]
      cases b with
      | false=>rfl
      | true =>
        rw [if_neg (by decide),if_pos rfl,Yc]
        exact e3 _ s rfl
    rw [show Kj x=(if x.Reg≠[] then [⟨x.Reg,x.At,[5]⟩] else []) ++ ((if x.Name≠[] then [⟨x.Name,x.At,Ig x.Kind⟩] else []) ++ (Ho x.E ++ Ho x.F)) from rfl]
    simp only [Rn]
    by_cases h:x.Reg≠[]
    · rw [if_pos h, if_pos h]
      simp only [Cb]
      congr 1
      funext q
      exact e2 q.2 q.1
    · rw [if_neg h, if_neg h]
      exact (e2 true s).trans (if_pos rfl)
theorem Yn {τ:Type} {l:List api_Stmt} (hl:l.length≤1000) (hs:∀ x∈l,Do x) (y:τ→legal_use→Option (τ×Bool)) (s:τ):Z94 1001 y s l=Cb y some (l.flatMap Kj) s:=by
  have:=Tk hl hs y l.length 0 1001 s (by omega) (by omega)
  rw [List.drop_zero] at this
  exact this
end Go.MD.LB
