/- Names within threads, Gj statements use, as the program and the document have them. No condition: plain lemmas. -/
import Derived.Test.YtgdkaddhhpgeiaaGreatDoorLBC
namespace Go.MD.LB
open Go Go.MD
def Eg (p:api_Prog):List (Str×Int):=p.Lines.flatten.map (fun c=>(c.Name,(1:Int))) ++ (p.Vols.map (fun c=>(c.Name,(2:Int))) ++ p.Locks.map (fun c=>(c.Name,(3:Int))))
theorem Mk:∀ (ls:List (List api_Cell)) (i n:Nat),i+ls.length≤n→((Gt ls i).map (Hh n)).map (fun e=>(e.1,e.2.1))=ls.flatten.map (fun c=>(c.Name,(1:Int)))
  | [],_,_,_=>rfl
  | l :: r, i, n, h => by
    simp only [List.length_cons] at h
    simp only [Gt,List.map_append,List.flatten_cons,Mk r (i+1) n (by omega),List.map_map]
    congr 1
    apply List.map_congr_left
    intro c _
    simp only [Function.comp,Hh]
    rw [if_neg (by omega)]
theorem N5:∀ (vs:List api_Cell) (i n:Nat),n≤i→((Jp vs i).map (Hh n)).map (fun e=>(e.1,e.2.1))=vs.map (fun c=>(c.Name,(2:Int)))
  | [],_,_,_=>rfl
  | c :: r, i, n, h => by
    simp only [Jp,List.map_cons,N5 r (i+1) n (by omega)]
    congr 1
    simp only [Hh]
    rw [if_pos (by omega)]
theorem Sd (p:api_Prog):Jo p=Eg p ++ p.Threads.map (fun t=>(t.Name,(4:Int))):=by
  unfold Jo N1 Iw Eg
  simp only [List.map_append]
  rw [Mk p.Lines 0 _ (by omega),N5 p.Vols _ _ (Nat.le_refl _)]
  simp only [List.map_map,List.append_assoc]
  rfl
theorem Rt {p:api_Prog}:∀ e∈Eg p,e.2≠0∧e.2≠4:=by
  intro e he
  simp only [Eg,List.mem_append,List.mem_map] at he
  rcases he with ⟨x,_,rfl⟩ | ⟨x,_,rfl⟩ | ⟨x,_,rfl⟩
  · exact ⟨by show (1:Int)≠0;decide,by show (1:Int)≠4;decide⟩
  · exact ⟨by show (2:Int)≠0;decide,by show (2:Int)≠4;decide⟩
  · exact ⟨by show (3:Int)≠0;decide,by show (3:Int)≠4;decide⟩
theorem Ox (p:api_Prog):(Jo p).filter (fun q=>decide (q.2≠4))=Eg p:=by
  rw [Sd,List.filter_append,List.filter_eq_self.2 (fun e he=>decide_eq_true (Rt e he).2),List.filter_eq_nil_iff.2,List.append_nil]
  intro e he
  obtain ⟨x,_,rfl⟩:=List.mem_map.1 he
  simp
def Fu (p:api_Prog):List Str:=(Cb p).map (·.Name) ++ p.Locks.map (·.Name)
theorem Sm (p:api_Prog):(Eg p).map (·.1)=Fu p:=by
  simp [Eg,Fu,Cb,Function.comp_def]
def Fw:List Str→List Str→Bool
  | _,[]=>false
  | K,s :: r=>if s∈K then true else Fw (K ++ [s]) r
theorem Qc {t:api_Thread} (hr:t.Regs.length≤1000):∀ (d j n:Nat) (m:List (Str×Int)),j+d=t.Regs.length→d < n→(∀ e∈m,e.2≠0)→
    Z6s 1001 Z6r t n m (j:Int)=some (if Fw (m.map (·.1)) (t.Regs.drop j)=true then ([],true) else (m ++ (t.Regs.drop j).map (fun s=>(s,(5:Int))),false)):=by
  intro d
  induction d with
  | zero =>
    intro j n m hj hn hm
    obtain ⟨n,rfl⟩:∃ m,n=m+1:=⟨n - 1,by omega⟩
    rw [Z6s,if_neg (by omega),List.drop_of_length_le (by omega)]
    simp [Fw,Z6r]
  | succ d ih =>
    intro j n m hj hn hm
    obtain ⟨n,rfl⟩:∃ m,n=m+1:=⟨n - 1,by omega⟩
    have h1:j < t.Regs.length:=by omega
    rw [Z6s,if_pos (by omega),Ax rfl h1]
    simp only [Option.bind_some]
    rw [List.drop_eq_getElem_cons h1,Fw]
    by_cases h:t.Regs[j]∈m.map (·.1)
    · rw [if_pos ((Ju hm _).2 h),if_pos h];rfl
    · rw [if_neg (fun q=>h ((Ju hm _).1 q)),if_neg h,Ol h,Bf h1 (by omega),ih (j+1) n _ (by omega) (by omega) (fun e he=>by
        rcases List.mem_append.1 he with he | he
        · exact hm e he
        · simp only [List.mem_cons, List.not_mem_nil, or_false] at he
          subst he;show (5:Int)≠0;decide)]
      simp only [List.map_append,List.map_cons,List.map_nil,List.append_assoc,List.cons_append,List.nil_append]
def gM (G:List Str):List (Str×Int):=G.map fun s=>(s,(5:Int))
theorem Mp {p:api_Prog} {t:api_Thread} (hr:t.Regs.length≤1000):Z6q 1001 t (Jo p)=some (if Fw (Fu p) t.Regs=true then ([],true) else (Eg p ++ gM t.Regs,false)):=by
  unfold Z6q
  rw [Ox]
  have:=Qc hr t.Regs.length 0 1001 (Eg p) (by omega) (by omega) (fun e he=>(Rt e he).1)
  rw [List.drop_zero,Sm] at this
  exact this
theorem Kj {p:api_Prog} {s:Str}:s∈Fu p↔s∈(Cb p).map (·.Name)∨s∈p.Locks.map (·.Name):=by
  unfold Fu;exact List.mem_append
theorem Ii:∀ (l K:List Str),Fw K l=false→∀ s∈l,s ∉ K
  | [],_,_,s,hs=>by cases hs
  | x :: l, K, h, s, hs => by
    rw [Fw] at h
    split at h
    · cases h
    · rename_i hx
      rcases List.mem_cons.1 hs with rfl | hs
      · exact hx
      · exact fun q=>Ii l _ h s hs (List.mem_append_left _ q)
def A1 (p:api_Prog):List Str:=p.Lines.flatten.map (·.Name)
def A2 (p:api_Prog):List Str:=p.Vols.map (·.Name)
def K1 (p:api_Prog):List Str:=p.Locks.map (·.Name)
def Gj (p:api_Prog) (G:List Str) (s:Str):Int:=if s∈A1 p then 1 else if s∈A2 p then 2 else if s∈K1 p then 3 else if s∈G then 5 else 0
theorem Yf {G:List Str} {s:Str}:Bd s (gM G)=if s∈G then some 5 else none:=by
  have:=Co (l:=G) (f:=fun x=>x) (v:=5) (k:=s)
  simpa [gM] using this
theorem Sp (p:api_Prog) (G:List Str) (s:Str):(Bd s (Eg p ++ gM G)).getD 0=Gj p G s:=by
  simp only [Eg,Gw]
  rw [Co (f:=fun c:api_Cell=>c.Name),Co (f:=fun c:api_Cell=>c.Name),Co (f:=fun c:api_Cell=>c.Name),Yf]
  unfold Gj A1 A2 K1
  split
  · rfl
  · split
    · rfl
    · split
      · rfl
      · split <;> rfl
theorem Dc (p:api_Prog):(Cb p).map (·.Name)=A1 p ++ A2 p:=by simp [Cb,A1,A2]
structure Apt (p:api_Prog) (G:List Str):Prop where
  locks:∀ s∈K1 p,s ∉ A1 p ++ A2 p
  regs:∀ s∈G,s ∉ A1 p ++ A2 p∧s ∉ K1 p
theorem Sa {p:api_Prog} {G:List Str} (ha:Apt p G) {s:Str}:Gj p G s=5↔s∈G:=by
  have h:=ha.regs s
  rw [List.mem_append] at h
  unfold Gj;split
  · rename_i q;simp only [show ¬ (1:Int)=5 by decide,false_iff];exact fun k=>(h k).1 (.inl q)
  · split
    · rename_i q;simp only [show ¬ (2:Int)=5 by decide,false_iff];exact fun k=>(h k).1 (.inr q)
    · split
      · rename_i q;simp only [show ¬ (3:Int)=5 by decide,false_iff];exact fun k=>(h k).2 q
      · split <;> simp [*]
def Hf (l:List api_Node):List legal_use:=l.filterMap fun x=>if x.Op=2 then some ⟨x.Name,x.At,[5]⟩ else none
def Hy (k:Int):List Int:=if k=5∨k=6 then [1] else if k=9∨k=10 then [3] else [1,2]
def Kq (x:api_Stmt):List legal_use:=(if x.Reg≠[] then [⟨x.Reg,x.At,[5]⟩] else []) ++ ((if x.Name≠[] then [⟨x.Name,x.At,Hy x.Kind⟩] else []) ++ (Hf x.E ++ Hf x.F))
def Ky {τ α:Type} (y:τ→α→Option (τ×Bool)):List α→τ→Option (Bool×τ)
  | [],s=>some (true,s)
  | x :: r,s=>(y s x).bind fun q=>if q.2=true then Ky y r q.1 else some (false,q.1)
theorem Pz {τ α:Type} (y:τ→α→Option (τ×Bool)) (k:τ→Option τ):∀ (l:List α) (s:τ),((Ky y l s).bind fun r=>if r.1=true then k r.2 else some r.2)=Bt y k l s
  | [],s=>by simp [Ky,Bt]
  | x :: l, s => by
    simp only [Ky,Bt,Option.bind_assoc]
    congr 1
    funext q
    split
    · exact Pz y k l q.1
    · rfl
theorem Py {τ α:Type} (y:τ→α→Option (τ×Bool)) (k:τ→Option τ) (l m:List α):Bt y k (l ++ m)=Bt y (Bt y k m) l:=funext (Hd y k l m)
theorem Su {τ:Type} {l:List api_Node} (hl:l.length≤1000) (y:τ→legal_use→Option (τ×Bool)):∀ (d j n:Nat) (s:τ),j+d=l.length→d < n→Z76 1001 Z74 l 5 y n (j:Int) s=Ky y (Hf (l.drop j)) s:=by
  intro d
  induction d with
  | zero =>
    intro j n s hj hn
    obtain ⟨n,rfl⟩:∃ m,n=m+1:=⟨n - 1,by omega⟩
    rw [Z76,if_neg (by omega),List.drop_of_length_le (by omega)];rfl
  | succ d ih =>
    intro j n s hj hn
    obtain ⟨n,rfl⟩:∃ m,n=m+1:=⟨n - 1,by omega⟩
    have h1:j < l.length:=by omega
    rw [Z76,if_pos (by omega),Ax rfl h1]
    simp only [Option.bind_some]
    rw [List.drop_eq_getElem_cons h1,Hf,List.filterMap_cons]
    by_cases h:l[j].Op=2
    · rw [if_pos h, if_pos h]
      simp only [Ky]
      congr 1
      funext q
      rw [Z75]
      cases q.2 with
      | false=>rfl
      | true=>rw [if_neg (by decide),if_pos rfl,Bf h1 (by omega),ih (j+1) n _ (by omega) (by omega)];rfl
    · rw [if_neg h,if_neg h,Z75,if_neg (by decide),Bf h1 (by omega),ih (j+1) n _ (by omega) (by omega)];rfl
theorem Rl {τ:Type} {l:List api_Node} (hl:l.length≤1000) (y:τ→legal_use→Option (τ×Bool)) (s:τ):Z73 1001 l 5 y s=Ky y (Hf l) s:=by
  have:=Su hl y l.length 0 1001 s (by omega) (by omega)
  rw [List.drop_zero] at this
  exact this
theorem We {τ:Type} (k:List Int→τ→Option τ) (x:api_Stmt) (s:τ) :
    (if x.Kind=5 then Z6y k x (decide (x.Kind=5)) s else Z6y k x (decide (x.Kind=6)) s)=k (Hy x.Kind) s:=by
  unfold Z6y Z6z Hy
  by_cases h5:x.Kind=5
  · simp [h5]
  · by_cases h6 : x.Kind = 6
    · simp [h6]
    · by_cases h9 : x.Kind = 9
      · simp [h9]
      · by_cases h10 : x.Kind = 10
        · simp [h10]
        · simp [h5,h6,h9,h10]
theorem Sn {τ:Type} {l:List api_Stmt} (hl:l.length≤1000) (hs:∀ x∈l,Dd x) (y:τ→legal_use→Option (τ×Bool)):∀ (d j n:Nat) (s:τ),j+d=l.length→d < n→Z72 1001 y l n (j:Int) s=Bt y some ((l.drop j).flatMap Kq) s:=by
  intro d
  induction d with
  | zero =>
    intro j n s hj hn
    obtain ⟨n,rfl⟩:∃ m,n=m+1:=⟨n - 1,by omega⟩
    rw [Z72,if_neg (by omega),List.drop_of_length_le (by omega)];rfl
  | succ d ih =>
    intro j n s hj hn
    obtain ⟨n,rfl⟩:∃ m,n=m+1:=⟨n - 1,by omega⟩
    have h1:j < l.length:=by omega
    have hx:=hs _ (List.getElem_mem h1)
    rw [Z72,if_pos (by omega),Ax rfl h1]
    simp only [Option.bind_some]
    rw [List.drop_eq_getElem_cons h1,List.flatMap_cons]
    generalize hxx:l[j]=x at hx
    have e7:∀ (b:Bool) (s:τ),Z71 (Z72 1001 y l n) (j:Int) (!b) s=if b=true then Bt y some ((l.drop (j+1)).flatMap Kq) s else some s:=by
      intro b s
      rw [Z71]
      cases b with
      | false=>rfl
      | true=>rw [if_neg (by decide),if_pos rfl,Bf h1 (by omega),ih (j+1) n s (by omega) (by omega)]
    have e6:∀ (b:Bool) (s:τ),Z70 1001 (Z72 1001 y l n) y x (j:Int) (!b) s=if b=true then Bt y (Bt y (Bt y some ((l.drop (j+1)).flatMap Kq)) (Hf x.F)) (Hf x.E) s else some s:=by
      intro b s
      rw [Z70]
      cases b with
      | false=>rfl
      | true =>
        rw [if_neg (by decide),if_pos rfl,Rl (by have:=hx.1;omega),← Pz]
        congr 1
        funext r
        cases hr:r.1 with
        | false=>simp [Z71]
        | true =>
          rw [if_pos rfl,if_pos rfl,Rl (by have:=hx.2;omega),← Pz]
          congr 1
          funext r
          exact e7 r.1 r.2
    have e3:∀ (may:List Int) (s:τ),may=Hy x.Kind→Z6x 1001 (Z72 1001 y l n) y x (j:Int) may s=Bt y (Bt y (Bt y (Bt y some ((l.drop (j+1)).flatMap Kq)) (Hf x.F)) (Hf x.E)) (if x.Name≠[] then [⟨x.Name,x.At,Hy x.Kind⟩] else []) s:=by
      intro may s hmay
      subst hmay
      rw [Z6x]
      by_cases h:x.Name≠[]
      · rw [if_pos h, if_pos h, Bt]
        congr 1
        funext q
        rw [e6]
        rfl
      · rw [if_neg h, if_neg h]
        exact (e6 true s).trans (if_pos rfl)
    have e2:∀ (b:Bool) (s:τ),Z6w 1001 (Z72 1001 y l n) y x (j:Int) (!b) s=if b=true then Bt y (Bt y (Bt y (Bt y some ((l.drop (j+1)).flatMap Kq)) (Hf x.F)) (Hf x.E)) (if x.Name≠[] then [⟨x.Name,x.At,Hy x.Kind⟩] else []) s else some s:=by
      intro b s
      rw [Z6w]
      cases b with
      | false=>rfl
      | true =>
        rw [if_neg (by decide),if_pos rfl,We]
        exact e3 _ s rfl
    rw [show Kq x=(if x.Reg≠[] then [⟨x.Reg,x.At,[5]⟩] else []) ++ ((if x.Name≠[] then [⟨x.Name,x.At,Hy x.Kind⟩] else []) ++ (Hf x.E ++ Hf x.F)) from rfl]
    simp only [Py]
    by_cases h:x.Reg≠[]
    · rw [if_pos h, if_pos h]
      simp only [Bt]
      congr 1
      funext q
      exact e2 q.2 q.1
    · rw [if_neg h, if_neg h]
      exact (e2 true s).trans (if_pos rfl)
theorem Wd {τ:Type} {l:List api_Stmt} (hl:l.length≤1000) (hs:∀ x∈l,Dd x) (y:τ→legal_use→Option (τ×Bool)) (s:τ):Z6v 1001 y s l=Bt y some (l.flatMap Kq) s:=by
  have:=Sn hl hs y l.length 0 1001 s (by omega) (by omega)
  rw [List.drop_zero] at this
  exact this
end Go.MD.LB
