/- Names within threads, what statements use, as the program and the document have them. No condition: plain lemmas. -/
import Derived.Test.YtgdkaddhhpgeiaaGreatDoorLBC
namespace Go.MD.LB
open Go Go.MD
def baseM (p:api_Prog):List (Str×Int):=p.Lines.flatten.map (fun c=>(c.Name,(1:Int))) ++ (p.Vols.map (fun c=>(c.Name,(2:Int))) ++ p.Locks.map (fun c=>(c.Name,(3:Int))))
theorem lineC_ent:∀ (ls:List (List api_Cell)) (i n:Nat),i+ls.length≤n→((lineC ls i).map (cellE n)).map (fun e=>(e.1,e.2.1))=ls.flatten.map (fun c=>(c.Name,(1:Int)))
  | [],_,_,_=>rfl
  | l :: r, i, n, h => by
    simp only [List.length_cons] at h
    simp only [lineC,List.map_append,List.flatten_cons,lineC_ent r (i+1) n (by omega),List.map_map]
    congr 1
    apply List.map_congr_left
    intro c _
    simp only [Function.comp,cellE]
    rw [if_neg (by omega)]
theorem volC_ent:∀ (vs:List api_Cell) (i n:Nat),n≤i→((volC vs i).map (cellE n)).map (fun e=>(e.1,e.2.1))=vs.map (fun c=>(c.Name,(2:Int)))
  | [],_,_,_=>rfl
  | c :: r, i, n, h => by
    simp only [volC,List.map_cons,volC_ent r (i+1) n (by omega)]
    congr 1
    simp only [cellE]
    rw [if_pos (by omega)]
theorem mapL_eq (p:api_Prog):mapL p=baseM p ++ p.Threads.map (fun t=>(t.Name,(4:Int))):=by
  unfold mapL entL allC baseM
  simp only [List.map_append]
  rw [lineC_ent p.Lines 0 _ (by omega),volC_ent p.Vols _ _ (Nat.le_refl _)]
  simp only [List.map_map,List.append_assoc]
  rfl
theorem base_ne {p:api_Prog}:∀ e∈baseM p,e.2≠0∧e.2≠4:=by
  intro e he
  simp only [baseM,List.mem_append,List.mem_map] at he
  rcases he with ⟨x,_,rfl⟩ | ⟨x,_,rfl⟩ | ⟨x,_,rfl⟩
  · exact ⟨by show (1:Int)≠0;decide,by show (1:Int)≠4;decide⟩
  · exact ⟨by show (2:Int)≠0;decide,by show (2:Int)≠4;decide⟩
  · exact ⟨by show (3:Int)≠0;decide,by show (3:Int)≠4;decide⟩
theorem base_filter (p:api_Prog):(mapL p).filter (fun q=>decide (q.2≠4))=baseM p:=by
  rw [mapL_eq,List.filter_append,List.filter_eq_self.2 (fun e he=>decide_eq_true (base_ne e he).2),List.filter_eq_nil_iff.2,List.append_nil]
  intro e he
  obtain ⟨x,_,rfl⟩:=List.mem_map.1 he
  simp
def keysP (p:api_Prog):List Str:=(flatC p).map (·.Name) ++ p.Locks.map (·.Name)
theorem base_keys (p:api_Prog):(baseM p).map (·.1)=keysP p:=by
  simp [baseM,keysP,flatC,Function.comp_def]
def dupR:List Str→List Str→Bool
  | _,[]=>false
  | K,s :: r=>if s∈K then true else dupR (K ++ [s]) r
theorem regs_loop7 {t:api_Thread} (hr:t.Regs.length≤1000):∀ (d j n:Nat) (m:List (Str×Int)),j+d=t.Regs.length→d < n→(∀ e∈m,e.2≠0)→
    Z6x 1001 Z6w t n m (j:Int)=some (if dupR (m.map (·.1)) (t.Regs.drop j)=true then ([],true) else (m ++ (t.Regs.drop j).map (fun s=>(s,(5:Int))),false)):=by
  intro d
  induction d with
  | zero =>
    intro j n m hj hn hm
    obtain ⟨n,rfl⟩:∃ m,n=m+1:=⟨n - 1,by omega⟩
    rw [Z6x,if_neg (by omega),List.drop_of_length_le (by omega)]
    simp [dupR,Z6w]
  | succ d ih =>
    intro j n m hj hn hm
    obtain ⟨n,rfl⟩:∃ m,n=m+1:=⟨n - 1,by omega⟩
    have h1:j < t.Regs.length:=by omega
    rw [Z6x,if_pos (by omega),getI_at rfl h1]
    simp only [Option.bind_some]
    rw [List.drop_eq_getElem_cons h1,dupR]
    by_cases h:t.Regs[j]∈m.map (·.1)
    · rw [if_pos ((look_ne hm _).2 h),if_pos h];rfl
    · rw [if_neg (fun q=>h ((look_ne hm _).1 q)),if_neg h,pput_new h,wsucc h1 (by omega),ih (j+1) n _ (by omega) (by omega) (fun e he=>by
        rcases List.mem_append.1 he with he | he
        · exact hm e he
        · simp only [List.mem_cons, List.not_mem_nil, or_false] at he
          subst he;show (5:Int)≠0;decide)]
      simp only [List.map_append,List.map_cons,List.map_nil,List.append_assoc,List.cons_append,List.nil_append]
def gM (G:List Str):List (Str×Int):=G.map fun s=>(s,(5:Int))
theorem regs_spec {p:api_Prog} {t:api_Thread} (hr:t.Regs.length≤1000):Z6v 1001 t (mapL p)=some (if dupR (keysP p) t.Regs=true then ([],true) else (baseM p ++ gM t.Regs,false)):=by
  unfold Z6v
  rw [base_filter]
  have:=regs_loop7 hr t.Regs.length 0 1001 (baseM p) (by omega) (by omega) (fun e he=>(base_ne e he).1)
  rw [List.drop_zero,base_keys] at this
  exact this
theorem keys_mem {p:api_Prog} {s:Str}:s∈keysP p↔s∈(flatC p).map (·.Name)∨s∈p.Locks.map (·.Name):=by
  unfold keysP;exact List.mem_append
theorem dupR_sub:∀ (l K:List Str),dupR K l=false→∀ s∈l,s ∉ K
  | [],_,_,s,hs=>by cases hs
  | x :: l, K, h, s, hs => by
    rw [dupR] at h
    split at h
    · cases h
    · rename_i hx
      rcases List.mem_cons.1 hs with rfl | hs
      · exact hx
      · exact fun q=>dupR_sub l _ h s hs (List.mem_append_left _ q)
def A1 (p:api_Prog):List Str:=p.Lines.flatten.map (·.Name)
def A2 (p:api_Prog):List Str:=p.Vols.map (·.Name)
def K1 (p:api_Prog):List Str:=p.Locks.map (·.Name)
def what (p:api_Prog) (G:List Str) (s:Str):Int:=if s∈A1 p then 1 else if s∈A2 p then 2 else if s∈K1 p then 3 else if s∈G then 5 else 0
theorem look_g {G:List Str} {s:Str}:plook s (gM G)=if s∈G then some 5 else none:=by
  have:=look_pairs (l:=G) (f:=fun x=>x) (v:=5) (k:=s)
  simpa [gM] using this
theorem look_what (p:api_Prog) (G:List Str) (s:Str):(plook s (baseM p ++ gM G)).getD 0=what p G s:=by
  simp only [baseM,plook_app]
  rw [look_pairs (f:=fun c:api_Cell=>c.Name),look_pairs (f:=fun c:api_Cell=>c.Name),look_pairs (f:=fun c:api_Cell=>c.Name),look_g]
  unfold what A1 A2 K1
  split
  · rfl
  · split
    · rfl
    · split
      · rfl
      · split <;> rfl
theorem flat_names (p:api_Prog):(flatC p).map (·.Name)=A1 p ++ A2 p:=by simp [flatC,A1,A2]
structure Apt (p:api_Prog) (G:List Str):Prop where
  locks:∀ s∈K1 p,s ∉ A1 p ++ A2 p
  regs:∀ s∈G,s ∉ A1 p ++ A2 p∧s ∉ K1 p
theorem what1 {p:api_Prog} {G:List Str} {s:Str}:what p G s=1↔s∈A1 p:=by
  unfold what;split
  · simp [*]
  · split
    · simp [*]
    · split
      · simp [*]
      · split <;> simp [*]
theorem what12 {p:api_Prog} {G:List Str} {s:Str}:(what p G s=1∨what p G s=2)↔s∈A1 p ++ A2 p:=by
  unfold what;rw [List.mem_append];split
  · simp [*]
  · split
    · simp [*]
    · split
      · simp [*]
      · split <;> simp [*]
theorem what3 {p:api_Prog} {G:List Str} (ha:Apt p G) {s:Str}:what p G s=3↔s∈K1 p:=by
  have h:=ha.locks s
  rw [List.mem_append] at h
  unfold what;split
  · rename_i q;simp only [show ¬ (1:Int)=3 by decide,false_iff];exact fun k=>h k (.inl q)
  · split
    · rename_i q;simp only [show ¬ (2:Int)=3 by decide,false_iff];exact fun k=>h k (.inr q)
    · split
      · simp [*]
      · split <;> simp [*]
theorem what5 {p:api_Prog} {G:List Str} (ha:Apt p G) {s:Str}:what p G s=5↔s∈G:=by
  have h:=ha.regs s
  rw [List.mem_append] at h
  unfold what;split
  · rename_i q;simp only [show ¬ (1:Int)=5 by decide,false_iff];exact fun k=>(h k).1 (.inl q)
  · split
    · rename_i q;simp only [show ¬ (2:Int)=5 by decide,false_iff];exact fun k=>(h k).1 (.inr q)
    · split
      · rename_i q;simp only [show ¬ (3:Int)=5 by decide,false_iff];exact fun k=>(h k).2 q
      · split <;> simp [*]
def useV (l:List api_Node):List legal_use:=l.filterMap fun x=>if x.Op=2 then some ⟨x.Name,x.At,[5]⟩ else none
def mayK (k:Int):List Int:=if k=5∨k=6 then [1] else if k=9∨k=10 then [3] else [1,2]
def use1 (x:api_Stmt):List legal_use:=(if x.Reg≠[] then [⟨x.Reg,x.At,[5]⟩] else []) ++ ((if x.Name≠[] then [⟨x.Name,x.At,mayK x.Kind⟩] else []) ++ (useV x.E ++ useV x.F))
def fold2 {τ α:Type} (y:τ→α→Option (τ×Bool)):List α→τ→Option (Bool×τ)
  | [],s=>some (true,s)
  | x :: r,s=>(y s x).bind fun q=>if q.2=true then fold2 y r q.1 else some (false,q.1)
theorem fold2K {τ α:Type} (y:τ→α→Option (τ×Bool)) (k:τ→Option τ):∀ (l:List α) (s:τ),((fold2 y l s).bind fun r=>if r.1=true then k r.2 else some r.2)=foldK y k l s
  | [],s=>by simp [fold2,foldK]
  | x :: l, s => by
    simp only [fold2,foldK,Option.bind_assoc]
    congr 1
    funext q
    split
    · exact fold2K y k l q.1
    · rfl
theorem foldK_appF {τ α:Type} (y:τ→α→Option (τ×Bool)) (k:τ→Option τ) (l m:List α):foldK y k (l ++ m)=foldK y (foldK y k m) l:=funext (foldK_app y k l m)
theorem vars_loop {τ:Type} {l:List api_Node} (hl:l.length≤1000) (y:τ→legal_use→Option (τ×Bool)):∀ (d j n:Nat) (s:τ),j+d=l.length→d < n→Z7b 1001 Z79 l 5 y n (j:Int) s=fold2 y (useV (l.drop j)) s:=by
  intro d
  induction d with
  | zero =>
    intro j n s hj hn
    obtain ⟨n,rfl⟩:∃ m,n=m+1:=⟨n - 1,by omega⟩
    rw [Z7b,if_neg (by omega),List.drop_of_length_le (by omega)];rfl
  | succ d ih =>
    intro j n s hj hn
    obtain ⟨n,rfl⟩:∃ m,n=m+1:=⟨n - 1,by omega⟩
    have h1:j < l.length:=by omega
    rw [Z7b,if_pos (by omega),getI_at rfl h1]
    simp only [Option.bind_some]
    rw [List.drop_eq_getElem_cons h1,useV,List.filterMap_cons]
    by_cases h:l[j].Op=2
    · rw [if_pos h, if_pos h]
      simp only [fold2]
      congr 1
      funext q
      rw [Z7a]
      cases q.2 with
      | false=>rfl
      | true=>rw [if_neg (by decide),if_pos rfl,wsucc h1 (by omega),ih (j+1) n _ (by omega) (by omega)];rfl
    · rw [if_neg h,if_neg h,Z7a,if_neg (by decide),wsucc h1 (by omega),ih (j+1) n _ (by omega) (by omega)];rfl
theorem vars_eq {τ:Type} {l:List api_Node} (hl:l.length≤1000) (y:τ→legal_use→Option (τ×Bool)) (s:τ):Z78 1001 l 5 y s=fold2 y (useV l) s:=by
  have:=vars_loop hl y l.length 0 1001 s (by omega) (by omega)
  rw [List.drop_zero] at this
  exact this
theorem uses_j4 {τ:Type} (k:List Int→τ→Option τ) (x:api_Stmt) (s:τ) :
    (if x.Kind=5 then Z73 k x (decide (x.Kind=5)) s else Z73 k x (decide (x.Kind=6)) s)=k (mayK x.Kind) s:=by
  unfold Z73 Z74 mayK
  by_cases h5:x.Kind=5
  · simp [h5]
  · by_cases h6 : x.Kind = 6
    · simp [h6]
    · by_cases h9 : x.Kind = 9
      · simp [h9]
      · by_cases h10 : x.Kind = 10
        · simp [h10]
        · simp [h5,h6,h9,h10]
theorem uses_loop {τ:Type} {l:List api_Stmt} (hl:l.length≤1000) (hs:∀ x∈l,smallS x) (y:τ→legal_use→Option (τ×Bool)):∀ (d j n:Nat) (s:τ),j+d=l.length→d < n→Z77 1001 y l n (j:Int) s=foldK y some ((l.drop j).flatMap use1) s:=by
  intro d
  induction d with
  | zero =>
    intro j n s hj hn
    obtain ⟨n,rfl⟩:∃ m,n=m+1:=⟨n - 1,by omega⟩
    rw [Z77,if_neg (by omega),List.drop_of_length_le (by omega)];rfl
  | succ d ih =>
    intro j n s hj hn
    obtain ⟨n,rfl⟩:∃ m,n=m+1:=⟨n - 1,by omega⟩
    have h1:j < l.length:=by omega
    have hx:=hs _ (List.getElem_mem h1)
    rw [Z77,if_pos (by omega),getI_at rfl h1]
    simp only [Option.bind_some]
    rw [List.drop_eq_getElem_cons h1,List.flatMap_cons]
    generalize hxx:l[j]=x at hx
    have e7:∀ (b:Bool) (s:τ),Z76 (Z77 1001 y l n) (j:Int) (!b) s=if b=true then foldK y some ((l.drop (j+1)).flatMap use1) s else some s:=by
      intro b s
      rw [Z76]
      cases b with
      | false=>rfl
      | true=>rw [if_neg (by decide),if_pos rfl,wsucc h1 (by omega),ih (j+1) n s (by omega) (by omega)]
    have e6:∀ (b:Bool) (s:τ),Z75 1001 (Z77 1001 y l n) y x (j:Int) (!b) s=if b=true then foldK y (foldK y (foldK y some ((l.drop (j+1)).flatMap use1)) (useV x.F)) (useV x.E) s else some s:=by
      intro b s
      rw [Z75]
      cases b with
      | false=>rfl
      | true =>
        rw [if_neg (by decide),if_pos rfl,vars_eq (by have:=hx.1;omega),← fold2K]
        congr 1
        funext r
        cases hr:r.1 with
        | false=>simp [Z76]
        | true =>
          rw [if_pos rfl,if_pos rfl,vars_eq (by have:=hx.2;omega),← fold2K]
          congr 1
          funext r
          exact e7 r.1 r.2
    have e3:∀ (may:List Int) (s:τ),may=mayK x.Kind→Z72 1001 (Z77 1001 y l n) y x (j:Int) may s=foldK y (foldK y (foldK y (foldK y some ((l.drop (j+1)).flatMap use1)) (useV x.F)) (useV x.E)) (if x.Name≠[] then [⟨x.Name,x.At,mayK x.Kind⟩] else []) s:=by
      intro may s hmay
      subst hmay
      rw [Z72]
      by_cases h:x.Name≠[]
      · rw [if_pos h, if_pos h, foldK]
        congr 1
        funext q
        rw [e6]
        rfl
      · rw [if_neg h, if_neg h]
        exact (e6 true s).trans (if_pos rfl)
    have e2:∀ (b:Bool) (s:τ),Z71 1001 (Z77 1001 y l n) y x (j:Int) (!b) s=if b=true then foldK y (foldK y (foldK y (foldK y some ((l.drop (j+1)).flatMap use1)) (useV x.F)) (useV x.E)) (if x.Name≠[] then [⟨x.Name,x.At,mayK x.Kind⟩] else []) s else some s:=by
      intro b s
      rw [Z71]
      cases b with
      | false=>rfl
      | true =>
        rw [if_neg (by decide),if_pos rfl,uses_j4]
        exact e3 _ s rfl
    rw [show use1 x=(if x.Reg≠[] then [⟨x.Reg,x.At,[5]⟩] else []) ++ ((if x.Name≠[] then [⟨x.Name,x.At,mayK x.Kind⟩] else []) ++ (useV x.E ++ useV x.F)) from rfl]
    simp only [foldK_appF]
    by_cases h:x.Reg≠[]
    · rw [if_pos h, if_pos h]
      simp only [foldK]
      congr 1
      funext q
      exact e2 q.2 q.1
    · rw [if_neg h, if_neg h]
      exact (e2 true s).trans (if_pos rfl)
theorem uses_eq {τ:Type} {l:List api_Stmt} (hl:l.length≤1000) (hs:∀ x∈l,smallS x) (y:τ→legal_use→Option (τ×Bool)) (s:τ):Z70 1001 y s l=foldK y some (l.flatMap use1) s:=by
  have:=uses_loop hl hs y l.length 0 1001 s (by omega) (by omega)
  rw [List.drop_zero] at this
  exact this
end Go.MD.LB
