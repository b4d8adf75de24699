/- The fixed calls. No condition: closed. -/
import Derived.Test.YtgdkaddhhpgeiaaGreatDoorLU1
namespace Go.MD.LB.W
open Go Go.MD Go.MD.LB
end Go.MD.LB.W
namespace Go.MD.LB.W
open Go Go.MD Go.MD.LB
def B.app:B→B→B
  | .nil,c=>c
  | .cons x a b r,c=>.cons x a b (r.app c)
theorem B.app_flat:∀ b c:B,(b.app c).flat=b.flat ++ c.flat
  | .nil,c=>rfl
  | .cons x a b r,c=>by simp [B.app,B.flat,r.app_flat c]
theorem B.app_good {p:Nat} {c:B} (hc:c.good p):∀ b:B,b.good p→(b.app c).good p
  | .nil,_=>hc
  | .cons _ _ _ r,⟨h1,h2,h3,h4,h5,h6,h7,h8⟩=>⟨h1,h2,h3,h4,h5,h6,h7,B.app_good hc r h8⟩
end Go.MD.LB.W
namespace Go.MD.LB.W
open Go Go.MD Go.MD.LB
def rep (k:Nat) (l:List Int):List Int:=(List.replicate k l).flatten
end Go.MD.LB.W
namespace Go.MD.LB.W
open Go Go.MD Go.MD.LB
theorem Jah {l:List api_Stmt} {x:api_Stmt} {a c r:B} (hb:OKB (.cons x a c r)) (h:l=(B.cons x a c r).flat) :
    0 < l.length∧getI l 0=some x∧IntKind.i64.wrap (1+x.Body)=((1+a.size:Nat):Int)∧IntKind.i64.wrap (((1+a.size:Nat):Int)+x.Else)=((1+a.size+c.size:Nat):Int)∧
    Et l 1 ((1+a.size:Nat):Int)=some a.flat∧Et l ((1+a.size:Nat):Int) ((1+a.size+c.size:Nat):Int)=some c.flat∧
    Et l ((1+a.size+c.size:Nat):Int) (l.length:Int)=some r.flat:=by
  have hl:l.length≤40:=by rw [h,B.flat_len];exact hb.size
  obtain ⟨h1,h2,w1,w2,w3,s1,s2,s3,s4⟩:=parts (i:=0) hl hb (by rw [List.drop_zero];exact h)
  simp only [Nat.zero_add] at w1 w2 w3 s1 s2 s3 s4
  refine ⟨h1,h2,w2,w3,s1,s2,?_⟩
  rw [show (l.length:Int)=((1+a.size+c.size+r.size:Nat):Int) from by omega,Ga (by omega),s3,List.take_of_length_le (by rw [B.flat_len];exact Nat.le_refl _)]
end Go.MD.LB.W
namespace Go.MD.LB.W
open Go Go.MD Go.MD.LB
structure SmallT (t:api_Thread):Prop where
  regs:t.Regs.length≤6
  body:t.Body.length≤50
  small:∀ x∈t.Body,Dy x
structure SmallP (p:api_Prog):Prop where
  lines:p.Lines.length≤6
  line:∀ l∈p.Lines,l.length≤8
  vols:p.Vols.length≤8
  locks:p.Locks.length≤8
  threads:p.Threads.length≤4
  thread:∀ t∈p.Threads,SmallT t
  recover:p.Recover.length≤4
  recov:∀ t∈p.Recover,SmallT t
  claims:p.Claims.length≤6
  claim:∀ c∈p.Claims,c.E.length≤60
structure WideT (t:api_Thread):Prop where
  regs:t.Regs.length≤2001
  body:t.Body.length≤50
  small:∀ x∈t.Body,Dy x
structure WideP (p:api_Prog):Prop where
  lines:p.Lines.length≤2001
  line:∀ l∈p.Lines,l.length≤2001
  vols:p.Vols.length≤2001
  locks:p.Locks.length≤2001
  threads:p.Threads.length≤2001
  thread:∀ t∈p.Threads,WideT t
  recover:p.Recover.length≤4
  recov:∀ t∈p.Recover,WideT t
  claims:p.Claims.length≤2001
  claim:∀ c∈p.Claims,c.E.length≤60
theorem SmallT.wide {t:api_Thread} (h:SmallT t):WideT t:=⟨by have:=h.regs;omega,h.body,h.small⟩
theorem SmallP.wide {p:api_Prog} (h:SmallP p):WideP p:=⟨by have:=h.lines;omega,fun l hl=>by have:=h.line l hl;omega,by have:=h.vols;omega,by have:=h.locks;omega,by have:=h.threads;omega,fun t ht=>(h.thread t ht).wide,h.recover,fun t ht=>(h.recov t ht).wide,by have:=h.claims;omega,h.claim⟩
def Ju:List (List api_Cell)→Nat→List (api_Cell×Int)
  | [],_=>[]
  | l :: r,i=>l.map (fun c=>(c,(i:Int))) ++ Ju r (i+1)
def Ow:List api_Cell→Nat→List (api_Cell×Int)
  | [],_=>[]
  | c :: r,i=>(c,(i:Int)) :: Ow r (i+1)
def Pl (p:api_Prog):List (api_Cell×Int):=Ju p.Lines 0 ++ Ow p.Vols p.Lines.length
def Oc {τ α:Type} (y:τ→α→Option (τ×Bool)):List α→τ→Option τ
  | [],s=>some s
  | x :: r,s=>(y s x).bind fun q=>if q.2=true then Oc y r q.1 else some q.1
def Bz {τ α:Type} (y:τ→α→Option (τ×Bool)) (k:τ→Option τ):List α→τ→Option τ
  | [],s=>k s
  | x :: r,s=>(y s x).bind fun q=>if q.2=true then Bz y k r q.1 else some q.1
theorem Hl {τ α:Type} (y:τ→α→Option (τ×Bool)) (k:τ→Option τ):∀ (l m:List α) (s:τ),Bz y k (l ++ m) s=Bz y (Bz y k m) l s
  | [],_,_=>rfl
  | x :: l,m,s=>by simp only [List.cons_append,Bz,Hl y k l m]
theorem Ig {τ α:Type} (y:τ→α→Option (τ×Bool)):∀ (l:List α) (s:τ),Bz y some l s=Oc y l s
  | [],_=>rfl
  | x :: l,s=>by simp only [Bz,Oc,Ig y l]
theorem S2 {τ:Type} (y:τ→(api_Cell×Int)→Option (τ×Bool)) (k:τ→Option τ) {l:List api_Cell} (hl:l.length≤3000) (i:Int):∀ (d j n:Nat) (s:τ),j+d=l.length→d < n→
    Z7c 1000001 k y l i n (j:Int) s=Bz y k ((l.drop j).map fun c=>(c,i)) s:=by
  intro d
  induction d with
  | zero =>
    intro j n s hj hn
    obtain ⟨n,rfl⟩:∃ m,n=m+1:=⟨n - 1,by omega⟩
    rw [Z7c,if_neg (by omega),List.drop_of_length_le (by omega)]
    rfl
  | succ d ih =>
    intro j n s hj hn
    obtain ⟨n,rfl⟩:∃ m,n=m+1:=⟨n - 1,by omega⟩
    have h1:j < l.length:=by omega
    rw [Z7c,if_pos (by omega),Ao rfl h1]
    simp only [Option.bind_some]
    rw [List.drop_eq_getElem_cons h1,List.map_cons,Bz]
    congr 1
    funext q
    split
    · rw [Bc h1 (by omega),ih (j+1) n q.1 (by omega) (by omega)]
    · rfl
theorem Sy {τ:Type} (y:τ→(api_Cell×Int)→Option (τ×Bool)) (k:τ→Option τ) {p:api_Prog} (hp:WideP p):∀ (d j n:Nat) (s:τ),j+d=p.Lines.length→d < n→
    Z7b 1000001 k y p n (j:Int) s=Bz y k (Ju (p.Lines.drop j) j) s:=by
  intro d
  have hL:=hp.lines
  induction d with
  | zero =>
    intro j n s hj hn
    obtain ⟨n,rfl⟩:∃ m,n=m+1:=⟨n - 1,by omega⟩
    rw [Z7b,if_neg (by omega),List.drop_of_length_le (by omega)]
    rfl
  | succ d ih =>
    intro j n s hj hn
    obtain ⟨n,rfl⟩:∃ m,n=m+1:=⟨n - 1,by omega⟩
    have h1:j < p.Lines.length:=by omega
    have h2:=hp.line _ (List.getElem_mem h1)
    rw [Z7b,if_pos (by omega),Ao rfl h1]
    simp only [Option.bind_some]
    rw [show (0:Int)=((0:Nat):Int) from rfl,S2 y _ (by omega) _ p.Lines[j].length 0 1000001 s (by omega) (by omega),List.drop_zero,List.drop_eq_getElem_cons h1,Ju,Hl]
    congr 1
    funext s'
    rw [Z7a,Bc h1 (by omega),ih (j+1) n s' (by omega) (by omega)]
theorem Vq {τ:Type} (y:τ→(api_Cell×Int)→Option (τ×Bool)) {p:api_Prog} (hp:WideP p):∀ (d j n:Nat) (s:τ),j+d=p.Vols.length→d < n→
    Z7d 1000001 y p n (j:Int) s=Oc y (Ow (p.Vols.drop j) (p.Lines.length+j)) s:=by
  intro d
  have hL:=hp.lines
  have hV:=hp.vols
  induction d with
  | zero =>
    intro j n s hj hn
    obtain ⟨n,rfl⟩:∃ m,n=m+1:=⟨n - 1,by omega⟩
    rw [Z7d,if_neg (by omega),List.drop_of_length_le (by omega)]
    rfl
  | succ d ih =>
    intro j n s hj hn
    obtain ⟨n,rfl⟩:∃ m,n=m+1:=⟨n - 1,by omega⟩
    have h1:j < p.Vols.length:=by omega
    rw [Z7d,if_pos (by omega),Ao rfl h1]
    simp only [Option.bind_some]
    rw [List.drop_eq_getElem_cons h1,Ow,Oc,show IntKind.i64.wrap ((p.Lines.length:Int)+(j:Int))=((p.Lines.length+j:Nat):Int) from by rw [w64 (by omega) (by omega)];omega]
    congr 1
    funext q
    split
    · rw [Bc h1 (by omega),ih (j+1) n q.1 (by omega) (by omega)];rfl
    · rfl
theorem JaD {τ:Type} (y:τ→(api_Cell×Int)→Option (τ×Bool)) (s:τ) {p:api_Prog} (hp:WideP p):Z78 1000001 y s p=Oc y (Pl p) s:=by
  have hL:=hp.lines
  have hV:=hp.vols
  unfold Z78 Pl
  rw [show (0:Int)=((0:Nat):Int) from rfl,Sy y _ hp p.Lines.length 0 1000001 s (by omega) (by omega),List.drop_zero,← Ig,Hl]
  congr 1
  funext s'
  rw [Z79,show (0:Int)=((0:Nat):Int) from rfl,Vq y hp p.Vols.length 0 1000001 s' (by omega) (by omega),List.drop_zero,Ig]
  rfl
end Go.MD.LB.W
namespace Go.MD.LB.W
open Go Go.MD Go.MD.LB
theorem Xg:Zh 1000001=some true:=by decide +kernel
theorem JaG:((Zh 1000001).bind fun r=>some r)=some true:=by rw [Xg];rfl
def Ca (p:api_Prog):List api_Cell:=p.Lines.flatten ++ p.Vols
theorem Mf:∀ (l:List (List api_Cell)) (i:Nat),(Ju l i).map (·.1)=l.flatten
  | [],_=>rfl
  | l :: r,i=>by simp [Ju,Mf r (i+1),Function.comp_def]
theorem Pj:∀ (l:List api_Cell) (i:Nat),(Ow l i).map (·.1)=l
  | [],_=>rfl
  | c :: r,i=>by simp [Ow,Pj r (i+1)]
theorem Tz (p:api_Prog):(Pl p).map (·.1)=Ca p:=by simp [Pl,Ca,Mf,Pj]
theorem Rx:∀ (l:List (List api_Cell)),(∀ x∈l,x.length≤8)→l.flatten.length≤8 * l.length
  | [],_=>Nat.zero_le _
  | x :: r, h => by
    have:=Rx r (fun y hy=>h y (.tail _ hy))
    have:=h x (.head _)
    simp only [List.flatten_cons,List.length_append,List.length_cons]
    omega
theorem Dr {p:api_Prog} (hp:SmallP p):(Ca p).length≤56:=by
  have h1:=Rx p.Lines hp.line
  have h2:=hp.lines
  have h3:=hp.vols
  simp only [Ca,List.length_append]
  omega
end Go.MD.LB.W
namespace Go.MD.LB.W
open Go Go.MD Go.MD.LB
theorem Uz {p:api_Prog} (hp:SmallP p) (k:List api_Cell→Option (List api_Cell)):∀ (d j n:Nat) (out:List api_Cell),j+d=p.Lines.length→d < n→out.length≤8 * j→Z50 1000001 k p n out (j:Int)=k (out ++ (p.Lines.drop j).flatten):=by
  intro d
  have hL:=hp.lines
  induction d with
  | zero =>
    intro j n out hj hn hv
    obtain ⟨n,rfl⟩:∃ m,n=m+1:=⟨n - 1,by omega⟩
    rw [Z50,if_neg (by omega),List.drop_of_length_le (by omega)]
    simp
  | succ d ih =>
    intro j n out hj hn hv
    obtain ⟨n,rfl⟩:∃ m,n=m+1:=⟨n - 1,by omega⟩
    have h1:j < p.Lines.length:=by omega
    have h2:=hp.line _ (List.getElem_mem h1)
    rw [Z50,if_pos (by omega),Ao rfl h1]
    simp only [Option.bind_some]
    rw [Bq (by omega) (by decide)]
    simp only [Option.bind_some]
    rw [Bc h1 (by omega),ih (j+1) n _ (by omega) (by omega) (by simp;omega),List.drop_eq_getElem_cons h1,List.flatten_cons,List.append_assoc]
theorem Ps {p:api_Prog} (hp:SmallP p):Z4y 1000001 p=some (Ca p):=by
  have hL:=hp.lines
  have hC:=Dr hp
  simp only [Ca,List.length_append] at hC
  unfold Z4y
  rw [show (0:Int)=((0:Nat):Int) from rfl,Uz hp _ p.Lines.length 0 1000001 [] (by omega) (by omega) (Nat.le_refl _),List.drop_zero,List.nil_append,Z4z,Bq (by omega) (by decide)]
  rfl
theorem Pu {l:List api_Cell} (hl:l.length≤200):∀ (d j n:Nat) (out:List Str),j+d=l.length→d < n→out.length≤j→Z5m 1000001 Z5l l n out (j:Int)=some (out ++ (l.drop j).map (·.Name)):=by
  intro d
  induction d with
  | zero =>
    intro j n out hj hn hv
    obtain ⟨n,rfl⟩:∃ m,n=m+1:=⟨n - 1,by omega⟩
    rw [Z5m,if_neg (by omega),List.drop_of_length_le (by omega),Z5l]
    simp
  | succ d ih =>
    intro j n out hj hn hv
    obtain ⟨n,rfl⟩:∃ m,n=m+1:=⟨n - 1,by omega⟩
    have h1:j < l.length:=by omega
    rw [Z5m,if_pos (by omega),Ao rfl h1]
    simp only [Option.bind_some]
    rw [Bq (by simp;omega) (by decide)]
    simp only [Option.bind_some]
    rw [Bc h1 (by omega),ih (j+1) n _ (by omega) (by omega) (by simp;omega),List.drop_eq_getElem_cons h1,List.map_cons,List.append_assoc]
    rfl
theorem La {l:List api_Cell} (hl:l.length≤200):Z5k 1000001 l=some (l.map (·.Name)):=by
  have:=Pu hl l.length 0 1000001 [] (by omega) (by omega) (Nat.le_refl _)
  rw [List.drop_zero,List.nil_append] at this
  exact this
theorem Jj {p:api_Prog} (hp:SmallP p):Z51 1000001 p=some ((Ca p).map (·.Name)):=by
  have hC:=Dr hp
  unfold Z51
  rw [Ps hp]
  simp only [Option.bind_some]
  rw [La (by omega)];rfl
theorem Mq {p:api_Prog} (hp:SmallP p):Z5j 1000001 p=some (p.Locks.map (·.Name)):=by
  have hL:=hp.locks
  unfold Z5j
  rw [La (by omega)];rfl
theorem Jb {p:api_Prog} (hp:SmallP p):Z5q 1000001 p=some (p.Lines.flatten.length:Int):=by
  have hC:=Dr hp
  have hlen:(Ca p).length=p.Lines.flatten.length+p.Vols.length:=by simp [Ca]
  unfold Z5q
  rw [Ps hp]
  simp only [Option.bind_some]
  rw [w64 (by omega) (by omega)]
  congr 1;omega
end Go.MD.LB.W
