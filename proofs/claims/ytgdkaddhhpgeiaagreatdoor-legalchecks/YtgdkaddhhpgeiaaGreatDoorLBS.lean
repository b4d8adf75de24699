/- Programs that are cut; cells in order. No condition: plain lemmas. -/
import Derived.Test.YtgdkaddhhpgeiaaGreatDoorLBN
namespace Go.MD.LB
open Go Go.MD
structure SmallT (t:api_Thread):Prop where
  regs:t.Regs.length≤6
  body:t.Body.length≤50
  small:∀ x∈t.Body,Dn x
structure SmallP (p:api_Prog):Prop where
  lines:p.Lines.length≤6
  line:∀ l∈p.Lines,l.length≤8
  vols:p.Vols.length≤8
  locks:p.Locks.length≤8
  threads:p.Threads.length≤4
  thread:∀ t∈p.Threads,SmallT t
  recover:p.Recover.length≤4
  recov:∀ t∈p.Recover,SmallT t
  claims:p.Claims.length≤6
  claim:∀ c∈p.Claims,c.E.length≤60
theorem Qo (p:List api_Cell):∀ (d j n:Nat) (out:List api_Cell),j+d=8→d < n→out.length≤j→
    ∃ r,Zu 1001 Zt p n out (j:Int)=some r∧r.length≤8:=by
  intro d
  induction d with
  | zero =>
    intro j n out hj hn ho
    obtain ⟨n,rfl⟩:∃ m,n=m+1:=⟨n - 1,by omega⟩
    rw [Zu,if_neg (by simp;omega)]
    exact ⟨out,rfl,by omega⟩
  | succ d ih =>
    intro j n out hj hn ho
    obtain ⟨n,rfl⟩:∃ m,n=m+1:=⟨n - 1,by omega⟩
    by_cases h1:j < p.length
    · rw [Zu, if_pos (by simp; omega), As rfl h1]
      simp only [Option.bind_some]
      rw [Fl (by omega) (by omega) (by omega)]
      simp only [Option.bind_some]
      rw [Cg (by simp;omega) (by decide)]
      simp only [Option.bind_some]
      rw [Bf (n:=8) (by omega) (by decide)]
      exact ih (j+1) n _ (by omega) (by omega) (by simp;omega)
    · rw [Zu, if_neg (by simp; omega)]
      exact ⟨out,rfl,by omega⟩
theorem Ja3 (p:List api_Cell):∃ r,Zs 1001 p=some r∧r.length≤8:=Qo p 8 0 1001 [] (by decide) (by decide) (Nat.le_refl _)
theorem Ta {p:List api_Thread} {i:Nat} (hi:i < p.length) (k:List Str→Option (List api_Thread)) (P:Option (List api_Thread)→Prop) (hk:∀ r:List Str,r.length≤6→P (k r)):∀ (d j n:Nat) (out:List Str),j+d=6→d < n→out.length≤j→
    P (Z11 1001 k p (i:Int) n out (j:Int)):=by
  intro d
  induction d with
  | zero =>
    intro j n out hj hn ho
    obtain ⟨n,rfl⟩:∃ m,n=m+1:=⟨n - 1,by omega⟩
    rw [Z11,As rfl hi]
    simp only [Option.bind_some]
    rw [if_neg (by simp;omega)]
    exact hk out (by omega)
  | succ d ih =>
    intro j n out hj hn ho
    obtain ⟨n,rfl⟩:∃ m,n=m+1:=⟨n - 1,by omega⟩
    rw [Z11,As rfl hi]
    simp only [Option.bind_some]
    by_cases h1:j < p[i].Regs.length
    · rw [if_pos (by simp; omega), As rfl h1]
      simp only [Option.bind_some]
      rw [Fl (by omega) (by omega) (by omega)]
      simp only [Option.bind_some]
      rw [Cg (by simp;omega) (by decide)]
      simp only [Option.bind_some]
      rw [Bf (n:=6) (by omega) (by decide)]
      exact ih (j+1) n _ (by omega) (by omega) (by simp;omega)
    · rw [if_neg (by simp; omega)]
      exact hk out (by omega)
theorem Nh (p:List api_Thread):∀ (d j n:Nat) (out:List api_Thread),j+d=4→d < n→out.length≤j→(∀ t∈out,SmallT t)→
    ∃ r,Z10 1001 Zw p n out (j:Int)=some r∧r.length≤4∧∀ t∈r,SmallT t:=by
  intro d
  induction d with
  | zero =>
    intro j n out hj hn ho hs
    obtain ⟨n,rfl⟩:∃ m,n=m+1:=⟨n - 1,by omega⟩
    rw [Z10,if_neg (by simp;omega)]
    exact ⟨out,rfl,by omega,hs⟩
  | succ d ih =>
    intro j n out hj hn ho hs
    obtain ⟨n,rfl⟩:∃ m,n=m+1:=⟨n - 1,by omega⟩
    by_cases h1:j < p.length
    · rw [Z10, if_pos (by simp; omega), As rfl h1]
      simp only [Option.bind_some]
      rw [Fl (by omega) (by omega) (by omega)]
      simp only [Option.bind_some]
      obtain ⟨b,hb,hbl,hbs⟩:=JbZ p[j].Body
      rw [hb]
      simp only [Option.bind_some]
      rw [Zy,show (0:Int)=((0:Nat):Int) from rfl]
      refine Ta h1 _ (fun o=>∃ r,o=some r∧r.length≤4∧∀ t∈r,SmallT t) (fun rg hrg=>?_) 6 0 1001 [] (by decide) (by decide) (Nat.le_refl _)
      rw [Zz,Cg (by simp;omega) (by decide)]
      simp only [Option.bind_some]
      rw [Zx,Bf (n:=4) (by omega) (by decide)]
      refine ih (j+1) n _ (by omega) (by omega) (by simp;omega) ?_
      intro t ht
      rcases List.mem_append.1 ht with ht | ht
      · exact hs t ht
      · simp only [List.mem_cons, List.not_mem_nil, or_false] at ht
        subst ht;exact ⟨hrg,hbl,hbs⟩
    · rw [Z10, if_neg (by simp; omega)]
      exact ⟨out,rfl,by omega,hs⟩
theorem JbC (p:List api_Thread):∃ r,Zv 1001 p=some r∧r.length≤4∧∀ t∈r,SmallT t:=Nh p 4 0 1001 [] (by decide) (by decide) (Nat.le_refl _) (fun x hx=>nomatch hx)
theorem N7 (p:api_Prog) (k:List api_Claim→Option api_Prog) (P:Option api_Prog→Prop) (hk:∀ r:List api_Claim,r.length≤6→(∀ c∈r,c.E.length≤60)→P (k r)):∀ (d j n:Nat) (out:List api_Claim),j+d=6→d < n→out.length≤j→(∀ c∈out,c.E.length≤60)→
    P (Zr 1001 k p n out (j:Int)):=by
  intro d
  induction d with
  | zero =>
    intro j n out hj hn ho hs
    obtain ⟨n,rfl⟩:∃ m,n=m+1:=⟨n - 1,by omega⟩
    rw [Zr,if_neg (by simp;omega)]
    exact hk out (by omega) hs
  | succ d ih =>
    intro j n out hj hn ho hs
    obtain ⟨n,rfl⟩:∃ m,n=m+1:=⟨n - 1,by omega⟩
    by_cases h1:j < p.Claims.length
    · rw [Zr, if_pos (by simp; omega), As rfl h1]
      simp only [Option.bind_some]
      obtain ⟨e,he,hel⟩:=Jao p.Claims[j].E
      rw [he]
      simp only [Option.bind_some]
      rw [Cg (by simp;omega) (by decide)]
      simp only [Option.bind_some]
      rw [Bf (n:=6) (by omega) (by decide)]
      refine ih (j+1) n _ (by omega) (by omega) (by simp;omega) ?_
      intro t ht
      rcases List.mem_append.1 ht with ht | ht
      · exact hs t ht
      · simp only [List.mem_cons, List.not_mem_nil, or_false] at ht
        subst ht;exact hel
    · rw [Zr, if_neg (by simp; omega)]
      exact hk out (by omega) hs
theorem Qa (p:api_Prog) (k:List (List api_Cell)→Option api_Prog) (P:Option api_Prog→Prop) (hk:∀ r:List (List api_Cell),r.length≤6→(∀ c∈r,c.length≤8)→P (k r)):∀ (d j n:Nat) (out:List (List api_Cell)),j+d=6→d < n→out.length≤j→(∀ c∈out,c.length≤8)→
    P (Zq 1001 k p n out (j:Int)):=by
  intro d
  induction d with
  | zero =>
    intro j n out hj hn ho hs
    obtain ⟨n,rfl⟩:∃ m,n=m+1:=⟨n - 1,by omega⟩
    rw [Zq,if_neg (by simp;omega)]
    exact hk out (by omega) hs
  | succ d ih =>
    intro j n out hj hn ho hs
    obtain ⟨n,rfl⟩:∃ m,n=m+1:=⟨n - 1,by omega⟩
    by_cases h1:j < p.Lines.length
    · rw [Zq, if_pos (by simp; omega), As rfl h1]
      simp only [Option.bind_some]
      obtain ⟨e,he,hel⟩:=Ja3 p.Lines[j]
      rw [he]
      simp only [Option.bind_some]
      rw [Cg (by simp;omega) (by decide)]
      simp only [Option.bind_some]
      rw [Bf (n:=6) (by omega) (by decide)]
      refine ih (j+1) n _ (by omega) (by omega) (by simp;omega) ?_
      intro t ht
      rcases List.mem_append.1 ht with ht | ht
      · exact hs t ht
      · simp only [List.mem_cons, List.not_mem_nil, or_false] at ht
        subst ht;exact hel
    · rw [Zq, if_neg (by simp; omega)]
      exact hk out (by omega) hs
theorem Jcg (p:api_Prog):∃ r,Zm 1001 p=some r∧SmallP r:=by
  unfold Zm
  obtain ⟨v,hv,hvl⟩:=Ja3 p.Vols
  obtain ⟨k,hk,hkl⟩:=Ja3 p.Locks
  obtain ⟨t,ht,htl,hts⟩:=JbC p.Threads
  obtain ⟨u,hu,hul,hus⟩:=JbC p.Recover
  rw [hv,hk,ht,hu]
  simp only [Option.bind_some]
  rw [Zn,show (0:Int)=((0:Nat):Int) from rfl]
  refine Qa p _ (fun o=>∃ r,o=some r∧SmallP r) (fun ls h1 h2=>?_) 6 0 1001 [] (by decide) (by decide) (Nat.le_refl _) (fun x hx=>nomatch hx)
  rw [Zo,show (0:Int)=((0:Nat):Int) from rfl]
  refine N7 p _ (fun o=>∃ r,o=some r∧SmallP r) (fun cs h3 h4=>?_) 6 0 1001 [] (by decide) (by decide) (Nat.le_refl _) (fun x hx=>nomatch hx)
  exact ⟨_,rfl,h1,h2,hvl,hkl,htl,hts,hul,hus,h3,h4⟩
def Ju:List (List api_Cell)→Nat→List (api_Cell×Int)
  | [],_=>[]
  | l :: r,i=>l.map (fun c=>(c,(i:Int))) ++ Ju r (i+1)
def Ou:List api_Cell→Nat→List (api_Cell×Int)
  | [],_=>[]
  | c :: r,i=>(c,(i:Int)) :: Ou r (i+1)
def Ol (p:api_Prog):List (api_Cell×Int):=Ju p.Lines 0 ++ Ou p.Vols p.Lines.length
def Om {τ α:Type} (y:τ→α→Option (τ×Bool)):List α→τ→Option τ
  | [],s=>some s
  | x :: r,s=>(y s x).bind fun q=>if q.2=true then Om y r q.1 else some q.1
def Bz {τ α:Type} (y:τ→α→Option (τ×Bool)) (k:τ→Option τ):List α→τ→Option τ
  | [],s=>k s
  | x :: r,s=>(y s x).bind fun q=>if q.2=true then Bz y k r q.1 else some q.1
theorem Hm {τ α:Type} (y:τ→α→Option (τ×Bool)) (k:τ→Option τ):∀ (l m:List α) (s:τ),Bz y k (l ++ m) s=Bz y (Bz y k m) l s
  | [],_,_=>rfl
  | x :: l,m,s=>by simp only [List.cons_append,Bz,Hm y k l m]
theorem Ig {τ α:Type} (y:τ→α→Option (τ×Bool)):∀ (l:List α) (s:τ),Bz y some l s=Om y l s
  | [],_=>rfl
  | x :: l,s=>by simp only [Bz,Om,Ig y l]
theorem Sd {τ:Type} (y:τ→(api_Cell×Int)→Option (τ×Bool)) (k:τ→Option τ) {l:List api_Cell} (hl:l.length≤1000) (i:Int):∀ (d j n:Nat) (s:τ),j+d=l.length→d < n→
    Z7y 1001 k y l i n (j:Int) s=Bz y k ((l.drop j).map fun c=>(c,i)) s:=by
  intro d
  induction d with
  | zero =>
    intro j n s hj hn
    obtain ⟨n,rfl⟩:∃ m,n=m+1:=⟨n - 1,by omega⟩
    rw [Z7y,if_neg (by omega),List.drop_of_length_le (by omega)]
    rfl
  | succ d ih =>
    intro j n s hj hn
    obtain ⟨n,rfl⟩:∃ m,n=m+1:=⟨n - 1,by omega⟩
    have h1:j < l.length:=by omega
    rw [Z7y,if_pos (by omega),As rfl h1]
    simp only [Option.bind_some]
    rw [List.drop_eq_getElem_cons h1,List.map_cons,Bz]
    congr 1
    funext q
    split
    · rw [Bf h1 (by omega),ih (j+1) n q.1 (by omega) (by omega)]
    · rfl
theorem Sn {τ:Type} (y:τ→(api_Cell×Int)→Option (τ×Bool)) (k:τ→Option τ) {p:api_Prog} (hp:SmallP p):∀ (d j n:Nat) (s:τ),j+d=p.Lines.length→d < n→
    Z7x 1001 k y p n (j:Int) s=Bz y k (Ju (p.Lines.drop j) j) s:=by
  intro d
  have hL:=hp.lines
  induction d with
  | zero =>
    intro j n s hj hn
    obtain ⟨n,rfl⟩:∃ m,n=m+1:=⟨n - 1,by omega⟩
    rw [Z7x,if_neg (by omega),List.drop_of_length_le (by omega)]
    rfl
  | succ d ih =>
    intro j n s hj hn
    obtain ⟨n,rfl⟩:∃ m,n=m+1:=⟨n - 1,by omega⟩
    have h1:j < p.Lines.length:=by omega
    have h2:=hp.line _ (List.getElem_mem h1)
    rw [Z7x,if_pos (by omega),As rfl h1]
    simp only [Option.bind_some]
    rw [show (0:Int)=((0:Nat):Int) from rfl,Sd y _ (by omega) _ p.Lines[j].length 0 1001 s (by omega) (by omega),List.drop_zero,List.drop_eq_getElem_cons h1,Ju,Hm]
    congr 1
    funext s'
    rw [Z7w,Bf h1 (by omega),ih (j+1) n s' (by omega) (by omega)]
theorem Ug {τ:Type} (y:τ→(api_Cell×Int)→Option (τ×Bool)) {p:api_Prog} (hp:SmallP p):∀ (d j n:Nat) (s:τ),j+d=p.Vols.length→d < n→
    Z7z 1001 y p n (j:Int) s=Om y (Ou (p.Vols.drop j) (p.Lines.length+j)) s:=by
  intro d
  have hL:=hp.lines
  have hV:=hp.vols
  induction d with
  | zero =>
    intro j n s hj hn
    obtain ⟨n,rfl⟩:∃ m,n=m+1:=⟨n - 1,by omega⟩
    rw [Z7z,if_neg (by omega),List.drop_of_length_le (by omega)]
    rfl
  | succ d ih =>
    intro j n s hj hn
    obtain ⟨n,rfl⟩:∃ m,n=m+1:=⟨n - 1,by omega⟩
    have h1:j < p.Vols.length:=by omega
    rw [Z7z,if_pos (by omega),As rfl h1]
    simp only [Option.bind_some]
    rw [List.drop_eq_getElem_cons h1,Ou,Om,show IntKind.i64.wrap ((p.Lines.length:Int)+(j:Int))=((p.Lines.length+j:Nat):Int) from by rw [w64 (by omega) (by omega)];omega]
    congr 1
    funext q
    split
    · rw [Bf h1 (by omega),ih (j+1) n q.1 (by omega) (by omega)];rfl
    · rfl
theorem Jaf {τ:Type} (y:τ→(api_Cell×Int)→Option (τ×Bool)) (s:τ) {p:api_Prog} (hp:SmallP p):Z7u 1001 y s p=Om y (Ol p) s:=by
  have hL:=hp.lines
  have hV:=hp.vols
  unfold Z7u Ol
  rw [show (0:Int)=((0:Nat):Int) from rfl,Sn y _ hp p.Lines.length 0 1001 s (by omega) (by omega),List.drop_zero,← Ig,Hm]
  congr 1
  funext s'
  rw [Z7v,show (0:Int)=((0:Nat):Int) from rfl,Ug y hp p.Vols.length 0 1001 s' (by omega) (by omega),List.drop_zero,Ig]
  rfl
end Go.MD.LB
