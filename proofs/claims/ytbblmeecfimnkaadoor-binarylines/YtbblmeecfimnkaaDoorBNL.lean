/- BinaryLines. No condition: plain lemmas. -/
import Derived.Test.YtbblmeecfimnkaaDoorBNV
namespace Go.MD.BIN
open Go Go.MD
def cutI (x:api_Instr):api_Instr:=⟨x.Kind,x.A,x.B,x.E.take 50,x.F.take 50,x.To⟩
theorem sub50 {α:Type} (xs:List α) {n:Nat}:subI xs 0 (min (xs.length:Int) (n:Int))=some (xs.take n):=by
  rw [subI_ok (by omega) (by omega) (by omega)]
  have:(min (xs.length:Int) (n:Int)).toNat=min xs.length n:=by omega
  rw [this,show (0:Int).toNat=0 from rfl,List.drop_zero,Nat.min_comm]
  congr 1
  rcases Nat.le_total n xs.length with h | h
  · rw [Nat.min_eq_left h]
  · rw [Nat.min_eq_right h,List.take_of_length_le (Nat.le_refl _),List.take_of_length_le h]
theorem cut_l2 {N:Nat} {p:api_Code}:∀ (d:Nat) (j k:Nat),j+d=min p.L.length 60→d < k→Z1j N (Z1i p) p k ((p.L.take j).map cutI) (j:Int)=some ⟨p.Regs,p.Counts,(p.L.take 60).map cutI⟩:=by
  intro d
  induction d with
  | zero =>
    intro j k hd hk
    obtain ⟨k,rfl⟩:∃ q,k=q+1:=⟨k - 1,by omega⟩
    rw [Z1j,if_neg (by simp;omega),Z1i]
    have:p.L.take j=p.L.take 60:=by
      rcases Nat.le_total 60 p.L.length with h | h
      · rw [show j=60 from by omega]
      · rw [List.take_of_length_le (by omega),List.take_of_length_le h]
    rw [this]
  | succ d ih =>
    intro j k hd hk
    obtain ⟨k,rfl⟩:∃ q,k=q+1:=⟨k - 1,by omega⟩
    have hj:j < p.L.length:=by omega
    rw [Z1j,if_pos (by simp;omega),getI_at rfl hj]
    simp only [Option.bind_some]
    rw [show (50:Int)=((50:Nat):Int) from rfl,sub50]
    simp only [Option.bind_some]
    rw [appG_ok (by simp;omega) (by decide)]
    simp only [Option.bind_some,List.nil_append]
    rw [sub50]
    simp only [Option.bind_some]
    rw [appG_ok (by simp;omega) (by decide)]
    simp only [Option.bind_some,List.nil_append]
    rw [appG_ok (by simp;omega) (by decide)]
    simp only [Option.bind_some]
    rw [wsucc (n:=60) (by omega) (by decide)]
    have rc:=ih (j+1) k (by omega) (by omega)
    rw [List.take_succ_eq_append_getElem hj,List.map_append] at rc
    exact rc
theorem CutCode_eq {N:Nat} (hN:100 < N) (p:api_Code):Z1h N p=some ⟨p.Regs,p.Counts,(p.L.take 60).map cutI⟩:=by
  unfold Z1h
  exact cut_l2 (p:=p) (min p.L.length 60) 0 N (by omega) (by omega)
theorem cut_ok {x:api_Instr} (h:ok_api_Instr x):okI (cutI x)∧(cutI x).E.length≤50∧(cutI x).F.length≤50:=by
  obtain ⟨h1,h2,h3,h4,h5,h6⟩:=h
  have a:(cutI x).E.length≤50:=by show (x.E.take 50).length≤50;rw [List.length_take];omega
  have b:(cutI x).F.length≤50:=by show (x.F.take 50).length≤50;rw [List.length_take];omega
  exact ⟨⟨⟨h1,h2,h3,fun z hz=>h4 z (List.mem_of_mem_take hz),fun z hz=>h5 z (List.mem_of_mem_take hz),h6⟩,by omega,by omega⟩,a,b⟩
theorem scan {N:Nat} {q:Int→Int→Option Bool} {c:api_Code} {s:Str} (hs:s.length≤1000000):∀ (b a r:Str) (k:Nat) (u v:Int),a ++ b ++ r=s→NoL b→Z1o N q c s (k+b.length) u v ((a.length:Nat):Int)=Z1o N q c s k u v (((a ++ b).length:Nat):Int):=by
  intro b
  induction b with
  | nil=>intro a r k u v _ _;simp
  | cons x b ih =>
    intro a r k u v ha hb
    have hx:x≠10:=hb x (by simp)
    have hla:a.length < s.length:=by rw [← ha];simp
    have hge:s[a.length]=x:=by
      have:s[a.length]? = some x:=by rw [← ha];simp
      rw [List.getElem?_eq_getElem hla] at this;exact Option.some.inj this
    have hn:x.toNat≠10:=fun h=>hx (UInt8.toNat.inj (by rw [h];rfl))
    rw [show k+(x :: b).length=(k+b.length)+1 from by simp only [List.length_cons];omega,Z1o,if_pos (by omega),byteI_at hla,hge]
    simp only [Option.bind_some]
    rw [if_pos (by omega),Z1m,wsucc hla (by omega)]
    have rc:=ih (a ++ [x]) r k u v (by rw [← ha];simp) (fun c hc=>hb c (List.mem_cons_of_mem _ hc))
    rw [show ((a ++ [x]).length:Nat)=a.length+1 from by simp,List.append_assoc] at rc
    exact rc
theorem sub_tl {α:Type} (c:α) (r:List α):subI (c :: r) 1 ((c :: r).length:Int)=some r:=by
  rw [subI_ok (by omega) (by simp;omega) (by omega),Int.toNat_natCast,List.take_of_length_le (Nat.le_refl _)];rfl
theorem nine {j:Nat} (h:j < 10):IntKind.u8.wrap (IntKind.i64.wrap (48+(j:Int)))=((48+j:Nat):Int):=by
  rw [w64 (by omega) (by omega),u8w (by omega) (by omega)];omega
theorem lines_l2 {N:Nat} (hN:200000 < N) (hf:((Z1p N).bind fun r=>some r)=some true) {c:api_Code} (hl:c.L.length≤60) (hc:∀ x∈c.L,okI x∧x.E.length≤50∧x.F.length≤50) {s:Str} (hs:s=showT 0 c.L) (hn:s.length≤150000) :
    ∀ (b a:List api_Instr) (t:Str) (k:Nat),a ++ b=c.L→t ++ showT a.length b=s→(showT a.length b).length < k→Z1o N (Z1l N c s) c s k ((t.length:Nat):Int) ((a.length:Nat):Int) ((t.length:Nat):Int)=some true:=by
  intro b
  induction b with
  | nil =>
    intro a t k ha ht hk
    obtain ⟨k,rfl⟩:∃ q,k=q+1:=⟨k - 1,by omega⟩
    rw [List.append_nil] at ha
    rw [showT,List.append_nil] at ht
    subst ht
    rw [Z1o,if_neg (by omega),Z1l,if_pos (by simp [← ha])]
    exact hf
  | cons x b ih =>
    intro a t k ha ht hk
    have hla:a.length < c.L.length:=by rw [← ha];simp
    have hge:c.L[a.length]? = some x:=by rw [← ha];simp
    have hx:=(hc x (List.mem_of_getElem? hge)).1
    have hT:=tail_ok hx
    rw [showT] at ht hk
    have body:rowT a.length x=(Lib.itoa (a.length:Int) ++ tailT x) ++ [10]:=rfl
    have hNo:NoL (Lib.itoa (a.length:Int) ++ tailT x):=NoL.app (NoL.itoa _) hT.1
    obtain ⟨m,rfl⟩:∃ m,k=(m+1)+(Lib.itoa (a.length:Int) ++ tailT x).length:=⟨k - 1 - (Lib.itoa (a.length:Int) ++ tailT x).length,by
      rw [body] at hk;simp only [List.length_append,List.length_cons,List.length_nil] at hk ⊢;omega⟩
    have hsc:=scan (N:=N) (q:=Z1l N c s) (c:=c) (s:=s) (by omega) (Lib.itoa (a.length:Int) ++ tailT x) t ([10] ++ showT (a.length+1) b) (m+1) ((t.length:Nat):Int) ((a.length:Nat):Int) (by rw [← ht,body];simp only [List.append_assoc]) hNo
    rw [hsc]
    have hlt:(t ++ (Lib.itoa (a.length:Int) ++ tailT x)).length < s.length:=by rw [← ht,body];simp only [List.length_append,List.length_cons,List.length_nil];omega
    have h10:s[(t ++ (Lib.itoa (a.length:Int) ++ tailT x)).length]=10:=by
      have:s[(t ++ (Lib.itoa (a.length:Int) ++ tailT x)).length]? = some 10:=by
        rw [← ht,body,show t ++ (Lib.itoa (a.length:Int) ++ tailT x ++ [10] ++ showT (a.length+1) b)=(t ++ (Lib.itoa (a.length:Int) ++ tailT x)) ++ (10 :: showT (a.length+1) b) from by simp only [List.append_assoc,List.cons_append,List.nil_append]]
        rw [List.getElem?_append_right (Nat.le_refl _),Nat.sub_self];rfl
      rw [List.getElem?_eq_getElem hlt] at this;exact Option.some.inj this
    rw [Z1o,if_pos (by omega),byteI_at hlt,h10]
    simp only [Option.bind_some]
    rw [if_neg (by decide),sure_ok (by simp;omega)]
    simp only [Option.bind_some]
    have hlast:s.length≤1000000:=by omega
    rw [wsucc hla (by omega),wsucc hlt (by omega),subI_ok (by omega) (by omega) (by omega)]
    simp only [Option.bind_some,Int.toNat_natCast]
    have one:(c.L.take (a.length+1)).drop a.length=[x]:=by
      rw [← ha,show a ++ x :: b=(a ++ [x]) ++ b from by simp,List.take_append_of_le_length (by simp),List.take_of_length_le (by simp),List.drop_append_of_le_length (Nat.le_refl _),List.drop_length,List.nil_append]
    rw [one,Show_eq (by omega) (p:=⟨0,0,[x]⟩) (by simp) (by intro y hy;simp at hy;subst hy;exact hx)]
    simp only [Option.bind_some]
    have tk:(s.take ((t ++ (Lib.itoa (a.length:Int) ++ tailT x)).length+1)).drop t.length=rowT a.length x:=by
      have hh:(t ++ (Lib.itoa (a.length:Int) ++ tailT x)).length+1=(t ++ rowT a.length x).length:=by rw [body];simp only [List.length_append,List.length_cons,List.length_nil];omega
      rw [hh,← ht,← List.append_assoc,List.take_append_of_le_length (Nat.le_refl _),List.take_of_length_le (Nat.le_refl _),List.drop_append_of_le_length (Nat.le_refl _),List.drop_length,List.nil_append]
    rw [subI_ok (by omega) (by simp only [List.length_append];omega) (by omega)]
    simp only [Option.bind_some,Int.toNat_natCast]
    rw [tk]
    have sh1:showT 0 [x]=rowT 0 x:=by rw [showT,showT,List.append_nil]
    have e2:(t ++ rowT a.length x).length=(t ++ (Lib.itoa (a.length:Int) ++ tailT x)).length+1:=by rw [body];simp only [List.length_append,List.length_cons,List.length_nil];omega
    have rc:=ih (a ++ [x]) (t ++ rowT a.length x) m (by rw [← ha];simp) (by rw [← ht];simp) (by
      rw [body] at hk;simp only [List.length_append,List.length_cons,List.length_nil,Nat.zero_add] at hk ⊢;omega)
    rw [e2,show ((a ++ [x]).length:Nat)=a.length+1 from by simp] at rc
    have fin:(Z1n (Z1m (Z1o N (Z1l N c s) c s m) (((t ++ (Lib.itoa (a.length:Int) ++ tailT x)).length:Nat):Int)) ((a.length:Nat):Int) (((t ++ (Lib.itoa (a.length:Int) ++ tailT x)).length:Nat):Int)) false=some true:=by
      rw [Z1n,show sure (!false)=some () from rfl]
      simp only [Option.bind_some]
      rw [Z1m,wsucc hla (by omega),wsucc hlt (by omega)]
      exact rc
    rw [sh1]
    by_cases h:a.length < 10
    · have i1 : Lib.itoa ((a.length : Nat) : Int) = [UInt8.ofNat (48 + a.length)] := by rw [itoa_dig (by omega) (by omega)]; rfl
      have i2:Lib.itoa ((0:Nat):Int)=[48]:=by rw [itoa_dig (by omega) (by omega)];rfl
      have r1:rowT a.length x=UInt8.ofNat (48+a.length) :: (tailT x ++ [10]):=by unfold rowT;rw [i1];rfl
      have r2:rowT 0 x=48 :: (tailT x ++ [10]):=by unfold rowT;rw [i2];rfl
      rw [if_pos (by omega),r1,r2,if_neg (by simp)]
      rw [sub_tl,sub_tl]
      simp only [Option.bind_some]
      rw [if_neg (by simp),show byteI (UInt8.ofNat (48+a.length) :: (tailT x ++ [10])) 0=some (((UInt8.ofNat (48+a.length)).toNat:Nat):Int) from rfl,digN h]
      simp only [Option.bind_some]
      rw [nine h,show decide (((48+a.length:Nat):Int)≠((48+a.length:Nat):Int))=false from by simp]
      exact fin
    · rw [if_neg (by omega)]
      exact fin
theorem show_len:∀ (b:List api_Instr) (j:Nat),j+b.length≤1000000→(∀ x∈b,okI x∧x.E.length≤50∧x.F.length≤50)→(showT j b).length≤2401 * b.length
  | [],_,_,_=>by simp [showT]
  | x :: b, j, hj, h => by
    have hx:=h x (by simp)
    have h1:=row_len (j:=j) (by omega) hx.1
    have h2:=show_len b (j+1) (by simp at hj;omega) (fun y hy=>h y (List.mem_cons_of_mem _ hy))
    rw [showT]
    simp only [List.length_append,List.length_cons]
    omega
theorem fixedB:Z1p 200001=some true:=by decide +kernel
theorem BinaryLines_eq (p:api_Code) (hp:ok_api_Code p):Z1k 200001 p=some true:=by
  have hx:∀ x∈(p.L.take 60).map cutI,okI x∧x.E.length≤50∧x.F.length≤50:=by
    intro x hx
    obtain ⟨y,hy,rfl⟩:=List.mem_map.1 hx
    exact cut_ok (hp.2.2 y (List.mem_of_mem_take hy))
  have hl:((p.L.take 60).map cutI).length≤60:=by rw [List.length_map,List.length_take];omega
  have hn:=show_len _ 0 (by omega) hx
  unfold Z1k
  rw [CutCode_eq (by decide)]
  simp only [Option.bind_some]
  rw [Show_eq (by decide) (p:=⟨p.Regs,p.Counts,(p.L.take 60).map cutI⟩) (by show ((p.L.take 60).map cutI).length≤1000;omega) (fun x h=>(hx x h).1)]
  simp only [Option.bind_some]
  exact lines_l2 (N:=200001) (by decide) (by rw [fixedB];rfl) (c:=⟨p.Regs,p.Counts,(p.L.take 60).map cutI⟩) hl hx rfl (by show (showT 0 ((p.L.take 60).map cutI)).length≤150000;omega) _ [] [] 200001 rfl rfl (by show (showT 0 ((p.L.take 60).map cutI)).length < 200001;omega)
end Go.MD.BIN
