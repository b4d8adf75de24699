/- What R10.Show writes; BinaryShows. No condition: plain lemmas. -/
import Derived.Test.YtbblmeecfimnkaaGreatDoorBMV
namespace Go.MD.BINZ
open Go Go.MD
theorem one_dig:∀ i:Fin 10,bytesStr ([(IntK.mk (IntKind.u8.wrap (IntKind.i64.wrap (48+(i.val:Int)))))]:List (IntK .u8))=[UInt8.ofNat (48+i.val)]:=by decide +kernel
theorem Text_dig (n:Nat) {u:Nat} (h:u < 10):Z1m (n+1) (u:Int)=some (Lib.decDigits u):=by
  rw [Z1m,if_pos (by simp;omega),Lib.decDigits_one h]
  exact congrArg some (one_dig ⟨u,h⟩)
theorem tdiv10 (u:Nat):(u:Int).tdiv 10=((u / 10:Nat):Int):=by rw [Int.tdiv_eq_ediv_of_nonneg (by omega)];omega
theorem tmod10 (u:Nat):(u:Int).tmod 10=((u % 10:Nat):Int):=by rw [Int.tmod_eq_emod_of_nonneg (by omega)];omega
theorem Text_pos:∀ (d u n:Nat),u < 10 ^ (d+1)→u≤9223372036854775808→d≤n→u≤9223372036854775807→Z1m (n+1) (u:Int)=some (Lib.decDigits u):=by
  intro d
  induction d with
  | zero=>intro u n h _ _ _;exact Text_dig n (by simpa using h)
  | succ d ih =>
    intro u n h hu hn hm
    by_cases h9:u < 10
    · exact Text_dig n h9
    · obtain ⟨n, rfl⟩ : ∃ m, n = m + 1 := ⟨n - 1, by omega⟩
      rw [Z1m,if_neg (by simp;omega),if_pos (by omega),tdiv10,tmod10,w64 (by omega) (by omega)]
      rw [ih (u / 10) n (by rw [Nat.pow_succ] at h;omega) (by omega) (by omega) (by omega),Text_dig n (by omega)]
      simp only [Option.bind_some]
      have l1:=decDigits_len (u:=u / 10) (by omega)
      have l2:=decDigits_len (u:=u % 10) (by omega)
      rw [catG_ok (by omega)]
      simp only [Option.bind_some]
      rw [Lib.decDigits_one (i:=u % 10) (by omega)]
      conv=>rhs;rw [Lib.decDigits,dif_neg h9]
theorem Text_neg:∀ (d u n:Nat),1≤u→u < 10 ^ (d+1)→u≤9223372036854775808→d≤n→Z1m (n+2) (-(u:Int))=some (45 :: Lib.decDigits u):=by
  intro d
  induction d with
  | zero =>
    intro u n h1 h _ _
    have h9:u < 10:=by simpa using h
    rw [Z1m,if_neg (by simp;omega),if_neg (by omega),Int.neg_tdiv,Int.neg_tmod,tdiv10,tmod10]
    rw [if_pos (by rw [w64 (by omega) (by omega)];omega),w64 (by omega) (by omega),show (0 - -((u % 10:Nat):Int))=((u:Nat):Int) by omega,Text_dig n h9]
    simp only [Option.bind_some]
    have l1:=decDigits_len (u:=u) (by omega)
    rw [catG_ok (by simp;omega)]
    rfl
  | succ d ih =>
    intro u n h1 h hu hn
    by_cases h9:u < 10
    · rw [Z1m, if_neg (by simp; omega), if_neg (by omega), Int.neg_tdiv, Int.neg_tmod, tdiv10, tmod10]
      rw [if_pos (by rw [w64 (by omega) (by omega)];omega),w64 (by omega) (by omega),show (0 - -((u % 10:Nat):Int))=((u:Nat):Int) by omega,Text_dig n h9]
      simp only [Option.bind_some]
      have l1:=decDigits_len (u:=u) (by omega)
      rw [catG_ok (by simp;omega)]
      rfl
    · obtain ⟨n, rfl⟩ : ∃ m, n = m + 1 := ⟨n - 1, by omega⟩
      rw [Z1m,if_neg (by simp;omega),if_neg (by omega),Int.neg_tdiv,Int.neg_tmod,tdiv10,tmod10]
      rw [w64 (n:=-((u / 10:Nat):Int)) (by omega) (by omega),w64 (by omega) (by omega),if_neg (by omega),show (0 - -((u % 10:Nat):Int))=((u % 10:Nat):Int) by omega]
      rw [ih (u / 10) n (by omega) (by rw [Nat.pow_succ] at h;omega) (by omega) (by omega),Text_dig (n+1) (by omega)]
      simp only [Option.bind_some]
      have l1:=decDigits_len (u:=u / 10) (by omega)
      have l2:=decDigits_len (u:=u % 10) (by omega)
      rw [catG_ok (by simp;omega)]
      simp only [Option.bind_some]
      rw [Lib.decDigits_one (i:=u % 10) (by omega)]
      conv=>rhs;rw [Lib.decDigits,dif_neg h9]
      rfl
theorem RText_eq {N:Nat} (hN:30≤N) {n:Int} (h:InR n):Z1m N n=some (Lib.itoa n):=by
  obtain ⟨N,rfl⟩:∃ m,N=m+2:=⟨N - 2,by omega⟩
  obtain ⟨h1,h2⟩:=h
  have p19:(10:Nat) ^ (18+1)=10000000000000000000:=by decide
  unfold Lib.itoa
  by_cases h:n < 0
  · rw [if_pos h]
    have:=Text_neg 18 n.natAbs N (by omega) (by rw [p19];omega) (by omega) (by omega)
    rwa [show -(n.natAbs:Int)=n by omega] at this
  · rw [if_neg h]
    have:=Text_pos 18 n.toNat (N+1) (by rw [p19];omega) (by omega) (by omega) (by omega)
    rwa [show (n.toNat:Int)=n by omega] at this
theorem RWord_eq (N:Nat) (k:Int):Z3i N k=some (wordT k):=by
  unfold Z3i wordT
  by_cases h:k < 1∨16≤k
  · rw [if_pos (by simp;omega),if_pos h]
  · rw [if_neg (by simp; omega), if_neg h]
    obtain ⟨q,rfl⟩:∃ q:Nat,k=(q:Int)+1:=⟨(k - 1).toNat,by omega⟩
    rw [w64 (by omega) (by omega),show (q:Int)+1 - 1=(q:Int) from by omega,getI_nat,Int.toNat_natCast]
    have hq:q < wordsL.length:=by show q < 15;omega
    show (wordsL[q]?).bind _=_
    rw [List.getElem?_eq_getElem hq];rfl
theorem joinL_snoc (p x:Str):∀ a:List Str,a≠[]→joinL p (a ++ [x])=joinL p a ++ p ++ x
  | [],h=>absurd rfl h
  | [y],_=>by simp [joinL]
  | y :: z :: r, _ => by
    have:=joinL_snoc p x (z :: r) (by simp)
    simp only [List.cons_append,joinL] at this ⊢
    rw [this];simp only [List.append_assoc]
theorem stepT_ne (o:api_Op):stepT o≠[]:=by
  unfold stepT
  split
  · simp
  · split <;> simp
theorem join_ne:∀ (l:List api_Op),l≠[]→joinL [32] (l.map stepT)≠[]
  | [],h=>absurd rfl h
  | [x],_=>by simpa [joinL] using stepT_ne x
  | x :: y :: r,_=>by simp [joinL]
theorem rsteps_l2 {N:Nat} (hN:30≤N) {l:List api_Op} (hl:l.length≤100000) (ho:∀ o∈l,ok_api_Op o):∀ (b a:List api_Op) (k:Nat),a ++ b=l→b.length < k→Z3t N Z3q l k (joinL [32] (a.map stepT)) ((a.length:Nat):Int)=Z3q (joinL [32] (l.map stepT)):=by
  intro b
  induction b with
  | nil =>
    intro a k ha hk
    obtain ⟨k,rfl⟩:∃ q,k=q+1:=⟨k - 1,by omega⟩
    rw [List.append_nil] at ha
    subst ha
    rw [Z3t,if_neg (by omega)]
  | cons x b ih =>
    intro a k ha hk
    obtain ⟨k,rfl⟩:∃ q,k=q+1:=⟨k - 1,by omega⟩
    have hla:a.length < l.length:=by rw [← ha];simp
    have hge:getI l ((a.length:Nat):Int)=some x:=by rw [getI_nat,← ha];simp
    have hx:ok_api_Op x:=ho x (by rw [← ha];simp)
    have h1:=itoa_len hx.1
    have h2:=itoa_len hx.2
    have hja:=(join_ok (l:=a) (fun o h=>ho o (by rw [← ha];exact List.mem_append_left _ h))).2
    have rc:=ih (a ++ [x]) k (by rw [← ha];simp) (by simpa using hk)
    rw [List.map_append,List.length_append] at rc
    simp only [List.map_cons,List.map_nil,List.length_cons,List.length_nil,Nat.zero_add] at rc
    have fin:∀ d:Str,d.length≤23 * a.length+1→d ++ stepT x=joinL [32] (a.map stepT ++ [stepT x])→Z3s N (Z3r (Z3t N Z3q l k) ((a.length:Nat):Int)) l ((a.length:Nat):Int) d=Z3q (joinL [32] (l.map stepT)):=by
      intro d hd hj
      have go:∀ s:Str,stepT x=s→s.length≤22→((catG d s).bind fun s20=>Z3r (Z3t N Z3q l k) ((a.length:Nat):Int) s20)=Z3q (joinL [32] (l.map stepT)):=by
        intro s hs hs2
        rw [catG_ok (by omega)]
        simp only [Option.bind_some]
        rw [Z3r,wsucc hla (by omega),← hs,hj]
        exact rc
      rw [Z3s,hge]
      simp only [Option.bind_some]
      by_cases c1:x.Kind=1
      · rw [if_pos c1, RText_eq hN hx.2]
        simp only [Option.bind_some]
        rw [catG_ok (by simp;omega)]
        simp only [Option.bind_some]
        exact go _ (by unfold stepT;rw [if_pos c1]) (by simp;omega)
      · rw [if_neg c1]
        by_cases c2:x.Kind=2
        · rw [if_pos c2, RText_eq hN hx.2]
          simp only [Option.bind_some]
          rw [catG_ok (by simp;omega)]
          simp only [Option.bind_some]
          exact go _ (by unfold stepT;rw [if_neg c1,if_pos c2]) (by simp;omega)
        · rw [if_neg c2, RText_eq hN hx.1]
          simp only [Option.bind_some]
          rw [catG_ok (by simp;omega)]
          simp only [Option.bind_some]
          exact go _ (by unfold stepT;rw [if_neg c1,if_neg c2]) (by simp;omega)
    rw [Z3t,if_pos (by omega)]
    by_cases h0:a=[]
    · subst h0
      rw [if_neg (by simp)]
      exact fin _ (by simp [joinL]) (by simp [joinL])
    · have : 0 < a.length := List.length_pos_iff.2 h0
      rw [if_pos (by omega),catG_ok (by simp;omega)]
      simp only [Option.bind_some]
      exact fin _ (by simp;omega) (by rw [joinL_snoc _ _ _ (by simpa using h0)])
theorem rsteps_eq {N:Nat} (hN:30≤N) {l:List api_Op} (hl:l.length≤100000) (hn:l.length < N) (ho:∀ o∈l,ok_api_Op o):Z3p N l=some (stepsT l):=by
  unfold Z3p stepsT
  have hj:=join_ok ho
  have:=rsteps_l2 hN hl ho l [] N rfl hn
  refine Eq.trans this ?_
  rw [Z3q]
  by_cases h:l=[]
  · subst h;rfl
  · rw [if_neg (join_ne l h), if_neg h, catG_ok (by simp; omega)]
    simp only [Option.bind_some]
    rw [catG_ok (by simp;omega)]
    rfl
theorem rtxt_b {β:Type} {N:Nat} (hN:30≤N) {n:Int} {k:Str→Option β} (h:InR n):(Z1m N n).bind k=k (Lib.itoa n):=by rw [RText_eq hN h];rfl
theorem rwrd_b {β:Type} (N:Nat) {n:Int} {k:Str→Option β}:(Z3i N n).bind k=k (wordT n):=by rw [RWord_eq N];rfl
theorem rstp_b {β:Type} {N:Nat} {l:List api_Op} {k:Str→Option β} (hn:30≤N) (hl:l.length≤100000) (hN:l.length < N) (ho:∀ o∈l,ok_api_Op o):(Z3p N l).bind k=k (stepsT l):=by rw [rsteps_eq hn hl hN ho];rfl
theorem rshow_row {N:Nat} (hN:100000 < N) {p:api_Code} {j k:Nat} {x:api_Instr} {s:Str} (hj:j < p.L.length) (hl:p.L.length≤1000000) (hx:p.L[j]? = some x) (h:okI x) (hs:s.length≤100000000000) :
    Z3h N Z3g p (k+1) s (j:Int)=Z3h N Z3g p k (s ++ rowT j x) ((j+1:Nat):Int):=by
  have hr:=row_len (j:=j) (by omega) h
  obtain ⟨⟨h1,h2,h3,h4,h5,h6⟩,h7,h8⟩:=h
  have a1:=(word_ok x.Kind).2
  have a2:=itoa_len h2
  have a3:=itoa_len h3
  have a4:=itoa_len h6
  have a5:(stepsT x.E).length≤2300003:=Nat.le_trans (stepsT_ok h4).2 (by omega)
  have a6:(stepsT x.F).length≤2300003:=Nat.le_trans (stepsT_ok h5).2 (by omega)
  have i0:InR (j:Int):=⟨by omega,by omega⟩
  have a0:=itoa_len i0
  have sp:([32]:Str).length≤1:=Nat.le_refl _
  have nl:([10]:Str).length≤1:=Nat.le_refl _
  have b1:=app_le a0 sp
  have b2:=app_le b1 a1
  have b3:=app_le b2 sp
  have b4:=app_le b3 a2
  have b5:=app_le b4 sp
  have b6:=app_le b5 a3
  have b7:=app_le b6 sp
  have b8:=app_le b7 a4
  have b9:=app_le b8 a5
  have b10:=app_le b9 a6
  have n30:30≤N:=by omega
  rw [Z3h,if_pos (by omega),getI_nat,hx]
  simp only [Option.bind_some]
  rw [rtxt_b n30 i0,cat_b a0 sp (by decide),rwrd_b,cat_b b1 a1 (by decide),cat_b b2 sp (by decide),rtxt_b n30 h2,cat_b b3 a2 (by decide),cat_b b4 sp (by decide),rtxt_b n30 h3,cat_b b5 a3 (by decide),cat_b b6 sp (by decide),rtxt_b n30 h6,cat_b b7 a4 (by decide),rstp_b n30 h7 (by omega) h4,cat_b b8 a5 (by decide),rstp_b n30 h8 (by omega) h5,cat_b b9 a6 (by decide),cat_b b10 nl (by decide)]
  have e:Lib.itoa (j:Int) ++ [32] ++ wordT x.Kind ++ [32] ++ Lib.itoa x.A ++ [32] ++ Lib.itoa x.B ++ [32] ++ Lib.itoa x.To ++ stepsT x.E ++ stepsT x.F ++ [10]=rowT j x:=by
    unfold rowT tailT
    simp only [List.append_assoc]
  rw [e,catG_ok (by omega)]
  simp only [Option.bind_some]
  rw [wsucc hj (by omega)]
theorem rshow_l2 {N:Nat} (hN:100000 < N) {p:api_Code} (hl:p.L.length≤1000) (hp:∀ x∈p.L,okI x):∀ (b a:List api_Instr) (k:Nat) (s:Str),a ++ b=p.L→b.length < k→s.length+10000000 * b.length≤100000000000→Z3h N Z3g p k s ((a.length:Nat):Int)=some (s ++ showT a.length b):=by
  intro b
  induction b with
  | nil =>
    intro a k s ha hk hs
    obtain ⟨k,rfl⟩:∃ q,k=q+1:=⟨k - 1,by omega⟩
    rw [List.append_nil] at ha
    rw [Z3h,if_neg (by rw [← ha];omega),Z3g,showT,List.append_nil]
  | cons x b ih =>
    intro a k s ha hk hs
    obtain ⟨k,rfl⟩:∃ q,k=q+1:=⟨k - 1,by omega⟩
    have hla:a.length < p.L.length:=by rw [← ha];simp
    have hx:okI x:=hp x (by rw [← ha];simp)
    have hr:=row_len (j:=a.length) (x:=x) (by omega) hx
    have h7:=hx.2.1
    have h8:=hx.2.2
    have rc:=ih (a ++ [x]) k (s ++ rowT a.length x) (by rw [← ha];simp) (by simpa using hk) (by
      simp only [List.length_append,List.length_cons] at hs ⊢;omega)
    rw [rshow_row hN hla (by omega) (by rw [← ha];simp) hx (by omega),showT,← List.append_assoc]
    simp only [List.length_append,List.length_cons,List.length_nil,Nat.zero_add] at rc
    exact rc
theorem RShow_eq {N:Nat} (hN:100000 < N) {p:api_Code} (hl:p.L.length≤1000) (hp:∀ x∈p.L,okI x):Z3f N p=some (showT 0 p.L):=by
  unfold Z3f
  exact rshow_l2 hN hl hp p.L [] N [] rfl (by omega) (by simp;omega)
def cutI (x:api_Instr):api_Instr:=⟨x.Kind,x.A,x.B,x.E.take 50,x.F.take 50,x.To⟩
theorem sub50 {α:Type} (xs:List α) {n:Nat}:subI xs 0 (min (xs.length:Int) (n:Int))=some (xs.take n):=by
  rw [subI_ok (by omega) (by omega) (by omega)]
  have:(min (xs.length:Int) (n:Int)).toNat=min xs.length n:=by omega
  rw [this,show (0:Int).toNat=0 from rfl,List.drop_zero,Nat.min_comm]
  congr 1
  rcases Nat.le_total n xs.length with h | h
  · rw [Nat.min_eq_left h]
  · rw [Nat.min_eq_right h,List.take_of_length_le (Nat.le_refl _),List.take_of_length_le h]
theorem cut_l2 {N:Nat} {p:api_Code}:∀ (d:Nat) (j k:Nat),j+d=min p.L.length 60→d < k→Z1j N (Z1i p) p k ((p.L.take j).map cutI) (j:Int)=some ⟨p.Regs,p.Counts,(p.L.take 60).map cutI⟩:=by
  intro d
  induction d with
  | zero =>
    intro j k hd hk
    obtain ⟨k,rfl⟩:∃ q,k=q+1:=⟨k - 1,by omega⟩
    rw [Z1j,if_neg (by simp;omega),Z1i]
    have:p.L.take j=p.L.take 60:=by
      rcases Nat.le_total 60 p.L.length with h | h
      · rw [show j=60 from by omega]
      · rw [List.take_of_length_le (by omega),List.take_of_length_le h]
    rw [this]
  | succ d ih =>
    intro j k hd hk
    obtain ⟨k,rfl⟩:∃ q,k=q+1:=⟨k - 1,by omega⟩
    have hj:j < p.L.length:=by omega
    rw [Z1j,if_pos (by simp;omega),getI_at rfl hj]
    simp only [Option.bind_some]
    rw [show (50:Int)=((50:Nat):Int) from rfl,sub50]
    simp only [Option.bind_some]
    rw [appG_ok (by simp;omega) (by decide)]
    simp only [Option.bind_some,List.nil_append]
    rw [sub50]
    simp only [Option.bind_some]
    rw [appG_ok (by simp;omega) (by decide)]
    simp only [Option.bind_some,List.nil_append]
    rw [appG_ok (by simp;omega) (by decide)]
    simp only [Option.bind_some]
    rw [wsucc (n:=60) (by omega) (by decide)]
    have rc:=ih (j+1) k (by omega) (by omega)
    rw [List.take_succ_eq_append_getElem hj,List.map_append] at rc
    exact rc
theorem CutCode_eq {N:Nat} (hN:100 < N) (p:api_Code):Z1h N p=some ⟨p.Regs,p.Counts,(p.L.take 60).map cutI⟩:=by
  unfold Z1h
  exact cut_l2 (p:=p) (min p.L.length 60) 0 N (by omega) (by omega)
theorem cut_ok {x:api_Instr} (h:ok_api_Instr x):okI (cutI x)∧(cutI x).E.length≤50∧(cutI x).F.length≤50:=by
  obtain ⟨h1,h2,h3,h4,h5,h6⟩:=h
  have a:(cutI x).E.length≤50:=by show (x.E.take 50).length≤50;rw [List.length_take];omega
  have b:(cutI x).F.length≤50:=by show (x.F.take 50).length≤50;rw [List.length_take];omega
  exact ⟨⟨⟨h1,h2,h3,fun z hz=>h4 z (List.mem_of_mem_take hz),fun z hz=>h5 z (List.mem_of_mem_take hz),h6⟩,by omega,by omega⟩,a,b⟩
theorem fixedB:Z1l 200001=some true:=by decide +kernel
theorem BinaryShows_eq (p:api_Code) (k:Int) (hp:ok_api_Code p):Z1k 200001 p k=some true:=by
  have hx:∀ x∈(p.L.take 60).map cutI,okI x∧x.E.length≤50∧x.F.length≤50:=by
    intro x hx
    obtain ⟨y,hy,rfl⟩:=List.mem_map.1 hx
    exact cut_ok (hp.2.2 y (List.mem_of_mem_take hy))
  have hl:((p.L.take 60).map cutI).length≤60:=by rw [List.length_map,List.length_take];omega
  have hl':(api_Code.mk p.Regs p.Counts ((p.L.take 60).map cutI)).L.length≤1000:=by show ((p.L.take 60).map cutI).length≤1000;omega
  unfold Z1k
  rw [CutCode_eq (by decide)]
  simp only [Option.bind_some]
  rw [Show_eq (by decide) hl' (fun x h=>(hx x h).1),RShow_eq (by decide) hl' (fun x h=>(hx x h).1)]
  simp only [Option.bind_some]
  rw [if_pos trivial,Word_eq,RWord_eq]
  simp only [Option.bind_some]
  rw [if_pos trivial,fixedB]
  rfl
end Go.MD.BINZ
