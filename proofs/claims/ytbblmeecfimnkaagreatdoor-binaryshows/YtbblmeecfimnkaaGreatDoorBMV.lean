/- What binary.Show writes; BinaryLines. No condition: plain lemmas. -/
import Derived.Test.YtbblmeecfimnkaaGreatDoorBMA
import Derived.Test.YtbblmeecfimnkaaGreatDoorBMK
namespace Go.MD.BINZ
open Go Go.MD
theorem digN {u:Nat} (h:u < 10):(UInt8.ofNat (48+u)).toNat=48+u:=by rw [UInt8.toNat_ofNat'];exact Nat.mod_eq_of_lt (by omega)
theorem dec_mem {u:Nat}:∀ c∈Lib.decDigits u,48≤c.toNat:=by
  induction u using Nat.strongRecOn with
  | _ u ih =>
    by_cases h:u < 10
    · rw [Lib.decDigits_one h]
      intro c hc
      simp only [List.mem_singleton] at hc
      subst hc
      rw [digN h];omega
    · rw [Lib.decDigits, dif_neg h]
      intro c hc
      rcases List.mem_append.1 hc with hc | hc
      · exact ih (u / 10) (by omega) c hc
      · simp only [List.mem_singleton] at hc
        subst hc
        rw [digN (by omega)];omega
def NoL (s:Str):Prop:=∀ c∈s,c≠10
theorem NoL.app {a b:Str} (ha:NoL a) (hb:NoL b):NoL (a ++ b):=fun c hc=>by
  rcases List.mem_append.1 hc with h | h
  · exact ha c h
  · exact hb c h
theorem NoL.itoa (n:Int):NoL (Lib.itoa n):=by
  intro c hc e
  subst e
  unfold Lib.itoa at hc
  split at hc
  · rcases List.mem_cons.1 hc with h | h
    · exact absurd h (by decide)
    · exact absurd (dec_mem _ h) (by decide)
  · exact absurd (dec_mem _ hc) (by decide)
def wordsL:List Str:=[[115,101,116],[108,111,97,100],[115,116,111,114,101],[99,97,115],[102,108,117,115,104],[111,112,116],[115,102,101,110,99,101],[109,102,101,110,99,101],[116,97,107,101],[103,105,118,101],[106,117,109,112],[101,108,115,101],[99,111,117,110,116],[97,103,97,105,110],[99,104,101,99,107]]
def wordT (k:Int):Str:=if k < 1∨16≤k then [] else (wordsL[(k - 1).toNat]?).getD []
theorem Word_eq (N:Nat) (k:Int):Zg N k=some (wordT k):=by
  unfold Zg wordT
  by_cases h:k < 1∨16≤k
  · rw [if_pos (by simp;omega),if_pos h]
  · rw [if_neg (by simp; omega), if_neg h, show Z1g _ = some wordsL from if_pos rfl]
    simp only [Option.bind_some]
    obtain ⟨q,rfl⟩:∃ q:Nat,k=(q:Int)+1:=⟨(k - 1).toNat,by omega⟩
    rw [w64 (by omega) (by omega),show (q:Int)+1 - 1=(q:Int) from by omega,getI_nat,Int.toNat_natCast]
    have hq:q < wordsL.length:=by show q < 15;omega
    rw [List.getElem?_eq_getElem hq];rfl
theorem word_mem (k:Int):wordT k=[]∨wordT k∈wordsL:=by
  unfold wordT
  split
  · exact .inl rfl
  · cases h : wordsL[(k - 1).toNat]? with
    | none=>exact .inl rfl
    | some x=>exact .inr (List.mem_of_getElem? h)
theorem word_ok (k:Int):NoL (wordT k)∧(wordT k).length≤6:=by
  rcases word_mem k with h | h
  · rw [h];exact ⟨(fun _ h=>nomatch h),by decide⟩
  · have : ∀ x ∈ wordsL, (∀ c ∈ x, c ≠ 10) ∧ x.length ≤ 6 := by decide
    exact this _ h
def stepT (o:api_Op):Str:=if o.Kind=1 then [35] ++ Lib.itoa o.N else if o.Kind=2 then [114] ++ Lib.itoa o.N else [58] ++ Lib.itoa o.Kind
theorem stepT_ok {o:api_Op} (h:ok_api_Op o):NoL (stepT o)∧(stepT o).length≤22:=by
  have h1:=itoa_len h.1
  have h2:=itoa_len h.2
  unfold stepT
  split
  · exact ⟨NoL.app (by intro c;simp;rintro rfl;decide) (NoL.itoa _),by simp;omega⟩
  · split
    · exact ⟨NoL.app (by intro c;simp;rintro rfl;decide) (NoL.itoa _),by simp;omega⟩
    · exact ⟨NoL.app (by intro c;simp;rintro rfl;decide) (NoL.itoa _),by simp;omega⟩
def stepsT (l:List api_Op):Str:=if l=[] then [] else [32,91] ++ joinL [32] (l.map stepT) ++ [93]
theorem join_ok:∀ {l:List api_Op},(∀ o∈l,ok_api_Op o)→NoL (joinL [32] (l.map stepT))∧(joinL [32] (l.map stepT)).length≤23 * l.length
  | [],_=>⟨(fun _ h=>nomatch h),by simp [joinL]⟩
  | [x], h => by
    have:=stepT_ok (h x (by simp))
    exact ⟨this.1,by simp only [List.map_cons,List.map_nil,joinL,List.length_cons,List.length_nil];omega⟩
  | x :: y :: r, h => by
    have h1:=stepT_ok (h x (by simp))
    have h2:=join_ok (l:=y :: r) (fun o ho=>h o (List.mem_cons_of_mem _ ho))
    simp only [List.map_cons,joinL] at h2 ⊢
    refine ⟨NoL.app (NoL.app h1.1 (by intro c;simp;rintro rfl;decide)) h2.1,?_⟩
    simp only [List.length_append,List.length_cons,List.length_nil] at h2 ⊢
    omega
theorem stepsT_ok {l:List api_Op} (h:∀ o∈l,ok_api_Op o):NoL (stepsT l)∧(stepsT l).length≤23 * l.length+3:=by
  have hj:=join_ok h
  unfold stepsT
  split
  · exact ⟨(fun _ h=>nomatch h),by simp⟩
  · refine ⟨NoL.app (NoL.app (by intro c; simp; rintro (rfl | rfl) <;> decide) hj.1) (by intro c; simp; rintro rfl; decide), ?_⟩
    simp only [List.length_append,List.length_cons,List.length_nil];omega
theorem Text_eq (N:Nat) {n:Int} (h:InR n):Z5c N n=some (Lib.itoa n):=by
  unfold Z5c;rw [itoaM_ok h.1 h.2];rfl
theorem steps_l2 {N:Nat} {l:List api_Op} (hl:l.length≤100000) (ho:∀ o∈l,ok_api_Op o):∀ (b a:List api_Op) (k:Nat),a ++ b=l→b.length < k→Z12 N Z10 l k (a.map stepT) ((a.length:Nat):Int)=Z10 (l.map stepT):=by
  intro b
  induction b with
  | nil =>
    intro a k ha hk
    obtain ⟨k,rfl⟩:∃ q,k=q+1:=⟨k - 1,by omega⟩
    rw [List.append_nil] at ha
    subst ha
    rw [Z12,if_neg (by omega)]
  | cons x b ih =>
    intro a k ha hk
    obtain ⟨k,rfl⟩:∃ q,k=q+1:=⟨k - 1,by omega⟩
    have hla:a.length < l.length:=by rw [← ha];simp
    have hge:getI l ((a.length:Nat):Int)=some x:=by rw [getI_nat,← ha];simp
    have hx:ok_api_Op x:=ho x (by rw [← ha];simp)
    have h1:=itoa_len hx.1
    have h2:=itoa_len hx.2
    have rc:=ih (a ++ [x]) k (by rw [← ha];simp) (by simpa using hk)
    rw [List.map_append,List.length_append] at rc
    simp only [List.map_cons,List.map_nil,List.length_cons,List.length_nil,Nat.zero_add] at rc
    rw [Z12,if_pos (by omega),hge]
    simp only [Option.bind_some]
    have fin:∀ s:Str,stepT x=s→((appG 16 (a.map stepT) ([s]:List Str)).bind fun l49=>(Z11 (Z12 N Z10 l k) ((a.length:Nat):Int)) l49)=Z10 (l.map stepT):=by
      intro s hs
      rw [appG_ok (by simp;omega) (by decide)]
      simp only [Option.bind_some]
      rw [Z11,wsucc hla (by omega),← hs]
      exact rc
    by_cases c1:x.Kind=1
    · rw [if_pos c1, Text_eq N hx.2]
      simp only [Option.bind_some]
      rw [catG_ok (by simp;omega)]
      simp only [Option.bind_some]
      exact fin _ (by unfold stepT;rw [if_pos c1])
    · rw [if_neg c1]
      by_cases c2:x.Kind=2
      · rw [if_pos c2, Text_eq N hx.2]
        simp only [Option.bind_some]
        rw [catG_ok (by simp;omega)]
        simp only [Option.bind_some]
        exact fin _ (by unfold stepT;rw [if_neg c1,if_pos c2])
      · rw [if_neg c2, Text_eq N hx.1]
        simp only [Option.bind_some]
        rw [catG_ok (by simp;omega)]
        simp only [Option.bind_some]
        exact fin _ (by unfold stepT;rw [if_neg c1,if_neg c2])
theorem steps_eq {N:Nat} {l:List api_Op} (hl:l.length≤100000) (hN:l.length < N) (ho:∀ o∈l,ok_api_Op o):Zz N l=some (stepsT l):=by
  unfold Zz stepsT
  by_cases h:l=[]
  · subst h;rfl
  · have h0 : 0 < l.length := List.length_pos_iff.2 h
    have hj:=join_ok ho
    have:=steps_l2 (N:=N) hl ho l [] N rfl hN
    rw [if_neg (by omega),if_neg h]
    rw [show (0:Int)=((([]:List api_Op).length:Nat):Int) from rfl]
    refine Eq.trans this ?_
    rw [Z10,joinM,if_pos ⟨by simp;omega,by omega⟩]
    simp only [Option.bind_some]
    rw [catG_ok (by simp;omega)]
    simp only [Option.bind_some]
    rw [catG_ok (by simp;omega)]
    rfl
def tailT (x:api_Instr):Str:=[32] ++ wordT x.Kind ++ [32] ++ Lib.itoa x.A ++ [32] ++ Lib.itoa x.B ++ [32] ++ Lib.itoa x.To ++ stepsT x.E ++ stepsT x.F
def rowT (j:Nat) (x:api_Instr):Str:=Lib.itoa (j:Int) ++ tailT x ++ [10]
def okI (x:api_Instr):Prop:=ok_api_Instr x∧x.E.length≤100000∧x.F.length≤100000
def showT:Nat→List api_Instr→Str
  | _,[]=>[]
  | j,x :: r=>rowT j x ++ showT (j+1) r
theorem tail_ok {x:api_Instr} (h:okI x):NoL (tailT x)∧(tailT x).length≤23 * x.E.length+23 * x.F.length+79:=by
  obtain ⟨⟨h1,h2,h3,h4,h5,h6⟩,h7,h8⟩:=h
  have a1:=word_ok x.Kind
  have a2:=itoa_len h2
  have a3:=itoa_len h3
  have a4:=itoa_len h6
  have a5:=stepsT_ok h4
  have a6:=stepsT_ok h5
  have sp:NoL [32]:=by intro c;simp;rintro rfl;decide
  unfold tailT
  refine ⟨NoL.app (NoL.app (NoL.app (NoL.app (NoL.app (NoL.app (NoL.app (NoL.app (NoL.app sp a1.1) sp) (NoL.itoa _)) sp) (NoL.itoa _)) sp) (NoL.itoa _)) a5.1) a6.1,?_⟩
  simp only [List.length_append,List.length_cons,List.length_nil];omega
theorem row_len {j:Nat} {x:api_Instr} (hj:j≤1000000) (h:okI x):(rowT j x).length≤23 * x.E.length+23 * x.F.length+101:=by
  have a1:=itoa_len (n:=(j:Int)) ⟨by omega,by omega⟩
  have a2:=tail_ok h
  unfold rowT
  simp only [List.length_append,List.length_cons,List.length_nil];omega
theorem cat_b {β:Type} {a b:Str} {m n:Nat} {k:Str→Option β} (ha:a.length≤m) (hb:b.length≤n) (h:m+n≤9223372036854775807):(catG a b).bind k=k (a ++ b):=by rw [catG_ok (by omega)];rfl
theorem txt_b {β:Type} (N:Nat) {n:Int} {k:Str→Option β} (h:InR n):(Z5c N n).bind k=k (Lib.itoa n):=by rw [Text_eq N h];rfl
theorem wrd_b {β:Type} (N:Nat) {n:Int} {k:Str→Option β}:(Zg N n).bind k=k (wordT n):=by rw [Word_eq N];rfl
theorem stp_b {β:Type} {N:Nat} {l:List api_Op} {k:Str→Option β} (hl:l.length≤100000) (hN:l.length < N) (ho:∀ o∈l,ok_api_Op o):(Zz N l).bind k=k (stepsT l):=by rw [steps_eq hl hN ho];rfl
theorem app_le {a b:Str} {m n:Nat} (ha:a.length≤m) (hb:b.length≤n):(a ++ b).length≤m+n:=by rw [List.length_append];omega
theorem show_row {N:Nat} (hN:100000 < N) {p:api_Code} {j k:Nat} {x:api_Instr} {s:Str} (hj:j < p.L.length) (hl:p.L.length≤1000000) (hx:p.L[j]? = some x) (h:okI x) (hs:s.length≤100000000000) :
    Zf N Ze p (k+1) s (j:Int)=Zf N Ze p k (s ++ rowT j x) ((j+1:Nat):Int):=by
  have hr:=row_len (j:=j) (by omega) h
  obtain ⟨⟨h1,h2,h3,h4,h5,h6⟩,h7,h8⟩:=h
  have a1:=(word_ok x.Kind).2
  have a2:=itoa_len h2
  have a3:=itoa_len h3
  have a4:=itoa_len h6
  have a5:(stepsT x.E).length≤2300003:=Nat.le_trans (stepsT_ok h4).2 (by omega)
  have a6:(stepsT x.F).length≤2300003:=Nat.le_trans (stepsT_ok h5).2 (by omega)
  have i0:InR (j:Int):=⟨by omega,by omega⟩
  have a0:=itoa_len i0
  have sp:([32]:Str).length≤1:=Nat.le_refl _
  have nl:([10]:Str).length≤1:=Nat.le_refl _
  have b1:=app_le a0 sp
  have b2:=app_le b1 a1
  have b3:=app_le b2 sp
  have b4:=app_le b3 a2
  have b5:=app_le b4 sp
  have b6:=app_le b5 a3
  have b7:=app_le b6 sp
  have b8:=app_le b7 a4
  have b9:=app_le b8 a5
  have b10:=app_le b9 a6
  rw [Zf,if_pos (by omega),getI_nat,hx]
  simp only [Option.bind_some]
  rw [txt_b N i0,cat_b a0 sp (by decide),wrd_b,cat_b b1 a1 (by decide),cat_b b2 sp (by decide),txt_b N h2,cat_b b3 a2 (by decide),cat_b b4 sp (by decide),txt_b N h3,cat_b b5 a3 (by decide),cat_b b6 sp (by decide),txt_b N h6,cat_b b7 a4 (by decide),stp_b h7 (by omega) h4,cat_b b8 a5 (by decide),stp_b h8 (by omega) h5,cat_b b9 a6 (by decide),cat_b b10 nl (by decide)]
  have e:Lib.itoa (j:Int) ++ [32] ++ wordT x.Kind ++ [32] ++ Lib.itoa x.A ++ [32] ++ Lib.itoa x.B ++ [32] ++ Lib.itoa x.To ++ stepsT x.E ++ stepsT x.F ++ [10]=rowT j x:=by
    unfold rowT tailT
    simp only [List.append_assoc]
  rw [e]
  unfold catB
  rw [if_pos (by omega)]
  simp only [Option.bind_some]
  rw [wsucc hj (by omega)]
theorem show_l2 {N:Nat} (hN:100000 < N) {p:api_Code} (hl:p.L.length≤1000) (hp:∀ x∈p.L,okI x):∀ (b a:List api_Instr) (k:Nat) (s:Str),a ++ b=p.L→b.length < k→s.length+10000000 * b.length≤100000000000→Zf N Ze p k s ((a.length:Nat):Int)=some (s ++ showT a.length b):=by
  intro b
  induction b with
  | nil =>
    intro a k s ha hk hs
    obtain ⟨k,rfl⟩:∃ q,k=q+1:=⟨k - 1,by omega⟩
    rw [List.append_nil] at ha
    rw [Zf,if_neg (by rw [← ha];omega),Ze,showT,List.append_nil]
  | cons x b ih =>
    intro a k s ha hk hs
    obtain ⟨k,rfl⟩:∃ q,k=q+1:=⟨k - 1,by omega⟩
    have hla:a.length < p.L.length:=by rw [← ha];simp
    have hx:okI x:=hp x (by rw [← ha];simp)
    have hr:=row_len (j:=a.length) (x:=x) (by omega) hx
    have h7:=hx.2.1
    have h8:=hx.2.2
    have rc:=ih (a ++ [x]) k (s ++ rowT a.length x) (by rw [← ha];simp) (by simpa using hk) (by
      simp only [List.length_append,List.length_cons] at hs ⊢;omega)
    rw [show_row hN hla (by omega) (by rw [← ha];simp) hx (by omega),showT,← List.append_assoc]
    simp only [List.length_append,List.length_cons,List.length_nil,Nat.zero_add] at rc
    exact rc
theorem Show_eq {N:Nat} (hN:100000 < N) {p:api_Code} (hl:p.L.length≤1000) (hp:∀ x∈p.L,okI x):Zd N p=some (showT 0 p.L):=by
  unfold Zd
  exact show_l2 hN hl hp p.L [] N [] rfl (by omega) (by simp;omega)
end Go.MD.BINZ
