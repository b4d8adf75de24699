/- Units that are right, both ways. No condition: plain lemmas. -/
import Derived.Test.YtbblmeecfimnkaaGreatDoorBMX
namespace Go.MD.BINZ
open Go Go.MD
def wN (k:Int):Nat:=if k=3∨k=4 then 1 else if 5≤k∧k≤15 then 2 else 0
theorem wants_eq (N:Nat) (k:Int):Z1f N k=some (wN k:Int):=by
  unfold Z1f wN
  by_cases h1:k=3∨k=4
  · rw [if_pos (by simpa using h1),if_pos h1];rfl
  · rw [if_neg (by simpa using h1), if_neg h1]
    by_cases h2:5≤k∧k≤15
    · rw [if_pos (by simpa using h2),if_pos h2];rfl
    · rw [if_neg (by simpa using h2),if_neg h2];rfl
theorem wN_le (k:Int):wN k≤2:=by unfold wN;split <;> (try split) <;> omega
def hts:List api_Op→Nat→Nat→Option (Nat×Nat)
  | [],n,h=>some (n,h)
  | x :: l,n,h=>if n < wN x.Kind then none else hts l (n - wN x.Kind+1) (max h (n - wN x.Kind+1))
def okOp (many:Int) (x:api_Op):Bool:=if x.Kind=1 then decide (0≤x.N∧x.N≤4294967296) else if x.Kind=2 then decide (0≤x.N∧x.N < many) else decide (x.N=0∧1≤x.Kind∧x.Kind≤15)
def rightS (l:List api_Op) (many:Int):Bool:=decide (l.length≤40) && (match hts l 0 0 with | some q=>decide (q.1=1) | none=>false) && l.all (okOp many)
def hI (o:Option (Nat×Nat)):Int×Int×Bool:=match o with | some q=>((q.1:Int),(q.2:Int),true) | none=>(0,0,false)
theorem heights_loop {N:Nat} {l:List api_Op} (hl:l.length≤3000):∀ (d j n a b:Nat),j+d=l.length→d < n→a≤j→b≤j→
    Z1e N Z1d l n (a:Int) (b:Int) (j:Int)=some (hI (hts (l.drop j) a b)):=by
  intro d
  induction d with
  | zero =>
    intro j n a b hj hn _ _
    obtain ⟨n,rfl⟩:∃ m,n=m+1:=⟨n - 1,by omega⟩
    rw [Z1e,if_neg (by omega),List.drop_of_length_le (by omega)]
    rfl
  | succ d ih =>
    intro j n a b hj hn ha hb
    obtain ⟨n,rfl⟩:∃ m,n=m+1:=⟨n - 1,by omega⟩
    have h1:j < l.length:=by omega
    have hw:=wN_le l[j].Kind
    rw [Z1e,if_pos (by omega),getI_at rfl h1]
    simp only [Option.bind_some,wants_eq]
    rw [List.drop_eq_getElem_cons h1,w64 (by omega) (by omega),hts]
    by_cases hc:a < wN l[j].Kind
    · rw [if_pos (by omega),if_pos hc];rfl
    · rw [if_neg (by omega), if_neg hc, w64 (by omega) (by omega), wsucc h1 (by omega), show ((a : Int) - (wN l[j].Kind : Int) + 1) = ((a - wN l[j].Kind + 1 : Nat) : Int) by omega, show max (b : Int) ((a - wN l[j].Kind + 1 : Nat) : Int) = ((max b (a - wN l[j].Kind + 1) : Nat) : Int) by omega]
      exact ih (j+1) n _ _ (by omega) (by omega) (by omega) (by omega)
theorem heights_eq {N:Nat} {l:List api_Op} (hl:l.length≤3000) (hN:l.length < N):Z1c N l=some (hI (hts l 0 0)):=by
  unfold Z1c
  exact heights_loop (N:=N) hl l.length 0 N 0 0 (by omega) hN (Nat.le_refl _) (Nat.le_refl _)
theorem odd_loop {N:Nat} {l:List api_Op} {many:Int} (hl:l.length≤3000):∀ (d j n:Nat),j+d=l.length→d < n→
    ∃ r,Z5k N Z5j l many n (j:Int)=some r∧(decide (0≤r) = !(l.drop j).all (okOp many)):=by
  intro d
  induction d with
  | zero =>
    intro j n hj hn
    obtain ⟨n,rfl⟩:∃ m,n=m+1:=⟨n - 1,by omega⟩
    rw [Z5k,if_neg (by omega),List.drop_of_length_le (by omega)]
    exact ⟨-1,rfl,rfl⟩
  | succ d ih =>
    intro j n hj hn
    obtain ⟨n,rfl⟩:∃ m,n=m+1:=⟨n - 1,by omega⟩
    have h1:j < l.length:=by omega
    have ho:Z1b N l[j] many=some (!okOp many l[j]):=by
      unfold Z1b okOp
      by_cases e1:l[j].Kind=1
      · rw [if_pos e1,if_pos e1];congr 1;rw [Bool.eq_iff_iff];first | (simp;done) | (simp;omega)
      · rw [if_neg e1, if_neg e1]
        by_cases e2:l[j].Kind=2
        · rw [if_pos e2,if_pos e2];congr 1;rw [Bool.eq_iff_iff];first | (simp;done) | (simp;omega)
        · rw [if_neg e2,if_neg e2];congr 1;rw [Bool.eq_iff_iff];first | (simp;done) | (simp;omega)
    rw [Z5k,if_pos (by omega),getI_at rfl h1]
    simp only [Option.bind_some,ho]
    rw [List.drop_eq_getElem_cons h1,List.all_cons]
    cases hk:okOp many l[j] with
    | false=>exact ⟨j,by simp,by simp⟩
    | true =>
      obtain ⟨r,h2,h3⟩:=ih (j+1) n (by omega) (by omega)
      rw [wsucc h1 (by omega)]
      exact ⟨r,by simpa using h2,by simpa using h3⟩
theorem Right_eq {N:Nat} {l:List api_Op} (hl:l.length≤3000) (hN:l.length < N) (many:Int):Z1a N l many=some (rightS l many):=by
  unfold Z1a
  rw [heights_eq hl hN]
  simp only [Option.bind_some]
  obtain ⟨r,h1,h2⟩:=odd_loop (N:=N) (many:=many) hl l.length 0 N (by omega) hN
  have h3:Z56 N l many=some (!l.all (okOp many)):=by
    unfold Z56 Z5i
    rw [show (0:Int)=((0:Nat):Int) from rfl,h1]
    simpa using h2
  unfold rightS
  cases hh:hts l 0 0 with
  | none=>simp [hI]
  | some q =>
    obtain ⟨a,b⟩:=q
    simp only [hI,Bool.and_true]
    by_cases e1:l.length≤40
    · by_cases e2 : a = 1
      · subst e2
        rw [if_pos (by simp;omega),h3];simp [e1]
      · have e3 : ¬ (a : Int) = 1 := by omega
        rw [if_neg (by simp [e3])];simp [e2]
    · rw [if_neg (by simp;intro h;omega)];simp [e1]
theorem cl_int {N:Nat} {l:List (Int)} {pb:Int→Bool} (hl:l.length≤3000) (hp:∀ x∈l,Z4n N x=some (pb x)):∀ (d j n:Nat),j+d=l.length→d < n→
    ∃ r,Z5n N Z5m l n (j:Int)=some r∧(decide (0≤r)=(l.drop j).any pb):=by
  intro d
  induction d with
  | zero =>
    intro j n hj hn
    obtain ⟨n,rfl⟩:∃ m,n=m+1:=⟨n - 1,by omega⟩
    rw [Z5n,if_neg (by omega),List.drop_of_length_le (by omega)]
    exact ⟨-1,rfl,rfl⟩
  | succ d ih =>
    intro j n hj hn
    obtain ⟨n,rfl⟩:∃ m,n=m+1:=⟨n - 1,by omega⟩
    have h1:j < l.length:=by omega
    have ho:=hp l[j] (List.getElem_mem h1)
    rw [Z5n,if_pos (by omega),getI_at rfl h1]
    simp only [Option.bind_some,ho]
    rw [List.drop_eq_getElem_cons h1,List.any_cons]
    cases hk:pb l[j] with
    | true=>exact ⟨j,by simp,by simp⟩
    | false =>
      obtain ⟨r,h2,h3⟩:=ih (j+1) n (by omega) (by omega)
      rw [wsucc h1 (by omega)]
      exact ⟨r,by simpa using h2,by simpa using h3⟩
theorem cf_int {N:Nat} {l:List (Int)} {pb:Int→Bool} (hl:l.length≤3000) (hN:l.length < N) (hp:∀ x∈l,Z4n N x=some (pb x)):Z57 N l=some (l.any pb):=by
  obtain ⟨r,h1,h2⟩:=cl_int hl hp l.length 0 N (by omega) hN
  unfold Z57 Z5l
  rw [show (0:Int)=((0:Nat):Int) from rfl,h1]
  simpa using h2
theorem cl_code {N:Nat} {l:List (api_Code)} {y:api_Unit} {pb:api_Code→Bool} (hl:l.length≤3000) (hp:∀ x∈l,Z4o N x y=some (pb x)):∀ (d j n:Nat),j+d=l.length→d < n→
    ∃ r,Z5e N Z5d l y n (j:Int)=some r∧(decide (0≤r)=(l.drop j).any pb):=by
  intro d
  induction d with
  | zero =>
    intro j n hj hn
    obtain ⟨n,rfl⟩:∃ m,n=m+1:=⟨n - 1,by omega⟩
    rw [Z5e,if_neg (by omega),List.drop_of_length_le (by omega)]
    exact ⟨-1,rfl,rfl⟩
  | succ d ih =>
    intro j n hj hn
    obtain ⟨n,rfl⟩:∃ m,n=m+1:=⟨n - 1,by omega⟩
    have h1:j < l.length:=by omega
    have ho:=hp l[j] (List.getElem_mem h1)
    rw [Z5e,if_pos (by omega),getI_at rfl h1]
    simp only [Option.bind_some,ho]
    rw [List.drop_eq_getElem_cons h1,List.any_cons]
    cases hk:pb l[j] with
    | true=>exact ⟨j,by simp,by simp⟩
    | false =>
      obtain ⟨r,h2,h3⟩:=ih (j+1) n (by omega) (by omega)
      rw [wsucc h1 (by omega)]
      exact ⟨r,by simpa using h2,by simpa using h3⟩
theorem cf_code {N:Nat} {l:List (api_Code)} {y:api_Unit} {pb:api_Code→Bool} (hl:l.length≤3000) (hN:l.length < N) (hp:∀ x∈l,Z4o N x y=some (pb x)):Z54 N l y=some (l.any pb):=by
  obtain ⟨r,h1,h2⟩:=cl_code hl hp l.length 0 N (by omega) hN
  unfold Z54 Z5c
  rw [show (0:Int)=((0:Nat):Int) from rfl,h1]
  simpa using h2
theorem cl_claim {N:Nat} {l:List (List api_Op)} {y:api_Unit} {pb:List api_Op→Bool} (hl:l.length≤3000) (hp:∀ x∈l,Z4p N x y=some (pb x)):∀ (d j n:Nat),j+d=l.length→d < n→
    ∃ r,Z5b N Z5a l y n (j:Int)=some r∧(decide (0≤r)=(l.drop j).any pb):=by
  intro d
  induction d with
  | zero =>
    intro j n hj hn
    obtain ⟨n,rfl⟩:∃ m,n=m+1:=⟨n - 1,by omega⟩
    rw [Z5b,if_neg (by omega),List.drop_of_length_le (by omega)]
    exact ⟨-1,rfl,rfl⟩
  | succ d ih =>
    intro j n hj hn
    obtain ⟨n,rfl⟩:∃ m,n=m+1:=⟨n - 1,by omega⟩
    have h1:j < l.length:=by omega
    have ho:=hp l[j] (List.getElem_mem h1)
    rw [Z5b,if_pos (by omega),getI_at rfl h1]
    simp only [Option.bind_some,ho]
    rw [List.drop_eq_getElem_cons h1,List.any_cons]
    cases hk:pb l[j] with
    | true=>exact ⟨j,by simp,by simp⟩
    | false =>
      obtain ⟨r,h2,h3⟩:=ih (j+1) n (by omega) (by omega)
      rw [wsucc h1 (by omega)]
      exact ⟨r,by simpa using h2,by simpa using h3⟩
theorem cf_claim {N:Nat} {l:List (List api_Op)} {y:api_Unit} {pb:List api_Op→Bool} (hl:l.length≤3000) (hN:l.length < N) (hp:∀ x∈l,Z4p N x y=some (pb x)):Z53 N l y=some (l.any pb):=by
  obtain ⟨r,h1,h2⟩:=cl_claim hl hp l.length 0 N (by omega) hN
  unfold Z53 Z59
  rw [show (0:Int)=((0:Nat):Int) from rfl,h1]
  simpa using h2
theorem cl_again {N:Nat} {l:List (api_Instr)} {y:api_Instr} {pb:api_Instr→Bool} (hl:l.length≤3000) (hp:∀ x∈l,Z4t N x y=some (pb x)):∀ (d j n:Nat),j+d=l.length→d < n→
    ∃ r,Z5h N Z5g l y n (j:Int)=some r∧(decide (0≤r)=(l.drop j).any pb):=by
  intro d
  induction d with
  | zero =>
    intro j n hj hn
    obtain ⟨n,rfl⟩:∃ m,n=m+1:=⟨n - 1,by omega⟩
    rw [Z5h,if_neg (by omega),List.drop_of_length_le (by omega)]
    exact ⟨-1,rfl,rfl⟩
  | succ d ih =>
    intro j n hj hn
    obtain ⟨n,rfl⟩:∃ m,n=m+1:=⟨n - 1,by omega⟩
    have h1:j < l.length:=by omega
    have ho:=hp l[j] (List.getElem_mem h1)
    rw [Z5h,if_pos (by omega),getI_at rfl h1]
    simp only [Option.bind_some,ho]
    rw [List.drop_eq_getElem_cons h1,List.any_cons]
    cases hk:pb l[j] with
    | true=>exact ⟨j,by simp,by simp⟩
    | false =>
      obtain ⟨r,h2,h3⟩:=ih (j+1) n (by omega) (by omega)
      rw [wsucc h1 (by omega)]
      exact ⟨r,by simpa using h2,by simpa using h3⟩
theorem cf_again {N:Nat} {l:List (api_Instr)} {y:api_Instr} {pb:api_Instr→Bool} (hl:l.length≤3000) (hN:l.length < N) (hp:∀ x∈l,Z4t N x y=some (pb x)):Z55 N l y=some (l.any pb):=by
  obtain ⟨r,h1,h2⟩:=cl_again hl hp l.length 0 N (by omega) hN
  unfold Z55 Z5f
  rw [show (0:Int)=((0:Nat):Int) from rfl,h1]
  simpa using h2
theorem r8_height {N:Nat} {l:List api_Op} (hl:l.length≤3000):∀ (d j n a b:Nat),j+d=l.length→d < n→a≤j→
    Z25 N Z22 l (l.length:Int) n (a:Int) (j:Int)=some (match hts (l.drop j) a b with | some q=>(q.1:Int) | none=>-1):=by
  intro d
  induction d with
  | zero =>
    intro j n a b hj hn _
    obtain ⟨n,rfl⟩:∃ m,n=m+1:=⟨n - 1,by omega⟩
    rw [Z25,if_neg (by omega),List.drop_of_length_le (by omega)]
    rfl
  | succ d ih =>
    intro j n a b hj hn ha
    obtain ⟨n,rfl⟩:∃ m,n=m+1:=⟨n - 1,by omega⟩
    have h1:j < l.length:=by omega
    rw [Z25,if_pos (by omega),getI_at rfl h1]
    simp only [Option.bind_some]
    rw [List.drop_eq_getElem_cons h1,hts]
    have fin:∀ c:Int,c=(a:Int) - (wN l[j].Kind:Int)→Z24 (Z25 N Z22 l (l.length:Int) n) (j:Int) c=some (match (if a < wN l[j].Kind then none else hts (l.drop (j+1)) (a - wN l[j].Kind+1) (max b (a - wN l[j].Kind+1))) with | some q=>(q.1:Int) | none=>-1):=by
      intro c hc
      subst hc
      have hw:=wN_le l[j].Kind
      rw [Z24]
      by_cases hc:a < wN l[j].Kind
      · rw [if_pos (by omega),if_pos hc]
      · rw [if_neg (by omega), if_neg hc, w64 (by omega) (by omega), wsucc h1 (by omega), show ((a : Int) - (wN l[j].Kind : Int) + 1) = ((a - wN l[j].Kind + 1 : Nat) : Int) by omega]
        exact ih (j+1) n _ _ (by omega) (by omega) (by omega)
    by_cases k1:l[j].Kind=3∨l[j].Kind=4
    · have hw : wN l[j].Kind = 1 := by unfold wN; rw [if_pos k1]
      rw [if_pos (by simpa using k1),Z23,if_neg (by simp;omega),w64 (by omega) (by omega)]
      exact fin _ (by rw [hw];rfl)
    · rw [if_neg (by simpa using k1), Z23]
      by_cases k2:5≤l[j].Kind∧l[j].Kind≤15
      · have hw : wN l[j].Kind = 2 := by unfold wN; rw [if_neg k1, if_pos k2]
        rw [if_pos (by simpa using k2),w64 (by omega) (by omega)]
        exact fin _ (by rw [hw];rfl)
      · have hw : wN l[j].Kind = 0 := by unfold wN; rw [if_neg k1, if_neg k2]
        rw [if_neg (by simpa using k2)]
        exact fin _ (by rw [hw];simp)
theorem r8_loop {N:Nat} {l:List api_Op} {many:Int} {q:Option Bool} (hl:l.length≤3000):∀ (d j n:Nat),j+d=l.length→d < n→
    Z1x N q l many n (j:Int)=if (l.drop j).all (okOp many)=true then q else some false:=by
  intro d
  induction d with
  | zero =>
    intro j n hj hn
    obtain ⟨n,rfl⟩:∃ m,n=m+1:=⟨n - 1,by omega⟩
    rw [Z1x,if_neg (by omega),List.drop_of_length_le (by omega)]
    rfl
  | succ d ih =>
    intro j n hj hn
    obtain ⟨n,rfl⟩:∃ m,n=m+1:=⟨n - 1,by omega⟩
    have h1:j < l.length:=by omega
    rw [Z1x,if_pos (by omega),getI_at rfl h1]
    simp only [Option.bind_some]
    rw [List.drop_eq_getElem_cons h1,List.all_cons]
    have hc:(((((decide (l[j].Kind < 1)) || (decide (15 < l[j].Kind))) || ((decide (l[j].Kind=1)) && ((decide (l[j].N < 0)) || (decide (4294967296 < l[j].N))))) || ((decide (l[j].Kind=2)) && ((decide (l[j].N < 0)) || (decide (many≤l[j].N))))) || ((decide (2 < l[j].Kind)) && (decide (l[j].N≠0)))) = !okOp many l[j]:=by
      unfold okOp
      rw [Bool.eq_iff_iff]
      by_cases e1:l[j].Kind=1
      · rw [if_pos e1];simp [e1] <;> omega
      · rw [if_neg e1]
        by_cases e2:l[j].Kind=2
        · rw [if_pos e2];simp [e2] <;> omega
        · rw [if_neg e2];simp [e1,e2] <;> omega
    rw [hc]
    cases hk:okOp many l[j] with
    | false=>simp
    | true =>
      rw [if_neg (by simp),wsucc h1 (by omega),ih (j+1) n (by omega) (by omega),Bool.true_and]
theorem r8Right_eq {N:Nat} {l:List api_Op} (hl:l.length≤3000) (hN:l.length < N) (many:Int):Z1v N l many=some (rightS l many):=by
  unfold Z1v
  have h0:=r8_loop (N:=N) (many:=many) (q:=Z1w N l) hl l.length 0 N (by omega) hN
  rw [show ((0:Nat):Int)=0 from rfl,List.drop_zero] at h0
  rw [h0]
  unfold rightS
  cases ha:l.all (okOp many) with
  | false=>simp
  | true =>
    rw [if_pos rfl,Z1w]
    have hh:=r8_height (N:=N) hl l.length 0 N 0 0 (by omega) hN (Nat.le_refl _)
    rw [show ((0:Nat):Int)=0 from rfl,List.drop_zero] at hh
    by_cases e:1≤l.length∧l.length≤40
    · rw [if_pos (by simp; omega), Z21, hh]
      simp only [Option.bind_some,Bool.and_true]
      congr 1
      cases hts l 0 0 with
      | none=>simp
      | some q=>simp [e.2];omega
    · rw [if_neg (by simp; omega)]
      by_cases e1:l.length=0
      · have : l = [] := List.length_eq_zero_iff.1 e1
        subst this;rfl
      · have e2 : ¬ l.length ≤ 40 := by omega
        simp [e2]
def inB (a n:Int):Bool:=decide (0≤a) && decide (a < n)
def fA (x:api_Instr) (R C:Int):Bool:=if x.Kind=13∨x.Kind=14 then inB x.A C else if x.Kind=1∨x.Kind=2∨x.Kind=4 then inB x.A R else decide (x.A=0)
def fB (x:api_Instr) (p4 p5 p6:Int):Bool:=if x.Kind=2∨x.Kind=3∨x.Kind=4 then inB x.B p4 else if x.Kind=5∨x.Kind=6 then inB x.B p5 else if x.Kind=9∨x.Kind=10 then inB x.B p6 else if x.Kind=13 then decide (1≤x.B) && decide (x.B≤8) else decide (x.B=0)
def fE (x:api_Instr) (R:Int):Bool:=if x.Kind=1∨x.Kind=3∨x.Kind=4∨x.Kind=12∨x.Kind=15 then rightS x.E R else decide ((x.E.length:Int)=0)
def fF (x:api_Instr) (R:Int):Bool:=if x.Kind=4 then rightS x.F R else decide ((x.F.length:Int)=0)
def fieldsB (x:api_Instr) (R C p4 p5 p6:Int):Bool:=(decide (1≤x.Kind) && decide (x.Kind≤15)) && (fA x R C && (fB x p4 p5 p6 && (fE x R && fF x R)))
theorem kinds {k:Int} (h1:1≤k) (h2:k≤15):k=1∨k=2∨k=3∨k=4∨k=5∨k=6∨k=7∨k=8∨k=9∨k=10∨k=11∨k=12∨k=13∨k=14∨k=15:=by omega
theorem len0 {α:Type} (l:List α):decide (0 < (l.length:Int)) = !decide ((l.length:Int)=0):=by
  rcases Nat.eq_zero_or_pos l.length with h | h
  · rw [h];rfl
  · rw [decide_eq_true (by omega),decide_eq_false (by omega)];rfl
theorem fields_j3 {N:Nat} (hN:3000 < N) (x:api_Instr) (p:api_Code) (hE:x.E.length≤3000) (hF:x.F.length≤3000) (u v:Bool):Z2z N x p u v=some ((decide (1≤x.Kind) && decide (x.Kind≤15)) && (u && (v && (fE x p.Regs && fF x p.Regs)))):=by
  have hf:∀ b:Bool,Z33 x u v b=some ((decide (1≤x.Kind) && decide (x.Kind≤15)) && (u && (v && !b))):=by
    intro b;unfold Z33
    cases b <;> cases u <;> cases v <;> simp
  have hk:(((((decide (x.Kind=1)) || (decide (x.Kind=3))) || (decide (x.Kind=4))) || (decide (x.Kind=12))) || (decide (x.Kind=15)))=decide (x.Kind=1∨x.Kind=3∨x.Kind=4∨x.Kind=12∨x.Kind=15):=by
    rw [Bool.eq_iff_iff];simp only [Bool.or_eq_true,decide_eq_true_eq];omega
  unfold Z2z fE fF
  rw [hk,r8Right_eq hE (by omega),r8Right_eq hF (by omega),len0,len0]
  simp only [hf]
  by_cases h1:x.Kind=1∨x.Kind=3∨x.Kind=4∨x.Kind=12∨x.Kind=15
  · by_cases h4 : x.Kind = 4
    · simp [h4];cases rightS x.E p.Regs <;> cases rightS x.F p.Regs <;> simp
    · simp only [h1,h4];cases rightS x.E p.Regs <;> cases hz:decide ((x.F.length:Int)=0) <;> simp_all
  · have h4 : ¬ x.Kind = 4 := fun h => h1 (by omega)
    simp only [h1,h4];cases hy:decide ((x.E.length:Int)=0) <;> cases hz:decide ((x.F.length:Int)=0) <;> simp_all
theorem fields_j4 {N:Nat} (x:api_Instr) (p4 p5 p6:Int) (q:Bool→Option Bool) (b:Bool) (hb:b=decide (x.Kind=2∨x.Kind=3∨x.Kind=4)):Z30 N q x p4 p5 p6 b=q (fB x p4 p5 p6):=by
  subst hb
  unfold Z30 Z31 Z32 Z34 fB inB
  by_cases h1:x.Kind=2∨x.Kind=3∨x.Kind=4
  · simp [h1]
  · simp only [h1]
    by_cases h5:x.Kind=5
    · simp [h5]
    · by_cases h6 : x.Kind = 6
      · simp [h6]
      · by_cases h9 : x.Kind = 9
        · simp [h9]
        · by_cases h10 : x.Kind = 10
          · simp [h10]
          · by_cases h13 : x.Kind = 13
            · simp [h13]
            · simp [h5,h6,h9,h10,h13]
theorem fields_eq {N:Nat} (hN:3000 < N) (x:api_Instr) (p:api_Code) (p4 p5 p6:Int) (hE:x.E.length≤3000) (hF:x.F.length≤3000):Z2w N x p p4 p5 p6=some (fieldsB x p.Regs p.Counts p4 p5 p6):=by
  have h2:∀ a:Bool,Z2y N x p p4 p5 p6 a=some ((decide (1≤x.Kind) && decide (x.Kind≤15)) && (a && (fB x p4 p5 p6 && (fE x p.Regs && fF x p.Regs)))):=by
    intro a
    unfold Z2y
    by_cases k2:x.Kind=2
    · rw [if_pos k2,fields_j4 _ _ _ _ _ _ (by simp [k2]),fields_j3 hN x p hE hF]
    · rw [if_neg k2]
      by_cases k3:x.Kind=3
      · rw [if_pos k3,fields_j4 _ _ _ _ _ _ (by simp [k3]),fields_j3 hN x p hE hF]
      · rw [if_neg k3,fields_j4 _ _ _ _ _ _ (by simp [k2,k3]),fields_j3 hN x p hE hF]
  unfold Z2w Z2x Z34 fieldsB fA
  simp only [h2,Option.bind_some]
  by_cases h1:x.Kind=13∨x.Kind=14
  · have : ¬ (x.Kind = 1 ∨ x.Kind = 2 ∨ x.Kind = 4) := by omega
    rcases h1 with h | h <;> simp [h,inB]
  · by_cases h3 : x.Kind = 1 ∨ x.Kind = 2 ∨ x.Kind = 4
    · rcases h3 with h | h | h <;> simp [h,inB]
    · have e1 : ((decide (x.Kind = 13)) || (decide (x.Kind = 14))) = false := by simp; omega
      have e2:(((decide (x.Kind=1)) || (decide (x.Kind=2))) || (decide (x.Kind=4)))=false:=by simp;omega
      rw [e1,e2,if_neg h1,if_neg h3];simp
theorem cbl {N:Nat} {l:List (IntK .u8)} {c:Int} (hl:l.length≤3000):∀ (d j n:Nat),j+d=l.length→d < n→
    ∃ r,Z5q N Z5p l c n (j:Int)=some r∧(decide (0≤r)=(l.drop j).any fun x=>decide (c=x.v)):=by
  intro d
  induction d with
  | zero =>
    intro j n hj hn
    obtain ⟨n,rfl⟩:∃ m,n=m+1:=⟨n - 1,by omega⟩
    rw [Z5q,if_neg (by omega),List.drop_of_length_le (by omega)]
    exact ⟨-1,rfl,rfl⟩
  | succ d ih =>
    intro j n hj hn
    obtain ⟨n,rfl⟩:∃ m,n=m+1:=⟨n - 1,by omega⟩
    have h1:j < l.length:=by omega
    rw [Z5q,if_pos (by omega),getI_at rfl h1]
    simp only [Option.bind_some]
    rw [List.drop_eq_getElem_cons h1,List.any_cons]
    by_cases hk:c=l[j].v
    · rw [if_pos hk];exact ⟨j,rfl,by simp [hk]⟩
    · rw [if_neg hk]
      obtain ⟨r,h2,h3⟩:=ih (j+1) n (by omega) (by omega)
      rw [wsucc h1 (by omega)]
      exact ⟨r,h2,by rw [h3];simp [hk]⟩
def havesL:List Str:=[[],[114,101],[114,99],[99,101],[114,99,101,102],[108],[108],[],[],[109],[109],[116],[101,116],[107,110],[107,116],[101]]
def hav (k:Nat) (c:Int):Bool:=(bytesK ((havesL[k]?).getD [])).any fun x=>decide (c=x.v)
theorem haves_len:∀ k:Fin 16,((havesL[k.val]?).getD []).length≤10:=by decide
theorem lc1 {N:Nat} (hN:100 < N) (c:Int) {x:api_Instr} (h1:1≤x.Kind) (h2:x.Kind≤15):Z4d N c x=some (hav x.Kind.toNat c):=by
  unfold Z4d Z4v
  simp only [Option.bind_some]
  obtain ⟨k,hk⟩:∃ k:Nat,x.Kind=(k:Int):=⟨x.Kind.toNat,by omega⟩
  have hk16:k < 16:=by omega
  have hg:getI havesL x.Kind=some ((havesL[k]?).getD []):=by
    rw [hk,getI_nat]
    have:k < havesL.length:=hk16
    rw [List.getElem?_eq_getElem this];rfl
  rw [show getI ([[],[114,101],[114,99],[99,101],[114,99,101,102],[108],[108],[],[],[109],[109],[116],[101,116],[107,110],[107,116],[101]]:List Str) x.Kind=_ from hg]
  simp only [Option.bind_some]
  have hl:(bytesK ((havesL[k]?).getD [])).length≤10:=by
    show (List.map _ ((havesL[k]?).getD [])).length≤10
    rw [List.length_map];exact haves_len ⟨k,hk16⟩
  obtain ⟨r,e1,e2⟩:=cbl (N:=N) (c:=c) (l:=bytesK ((havesL[k]?).getD [])) (by omega) _ 0 N (Nat.zero_add _) (by omega)
  unfold Z58 Z5o
  rw [show (0:Int)=((0:Nat):Int) from rfl,e1]
  simp only [Option.bind_some]
  rw [hk,Int.toNat_natCast]
  exact congrArg some e2
def toB (l:List api_Instr) (i:Nat) (x:api_Instr):Bool:=
  if x.Kind=11∨x.Kind=12 then decide ((i:Int) < x.To) && decide (x.To≤(l.length:Int))
  else if x.Kind=14 then
    if x.To < 1∨(i:Int) < x.To then false
    else (match l[(x.To - 1).toNat]? with | some y=>decide (y.Kind=13) && decide (y.A=x.A) | none=>false) && !((l.take i).drop x.To.toNat).any fun y=>decide (y.Kind=13) && decide (y.A=x.A)
  else decide (x.To=0)
theorem again_eq {N:Nat} {l:List api_Instr} {i:Nat} {x:api_Instr} (hl:l.length≤3000) (hN:3000 < N) (hi:l[i]? = some x) (hk:x.Kind=14):Z4s N l (i:Int)=some (toB l i x):=by
  have hil:i < l.length:=(List.getElem?_eq_some_iff.1 hi).1
  unfold Z4s toB
  rw [getI_nat,hi]
  simp only [Option.bind_some]
  rw [if_neg (show ¬ (x.Kind=11∨x.Kind=12) by omega),if_pos hk]
  by_cases h:x.To < 1∨(i:Int) < x.To
  · rw [if_pos (by simp;omega),if_pos h];rfl
  · rw [if_neg (by simp; omega), if_neg h]
    obtain ⟨t,ht⟩:∃ t:Nat,x.To=(t:Int)+1:=⟨(x.To - 1).toNat,by omega⟩
    have htl:t < l.length:=by omega
    rw [w64 (by omega) (by omega),ht,show (t:Int)+1 - 1=(t:Int) from by omega,getI_nat,Int.toNat_natCast,List.getElem?_eq_getElem htl]
    simp only [Option.bind_some]
    unfold Z4u
    have hc:((decide (l[t].Kind≠13)) || (decide (l[t].A≠x.A))) = !(decide (l[t].Kind=13) && decide (l[t].A=x.A)):=by simp
    rw [hc]
    cases hb:(decide (l[t].Kind=13) && decide (l[t].A=x.A)) with
    | false=>rfl
    | true =>
      rw [if_neg (by simp),ht,show ((t:Int)+1)=((t+1:Nat):Int) from by omega,subI_ok (by omega) (by omega) (by omega)]
      simp only [Option.bind_some,Int.toNat_natCast]
      rw [cf_again (pb:=fun y=>decide (y.Kind=13) && decide (y.A=x.A)) (by rw [List.length_drop,List.length_take];omega) (by rw [List.length_drop,List.length_take];omega) (fun y _=>by unfold Z4t;rfl)]
      rfl
theorem to_l3 {N:Nat} {l:List api_Instr} {i:Nat} {x:api_Instr} (hl:l.length≤3000) (hi:i≤l.length):∀ (d j n:Nat),j+d=i→d < n→Z3d N Z3c l (i:Int) x n (j:Int)=some (!((l.take i).drop j).any fun y=>decide (y.Kind=13) && decide (y.A=x.A)):=by
  intro d
  induction d with
  | zero =>
    intro j n hj hn
    obtain ⟨n,rfl⟩:∃ m,n=m+1:=⟨n - 1,by omega⟩
    rw [Z3d,if_neg (by omega),List.drop_of_length_le (by rw [List.length_take];omega)]
    rfl
  | succ d ih =>
    intro j n hj hn
    obtain ⟨n,rfl⟩:∃ m,n=m+1:=⟨n - 1,by omega⟩
    have hjl:j < l.length:=by omega
    have hjt:j < (l.take i).length:=by rw [List.length_take];omega
    rw [Z3d,if_pos (by omega),getI_at rfl hjl]
    simp only [Option.bind_some]
    rw [List.drop_eq_getElem_cons hjt,List.any_cons,List.getElem_take]
    cases hb:(decide (l[j].Kind=13) && decide (l[j].A=x.A)) with
    | true=>rfl
    | false =>
      rw [if_neg (by simp),wsucc hjl (by omega),ih (j+1) n (by omega) (by omega)]
      rfl
theorem to_eq {N:Nat} {l:List api_Instr} {i:Nat} {x:api_Instr} (hl:l.length≤3000) (hN:3000 < N) (hi:l[i]? = some x):Z3a N l (i:Int)=some (toB l i x):=by
  have hil:i < l.length:=(List.getElem?_eq_some_iff.1 hi).1
  unfold Z3a toB
  rw [getI_nat,hi]
  simp only [Option.bind_some]
  by_cases h0:x.Kind=11∨x.Kind=12
  · rw [if_pos (by simpa using h0),if_pos h0]
  · rw [if_neg (by simpa using h0), if_neg h0]
    by_cases hk:x.Kind=14
    · rw [if_neg (by omega), if_pos hk]
      by_cases h:x.To < 1∨(i:Int) < x.To
      · rw [if_pos (by simp;omega),if_pos h];rfl
      · rw [if_neg (by simp; omega), if_neg h]
        obtain ⟨t,ht⟩:∃ t:Nat,x.To=(t:Int)+1:=⟨(x.To - 1).toNat,by omega⟩
        have htl:t < l.length:=by omega
        rw [w64 (by omega) (by omega),ht,show (t:Int)+1 - 1=(t:Int) from by omega,getI_nat,Int.toNat_natCast,List.getElem?_eq_getElem htl]
        simp only [Option.bind_some]
        unfold Z3b
        have hc:((decide (l[t].Kind≠13)) || (decide (l[t].A≠x.A))) = !(decide (l[t].Kind=13) && decide (l[t].A=x.A)):=by simp
        rw [hc]
        cases hb:(decide (l[t].Kind=13) && decide (l[t].A=x.A)) with
        | false=>rfl
        | true =>
          rw [if_neg (by simp),ht,show ((t:Int)+1)=((t+1:Nat):Int) from by omega,to_l3 hl (by omega) (i - (t+1)) (t+1) N (by omega) (by omega),Int.toNat_natCast]
          rfl
    · rw [if_pos hk,if_neg hk]
section
variable {k:Int} (h1:1≤k) (h2:k≤15)
include h1 h2
theorem hv114:hav k.toNat 114=decide (k=1∨k=2∨k=4):=by rcases kinds h1 h2 with rfl | rfl | rfl | rfl | rfl | rfl | rfl | rfl | rfl | rfl | rfl | rfl | rfl | rfl | rfl <;> decide
theorem hv107:hav k.toNat 107=decide (k=13∨k=14):=by rcases kinds h1 h2 with rfl | rfl | rfl | rfl | rfl | rfl | rfl | rfl | rfl | rfl | rfl | rfl | rfl | rfl | rfl <;> decide
theorem hv99:hav k.toNat 99=decide (k=2∨k=3∨k=4):=by rcases kinds h1 h2 with rfl | rfl | rfl | rfl | rfl | rfl | rfl | rfl | rfl | rfl | rfl | rfl | rfl | rfl | rfl <;> decide
theorem hv108:hav k.toNat 108=decide (k=5∨k=6):=by rcases kinds h1 h2 with rfl | rfl | rfl | rfl | rfl | rfl | rfl | rfl | rfl | rfl | rfl | rfl | rfl | rfl | rfl <;> decide
theorem hv109:hav k.toNat 109=decide (k=9∨k=10):=by rcases kinds h1 h2 with rfl | rfl | rfl | rfl | rfl | rfl | rfl | rfl | rfl | rfl | rfl | rfl | rfl | rfl | rfl <;> decide
theorem hv110:hav k.toNat 110=decide (k=13):=by rcases kinds h1 h2 with rfl | rfl | rfl | rfl | rfl | rfl | rfl | rfl | rfl | rfl | rfl | rfl | rfl | rfl | rfl <;> decide
theorem hv101:hav k.toNat 101=decide (k=1∨k=3∨k=4∨k=12∨k=15):=by rcases kinds h1 h2 with rfl | rfl | rfl | rfl | rfl | rfl | rfl | rfl | rfl | rfl | rfl | rfl | rfl | rfl | rfl <;> decide
theorem hv102:hav k.toNat 102=decide (k=4):=by rcases kinds h1 h2 with rfl | rfl | rfl | rfl | rfl | rfl | rfl | rfl | rfl | rfl | rfl | rfl | rfl | rfl | rfl <;> decide
theorem hv116:hav k.toNat 116=decide (k=11∨k=12∨k=14):=by rcases kinds h1 h2 with rfl | rfl | rfl | rfl | rfl | rfl | rfl | rfl | rfl | rfl | rfl | rfl | rfl | rfl | rfl <;> decide
end
section
variable {N:Nat} (hN:3000 < N) {x:api_Instr} (h1:1≤x.Kind) (h2:x.Kind≤15) {p:api_Code} (hl:p.L.length≤3000) {j:Nat} (hx:p.L[j]? = some x) (hE:x.E.length≤3000) (hF:x.F.length≤3000)
theorem j7_eq (q:Int→Option Bool) (c1 c2 c3 c4 c5:Bool) (hj:j < 3000):Z4j q c1 c2 c3 c4 (j:Int) c5=if (c1 && (c2 && (c3 && (c4 && c5))))=true then q ((j+1:Nat):Int) else some false:=by
  unfold Z4j
  rw [wsucc (n:=3000) hj (by decide)]
  cases c1 <;> cases c2 <;> cases c3 <;> cases c4 <;> cases c5 <;> rfl
include hN h1 h2 hl hx
theorem j6_eq (q:Int→Option Bool) (c1 c2 c3 c4:Bool):Z4i N q p x c1 c2 c3 (j:Int) c4=if (c1 && (c2 && (c3 && (c4 && toB p.L j x))))=true then q ((j+1:Nat):Int) else some false:=by
  have hjl:j < p.L.length:=(List.getElem?_eq_some_iff.1 hx).1
  unfold Z4i
  rw [lc1 (by omega) _ h1 h2,hv116 h1 h2]
  simp only [Option.bind_some]
  by_cases k14:x.Kind=14
  · rw [if_pos (by simp [k14]), again_eq hl hN hx k14]
    simp only [Option.bind_some]
    rw [j7_eq q _ _ _ _ _ (by omega)]
  · rw [if_neg (by simp [k14])]
    by_cases k11:x.Kind=11∨x.Kind=12
    · rw [if_pos (by simp; omega), j7_eq q _ _ _ _ _ (by omega)]
      unfold toB
      rw [if_pos k11]
    · rw [if_neg (by simp; omega), j7_eq q _ _ _ _ _ (by omega)]
      unfold toB
      rw [if_neg k11,if_neg k14]
include hF
theorem j5_eq (q:Int→Option Bool) (c1 c2 c3:Bool):Z4h N q p x c1 c2 (j:Int) c3=if (c1 && (c2 && (c3 && (fF x p.Regs && toB p.L j x))))=true then q ((j+1:Nat):Int) else some false:=by
  unfold Z4h fF
  rw [lc1 (by omega) _ h1 h2,hv102 h1 h2]
  simp only [Option.bind_some]
  by_cases k4:x.Kind=4
  · rw [if_pos (by simp [k4]), if_pos k4, Right_eq hF (by omega)]
    simp only [Option.bind_some]
    cases rightS x.F p.Regs with
    | true=>rw [if_pos rfl,j6_eq hN h1 h2 hl hx]
    | false=>rw [if_neg (by simp),j6_eq hN h1 h2 hl hx];simp [k4]
  · rw [if_neg (by simp [k4]), if_neg k4, j6_eq hN h1 h2 hl hx]
    simp [k4]
include hE
theorem j4_eq (q:Int→Option Bool) (c1 c2:Bool):Z4g N q p x c1 (j:Int) c2=if (c1 && (c2 && (fE x p.Regs && (fF x p.Regs && toB p.L j x))))=true then q ((j+1:Nat):Int) else some false:=by
  unfold Z4g fE
  rw [lc1 (by omega) _ h1 h2,hv101 h1 h2]
  simp only [Option.bind_some]
  by_cases k4:x.Kind=1∨x.Kind=3∨x.Kind=4∨x.Kind=12∨x.Kind=15
  · rw [if_pos (decide_eq_true k4), if_pos k4, Right_eq hE (by omega)]
    simp only [Option.bind_some]
    cases rightS x.E p.Regs with
    | true=>rw [if_pos rfl,j5_eq hN h1 h2 hl hx hF]
    | false=>rw [if_neg (by simp),j5_eq hN h1 h2 hl hx hF,decide_eq_true k4];simp
  · rw [if_neg (by rw [decide_eq_false k4]; decide), if_neg k4, j5_eq hN h1 h2 hl hx hF, decide_eq_false k4]
    simp
theorem j3_eq (q:Int→Option Bool) (p4 p5 p6:Int) (c1:Bool):Z4f N q p p4 p5 p6 x (j:Int) c1=if (c1 && (fB x p4 p5 p6 && (fE x p.Regs && (fF x p.Regs && toB p.L j x))))=true then q ((j+1:Nat):Int) else some false:=by
  unfold Z4f fB
  have wt:∀ a b:Int,Z52 N true a b=some (inB a b):=fun a b=>rfl
  rw [lc1 (by omega) _ h1 h2,hv99 h1 h2,lc1 (by omega) _ h1 h2,hv108 h1 h2,lc1 (by omega) _ h1 h2,hv109 h1 h2,lc1 (by omega) _ h1 h2,hv110 h1 h2]
  simp only [Option.bind_some,wt]
  by_cases k1:x.Kind=2∨x.Kind=3∨x.Kind=4
  · rw [if_pos (decide_eq_true k1),if_pos k1,j4_eq hN h1 h2 hl hx hE hF]
  · rw [if_neg (by rw [decide_eq_false k1]; decide), if_neg k1]
    by_cases k2:x.Kind=5∨x.Kind=6
    · rw [if_pos (decide_eq_true k2),if_pos k2,j4_eq hN h1 h2 hl hx hE hF]
    · rw [if_neg (by rw [decide_eq_false k2]; decide), if_neg k2]
      by_cases k3:x.Kind=9∨x.Kind=10
      · rw [if_pos (decide_eq_true k3),if_pos k3,j4_eq hN h1 h2 hl hx hE hF]
      · rw [if_neg (by rw [decide_eq_false k3]; decide), if_neg k3]
        by_cases k5:x.Kind=13
        · rw [if_pos (decide_eq_true k5),if_pos k5,j4_eq hN h1 h2 hl hx hE hF]
        · rw [if_neg (by rw [decide_eq_false k5];decide),if_neg k5,j4_eq hN h1 h2 hl hx hE hF]
end
theorem lstep {N:Nat} (hN:3000 < N) {q:Option Bool} {p:api_Code} {p4 p5 p6:Int} {j n:Nat} {x:api_Instr} (hl:p.L.length≤3000) (hx:p.L[j]? = some x) (hE:x.E.length≤3000) (hF:x.F.length≤3000) :
    Z4k N q p p4 p5 p6 (n+1) (j:Int)=if (fieldsB x p.Regs p.Counts p4 p5 p6 && toB p.L j x)=true then Z4k N q p p4 p5 p6 n ((j+1:Nat):Int) else some false:=by
  have hjl:j < p.L.length:=(List.getElem?_eq_some_iff.1 hx).1
  rw [Z4k,if_pos (by omega),getI_nat,hx]
  simp only [Option.bind_some]
  by_cases h:1≤x.Kind∧x.Kind≤15
  · obtain ⟨h1, h2⟩ := h
    have wt:∀ a b:Int,Z52 N true a b=some (inB a b):=fun a b=>rfl
    have wf:∀ a b:Int,Z52 N false a b=some (decide (a=0)):=fun a b=>rfl
    have hk:(decide (1≤x.Kind) && decide (x.Kind≤15))=true:=by simp;omega
    rw [if_neg (by simp;omega),lc1 (by omega) _ h1 h2,hv114 h1 h2,lc1 (by omega) _ h1 h2,hv107 h1 h2]
    unfold fieldsB fA
    rw [hk,Bool.true_and]
    simp only [Option.bind_some,wt,Bool.and_assoc]
    by_cases k1:x.Kind=13∨x.Kind=14
    · have k2 : ¬ (x.Kind = 1 ∨ x.Kind = 2 ∨ x.Kind = 4) := by omega
      rw [decide_eq_false k2,decide_eq_true k1,wf,if_pos k1]
      simp only [Option.bind_some]
      rw [if_pos trivial,j3_eq hN h1 h2 hl hx hE hF]
    · rw [decide_eq_false k1, if_neg k1]
      by_cases k2:x.Kind=1∨x.Kind=2∨x.Kind=4
      · rw [decide_eq_true k2, wt, if_pos k2]
        simp only [Option.bind_some]
        rw [if_neg (by decide),j3_eq hN h1 h2 hl hx hE hF]
      · rw [decide_eq_false k2, if_neg k2, wf]
        simp only [Option.bind_some]
        rw [if_neg (by decide),j3_eq hN h1 h2 hl hx hE hF]
  · have hk : (decide (1 ≤ x.Kind) && decide (x.Kind ≤ 15)) = false := by simp; omega
    rw [if_pos (by simp;omega)]
    unfold fieldsB
    rw [hk];rfl
theorem rstep {N:Nat} (hN:3000 < N) {q:Option Bool} {p:api_Code} {p4 p5 p6:Int} {j n:Nat} {x:api_Instr} (hl:p.L.length≤3000) (hx:p.L[j]? = some x) (hE:x.E.length≤3000) (hF:x.F.length≤3000) :
    Z2d N q p p4 p5 p6 (n+1) (j:Int)=if (fieldsB x p.Regs p.Counts p4 p5 p6 && toB p.L j x)=true then Z2d N q p p4 p5 p6 n ((j+1:Nat):Int) else some false:=by
  have hjl:j < p.L.length:=(List.getElem?_eq_some_iff.1 hx).1
  rw [Z2d,if_pos (by omega),getI_nat,hx]
  simp only [Option.bind_some]
  rw [fields_eq hN x p p4 p5 p6 hE hF]
  simp only [Option.bind_some]
  have hj:∀ b:Bool,Z28 (Z2d N q p p4 p5 p6 n) (j:Int) b=if (!b)=true then Z2d N q p p4 p5 p6 n ((j+1:Nat):Int) else some false:=by
    intro b;unfold Z28;rw [wsucc hjl (by omega)];cases b <;> rfl
  cases fieldsB x p.Regs p.Counts p4 p5 p6 with
  | false=>rw [if_neg (by decide),hj];rfl
  | true =>
    rw [if_pos rfl,to_eq hl hN hx]
    simp only [Option.bind_some]
    rw [hj];cases toB p.L j x <;> rfl
def is14 (L:List api_Instr) (j:Nat):Bool:=match L[j]? with | some y=>decide (y.Kind=14) | none=>false
def g14 (L:List api_Instr) (a j:Nat):Bool:=match L[a]?,L[j]? with | some x,some y=>!(decide (y.To - 1 < x.To - 1) && decide (x.To - 1≤(j:Int))) | _,_=>true
def okAt (L:List api_Instr) (a:Nat):Bool:=!is14 L a || ((List.range a).filter (is14 L)).all (g14 L a)
def nz (xs:List Nat):List Int:=xs.map fun (x:Nat)=>(x:Int)
def To14 (L:List api_Instr):Prop:=∀ (i:Nat) (x:api_Instr),L[i]? = some x→x.Kind=14→1≤x.To∧x.To≤(i:Int)
theorem nest5 {N:Nat} {L:List api_Instr} {k:Option Bool} {a:Nat} {x:api_Instr} (hT:To14 L) (hl:L.length≤3000) (hx:L[a]? = some x) (hk:x.Kind=14) {es:List Nat} (he:∀ j∈es,is14 L j=true) (hel:es.length≤3000):∀ (d c n:Nat),c+d=es.length→d < n→
    Z51 N k L x (nz es) n (c:Int)=if ((es.drop c).all (g14 L a))=true then k else some false:=by
  intro d
  induction d with
  | zero =>
    intro c n hc hn
    obtain ⟨n,rfl⟩:∃ m,n=m+1:=⟨n - 1,by omega⟩
    rw [Z51,if_neg (by simp [nz];omega),List.drop_of_length_le (by omega)]
    rfl
  | succ d ih =>
    intro c n hc hn
    obtain ⟨n,rfl⟩:∃ m,n=m+1:=⟨n - 1,by omega⟩
    have h1:c < es.length:=by omega
    have hg:getI (nz es) (c:Int)=some ((es[c]:Nat):Int):=by rw [getI_nat];simp [nz,h1]
    have h14:=he es[c] (List.getElem_mem h1)
    unfold is14 at h14
    cases hy:L[es[c]]? with
    | none=>rw [hy] at h14;cases h14
    | some y =>
      rw [hy] at h14
      have hyk:y.Kind=14:=of_decide_eq_true h14
      obtain ⟨t1,t2⟩:=hT _ _ hx hk
      obtain ⟨t3,t4⟩:=hT _ _ hy hyk
      have b1:a < L.length:=(List.getElem?_eq_some_iff.1 hx).1
      have b2:es[c] < L.length:=(List.getElem?_eq_some_iff.1 hy).1
      rw [Z51,if_pos (by simp [nz];omega),hg]
      simp only [Option.bind_some]
      rw [getI_nat,hy]
      simp only [Option.bind_some]
      rw [w64 (n:=y.To - 1) (by omega) (by omega),w64 (n:=x.To - 1) (by omega) (by omega),List.drop_eq_getElem_cons h1,List.all_cons]
      have e:g14 L a es[c] = !(decide (y.To - 1 < x.To - 1) && decide (x.To - 1≤((es[c]:Nat):Int))):=by unfold g14;rw [hx,hy]
      rw [e]
      cases hb:(decide (y.To - 1 < x.To - 1) && decide (x.To - 1≤((es[c]:Nat):Int))) with
      | true=>rfl
      | false=>rw [if_neg (by decide),wsucc h1 (by omega),ih (c+1) n (by omega) (by omega)];rfl
theorem nest_l2 {N:Nat} (hN:3000 < N) {L:List api_Instr} (hT:To14 L) (hl:L.length≤3000):∀ (d i n:Nat),i+d=L.length→d < n→
    Z50 N Z4x L n (nz ((List.range i).filter (is14 L))) (i:Int)=some ((List.range' i d).all (okAt L)):=by
  intro d
  induction d with
  | zero =>
    intro i n hi hn
    obtain ⟨n,rfl⟩:∃ m,n=m+1:=⟨n - 1,by omega⟩
    rw [Z50,if_neg (by omega)]
    rfl
  | succ d ih =>
    intro i n hi hn
    obtain ⟨n,rfl⟩:∃ m,n=m+1:=⟨n - 1,by omega⟩
    have h1:i < L.length:=by omega
    have hx:L[i]? = some L[i]:=List.getElem?_eq_getElem h1
    have rc:=ih (i+1) n (by omega) (by omega)
    rw [List.range_succ,List.filter_append] at rc
    rw [Z50,if_pos (by omega),getI_at rfl h1]
    simp only [Option.bind_some]
    rw [List.range'_succ,List.all_cons]
    have hfl:((List.range i).filter (is14 L)).length≤i:=by
      have:=List.length_filter_le (is14 L) (List.range i);rw [List.length_range] at this;exact this
    by_cases hk:L[i].Kind=14
    · have hi14 : is14 L i = true := by unfold is14; rw [hx]; exact decide_eq_true hk
      have ho:okAt L i=((List.range i).filter (is14 L)).all (g14 L i):=by unfold okAt;rw [hi14];rfl
      have h5:=nest5 (N:=N) (k:=Z4z (Z4y (Z50 N Z4x L n) (i:Int)) (nz ((List.range i).filter (is14 L))) (i:Int)) hT hl hx hk (es:=(List.range i).filter (is14 L)) (fun j hj=>(List.mem_filter.1 hj).2) (by omega) _ 0 N (Nat.zero_add _) (by omega)
      rw [if_neg (by omega)]
      refine Eq.trans h5 ?_
      rw [List.drop_zero,ho]
      cases hb:((List.range i).filter (is14 L)).all (g14 L i) with
      | false=>rfl
      | true =>
        rw [if_pos rfl,Z4z,appG_ok (by simp [nz];omega) (by decide)]
        simp only [Option.bind_some]
        rw [Z4y,wsucc h1 (by omega)]
        have e:nz ((List.range i).filter (is14 L)) ++ [(i:Int)]=nz ((List.range i).filter (is14 L) ++ [i].filter (is14 L)):=by simp [nz,hi14]
        rw [e,rc];rfl
    · have hi14 : is14 L i = false := by unfold is14; rw [hx]; exact decide_eq_false hk
      have ho:okAt L i=true:=by unfold okAt;rw [hi14];rfl
      rw [if_pos hk,Z4y,wsucc h1 (by omega),ho]
      have e:nz ((List.range i).filter (is14 L))=nz ((List.range i).filter (is14 L) ++ [i].filter (is14 L)):=by simp [nz,hi14]
      rw [e,rc];rfl
theorem nested_eq {N:Nat} (hN:3000 < N) {L:List api_Instr} (hT:To14 L) (hl:L.length≤3000):Z4w N L=some ((List.range' 0 L.length).all (okAt L)):=by
  unfold Z4w
  exact nest_l2 hN hT hl L.length 0 N (by omega) (by omega)
theorem r7_loop {N:Nat} {p:api_Code} {q:Option Bool} (hT:To14 p.L) (hl:p.L.length≤3000) {a:Nat} (ha:a < p.L.length):∀ (d j n:Nat),j+d=a→d < n→
    Z2f N q p (a:Int) n (j:Int)=if ((List.range' j d).all fun j=>!(is14 p.L a && is14 p.L j) || g14 p.L a j)=true then q else some false:=by
  intro d
  induction d with
  | zero =>
    intro j n hj hn
    obtain ⟨n,rfl⟩:∃ m,n=m+1:=⟨n - 1,by omega⟩
    rw [Z2f,if_neg (by omega)]
    rfl
  | succ d ih =>
    intro j n hj hn
    obtain ⟨n,rfl⟩:∃ m,n=m+1:=⟨n - 1,by omega⟩
    have h1:j < p.L.length:=by omega
    have hx:p.L[a]? = some p.L[a]:=List.getElem?_eq_getElem ha
    have hy:p.L[j]? = some p.L[j]:=List.getElem?_eq_getElem h1
    have rc:=ih (j+1) n (by omega) (by omega)
    rw [Z2f,if_pos (by omega),getI_at rfl ha]
    simp only [Option.bind_some]
    rw [getI_at rfl h1]
    simp only [Option.bind_some]
    rw [List.range'_succ,List.all_cons]
    have h9:∀ b:Bool,Z2c (Z2f N q p (a:Int) n) (j:Int) b=if (!b)=true then Z2f N q p (a:Int) n ((j+1:Nat):Int) else some false:=by
      intro b;unfold Z2c;rw [wsucc h1 (by omega)];cases b <;> rfl
    have ea:is14 p.L a=decide (p.L[a].Kind=14):=by unfold is14;rw [hx]
    have ej:is14 p.L j=decide (p.L[j].Kind=14):=by unfold is14;rw [hy]
    rw [Z2b,ea,ej]
    by_cases k:p.L[a].Kind=14∧p.L[j].Kind=14
    · obtain ⟨t1, t2⟩ := hT _ _ hx k.1
      obtain ⟨t3,t4⟩:=hT _ _ hy k.2
      have eg:g14 p.L a j = !(decide (p.L[j].To - 1 < p.L[a].To - 1) && decide (p.L[a].To - 1≤(j:Int))):=by unfold g14;rw [hx,hy]
      have hap:Z2v N (p.L[a].To - 1) (a:Int) (p.L[j].To - 1) (j:Int)=some (g14 p.L a j):=by
        unfold Z2v
        rw [eg]
        congr 1
        rw [Bool.eq_iff_iff]
        simp only [Bool.or_eq_true,Bool.and_eq_true,decide_eq_true_eq,Bool.not_eq_true',Bool.and_eq_false_iff,decide_eq_false_iff_not]
        omega
      rw [if_pos (by simp [k.1,k.2]),w64 (by omega) (by omega),w64 (by omega) (by omega),hap]
      simp only [Option.bind_some]
      rw [h9,rc,ea,decide_eq_true k.1,decide_eq_true k.2]
      cases g14 p.L a j <;> rfl
    · have hk : (decide (p.L[a].Kind = 14) && decide (p.L[j].Kind = 14)) = false := by simp; omega
      rw [hk,if_neg (by decide),h9,rc,ea]
      rfl
theorem r5_loop {N:Nat} (hN:3000 < N) {p:api_Code} (hT:To14 p.L) (hl:p.L.length≤3000):∀ (d i n:Nat),i+d=p.L.length→d < n→
    Z2e N Z29 p n (i:Int)=some ((List.range' i d).all (okAt p.L)):=by
  intro d
  induction d with
  | zero =>
    intro i n hi hn
    obtain ⟨n,rfl⟩:∃ m,n=m+1:=⟨n - 1,by omega⟩
    rw [Z2e,if_neg (by omega)]
    rfl
  | succ d ih =>
    intro i n hi hn
    obtain ⟨n,rfl⟩:∃ m,n=m+1:=⟨n - 1,by omega⟩
    have h1:i < p.L.length:=by omega
    have rc:=ih (i+1) n (by omega) (by omega)
    rw [Z2e,if_pos (by omega),List.range'_succ,List.all_cons]
    have h7:=r7_loop (N:=N) (q:=Z2a (Z2e N Z29 p n) (i:Int)) hT hl h1 i 0 N (by omega) (by omega)
    refine Eq.trans h7 ?_
    have ho:((List.range' 0 i).all fun j=>!(is14 p.L i && is14 p.L j) || g14 p.L i j)=okAt p.L i:=by
      unfold okAt
      rw [← List.range_eq_range',List.all_filter]
      cases is14 p.L i with
      | false=>simp
      | true =>
        simp only [Bool.true_and,Bool.not_true,Bool.false_or]
    rw [ho]
    cases okAt p.L i with
    | false=>rfl
    | true=>rw [if_pos rfl,Z2a,wsucc h1 (by omega),rc];rfl
def insB (p:api_Code) (p4 p5 p6:Int) (j:Nat):Bool:=match p.L[j]? with | some x=>fieldsB x p.Regs p.Counts p4 p5 p6 && toB p.L j x | none=>true
def small (p:api_Code):Prop:=p.L.length≤3000∧∀ x∈p.L,x.E.length≤3000∧x.F.length≤3000
theorem lcode_l2 {N:Nat} (hN:3000 < N) {q:Option Bool} {p:api_Code} {p4 p5 p6:Int} (hs:small p):∀ (d j n:Nat),j+d=p.L.length→d < n→
    Z4k N q p p4 p5 p6 n (j:Int)=if ((List.range' j d).all (insB p p4 p5 p6))=true then q else some false:=by
  intro d
  induction d with
  | zero =>
    intro j n hj hn
    obtain ⟨n,rfl⟩:∃ m,n=m+1:=⟨n - 1,by omega⟩
    rw [Z4k,if_neg (by omega)];rfl
  | succ d ih =>
    intro j n hj hn
    obtain ⟨n,rfl⟩:∃ m,n=m+1:=⟨n - 1,by omega⟩
    have h1:j < p.L.length:=by omega
    have hx:p.L[j]? = some p.L[j]:=List.getElem?_eq_getElem h1
    have hm:=hs.2 _ (List.getElem_mem h1)
    rw [lstep hN hs.1 hx hm.1 hm.2,ih (j+1) n (by omega) (by omega),List.range'_succ,List.all_cons]
    have:insB p p4 p5 p6 j=(fieldsB p.L[j] p.Regs p.Counts p4 p5 p6 && toB p.L j p.L[j]):=by unfold insB;rw [hx]
    rw [this]
    cases (fieldsB p.L[j] p.Regs p.Counts p4 p5 p6 && toB p.L j p.L[j]) <;> rfl
theorem rcode_l2 {N:Nat} (hN:3000 < N) {q:Option Bool} {p:api_Code} {p4 p5 p6:Int} (hs:small p):∀ (d j n:Nat),j+d=p.L.length→d < n→
    Z2d N q p p4 p5 p6 n (j:Int)=if ((List.range' j d).all (insB p p4 p5 p6))=true then q else some false:=by
  intro d
  induction d with
  | zero =>
    intro j n hj hn
    obtain ⟨n,rfl⟩:∃ m,n=m+1:=⟨n - 1,by omega⟩
    rw [Z2d,if_neg (by omega)];rfl
  | succ d ih =>
    intro j n hj hn
    obtain ⟨n,rfl⟩:∃ m,n=m+1:=⟨n - 1,by omega⟩
    have h1:j < p.L.length:=by omega
    have hx:p.L[j]? = some p.L[j]:=List.getElem?_eq_getElem h1
    have hm:=hs.2 _ (List.getElem_mem h1)
    rw [rstep hN hs.1 hx hm.1 hm.2,ih (j+1) n (by omega) (by omega),List.range'_succ,List.all_cons]
    have:insB p p4 p5 p6 j=(fieldsB p.L[j] p.Regs p.Counts p4 p5 p6 && toB p.L j p.L[j]):=by unfold insB;rw [hx]
    rw [this]
    cases (fieldsB p.L[j] p.Regs p.Counts p4 p5 p6 && toB p.L j p.L[j]) <;> rfl
theorem to14_of {p:api_Code} {p4 p5 p6:Int} (h:(List.range' 0 p.L.length).all (insB p p4 p5 p6)=true):To14 p.L:=by
  intro i x hx hk
  have hi:i < p.L.length:=(List.getElem?_eq_some_iff.1 hx).1
  have h1:=List.all_eq_true.1 h i (by rw [← List.range_eq_range'];exact List.mem_range.2 hi)
  unfold insB at h1
  rw [hx] at h1
  simp only [Bool.and_eq_true] at h1
  have h2:=h1.2
  unfold toB at h2
  rw [if_neg (by omega),if_pos hk] at h2
  by_cases hc:x.To < 1∨(i:Int) < x.To
  · rw [if_pos hc] at h2;cases h2
  · omega
def codeB (p:api_Code) (p4 p5 p6:Int):Bool:=
  !((((decide (p.Regs < 0)) || (decide (4 < p.Regs))) || (decide (p.Counts < 0))) || (decide (12 < p.Counts))) && ((List.range' 0 p.L.length).all (insB p p4 p5 p6) && (List.range' 0 p.L.length).all (okAt p.L))
theorem lCode_eq {N:Nat} (hN:3000 < N) {p:api_Code} (p4 p5 p6:Int) (hs:small p):Z4c N p p4 p5 p6=some (codeB p p4 p5 p6):=by
  unfold Z4c codeB
  have h2:=lcode_l2 hN (q:=Z4e N p) (p4:=p4) (p5:=p5) (p6:=p6) hs p.L.length 0 N (by omega) (by have:=hs.1;omega)
  rw [show ((0:Nat):Int)=0 from rfl] at h2
  rw [h2]
  cases ((((decide (p.Regs < 0)) || (decide (4 < p.Regs))) || (decide (p.Counts < 0))) || (decide (12 < p.Counts))) with
  | true=>rfl
  | false =>
    rw [if_neg (by decide)]
    cases ha:(List.range' 0 p.L.length).all (insB p p4 p5 p6) with
    | false=>rfl
    | true=>rw [if_pos rfl,Z4e,nested_eq hN (to14_of ha) hs.1];rfl
theorem rCode_eq {N:Nat} (hN:3000 < N) {p:api_Code} (p4 p5 p6:Int) (hs:small p):Z26 N p p4 p5 p6=some (codeB p p4 p5 p6):=by
  unfold Z26 codeB
  have h2:=rcode_l2 hN (q:=Z27 N p) (p4:=p4) (p5:=p5) (p6:=p6) hs p.L.length 0 N (by omega) (by have:=hs.1;omega)
  rw [show ((0:Nat):Int)=0 from rfl] at h2
  rw [h2]
  cases ((((decide (p.Regs < 0)) || (decide (4 < p.Regs))) || (decide (p.Counts < 0))) || (decide (12 < p.Counts))) with
  | true=>rfl
  | false =>
    rw [if_neg (by decide)]
    cases ha:(List.range' 0 p.L.length).all (insB p p4 p5 p6) with
    | false=>rfl
    | true =>
      have h5:=r5_loop hN (p:=p) (to14_of ha) hs.1 p.L.length 0 N (by omega) (by have:=hs.1;omega)
      rw [if_pos rfl,Z27]
      refine Eq.trans h5 ?_
      rfl
def linesB (st:Int):Nat→Int→List Int→Bool
  | _,_,[]=>true
  | j,pv,x :: r=>(decide (x=pv+1) || (decide (0 < j) && (decide ((j:Int) < st) && decide (x=pv)))) && linesB st (j+1) x r
def lnI (u:api_Unit):Int:=if 1≤u.Stays∧u.Stays≤(u.Lines.length:Int) then IntKind.i64.wrap (((u.Lines[(u.Stays - 1).toNat]?).getD 0)+1) else 0
theorem lLines_eq (N:Nat) {u:api_Unit} (hl:u.Lines.length≤3000):Z4l N u=some (lnI u):=by
  unfold Z4l lnI
  by_cases h:1≤u.Stays∧u.Stays≤(u.Lines.length:Int)
  · obtain ⟨t, ht⟩ : ∃ t : Nat, u.Stays = (t : Int) + 1 := ⟨(u.Stays - 1).toNat, by omega⟩
    rw [if_neg (by simp;omega),if_pos h,w64 (by omega) (by omega),ht,show (t:Int)+1 - 1=(t:Int) from by omega,getI_nat,Int.toNat_natCast]
    have:t < u.Lines.length:=by omega
    rw [List.getElem?_eq_getElem this];rfl
  · rw [if_pos (by simp;omega),if_neg h]
theorem rLines_eq (N:Nat) {u:api_Unit} (hl:u.Lines.length≤3000):Z2g N u=some (lnI u):=by
  unfold Z2g lnI
  by_cases h:1≤u.Stays∧u.Stays≤(u.Lines.length:Int)
  · obtain ⟨t, ht⟩ : ∃ t : Nat, u.Stays = (t : Int) + 1 := ⟨(u.Stays - 1).toNat, by omega⟩
    rw [if_pos (by simp;omega),if_pos h,w64 (by omega) (by omega),ht,show (t:Int)+1 - 1=(t:Int) from by omega,getI_nat,Int.toNat_natCast]
    have:t < u.Lines.length:=by omega
    rw [List.getElem?_eq_getElem this];rfl
  · rw [if_neg (by simp;omega),if_neg h]
def smallU (u:api_Unit):Prop:=u.Lines.length≤3000∧u.Firsts.length≤3000∧u.Threads.length≤3000∧u.Claims.length≤3000∧(∀ c∈u.Threads,small c)∧small u.Recover∧∀ c∈u.Claims,c.length≤3000
def okF (x:Int):Bool:=!((decide (x < 0)) || (decide (4294967296 < x)))
def cB (u:api_Unit) (c:api_Code):Bool:=codeB c (u.Lines.length:Int) (lnI u) u.Locks
def odd8 (u:api_Unit):Bool:=(((((((decide (20 < (u.Lines.length:Int))) || (decide (u.Stays < 0))) || (decide ((u.Lines.length:Int) < u.Stays))) || (decide ((u.Firsts.length:Int)≠(u.Lines.length:Int)))) || (decide (u.Locks < 0))) || (decide (2 < u.Locks))) || (decide ((u.Threads.length:Int) < 1))) || (decide (3 < (u.Threads.length:Int)))
def unitB (u:api_Unit):Bool:=!odd8 u && (linesB u.Stays 0 (-1) u.Lines && (u.Firsts.all okF && (u.Threads.all (cB u) && (cB u u.Recover && u.Claims.all fun c=>rightS c u.Stays))))
theorem lr_l2 {N:Nat} {q:Option Bool} {u:api_Unit} (hl:u.Lines.length≤3000):∀ (d j n:Nat) (pv:Int),j+d=u.Lines.length→d < n→-1≤pv→pv < (j:Int)→
    Z4r N q u n pv (j:Int)=if linesB u.Stays j pv (u.Lines.drop j)=true then q else some false:=by
  intro d
  induction d with
  | zero =>
    intro j n pv hj hn _ _
    obtain ⟨n,rfl⟩:∃ m,n=m+1:=⟨n - 1,by omega⟩
    rw [Z4r,if_neg (by omega),List.drop_of_length_le (by omega)];rfl
  | succ d ih =>
    intro j n pv hj hn h1 h2
    obtain ⟨n,rfl⟩:∃ m,n=m+1:=⟨n - 1,by omega⟩
    have hjl:j < u.Lines.length:=by omega
    rw [Z4r,if_pos (by omega),getI_at rfl hjl]
    simp only [Option.bind_some]
    rw [w64 (n:=pv+1) (by omega) (by omega),List.drop_eq_getElem_cons hjl,linesB]
    by_cases h:u.Lines[j]=pv+1∨(0 < j∧(j:Int) < u.Stays∧u.Lines[j]=pv)
    · have hb : (decide (u.Lines[j] = pv + 1) || (decide (0 < j) && (decide ((j : Int) < u.Stays) && decide (u.Lines[j] = pv)))) = true := by simpa using h
      rw [hb,Bool.true_and,if_neg (by simp;omega),wsucc hjl (by omega),ih (j+1) n _ (by omega) (by omega) (by omega) (by omega)]
    · have hb : (decide (u.Lines[j] = pv + 1) || (decide (0 < j) && (decide ((j : Int) < u.Stays) && decide (u.Lines[j] = pv)))) = false := by rw [Bool.eq_false_iff]; intro hh; exact h (by simpa using hh)
      rw [hb,if_pos (by simp;omega)];rfl
theorem rr_l2 {N:Nat} {q:Option Bool} {u:api_Unit} (hl:u.Lines.length≤3000) (hF:u.Firsts.length=u.Lines.length):∀ (d j n:Nat) (pv:Int),j+d=u.Lines.length→d < n→-1≤pv→pv < (j:Int)→(∀ i,j=i+1→u.Lines[i]? = some pv)→(j=0→pv = -1)→
    Z2m N q u n (j:Int)=if (linesB u.Stays j pv (u.Lines.drop j) && (u.Firsts.drop j).all okF)=true then q else some false:=by
  intro d
  induction d with
  | zero =>
    intro j n pv hj hn _ _ _ _
    obtain ⟨n,rfl⟩:∃ m,n=m+1:=⟨n - 1,by omega⟩
    rw [Z2m,if_neg (by omega),List.drop_of_length_le (by omega),List.drop_of_length_le (by omega)];rfl
  | succ d ih =>
    intro j n pv hj hn h1 h2 h3 h4
    obtain ⟨n,rfl⟩:∃ m,n=m+1:=⟨n - 1,by omega⟩
    have hjl:j < u.Lines.length:=by omega
    have hjf:j < u.Firsts.length:=by omega
    have fin:Z2j (Z2m N q u n) u (j:Int) (pv+1)=if (linesB u.Stays j pv (u.Lines.drop j) && (u.Firsts.drop (j+1)).all okF)=true then q else some false:=by
      unfold Z2j
      rw [getI_at rfl hjl]
      simp only [Option.bind_some]
      rw [w64 (n:=pv+1 - 1) (by omega) (by omega),List.drop_eq_getElem_cons hjl,linesB]
      by_cases h:u.Lines[j]=pv+1∨(0 < j∧(j:Int) < u.Stays∧u.Lines[j]=pv)
      · have hb : (decide (u.Lines[j] = pv + 1) || (decide (0 < j) && (decide ((j : Int) < u.Stays) && decide (u.Lines[j] = pv)))) = true := by simpa using h
        rw [hb,Bool.true_and,if_neg (by simp;omega),wsucc hjl (by omega),ih (j+1) n u.Lines[j] (by omega) (by omega) (by omega) (by omega) (fun i hi=>by rw [show i=j from by omega];exact List.getElem?_eq_getElem hjl) (by omega)]
      · have hb : (decide (u.Lines[j] = pv + 1) || (decide (0 < j) && (decide ((j : Int) < u.Stays) && decide (u.Lines[j] = pv)))) = false := by rw [Bool.eq_false_iff]; intro hh; exact h (by simpa using hh)
        rw [hb,if_pos (by simp;omega)];rfl
    rw [Z2m,if_pos (by omega),getI_at rfl hjf]
    simp only [Option.bind_some]
    rw [List.drop_eq_getElem_cons hjf,List.all_cons]
    have ho:okF u.Firsts[j] = !((decide (u.Firsts[j] < 0)) || (decide (4294967296 < u.Firsts[j]))):=rfl
    rw [ho]
    cases ((decide (u.Firsts[j] < 0)) || (decide (4294967296 < u.Firsts[j]))) with
    | true=>rw [if_pos rfl];simp
    | false =>
      rw [if_neg (by decide),Bool.not_false,Bool.true_and]
      by_cases h0:0 < j
      · obtain ⟨i, rfl⟩ : ∃ i, j = i + 1 := ⟨j - 1, by omega⟩
        rw [if_pos (by omega),w64 (by omega) (by omega),show (((i+1:Nat):Int) - 1)=(i:Int) from by omega,getI_nat,h3 i rfl]
        simp only [Option.bind_some]
        rw [w64 (n:=pv+1) (by omega) (by omega)]
        exact fin
      · rw [if_neg (by omega)]
        have:=h4 (by omega)
        subst this
        exact fin
theorem r5u {N:Nat} (hN:3000 < N) {q:Option Bool} {u:api_Unit} (hs:smallU u):∀ (d j n:Nat),j+d=u.Threads.length→d < n→
    Z2n N q u n (j:Int)=if (u.Threads.drop j).all (cB u)=true then q else some false:=by
  intro d
  induction d with
  | zero =>
    intro j n hj hn
    obtain ⟨n,rfl⟩:∃ m,n=m+1:=⟨n - 1,by omega⟩
    rw [Z2n,if_neg (by omega),List.drop_of_length_le (by omega)];rfl
  | succ d ih =>
    intro j n hj hn
    obtain ⟨n,rfl⟩:∃ m,n=m+1:=⟨n - 1,by omega⟩
    have hjl:j < u.Threads.length:=by omega
    rw [Z2n,if_pos (by omega),getI_at rfl hjl]
    simp only [Option.bind_some]
    rw [rLines_eq N hs.1]
    simp only [Option.bind_some]
    rw [rCode_eq hN _ _ _ (hs.2.2.2.2.1 _ (List.getElem_mem hjl)),List.drop_eq_getElem_cons hjl,List.all_cons]
    simp only [Option.bind_some]
    rw [wsucc hjl (by have:=hs.2.2.1;omega),ih (j+1) n (by omega) (by omega)]
    show _=if (codeB _ _ _ _ && _)=true then _ else _
    cases codeB u.Threads[j] (u.Lines.length:Int) (lnI u) u.Locks <;> rfl
theorem r7u {N:Nat} (hN:3000 < N) {q:Option Bool} {u:api_Unit} (hs:smallU u):∀ (d j n:Nat),j+d=u.Claims.length→d < n→
    Z2o N q u n (j:Int)=if ((u.Claims.drop j).all fun c=>rightS c u.Stays)=true then q else some false:=by
  intro d
  induction d with
  | zero =>
    intro j n hj hn
    obtain ⟨n,rfl⟩:∃ m,n=m+1:=⟨n - 1,by omega⟩
    rw [Z2o,if_neg (by omega),List.drop_of_length_le (by omega)];rfl
  | succ d ih =>
    intro j n hj hn
    obtain ⟨n,rfl⟩:∃ m,n=m+1:=⟨n - 1,by omega⟩
    have hjl:j < u.Claims.length:=by omega
    have hc:=hs.2.2.2.2.2.2 _ (List.getElem_mem hjl)
    rw [Z2o,if_pos (by omega),getI_at rfl hjl]
    simp only [Option.bind_some]
    rw [r8Right_eq hc (by omega),List.drop_eq_getElem_cons hjl,List.all_cons]
    simp only [Option.bind_some]
    rw [wsucc hjl (by have:=hs.2.2.2.1;omega),ih (j+1) n (by omega) (by omega)]
    cases rightS u.Claims[j] u.Stays <;> rfl
theorem lRight2 {N:Nat} (hN:3000 < N) {u:api_Unit} (hs:smallU u) {c:api_Code} (hc:small c):Z4o N c u=some (!cB u c):=by
  unfold Z4o cB
  rw [lLines_eq N hs.1]
  simp only [Option.bind_some]
  rw [lCode_eq hN _ _ _ hc]
  rfl
theorem any_not {α:Type} (l:List α) (f:α→Bool):(l.any fun x=>!f x) = !l.all f:=by
  induction l with
  | nil=>rfl
  | cons x r ih=>rw [List.any_cons,List.all_cons,ih];cases f x <;> simp
theorem lRight_eq {N:Nat} (hN:3000 < N) {u:api_Unit} (hs:smallU u):Z4m N u=some (unitB u):=by
  unfold Z4m unitB
  obtain ⟨s1,s2,s3,s4,s5,s6,s7⟩:=hs
  have hs:smallU u:=⟨s1,s2,s3,s4,s5,s6,s7⟩
  show (if odd8 u=true then _ else _)=_
  cases odd8 u with
  | true=>rfl
  | false =>
    have h2:=lr_l2 (N:=N) (q:=Z4q N u) s1 u.Lines.length 0 N (-1) (by omega) (by omega) (by omega) (by omega)
    rw [List.drop_zero,show ((0:Nat):Int)=0 from rfl] at h2
    rw [if_neg (by decide),h2,Bool.not_false,Bool.true_and]
    cases linesB u.Stays 0 (-1) u.Lines with
    | false=>rfl
    | true =>
      rw [if_pos rfl,Bool.true_and,Z4q,cf_int (pb:=fun x=>!okF x) s2 (by omega) (fun x _=>by unfold Z4n okF;simp),any_not]
      simp only [Option.bind_some]
      cases u.Firsts.all okF with
      | false=>rfl
      | true =>
        rw [Bool.not_true,if_neg (by decide),Bool.true_and,cf_code (pb:=fun c=>!cB u c) s3 (by omega) (fun c hc=>lRight2 hN hs (s5 c hc)),any_not]
        simp only [Option.bind_some]
        cases u.Threads.all (cB u) with
        | false=>rfl
        | true =>
          rw [Bool.not_true,if_neg (by decide),Bool.true_and,lRight2 hN hs s6]
          simp only [Option.bind_some]
          cases cB u u.Recover with
          | false=>rfl
          | true =>
            rw [Bool.not_true,if_neg (by decide),Bool.true_and,cf_claim (pb:=fun c=>!rightS c u.Stays) s4 (by omega) (fun c hc=>by unfold Z4p;rw [Right_eq (s7 c hc) (by have:=s7 c hc;omega)];rfl),any_not]
            simp
theorem rRight_eq {N:Nat} (hN:3000 < N) {u:api_Unit} (hs:smallU u):Z2h N u=some (unitB u):=by
  unfold Z2h unitB
  obtain ⟨s1,s2,s3,s4,s5,s6,s7⟩:=hs
  have hs:smallU u:=⟨s1,s2,s3,s4,s5,s6,s7⟩
  show (if odd8 u=true then _ else _)=_
  cases ho:odd8 u with
  | true=>rfl
  | false =>
    have hF:u.Firsts.length=u.Lines.length:=by
      unfold odd8 at ho
      simp only [Bool.or_eq_false_iff,decide_eq_false_iff_not] at ho
      omega
    have h2:=rr_l2 (N:=N) (q:=Z2i N u) s1 hF u.Lines.length 0 N (-1) (by omega) (by omega) (by omega) (by omega) (by intro i hi;omega) (by intro _;rfl)
    rw [List.drop_zero,List.drop_zero,show ((0:Nat):Int)=0 from rfl] at h2
    rw [if_neg (by decide),h2,Bool.not_false,Bool.true_and]
    cases linesB u.Stays 0 (-1) u.Lines with
    | false=>rfl
    | true =>
      rw [Bool.true_and]
      cases u.Firsts.all okF with
      | false=>rfl
      | true =>
        have h5:=r5u hN (q:=Z2k N u) hs u.Threads.length 0 N (by omega) (by omega)
        rw [List.drop_zero,show ((0:Nat):Int)=0 from rfl] at h5
        rw [if_pos rfl,Z2i,h5]
        cases u.Threads.all (cB u) with
        | false=>rfl
        | true =>
          have h7:=r7u hN (q:=Z2l N u) hs u.Claims.length 0 N (by omega) (by omega)
          rw [List.drop_zero,show ((0:Nat):Int)=0 from rfl] at h7
          rw [if_pos rfl,Z2k,h7,Z2l,rLines_eq N s1]
          simp only [Option.bind_some]
          rw [rCode_eq hN _ _ _ s6]
          show _=some (true && (true && (cB u u.Recover && _)))
          unfold cB
          cases codeB u.Recover (u.Lines.length:Int) (lnI u) u.Locks <;> cases (u.Claims.all fun c=>rightS c u.Stays) <;> rfl
end Go.MD.BINZ
