/- What binary.Show writes; BinaryLines. No condition: plain lemmas. -/
import Derived.Test.YtbblmeecfimnkaaGreatDoorBMA
import Derived.Test.YtbblmeecfimnkaaGreatDoorBMK
namespace Go.MD.BINZ
open Go Go.MD
theorem Jcl {u:Nat} (h:u < 10):(UInt8.ofNat (48+u)).toNat=48+u:=by rw [UInt8.toNat_ofNat'];exact Nat.mod_eq_of_lt (by omega)
theorem Tz {u:Nat}:∀ c∈Lib.decDigits u,48≤c.toNat:=by
  induction u using Nat.strongRecOn with
  | _ u ih =>
    by_cases h:u < 10
    · rw [Lib.decDigits_one h]
      intro c hc
      simp only [List.mem_singleton] at hc
      subst hc
      rw [Jcl h];omega
    · rw [Lib.decDigits, dif_neg h]
      intro c hc
      rcases List.mem_append.1 hc with hc | hc
      · exact ih (u / 10) (by omega) c hc
      · simp only [List.mem_singleton] at hc
        subst hc
        rw [Jcl (by omega)];omega
def NoL (s:Str):Prop:=∀ c∈s,c≠10
theorem NoL.app {a b:Str} (ha:NoL a) (hb:NoL b):NoL (a ++ b):=fun c hc=>by
  rcases List.mem_append.1 hc with h | h
  · exact ha c h
  · exact hb c h
theorem NoL.itoa (n:Int):NoL (Lib.itoa n):=by
  intro c hc e
  subst e
  unfold Lib.itoa at hc
  split at hc
  · rcases List.mem_cons.1 hc with h | h
    · exact absurd h (by decide)
    · exact absurd (Tz _ h) (by decide)
  · exact absurd (Tz _ hc) (by decide)
def Gt (o:api_Op):Str:=if o.Kind=1 then [35] ++ Lib.itoa o.N else if o.Kind=2 then [114] ++ Lib.itoa o.N else [58] ++ Lib.itoa o.Kind
theorem Po {o:api_Op} (h:Ha o):NoL (Gt o)∧(Gt o).length≤22:=by
  have h1:=Kh h.1
  have h2:=Kh h.2
  unfold Gt
  split
  · exact ⟨NoL.app (by intro c;simp;rintro rfl;decide) (NoL.itoa _),by simp;omega⟩
  · split
    · exact ⟨NoL.app (by intro c;simp;rintro rfl;decide) (NoL.itoa _),by simp;omega⟩
    · exact ⟨NoL.app (by intro c;simp;rintro rfl;decide) (NoL.itoa _),by simp;omega⟩
def Jaq (l:List api_Op):Str:=if l=[] then [] else [32,91] ++ Gu [32] (l.map Gt) ++ [93]
theorem Tx:∀ {l:List api_Op},(∀ o∈l,Ha o)→NoL (Gu [32] (l.map Gt))∧(Gu [32] (l.map Gt)).length≤23 * l.length
  | [],_=>⟨(fun _ h=>nomatch h),by simp [Gu]⟩
  | [x], h => by
    have:=Po (h x (by simp))
    exact ⟨this.1,by simp only [List.map_cons,List.map_nil,Gu,List.length_cons,List.length_nil];omega⟩
  | x :: y :: r, h => by
    have h1:=Po (h x (by simp))
    have h2:=Tx (l:=y :: r) (fun o ho=>h o (List.mem_cons_of_mem _ ho))
    simp only [List.map_cons,Gu] at h2 ⊢
    refine ⟨NoL.app (NoL.app h1.1 (by intro c;simp;rintro rfl;decide)) h2.1,?_⟩
    simp only [List.length_append,List.length_cons,List.length_nil] at h2 ⊢
    omega
theorem O8 (N:Nat) {n:Int} (h:InR n):Za5 N n=some (Lib.itoa n):=by
  unfold Za5;rw [Xd h.1 h.2];rfl
theorem Jau {N:Nat} {l:List api_Op} (hl:l.length≤100000) (ho:∀ o∈l,Ha o):∀ (b a:List api_Op) (k:Nat),a ++ b=l→b.length < k→Z12 N Z10 l k (a.map Gt) ((a.length:Nat):Int)=Z10 (l.map Gt):=by
  intro b
  induction b with
  | nil =>
    intro a k ha hk
    obtain ⟨k,rfl⟩:∃ q,k=q+1:=⟨k - 1,by omega⟩
    rw [List.append_nil] at ha
    subst ha
    rw [Z12,if_neg (by omega)]
  | cons x b ih =>
    intro a k ha hk
    obtain ⟨k,rfl⟩:∃ q,k=q+1:=⟨k - 1,by omega⟩
    have hla:a.length < l.length:=by rw [← ha];simp
    have hge:getI l ((a.length:Nat):Int)=some x:=by rw [Cl,← ha];simp
    have hx:Ha x:=ho x (by rw [← ha];simp)
    have h1:=Kh hx.1
    have h2:=Kh hx.2
    have rc:=ih (a ++ [x]) k (by rw [← ha];simp) (by simpa using hk)
    rw [List.map_append,List.length_append] at rc
    simp only [List.map_cons,List.map_nil,List.length_cons,List.length_nil,Nat.zero_add] at rc
    rw [Z12,if_pos (by omega),hge]
    simp only [Option.bind_some]
    have fin:∀ s:Str,Gt x=s→((B9 16 (a.map Gt) ([s]:List Str)).bind fun l49=>(Z11 (Z12 N Z10 l k) ((a.length:Nat):Int)) l49)=Z10 (l.map Gt):=by
      intro s hs
      rw [Az (by simp;omega) (by decide)]
      simp only [Option.bind_some]
      rw [Z11,Bd hla (by omega),← hs]
      exact rc
    by_cases c1:x.Kind=1
    · rw [if_pos c1, O8 N hx.2]
      simp only [Option.bind_some]
      rw [Ik (by simp;omega)]
      simp only [Option.bind_some]
      exact fin _ (by unfold Gt;rw [if_pos c1])
    · rw [if_neg c1]
      by_cases c2:x.Kind=2
      · rw [if_pos c2, O8 N hx.2]
        simp only [Option.bind_some]
        rw [Ik (by simp;omega)]
        simp only [Option.bind_some]
        exact fin _ (by unfold Gt;rw [if_neg c1,if_pos c2])
      · rw [if_neg c2, O8 N hx.1]
        simp only [Option.bind_some]
        rw [Ik (by simp;omega)]
        simp only [Option.bind_some]
        exact fin _ (by unfold Gt;rw [if_neg c1,if_neg c2])
theorem Gd {N:Nat} {l:List api_Op} (hl:l.length≤100000) (hN:l.length < N) (ho:∀ o∈l,Ha o):Zz N l=some (Jaq l):=by
  unfold Zz Jaq
  by_cases h:l=[]
  · subst h;rfl
  · have h0 : 0 < l.length := List.length_pos_iff.2 h
    have hj:=Tx ho
    have:=Jau (N:=N) hl ho l [] N rfl hN
    rw [if_neg (by omega),if_neg h]
    rw [show (0:Int)=((([]:List api_Op).length:Nat):Int) from rfl]
    refine Eq.trans this ?_
    rw [Z10,Q9,if_pos ⟨by simp;omega,by omega⟩]
    simp only [Option.bind_some]
    rw [Ik (by simp;omega)]
    simp only [Option.bind_some]
    rw [Ik (by simp;omega)]
    rfl
end Go.MD.BINZ
