/- What binary.Show writes; BinaryLines. No condition: plain lemmas. -/
import Derived.Test.YtbblmeecfimnkaaGreatDoorBMA
import Derived.Test.YtbblmeecfimnkaaGreatDoorBMK
namespace Go.MD.BINZ
open Go Go.MD
theorem Jdn {u:Nat} (h:u < 10):(UInt8.ofNat (48+u)).toNat=48+u:=by rw [UInt8.toNat_ofNat'];exact Nat.mod_eq_of_lt (by omega)
theorem Tz {u:Nat}:∀ c∈Lib.decDigits u,48≤c.toNat:=by
  induction u using Nat.strongRecOn with
  | _ u ih =>
    by_cases h:u < 10
    · rw [Lib.decDigits_one h]
      intro c hc
      simp only [List.mem_singleton] at hc
      subst hc
      rw [Jdn h];omega
    · rw [Lib.decDigits, dif_neg h]
      intro c hc
      rcases List.mem_append.1 hc with hc | hc
      · exact ih (u / 10) (by omega) c hc
      · simp only [List.mem_singleton] at hc
        subst hc
        rw [Jdn (by omega)];omega
def NoL (s:Str):Prop:=∀ c∈s,c≠10
theorem NoL.app {a b:Str} (ha:NoL a) (hb:NoL b):NoL (a ++ b):=fun c hc=>by
  rcases List.mem_append.1 hc with h | h
  · exact ha c h
  · exact hb c h
theorem NoL.itoa (n:Int):NoL (Lib.itoa n):=by
  intro c hc e
  subst e
  unfold Lib.itoa at hc
  split at hc
  · rcases List.mem_cons.1 hc with h | h
    · exact absurd h (by decide)
    · exact absurd (Tz _ h) (by decide)
  · exact absurd (Tz _ hc) (by decide)
def Gl (o:api_Op):Str:=if o.Kind=1 then [35] ++ Lib.itoa o.N else if o.Kind=2 then [114] ++ Lib.itoa o.N else [58] ++ Lib.itoa o.Kind
theorem Qg {o:api_Op} (h:Hd o):NoL (Gl o)∧(Gl o).length≤22:=by
  have h1:=Jw h.1
  have h2:=Jw h.2
  unfold Gl
  split
  · exact ⟨NoL.app (by intro c;simp;rintro rfl;decide) (NoL.itoa _),by simp;omega⟩
  · split
    · exact ⟨NoL.app (by intro c;simp;rintro rfl;decide) (NoL.itoa _),by simp;omega⟩
    · exact ⟨NoL.app (by intro c;simp;rintro rfl;decide) (NoL.itoa _),by simp;omega⟩
def Yq (l:List api_Op):Str:=if l=[] then [] else [32,91] ++ Gm [32] (l.map Gl) ++ [93]
theorem Ty:∀ {l:List api_Op},(∀ o∈l,Hd o)→NoL (Gm [32] (l.map Gl))∧(Gm [32] (l.map Gl)).length≤23 * l.length
  | [],_=>⟨(fun _ h=>nomatch h),by simp [Gm]⟩
  | [x], h => by
    have:=Qg (h x (by simp))
    exact ⟨this.1,by simp only [List.map_cons,List.map_nil,Gm,List.length_cons,List.length_nil];omega⟩
  | x :: y :: r, h => by
    have h1:=Qg (h x (by simp))
    have h2:=Ty (l:=y :: r) (fun o ho=>h o (List.mem_cons_of_mem _ ho))
    simp only [List.map_cons,Gm] at h2 ⊢
    refine ⟨NoL.app (NoL.app h1.1 (by intro c;simp;rintro rfl;decide)) h2.1,?_⟩
    simp only [List.length_append,List.length_cons,List.length_nil] at h2 ⊢
    omega
theorem Oj (N:Nat) {n:Int} (h:InR n):Za7 N n=some (Lib.itoa n):=by
  unfold Za7;rw [Jag h.1 h.2];rfl
theorem X9 {N:Nat} {l:List api_Op} (hl:l.length≤100000) (ho:∀ o∈l,Hd o):∀ (b a:List api_Op) (k:Nat),a ++ b=l→b.length < k→Z12 N Z10 l k (a.map Gl) ((a.length:Nat):Int)=Z10 (l.map Gl):=by
  intro b
  induction b with
  | nil =>
    intro a k ha hk
    obtain ⟨k,rfl⟩:∃ q,k=q+1:=⟨k - 1,by omega⟩
    rw [List.append_nil] at ha
    subst ha
    rw [Z12,if_neg (by omega)]
  | cons x b ih =>
    intro a k ha hk
    obtain ⟨k,rfl⟩:∃ q,k=q+1:=⟨k - 1,by omega⟩
    have hla:a.length < l.length:=by rw [← ha];simp
    have hge:getI l ((a.length:Nat):Int)=some x:=by rw [Ck,← ha];simp
    have hx:Hd x:=ho x (by rw [← ha];simp)
    have h1:=Jw hx.1
    have h2:=Jw hx.2
    have rc:=ih (a ++ [x]) k (by rw [← ha];simp) (by simpa using hk)
    rw [List.map_append,List.length_append] at rc
    simp only [List.map_cons,List.map_nil,List.length_cons,List.length_nil,Nat.zero_add] at rc
    rw [Z12,if_pos (by omega),hge]
    simp only [Option.bind_some]
    have fin:∀ s:Str,Gl x=s→((B9 16 (a.map Gl) ([s]:List Str)).bind fun l49=>(Z11 (Z12 N Z10 l k) ((a.length:Nat):Int)) l49)=Z10 (l.map Gl):=by
      intro s hs
      rw [Az (by simp;omega) (by decide)]
      simp only [Option.bind_some]
      rw [Z11,Bd hla (by omega),← hs]
      exact rc
    by_cases c1:x.Kind=1
    · rw [if_pos c1, Oj N hx.2]
      simp only [Option.bind_some]
      rw [Jo (by simp;omega)]
      simp only [Option.bind_some]
      exact fin _ (by unfold Gl;rw [if_pos c1])
    · rw [if_neg c1]
      by_cases c2:x.Kind=2
      · rw [if_pos c2, Oj N hx.2]
        simp only [Option.bind_some]
        rw [Jo (by simp;omega)]
        simp only [Option.bind_some]
        exact fin _ (by unfold Gl;rw [if_neg c1,if_pos c2])
      · rw [if_neg c2, Oj N hx.1]
        simp only [Option.bind_some]
        rw [Jo (by simp;omega)]
        simp only [Option.bind_some]
        exact fin _ (by unfold Gl;rw [if_neg c1,if_neg c2])
theorem Ga {N:Nat} {l:List api_Op} (hl:l.length≤100000) (hN:l.length < N) (ho:∀ o∈l,Hd o):Zz N l=some (Yq l):=by
  unfold Zz Yq
  by_cases h:l=[]
  · subst h;rfl
  · have h0 : 0 < l.length := List.length_pos_iff.2 h
    have hj:=Ty ho
    have:=X9 (N:=N) hl ho l [] N rfl hN
    rw [if_neg (by omega),if_neg h]
    rw [show (0:Int)=((([]:List api_Op).length:Nat):Int) from rfl]
    refine Eq.trans this ?_
    rw [Z10,Rp,if_pos ⟨by simp;omega,by omega⟩]
    simp only [Option.bind_some]
    rw [Jo (by simp;omega)]
    simp only [Option.bind_some]
    rw [Jo (by simp;omega)]
    rfl
end Go.MD.BINZ
