/- LegalNames: the plain law. No condition: plain lemmas. -/
import Derived.Test.YtgdkaddhhpgeiaaGreatDoorLCA
namespace Go.MD.LB
open Go Go.MD
theorem idx_at:∀ {l:List Str},l.Nodup→∀ {i:Nat} (hi:i < l.length) (k:Nat),idxS l (l[i]'hi) k=((k+i:Nat):Int)
  | x :: r,h,0,hi,k=>by simp [idxS]
  | x :: r, h, i + 1, hi, k => by
    have h2:=List.nodup_cons.1 h
    have hi':i < r.length:=by simpa using hi
    rw [List.getElem_cons_succ,idxS,if_neg (fun q=>h2.1 (by rw [q];exact List.getElem_mem hi')),idx_at h2.2 hi' (k+1)]
    omega
theorem idx_no {l:List Str} {s:Str} (h:s ∉ l):∀ k:Nat,idxS l s k = -1:=by
  induction l with
  | nil=>intro k;rfl
  | cons x r ih =>
    intro k
    rw [List.mem_cons,not_or] at h
    rw [idxS,if_neg (fun q=>h.1 q.symm),ih h.2]
theorem idx_in {l:List Str} {s:Str} (h:s∈l):0≤idxS l s 0∧idxS l s 0 < (l.length:Int):=by
  have:=(idxS_nonneg l s 0).2 h
  omega
theorem idx_fst {a b:List Str} {s:Str} (h:s∈a):0≤idxS (a ++ b) s 0∧idxS (a ++ b) s 0 < (a.length:Int):=by
  rw [idxS_app,if_pos h];exact idx_in h
theorem LN_cells {p:api_Prog} (hp:SmallP p) (h:OKP p) (k:Option Bool):∀ (d j n:Nat),j+d=(flatC p).length→d < n→
    Z1d 1001 k p ((flatC p).map (·.Name)) (p.Locks.map (·.Name)) n (j:Int)=k:=by
  intro d
  have hC:=flatC_le hp
  have hK:=hp.locks
  have hnd:=h.nodup
  rw [← flat_names] at hnd
  have hn1:=(List.nodup_append.1 hnd).1
  have hn2:=(List.nodup_append.1 hnd).2.2
  induction d with
  | zero =>
    intro j n hj hn
    obtain ⟨n,rfl⟩:∃ m,n=m+1:=⟨n - 1,by omega⟩
    rw [Z1d,if_neg (by rw [List.length_map];omega)]
  | succ d ih =>
    intro j n hj hn
    obtain ⟨n,rfl⟩:∃ m,n=m+1:=⟨n - 1,by omega⟩
    have h1:j < ((flatC p).map (·.Name)).length:=by rw [List.length_map];omega
    have hno:((flatC p).map (·.Name))[j] ∉ p.Locks.map (·.Name):=fun q=>hn2 _ (List.getElem_mem h1) _ (List.mem_append_left _ q) rfl
    rw [Z1d,if_pos (by rw [List.length_map];omega),getI_at rfl h1]
    simp only [Option.bind_some]
    rw [PlaceL_eq (by rw [List.length_map];omega),idx_at hn1 h1 0]
    simp only [Option.bind_some]
    rw [if_neg (by rw [Nat.zero_add];exact fun q=>q rfl),PlaceL_eq (by rw [List.length_map];omega),idx_no hno]
    simp only [Option.bind_some]
    rw [if_neg (fun q=>q rfl),Line_in hp (by omega)]
    simp only [Option.bind_some]
    rw [Z18,sure_ok (by simp only [Bool.not_eq_true',decide_eq_false_iff_not];omega)]
    simp only [Option.bind_some]
    rw [wsucc (n:=1001) (by omega) (by decide)]
    exact ih (j+1) n (by omega) (by omega)
theorem LN_body {p:api_Prog} (hp:SmallP p) (h:OKP p) {i:Nat} (hi:i < p.Threads.length) (k:Option Bool):∀ (d j n:Nat),j+d=p.Threads[i].Body.length→d < n→
    Z1f 1001 k p ((flatC p).map (·.Name)) (p.Locks.map (·.Name)) (i:Int) n (j:Int)=k:=by
  intro d
  have hC:=flatC_le hp
  have hK:=hp.locks
  have hs:=hp.thread _ (List.getElem_mem hi)
  have ht:p.Threads[i]∈allT p:=List.mem_append_left _ (List.getElem_mem hi)
  have hB:=hs.body
  have hR:=hs.regs
  induction d with
  | zero =>
    intro j n hj hn
    obtain ⟨n,rfl⟩:∃ m,n=m+1:=⟨n - 1,by omega⟩
    rw [Z1f,getI_at rfl hi]
    simp only [Option.bind_some]
    rw [if_neg (by omega)]
  | succ d ih =>
    intro j n hj hn
    obtain ⟨n,rfl⟩:∃ m,n=m+1:=⟨n - 1,by omega⟩
    have h1:j < p.Threads[i].Body.length:=by omega
    have hx:=h.fits ht _ (List.getElem_mem h1)
    have hb:=h.names _ ht _ (List.getElem_mem h1)
    obtain ⟨u1,u2,u3⟩:=use_kind (h.apt ht) hx hb
    have u4:=((badS_none (h.apt ht) hx).1 hb).1
    rw [Z1f,getI_at rfl hi]
    simp only [Option.bind_some]
    rw [if_pos (by omega),getI_at rfl h1]
    simp only [Option.bind_some]
    generalize p.Threads[i].Body[j]=x at hx hb u1 u2 u3 u4
    rw [PlaceL_eq (by rw [List.length_map];omega),flat_names]
    simp only [Option.bind_some]
    have fin:Z1b 1001 (Z1f 1001 k p (A1 p ++ A2 p) (p.Locks.map (·.Name)) (i:Int) n) (j:Int) p.Threads[i] x=k:=by
      have go:Z17 (Z1f 1001 k p (A1 p ++ A2 p) (p.Locks.map (·.Name)) (i:Int) n) (j:Int) false=k:=by
        rw [Z17,sure_ok (by decide)]
        simp only [Option.bind_some]
        rw [wsucc (n:=1001) (by omega) (by decide),← flat_names]
        exact ih (j+1) n (by omega) (by omega)
      rw [Z1b]
      by_cases hr:x.Reg=[]
      · rw [if_neg (fun q=>q hr),go]
      · rw [if_pos hr, PlaceL_eq (by omega)]
        simp only [Option.bind_some]
        rw [decide_eq_false (by have:=idx_in (u4.resolve_left hr);omega),go]
    generalize Z1b 1001 (Z1f 1001 k p (A1 p ++ A2 p) (p.Locks.map (·.Name)) (i:Int) n) (j:Int) p.Threads[i] x=k8 at fin
    subst fin
    by_cases a:x.Kind=2∨x.Kind=3∨x.Kind=4
    · have hm := idx_in (u1 a)
      have hj9:Z1c 1001 k8 p (p.Locks.map (·.Name)) x (idxS (A1 p ++ A2 p) x.Name 0) true=k8:=by
        rw [Z1c,if_pos rfl,sure_ok (by simp only [Bool.not_eq_true',decide_eq_false_iff_not];omega)];rfl
      rcases a with a | a | a
      · rw [if_pos a,decide_eq_true a,hj9]
      · rw [if_neg (by omega),if_pos a,decide_eq_true a,hj9]
      · rw [if_neg (by omega),if_neg (by omega),decide_eq_true a,hj9]
    · rw [if_neg (by omega), if_neg (by omega), decide_eq_false (by omega), Z1c, if_neg (by decide)]
      by_cases b:x.Kind=5∨x.Kind=6
      · have hm := idx_fst (b := A2 p) (u2 b)
        have hj10:Z14 1001 k8 p (p.Locks.map (·.Name)) x (idxS (A1 p ++ A2 p) x.Name 0) true=k8:=by
          rw [Z14,if_pos rfl,if_neg (by omega),Stays_eq hp]
          simp only [Option.bind_some]
          rw [Z15,sure_ok (by
            have:(A1 p).length=p.Lines.flatten.length:=by simp only [A1,List.length_map]
            simp only [Bool.not_eq_true',decide_eq_false_iff_not];omega)];rfl
        rcases b with b | b
        · rw [if_pos b,decide_eq_true b,hj10]
        · rw [if_neg (by omega),decide_eq_true b,hj10]
      · rw [if_neg (by omega), decide_eq_false (by omega), Z14, if_neg (by decide)]
        by_cases c:x.Kind=9∨x.Kind=10
        · have hm := idx_in (u3 c)
          have hj12:Z16 1001 k8 (p.Locks.map (·.Name)) x true=k8:=by
            rw [Z16,if_pos rfl,PlaceL_eq (by rw [List.length_map];omega)]
            simp only [Option.bind_some]
            rw [sure_ok (by
              have:K1 p=p.Locks.map (·.Name):=rfl
              rw [this] at hm
              simp only [Bool.not_eq_true',decide_eq_false_iff_not];omega)];rfl
          rcases c with c | c
          · rw [if_pos c,decide_eq_true c,hj12]
          · rw [if_neg (by omega),decide_eq_true c,hj12]
        · rw [if_neg (by omega),decide_eq_false (by omega),Z16,if_neg (by decide)]
theorem LN_threads {p:api_Prog} (hp:SmallP p) (h:OKP p) (k:Option Bool):∀ (d j n:Nat),j+d=p.Threads.length→d < n→
    Z1e 1001 k p ((flatC p).map (·.Name)) (p.Locks.map (·.Name)) n (j:Int)=k:=by
  intro d
  have hT:=hp.threads
  induction d with
  | zero =>
    intro j n hj hn
    obtain ⟨n,rfl⟩:∃ m,n=m+1:=⟨n - 1,by omega⟩
    rw [Z1e,if_neg (by omega)]
  | succ d ih =>
    intro j n hj hn
    obtain ⟨n,rfl⟩:∃ m,n=m+1:=⟨n - 1,by omega⟩
    have h1:j < p.Threads.length:=by omega
    have hB:=(hp.thread _ (List.getElem_mem h1)).body
    rw [Z1e,if_pos (by omega),show (0:Int)=((0:Nat):Int) from rfl,LN_body hp h h1 _ p.Threads[j].Body.length 0 1001 (by omega) (by omega),Z1a,wsucc h1 (by omega),ih (j+1) n (by omega) (by omega)]
theorem LegalNames_eq (p1:api_Prog):Z12 1001 p1=some true:=by
  unfold Z12
  obtain ⟨p,hq,hp⟩:=CutP p1
  have hC:=flatC_le hp
  have hT:=hp.threads
  obtain ⟨⟨r1,r2⟩,hr⟩:=checkS_some (p:=p)
  rw [hq]
  simp only [Option.bind_some]
  rw [Check_eq hp,hr]
  simp only [Option.bind_some]
  by_cases h0:r1=0
  · subst h0
    have h:=(checkS_ok.1 hr).1
    rw [if_neg (fun q=>q rfl),Cells_eq hp,Locks_eq hp]
    simp only [Option.bind_some]
    rw [show (0:Int)=((0:Nat):Int) from rfl,LN_cells hp h _ (flatC p).length 0 1001 (by omega) (by omega),Z13,show (0:Int)=((0:Nat):Int) from rfl,LN_threads hp h _ p.Threads.length 0 1001 (by omega) (by omega),Z19,Firsts_eq hp]
    simp only [Option.bind_some]
    rw [if_pos (by simp only [List.length_map])]
    exact fix_b6
  · rw [if_pos h0]
    exact fix_b6
end Go.MD.LB
