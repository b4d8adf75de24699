/- LegalAdds: the plain law. No condition: plain lemmas. -/
import Derived.Test.YtgdkaddhhpgeiaaGreatDoorLCB
namespace Go.MD.LB
open Go Go.MD
def zC:api_Cell:=api_Cell.mk [122,122,122] 9 0
def Cr (p:api_Prog):api_Prog:=api_Prog.mk p.Lines (p.Vols ++ [zC]) p.Locks p.Threads p.Recover p.Claims
theorem Rh:∀ (l:List (Str×Int)) (seen:List Str),(l.map (·.1)).Nodup→(∀ e∈l,e.1 ∉ seen)→Ef l seen=none
  | [],_,_,_=>rfl
  | e :: l, seen, h, hs => by
    rw [List.map_cons] at h
    have h2:=List.nodup_cons.1 h
    rw [Ef,if_neg (hs e (.head _))]
    refine Rh l _ h2.2 fun x hx q=>?_
    rcases List.mem_append.1 q with q | q
    · exact hs x (.tail _ hx) q
    · rw [List.mem_singleton] at q
      exact h2.1 (by rw [← q];exact List.mem_map.2 ⟨x,hx,rfl⟩)
theorem Rm:∀ (l K:List Str),l.Nodup→(∀ s∈l,s ∉ K)→Fw K l=false
  | [],_,_,_=>rfl
  | x :: l, K, h, hs => by
    have h2:=List.nodup_cons.1 h
    rw [Fw,if_neg (hs x (.head _))]
    refine Rm l _ h2.2 fun s hx q=>?_
    rcases List.mem_append.1 q with q | q
    · exact hs s (.tail _ hx) q
    · rw [List.mem_singleton] at q
      exact h2.1 (by rw [← q];exact hx)
theorem Kx:∀ (l K:List Str),Fw K l=false→l.Nodup
  | [],_,_=>List.nodup_nil
  | x :: l, K, h => by
    rw [Fw] at h
    split at h
    · cases h
    · refine List.nodup_cons.2 ⟨fun q => ?_, Kx l _ h⟩
      exact Ii l _ h x q (by simp)
theorem Uy {p:api_Prog} (h:Lo p=false):p.Vols.length≤4:=by
  unfold Lo at h
  simp only [Bool.or_eq_false_iff,decide_eq_false_iff_not] at h
  omega
theorem Qu {p:api_Prog} (hp:SmallP p) (hv:p.Vols.length≤4):SmallP (Cr p):=
  ⟨hp.lines,hp.line,by simp only [Cr,List.length_append,List.length_singleton];omega,hp.locks,hp.threads,hp.thread,hp.recover,hp.recov,hp.claims,hp.claim⟩
theorem Rk {p:api_Prog} (h:PB p):PB (Cr p):=by
  refine ⟨h.line,fun c hc=>?_,h.locks,h.recover,h.named,h.unnamed,h.claims⟩
  rcases List.mem_append.1 hc with hc | hc
  · exact h.vols c hc
  · rw [List.mem_singleton] at hc;rw [hc];decide
theorem Oq {p:api_Prog} (h:Lo p=false):Lo (Cr p)=decide (p.Vols.length=4):=by
  have h':=h
  unfold Lo at h' ⊢
  simp only [Bool.or_eq_false_iff,decide_eq_false_iff_not] at h'
  rw [show (Cr p).Lines=p.Lines from rfl,show Cx (Cr p)=Cx p from rfl,h'.1,Bool.false_or]
  refine decide_eq_decide.2 ?_
  simp only [Cr,List.length_append,List.length_singleton]
  omega
theorem Jv (p:api_Prog):A2 (Cr p)=A2 p ++ [[122,122,122]]:=by simp [A2,Cr,zC]
theorem Jd (p:api_Prog):Cb (Cr p)=Cb p ++ [zC]:=by simp [Cb,Cr]
theorem Vu {p:api_Prog} (h:OKP p) (hv:p.Vols.length≠4) (hz:[122,122,122] ∉ (A1 p ++ A2 p) ++ K1 p) (ht:∀ t∈p.Threads,t.Name≠[122,122,122]) (hr:∀ t∈Cx p,[122,122,122] ∉ t.Regs):OKP (Cr p):=by
  have hnd:=h.nodup
  have hd:Ef (Dx (Cr p)) []=none:=by
    refine Rh _ _ ?_ (fun _ _ q=>nomatch q)
    rw [Kv,Jv,show A1 (Cr p)=A1 p from rfl,show K1 (Cr p)=K1 p from rfl,show (Cr p).Threads=p.Threads from rfl]
    rw [← List.append_assoc (A1 p) (A2 p)]
    obtain ⟨n1,n2,n3⟩:=List.nodup_append.1 hnd
    have hz1:[122,122,122] ∉ A1 p ++ A2 p:=fun q=>hz (List.mem_append_left _ q)
    have hz2:[122,122,122] ∉ K1 p ++ p.Threads.map (·.Name):=by
      intro q
      rcases List.mem_append.1 q with q | q
      · exact hz (List.mem_append_right _ q)
      · obtain ⟨t, h1, h2⟩ := List.mem_map.1 q
        exact ht t h1 h2
    refine List.nodup_append.2 ⟨List.nodup_append.2 ⟨n1,by simp,fun a ha b hb q=>?_⟩,n2,fun a ha b hb q=>?_⟩
    · rw [List.mem_singleton] at hb;subst hb;subst q;exact hz1 ha
    · rcases List.mem_append.1 ha with ha | ha
      · exact n3 a ha b hb q
      · rw [List.mem_singleton] at ha;subst ha;subst q;exact hz2 hb
  have hR:∀ t∈Cx p,Fw (Fu (Cr p)) t.Regs=false:=by
    intro t h1
    refine Rm _ _ (Kx _ _ (h.regs t h1)) fun s hs q=>?_
    have:=Ii _ _ (h.regs t h1) s hs
    rw [Kj,Dc,not_or] at this
    rw [Kj,Dc,Jv,show A1 (Cr p)=A1 p from rfl,← List.append_assoc] at q
    rcases q with q | q
    · rcases List.mem_append.1 q with q | q
      · exact this.1 q
      · rw [List.mem_singleton] at q;subst q;exact hr t h1 hs
    · exact this.2 q
  refine ⟨Rk h.pb,by rw [Oq h.big,decide_eq_false hv],h.wild,hd,hR,fun t h1 x hx=>?_,h.claims⟩
  have hf:=h.fits h1 x hx
  obtain ⟨a1,a2,a3,a4⟩:=(Mc (h.apt h1) hf).1 (h.names t h1 x hx)
  refine (Mc (Ub hd (hR t h1)) hf).2 ⟨a1,?_,a3,a4⟩
  rcases a2 with a2 | a2
  · exact .inl a2
  · refine .inr ?_
    have hne:x.Name≠[122,122,122]:=by
      intro q
      rw [q] at a2
      have w0:Gj p t.Regs [122,122,122]=0:=by
        unfold Gj
        rw [if_neg (fun q=>hz (List.mem_append_left _ (List.mem_append_left _ q))),if_neg (fun q=>hz (List.mem_append_left _ (List.mem_append_right _ q))),if_neg (fun q=>hz (List.mem_append_right _ q)),if_neg (hr t h1)]
      rw [w0] at a2
      unfold Hy at a2
      split at a2
      · simp at a2
      · split at a2 <;> simp at a2
    have e:Gj (Cr p) t.Regs x.Name=Gj p t.Regs x.Name:=by
      unfold Gj
      rw [Jv,show A1 (Cr p)=A1 p from rfl,show K1 (Cr p)=K1 p from rfl]
      simp only [List.mem_append,List.mem_singleton,hne,or_false]
    rw [e];exact a2
theorem Vq {p:api_Prog} (h:OKP (Cr p)):(∀ t∈p.Threads,t.Name≠[122,122,122])∧∀ t∈Cx p,[122,122,122] ∉ t.Regs:=by
  have hnd:=h.nodup
  have hm:([122,122,122]:Str)∈A1 (Cr p) ++ A2 (Cr p):=by rw [Jv];simp
  refine ⟨fun t ht q=>?_,fun t ht q=>?_⟩
  · obtain ⟨_, _, n3⟩ := List.nodup_append.1 hnd
    exact n3 _ hm _ (List.mem_append_right _ (List.mem_map.2 ⟨t,ht,q⟩)) rfl
  · exact ((h.apt (t:=t) ht).regs _ q).1 hm
theorem Qw {p:api_Prog} (hp:SmallP p) (r:Int×Int) (k:Option Bool) (hb:∀ t∈p.Threads,(t.Name=[122,122,122]∨[122,122,122]∈t.Regs)→r.1≠0):∀ (d j n:Nat),j+d=p.Threads.length→d < n→
    ((∀ t∈p.Threads.drop j,t.Name≠[122,122,122]∧[122,122,122] ∉ t.Regs)→k=some true)→Z18 1001 k p r n (j:Int)=some true:=by
  intro d
  have hT:=hp.threads
  induction d with
  | zero =>
    intro j n hj hn hk
    obtain ⟨n,rfl⟩:∃ m,n=m+1:=⟨n - 1,by omega⟩
    rw [Z18,if_neg (by omega)]
    refine hk fun t ht=>?_
    rw [List.drop_of_length_le (by omega)] at ht;cases ht
  | succ d ih =>
    intro j n hj hn hk
    obtain ⟨n,rfl⟩:∃ m,n=m+1:=⟨n - 1,by omega⟩
    have h1:j < p.Threads.length:=by omega
    have hR:=(hp.thread _ (List.getElem_mem h1)).regs
    have hbj:=hb _ (List.getElem_mem h1)
    rw [Z18,if_pos (by omega),Ax rfl h1]
    simp only [Option.bind_some]
    by_cases a:p.Threads[j].Name=[122,122,122]
    · rw [if_pos a,Z15,if_pos rfl,if_pos (hbj (.inl a))];exact Iz
    · rw [if_neg a, Ff (by omega)]
      simp only [Option.bind_some]
      by_cases b:[122,122,122]∈p.Threads[j].Regs
      · rw [decide_eq_true (N0 b).1,Z15,if_pos rfl,if_pos (hbj (.inr b))];exact Iz
      · rw [Ny b, Z15, if_neg (by decide), Bf h1 (by omega)]
        refine ih (j+1) n (by omega) (by omega) fun q=>hk fun t ht=>?_
        rw [List.drop_eq_getElem_cons h1] at ht
        rcases List.mem_cons.1 ht with rfl | ht
        · exact ⟨a,b⟩
        · exact q t ht
theorem Wn {p:api_Prog} (hp:SmallP p) (r:Int×Int) (k:Option Bool) (hb:∀ t∈p.Recover,[122,122,122]∈t.Regs→r.1≠0):∀ (d j n:Nat),j+d=p.Recover.length→d < n→
    ((∀ t∈p.Recover.drop j,[122,122,122] ∉ t.Regs)→k=some true)→Z19 1001 k p r n (j:Int)=some true:=by
  intro d
  have hT:=hp.recover
  induction d with
  | zero =>
    intro j n hj hn hk
    obtain ⟨n,rfl⟩:∃ m,n=m+1:=⟨n - 1,by omega⟩
    rw [Z19,if_neg (by omega)]
    refine hk fun t ht=>?_
    rw [List.drop_of_length_le (by omega)] at ht;cases ht
  | succ d ih =>
    intro j n hj hn hk
    obtain ⟨n,rfl⟩:∃ m,n=m+1:=⟨n - 1,by omega⟩
    have h1:j < p.Recover.length:=by omega
    have hR:=(hp.recov _ (List.getElem_mem h1)).regs
    have hbj:=hb _ (List.getElem_mem h1)
    rw [Z19,if_pos (by omega),Ax rfl h1]
    simp only [Option.bind_some]
    rw [Ff (by omega)]
    simp only [Option.bind_some]
    by_cases b:[122,122,122]∈p.Recover[j].Regs
    · rw [if_pos (N0 b).1,if_pos (hbj b)];exact Iz
    · rw [Ny b, if_neg (by decide), Bf h1 (by omega)]
      refine ih (j+1) n (by omega) (by omega) fun q=>hk fun t ht=>?_
      rw [List.drop_eq_getElem_cons h1] at ht
      rcases List.mem_cons.1 ht with rfl | ht
      · exact b
      · exact q t ht
theorem Uo {p:api_Prog} (hp:SmallP p) (hq:SmallP (Cr p)) (k:Option Bool):∀ (d j n:Nat),j+d=(Cb p).length→d < n→
    Z1a 1001 k p (p.Vols ++ [zC]) ((Cb p).map (·.Name)) n (j:Int)=k:=by
  intro d
  have hC:=Gc hp
  induction d with
  | zero =>
    intro j n hj hn
    obtain ⟨n,rfl⟩:∃ m,n=m+1:=⟨n - 1,by omega⟩
    rw [Z1a,if_neg (by rw [List.length_map];omega)]
  | succ d ih =>
    intro j n hj hn
    obtain ⟨n,rfl⟩:∃ m,n=m+1:=⟨n - 1,by omega⟩
    rw [Z1a,if_pos (by rw [List.length_map];omega),Nl hp (by omega)]
    simp only [Option.bind_some]
    rw [show api_Prog.mk p.Lines (p.Vols ++ [zC]) p.Locks p.Threads p.Recover p.Claims=Cr p from rfl,Nl hq (by rw [Jd,List.length_append];omega)]
    simp only [Option.bind_some]
    rw [show (Cr p).Lines=p.Lines from rfl,Vt (by simp)]
    simp only [Option.bind_some]
    rw [Bf (n:=1001) (by omega) (by decide)]
    exact ih (j+1) n (by omega) (by omega)
theorem Wm {p:api_Prog} (hp:SmallP p) (hq:SmallP (Cr p)) (hz:[122,122,122] ∉ A1 p ++ A2 p) (v:Int):Z17 1001 p (p.Vols ++ [zC]) (0,v) ((Cb p).map (·.Name))=some true:=by
  have hC:=Gc hp
  have hL:=hp.lines
  have hlen:(Cb p).length=p.Lines.flatten.length+p.Vols.length:=by simp [Cb]
  have hf:(Cb (Cr p)).map (·.Name)=(Cb p).map (·.Name) ++ [[122,122,122]]:=by rw [Jd];simp [zC]
  have hm:((Cb p).map (·.Name)).length=(Cb p).length:=List.length_map ..
  rw [Z17,if_pos rfl,show api_Prog.mk p.Lines (p.Vols ++ [zC]) p.Locks p.Threads p.Recover p.Claims=Cr p from rfl,Ib hq,hf]
  simp only [Option.bind_some]
  rw [Er (by omega) (by omega) (by rw [List.length_append];omega)]
  simp only [Option.bind_some]
  rw [Ib hp]
  simp only [Option.bind_some]
  rw [show (0:Int).toNat=0 from rfl,List.drop_zero,Int.toNat_natCast,List.take_left,Tp (by omega) (by omega)]
  simp only [Option.bind_some]
  rw [if_pos (by simp),Ff (by rw [List.length_append,List.length_singleton];omega),Pb,if_neg (by rw [Dc];exact hz)]
  simp only [Option.bind_some]
  rw [if_pos (by simp [Fg]),N6 hq,N6 hp]
  simp only [Option.bind_some]
  rw [show (Cr p).Lines=p.Lines from rfl,if_pos rfl,hm,Nl hq (by rw [Jd,List.length_append,List.length_singleton];omega)]
  simp only [Option.bind_some]
  have e:=Ms p.Lines 0 (Cb p).length (by omega)
  rw [show (Cr p).Lines=p.Lines from rfl,if_pos (by rw [w64 (by omega) (by have:=hp.vols;omega)];omega)]
  exact Iz
theorem Ni (p1:api_Prog):Z12 1001 p1=some true:=by
  unfold Z12
  obtain ⟨p,hq,hp⟩:=Jb3 p1
  have hC:=Gc hp
  have hT:=hp.threads
  have hK:=hp.locks
  have hRc:=hp.recover
  obtain ⟨⟨r1,r2⟩,hr⟩:=Jk (p:=p)
  have j1t:Z13 1001 p true=some true:=by
    rw [Z13,if_pos rfl];exact Iz
  rw [hq]
  simp only [Option.bind_some]
  rw [Oh hp,hr]
  simp only [Option.bind_some]
  by_cases h0:r1=0
  · subst h0
    have h:=(It.1 hr).1
    have hv:=Uy h.big
    have hq:=Qu hp hv
    rw [if_neg (fun q=>q rfl),Ib hp]
    simp only [Option.bind_some]
    rw [Ff (by rw [List.length_map];omega),Dc]
    simp only [Option.bind_some]
    by_cases a:[122,122,122]∈A1 p ++ A2 p
    · rw [if_pos (N0 a).1];exact j1t
    · rw [Ny a, if_neg (by decide), Ux hp]
      simp only [Option.bind_some]
      rw [Ff (by rw [List.length_map];omega)]
      simp only [Option.bind_some]
      by_cases b:[122,122,122]∈p.Locks.map (·.Name)
      · rw [decide_eq_true (N0 b).1];exact j1t
      · rw [Ny b, Z13, if_neg (by decide), Cn (by simp only [List.length_nil]; omega) (by decide)]
        simp only [Option.bind_some]
        rw [Cn (by simp only [List.length_append,List.length_nil,List.length_singleton];omega) (by decide),List.nil_append]
        simp only [Option.bind_some]
        rw [show api_Prog.mk p.Lines (p.Vols ++ [api_Cell.mk [122,122,122] 9 0]) p.Locks p.Threads p.Recover p.Claims=Cr p from rfl,show ([api_Cell.mk [122,122,122] 9 0]:List api_Cell)=[zC] from rfl,Oh hq]
        obtain ⟨⟨s1,s2⟩,hs⟩:=Jk (p:=Cr p)
        rw [hs]
        simp only [Option.bind_some]
        have bad:s1=0→(∀ t∈p.Threads,t.Name≠[122,122,122])∧∀ t∈Cx p,[122,122,122] ∉ t.Regs:=by
          rintro rfl
          exact Vq (It.1 hs).1
        refine Qw hp (s1,s2) _ (fun t ht q z=>?_) p.Threads.length 0 1001 (by omega) (by omega) fun h1=>?_
        · obtain ⟨b1, b2⟩ := bad z
          exact q.elim (b1 t ht) (b2 t (List.mem_append_left _ ht))
        · rw [Z14]
          refine Wn hp (s1,s2) _ (fun t ht q z=>(bad z).2 t (List.mem_append_right _ ht) q) p.Recover.length 0 1001 (by omega) (by omega) fun h2=>?_
          rw [Z16,Ib hp]
          simp only [Option.bind_some]
          by_cases c:p.Vols.length=4
          · have e2:Gg (Cr p)=some (2,0):=by
              unfold Gg
              rw [if_pos (Hc.2 (Rk h.pb)),if_pos (by rw [Oq h.big,decide_eq_true c])]
            rw [e2] at hs
            simp only [Option.some.injEq,Prod.mk.injEq] at hs
            rw [if_pos (by omega),if_pos hs.1.symm]
            exact Iz
          · have hok:=Vu h c (by
              intro q
              rcases List.mem_append.1 q with q | q
              · exact a q
              · exact b q) (fun t ht=>(h1 t (by rw [List.drop_zero];exact ht)).1) (fun t ht=>by
              rcases List.mem_append.1 ht with ht | ht
              · exact (h1 t (by rw [List.drop_zero];exact ht)).2
              · exact h2 t (by rw [List.drop_zero];exact ht))
            rw [It.2 ⟨hok,rfl⟩] at hs
            simp only [Option.some.injEq,Prod.mk.injEq] at hs
            obtain ⟨rfl,rfl⟩:=hs
            rw [if_neg (by omega),show (0:Int)=((0:Nat):Int) from rfl,Uo hp hq _ (Cb p).length 0 1001 (by omega) (by omega)]
            exact Wm hp hq a 0
  · rw [if_pos h0];exact j1t
end Go.MD.LB
