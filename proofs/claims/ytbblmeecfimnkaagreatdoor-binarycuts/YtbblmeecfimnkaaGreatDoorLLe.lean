/- The engine's fifth part: maps; many assertions of one kind; make, copy. No condition: plain lemmas. -/
import Derived.Test.YtbblmeecfimnkaaGreatDoorLLd
import Derived.Deep.OwnRows
namespace Go.LL
open Go
def Jd5 {α:Type} (f:α→HA) (l:List α):HA:=
  { fp := fun b => ∃ x ∈ l, (f x).fp b,
    ok:=fun h=>(∀ x∈l,(f x).ok h)∧l.Pairwise (fun x y=>Apart (f x) (f y)),
    dom:=fun h b ho ⟨x,hx,hb⟩=>(f x).dom h b (ho.1 x hx) hb,
    loc:=fun h h' e ho=>⟨fun x hx=>(f x).loc h h' (fun b hb=>e b ⟨x,hx,hb⟩) (ho.1 x hx),ho.2⟩ }
section
variable {κ:Type} [DecidableEq κ]
def toE (kv:κ→Value) (x:κ×Value×Nat):MapEntry:=⟨kv x.1,x.2.1,x.2.2⟩
def Ee (k:κ):List (κ×Value×Nat)→Option Value
  | []=>none
  | x :: r=>if k=x.1 then some x.2.1 else Ee k r
def Nj (k:κ) (v:Value):List (κ×Value×Nat)→List (κ×Value×Nat)
  | []=>[]
  | x :: r=>if k=x.1 then (x.1,v,x.2.2) :: r else x :: Nj k v r
def Pw (k:κ) (v:Value) (c:Nat) (l:List (κ×Value×Nat)):List (κ×Value×Nat):=
  if (Ee k l).isSome then Nj k v l else l ++ [(k,v,c)]
def Jdr (k:κ) (c:Nat) (l:List (κ×Value×Nat)):Nat:=if (Ee k l).isSome then c else c+1
theorem Ru (k k':κ) (v:Value) (c:Nat) (l:List (κ×Value×Nat)):Ee k' (Pw k v c l)=if k'=k then some v else Ee k' l:=by
  have hset:∀ l:List (κ×Value×Nat),(Ee k l).isSome=true→Ee k' (Nj k v l)=if k'=k then some v else Ee k' l:=by
    intro l
    induction l with
    | nil=>intro h;simp [Ee] at h
    | cons x r ih =>
      intro h
      simp only [Ee] at h
      by_cases e:k=x.1
      · simp only [Nj, e, if_true, Ee]
        split <;> rfl
      · rw [if_neg e] at h
        simp only [Nj,e,if_false,Ee,ih h]
        by_cases e2:k'=x.1
        · have e3 : ¬ k' = k := fun e3 => e (e3.symm.trans e2)
          rw [if_pos e2,if_neg e3,if_pos e2]
        · rw [if_neg e2,if_neg e2]
  unfold Pw
  split
  · rename_i h;exact hset l h
  · rename_i h
    have hn:Ee k l=none:=by simpa using h
    have happ:∀ l:List (κ×Value×Nat),Ee k' (l ++ [(k,v,c)])=(Ee k' l).or (if k'=k then some v else none):=by
      intro l
      induction l with
      | nil=>simp [Ee]
      | cons x r ih=>simp only [List.cons_append,Ee,ih];split <;> simp
    rw [happ]
    by_cases e:k'=k
    · subst e;simp [hn]
    · simp [e]
def Qg (l:List (κ×Value×Nat)):Prop:=(l.map (·.1)).Nodup
theorem Qu {k:κ} {l:List (κ×Value×Nat)} {v:Value} (h:Ee k l=some v):∃ b,(k,v,b)∈l:=by
  induction l with
  | nil=>simp [Ee] at h
  | cons x r ih =>
    simp only [Ee] at h
    by_cases e:k=x.1
    · rw [if_pos e] at h;simp at h;subst h;subst e;exact ⟨x.2.2,by simp⟩
    · rw [if_neg e] at h;obtain ⟨b,hb⟩:=ih h;exact ⟨b,by simp [hb]⟩
theorem Gm {k:κ} {l:List (κ×Value×Nat)} {v:Value} {b:Nat} (hd:Qg l) (h:(k,v,b)∈l):Ee k l=some v:=by
  induction l with
  | nil=>cases h
  | cons x r ih =>
    unfold Qg at hd
    simp only [List.map_cons,List.nodup_cons] at hd
    simp only [Ee]
    rcases List.mem_cons.1 h with rfl | h
    · simp
    · by_cases e : k = x.1
      · exact absurd (List.mem_map.2 ⟨(k,v,b),h,e⟩) hd.1
      · rw [if_neg e];exact ih hd.2 h
theorem I9 {k:κ} {l:List (κ×Value×Nat)}:Ee k l=none↔k ∉ l.map (·.1):=by
  induction l with
  | nil=>simp [Ee]
  | cons x r ih =>
    simp only [Ee,List.map_cons,List.mem_cons,not_or]
    by_cases e:k=x.1
    · simp [e]
    · simp [e,ih]
theorem Vk (k:κ) (v:Value) (l:List (κ×Value×Nat)):(Nj k v l).map (·.1)=l.map (·.1):=by
  induction l with
  | nil=>rfl
  | cons x r ih=>simp only [Nj];split <;> simp [ih]
theorem Qy {k:κ} {v:Value} {c:Nat} {l:List (κ×Value×Nat)} (h:Qg l):Qg (Pw k v c l):=by
  unfold Pw Qg
  split
  · rw [Vk];exact h
  · rename_i hn
    have hn':Ee k l=none:=by simpa using hn
    rw [List.map_append,List.map_cons,List.map_nil,List.nodup_append]
    refine ⟨h,by simp,?_⟩
    intro a ha b hb
    simp at hb;subst hb
    intro e;subst e
    exact I9.1 hn' ha
def Ja9 (kv:κ→Value) (r:Nat) (l:List (κ×Value×Nat)) (c:Nat):HA:=blk r (.map (l.map (toE kv)).toArray c)
section
variable {P:Program} {kt et t:TypeId} {kv:κ→Value}
end
section
variable {P:Program} {ops:Array Oper} {Q:Exit→Act→World→Prop} {a:Act} {w:World} {N:FN} {F:List (Nat×Value)}
  {w0:World} {M:Nat→Prop} {Hs:List PH} {L L':List HA} {K:Act→World→Prop}
  {d:Nat} {ty:TypeId} {pos:String} {af:Array Edge} {kt et t:TypeId} {kv:κ→Value}
end
end
section
variable {P:Program} {ops:Array Oper} {Q:Exit→Act→World→Prop} {a:Act} {w:World} {N:FN} {F:List (Nat×Value)}
  {w0:World} {M:Nat→Prop} {Hs:List PH} {L L':List HA} {K:Act→World→Prop}
  {d:Nat} {ty:TypeId} {pos:String} {af:Array Edge}
theorem apI {t e:TypeId} {z:Value} {sz bytes:Nat} {x y:Operand} {oa ob:Option Addr} {n cap m c:Nat} {xs ys:List Value}
    (hF:Fr N F a) (hN:Nat.blt d N.n=true) (hS:St w0 M Hs L w)
    (ht:P.underlying t=some (.slice e)) (hinfo:(P.info? e).map (fun i=>(i.zero,i.size,i.bytes))=some (some z,sz,bytes)) (hzs:z.cells.size=sz) (hsz:0 < sz)
    (hx:opv F x=some (.slice oa n cap)) (hy:opv F y=some (.slice ob m c)) (hmem:sla e sz oa n cap xs∈L)
    (hl:ys.length=m * sz) (hrd:Rd (hp w) ob ys) (h1:∀ u∈ys,u.oneCell'=true) (hmb:(n+m) * bytes≤140737488355328) (h63:n+m≤maxLen)
    (k:∀ oa' cap' w a,(∀ L',Repl (sla e sz oa n cap xs) (sla e sz oa' (n+m) cap' (xs ++ ys)) L L'→St w0 M Hs L' w)→Fr N ((d,.slice oa' (n+m) cap') :: F) a→K a w) :
    stp P ops Q ⟨some d,.call ⟨.builtin .append,#[x,y],#[t,t]⟩,ty,pos,af,none⟩ a w K:=by
  obtain ⟨i,hi,hzz⟩:=Option.map_eq_some_iff.1 hinfo
  simp only [Prod.mk.injEq] at hzz
  obtain ⟨hz,hs,hb⟩:=hzz
  subst hb
  exact ap hF hN hS ht hi hz hs hzs hsz hx hy hmem hl hrd h1 hmb h63 k
end
def sepA (L:List HA):HA:=Jd5 id L
theorem Lt {L:List HA} {h:PH}:(sepA L).ok h↔(∀ A∈L,A.ok h)∧L.Pairwise Apart:=Iff.rfl
structure Mut (w:World) (A A':HA) (w':World):Prop where
  keep:Keep A.fp w w'
  ok:A'.ok (hp w')
  fp:∀ b,A'.fp b→A.fp b∨w.heap.size≤b
structure Fresh (w:World) (A:HA) (w':World):Prop where
  keep:Keep Nil w w'
  ok:A.ok (hp w')
  fp:∀ b,A.fp b→w.heap.size≤b
section
variable {w0 w w':World} {M:Nat→Prop} {Hs:List PH} {L L':List HA}
theorem St.mut (hs:St w0 M Hs L w) {A A':HA} (hm:Mut w A A' w') (hr:Repl A A' L L'):St w0 M Hs L' w':=hs.upd hr hm.keep hm.ok hm.fp
theorem St.fresh (hs:St w0 M Hs L w) {A:HA} (hm:Fresh w A w'):St w0 M Hs (A :: L) w':=hs.add hm.keep hm.ok hm.fp
theorem St.nilS (hs:St w0 M Hs L w) (e:TypeId) (sz:Nat):St w0 M Hs (sla e sz none 0 0 [] :: L) w:=
  hs.add (.refl _ _) ⟨by simp,.inl ⟨rfl,rfl⟩⟩ (fun b hb=>by simp [sl,Bu] at hb)
theorem St.startL (h:∀ x∈Hs,x.le w) (ho:(sepA L).ok (hp w)) (hd:∀ b,(sepA L).fp b→∀ x∈Hs,x b=none):St w (sepA L).fp Hs L w:=
  ⟨.refl _ w,h,ho.1,fun A hA b hb=>⟨.inr ⟨A,hA,hb⟩,hd b ⟨A,hA,hb⟩⟩,ho.2⟩
theorem St.endMut {A:HA} (hs:St w0 A.fp Hs L w):Mut w0 A (sepA L) w:=
  ⟨hs.keep,⟨hs.ok,hs.disj⟩,fun b ⟨B,hB,hb⟩=>((hs.own B hB b hb).1).symm⟩
theorem St.endFresh (hs:St w0 Nil Hs L w) {A:HA} (hA:A∈L):Fresh w0 A w:=
  ⟨hs.keep,hs.ok A hA,fun b hb=>((hs.own A hA b hb).1).resolve_right id⟩
theorem Fresh.mut {A A':HA} {w1 w2 w3:World} (h:Fresh w1 A w2) (k:Mut w2 A A' w3):Fresh w1 A' w3:=
  ⟨h.keep.trans k.keep (fun x hx hA=>by have:=h.fp x hA;omega),k.ok,fun b hb=>by
    rcases k.fp b hb with h1 | h1
    · exact h.fp b h1
    · exact Nat.le_trans h.keep.size h1⟩
theorem Hr {h:PH} {b off:Nat} {c:List Value} {e:TypeId} {f:Nat×Nat} {v:Value} (hb:h b=some (.cells c.toArray e f)) (hv:nth c off=some v):h.cell? ⟨b,off,none⟩=some v:=by
  rw [Kn] at hv
  simp [PH.cell?,hb,hv]
theorem Rd.up {h:PH} {oa:Option Addr} {vs:List Value} (hr:Rd h oa vs) (hl:h.le w):Rd (hp w) oa vs:=hr.mono hl
theorem St.rdH (hs:St w0 M Hs L w) {h:PH} (hh:h∈Hs) {oa:Option Addr} {vs:List Value} (hr:Rd h oa vs):Rd (hp w) oa vs:=hr.up (hs.hs h hh)
theorem St.rdO (hs:St w0 M Hs L w) {e:TypeId} {sz:Nat} {oa:Option Addr} {n cap:Nat} {xs:List Value} (hm:sla e sz oa n cap xs∈L):Rd (hp w) oa xs:=hs.ld.rdO hm
end
section
variable {w:World} {Hs:List PH} {L:List HA}
theorem Lds.elO2 (hs:Lds Hs L w) {e:TypeId} {sz:Nat} {oa:Option Addr} {n cap:Nat} {xs:List Value} (hm:sla e sz oa n cap xs∈L) {j f:Nat} {v:Value} (hj:xs[j+f]? = some v):w.cell? ⟨(adr oa).block,(adr oa).off+j+f,none⟩=some v:=by
  rw [Nat.add_assoc];exact hs.elO hm hj
theorem Lds.cellsB (hs:Lds Hs L w) {b:Nat} {vs:List Value} {e:TypeId} {f:Nat×Nat} (hA:blk b (.cells vs.toArray e f)∈L) :
    ∀ (j:Nat) (v:Value),vs[j]? = some v→w.cell? ⟨b,0+j,none⟩=some v:=fun j v h=>by
  rw [Nat.zero_add];exact hs.cellB hA (by simpa [Kn] using h)
end
theorem Ao {l:List Value} (h:l.all (·.oneCell')=true):∀ v∈l,v.oneCell'=true:=fun v hv=>List.all_eq_true.1 h v hv
theorem flat_len {α:Type} {f:α→List Value} {sz:Nat} (hf:∀ x,(f x).length=sz) (l:List α):(l.flatMap f).length=l.length * sz:=by
  induction l with
  | nil=>simp
  | cons x r ih=>rw [List.flatMap_cons,List.length_append,hf,ih,List.length_cons,Nat.succ_mul,Nat.add_comm]
section
variable {α:Type} {f:α→HA} {w w':World}
end
section
variable {P:Program} {a:Act} {w:World} {N:FN} {F:List (Nat×Value)} {d:Option Tmp} {ty:TypeId} {pos:String} {af:Array Edge} {g:Option (Nat×Bool)}
theorem Tg {t:TypeId} {parts:List (Nat×Operand)} {vs:List Value} {r:Value} (hF:Fr N F a) (hargs:Lo F (parts.map (·.2)) vs)
    (hr:(Instr.build t ((parts.map (·.1)).zip vs).toArray).run P w=.ok r w) :
    (execOp a.eval ⟨d,.build t parts.toArray,ty,pos,af,g⟩).run P w=.ok (.value r) w:=by
  have e:(parts.toArray.map fun (i,x)=>(i,a.eval x))=((parts.map (·.1)).zip vs).toArray:=by
    rw [← Ex hF hargs]
    rw [List.map_toArray]
    congr 1
    clear hr hargs
    induction parts with
    | nil=>rfl
    | cons p q ih=>simp [ih]
  simp only [execOp]
  rw [e]
  simp [hr]
end
end Go.LL
