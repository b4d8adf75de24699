/- The engine's third part: He each operation yields. No condition: plain lemmas. -/
import Derived.Test.YtbblmeecfimnkaaGreatDoorLLb
namespace Go.LL
open Go
def adr (oa:Option Addr):Addr:=oa.getD ⟨0,0,none⟩
structure Rd (h:PH) (oa:Option Addr) (vs:List Value):Prop where
  some:vs≠[]→oa=some ⟨(adr oa).block,(adr oa).off,none⟩
  cell:∀ (j:Nat) (v:Value),vs[j]? = .some v→h.cell? ⟨(adr oa).block,(adr oa).off+j,none⟩=.some v
abbrev sla (e:TypeId) (sz:Nat) (oa:Option Addr) (n cap:Nat) (xs:List Value):HA:=sl e sz (.slice oa n cap) n xs
theorem SlOk.rd {e:TypeId} {sz:Nat} {oa:Option Addr} {n cap:Nat} {xs:List Value} {h:PH} (ho:SlOk e sz (.slice oa n cap) n xs h):Rd h oa xs:=by
  obtain ⟨hl,hn | ⟨g,cap',cur,hv,hg,hnc,hm,hs,ht⟩⟩:=ho
  · obtain ⟨hv, h0⟩ := hn
    subst h0
    have:xs=[]:=List.eq_nil_of_length_eq_zero (by simpa using hl)
    subst this
    exact ⟨fun h=>absurd rfl h,fun j v hj=>by simp at hj⟩
  · simp only [Value.slice.injEq] at hv
    obtain ⟨rfl,_,_⟩:=hv
    refine ⟨fun _=>rfl,fun j v hj=>?_⟩
    rw [← ht,List.getElem?_take] at hj
    split at hj
    · simp only [adr, Option.getD_some, Nat.zero_add]
      simp only [PH.cell?,hg]
      simpa using hj
    · cases hj
theorem Rd.mono {h h':PH} {oa:Option Addr} {vs:List Value} (hr:Rd h oa vs) (hl:∀ b o,h b=.some o→h' b=.some o):Rd h' oa vs:=by
  refine ⟨hr.some,fun j v hj=>?_⟩
  have:=hr.cell j v hj
  unfold PH.cell? at this ⊢
  cases hb:h (adr oa).block with
  | none=>rw [hb] at this;cases this
  | some o=>rw [hl _ _ hb];rw [hb] at this;exact this
theorem Rd.nil (h:PH) (oa:Option Addr):Rd h oa []:=⟨fun h=>absurd rfl h,fun j v hj=>by simp at hj⟩
section
variable {w:World} {Hs:List PH} {L:List HA}
theorem Lds.rdO (hs:Lds Hs L w) {e:TypeId} {sz:Nat} {oa:Option Addr} {n cap:Nat} {xs:List Value} (hm:sla e sz oa n cap xs∈L):Rd (hp w) oa xs:=SlOk.rd (hs.ok _ hm)
theorem Lds.elO (hs:Lds Hs L w) {e:TypeId} {sz:Nat} {oa:Option Addr} {n cap:Nat} {xs:List Value} (hm:sla e sz oa n cap xs∈L) {j:Nat} {v:Value} (hj:xs[j]? = some v):w.cell? ⟨(adr oa).block,(adr oa).off+j,none⟩=some v:=by
  rw [← Gq]
  exact (hs.rdO hm).cell j v hj
end
theorem Df (b o n:Nat):(⟨b,o,none⟩:Addr).add n=⟨b,o+n,none⟩:=by
  unfold Addr.add;split <;> simp_all
section
variable {P:Program} {N:FN} {F:List (Nat×Value)} {a:Act} {w:World} {d:Option Tmp} {ty:TypeId} {pos:String} {af:Array Edge} {g:Option (Nat×Bool)}
theorem Ab (hF:Fr N F a) {x:Operand} {v:Value} (hx:opv F x=some v):(execOp a.eval ⟨d,.move x,ty,pos,af,g⟩).run P w=.ok (.value v) w:=by
  simp [execOp,hF.ev hx]
theorem Bp (hF:Fr N F a) {x:Operand} {v:Value} (hx:opv F x=some v):(execOp a.eval ⟨d,.assign x,ty,pos,af,g⟩).run P w=.ok (.value v) w:=by
  simp [execOp,hF.ev hx]
theorem Ac (hF:Fr N F a) {c x y:Operand} {v:Value} (hc:opv F c=some (.bool true)) (hx:opv F x=some v):(execOp a.eval ⟨d,.pick c x y,ty,pos,af,g⟩).run P w=.ok (.value v) w:=by
  simp [execOp,hF.ev hx,hF.ev hc,asBool]
theorem Ad (hF:Fr N F a) {c x y:Operand} {v:Value} (hc:opv F c=some (.bool false)) (hy:opv F y=some v):(execOp a.eval ⟨d,.pick c x y,ty,pos,af,g⟩).run P w=.ok (.value v) w:=by
  simp [execOp,hF.ev hy,hF.ev hc,asBool]
theorem An (hF:Fr N F a) {x y:Operand} {t u:TypeId} {k:IntKind} {m n:Int} (hx:opv F x=some (.int k m)) (hy:opv F y=some (.int k n)) :
    (execOp a.eval ⟨d,.binOp .add t x y u,ty,pos,af,g⟩).run P w=.ok (.value (.int k (k.wrap (m+n)))) w:=by
  simp [execOp,hF.ev hx,hF.ev hy,eqGuard,binOp,Op.intArith]
theorem En (hF:Fr N F a) {x y:Operand} {t u:TypeId} {k:IntKind} {m n:Int} (hx:opv F x=some (.int k m)) (hy:opv F y=some (.int k n)) :
    (execOp a.eval ⟨d,.binOp .sub t x y u,ty,pos,af,g⟩).run P w=.ok (.value (.int k (k.wrap (m - n)))) w:=by
  simp [execOp,hF.ev hx,hF.ev hy,eqGuard,binOp,Op.intArith]
theorem Jbq (hF:Fr N F a) {x y:Operand} {t u:TypeId} {k:IntKind} {m n:Int} (hx:opv F x=some (.int k m)) (hy:opv F y=some (.int k n)) :
    (execOp a.eval ⟨d,.binOp .mul t x y u,ty,pos,af,g⟩).run P w=.ok (.value (.int k (k.wrap (m * n)))) w:=by
  simp [execOp,hF.ev hx,hF.ev hy,eqGuard,binOp,Op.intArith]
theorem JcR (hF:Fr N F a) {x y:Operand} {t u:TypeId} {k:IntKind} {m n:Int} (hx:opv F x=some (.int k m)) (hy:opv F y=some (.int k n)) (hn:n≠0) :
    (execOp a.eval ⟨d,.binOp .quo t x y u,ty,pos,af,g⟩).run P w=.ok (.value (.int k (k.wrap (m.tdiv n)))) w:=by
  simp [execOp,hF.ev hx,hF.ev hy,eqGuard,binOp,Op.intDiv,hn]
theorem Uc (hF:Fr N F a) {x y:Operand} {t u:TypeId} {k:IntKind} {m n:Int} (hx:opv F x=some (.int k m)) (hy:opv F y=some (.int k n)) (hn:n≠0) :
    (execOp a.eval ⟨d,.binOp .rem t x y u,ty,pos,af,g⟩).run P w=.ok (.value (.int k (m.tmod n))) w:=by
  simp [execOp,hF.ev hx,hF.ev hy,eqGuard,binOp,Op.intDiv,hn]
theorem Jc1 (hF:Fr N F a) {x y:Operand} {t u:TypeId} {k yk:IntKind} {m n:Int} (hx:opv F x=some (.int k m)) (hy:opv F y=some (.int yk n)) (hn:0≤n) :
    (execOp a.eval ⟨d,.binOp .shl t x y u,ty,pos,af,g⟩).run P w=.ok (.value (.int k (k.wrap (m * 2 ^ (min n.toNat k.bits))))) w:=by
  simp [execOp,hF.ev hx,hF.ev hy,eqGuard,binOp,Op.shift,show ¬ n < 0 by omega]
theorem Jdb (hF:Fr N F a) {x y:Operand} {t u:TypeId} {k yk:IntKind} {m n:Int} (hx:opv F x=some (.int k m)) (hy:opv F y=some (.int yk n)) (hn:0≤n) :
    (execOp a.eval ⟨d,.binOp .shr t x y u,ty,pos,af,g⟩).run P w=.ok (.value (.int k (m.fdiv (2 ^ (min n.toNat k.bits))))) w:=by
  simp [execOp,hF.ev hx,hF.ev hy,eqGuard,binOp,Op.shift,show ¬ n < 0 by omega]
theorem Ak (hF:Fr N F a) {x y:Operand} {t u:TypeId} {k:IntKind} {m n:Int} (hx:opv F x=some (.int k m)) (hy:opv F y=some (.int k n)) :
    (execOp a.eval ⟨d,.binOp .lss t x y u,ty,pos,af,g⟩).run P w=.ok (.value (.bool (decide (m < n)))) w:=by
  simp [execOp,hF.ev hx,hF.ev hy,eqGuard,binOp,Op.intCmp]
theorem Dt (hF:Fr N F a) {x y:Operand} {t u:TypeId} {k:IntKind} {m n:Int} (hx:opv F x=some (.int k m)) (hy:opv F y=some (.int k n)) :
    (execOp a.eval ⟨d,.binOp .leq t x y u,ty,pos,af,g⟩).run P w=.ok (.value (.bool (decide (m≤n)))) w:=by
  simp [execOp,hF.ev hx,hF.ev hy,eqGuard,binOp,Op.intCmp]
theorem Ba (hF:Fr N F a) {x y:Operand} {t u:TypeId} {k:IntKind} {m n:Int} (hx:opv F x=some (.int k m)) (hy:opv F y=some (.int k n)) :
    (execOp a.eval ⟨d,.binOp .gtr t x y u,ty,pos,af,g⟩).run P w=.ok (.value (.bool (decide (n < m)))) w:=by
  simp [execOp,hF.ev hx,hF.ev hy,eqGuard,binOp,Op.intCmp]
theorem Bo (hF:Fr N F a) {x y:Operand} {t u:TypeId} {k:IntKind} {m n:Int} (hx:opv F x=some (.int k m)) (hy:opv F y=some (.int k n)) :
    (execOp a.eval ⟨d,.binOp .geq t x y u,ty,pos,af,g⟩).run P w=.ok (.value (.bool (decide (n≤m)))) w:=by
  simp [execOp,hF.ev hx,hF.ev hy,eqGuard,binOp,Op.intCmp]
theorem Aq (hF:Fr N F a) {x y:Operand} {t u:TypeId} {k:IntKind} {m n:Int} (hx:opv F x=some (.int k m)) (hy:opv F y=some (.int k n)) :
    (execOp a.eval ⟨d,.binOp .eql t x y u,ty,pos,af,g⟩).run P w=.ok (.value (.bool (decide (m=n)))) w:=by
  have:(m == n)=decide (m=n):=by by_cases h:m=n <;> simp [h]
  simp [execOp,hF.ev hx,hF.ev hy,eqGuard,binOp,Op.intCmp,this]
theorem Bh (hF:Fr N F a) {x y:Operand} {t u:TypeId} {k:IntKind} {m n:Int} (hx:opv F x=some (.int k m)) (hy:opv F y=some (.int k n)) :
    (execOp a.eval ⟨d,.binOp .neq t x y u,ty,pos,af,g⟩).run P w=.ok (.value (.bool (decide (m≠n)))) w:=by
  have:(m != n)=decide (m≠n):=by by_cases h:m=n <;> simp [h]
  simp [execOp,hF.ev hx,hF.ev hy,eqGuard,binOp,Op.intCmp,this]
theorem S8 {t:TypeId} {m n:Bool} (hu:∀ w,(underlying t).run P w=.ok .bool w):(Op.equal t (.bool m) (.bool n)).run P w=.ok (m == n) w:=by
  unfold Op.equal
  rw [show Op.maxDepth=9999+1 from rfl]
  generalize 9999=k
  simp [Op.equalIn,hu]
theorem Hi (hF:Fr N F a) {x y:Operand} {t u:TypeId} {m n:Bool} (hu:∀ w,(underlying t).run P w=.ok .bool w) (hx:opv F x=some (.bool m)) (hy:opv F y=some (.bool n)) :
    (execOp a.eval ⟨d,.binOp .neq t x y u,ty,pos,af,g⟩).run P w=.ok (.value (.bool (m != n))) w:=by
  simp [execOp,hF.ev hx,hF.ev hy,eqGuard,binOp,S8 hu,bne]
theorem A9 (hF:Fr N F a) {x:Operand} {t:TypeId} {m:Bool} (hx:opv F x=some (.bool m)) :
    (execOp a.eval ⟨d,.unOp .not t x,ty,pos,af,g⟩).run P w=.ok (.value (.bool (!m))) w:=by
  simp [execOp,hF.ev hx,Op.unary]
theorem JbI (hF:Fr N F a) {x y:Operand} {t u:TypeId} {m n:ByteArray} (hx:opv F x=some (.string m)) (hy:opv F y=some (.string n)) :
    (execOp a.eval ⟨d,.binOp .eql t x y u,ty,pos,af,g⟩).run P w=.ok (.value (.bool (m.toList == n.toList))) w:=by
  simp [execOp,hF.ev hx,hF.ev hy,eqGuard,binOp,Op.stringOp]
theorem Jcd (hF:Fr N F a) {x y:Operand} {t u:TypeId} {m n:ByteArray} (hx:opv F x=some (.string m)) (hy:opv F y=some (.string n)) :
    (execOp a.eval ⟨d,.binOp .neq t x y u,ty,pos,af,g⟩).run P w=.ok (.value (.bool (!(m.toList == n.toList)))) w:=by
  simp [execOp,hF.ev hx,hF.ev hy,eqGuard,binOp,Op.stringOp]
theorem Jag (hF:Fr N F a) {x:Operand} {t e:TypeId} {oa:Option Addr} {n c:Nat} (hu:∀ w,(underlying t).run P w=.ok (.slice e) w) (hx:opv F x=some (.slice oa n c)) :
    (execOp a.eval ⟨d,.call ⟨.builtin .len,#[x],#[t]⟩,ty,pos,af,g⟩).run P w=.ok (.value (.int .i64 n)) w:=by
  simp [execOp,resolve,invoke,builtin,hF.ev hx,Builtin.len_,hu,goInt]
theorem Jb1 (hF:Fr N F a) {x:Operand} {t:TypeId} {s:ByteArray} (hu:∀ w,(underlying t).run P w=.ok .string w) (hx:opv F x=some (.string s)) :
    (execOp a.eval ⟨d,.call ⟨.builtin .len,#[x],#[t]⟩,ty,pos,af,g⟩).run P w=.ok (.value (.int .i64 s.size)) w:=by
  simp [execOp,resolve,invoke,builtin,hF.ev hx,Builtin.len_,hu,goInt]
theorem N5 (hF:Fr N F a) {x y:Operand} {ts:Array TypeId} {k:IntKind} {m n:Int} (hx:opv F x=some (.int k m)) (hy:opv F y=some (.int k n)) :
    (execOp a.eval ⟨d,.call ⟨.builtin .min,#[x,y],ts⟩,ty,pos,af,g⟩).run P w=.ok (.value (.int k (min m n))) w:=by
  have:(if n < m then n else m)=min m n:=by simp only [Int.min_def];split <;> split <;> omega
  simp [execOp,resolve,invoke,builtin,hF.ev hx,hF.ev hy,Builtin.min_,Builtin.min2,this]
theorem Pu (hF:Fr N F a) {x y:Operand} {ts:Array TypeId} {k:IntKind} {m n:Int} (hx:opv F x=some (.int k m)) (hy:opv F y=some (.int k n)) :
    (execOp a.eval ⟨d,.call ⟨.builtin .max,#[x,y],ts⟩,ty,pos,af,g⟩).run P w=.ok (.value (.int k (max m n))) w:=by
  have:(if m < n then n else m)=max m n:=by simp only [Int.max_def];split <;> split <;> omega
  simp [execOp,resolve,invoke,builtin,hF.ev hx,hF.ev hy,Builtin.max_,Builtin.max2,this]
theorem Ea (hF:Fr N F a) {x:Operand} {ad:Addr} (hx:opv F x=some (.pointer (some ad))):(execOp a.eval ⟨d,.nilCheck x,ty,pos,af,g⟩).run P w=.ok (.value (.pointer (some ad))) w:=by
  simp [execOp,hF.ev hx]
theorem Dd (hF:Fr N F a) {x:Operand} {i:Nat} {vs:List Value} {v:Value} (hx:opv F x=some (.tuple vs.toArray)) (hv:nth vs i=some v):(execOp a.eval ⟨d,.extract x i,ty,pos,af,g⟩).run P w=.ok (.value v) w:=by
  rw [Kn] at hv
  simp [execOp,hF.ev hx,Instr.extract,hv]
theorem Ae (hF:Fr N F a) {x:Operand} {t:TypeId} {f b o k:Nat} (hfa:∀ (ad:Addr) (w:World),(Instr.fieldAt t (.pointer (some ad)) f).run P w=.ok (.pointer (some (ad.add k))) w)
    (hx:opv F x=some (.pointer (some ⟨b,o,none⟩))):(execOp a.eval ⟨d,.fieldAddr t x f,ty,pos,af,g⟩).run P w=.ok (.value (.pointer (some ⟨b,o+k,none⟩))) w:=by
  simp [execOp,hF.ev hx,hfa,Df]
theorem Wv (hF:Fr N F a) {x y:Operand} {t e:TypeId} {k:IntKind} {j:Int} {sz n c i:Nat} {oa:Option Addr}
    (hu:∀ w,(underlying t).run P w=.ok (.slice e) w) (hz:∀ w,(sizeOf e).run P w=.ok sz w)
    (hx:opv F x=some (.slice oa n c)) (hy:opv F y=some (.int k j)) (hj:j=(i:Int)) (hi:i < n) (hoa:oa=some ⟨(adr oa).block,(adr oa).off,none⟩) :
    (execOp a.eval ⟨d,.indexAddr t x y,ty,pos,af,g⟩).run P w=.ok (.value (.pointer (some ⟨(adr oa).block,(adr oa).off+i * sz,none⟩))) w:=by
  subst hj
  cases oa with
  | none=>cases hoa
  | some ad =>
    simp only [Option.some.injEq] at hoa
    have h1:(i:Int) < (n:Int):=by omega
    have h2:ad.add (i * sz)=⟨(adr (some ad)).block,(adr (some ad)).off+i * sz,none⟩:=by
      conv=>lhs;rw [hoa]
      exact Df _ _ _
    simp [execOp,hF.ev hx,hF.ev hy,Instr.indexAt,asIntOf,hu,hz,hi,h2]
theorem Af (hF:Fr N F a) {x:Operand} {t:TypeId} {ad:Addr} {v:Value} (hg:∀ w,(isAgg t).run P w=.ok false w) (hx:opv F x=some (.pointer (some ad))) (hc:w.cell? ad=some v) :
    (execOp a.eval ⟨d,.load t x,ty,pos,af,g⟩).run P w=.ok (.value v) w:=by
  simp [execOp,hF.ev hx,Instr.loadAt,Instr.sureAddr,loadVar,hg,load,Sem.run,hc]
theorem Ar (hF:Fr N F a) {x:Operand} {t:TypeId} {b o n:Nat} {vs:List Value} (hg:∀ w,(isAgg t).run P w=.ok true w) (hz:∀ w,(sizeOf t).run P w=.ok n w) (hx:opv F x=some (.pointer (some ⟨b,o,none⟩))) (hn:vs.length=n)
    (hc:∀ (j:Nat) (v:Value),vs[j]? = some v→w.cell? ⟨b,o+j,none⟩=some v) :
    (execOp a.eval ⟨d,.load t x,ty,pos,af,g⟩).run P w=.ok (.value (.agg vs.toArray)) w:=by
  have h:=run_loadCells_list (P:=P) w ⟨b,o,none⟩ vs (fun j v hv=>by rw [Df];exact hc j v hv)
  rw [hn] at h
  simp [execOp,hF.ev hx,Instr.loadAt,Instr.sureAddr,loadVar,hg,hz,h]
theorem Jd6 (hF:Fr N F a) {x:Operand} {lo hi:Option Operand} {t e:TypeId} {sz n c l h:Nat} {oa:Option Addr} {vl vh:Int}
    (hu:∀ w,(underlying t).run P w=.ok (.slice e) w) (hz:∀ w,(sizeOf e).run P w=.ok sz w)
    (hx:opv F x=some (.slice oa n c))
    (hlo:match lo with | some o=>opv F o=some (.int .i64 vl)∧vl=(l:Int) | none=>l=0)
    (hhi:match hi with | some o=>opv F o=some (.int .i64 vh)∧vh=(h:Int) | none=>h=n)
    (hlh:l≤h) (hhc:h≤c) :
    (execOp a.eval ⟨d,.slice t x lo hi none,ty,pos,af,g⟩).run P w=.ok (.value (.slice (if c=l then oa else oa.map (·.add (l * sz))) (h - l) (c - l))) w:=by
  have hsl:∀ (vx:Value),vx=.slice oa n c→(Instr.sliceAt t vx (lo.map a.eval) (hi.map a.eval) none).run P w=.ok (.slice (if c=l then oa else oa.map (·.add (l * sz))) (h - l) (c - l)) w:=by
    rintro vx rfl
    cases lo with
    | none =>
      subst hlo
      cases hi with
      | none=>subst hhi;simp [Instr.sliceAt,hu,Instr.slice,Instr.sliceBounds,hz]
      | some o =>
        obtain ⟨ho,rfl⟩:=hhi
        simp [Instr.sliceAt,hu,Instr.slice,Instr.sliceBounds,hz,hF.ev ho,Instr.sliceBound,asIntOf,hhc]
    | some o' =>
      obtain ⟨ho',rfl⟩:=hlo
      cases hi with
      | none =>
        subst hhi
        simp [Instr.sliceAt,hu,Instr.slice,Instr.sliceBounds,hz,hF.ev ho',Instr.sliceBound,asIntOf,hlh]
      | some o =>
        obtain ⟨ho,rfl⟩:=hhi
        simp [Instr.sliceAt,hu,Instr.slice,Instr.sliceBounds,hz,hF.ev ho,hF.ev ho',Instr.sliceBound,asIntOf,hhc,hlh]
  have:=hsl _ rfl
  simp only [Option.map] at this
  simp [execOp,hF.ev hx,this,Option.map]
def rho (F:List (Nat×Value)) (x:Operand):Value:=(opv F x).getD undef
theorem e_k (hF:Fr N F a) {o:Oper} {v:Value} (hsel:(match o.op with | .select _ _=>false | _=>true)=true) (ho:(o.op.operands.toList.all fun x=>(opv F x).isSome)=true) (hr:(execOp (rho F) o).run P w=.ok (.value v) w) :
    (execOp a.eval o).run P w=.ok (.value v) w:=by
  rw [execOp_congr (ρ:=a.eval) (ρ':=rho F) o (fun cs b e=>by rw [e] at hsel;cases hsel) (fun x hx=>?_)]
  · exact hr
  · have h1 := List.all_eq_true.1 ho x (by simpa using hx)
    obtain ⟨v,hv⟩:=Option.isSome_iff_exists.1 h1
    rw [hF.ev hv,rho,hv];rfl
end
end Go.LL
