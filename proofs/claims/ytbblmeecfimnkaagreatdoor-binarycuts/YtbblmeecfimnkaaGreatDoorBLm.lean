/- A builder of strings that the call owns. No condition: plain lemmas. -/
import Derived.Test.YtbblmeecfimnkaaGreatDoorLLs
namespace Go.LM
open Go Go.LL Go.MD
section
variable {P:Program} {ops:Array Oper} {Q:Exit→Act→World→Prop} {a:Act} {w:World} {N:FN} {F:List (Nat×Value)}
  {w0:World} {M:Nat→Prop} {H:PH} {L L':List HA} {K:Act→World→Prop}
  {d:Nat} {ty:TypeId} {pos:String} {af:Array Edge}
theorem Qc (s:Str):Lib.strCells ⟨s.toArray⟩=Lib.byteCells s:=by simp [Lib.strCells,Lib.byteCells]
theorem Iz (s t:Str):Lib.byteCells (s ++ t)=Lib.byteCells s ++ Lib.byteCells t:=by simp [Lib.byteCells]
theorem Jbo {Hs:List PH} {t u e:TypeId} {x y:Operand} {oa:Option Addr} {cap:Nat} {xs zs s:Str}
    (hF:Fr N F a) (hN:Nat.blt d N.n=true) (hS:St w0 M Hs L w)
    (ht:P.underlying t=some (.slice e)) (hu:P.underlying u=some .string) (hinfo:(P.info? e).map (fun i=>(i.zero,i.size,i.bytes))=some (some (.int .u8 0),1,1))
    (hx:opv F x=some (.slice oa xs.length cap)) (hy:opv F y=some (Ag s)) (hmem:sla e 1 oa xs.length cap (Lib.byteCells xs)∈L) (hg:Px xs s=some zs)
    (k:∀ oa' cap' w a,(∀ L',Repl (sla e 1 oa xs.length cap (Lib.byteCells xs)) (sla e 1 oa' zs.length cap' (Lib.byteCells zs)) L L'→St w0 M Hs L' w)→Fr N ((d,.slice oa' zs.length cap') :: F) a→K a w) :
    stp P ops Q ⟨some d,.call ⟨.builtin .append,#[x,y],#[t,u]⟩,ty,pos,af,none⟩ a w K:=by
  obtain ⟨h1,rfl⟩:=Us hg
  obtain ⟨i,hi,hzz⟩:=Option.map_eq_some_iff.1 hinfo
  simp only [Prod.mk.injEq] at hzz
  obtain ⟨hz,hs,hb⟩:=hzz
  obtain ⟨oa',cap',w',hr,hok,hk,hf⟩:=JaQ (P:=P) (ty:=ty) (w:=w) (st:=s) (m:=s.length) ht hu hi hz hs rfl (hS.ok _ hmem) (by simp [ByteArray.size]) rfl (by rw [hb];omega) (by unfold maxLen;omega)
  have hl:xs.length+s.length=(xs ++ s).length:=by rw [List.length_append]
  rw [hl] at hr hok hf
  rw [Qc,← Iz] at hok
  refine m1 (w':=w') hF hN (v:=.slice oa' (xs ++ s).length cap') ?_ fun a hF=>k oa' cap' w' a (fun L' hrep=>hS.upd hrep hk hok hf) hF
  simp [execOp,resolve,invoke,builtin,hF.ev hx,hF.ev hy,hr]
end
def BP (b:Nat) (v:Value):Prop:=v=.pointer none∨v=.pointer (some ⟨b,0,none⟩)
theorem Repl.id {A:HA} {L L':List HA} (h:Repl A A L L'):L'=L:=by
  induction h with
  | head=>rfl
  | tail _ ih=>rw [ih]
def bldA (T e:TypeId) (b:Nat) (vp:Value) (oa:Option Addr) (cap:Nat) (s:Str):HA:=
  sepA [blk b (.cells [vp,.slice oa s.length cap].toArray T (0,0)),sla e 1 oa s.length cap (Lib.byteCells s)]
section
variable {w:World} {w0:World} {M:Nat→Prop} {Hs:List PH} {L:List HA} {T e:TypeId} {b cap:Nat} {vp:Value} {oa:Option Addr} {s:Str}
theorem _root_.Go.LL.St.open' (hS:St w0 M Hs (bldA T e b vp oa cap s :: L) w):St w0 M Hs (blk b (.cells [vp,.slice oa s.length cap].toArray T (0,0)) :: sla e 1 oa s.length cap (Lib.byteCells s) :: L) w:=St.unsep hS
theorem _root_.Go.LL.St.sep2 {A B:HA} (hS:St w0 M Hs (A :: B :: L) w):St w0 M Hs (sepA [A,B] :: L) w:=by
  have hd:=hS.disj
  rw [List.pairwise_cons,List.pairwise_cons] at hd
  obtain ⟨h1,h2,h3⟩:=hd
  refine ⟨hS.keep,hS.hs,fun C hC=>?_,fun C hC b hb=>?_,?_⟩
  · rcases List.mem_cons.1 hC with rfl | hC
    · refine Lt.2 ⟨fun D hD => ?_, ?_⟩
      · rcases List.mem_cons.1 hD with rfl | hD
        · exact hS.ok _ (.head _)
        · simp only [List.mem_singleton] at hD;subst hD;exact hS.ok _ (.tail _ (.head _))
      · exact List.pairwise_cons.2 ⟨fun D hD=>by simp only [List.mem_singleton] at hD;subst hD;exact h1 _ (.head _),List.pairwise_singleton _ _⟩
    · exact hS.ok _ (.tail _ (.tail _ hC))
  · rcases List.mem_cons.1 hC with rfl | hC
    · obtain ⟨D, hD, hb⟩ := hb
      rcases List.mem_cons.1 hD with rfl | hD
      · exact hS.own _ (.head _) b hb
      · simp only [List.mem_singleton] at hD;subst hD;exact hS.own _ (.tail _ (.head _)) b hb
    · exact hS.own _ (.tail _ (.tail _ hC)) b hb
  · refine List.pairwise_cons.2 ⟨fun C hC b hb => ?_, h3⟩
    obtain ⟨D,hD,hb⟩:=hb
    rcases List.mem_cons.1 hD with rfl | hD
    · exact h1 C (.tail _ hC) b hb
    · simp only [List.mem_singleton] at hD;subst hD;exact h2 C hC b hb
theorem _root_.Go.LL.St.swap2 {A B:HA} (hS:St w0 M Hs (A :: B :: L) w):St w0 M Hs (B :: A :: L) w:=by
  have hd:=hS.disj
  rw [List.pairwise_cons,List.pairwise_cons] at hd
  obtain ⟨h1,h2,h3⟩:=hd
  have hm:∀ C,C∈B :: A :: L→C∈A :: B :: L:=fun C hC=>by
    rcases List.mem_cons.1 hC with rfl | hC
    · exact .tail _ (.head _)
    · rcases List.mem_cons.1 hC with rfl | hC
      · exact .head _
      · exact .tail _ (.tail _ hC)
  refine ⟨hS.keep,hS.hs,fun C hC=>hS.ok C (hm C hC),fun C hC=>hS.own C (hm C hC),?_⟩
  refine List.pairwise_cons.2 ⟨fun C hC b hb=>?_,List.pairwise_cons.2 ⟨fun C hC=>h1 C (.tail _ hC),h3⟩⟩
  rcases List.mem_cons.1 hC with rfl | hC
  · exact fun ha=>h1 B (.head _) b ha hb
  · exact h2 C hC b hb
theorem _root_.Go.LL.St.bld0 (hS:St w0 M Hs (blk b (.cells [.pointer none,.slice none 0 0].toArray T (0,0)) :: L) w):St w0 M Hs (bldA T e b (.pointer none) none 0 [] :: L) w:=by
  have h:=St.nilS hS e 1
  exact St.sep2 h.swap2
end
end Go.LM
