/- What R10.Show writes; BinaryShows. No condition: plain lemmas. -/
import Derived.Test.YtbblmeecfimnkaaGreatDoorBMV
namespace Go.MD.BINZ
open Go Go.MD
def cutI (x:api_Instr):api_Instr:=⟨x.Kind,x.A,x.B,x.E.take 50,x.F.take 50,x.To⟩
theorem sub50 {α:Type} (xs:List α) {n:Nat}:subI xs 0 (min (xs.length:Int) (n:Int))=some (xs.take n):=by
  rw [subI_ok (by omega) (by omega) (by omega)]
  have:(min (xs.length:Int) (n:Int)).toNat=min xs.length n:=by omega
  rw [this,show (0:Int).toNat=0 from rfl,List.drop_zero,Nat.min_comm]
  congr 1
  rcases Nat.le_total n xs.length with h | h
  · rw [Nat.min_eq_left h]
  · rw [Nat.min_eq_right h,List.take_of_length_le (Nat.le_refl _),List.take_of_length_le h]
theorem cut_l2 {N:Nat} {p:api_Code}:∀ (d:Nat) (j k:Nat),j+d=min p.L.length 60→d < k→Z1k N (Z1j p) p k ((p.L.take j).map cutI) (j:Int)=some ⟨p.Regs,p.Counts,(p.L.take 60).map cutI⟩:=by
  intro d
  induction d with
  | zero =>
    intro j k hd hk
    obtain ⟨k,rfl⟩:∃ q,k=q+1:=⟨k - 1,by omega⟩
    rw [Z1k,if_neg (by simp;omega),Z1j]
    have:p.L.take j=p.L.take 60:=by
      rcases Nat.le_total 60 p.L.length with h | h
      · rw [show j=60 from by omega]
      · rw [List.take_of_length_le (by omega),List.take_of_length_le h]
    rw [this]
  | succ d ih =>
    intro j k hd hk
    obtain ⟨k,rfl⟩:∃ q,k=q+1:=⟨k - 1,by omega⟩
    have hj:j < p.L.length:=by omega
    rw [Z1k,if_pos (by simp;omega),getI_at rfl hj]
    simp only [Option.bind_some]
    rw [show (50:Int)=((50:Nat):Int) from rfl,sub50]
    simp only [Option.bind_some]
    rw [appG_ok (by simp;omega) (by decide)]
    simp only [Option.bind_some,List.nil_append]
    rw [sub50]
    simp only [Option.bind_some]
    rw [appG_ok (by simp;omega) (by decide)]
    simp only [Option.bind_some,List.nil_append]
    rw [appG_ok (by simp;omega) (by decide)]
    simp only [Option.bind_some]
    rw [wsucc (n:=60) (by omega) (by decide)]
    have rc:=ih (j+1) k (by omega) (by omega)
    rw [List.take_succ_eq_append_getElem hj,List.map_append] at rc
    exact rc
theorem CutCode_eq {N:Nat} (hN:100 < N) (p:api_Code):Z1i N p=some ⟨p.Regs,p.Counts,(p.L.take 60).map cutI⟩:=by
  unfold Z1i
  exact cut_l2 (p:=p) (min p.L.length 60) 0 N (by omega) (by omega)
theorem fixedB:Z1r 200001=some true:=by decide +kernel
end Go.MD.BINZ
