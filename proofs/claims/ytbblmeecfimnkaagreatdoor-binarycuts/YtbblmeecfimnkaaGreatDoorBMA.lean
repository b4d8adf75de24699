/- Numbers as bytes, both; BinaryNumbers. No condition: plain lemmas. -/
import Derived.Test.YtbblmeecfimnkaaGreatDoorBMF
namespace Go.MD.BINZ
open Go Go.MD
def Iw:Nat→Nat→Str
  | 0,_=>[]
  | m+1,n=>if n < 128 then [UInt8.ofNat n] else UInt8.ofNat (n % 128+128) :: Iw m (n / 128)
theorem u8w {n:Int} (h1:0≤n) (h2:n≤255):IntKind.u8.wrap n=n:=by
  unfold IntKind.wrap
  simp only [IntKind.bits,IntKind.signed]
  simp
  omega
theorem Ra:∀ (m n:Nat),(Iw m n).length≤m
  | 0,_=>Nat.le_refl _
  | m + 1, n => by
    rw [Iw]
    split
    · simp
    · have:=Ra m (n / 128);simp only [List.length_cons];omega
theorem Sj {n:Nat}:((n:Int)).tmod 128=((n % 128:Nat):Int):=by rw [Int.tmod_eq_emod_of_nonneg (by omega)];rfl
theorem Jd7 {n:Nat}:Yl .i64 (n:Int) 7=some ((n / 128:Nat):Int):=by
  unfold Yl
  rw [if_neg (by decide)]
  congr 1
  rw [show (2:Int) ^ (min (7:Int).toNat (IntKind.bits .i64))=((128:Nat):Int) from by decide]
  rw [Int.fdiv_eq_ediv_of_nonneg _ (by omega)];rfl
theorem JbV {N:Nat}:∀ (m n k:Nat) (s:Str),n < 128 ^ m→0 < m→m≤20→m≤k→s.length+m≤1000→Zc N Zb k (n:Int) s=some (s ++ Iw m n):=by
  intro m
  induction m with
  | zero=>intro n k s _ h0;omega
  | succ m ih =>
    intro n k s hn _ hm hk hs
    obtain ⟨k,rfl⟩:∃ q,k=q+1:=⟨k - 1,by omega⟩
    rw [Zc,Iw]
    by_cases h:n < 128
    · rw [if_neg (by omega), if_pos h, Zb, u8w (by omega) (by omega), Pj, if_pos ⟨by omega, by omega, by omega⟩]
      rfl
    · have hb : n % 128 < 128 := Nat.mod_lt _ (by decide)
      rw [if_pos (by omega),if_neg h,Sj,w64 (by omega) (by omega),u8w (by omega) (by omega),Pj,if_pos ⟨by omega,by omega,by omega⟩]
      simp only [Option.bind_some]
      rw [Jd7]
      simp only [Option.bind_some]
      have h0:0 < m:=by
        rcases Nat.eq_zero_or_pos m with rfl | h0
        · simp at hn;omega
        · exact h0
      rw [ih (n / 128) k _ (by rw [Nat.pow_succ] at hn;exact Nat.div_lt_of_lt_mul (by rw [Nat.mul_comm];exact hn)) h0 (by omega) (by omega) (by simp only [List.length_append,List.length_singleton];omega)]
      rw [List.append_assoc]
      congr 2
def Ap (n:Int):Str:=if 0≤n∧n≤1099511627776 then Iw 6 n.toNat else []
theorem JbH {N:Nat} (hN:20≤N) (n:Int):Za N n=some (Ap n):=by
  unfold Za Ap
  by_cases h:0≤n∧n≤1099511627776
  · obtain ⟨q, rfl⟩ : ∃ q : Nat, n = (q : Int) := ⟨n.toNat, by omega⟩
    rw [if_neg (by simp;omega),if_pos h,JbV 6 q N [] (Nat.lt_of_le_of_lt (m:=1099511627776) (by omega) (by decide)) (by decide) (by decide) (by omega) (by simp)]
    rfl
  · rw [if_pos (by simp;omega),if_neg h]
def Kr:Nat→Str→Nat→Nat→Nat→Int×Int×Int
  | 0,_,_,_,_=>(0,0,2)
  | _+1,[],_,_,_=>(0,0,6)
  | m + 1, b :: r, k, n, p =>
    if 128≤b.toNat then Kr m r (k+1) (n+b.toNat % 128 * 128 ^ k) (p+1)
    else if b.toNat=0∧0 < k then (0,0,8)
    else if 1099511627776 < n+b.toNat % 128 * 128 ^ k then (0,0,2)
    else (((n+b.toNat % 128 * 128 ^ k:Nat):Int),((p+1:Nat):Int),0)
theorem Qn {s:Str} {i:Nat} (h:i < s.length):Hw s (i:Int)=some ((s[i]'h).toNat:Int):=by
  unfold Hw;rw [Aw rfl h];rfl
theorem JdC (k:Nat):(2:Int) ^ (7 * k)=((128 ^ k:Nat):Int):=by
  induction k with
  | zero=>rfl
  | succ k ih=>rw [Nat.mul_succ,Int.pow_add,ih,Nat.pow_succ,Int.natCast_mul];rfl
theorem Jd8 {x k:Nat} (hx:x < 128) (hk:k≤5):Jai .i64 (x:Int) ((7 * k:Nat):Int)=some ((x * 128 ^ k:Nat):Int):=by
  unfold Jai
  rw [if_neg (by omega)]
  congr 1
  have e:(2:Int) ^ (min ((7 * k:Nat):Int).toNat (IntKind.bits .i64))=((128 ^ k:Nat):Int):=by
    have:min ((7 * k:Nat):Int).toNat (IntKind.bits .i64)=7 * k:=by
      rw [Int.toNat_natCast];show min (7 * k) 64=_;omega
    rw [this,JdC]
  rw [e,← Int.natCast_mul]
  have hp:128 ^ k≤128 ^ 5:=Nat.pow_le_pow_right (by decide) hk
  have hm:x * 128 ^ k≤127 * 128 ^ 5:=Nat.mul_le_mul (by omega) hp
  rw [w64 (by omega) (by have : (127 * 128 ^ 5 : Nat) = 4363686772736 := by decide
                         omega)]
theorem Jcm {k:Nat} (hk:k≤6):128 ^ k≤4398046511104:=Nat.le_trans (Nat.pow_le_pow_right (by decide) hk) (by decide)
theorem Jd3 {k:Nat} (hk:k≤5):128 ^ k≤34359738368:=Nat.le_trans (Nat.pow_le_pow_right (by decide) hk) (by decide)
theorem Jbx {n x k:Nat} (hn:n < 128 ^ k) (hx:x < 128):n+x * 128 ^ k < 128 ^ (k+1):=by
  have h1:x * 128 ^ k≤127 * 128 ^ k:=Nat.mul_le_mul_right _ (by omega)
  rw [Nat.pow_succ];omega
theorem Jb3 {N:Nat} {s:Str} (hs:s.length≤1000000) {a:Nat}:∀ (m k n j:Nat),m+k=6→a+k≤s.length→n < 128 ^ k→m < j→Z9 N Z8 s (a:Int) j (n:Int) (k:Int)=some (Kr m (s.drop (a+k)) k n (a+k)):=by
  intro m
  induction m with
  | zero =>
    intro k n j hk ha hn hj
    obtain ⟨j,rfl⟩:∃ q,j=q+1:=⟨j - 1,by omega⟩
    rw [Z9,if_neg (by omega),Kr];rfl
  | succ m ih =>
    intro k n j hk ha hn hj
    obtain ⟨j,rfl⟩:∃ q,j=q+1:=⟨j - 1,by omega⟩
    rw [Z9,if_pos (by omega),w64 (by omega) (by omega),← Int.natCast_add]
    by_cases h:a+k=s.length
    · rw [if_pos (by omega),List.drop_eq_nil_of_le (by omega),Kr]
    · have hl : a + k < s.length := by omega
      have hb:=(s[a+k]'hl).toNat_lt
      have h7:s[a+k].toNat % 128 < 128:=Nat.mod_lt _ (by decide)
      have hst:=Jbx (n:=n) (k:=k) hn h7
      have h6:=Jcm (k:=k+1) (by omega)
      rw [if_neg (by omega),Qn hl,List.drop_eq_getElem_cons hl,Kr]
      simp only [Option.bind_some]
      rw [w64 (n:=((s[a+k].toNat:Nat):Int)) (by omega) (by omega),Sj,w64 (n:=7 * (k:Int)) (by omega) (by omega),show (7 * (k:Int))=((7 * k:Nat):Int) from by omega,Jd8 h7 (by omega)]
      simp only [Option.bind_some]
      rw [w64 (by omega) (by omega),← Int.natCast_add]
      by_cases hc:128≤s[a+k].toNat
      · rw [if_pos (by omega), if_pos hc, w64 (by omega) (by omega)]
        exact ih (k+1) _ j (by omega) (by omega) hst (by omega)
      · rw [if_neg (by omega), if_neg hc]
        by_cases h0:s[a+k].toNat=0∧0 < k
        · rw [if_pos (by simp;omega),if_pos h0]
        · rw [if_neg (by simp; omega), if_neg h0]
          by_cases hx:1099511627776 < n+s[a+k].toNat % 128 * 128 ^ k
          · rw [if_pos (by omega),if_pos hx]
          · rw [if_neg (by omega),if_neg hx,w64 (by omega) (by omega)];rfl
theorem Ja1 {N:Nat} {s:Str} (hs:s.length≤1000000) {a:Nat}:∀ (m k n j:Nat),m+k=6→a+k≤s.length→n < 128 ^ k→m < j→Z84 N Z83 s (a:Int) j (n:Int) ((128 ^ k:Nat):Int) ((a+k:Nat):Int)=some (Kr m (s.drop (a+k)) k n (a+k)):=by
  intro m
  induction m with
  | zero =>
    intro k n j hk ha hn hj
    obtain ⟨j,rfl⟩:∃ q,j=q+1:=⟨j - 1,by omega⟩
    rw [Z84,w64 (by omega) (by omega),if_neg (by omega),Kr];rfl
  | succ m ih =>
    intro k n j hk ha hn hj
    obtain ⟨j,rfl⟩:∃ q,j=q+1:=⟨j - 1,by omega⟩
    rw [Z84,w64 (n:=(a:Int)+6) (by omega) (by omega),if_pos (by omega)]
    by_cases h:a+k=s.length
    · rw [if_pos (by omega),List.drop_eq_nil_of_le (by omega),Kr]
    · have hl : a + k < s.length := by omega
      have hb:=(s[a+k]'hl).toNat_lt
      have h7:s[a+k].toNat % 128 < 128:=Nat.mod_lt _ (by decide)
      have hst:=Jbx (n:=n) (k:=k) hn h7
      have h6:=Jcm (k:=k+1) (by omega)
      have h5:=Jd3 (k:=k) (by omega)
      rw [if_neg (by omega),Qn hl,List.drop_eq_getElem_cons hl,Kr]
      simp only [Option.bind_some]
      rw [w64 (n:=((s[a+k].toNat:Nat):Int)) (by omega) (by omega),Sj,← Int.natCast_mul,w64 (n:=((s[a+k].toNat % 128 * 128 ^ k:Nat):Int)) (by omega) (by omega),← Int.natCast_add,w64 (n:=((n+s[a+k].toNat % 128 * 128 ^ k:Nat):Int)) (by omega) (by omega)]
      by_cases hc:128≤s[a+k].toNat
      · rw [if_neg (by omega), if_pos hc, w64 (by omega) (by omega), w64 (by omega) (by omega)]
        rw [show (128:Int) * ((128 ^ k:Nat):Int)=((128 ^ (k+1):Nat):Int) from by rw [Nat.pow_succ];omega]
        exact ih (k+1) _ j (by omega) (by omega) hst (by omega)
      · rw [if_pos (by omega), if_neg hc]
        by_cases h0:s[a+k].toNat=0∧0 < k
        · rw [if_pos (by simp;omega),if_pos h0]
        · rw [if_neg (by simp; omega), if_neg h0]
          by_cases hx:1099511627776 < n+s[a+k].toNat % 128 * 128 ^ k
          · rw [if_pos (by omega),if_pos hx]
          · rw [if_neg (by omega),if_neg hx,w64 (by omega) (by omega)];rfl
def Rf (s:Str) (p:Int):Int×Int×Int:=if p < 0∨(s.length:Int) < p then (0,0,1) else Kr 6 (s.drop p.toNat) 0 0 p.toNat
theorem Xk {N:Nat} (hN:20≤N) {s:Str} (hs:s.length≤1000000) (p:Int):Z7 N s p=some (Rf s p):=by
  unfold Z7 Rf
  by_cases h:p < 0∨(s.length:Int) < p
  · rw [if_pos (by simp;omega),if_pos h]
  · rw [if_neg (by simp; omega), if_neg h]
    obtain ⟨q,rfl⟩:∃ q:Nat,p=(q:Int):=⟨p.toNat,by omega⟩
    exact Jb3 hs 6 0 0 N rfl (by omega) (by decide) (by omega)
theorem Uq {N:Nat} (hN:20≤N) {s:Str} (hs:s.length≤1000000) (p:Int):Z82 N s p=some (Rf s p):=by
  unfold Z82 Rf
  by_cases h:p < 0∨(s.length:Int) < p
  · rw [if_pos (by simp;omega),if_pos h]
  · rw [if_neg (by simp; omega), if_neg h]
    obtain ⟨q,rfl⟩:∃ q:Nat,p=(q:Int):=⟨p.toNat,by omega⟩
    exact Ja1 hs 6 0 0 N rfl (by omega) (by decide) (by omega)
end Go.MD.BINZ
