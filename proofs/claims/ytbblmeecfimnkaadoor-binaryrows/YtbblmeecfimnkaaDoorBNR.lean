/- Rows of numbers as bytes: BinaryRows. No condition: plain lemmas. -/
import Derived.Test.YtbblmeecfimnkaaDoorBNA
namespace Go.MD.BIN
open Go Go.MD
theorem u8n {n:Nat} (h:n < 256):(UInt8.ofNat n).toNat=n:=by rw [UInt8.toNat_ofNat'];exact Nat.mod_eq_of_lt h
theorem getL_put:∀ (m n k acc p:Nat) (rest:Str),n < 128 ^ m→(0 < k→0 < n)→0 < m→acc+n * 128 ^ k≤1099511627776→getL m (putL m n ++ rest) k acc p=(((acc+n * 128 ^ k:Nat):Int),((p+(putL m n).length:Nat):Int),0):=by
  intro m
  induction m with
  | zero=>intro n k acc p rest _ _ h0;omega
  | succ m ih =>
    intro n k acc p rest hn hk _ ha
    rw [putL]
    by_cases h:n < 128
    · rw [if_pos h, List.cons_append, getL, u8n (by omega), if_neg (by omega), if_neg (by omega), Nat.mod_eq_of_lt h, if_neg (by omega)]
      rfl
    · have hb : n % 128 < 128 := Nat.mod_lt _ (by decide)
      have h0:0 < m:=by
        rcases Nat.eq_zero_or_pos m with rfl | h0
        · simp at hn;omega
        · exact h0
      rw [if_neg h,List.cons_append,getL,u8n (by omega),if_pos (by omega)]
      have e:(n % 128+128) % 128=n % 128:=by omega
      have e2:acc+n % 128 * 128 ^ k+n / 128 * 128 ^ (k+1)=acc+n * 128 ^ k:=by
        have:n * 128 ^ k=(n % 128+n / 128 * 128) * 128 ^ k:=by congr 1;omega
        rw [this,Nat.add_mul,Nat.pow_succ,Nat.mul_assoc (n / 128),Nat.mul_comm 128 (128 ^ k)];omega
      rw [e,ih (n / 128) (k+1) (acc+n % 128 * 128 ^ k) (p+1) rest (by rw [Nat.pow_succ] at hn;exact Nat.div_lt_of_lt_mul (by rw [Nat.mul_comm];exact hn)) (by omega) h0 (by rw [e2];exact ha),e2]
      simp only [List.length_cons]
      rw [show p+1+(putL m (n / 128)).length=p+((putL m (n / 128)).length+1) from by omega]
theorem putL_pos {m n:Nat} (hm:0 < m):1≤(putL m n).length:=by
  obtain ⟨m,rfl⟩:∃ q,m=q+1:=⟨m - 1,by omega⟩
  rw [putL];split <;> simp
theorem putL_low:∀ (m n:Nat),(putL m n).length≤1∨128 ^ ((putL m n).length - 1)≤n:=by
  intro m
  induction m with
  | zero=>intro n;left;simp [putL]
  | succ m ih =>
    intro n
    rw [putL]
    by_cases h:n < 128
    · rw [if_pos h];left;simp
    · rw [if_neg h]
      simp only [List.length_cons,Nat.add_sub_cancel]
      rcases Nat.lt_or_ge 1 (putL m (n / 128)).length with h1 | h1
      · right
        rcases ih (n / 128) with h2 | h2
        · omega
        · have h3 := (Nat.le_div_iff_mul_le (by decide : 0 < 128)).1 h2
          rw [← Nat.pow_succ] at h3
          rw [show (putL m (n / 128)).length=((putL m (n / 128)).length - 1).succ from by omega]
          exact h3
      · rcases Nat.eq_or_lt_of_le h1 with h2 | h2
        · right;rw [h2];omega
        · left;omega
def pl (xs:List Nat):Str:=xs.flatMap (putL 6)
def ni (xs:List Nat):List Int:=xs.map fun (x:Nat)=>(x:Int)
theorem pl_len:∀ xs:List Nat,(pl xs).length≤6 * xs.length
  | []=>by simp [pl]
  | x :: r => by
    have:=pl_len r
    have h:=putL_len 6 x
    simp only [pl,List.flatMap_cons,List.length_append,List.length_cons] at this ⊢
    omega
theorem pl_app (a b:List Nat):pl (a ++ b)=pl a ++ pl b:=by simp [pl]
theorem get_pl {a b:List Nat} {x:Nat} (hx:x≤1099511627776):getS (pl (a ++ x :: b)) (((pl a).length:Nat):Int)=((x:Int),(((pl a).length+(putL 6 x).length:Nat):Int),0):=by
  unfold getS
  rw [pl_app,if_neg (by rw [List.length_append];omega),Int.toNat_natCast,List.drop_append_of_le_length (Nat.le_refl _),List.drop_length,List.nil_append]
  have e:pl (x :: b)=putL 6 x ++ pl b:=by simp [pl]
  rw [e, getL_put 6 x 0 0 _ _ (by have : (128 : Nat) ^ 6 = 4398046511104 := by decide
                                  omega) (by omega) (by decide) (by omega)]
  simp
theorem rows_l5 {xs:List Nat} (hx:∀ x∈xs,x≤1099511627776) (hn:xs.length≤40):∀ (b a:List Nat) (k:Nat),a ++ b=xs→b.length < k→Z1n 1001 (Z1k 1001 (pl xs)) (pl xs) (ni xs) k (((pl a).length:Nat):Int) ((a.length:Nat):Int)=some true:=by
  intro b
  have hl:=pl_len xs
  induction b with
  | nil =>
    intro a k ha hk
    obtain ⟨k,rfl⟩:∃ q,k=q+1:=⟨k - 1,by omega⟩
    rw [List.append_nil] at ha
    subst ha
    rw [Z1n,if_neg (by simp [ni]),Z1k,if_pos rfl]
    exact fix_b10
  | cons x b ih =>
    intro a k ha hk
    obtain ⟨k,rfl⟩:∃ q,k=q+1:=⟨k - 1,by omega⟩
    have hxx:x≤1099511627776:=hx x (by rw [← ha];simp)
    have hla:a.length < xs.length:=by rw [← ha];simp
    have hpos:=putL_pos (m:=6) (n:=x) (by decide)
    have hge:getI (ni xs) ((a.length:Nat):Int)=some (x:Int):=by
      rw [getI_nat,← ha];simp [ni]
    rw [Z1n,if_pos (by simp [ni];omega),Get_eq (by omega),← ha,get_pl hxx,ha]
    simp only [Option.bind_some]
    rw [if_neg (by simp),hge]
    simp only [Option.bind_some]
    rw [Z1l,sure_ok (by simp;omega)]
    simp only [Option.bind_some]
    rw [wsucc hla (by omega)]
    have:=ih (a ++ [x]) k (by rw [← ha];simp) (by simpa using hk)
    rw [pl_app] at this
    simp only [List.length_append,List.length_cons,List.length_nil,Nat.zero_add] at this
    rw [show (pl [x]).length=(putL 6 x).length from by simp [pl]] at this
    exact this
theorem rows_l2 {p1:List Int}:∀ (d:Nat) (xs:List Nat) (k:Nat),xs.length+d=min p1.length 40→(∀ x∈xs,x≤1099511627776)→d < k→Z1m 1001 (Z1i 1001) p1 k (pl xs) (ni xs) ((xs.length:Nat):Int)=some true:=by
  intro d
  induction d with
  | zero =>
    intro xs k hd hx hk
    obtain ⟨k,rfl⟩:∃ q,k=q+1:=⟨k - 1,by omega⟩
    rw [Z1m,if_neg (by simp;omega),Z1i]
    exact rows_l5 hx (by omega) xs [] 1001 rfl (by omega)
  | succ d ih =>
    intro xs k hd hx hk
    obtain ⟨k,rfl⟩:∃ q,k=q+1:=⟨k - 1,by omega⟩
    have hj:xs.length < p1.length:=by omega
    rw [Z1m,if_pos (by simp;omega),getI_at rfl hj]
    simp only [Option.bind_some]
    have hi:=iand_in (x:=p1[xs.length]) (m:=1099511627775) (by decide)
    generalize hz:iand .i64 p1[xs.length] ((1099511627775:Nat):Int)=z at hi
    obtain ⟨q,rfl⟩:∃ q:Nat,z=(q:Int):=⟨z.toNat,by omega⟩
    have hl:=pl_len xs
    rw [appG_ok (by simp [ni];omega) (by decide),Put_eq]
    simp only [Option.bind_some]
    have e:putS (q:Int)=putL 6 q:=by unfold putS;rw [if_pos (by omega)];rfl
    have h6:=putL_len 6 q
    have h1:=putL_pos (m:=6) (n:=q) (by decide)
    have hrec:=ih (xs ++ [q]) k (by simp;omega) (by
      intro x hx'
      rcases List.mem_append.1 hx' with h | h
      · exact hx x h
      · simp at h;omega) (by omega)
    rw [pl_app,show pl [q]=putL 6 q from by simp [pl],show ni (xs ++ [q])=ni xs ++ [(q:Int)] from by simp [ni],show ((xs ++ [q]).length:Nat)=xs.length+1 from by simp] at hrec
    have hfin:Z1j (Z1m 1001 (Z1i 1001) p1 k) (ni xs ++ [(q:Int)]) (putL 6 q) (pl xs) ((xs.length:Nat):Int) false=some true:=by
      rw [Z1j,show sure (!false)=some () from rfl]
      simp only [Option.bind_some]
      rw [catG_ok (by omega)]
      simp only [Option.bind_some]
      rw [wsucc (n:=40) (by omega) (by decide)]
      exact hrec
    rw [e,if_neg (by simp;omega)]
    by_cases h2:1 < (putL 6 q).length
    · have hlow := putL_low 6 q
      rw [if_pos (by omega),w64 (n:=7 * (((putL 6 q).length:Nat):Int)) (by omega) (by omega),w64 (by omega) (by omega)]
      rw [show (7 * (((putL 6 q).length:Nat):Int) - 7)=((7 * ((putL 6 q).length - 1):Nat):Int) from by omega]
      have:=shl7 (x:=1) (k:=(putL 6 q).length - 1) (by decide) (by omega)
      rw [show ((1:Nat):Int)=1 from rfl] at this
      rw [this]
      simp only [Option.bind_some]
      have:decide ((q:Int) < ((1 * 128 ^ ((putL 6 q).length - 1):Nat):Int))=false:=by
        rw [decide_eq_false_iff_not,Nat.one_mul]
        rcases hlow with h | h
        · omega
        · omega
      rw [this]
      exact hfin
    · rw [if_neg (by omega)]
      exact hfin
theorem BinaryRows_eq (p1:List Int):Z1h 1001 p1=some true:=by
  unfold Z1h
  exact rows_l2 (p1:=p1) (min p1.length 40) [] 1001 (by simp) (by simp) (by omega)
end Go.MD.BIN
