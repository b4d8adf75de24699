/- What the walks of the seat binz lean on. No condition: closed facts, by program. -/
import Derived.Test.YtbblmeecfimnkaaGreatDoorLM
import Derived.Test.YtbblmeecfimnkaaGreatDoorBMP
import Derived.Test.YtbblmeecfimnkaaGreatDoorProg
import Derived.KernelRfl
import Derived.Laws.StructEq
import Derived.Test.YtbblmeecfimnkaaGreatDoorLQ
import Derived.Test.YtbblmeecfimnkaaGreatDoorLG
import Derived.Test.YtbblmeecfimnkaaGreatDoorLPd
import Derived.Test.YtbblmeecfimnkaaGreatDoorLPt
import Derived.Test.YtbblmeecfimnkaaGreatDoorBLp
import Derived.Lib.Builder
import Derived.Lib.AppendStr
import Derived.Lib.UnsafeStr
import Derived.WalkKit
import Derived.Laws.Externs
import Derived.Tactics2
import Derived.Recover
import Derived.Test.YtbblmeecfimnkaaGreatDoorBMS
namespace Go.LM.BINZ
open Go Go.LL Go.MD Go.LM Go.Proofs Go.MD.BINZ
theorem wide:Tryz.prog.follows .mixedOrders=true:=by kernel_rfl
theorem Tw:(Tryz.prog.info? 3).map (fun i=>(i.zero,i.size,i.bytes))=some (some (.int .i64 0),1,8):=by kernel_rfl
theorem Qh:(Tryz.prog.info? 9).map (fun i=>(i.zero,i.size,i.bytes))=some (some (.string ⟨#[]⟩),1,16):=by kernel_rfl
theorem Jab:(Tryz.prog.info? 26).map (fun i=>(i.zero,i.size,i.bytes))=some (some (.agg #[.int .i64 0,.int .i64 0,.slice none 0 0]),3,40):=by kernel_rfl
theorem JbO:(Tryz.prog.info? 44).map (fun i=>(i.zero,i.size,i.bytes))=some (some (.slice none 0 0),1,24):=by kernel_rfl
theorem Ys:(Tryz.prog.info? 54).map (fun i=>(i.zero,i.size,i.bytes))=some (some (.slice none 0 0),1,24):=by kernel_rfl
theorem Sf:(Tryz.prog.info? 83).map (fun i=>(i.zero,i.size,i.bytes))=some (some (.agg #[.int .i64 0,.int .i64 0]),2,16):=by kernel_rfl
theorem Ge:(Tryz.prog.info? 85).map (fun i=>(i.zero,i.size,i.bytes))=some (some (.agg #[.int .i64 0,.int .i64 0,.int .i64 0,.slice none 0 0,.slice none 0 0,.int .i64 0]),6,80):=by kernel_rfl
theorem JbM:(Tryz.prog.info? 99).map (fun i=>(i.zero,i.size,i.bytes))=some (some (.agg #[.slice none 0 0,.int .i64 0]),2,32):=by kernel_rfl
theorem Oq:(Tryz.prog.info? 108).map (fun i=>(i.zero,i.size,i.bytes))=some (some (.agg #[.string ⟨#[]⟩,.slice none 0 0,.slice none 0 0,.int .i64 0]),4,72):=by kernel_rfl
theorem Ip:(Tryz.prog.info? 130).map (fun i=>(i.zero,i.size,i.bytes))=some (some (.agg #[.string ⟨#[]⟩,.int .i64 0,.int .i64 0]),3,32):=by kernel_rfl
theorem JaX:(Tryz.prog.info? 133).map (fun i=>(i.zero,i.size,i.bytes))=some (some (.agg #[.int .i64 0,.int .i64 0,.string ⟨#[]⟩,.int .i64 0]),4,40):=by kernel_rfl
theorem JaW:(Tryz.prog.info? 140).map (fun i=>(i.zero,i.size,i.bytes))=some (some (.agg #[.int .i64 0,.string ⟨#[]⟩,.string ⟨#[]⟩,.slice none 0 0,.slice none 0 0,.int .i64 0,.int .i64 0,.int .i64 0,.int .i64 0]),9,120):=by kernel_rfl
theorem Cz (ad:Addr) (w:World):(Instr.fieldAt 26 (.pointer (some ad)) 0).run Tryz.prog w=.ok (.pointer (some (ad.add 0))) w:=by kernel_rfl
theorem Gg (ad:Addr) (w:World):(Instr.fieldAt 26 (.pointer (some ad)) 1).run Tryz.prog w=.ok (.pointer (some (ad.add 1))) w:=by kernel_rfl
theorem Ch (ad:Addr) (w:World):(Instr.fieldAt 26 (.pointer (some ad)) 2).run Tryz.prog w=.ok (.pointer (some (ad.add 2))) w:=by kernel_rfl
theorem Cc (ad:Addr) (w:World):(Instr.fieldAt 29 (.pointer (some ad)) 0).run Tryz.prog w=.ok (.pointer (some (ad.add 0))) w:=by kernel_rfl
theorem Cr (ad:Addr) (w:World):(Instr.fieldAt 29 (.pointer (some ad)) 1).run Tryz.prog w=.ok (.pointer (some (ad.add 1))) w:=by kernel_rfl
theorem Ei (ad:Addr) (w:World):(Instr.fieldAt 29 (.pointer (some ad)) 2).run Tryz.prog w=.ok (.pointer (some (ad.add 2))) w:=by kernel_rfl
theorem Fa (ad:Addr) (w:World):(Instr.fieldAt 29 (.pointer (some ad)) 3).run Tryz.prog w=.ok (.pointer (some (ad.add 3))) w:=by kernel_rfl
theorem Cg (ad:Addr) (w:World):(Instr.fieldAt 29 (.pointer (some ad)) 4).run Tryz.prog w=.ok (.pointer (some (ad.add 4))) w:=by kernel_rfl
theorem Hk (ad:Addr) (w:World):(Instr.fieldAt 29 (.pointer (some ad)) 5).run Tryz.prog w=.ok (.pointer (some (ad.add 5))) w:=by kernel_rfl
theorem Dm (ad:Addr) (w:World):(Instr.fieldAt 29 (.pointer (some ad)) 6).run Tryz.prog w=.ok (.pointer (some (ad.add 8))) w:=by kernel_rfl
theorem Dl (ad:Addr) (w:World):(Instr.fieldAt 48 (.pointer (some ad)) 0).run Tryz.prog w=.ok (.pointer (some (ad.add 0))) w:=by kernel_rfl
theorem H5 (ad:Addr) (w:World):(Instr.fieldAt 48 (.pointer (some ad)) 1).run Tryz.prog w=.ok (.pointer (some (ad.add 1))) w:=by kernel_rfl
theorem Hz (ad:Addr) (w:World):(Instr.fieldAt 48 (.pointer (some ad)) 2).run Tryz.prog w=.ok (.pointer (some (ad.add 2))) w:=by kernel_rfl
theorem Fz (ad:Addr) (w:World):(Instr.fieldAt 48 (.pointer (some ad)) 3).run Tryz.prog w=.ok (.pointer (some (ad.add 3))) w:=by kernel_rfl
theorem Ks (ad:Addr) (w:World):(Instr.fieldAt 48 (.pointer (some ad)) 4).run Tryz.prog w=.ok (.pointer (some (ad.add 4))) w:=by kernel_rfl
theorem Ef (ad:Addr) (w:World):(Instr.fieldAt 48 (.pointer (some ad)) 5).run Tryz.prog w=.ok (.pointer (some (ad.add 5))) w:=by kernel_rfl
theorem Jal (ad:Addr) (w:World):(Instr.fieldAt 60 (.pointer (some ad)) 0).run Tryz.prog w=.ok (.pointer (some (ad.add 0))) w:=by kernel_rfl
theorem Yz (ad:Addr) (w:World):(Instr.fieldAt 70 (.pointer (some ad)) 0).run Tryz.prog w=.ok (.pointer (some (ad.add 0))) w:=by kernel_rfl
theorem Jam (ad:Addr) (w:World):(Instr.fieldAt 70 (.pointer (some ad)) 1).run Tryz.prog w=.ok (.pointer (some (ad.add 1))) w:=by kernel_rfl
theorem Eb (ad:Addr) (w:World):(Instr.fieldAt 83 (.pointer (some ad)) 0).run Tryz.prog w=.ok (.pointer (some (ad.add 0))) w:=by kernel_rfl
theorem F8 (ad:Addr) (w:World):(Instr.fieldAt 83 (.pointer (some ad)) 1).run Tryz.prog w=.ok (.pointer (some (ad.add 1))) w:=by kernel_rfl
theorem Ca (ad:Addr) (w:World):(Instr.fieldAt 85 (.pointer (some ad)) 0).run Tryz.prog w=.ok (.pointer (some (ad.add 0))) w:=by kernel_rfl
theorem Ck (ad:Addr) (w:World):(Instr.fieldAt 85 (.pointer (some ad)) 1).run Tryz.prog w=.ok (.pointer (some (ad.add 1))) w:=by kernel_rfl
theorem Ce (ad:Addr) (w:World):(Instr.fieldAt 85 (.pointer (some ad)) 2).run Tryz.prog w=.ok (.pointer (some (ad.add 2))) w:=by kernel_rfl
theorem Cv (ad:Addr) (w:World):(Instr.fieldAt 85 (.pointer (some ad)) 3).run Tryz.prog w=.ok (.pointer (some (ad.add 3))) w:=by kernel_rfl
theorem Dv (ad:Addr) (w:World):(Instr.fieldAt 85 (.pointer (some ad)) 4).run Tryz.prog w=.ok (.pointer (some (ad.add 4))) w:=by kernel_rfl
theorem Bq (ad:Addr) (w:World):(Instr.fieldAt 85 (.pointer (some ad)) 5).run Tryz.prog w=.ok (.pointer (some (ad.add 5))) w:=by kernel_rfl
theorem Ow (ad:Addr) (w:World):(Instr.fieldAt 99 (.pointer (some ad)) 0).run Tryz.prog w=.ok (.pointer (some (ad.add 0))) w:=by kernel_rfl
theorem Sg (ad:Addr) (w:World):(Instr.fieldAt 99 (.pointer (some ad)) 1).run Tryz.prog w=.ok (.pointer (some (ad.add 1))) w:=by kernel_rfl
theorem Ft (ad:Addr) (w:World):(Instr.fieldAt 108 (.pointer (some ad)) 0).run Tryz.prog w=.ok (.pointer (some (ad.add 0))) w:=by kernel_rfl
theorem Cp (ad:Addr) (w:World):(Instr.fieldAt 108 (.pointer (some ad)) 1).run Tryz.prog w=.ok (.pointer (some (ad.add 1))) w:=by kernel_rfl
theorem Hv (ad:Addr) (w:World):(Instr.fieldAt 108 (.pointer (some ad)) 2).run Tryz.prog w=.ok (.pointer (some (ad.add 2))) w:=by kernel_rfl
theorem Kg (ad:Addr) (w:World):(Instr.fieldAt 108 (.pointer (some ad)) 3).run Tryz.prog w=.ok (.pointer (some (ad.add 3))) w:=by kernel_rfl
theorem Hl (ad:Addr) (w:World):(Instr.fieldAt 130 (.pointer (some ad)) 0).run Tryz.prog w=.ok (.pointer (some (ad.add 0))) w:=by kernel_rfl
theorem Kf (ad:Addr) (w:World):(Instr.fieldAt 130 (.pointer (some ad)) 1).run Tryz.prog w=.ok (.pointer (some (ad.add 1))) w:=by kernel_rfl
theorem Ts (ad:Addr) (w:World):(Instr.fieldAt 130 (.pointer (some ad)) 2).run Tryz.prog w=.ok (.pointer (some (ad.add 2))) w:=by kernel_rfl
theorem Co (ad:Addr) (w:World):(Instr.fieldAt 133 (.pointer (some ad)) 0).run Tryz.prog w=.ok (.pointer (some (ad.add 0))) w:=by kernel_rfl
theorem Et (ad:Addr) (w:World):(Instr.fieldAt 133 (.pointer (some ad)) 1).run Tryz.prog w=.ok (.pointer (some (ad.add 1))) w:=by kernel_rfl
theorem Eu (ad:Addr) (w:World):(Instr.fieldAt 133 (.pointer (some ad)) 2).run Tryz.prog w=.ok (.pointer (some (ad.add 2))) w:=by kernel_rfl
theorem Ht (ad:Addr) (w:World):(Instr.fieldAt 133 (.pointer (some ad)) 3).run Tryz.prog w=.ok (.pointer (some (ad.add 3))) w:=by kernel_rfl
theorem Cm (ad:Addr) (w:World):(Instr.fieldAt 140 (.pointer (some ad)) 0).run Tryz.prog w=.ok (.pointer (some (ad.add 0))) w:=by kernel_rfl
theorem Ek (ad:Addr) (w:World):(Instr.fieldAt 140 (.pointer (some ad)) 1).run Tryz.prog w=.ok (.pointer (some (ad.add 1))) w:=by kernel_rfl
theorem Fj (ad:Addr) (w:World):(Instr.fieldAt 140 (.pointer (some ad)) 2).run Tryz.prog w=.ok (.pointer (some (ad.add 2))) w:=by kernel_rfl
theorem Fs (ad:Addr) (w:World):(Instr.fieldAt 140 (.pointer (some ad)) 3).run Tryz.prog w=.ok (.pointer (some (ad.add 3))) w:=by kernel_rfl
theorem Im (ad:Addr) (w:World):(Instr.fieldAt 140 (.pointer (some ad)) 4).run Tryz.prog w=.ok (.pointer (some (ad.add 4))) w:=by kernel_rfl
theorem Kc (ad:Addr) (w:World):(Instr.fieldAt 140 (.pointer (some ad)) 5).run Tryz.prog w=.ok (.pointer (some (ad.add 5))) w:=by kernel_rfl
theorem Fo (ad:Addr) (w:World):(Instr.fieldAt 140 (.pointer (some ad)) 6).run Tryz.prog w=.ok (.pointer (some (ad.add 6))) w:=by kernel_rfl
theorem Dq (ad:Addr) (w:World):(Instr.fieldAt 140 (.pointer (some ad)) 7).run Tryz.prog w=.ok (.pointer (some (ad.add 7))) w:=by kernel_rfl
theorem Hp (ad:Addr) (w:World):(Instr.fieldAt 140 (.pointer (some ad)) 8).run Tryz.prog w=.ok (.pointer (some (ad.add 8))) w:=by kernel_rfl
theorem Ol (ad:Addr) (w:World):(Instr.fieldAt 144 (.pointer (some ad)) 0).run Tryz.prog w=.ok (.pointer (some (ad.add 0))) w:=by kernel_rfl
theorem Lr (ad:Addr) (w:World):(Instr.fieldAt 144 (.pointer (some ad)) 1).run Tryz.prog w=.ok (.pointer (some (ad.add 6))) w:=by kernel_rfl
theorem Wt (v:Value) (w:World):(Instr.makeInterface 31 v).run Tryz.prog w=.ok (.iface 31 v) w:=by kernel_rfl
instance:Enc api_Op:=Enc.via (β:=Int×Int) 2 rfl fun x=>(x.Kind,x.N)
theorem Cs {h:PH} {cs:List Value} {x:api_Op} (hx:Enc.rep h cs x):cs=[.int .i64 x.Kind,.int .i64 x.N]:=by
  have hx:Enc.rep (α:=Int×Int) h cs (x.Kind,x.N):=hx
  obtain ⟨q0,r0,e0,g0,hx⟩:=hx
  have w0:=g0
  have w1:=hx
  exact (by rw [e0,w0,w1];rfl)
instance:EncF api_Op:={ ind:=fun h=>EncF.ind (α:=Int×Int) h }
instance:Enc api_Instr:=Enc.via (β:=Int×Int×Int×(List api_Op)×(List api_Op)×Int) 6 rfl fun x=>(x.Kind,x.A,x.B,x.E,x.F,x.To)
theorem Au {h:PH} {cs:List Value} {x:api_Instr} (hx:Enc.rep h cs x):∃ (o3:Option Addr) (c3:Nat) (o4:Option Addr) (c4:Nat),cs=[.int .i64 x.Kind,.int .i64 x.A,.int .i64 x.B,.slice o3 x.E.length c3,.slice o4 x.F.length c4,.int .i64 x.To]∧x.E.length≤c3∧SR h o3 x.E∧x.F.length≤c4∧SR h o4 x.F:=by
  have hx:Enc.rep (α:=Int×Int×Int×(List api_Op)×(List api_Op)×Int) h cs (x.Kind,x.A,x.B,x.E,x.F,x.To):=hx
  obtain ⟨q0,r0,e0,g0,hx⟩:=hx
  obtain ⟨q1,r1,e1,g1,hx⟩:=hx
  obtain ⟨q2,r2,e2,g2,hx⟩:=hx
  obtain ⟨q3,r3,e3,g3,hx⟩:=hx
  obtain ⟨q4,r4,e4,g4,hx⟩:=hx
  have w0:=g0
  have w1:=g1
  have w2:=g2
  obtain ⟨o3,c3,w3,y3,z3⟩:=g3
  obtain ⟨o4,c4,w4,y4,z4⟩:=g4
  have w5:=hx
  exact ⟨o3,c3,o4,c4,by rw [e0,w0,e1,w1,e2,w2,e3,w3,e4,w4,w5];rfl,y3,z3,y4,z4⟩
instance:Enc api_Code:=Enc.via (β:=Int×Int×(List api_Instr)) 3 rfl fun x=>(x.Regs,x.Counts,x.L)
theorem Am {h:PH} {cs:List Value} {x:api_Code} (hx:Enc.rep h cs x):∃ (o2:Option Addr) (c2:Nat),cs=[.int .i64 x.Regs,.int .i64 x.Counts,.slice o2 x.L.length c2]∧x.L.length≤c2∧SR h o2 x.L:=by
  have hx:Enc.rep (α:=Int×Int×(List api_Instr)) h cs (x.Regs,x.Counts,x.L):=hx
  obtain ⟨q0,r0,e0,g0,hx⟩:=hx
  obtain ⟨q1,r1,e1,g1,hx⟩:=hx
  have w0:=g0
  have w1:=g1
  obtain ⟨o2,c2,w2,y2,z2⟩:=hx
  exact ⟨o2,c2,by rw [e0,w0,e1,w1,w2];rfl,y2,z2⟩
instance:Enc api_Unit:=Enc.via (β:=(List Int)×Int×(List Int)×Int×(List api_Code)×api_Code×(List (List api_Op))) 9 rfl fun x=>(x.Lines,x.Stays,x.Firsts,x.Locks,x.Threads,x.Recover,x.Claims)
instance:Enc binary_reader:=Enc.via (β:=Str×Int) 2 rfl fun x=>(x.s,x.at')
instance:EncF binary_reader:={ ind:=fun h=>EncF.ind (α:=Str×Int) h }
instance:Enc leadlineref10_In:=Enc.via (β:=Str×Int×Bool) 3 rfl fun x=>(x.S,x.At,x.Bad)
instance:EncF leadlineref10_In:={ ind:=fun h=>EncF.ind (α:=Str×Int×Bool) h }
instance:Enc api_Cell:=Enc.via (β:=Str×Int×Int) 3 rfl fun x=>(x.Name,x.N,x.At)
theorem Dx {h:PH} {cs:List Value} {x:api_Cell} (hx:Enc.rep h cs x):cs=[Ag x.Name,.int .i64 x.N,.int .i64 x.At]:=by
  have hx:Enc.rep (α:=Str×Int×Int) h cs (x.Name,x.N,x.At):=hx
  obtain ⟨q0,r0,e0,g0,hx⟩:=hx
  obtain ⟨q1,r1,e1,g1,hx⟩:=hx
  have w0:=g0
  have w1:=g1
  have w2:=hx
  exact (by rw [e0,w0,e1,w1,w2];rfl)
instance:EncF api_Cell:={ ind:=fun h=>EncF.ind (α:=Str×Int×Int) h }
instance:Enc api_Node:=Enc.via (β:=Int×Int×Str×Int) 4 rfl fun x=>(x.Op,x.N,x.Name,x.At)
theorem Bw {h:PH} {cs:List Value} {x:api_Node} (hx:Enc.rep h cs x):cs=[.int .i64 x.Op,.int .i64 x.N,Ag x.Name,.int .i64 x.At]:=by
  have hx:Enc.rep (α:=Int×Int×Str×Int) h cs (x.Op,x.N,x.Name,x.At):=hx
  obtain ⟨q0,r0,e0,g0,hx⟩:=hx
  obtain ⟨q1,r1,e1,g1,hx⟩:=hx
  obtain ⟨q2,r2,e2,g2,hx⟩:=hx
  have w0:=g0
  have w1:=g1
  have w2:=g2
  have w3:=hx
  exact (by rw [e0,w0,e1,w1,e2,w2,w3];rfl)
instance:EncF api_Node:={ ind:=fun h=>EncF.ind (α:=Int×Int×Str×Int) h }
instance:Enc api_Stmt:=Enc.via (β:=Int×Str×Str×(List api_Node)×(List api_Node)×Int×Int×Int×Int) 9 rfl fun x=>(x.Kind,x.Reg,x.Name,x.E,x.F,x.N,x.Body,x.Else,x.At)
theorem Bs {h:PH} {cs:List Value} {x:api_Stmt} (hx:Enc.rep h cs x):∃ (o3:Option Addr) (c3:Nat) (o4:Option Addr) (c4:Nat),cs=[.int .i64 x.Kind,Ag x.Reg,Ag x.Name,.slice o3 x.E.length c3,.slice o4 x.F.length c4,.int .i64 x.N,.int .i64 x.Body,.int .i64 x.Else,.int .i64 x.At]∧x.E.length≤c3∧SR h o3 x.E∧x.F.length≤c4∧SR h o4 x.F:=by
  have hx:Enc.rep (α:=Int×Str×Str×(List api_Node)×(List api_Node)×Int×Int×Int×Int) h cs (x.Kind,x.Reg,x.Name,x.E,x.F,x.N,x.Body,x.Else,x.At):=hx
  obtain ⟨q0,r0,e0,g0,hx⟩:=hx
  obtain ⟨q1,r1,e1,g1,hx⟩:=hx
  obtain ⟨q2,r2,e2,g2,hx⟩:=hx
  obtain ⟨q3,r3,e3,g3,hx⟩:=hx
  obtain ⟨q4,r4,e4,g4,hx⟩:=hx
  obtain ⟨q5,r5,e5,g5,hx⟩:=hx
  obtain ⟨q6,r6,e6,g6,hx⟩:=hx
  obtain ⟨q7,r7,e7,g7,hx⟩:=hx
  have w0:=g0
  have w1:=g1
  have w2:=g2
  obtain ⟨o3,c3,w3,y3,z3⟩:=g3
  obtain ⟨o4,c4,w4,y4,z4⟩:=g4
  have w5:=g5
  have w6:=g6
  have w7:=g7
  have w8:=hx
  exact ⟨o3,c3,o4,c4,by rw [e0,w0,e1,w1,e2,w2,e3,w3,e4,w4,e5,w5,e6,w6,e7,w7,w8];rfl,y3,z3,y4,z4⟩
instance:Enc api_Thread:=Enc.via (β:=Str×(List Str)×(List api_Stmt)×Int) 4 rfl fun x=>(x.Name,x.Regs,x.Body,x.At)
theorem Bg {h:PH} {cs:List Value} {x:api_Thread} (hx:Enc.rep h cs x):∃ (o1:Option Addr) (c1:Nat) (o2:Option Addr) (c2:Nat),cs=[Ag x.Name,.slice o1 x.Regs.length c1,.slice o2 x.Body.length c2,.int .i64 x.At]∧x.Regs.length≤c1∧SR h o1 x.Regs∧x.Body.length≤c2∧SR h o2 x.Body:=by
  have hx:Enc.rep (α:=Str×(List Str)×(List api_Stmt)×Int) h cs (x.Name,x.Regs,x.Body,x.At):=hx
  obtain ⟨q0,r0,e0,g0,hx⟩:=hx
  obtain ⟨q1,r1,e1,g1,hx⟩:=hx
  obtain ⟨q2,r2,e2,g2,hx⟩:=hx
  have w0:=g0
  obtain ⟨o1,c1,w1,y1,z1⟩:=g1
  obtain ⟨o2,c2,w2,y2,z2⟩:=g2
  have w3:=hx
  exact ⟨o1,c1,o2,c2,by rw [e0,w0,e1,w1,e2,w2,w3];rfl,y1,z1,y2,z2⟩
instance:Enc api_Claim:=Enc.via (β:=(List api_Node)×Int) 2 rfl fun x=>(x.E,x.At)
theorem Eh {h:PH} {cs:List Value} {x:api_Claim} (hx:Enc.rep h cs x):∃ (o0:Option Addr) (c0:Nat),cs=[.slice o0 x.E.length c0,.int .i64 x.At]∧x.E.length≤c0∧SR h o0 x.E:=by
  have hx:Enc.rep (α:=(List api_Node)×Int) h cs (x.E,x.At):=hx
  obtain ⟨q0,r0,e0,g0,hx⟩:=hx
  obtain ⟨o0,c0,w0,y0,z0⟩:=g0
  have w1:=hx
  exact ⟨o0,c0,by rw [e0,w0,w1];rfl,y0,z0⟩
instance:Enc api_Prog:=Enc.via (β:=(List (List api_Cell))×(List api_Cell)×(List api_Cell)×(List api_Thread)×(List api_Thread)×(List api_Claim)) 6 rfl fun x=>(x.Lines,x.Vols,x.Locks,x.Threads,x.Recover,x.Claims)
theorem Bc {h:PH} {cs:List Value} {x:api_Prog} (hx:Enc.rep h cs x):∃ (o0:Option Addr) (c0:Nat) (o1:Option Addr) (c1:Nat) (o2:Option Addr) (c2:Nat) (o3:Option Addr) (c3:Nat) (o4:Option Addr) (c4:Nat) (o5:Option Addr) (c5:Nat),cs=[.slice o0 x.Lines.length c0,.slice o1 x.Vols.length c1,.slice o2 x.Locks.length c2,.slice o3 x.Threads.length c3,.slice o4 x.Recover.length c4,.slice o5 x.Claims.length c5]∧x.Lines.length≤c0∧SR h o0 x.Lines∧x.Vols.length≤c1∧SR h o1 x.Vols∧x.Locks.length≤c2∧SR h o2 x.Locks∧x.Threads.length≤c3∧SR h o3 x.Threads∧x.Recover.length≤c4∧SR h o4 x.Recover∧x.Claims.length≤c5∧SR h o5 x.Claims:=by
  have hx:Enc.rep (α:=(List (List api_Cell))×(List api_Cell)×(List api_Cell)×(List api_Thread)×(List api_Thread)×(List api_Claim)) h cs (x.Lines,x.Vols,x.Locks,x.Threads,x.Recover,x.Claims):=hx
  obtain ⟨q0,r0,e0,g0,hx⟩:=hx
  obtain ⟨q1,r1,e1,g1,hx⟩:=hx
  obtain ⟨q2,r2,e2,g2,hx⟩:=hx
  obtain ⟨q3,r3,e3,g3,hx⟩:=hx
  obtain ⟨q4,r4,e4,g4,hx⟩:=hx
  obtain ⟨o0,c0,w0,y0,z0⟩:=g0
  obtain ⟨o1,c1,w1,y1,z1⟩:=g1
  obtain ⟨o2,c2,w2,y2,z2⟩:=g2
  obtain ⟨o3,c3,w3,y3,z3⟩:=g3
  obtain ⟨o4,c4,w4,y4,z4⟩:=g4
  obtain ⟨o5,c5,w5,y5,z5⟩:=hx
  exact ⟨o0,c0,o1,c1,o2,c2,o3,c3,o4,c4,o5,c5,by rw [e0,w0,e1,w1,e2,w2,e3,w3,e4,w4,w5];rfl,y0,z0,y1,z1,y2,z2,y3,z3,y4,z4,y5,z5⟩
instance:Enc leadlineref09_Env:=Enc.via (β:=api_Prog×(List Str)) 7 rfl fun x=>(x.P,x.Regs)
theorem Sx (x y:api_Op) (w:World):(Op.equalIn 10000 83 (.agg #[.int .i64 x.Kind,.int .i64 x.N]) (.agg #[.int .i64 y.Kind,.int .i64 y.N])).run Tryz.prog w=.ok (decide (x=y)) w:=by
  rw [show (10000:Nat)=9998+1+1 from rfl,run_equalIn_struct w _ 83 _ _ (by rw [Program.fieldsOf,Tryz.underlying83]) Tryz.stoodInHeld83]
  rw [Program.fieldsOf,Tryz.underlying83]
  obtain ⟨x0,x1⟩:=x
  obtain ⟨y0,y1⟩:=y
  simp [Op.eqFields,part,Tryz.isAgg3,run_equalIn_int w 9998 3 _ _ _ _ Tryz.underlying3,Gz]
  repeat (first | rfl | (split <;> simp_all))
theorem Tl {N:FN} {F:List (Nat×Value)} {a:Act} {w:World} {d:Option Tmp} {ty u:TypeId} {pos:String} {af:Array Edge} {g:Option (Nat×Bool)} {p q:Operand} {x y:api_Op} (hF:Fr N F a) (hx:opv F p=some (.agg #[.int .i64 x.Kind,.int .i64 x.N])) (hy:opv F q=some (.agg #[.int .i64 y.Kind,.int .i64 y.N])) :
    (execOp a.eval ⟨d,.binOp .neq 83 p q u,ty,pos,af,g⟩).run Tryz.prog w=.ok (.value (.bool (decide (x≠y)))) w:=by
  simp only [execOp,hF.ev hx,hF.ev hy,Sem.run_bind,run_eqGuard_agg w _ 83 _ _ _ _ Tryz.eqGuardType83,Result.andThen_ok,run_neq_struct,Sx,Sem.run_pure,ne_eq,decide_not]
theorem Lp:∃ j,Tryz.prog.info? 58=some j∧j.size=2:=by
  have h:(Tryz.prog.info? 58).map (fun i=>i.size)=some 2:=by kernel_rfl
  obtain ⟨j,h1,h2⟩:=Option.map_eq_some_iff.1 h
  exact ⟨j,h1,h2⟩
theorem Ja3:liesAt Tryz.prog Tryz.prog.depth 58 (2 / Tryz.prog.cellsOf 58) 0 58 1=true:=by kernel_rfl
set_option maxRecDepth 100000 in
theorem Mk (b:Nat) (w:World) (h0:w.cell? ⟨b,0,none⟩=some (.pointer (some ⟨b,0,none⟩))) :
    Calls Tryz.prog 79 #[.pointer (some ⟨b,0,none⟩)] w fun e w'=>e=.returned (.tuple #[])∧w'=w:=by
  obtain ⟨j,hj,_⟩:=Lp
  have mixed:=wide
  go_enter Tryz.func79,Tryz.ntmps79
  go_wp2
  rw [Lib.run_neq_ptr_same w _ Tryz.underlying56 hj]
  go_wp2
  go_end0
  exact ⟨rfl,rfl⟩
set_option maxHeartbeats 1000000 in
set_option maxRecDepth 100000 in
theorem Ln (b:Nat) (w:World) (h0:w.cell? ⟨b,0,none⟩=some (.pointer none)) (hsh:w.shape? b=some (58,2)) (hfz:w.frozen? ⟨b,0,none⟩=false) :
    Calls Tryz.prog 79 #[.pointer (some ⟨b,0,none⟩)] w fun e w'=>e=.returned (.tuple #[])∧w'=w.setCell ⟨b,0,none⟩ (.pointer (some ⟨b,0,none⟩)):=by
  obtain ⟨j,hj,hjs⟩:=Lp
  have mixed:=wide
  go_enter Tryz.func79,Tryz.ntmps79
  go_wp2
  rw [Lib.run_to_unsafe w ⟨b,0,none⟩ Tryz.underlying56 Tryz.underlying169 hj (by rw [hjs];decide) hsh (Nat.zero_lt_succ 1)]
  simp only [Result.andThen]
  rw [Oper.upon_value]
  go_wp2
  rw [run_callFunc_extern Tryz.func116 (by kernel_rfl) (by kernel_rfl) (by kernel_rfl) (e:=Extern.AbiNoEscape.same) (by kernel_rfl)]
  rw [Lib.run_noEscape]
  simp only [Result.andThen]
  rw [Oper.upon_value]
  go_wp2
  rw [Lib.run_from_unsafe w ⟨b,0,none⟩ Tryz.underlying169 Tryz.underlying56 hj hsh Ja3]
  simp only [Result.andThen]
  rw [Oper.upon_value]
  go_wp2
  go_end0
  exact ⟨rfl,rfl⟩
theorem Su:(Tryz.prog.info? 5).map (fun i=>(i.zero,i.size,i.bytes))=some (some (.int .u8 0),1,1):=by kernel_rfl
theorem Nz (ad:Addr) (w:World):(Instr.fieldAt 58 (.pointer (some ad)) 1).run Tryz.prog w=.ok (.pointer (some (ad.add 1))) w:=by kernel_rfl
theorem Le {w0:World} {M:Nat→Prop} {Hs:List PH} {L L':List HA} {w:World} {b:Nat} {vp sv:Value} (hS:St w0 M Hs L w)
    (hr:Repl (blk b (.cells [vp,sv].toArray 58 (0,0))) (blk b (.cells [.pointer (some ⟨b,0,none⟩),sv].toArray 58 (0,0))) L L') (hb:BP b vp) :
    Tot Tryz.prog 79 #[.pointer (some ⟨b,0,none⟩)] w (fun v w'=>v=.tuple #[]∧St w0 M Hs L' w'):=by
  have hh:w.heap[b]? = some (.cells [vp,sv].toArray 58 (0,0)):=hS.ok _ hr.memOld
  rcases hb with rfl | rfl
  · refine Calls.mono (Ln b w (by simp [World.cell?, hh]) (by simp [World.shape?, hh]) (by simp [World.frozen?, hh])) ?_
    rintro e w' ⟨rfl,rfl⟩
    refine ⟨_,rfl,rfl,hS.upd hr (.setCell _) ?_ (fun b' hb'=>.inl hb')⟩
    show hp _ b=_
    rw [Jm _ hh]
    simp
  · refine Calls.mono (Mk b w (by simp [World.cell?, hh])) ?_
    rintro e w' ⟨rfl,rfl⟩
    refine ⟨_,rfl,rfl,?_⟩
    rw [Repl.id hr];exact hS
set_option maxRecDepth 100000 in
theorem Jc5 {w0:World} {M:Nat→Prop} {Hs:List PH} {L:List HA} {w:World} {b cap:Nat} {oa:Option Addr} {xs zs s:Str} {vp:Value}
    (hS:St w0 M Hs (bldA 58 5 b vp oa cap xs :: L) w) (hb:BP b vp) (hm:Px xs s=some zs) :
    Tot Tryz.prog 44 #[.pointer (some ⟨b,0,none⟩),Ag s] w (fun v w'=>v=.tuple #[.int .i64 s.length,.nilIface]∧∃ oa' cap',St w0 M Hs (bldA 58 5 b (.pointer (some ⟨b,0,none⟩)) oa' cap' zs :: L) w'):=by
  replace hS:=hS.open'
  refine fn0 (args:=[.pointer (some ⟨b,0,none⟩),Ag s]) (F:=[(0,.pointer (some ⟨b,0,none⟩)),(1,Ag s)]) Tryz.func44 rfl Tryz.ntmps44 rfl rfl fun a hF=>?_
  refine th<|?_
  refine rg<|?_
  refine ls<|q1 hF rfl (Bp hF rfl) fun a hF=>?_
  refine ls<|q1 hF rfl (Bp hF rfl) fun a hF=>?_
  refine re<|tn<|th<|rg<|?_
  refine ls<|q1 hF rfl (Ab hF rfl) fun a hF=>?_
  refine ls<|c1 hF rfl Tryz.call79 (Le hS .head hb) ⟨rfl,trivial⟩ (fun v w a hR hF=>?_)
  obtain ⟨rfl,hS⟩:=hR
  refine re<|tn<|th<|rg<|?_
  refine ls<|q1 hF rfl (Ab hF rfl) fun a hF=>?_
  refine ls<|q1 hF rfl (Ab hF rfl) fun a hF=>?_
  refine ls<|q1 hF rfl (Ea hF rfl) fun a hF=>?_
  refine ls<|q1 hF rfl (Ae hF Nz rfl) fun a hF=>?_
  refine ls<|q1 hF rfl (Af hF Tryz.isAgg52 rfl ((St.ld hS).cellB (.head _) rfl)) fun a hF=>?_
  refine ls<|q1 hF rfl (Ab hF rfl) fun a hF=>?_
  refine ls<|Jbo hF rfl hS Tryz.underlying52 Tryz.underlying9 Su rfl rfl (.tail _ (.head _)) hm fun oa' cap' w a hU hF=>?_
  replace hS:=hU _ (.tail .head)
  clear hU
  refine ls<|q1 hF rfl (Ea hF rfl) fun a hF=>?_
  refine ls<|q1 hF rfl (Ae hF Nz rfl) fun a hF=>?_
  refine ls<|Bz hF hS Tryz.sizeOf52 rfl rfl rfl rfl .head (.succ .zero) fun w hS=>?_
  refine re<|tn<|th<|rg<|?_
  refine ls<|q1 hF rfl (Ab hF rfl) fun a hF=>?_
  refine ls<|q1 hF rfl (Cu hF Tryz.runUnderlying9 rfl) fun a hF=>?_
  refine ls<|q1 hF rfl (Bp hF rfl) fun a hF=>?_
  refine ls<|q1 hF rfl (Bp hF rfl) fun a hF=>?_
  refine re<|tn<|wr<|?_
  exact r2 hF Tryz.results44 rfl rfl ⟨rfl,oa',cap',St.sep2 hS⟩
theorem Xe {w0:World} {Hs:List PH} {w:World} {b cap:Nat} {oa:Option Addr} {xs:Str} {vp:Value}
    (hS:St w0 Nil Hs [bldA 58 5 b vp oa cap xs] w) (hb:BP b vp) :
    Tot Tryz.prog 26 #[.pointer (some ⟨b,0,none⟩)] w (fun v w'=>v=Ag xs∧Keep Nil w0 w'):=by
  replace hS:=hS.open'
  have hh:w.heap[b]? = some (.cells [vp,.slice oa xs.length cap].toArray 58 (0,0)):=hS.ok _ (.head _)
  have ho:SlOk 5 1 (.slice oa xs.length cap) xs.length (Lib.byteCells xs) (hp w):=hS.ok _ (.tail _ (.head _))
  have hk:=hS.keep
  have hb0:w0.heap.size≤b:=((hS.own _ (.head _) b rfl).1).elim id (fun h=>h.elim)
  have hl:(Lib.byteCells xs).length=xs.length:=by simp [Lib.byteCells]
  have hrow:w.ownsRow w0.heap.size 5 1 (.slice oa xs.length cap) (Lib.byteCells xs).length (Lib.byteCells xs):=by
    refine ⟨by omega,?_⟩
    rw [hl]
    rcases ho.2 with h | ⟨g,cap',cur,h1,h2,h3,h4,h5,h6⟩
    · exact .inl h
    · refine .inr ⟨g, cap', cur, h1, ?_, h2, h3, h4, h5, h6⟩
      exact ((hS.own _ (.tail _ (.head _)) g (by show Bu _=some g;rw [h1];rfl)).1).elim id (fun h=>h.elim)
  have hne:(Value.slice oa xs.length cap).ownBlock≠some b:=fun h=>by
    have hd:=hS.disj
    rw [List.pairwise_cons] at hd
    refine hd.1 _ (.head _) b rfl ?_
    cases oa with
    | none=>cases h
    | some g=>exact h
  have hat:Lib.BuilderAt 58 5 w0.heap.size b vp (Lib.byteCells xs) w:=⟨hb0,_,hh,hrow,hne⟩
  have his:Lib.IsBuilder 58 5 w0.heap.size b (Lib.byteCells xs) w:=by
    rcases hb with rfl | rfl
    · exact .inl hat
    · exact .inr hat
  refine Calls.mono (Tryz.Builder_String_any _ b xs w his hk.size) ?_
  rintro e w' ⟨rfl,h⟩
  refine ⟨_,rfl,rfl,h.os.trans hk.os,h.tape.trans hk.tape,h.output.trans hk.output,Nat.le_trans hk.size h.size,fun i hi hn=>(h.block i hi).trans (hk.block i hi hn),fun ad ha=>?_⟩
  have:w'.frozen? ad=w.frozen? ad:=World.frozen?_of_block (h.block _ ha)
  exact this.trans (hk.fz ad ha)
set_option maxRecDepth 100000 in
theorem Jbu {w0:World} {M:Nat→Prop} {Hs:List PH} {L:List HA} {w:World} {b cap:Nat} {oa:Option Addr} {xs zs:Str} {n:Int} {vp:Value}
    (hS:St w0 M Hs (bldA 58 5 b vp oa cap xs :: L) w) (hb:BP b vp) (hm:Pj xs n=some zs) :
    Tot Tryz.prog 78 #[.pointer (some ⟨b,0,none⟩),.int .u8 n] w (fun v w'=>v=.nilIface∧∃ oa' cap',St w0 M Hs (bldA 58 5 b (.pointer (some ⟨b,0,none⟩)) oa' cap' zs :: L) w'):=by
  replace hS:=hS.open'
  refine fn0 (args:=[.pointer (some ⟨b,0,none⟩),.int .u8 n]) (F:=[(0,.pointer (some ⟨b,0,none⟩)),(1,.int .u8 n)]) Tryz.func78 rfl Tryz.ntmps78 rfl rfl fun a hF=>?_
  refine th<|?_
  refine rg<|?_
  refine ls<|q1 hF rfl (Bp hF rfl) fun a hF=>?_
  refine re<|tn<|th<|rg<|?_
  refine ls<|q1 hF rfl (Ab hF rfl) fun a hF=>?_
  refine ls<|c1 hF rfl Tryz.call79 (Le hS .head hb) ⟨rfl,trivial⟩ (fun v w a hR hF=>?_)
  obtain ⟨rfl,hS⟩:=hR
  refine re<|tn<|th<|rg<|?_
  refine ls<|q1 hF rfl (Ab hF rfl) fun a hF=>?_
  refine ls<|q1 hF rfl (Ab hF rfl) fun a hF=>?_
  refine ls<|q1 hF rfl (Ea hF rfl) fun a hF=>?_
  refine ls<|q1 hF rfl (Ae hF Nz rfl) fun a hF=>?_
  refine ls<|q1 hF rfl (Af hF Tryz.isAgg52 rfl ((St.ld hS).cellB (.head _) rfl)) fun a hF=>?_
  refine ls<|q1 hF rfl (Ab hF rfl) fun a hF=>?_
  refine ls<|Bj (e:=5) (sz:=1) [.int .u8 n] hF rfl hS rfl rfl rfl (fun w=>by kernel_rfl) fun bk w a hS hF=>?_
  refine ls<|Jcw hF rfl hS Tryz.underlying52 Su rfl rfl (.tail _ (.tail _ (.head _))) ((St.ld hS).rdO (.head _)) hm fun oa' cap' w a hU hF=>?_
  replace hS:=hU _ (.tail (.tail .head))
  clear hU
  replace hS:=hS.drop .head
  refine ls<|q1 hF rfl (Ea hF rfl) fun a hF=>?_
  refine ls<|q1 hF rfl (Ae hF Nz rfl) fun a hF=>?_
  refine ls<|Bz hF hS Tryz.sizeOf52 rfl rfl rfl rfl .head (.succ .zero) fun w hS=>?_
  refine re<|tn<|th<|rg<|?_
  refine ls<|q1 hF rfl (Bp hF rfl) fun a hF=>?_
  refine re<|tn<|wr<|?_
  exact r1 hF Tryz.results78 rfl ⟨rfl,oa',cap',St.sep2 hS⟩
theorem Vy:liesAt Tryz.prog Tryz.prog.depth 60 (2 / Tryz.prog.cellsOf 60) 0 58 1=true:=by kernel_rfl
set_option maxRecDepth 100000 in
theorem Kk (b:Nat) (w:World) (h0:w.cell? ⟨b,0,none⟩=some (.pointer (some ⟨b,0,none⟩))) :
    Calls Tryz.prog 79 #[.pointer (some ⟨b,0,none⟩)] w fun e w'=>e=.returned (.tuple #[])∧w'=w:=by
  obtain ⟨j,hj,_⟩:=Lp
  have mixed:=wide
  go_enter Tryz.func79,Tryz.ntmps79
  go_wp2
  rw [Lib.run_neq_ptr_same w _ Tryz.underlying56 hj]
  go_wp2
  go_end0
  exact ⟨rfl,rfl⟩
set_option maxHeartbeats 1000000 in
set_option maxRecDepth 100000 in
theorem Jw (b:Nat) (w:World) (h0:w.cell? ⟨b,0,none⟩=some (.pointer none)) (hsh:w.shape? b=some (60,2)) (hfz:w.frozen? ⟨b,0,none⟩=false) :
    Calls Tryz.prog 79 #[.pointer (some ⟨b,0,none⟩)] w fun e w'=>e=.returned (.tuple #[])∧w'=w.setCell ⟨b,0,none⟩ (.pointer (some ⟨b,0,none⟩)):=by
  obtain ⟨j,hj,hjs⟩:=Lp
  have mixed:=wide
  go_enter Tryz.func79,Tryz.ntmps79
  go_wp2
  rw [Lib.run_to_unsafe w ⟨b,0,none⟩ Tryz.underlying56 Tryz.underlying169 hj (by rw [hjs];decide) hsh (Nat.zero_lt_succ 1)]
  simp only [Result.andThen]
  rw [Oper.upon_value]
  go_wp2
  rw [run_callFunc_extern Tryz.func116 (by kernel_rfl) (by kernel_rfl) (by kernel_rfl) (e:=Extern.AbiNoEscape.same) (by kernel_rfl)]
  rw [Lib.run_noEscape]
  simp only [Result.andThen]
  rw [Oper.upon_value]
  go_wp2
  rw [Lib.run_from_unsafe w ⟨b,0,none⟩ Tryz.underlying169 Tryz.underlying56 hj hsh Vy]
  simp only [Result.andThen]
  rw [Oper.upon_value]
  go_wp2
  go_end0
  exact ⟨rfl,rfl⟩
theorem Nl {w0:World} {M:Nat→Prop} {Hs:List PH} {L L':List HA} {w:World} {b:Nat} {vp sv:Value} (hS:St w0 M Hs L w)
    (hr:Repl (blk b (.cells [vp,sv].toArray 60 (0,0))) (blk b (.cells [.pointer (some ⟨b,0,none⟩),sv].toArray 60 (0,0))) L L') (hb:BP b vp) :
    Tot Tryz.prog 79 #[.pointer (some ⟨b,0,none⟩)] w (fun v w'=>v=.tuple #[]∧St w0 M Hs L' w'):=by
  have hh:w.heap[b]? = some (.cells [vp,sv].toArray 60 (0,0)):=hS.ok _ hr.memOld
  rcases hb with rfl | rfl
  · refine Calls.mono (Jw b w (by simp [World.cell?, hh]) (by simp [World.shape?, hh]) (by simp [World.frozen?, hh])) ?_
    rintro e w' ⟨rfl,rfl⟩
    refine ⟨_,rfl,rfl,hS.upd hr (.setCell _) ?_ (fun b' hb'=>.inl hb')⟩
    show hp _ b=_
    rw [Jm _ hh]
    simp
  · refine Calls.mono (Kk b w (by simp [World.cell?, hh])) ?_
    rintro e w' ⟨rfl,rfl⟩
    refine ⟨_,rfl,rfl,?_⟩
    rw [Repl.id hr];exact hS
set_option maxRecDepth 100000 in
theorem Jax {w0:World} {M:Nat→Prop} {Hs:List PH} {L:List HA} {w:World} {b cap:Nat} {oa:Option Addr} {xs zs s:Str} {vp:Value}
    (hS:St w0 M Hs (bldA 60 5 b vp oa cap xs :: L) w) (hb:BP b vp) (hm:Px xs s=some zs) :
    Tot Tryz.prog 44 #[.pointer (some ⟨b,0,none⟩),Ag s] w (fun v w'=>v=.tuple #[.int .i64 s.length,.nilIface]∧∃ oa' cap',St w0 M Hs (bldA 60 5 b (.pointer (some ⟨b,0,none⟩)) oa' cap' zs :: L) w'):=by
  replace hS:=hS.open'
  refine fn0 (args:=[.pointer (some ⟨b,0,none⟩),Ag s]) (F:=[(0,.pointer (some ⟨b,0,none⟩)),(1,Ag s)]) Tryz.func44 rfl Tryz.ntmps44 rfl rfl fun a hF=>?_
  refine th<|?_
  refine rg<|?_
  refine ls<|q1 hF rfl (Bp hF rfl) fun a hF=>?_
  refine ls<|q1 hF rfl (Bp hF rfl) fun a hF=>?_
  refine re<|tn<|th<|rg<|?_
  refine ls<|q1 hF rfl (Ab hF rfl) fun a hF=>?_
  refine ls<|c1 hF rfl Tryz.call79 (Nl hS .head hb) ⟨rfl,trivial⟩ (fun v w a hR hF=>?_)
  obtain ⟨rfl,hS⟩:=hR
  refine re<|tn<|th<|rg<|?_
  refine ls<|q1 hF rfl (Ab hF rfl) fun a hF=>?_
  refine ls<|q1 hF rfl (Ab hF rfl) fun a hF=>?_
  refine ls<|q1 hF rfl (Ea hF rfl) fun a hF=>?_
  refine ls<|q1 hF rfl (Ae hF Nz rfl) fun a hF=>?_
  refine ls<|q1 hF rfl (Af hF Tryz.isAgg52 rfl ((St.ld hS).cellB (.head _) rfl)) fun a hF=>?_
  refine ls<|q1 hF rfl (Ab hF rfl) fun a hF=>?_
  refine ls<|Jbo hF rfl hS Tryz.underlying52 Tryz.underlying9 Su rfl rfl (.tail _ (.head _)) hm fun oa' cap' w a hU hF=>?_
  replace hS:=hU _ (.tail .head)
  clear hU
  refine ls<|q1 hF rfl (Ea hF rfl) fun a hF=>?_
  refine ls<|q1 hF rfl (Ae hF Nz rfl) fun a hF=>?_
  refine ls<|Bz hF hS Tryz.sizeOf52 rfl rfl rfl rfl .head (.succ .zero) fun w hS=>?_
  refine re<|tn<|th<|rg<|?_
  refine ls<|q1 hF rfl (Ab hF rfl) fun a hF=>?_
  refine ls<|q1 hF rfl (Cu hF Tryz.runUnderlying9 rfl) fun a hF=>?_
  refine ls<|q1 hF rfl (Bp hF rfl) fun a hF=>?_
  refine ls<|q1 hF rfl (Bp hF rfl) fun a hF=>?_
  refine re<|tn<|wr<|?_
  exact r2 hF Tryz.results44 rfl rfl ⟨rfl,oa',cap',St.sep2 hS⟩
set_option maxHeartbeats 2000000 in
set_option maxRecDepth 100000 in
theorem Ja8 (B b g cap:Nat) (p:Value) (cur:Array Value) (l:List UInt8) (w:World) (h0:l≠[]) (hbg:B≤g) (hl:l.length≤cap) (hcm:l.length≤9223372036854775807) (hcs:l.length≤cur.size)
    (hbk:w.heap[b]? = some (.cells #[p,.slice (some ⟨g,0,none⟩) l.length cap] 60 (0,0))) (hg:w.heap[g]? = some (.cells cur 5 (0,0)))
    (hcell:∀ j x,l[j]? = some x→w.cell? ((⟨g,0,none⟩:Addr).add j)=some (.int .u8 x.toNat)) :
    Calls Tryz.prog 26 #[.pointer (some ⟨b,0,none⟩)] w fun e w'=>e=.returned (.string ⟨l.toArray⟩)∧RowKit.Below B w w':=by
  have hl0:l.length≠0:=by simpa using h0
  have c1:w.drew.cell? ⟨b,1,none⟩=some (.slice (some ⟨g,0,none⟩) l.length cap):=by
    have:w.drew.heap[b]? = some (.cells #[p,.slice (some ⟨g,0,none⟩) l.length cap] 60 (0,0)):=hbk
    rw [Lib.cell_of_heap this];rfl
  have hSD:(Builtin.unsafeSliceData_ #[52] 122 #[.slice (some ⟨g,0,none⟩) l.length cap]).run Tryz.prog w.drew=.ok (.pointer (some ⟨g,0,none⟩)) w.drew:=
    Lib.run_unsafeSliceData_row _ _ _ _ _ _ (by omega)
  have hUS:(Builtin.unsafeString_ #[122,3] 9 #[.pointer (some ⟨g,0,none⟩),.int .i64 l.length]).run Tryz.prog w.drew=.ok (.string ⟨l.toArray⟩) (w.drew.freeze ⟨g,0,none⟩ l.length):=
    Lib.run_unsafeString_row w.drew 122 3 9 5 Tryz.underlying122 (by kernel_rfl) g cur.size (by have hg':w.drew.heap[g]? = some (.cells cur 5 (0,0)):=hg;simp [World.shape?,hg']) l h0 hcs hcm hcell
  have mixed:=wide
  go_enter Tryz.func26,Tryz.ntmps26
  go_wp2
  go_region_o
  all_goals (go_wp2;go_ret;exact ⟨rfl,Lib.below_freeze (RowKit.Below.drew (RowKit.Below.refl B w)) (p:=⟨g,0,none⟩) hbg _⟩)
theorem Jae {w0:World} {Hs:List PH} {w:World} {b cap:Nat} {oa:Option Addr} {xs zs:Str} {vp:Value}
    (hS:St w0 Nil Hs [bldA 60 5 b vp oa cap xs] w) (hm:neG xs=some zs) :
    Tot Tryz.prog 26 #[.pointer (some ⟨b,0,none⟩)] w (fun v w'=>v=Ag zs∧Keep Nil w0 w'):=by
  obtain ⟨h0,rfl⟩:=Yd hm
  replace hS:=hS.open'
  have hh:w.heap[b]? = some (.cells [vp,.slice oa zs.length cap].toArray 60 (0,0)):=hS.ok _ (.head _)
  have ho:SlOk 5 1 (.slice oa zs.length cap) zs.length (Lib.byteCells zs) (hp w):=hS.ok _ (.tail _ (.head _))
  have hk:=hS.keep
  have hl0:zs.length≠0:=by simpa using h0
  have hl:(Lib.byteCells zs).length=zs.length:=by simp [Lib.byteCells]
  rcases ho.2 with ⟨_,hz⟩ | ⟨g,cap',cur,h1,h2,h3,h4,h5,h6⟩
  · exact absurd hz hl0
  · have hg0 : w0.heap.size ≤ g := ((hS.own _ (.tail _ (.head _)) g (by show Bu _ = some g; rw [h1]; rfl)).1).elim id (fun h => h.elim)
    obtain ⟨rfl,_,rfl⟩:oa=some ⟨g,0,none⟩∧zs.length=zs.length∧cap=cap':=by simpa using h1
    have hcell:∀ j x,zs[j]? = some x→w.cell? ((⟨g,0,none⟩:Addr).add j)=some (.int .u8 x.toNat):=fun j x hj=>by
      have hv:(Lib.byteCells zs)[j]? = some (.int .u8 (x.toNat:Int)):=by simp [Lib.byteCells,hj]
      have:=(SlOk.rd ho).cell j _ hv
      rw [Gq] at this
      simpa [adr,Df] using this
    refine Calls.mono (Ja8 w0.heap.size b g cap vp cur zs w h0 hg0 (by omega) (by unfold maxLen at h4;omega) (by simpa using (by omega:zs.length * 1≤cur.size)) hh h2 hcell) ?_
    rintro e w' ⟨rfl,h⟩
    refine ⟨_,rfl,rfl,h.os.trans hk.os,h.tape.trans hk.tape,h.output.trans hk.output,Nat.le_trans hk.size h.size,fun i hi hn=>(h.block i hi).trans (hk.block i hi hn),fun ad ha=>?_⟩
    have:w'.frozen? ad=w.frozen? ad:=World.frozen?_of_block (h.block _ ha)
    exact this.trans (hk.fz ad ha)
def Tab (H : PH) : Prop := ∀ w : World, H.le w → Lib.TabIs Tryz.prog w "internal/strconv.uint64pow10" .u64 Lib.pow10Tab ∧ Lib.TabIs Tryz.prog w "strings.asciiSpace" .u8 Lib.asciiSpaceTab
theorem Tab.mono {H H':PH} (h:Tab H) (hs:∀ b o,H b=some o→H' b=some o):Tab H':=fun w hl=>h w (fun b o hb=>hl b o (hs b o hb))
theorem Keep.grew (w:World) (k:Nat) (os:Array Obj):Keep Nil w (Go.Sort.grow (w.drewN k) os):=by
  have hh:(w.drewN k).heap=w.heap:=rfl
  refine ⟨rfl,rfl,rfl,by simp [Go.Sort.grow,hh],fun b hb _=>?_,fun a ha=>?_⟩
  · show ((w.drewN k).heap ++ os)[b]? = _
    rw [hh,Array.getElem?_append_left hb]
  · unfold World.frozen?
    have:(Go.Sort.grow (w.drewN k) os).heap[a.block]? = w.heap[a.block]?:=by
      show ((w.drewN k).heap ++ os)[a.block]? = _
      rw [hh,Array.getElem?_append_left ha]
    rw [this]
theorem JaH {w0:World} {H:PH} (hH:H.le w0) (hT:Tab H) {n:Int} {r:Str} (hm:Pp n=some r):Tot Tryz.prog 80 #[.int .i64 n] w0 (fun v w'=>v=Ag r∧Keep Nil w0 w'):=by
  unfold Pp at hm
  split at hm
  · rename_i h
    cases hm
    refine Calls.mono (Tryz.strconv_Itoa n h.1 h.2 w0 (hT w0 hH).1) ?_
    rintro e w' ⟨rfl,k,os,rfl⟩
    exact ⟨_,rfl,rfl,Keep.grew w0 k os⟩
  · cases hm
theorem Wn {w0:World} {f:FuncId} {s:Str} {xs:List Str} {n:Nat} {vs:List Value} (hn:xs.length=n) (hm:Nat.ble n 1000000=true) (hv:∀ h:PH,Rows h vs xs)
    (h:Calls Tryz.prog f #[Ag s] w0 fun e w'=>e=.returned (.slice (some ⟨w0.heap.size,0,none⟩) n n)∧w'=w0.alloc (.cells vs.toArray 9)) :
    Tot Tryz.prog f #[Ag s] w0 (fun v w'=>∃ (oa0:Option Addr) (cap0:Nat) (vs0:List Value),v=.slice oa0 xs.length cap0∧(∀ h,Rows h vs0 xs)∧Fresh w0 (sla 9 1 oa0 xs.length cap0 vs0) w'):=by
  refine Calls.mono h ?_
  rintro e w' ⟨rfl,rfl⟩
  subst hn
  have hl:vs.length=xs.length * 1:=by have:=(hv (fun _=>none)).len;exact this
  refine ⟨_,rfl,_,_,vs,rfl,hv,.alloc _ _ _ (Eo _ _),?_,?_⟩
  · refine ⟨hl, .inr ⟨w0.heap.size, xs.length, vs.toArray, rfl, Ej w0 _, Nat.le_refl _, ?_, by simpa using hl, ?_⟩⟩
    · have:=Nat.le_of_ble_eq_true hm;unfold maxLen;omega
    · rw [List.take_of_length_le (by simp [hl])]
  · intro b hb
    simp [sl,Bu] at hb
    omega
theorem Xu {l:List UInt8} (h:(l.all fun b=>decide (b.toNat < 128))=true):∀ (j:Nat) b,l[j]? = some b→b.toNat < 128:=fun j b hb=>by
  have:=List.all_eq_true.1 h b (List.mem_of_getElem? hb)
  simpa using this
theorem Od (h:PH):∀ xs:List Str,Rows h (xs.map Ag) xs
  | []=>.nil
  | x :: r=>.cons (c:=[Ag x]) rfl (Od h r)
theorem Vm {w0 : World} {s : Str} {xs : List Str} (hx : Lib.fields s = xs) (hl : s.length < 4294967281) (ha : (s.all fun b => decide (b.toNat < 128)) = true) (ht : Lib.TabIs Tryz.prog w0 "strings.asciiSpace" .u8 Lib.asciiSpaceTab) :
    Calls Tryz.prog 49 #[Ag s] w0 fun e w'=>e=.returned (.slice (some ⟨w0.heap.size,0,none⟩) xs.length xs.length)∧w'=w0.alloc (.cells (xs.map Ag).toArray 9):=by
  have e:(⟨s.toArray⟩:ByteArray).data.toList=s:=by simp
  have hc:=Tryz.strings_Fields_laid ⟨s.toArray⟩ w0 (by simpa [ByteArray.size] using hl) (by rw [e];exact Xu ha) ht
  rw [e,hx] at hc
  exact hc
set_option maxRecDepth 100000 in
theorem Jdu {w0:World} {H:PH} (hH:H.le w0) (hT:Tab H) {s:Str} {r:List Str} (hm:Z1g s=some r):Tot Tryz.prog 49 #[Ag s] w0 (fun v w'=>∃ (oa0:Option Addr) (cap0:Nat) (vs0:List Value),v=.slice oa0 r.length cap0∧(∀ h,Rows h vs0 r)∧Fresh w0 (sla 9 1 oa0 r.length cap0 vs0) w'):=by
  have ht:=(hT w0 hH).2
  unfold Z1g at hm
  split at hm
  · rename_i h
    subst h
    cases hm
    have hf:Lib.fields [115,101,116,32,108,111,97,100,32,115,116,111,114,101,32,99,97,115,32,102,108,117,115,104,32,111,112,116,32,115,102,101,110,99,101,32,109,102,101,110,99,101,32,116,97,107,101,32,103,105,118,101,32,106,117,109,112,32,101,108,115,101,32,99,111,117,110,116,32,97,103,97,105,110,32,99,104,101,99,107]=[[115,101,116],[108,111,97,100],[115,116,111,114,101],[99,97,115],[102,108,117,115,104],[111,112,116],[115,102,101,110,99,101],[109,102,101,110,99,101],[116,97,107,101],[103,105,118,101],[106,117,109,112],[101,108,115,101],[99,111,117,110,116],[97,103,97,105,110],[99,104,101,99,107]]:=by kernel_rfl
    have hc:=Vm hf (Nat.le_of_ble_eq_true (by kernel_rfl)) (by kernel_rfl) ht
    have hb:Nat.ble ([[115,101,116],[108,111,97,100],[115,116,111,114,101],[99,97,115],[102,108,117,115,104],[111,112,116],[115,102,101,110,99,101],[109,102,101,110,99,101],[116,97,107,101],[103,105,118,101],[106,117,109,112],[101,108,115,101],[99,111,117,110,116],[97,103,97,105,110],[99,104,101,99,107]]:List Str).length 1000000=true:=by kernel_rfl
    clear hf
    generalize ([[115,101,116],[108,111,97,100],[115,116,111,114,101],[99,97,115],[102,108,117,115,104],[111,112,116],[115,102,101,110,99,101],[109,102,101,110,99,101],[116,97,107,101],[103,105,118,101],[106,117,109,112],[101,108,115,101],[99,111,117,110,116],[97,103,97,105,110],[99,104,101,99,107]]:List Str)=xs at hc hb ⊢
    exact Wn rfl hb (fun h=>Od h _) hc
  · cases hm
theorem Mj (p:Str):∀ l:List Str,Lib.join l p=Gu p l
  | []=>rfl
  | [x]=>by simp [Lib.join,Gu,List.intercalate]
  | x :: y :: r => by
    have h:=Mj p (y :: r)
    rw [Gu,← h]
    simp [Lib.join,List.intercalate,List.intersperse]
theorem JaL {w0:World} {H:PH} (hH:H.le w0) {oa:Option Addr} {cap:Nat} {xs:List Str} (hc:xs.length≤cap) (hr:SR H oa xs) {p r:Str} (hm:Q9 xs p=some r) :
    Tot Tryz.prog 81 #[.slice oa xs.length cap,Ag p] w0 (fun v w'=>v=Ag r∧Keep Nil w0 w'):=by
  obtain ⟨⟨h1,h2⟩,rfl⟩:=Sd hm
  cases xs with
  | nil =>
    refine Calls.mono (Tryz.strings_Join_none oa cap ⟨p.toArray⟩ w0) ?_
    rintro e w' ⟨rfl,rfl⟩
    exact ⟨_,rfl,rfl,.refl _ _⟩
  | cons x0 r0 =>
    generalize hx:x0 :: r0=xs at *
    have hne:xs≠[]:=by rw [← hx];simp
    have hcell:∀ (j:Nat) (x:Str),xs[j]? = some x→H.cell? ⟨(adr oa).block,(adr oa).off+j,none⟩=some (Ag x):=fun j x hj=>by
      have hg:getI xs (j:Int)=some x:=by simpa [getI] using hj
      obtain ⟨c,hc1,hc2⟩:=SR.get hr hg
      obtain rfl:c=[Ag x]:=hc1
      have:=hc2 0 _ rfl
      simpa [Enc.sz] using this
    obtain ⟨us,hrd,hrows⟩:=id hr
    have hoa:oa=some ⟨(adr oa).block,(adr oa).off,none⟩:=hrd.some (hrows.ne (by decide) hne)
    have e1:(xs.map fun s=>(⟨s.toArray⟩:ByteArray)).map (·.data.toList)=xs:=by simp [Function.comp_def]
    have h0:xs[0]? = some x0:=by rw [← hx];rfl
    have hlt:(adr oa).block < w0.heap.size:=by
      have hw:=hH.cell (hcell 0 x0 h0)
      rcases Nat.lt_or_ge (adr oa).block w0.heap.size with h | h
      · exact h
      · simp [World.cell?,Array.getElem?_eq_none h] at hw
    have hJ:=Tryz.strings_Join (adr oa).block (adr oa).off cap (xs.map fun s=>⟨s.toArray⟩) ⟨p.toArray⟩ w0 (fun j x hj=>by
      rw [List.getElem?_map] at hj
      obtain ⟨s,hs,rfl⟩:=Option.map_eq_some_iff.1 hj
      exact hH.cell (hcell j s hs)) hlt (by rw [List.length_map];omega) (by rw [List.length_map];exact hc) (by rw [e1];simpa [Mj] using h2)
    rw [e1,List.length_map,← hoa] at hJ
    refine Calls.mono hJ ?_
    rintro e w' ⟨rfl,h⟩
    refine ⟨_,rfl,?_,h.os,h.tape,h.output,h.size,fun b hb _=>h.block b hb,fun ad ha=>World.frozen?_of_block (h.block _ ha)⟩
    show Value.string _=Ag _
    rw [show (⟨p.toArray⟩:ByteArray).data.toList=p by simp,Mj]
theorem Jh (b c:Nat) (w:World):CallsD Tryz.prog 32 #[.pointer (some ⟨b,0,none⟩),.pointer (some ⟨c,0,none⟩)] .returning w fun e u' w'=>e=.returned (.tuple #[])∧u'=.returning∧w'=w:=by
  refine callsD_of_wpS Tryz.func32 rfl fun c₀ cs hu=>?_
  apply wpS_seq
  apply wpS_region
  simp [wpOpsS,go_sem,recoverD,hu,Tryz.ntmps32,Exit.thenS]
  refine wpS_cond (t:=false) (by simp [Act.eval,Array.replicate]) ?_
  simp only [Bool.false_eq_true,if_false]
  refine wpS_of_wp (wp_skip ?_)
  cases c₀
  simp_all [bodyPostS,results,Tryz.results32]
set_option maxRecDepth 100000 in
theorem Fi {w0 w:World} {M:Nat→Prop} {Hs:List PH} {L L' L'':List HA} {b c:Nat} {cs2:List Value} {v3:Value} (hS:St w0 M Hs L w)
    (h2:Repl (blk b (.cells cs2.toArray 29 (0,0))) (blk b (.cells [.slice none 0 0,.int .i64 0,.slice none 0 0,.int .i64 0,.slice none 0 0,.int .i64 0,.int .i64 0,.slice none 0 0,.slice none 0 0].toArray 29 (0,0))) L L') (h3:Repl (blk c (.cells [v3].toArray 31 (0,0))) (blk c (.cells [.int .i64 8].toArray 31 (0,0))) L' L'') (hl:cs2.length=9) {u:TypeId} {pv:Value} :
    CallsD Tryz.prog 32 #[.pointer (some ⟨b,0,none⟩),.pointer (some ⟨c,0,none⟩)] (.panicking [{ v:=.iface u pv,recovered:=false }]) w fun e u' w'=>
      e=.returned (.tuple #[])∧u'=.panicking [{ v:=.iface u pv,recovered:=true }]∧St w0 M Hs L'' w':=by
  refine callsD_of_wpS Tryz.func32 rfl fun c₀ cs hu=>?_
  apply wpS_seq
  apply wpS_region
  simp [wpOpsS,go_sem,recoverD,hu,Tryz.ntmps32,Exit.thenS]
  refine wpS_cond (t:=true) (by simp [Act.eval,Array.replicate]) ?_
  simp only [if_true]
  refine wpS_of_wp ((wpIn_wide (n:=0)).1 ?_)
  refine (?_:wq none _ _ _ _ _)
  have hF:Fr ⟨5,[],[]⟩ [(0,.pointer (some ⟨b,0,none⟩)),(1,.pointer (some ⟨c,0,none⟩))] { tmps:=(#[Value.pointer (some ⟨b,0,none⟩),Value.pointer (some ⟨c,0,none⟩),Value.iface u pv,Value.bool true,undef]:Array Value),defers:=[] }:=by
    refine ⟨rfl,fun t v h=>?_,rfl⟩
    simp only [List.lookup] at h
    split at h
    · rename_i e;cases h;simp at e;subst e;rfl
    · split at h
      · rename_i e;cases h;simp at e;subst e;rfl
      · cases h
  refine rg<|ls<|q1 (N:=⟨5,[],[]⟩) (F:=[(0,.pointer (some ⟨b,0,none⟩)),(1,.pointer (some ⟨c,0,none⟩))]) hF rfl (e_k (v:=.agg #[.slice none 0 0,.int .i64 0,.slice none 0 0,.int .i64 0,.slice none 0 0,.int .i64 0,.int .i64 0,.slice none 0 0,.slice none 0 0]) hF rfl (by rfl) (by kernel_rfl)) fun a hF=>?_
  refine ls<|Bb hF hS Tryz.sizeOf29 rfl rfl hl rfl (Ao rfl) h2 fun w hS=>?_
  refine ls<|Bz hF hS Tryz.sizeOf31 rfl rfl rfl rfl h3 .zero fun w hS=>?_
  refine re ?_
  refine ⟨hF.defers,_,rfl,_,?_,rfl,rfl,hS⟩
  simp [results,Tryz.results32]
end Go.LM.BINZ
