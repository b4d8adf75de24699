/- What the walks of the seat lb lean on. No condition: closed facts, by program. -/
import Derived.Test.YtgdkaddhhpgeiaaGreatDoorLM
import Derived.Test.YtgdkaddhhpgeiaaGreatDoorLBP
import Derived.Test.YtgdkaddhhpgeiaaGreatDoorProg
import Derived.KernelRfl
import Derived.Laws.StructEq
import Derived.Test.YtgdkaddhhpgeiaaGreatDoorLQ
import Derived.Test.YtgdkaddhhpgeiaaGreatDoorLG
import Derived.Test.YtgdkaddhhpgeiaaGreatDoorLX
import Derived.Test.YtgdkaddhhpgeiaaGreatDoorLBSS
namespace Go.LM.LB
open Go Go.LL Go.MD Go.LM Go.Proofs Go.MD.LB
theorem wide:Tryz.prog.follows .mixedOrders=true:=by kernel_rfl
theorem Yd:(Tryz.prog.info? 3).map (fun i=>(i.zero,i.size,i.bytes))=some (some (.int .i64 0),1,8):=by kernel_rfl
theorem Rs:(Tryz.prog.info? 9).map (fun i=>(i.zero,i.size,i.bytes))=some (some (.string ⟨#[]⟩),1,16):=by kernel_rfl
theorem Ja5:(Tryz.prog.info? 23).map (fun i=>(i.zero,i.size,i.bytes))=some (some (.slice none 0 0),1,24):=by kernel_rfl
theorem Jh:(Tryz.prog.info? 48).map (fun i=>(i.zero,i.size,i.bytes))=some (some (.agg #[.string ⟨#[]⟩,.slice none 0 0,.slice none 0 0,.int .i64 0]),4,72):=by kernel_rfl
theorem Qk:(Tryz.prog.info? 51).map (fun i=>(i.zero,i.size,i.bytes))=some (some (.agg #[.int .i64 0,.string ⟨#[]⟩,.string ⟨#[]⟩,.slice none 0 0,.slice none 0 0,.int .i64 0,.int .i64 0,.int .i64 0,.int .i64 0]),9,120):=by kernel_rfl
theorem Hb:(Tryz.prog.info? 53).map (fun i=>(i.zero,i.size,i.bytes))=some (some (.agg #[.string ⟨#[]⟩,.int .i64 0,.int .i64 0]),3,32):=by kernel_rfl
theorem Jan:(Tryz.prog.info? 74).map (fun i=>(i.zero,i.size,i.bytes))=some (some (.agg #[.slice none 0 0,.int .i64 0]),2,32):=by kernel_rfl
theorem Qy:(Tryz.prog.info? 90).map (fun i=>(i.zero,i.size,i.bytes))=some (some (.agg #[.int .i64 0,.int .i64 0,.string ⟨#[]⟩,.int .i64 0]),4,40):=by kernel_rfl
theorem Wn:(Tryz.prog.info? 130).map (fun i=>(i.zero,i.size,i.bytes))=some (some (.agg #[.int .i64 0,.string ⟨#[]⟩,.int .i64 0,.int .i64 0]),4,40):=by kernel_rfl
theorem Cj (ad:Addr) (w:World):(Instr.fieldAt 27 (.pointer (some ad)) 0).run Tryz.prog w=.ok (.pointer (some (ad.add 0))) w:=by kernel_rfl
theorem Ed (ad:Addr) (w:World):(Instr.fieldAt 27 (.pointer (some ad)) 1).run Tryz.prog w=.ok (.pointer (some (ad.add 1))) w:=by kernel_rfl
theorem Ec (ad:Addr) (w:World):(Instr.fieldAt 27 (.pointer (some ad)) 2).run Tryz.prog w=.ok (.pointer (some (ad.add 2))) w:=by kernel_rfl
theorem De (ad:Addr) (w:World):(Instr.fieldAt 27 (.pointer (some ad)) 3).run Tryz.prog w=.ok (.pointer (some (ad.add 3))) w:=by kernel_rfl
theorem Gj (ad:Addr) (w:World):(Instr.fieldAt 27 (.pointer (some ad)) 4).run Tryz.prog w=.ok (.pointer (some (ad.add 4))) w:=by kernel_rfl
theorem Em (ad:Addr) (w:World):(Instr.fieldAt 27 (.pointer (some ad)) 5).run Tryz.prog w=.ok (.pointer (some (ad.add 5))) w:=by kernel_rfl
theorem Er (ad:Addr) (w:World):(Instr.fieldAt 48 (.pointer (some ad)) 0).run Tryz.prog w=.ok (.pointer (some (ad.add 0))) w:=by kernel_rfl
theorem Da (ad:Addr) (w:World):(Instr.fieldAt 48 (.pointer (some ad)) 1).run Tryz.prog w=.ok (.pointer (some (ad.add 1))) w:=by kernel_rfl
theorem Hf (ad:Addr) (w:World):(Instr.fieldAt 48 (.pointer (some ad)) 2).run Tryz.prog w=.ok (.pointer (some (ad.add 2))) w:=by kernel_rfl
theorem Ge (ad:Addr) (w:World):(Instr.fieldAt 48 (.pointer (some ad)) 3).run Tryz.prog w=.ok (.pointer (some (ad.add 3))) w:=by kernel_rfl
theorem Cg (ad:Addr) (w:World):(Instr.fieldAt 51 (.pointer (some ad)) 0).run Tryz.prog w=.ok (.pointer (some (ad.add 0))) w:=by kernel_rfl
theorem Cx (ad:Addr) (w:World):(Instr.fieldAt 51 (.pointer (some ad)) 1).run Tryz.prog w=.ok (.pointer (some (ad.add 1))) w:=by kernel_rfl
theorem Du (ad:Addr) (w:World):(Instr.fieldAt 51 (.pointer (some ad)) 2).run Tryz.prog w=.ok (.pointer (some (ad.add 2))) w:=by kernel_rfl
theorem Dx (ad:Addr) (w:World):(Instr.fieldAt 51 (.pointer (some ad)) 3).run Tryz.prog w=.ok (.pointer (some (ad.add 3))) w:=by kernel_rfl
theorem Jo (ad:Addr) (w:World):(Instr.fieldAt 51 (.pointer (some ad)) 4).run Tryz.prog w=.ok (.pointer (some (ad.add 4))) w:=by kernel_rfl
theorem Gk (ad:Addr) (w:World):(Instr.fieldAt 51 (.pointer (some ad)) 5).run Tryz.prog w=.ok (.pointer (some (ad.add 5))) w:=by kernel_rfl
theorem Do (ad:Addr) (w:World):(Instr.fieldAt 51 (.pointer (some ad)) 6).run Tryz.prog w=.ok (.pointer (some (ad.add 6))) w:=by kernel_rfl
theorem Dw (ad:Addr) (w:World):(Instr.fieldAt 51 (.pointer (some ad)) 7).run Tryz.prog w=.ok (.pointer (some (ad.add 7))) w:=by kernel_rfl
theorem En (ad:Addr) (w:World):(Instr.fieldAt 51 (.pointer (some ad)) 8).run Tryz.prog w=.ok (.pointer (some (ad.add 8))) w:=by kernel_rfl
theorem Ep (ad:Addr) (w:World):(Instr.fieldAt 53 (.pointer (some ad)) 0).run Tryz.prog w=.ok (.pointer (some (ad.add 0))) w:=by kernel_rfl
theorem Ft (ad:Addr) (w:World):(Instr.fieldAt 53 (.pointer (some ad)) 1).run Tryz.prog w=.ok (.pointer (some (ad.add 1))) w:=by kernel_rfl
theorem Jm (ad:Addr) (w:World):(Instr.fieldAt 53 (.pointer (some ad)) 2).run Tryz.prog w=.ok (.pointer (some (ad.add 2))) w:=by kernel_rfl
theorem Nv (ad:Addr) (w:World):(Instr.fieldAt 74 (.pointer (some ad)) 0).run Tryz.prog w=.ok (.pointer (some (ad.add 0))) w:=by kernel_rfl
theorem Nk (ad:Addr) (w:World):(Instr.fieldAt 74 (.pointer (some ad)) 1).run Tryz.prog w=.ok (.pointer (some (ad.add 1))) w:=by kernel_rfl
theorem Jaw (ad:Addr) (w:World):(Instr.fieldAt 87 (.pointer (some ad)) 0).run Tryz.prog w=.ok (.pointer (some (ad.add 0))) w:=by kernel_rfl
theorem Jag (ad:Addr) (w:World):(Instr.fieldAt 87 (.pointer (some ad)) 1).run Tryz.prog w=.ok (.pointer (some (ad.add 1))) w:=by kernel_rfl
theorem Jas (ad:Addr) (w:World):(Instr.fieldAt 87 (.pointer (some ad)) 2).run Tryz.prog w=.ok (.pointer (some (ad.add 2))) w:=by kernel_rfl
theorem Ck (ad:Addr) (w:World):(Instr.fieldAt 90 (.pointer (some ad)) 0).run Tryz.prog w=.ok (.pointer (some (ad.add 0))) w:=by kernel_rfl
theorem Dt (ad:Addr) (w:World):(Instr.fieldAt 90 (.pointer (some ad)) 1).run Tryz.prog w=.ok (.pointer (some (ad.add 1))) w:=by kernel_rfl
theorem Fv (ad:Addr) (w:World):(Instr.fieldAt 90 (.pointer (some ad)) 2).run Tryz.prog w=.ok (.pointer (some (ad.add 2))) w:=by kernel_rfl
theorem Fc (ad:Addr) (w:World):(Instr.fieldAt 90 (.pointer (some ad)) 3).run Tryz.prog w=.ok (.pointer (some (ad.add 3))) w:=by kernel_rfl
theorem Ch (ad:Addr) (w:World):(Instr.fieldAt 125 (.pointer (some ad)) 0).run Tryz.prog w=.ok (.pointer (some (ad.add 0))) w:=by kernel_rfl
theorem Bh (ad:Addr) (w:World):(Instr.fieldAt 125 (.pointer (some ad)) 1).run Tryz.prog w=.ok (.pointer (some (ad.add 1))) w:=by kernel_rfl
theorem Cq (ad:Addr) (w:World):(Instr.fieldAt 125 (.pointer (some ad)) 2).run Tryz.prog w=.ok (.pointer (some (ad.add 2))) w:=by kernel_rfl
theorem Fq (ad:Addr) (w:World):(Instr.fieldAt 125 (.pointer (some ad)) 3).run Tryz.prog w=.ok (.pointer (some (ad.add 3))) w:=by kernel_rfl
theorem Cr (ad:Addr) (w:World):(Instr.fieldAt 130 (.pointer (some ad)) 0).run Tryz.prog w=.ok (.pointer (some (ad.add 0))) w:=by kernel_rfl
theorem Eh (ad:Addr) (w:World):(Instr.fieldAt 130 (.pointer (some ad)) 1).run Tryz.prog w=.ok (.pointer (some (ad.add 1))) w:=by kernel_rfl
theorem Gf (ad:Addr) (w:World):(Instr.fieldAt 130 (.pointer (some ad)) 2).run Tryz.prog w=.ok (.pointer (some (ad.add 2))) w:=by kernel_rfl
theorem Dh (ad:Addr) (w:World):(Instr.fieldAt 130 (.pointer (some ad)) 3).run Tryz.prog w=.ok (.pointer (some (ad.add 3))) w:=by kernel_rfl
theorem Bw (ad:Addr) (w:World):(Instr.fieldAt 171 (.pointer (some ad)) 0).run Tryz.prog w=.ok (.pointer (some (ad.add 0))) w:=by kernel_rfl
theorem Bg (ad:Addr) (w:World):(Instr.fieldAt 171 (.pointer (some ad)) 1).run Tryz.prog w=.ok (.pointer (some (ad.add 1))) w:=by kernel_rfl
theorem Bv (ad:Addr) (w:World):(Instr.fieldAt 171 (.pointer (some ad)) 2).run Tryz.prog w=.ok (.pointer (some (ad.add 2))) w:=by kernel_rfl
theorem Gg (ad:Addr) (w:World):(Instr.fieldAt 171 (.pointer (some ad)) 3).run Tryz.prog w=.ok (.pointer (some (ad.add 3))) w:=by kernel_rfl
theorem Eg (ad:Addr) (w:World):(Instr.fieldAt 171 (.pointer (some ad)) 4).run Tryz.prog w=.ok (.pointer (some (ad.add 4))) w:=by kernel_rfl
theorem Gl (ad:Addr) (w:World):(Instr.fieldAt 174 (.pointer (some ad)) 0).run Tryz.prog w=.ok (.pointer (some (ad.add 0))) w:=by kernel_rfl
theorem Ez (ad:Addr) (w:World):(Instr.fieldAt 174 (.pointer (some ad)) 1).run Tryz.prog w=.ok (.pointer (some (ad.add 1))) w:=by kernel_rfl
theorem Hq (ad:Addr) (w:World):(Instr.fieldAt 174 (.pointer (some ad)) 2).run Tryz.prog w=.ok (.pointer (some (ad.add 2))) w:=by kernel_rfl
theorem Wx (ad:Addr) (w:World):(Instr.fieldAt 174 (.pointer (some ad)) 3).run Tryz.prog w=.ok (.pointer (some (ad.add 3))) w:=by kernel_rfl
def Qo:Go.Shelf.Ren:=⟨fun | 4=>132 | n=>n,fun | 22=>24 | 25=>48 | n=>n,fun | n=>n⟩
theorem Xd:Lays8.n4 Tryz.prog Qo:={
  mixed:=by kernel_rfl
  f4:=⟨Tryz.f132.name,by kernel_rfl,Tryz.func132.trans (congrArg some (by kernel_rfl))⟩
  t0:=Tryz.underlying0
  a0:=Tryz.isAgg0
  z0:=Tryz.sizeOf0
  v0:=Tryz.zeroValue0
  t3:=Tryz.underlying3
  a3:=Tryz.isAgg3
  z3:=Tryz.sizeOf3
  v3:=Tryz.zeroValue3
  t4:=Tryz.underlying4
  a4:=Tryz.isAgg4
  z4:=Tryz.sizeOf4
  v4:=Tryz.zeroValue4
  t9:=Tryz.underlying9
  a9:=Tryz.isAgg9
  z9:=Tryz.sizeOf9
  v9:=Tryz.zeroValue9
  t20:=Tryz.underlying20
  a20:=Tryz.isAgg20
  z20:=Tryz.sizeOf20
  v20:=Tryz.zeroValue20
  t22:=Tryz.underlying24
  a22:=Tryz.isAgg24
  z22:=Tryz.sizeOf24
  v22:=Tryz.zeroValue24
}
theorem Nh:KeyOk Tryz.prog 9 kS:=JaI Tryz.runUnderlying9
instance:Enc api_Cell:=Enc.via (β:=Str×Int×Int) 3 rfl fun x=>(x.Name,x.N,x.At)
theorem Bj {h:PH} {cs:List Value} {x:api_Cell} (hx:Enc.rep h cs x):cs=[Ac x.Name,.int .i64 x.N,.int .i64 x.At]:=by
  have hx:Enc.rep (α:=Str×Int×Int) h cs (x.Name,x.N,x.At):=hx
  obtain ⟨q0,r0,e0,g0,hx⟩:=hx
  obtain ⟨q1,r1,e1,g1,hx⟩:=hx
  have w0:=g0
  have w1:=g1
  have w2:=hx
  exact (by rw [e0,w0,e1,w1,w2];rfl)
instance:EncF api_Cell:={ ind:=fun h=>EncF.ind (α:=Str×Int×Int) h }
instance:Enc api_Node:=Enc.via (β:=Int×Int×Str×Int) 4 rfl fun x=>(x.Op,x.N,x.Name,x.At)
theorem Bm {h:PH} {cs:List Value} {x:api_Node} (hx:Enc.rep h cs x):cs=[.int .i64 x.Op,.int .i64 x.N,Ac x.Name,.int .i64 x.At]:=by
  have hx:Enc.rep (α:=Int×Int×Str×Int) h cs (x.Op,x.N,x.Name,x.At):=hx
  obtain ⟨q0,r0,e0,g0,hx⟩:=hx
  obtain ⟨q1,r1,e1,g1,hx⟩:=hx
  obtain ⟨q2,r2,e2,g2,hx⟩:=hx
  have w0:=g0
  have w1:=g1
  have w2:=g2
  have w3:=hx
  exact (by rw [e0,w0,e1,w1,e2,w2,w3];rfl)
instance:EncF api_Node:={ ind:=fun h=>EncF.ind (α:=Int×Int×Str×Int) h }
instance:Enc api_Stmt:=Enc.via (β:=Int×Str×Str×(List api_Node)×(List api_Node)×Int×Int×Int×Int) 9 rfl fun x=>(x.Kind,x.Reg,x.Name,x.E,x.F,x.N,x.Body,x.Else,x.At)
theorem Bn {h:PH} {cs:List Value} {x:api_Stmt} (hx:Enc.rep h cs x):∃ (o3:Option Addr) (c3:Nat) (o4:Option Addr) (c4:Nat),cs=[.int .i64 x.Kind,Ac x.Reg,Ac x.Name,.slice o3 x.E.length c3,.slice o4 x.F.length c4,.int .i64 x.N,.int .i64 x.Body,.int .i64 x.Else,.int .i64 x.At]∧x.E.length≤c3∧SR h o3 x.E∧x.F.length≤c4∧SR h o4 x.F:=by
  have hx:Enc.rep (α:=Int×Str×Str×(List api_Node)×(List api_Node)×Int×Int×Int×Int) h cs (x.Kind,x.Reg,x.Name,x.E,x.F,x.N,x.Body,x.Else,x.At):=hx
  obtain ⟨q0,r0,e0,g0,hx⟩:=hx
  obtain ⟨q1,r1,e1,g1,hx⟩:=hx
  obtain ⟨q2,r2,e2,g2,hx⟩:=hx
  obtain ⟨q3,r3,e3,g3,hx⟩:=hx
  obtain ⟨q4,r4,e4,g4,hx⟩:=hx
  obtain ⟨q5,r5,e5,g5,hx⟩:=hx
  obtain ⟨q6,r6,e6,g6,hx⟩:=hx
  obtain ⟨q7,r7,e7,g7,hx⟩:=hx
  have w0:=g0
  have w1:=g1
  have w2:=g2
  obtain ⟨o3,c3,w3,y3,z3⟩:=g3
  obtain ⟨o4,c4,w4,y4,z4⟩:=g4
  have w5:=g5
  have w6:=g6
  have w7:=g7
  have w8:=hx
  exact ⟨o3,c3,o4,c4,by rw [e0,w0,e1,w1,e2,w2,e3,w3,e4,w4,e5,w5,e6,w6,e7,w7,w8];rfl,y3,z3,y4,z4⟩
instance:Enc api_Thread:=Enc.via (β:=Str×(List Str)×(List api_Stmt)×Int) 4 rfl fun x=>(x.Name,x.Regs,x.Body,x.At)
theorem Av {h:PH} {cs:List Value} {x:api_Thread} (hx:Enc.rep h cs x):∃ (o1:Option Addr) (c1:Nat) (o2:Option Addr) (c2:Nat),cs=[Ac x.Name,.slice o1 x.Regs.length c1,.slice o2 x.Body.length c2,.int .i64 x.At]∧x.Regs.length≤c1∧SR h o1 x.Regs∧x.Body.length≤c2∧SR h o2 x.Body:=by
  have hx:Enc.rep (α:=Str×(List Str)×(List api_Stmt)×Int) h cs (x.Name,x.Regs,x.Body,x.At):=hx
  obtain ⟨q0,r0,e0,g0,hx⟩:=hx
  obtain ⟨q1,r1,e1,g1,hx⟩:=hx
  obtain ⟨q2,r2,e2,g2,hx⟩:=hx
  have w0:=g0
  obtain ⟨o1,c1,w1,y1,z1⟩:=g1
  obtain ⟨o2,c2,w2,y2,z2⟩:=g2
  have w3:=hx
  exact ⟨o1,c1,o2,c2,by rw [e0,w0,e1,w1,e2,w2,w3];rfl,y1,z1,y2,z2⟩
instance:Enc api_Claim:=Enc.via (β:=(List api_Node)×Int) 2 rfl fun x=>(x.E,x.At)
theorem Cn {h:PH} {cs:List Value} {x:api_Claim} (hx:Enc.rep h cs x):∃ (o0:Option Addr) (c0:Nat),cs=[.slice o0 x.E.length c0,.int .i64 x.At]∧x.E.length≤c0∧SR h o0 x.E:=by
  have hx:Enc.rep (α:=(List api_Node)×Int) h cs (x.E,x.At):=hx
  obtain ⟨q0,r0,e0,g0,hx⟩:=hx
  obtain ⟨o0,c0,w0,y0,z0⟩:=g0
  have w1:=hx
  exact ⟨o0,c0,by rw [e0,w0,w1];rfl,y0,z0⟩
instance:Enc api_Prog:=Enc.via (β:=(List (List api_Cell))×(List api_Cell)×(List api_Cell)×(List api_Thread)×(List api_Thread)×(List api_Claim)) 6 rfl fun x=>(x.Lines,x.Vols,x.Locks,x.Threads,x.Recover,x.Claims)
theorem Ar {h:PH} {cs:List Value} {x:api_Prog} (hx:Enc.rep h cs x):∃ (o0:Option Addr) (c0:Nat) (o1:Option Addr) (c1:Nat) (o2:Option Addr) (c2:Nat) (o3:Option Addr) (c3:Nat) (o4:Option Addr) (c4:Nat) (o5:Option Addr) (c5:Nat),cs=[.slice o0 x.Lines.length c0,.slice o1 x.Vols.length c1,.slice o2 x.Locks.length c2,.slice o3 x.Threads.length c3,.slice o4 x.Recover.length c4,.slice o5 x.Claims.length c5]∧x.Lines.length≤c0∧SR h o0 x.Lines∧x.Vols.length≤c1∧SR h o1 x.Vols∧x.Locks.length≤c2∧SR h o2 x.Locks∧x.Threads.length≤c3∧SR h o3 x.Threads∧x.Recover.length≤c4∧SR h o4 x.Recover∧x.Claims.length≤c5∧SR h o5 x.Claims:=by
  have hx:Enc.rep (α:=(List (List api_Cell))×(List api_Cell)×(List api_Cell)×(List api_Thread)×(List api_Thread)×(List api_Claim)) h cs (x.Lines,x.Vols,x.Locks,x.Threads,x.Recover,x.Claims):=hx
  obtain ⟨q0,r0,e0,g0,hx⟩:=hx
  obtain ⟨q1,r1,e1,g1,hx⟩:=hx
  obtain ⟨q2,r2,e2,g2,hx⟩:=hx
  obtain ⟨q3,r3,e3,g3,hx⟩:=hx
  obtain ⟨q4,r4,e4,g4,hx⟩:=hx
  obtain ⟨o0,c0,w0,y0,z0⟩:=g0
  obtain ⟨o1,c1,w1,y1,z1⟩:=g1
  obtain ⟨o2,c2,w2,y2,z2⟩:=g2
  obtain ⟨o3,c3,w3,y3,z3⟩:=g3
  obtain ⟨o4,c4,w4,y4,z4⟩:=g4
  obtain ⟨o5,c5,w5,y5,z5⟩:=hx
  exact ⟨o0,c0,o1,c1,o2,c2,o3,c3,o4,c4,o5,c5,by rw [e0,w0,e1,w1,e2,w2,e3,w3,e4,w4,w5];rfl,y0,z0,y1,z1,y2,z2,y3,z3,y4,z4,y5,z5⟩
instance:Enc legal_use:=Enc.via (β:=Str×Int×(List Int)) 3 rfl fun x=>(x.name,x.at',x.may)
theorem Ls {h:PH} {cs:List Value} {x:legal_use} (hx:Enc.rep h cs x):∃ (o2:Option Addr) (c2:Nat),cs=[Ac x.name,.int .i64 x.at',.slice o2 x.may.length c2]∧x.may.length≤c2∧SR h o2 x.may:=by
  have hx:Enc.rep (α:=Str×Int×(List Int)) h cs (x.name,x.at',x.may):=hx
  obtain ⟨q0,r0,e0,g0,hx⟩:=hx
  obtain ⟨q1,r1,e1,g1,hx⟩:=hx
  have w0:=g0
  have w1:=g1
  obtain ⟨o2,c2,w2,y2,z2⟩:=hx
  exact ⟨o2,c2,by rw [e0,w0,e1,w1,w2];rfl,y2,z2⟩
instance:Enc api_Token:=Enc.via (β:=Int×Str×Int×Int) 4 rfl fun x=>(x.Kind,x.Text,x.N,x.At)
theorem Bb {h:PH} {cs:List Value} {x:api_Token} (hx:Enc.rep h cs x):cs=[.int .i64 x.Kind,Ac x.Text,.int .i64 x.N,.int .i64 x.At]:=by
  have hx:Enc.rep (α:=Int×Str×Int×Int) h cs (x.Kind,x.Text,x.N,x.At):=hx
  obtain ⟨q0,r0,e0,g0,hx⟩:=hx
  obtain ⟨q1,r1,e1,g1,hx⟩:=hx
  obtain ⟨q2,r2,e2,g2,hx⟩:=hx
  have w0:=g0
  have w1:=g1
  have w2:=g2
  have w3:=hx
  exact (by rw [e0,w0,e1,w1,e2,w2,w3];rfl)
instance:EncF api_Token:={ ind:=fun h=>EncF.ind (α:=Int×Str×Int×Int) h }
instance:Enc leadlineref05_In:=Enc.via (β:=(List api_Token)×Int×Int×Int) 4 rfl fun x=>(x.L,x.At,x.E,x.Pos)
instance:Enc leadlineref04_P:=Enc.via (β:=(List api_Token)×Int×Int×Int×(List api_Stmt)) 5 rfl fun x=>(x.L,x.At,x.E,x.Pos,x.Out)
instance:Enc leadlineref03_Read:=Enc.via (β:=(List api_Node)×Int×Int×Int) 4 rfl fun x=>(x.L,x.To,x.E,x.At)
theorem Bd {h:PH} {cs:List Value} {x:leadlineref03_Read} (hx:Enc.rep h cs x):∃ (o0:Option Addr) (c0:Nat),cs=[.slice o0 x.L.length c0,.int .i64 x.To,.int .i64 x.E,.int .i64 x.At]∧x.L.length≤c0∧SR h o0 x.L:=by
  have hx:Enc.rep (α:=(List api_Node)×Int×Int×Int) h cs (x.L,x.To,x.E,x.At):=hx
  obtain ⟨q0,r0,e0,g0,hx⟩:=hx
  obtain ⟨q1,r1,e1,g1,hx⟩:=hx
  obtain ⟨q2,r2,e2,g2,hx⟩:=hx
  obtain ⟨o0,c0,w0,y0,z0⟩:=g0
  have w1:=g1
  have w2:=g2
  have w3:=hx
  exact ⟨o0,c0,by rw [e0,w0,e1,w1,e2,w2,w3];rfl,y0,z0⟩
instance:Enc leadlinelaw07_Walk:=Enc.via (β:=(List Bool)×Int×Int×Bool) 4 rfl fun x=>(x.How,x.At,x.Cost,x.Left)
def Tab (H:PH):Prop:=∀ w:World,H.le w→∃ m:Int,w.cell? ⟨0,0,none⟩=some (.int .i64 m)
theorem Tab.mono {H H':PH} (h:Tab H) (hs:∀ b o,H b=some o→H' b=some o):Tab H':=fun w hl=>h w (fun b o hb=>hl b o (hs b o hb))
theorem Tq {w0:World} {f:FuncId} {s p:Str} {xs:List Str} {n:Nat} {vs:List Value} (hn:xs.length=n) (hm:Nat.ble n 1000000=true) (hv:∀ h:PH,Rows h vs xs)
    (h:Calls Tryz.prog f #[Ac s,Ac p] w0 fun e w'=>e=.returned (.slice (some ⟨w0.heap.size,0,none⟩) n n)∧w'=w0.alloc (.cells vs.toArray 9)) :
    Tot Tryz.prog f #[Ac s,Ac p] w0 (fun v w'=>∃ (oa0:Option Addr) (cap0:Nat) (vs0:List Value),v=.slice oa0 xs.length cap0∧(∀ h,Rows h vs0 xs)∧Fresh w0 (sla 9 1 oa0 xs.length cap0 vs0) w'):=by
  refine Calls.mono h ?_
  rintro e w' ⟨rfl,rfl⟩
  subst hn
  have hl:vs.length=xs.length * 1:=by have:=(hv (fun _=>none)).len;exact this
  refine ⟨_,rfl,_,_,vs,rfl,hv,.alloc _ _ _ (Dk _ _),?_,?_⟩
  · refine ⟨hl, .inr ⟨w0.heap.size, xs.length, vs.toArray, rfl, Dq w0 _, Nat.le_refl _, ?_, by simpa using hl, ?_⟩⟩
    · have:=Nat.le_of_ble_eq_true hm;unfold maxLen;omega
    · rw [List.take_of_length_le (by simp [hl])]
  · intro b hb
    simp [sl,Ci] at hb
    omega
theorem Vi {w0:World} {H:PH} (hH:H.le w0) (hT:Tab H) {s p:Str} {r:List Str} (hm:Pr s p=some r):Tot Tryz.prog 165 #[Ac s,Ac p] w0 (fun v w'=>∃ (oa0:Option Addr) (cap0:Nat) (vs0:List Value),v=.slice oa0 r.length cap0∧(∀ h,Rows h vs0 r)∧Fresh w0 (sla 9 1 oa0 r.length cap0 vs0) w'):=by
  obtain ⟨m,hmc⟩:=hT w0 hH
  unfold Pr at hm
  split at hm
  · rename_i h
    obtain ⟨rfl,rfl⟩:=h
    cases hm
    have hc:=Tryz.strings_Split ⟨[108,105,110,101,32,118,111,108,32,108,111,99,107,32,116,104,114,101,97,100,32,114,101,103,32,108,111,97,100,32,115,116,111,114,101,32,99,97,115,32,102,108,117,115,104,32,111,112,116,32,115,102,101,110,99,101,32,109,102,101,110,99,101,32,116,97,107,101,32,103,105,118,101,32,105,102,32,101,108,115,101,32,108,111,111,112,32,98,114,101,97,107,32,99,104,101,99,107,32,114,101,99,111,118,101,114,32,97,108,119,97,121,115].toArray⟩ ⟨[32].toArray⟩ m w0 (by decide) hmc (by decide)
    rw [show Lib.countB ⟨([108,105,110,101,32,118,111,108,32,108,111,99,107,32,116,104,114,101,97,100,32,114,101,103,32,108,111,97,100,32,115,116,111,114,101,32,99,97,115,32,102,108,117,115,104,32,111,112,116,32,115,102,101,110,99,101,32,109,102,101,110,99,101,32,116,97,107,101,32,103,105,118,101,32,105,102,32,101,108,115,101,32,108,111,111,112,32,98,114,101,97,107,32,99,104,101,99,107,32,114,101,99,111,118,101,114,32,97,108,119,97,121,115]:Str).toArray⟩ ⟨([32]:Str).toArray⟩+1=21 by kernel_rfl,show (Lib.splitB ⟨([32]:Str).toArray⟩ 0 (Lib.countB ⟨([108,105,110,101,32,118,111,108,32,108,111,99,107,32,116,104,114,101,97,100,32,114,101,103,32,108,111,97,100,32,115,116,111,114,101,32,99,97,115,32,102,108,117,115,104,32,111,112,116,32,115,102,101,110,99,101,32,109,102,101,110,99,101,32,116,97,107,101,32,103,105,118,101,32,105,102,32,101,108,115,101,32,108,111,111,112,32,98,114,101,97,107,32,99,104,101,99,107,32,114,101,99,111,118,101,114,32,97,108,119,97,121,115]:Str).toArray⟩ ⟨([32]:Str).toArray⟩) ⟨([108,105,110,101,32,118,111,108,32,108,111,99,107,32,116,104,114,101,97,100,32,114,101,103,32,108,111,97,100,32,115,116,111,114,101,32,99,97,115,32,102,108,117,115,104,32,111,112,116,32,115,102,101,110,99,101,32,109,102,101,110,99,101,32,116,97,107,101,32,103,105,118,101,32,105,102,32,101,108,115,101,32,108,111,111,112,32,98,114,101,97,107,32,99,104,101,99,107,32,114,101,99,111,118,101,114,32,97,108,119,97,121,115]:Str).toArray⟩).map Value.string=[Ac [108,105,110,101],Ac [118,111,108],Ac [108,111,99,107],Ac [116,104,114,101,97,100],Ac [114,101,103],Ac [108,111,97,100],Ac [115,116,111,114,101],Ac [99,97,115],Ac [102,108,117,115,104],Ac [111,112,116],Ac [115,102,101,110,99,101],Ac [109,102,101,110,99,101],Ac [116,97,107,101],Ac [103,105,118,101],Ac [105,102],Ac [101,108,115,101],Ac [108,111,111,112],Ac [98,114,101,97,107],Ac [99,104,101,99,107],Ac [114,101,99,111,118,101,114],Ac [97,108,119,97,121,115]] by kernel_rfl] at hc
    exact Tq rfl rfl (fun h=>(.cons (c:=[Ac [108,105,110,101]]) rfl (.cons (c:=[Ac [118,111,108]]) rfl (.cons (c:=[Ac [108,111,99,107]]) rfl (.cons (c:=[Ac [116,104,114,101,97,100]]) rfl (.cons (c:=[Ac [114,101,103]]) rfl (.cons (c:=[Ac [108,111,97,100]]) rfl (.cons (c:=[Ac [115,116,111,114,101]]) rfl (.cons (c:=[Ac [99,97,115]]) rfl (.cons (c:=[Ac [102,108,117,115,104]]) rfl (.cons (c:=[Ac [111,112,116]]) rfl (.cons (c:=[Ac [115,102,101,110,99,101]]) rfl (.cons (c:=[Ac [109,102,101,110,99,101]]) rfl (.cons (c:=[Ac [116,97,107,101]]) rfl (.cons (c:=[Ac [103,105,118,101]]) rfl (.cons (c:=[Ac [105,102]]) rfl (.cons (c:=[Ac [101,108,115,101]]) rfl (.cons (c:=[Ac [108,111,111,112]]) rfl (.cons (c:=[Ac [98,114,101,97,107]]) rfl (.cons (c:=[Ac [99,104,101,99,107]]) rfl (.cons (c:=[Ac [114,101,99,111,118,101,114]]) rfl (.cons (c:=[Ac [97,108,119,97,121,115]]) rfl .nil)))))))))))))))))))))) hc
  · cases hm
theorem Jc7 {w0:World} {H:PH} (hH:H.le w0) (hT:Tab H) {s p:Str} {r:Bool} (hm:Z0 s p=some r):Tot Tryz.prog 147 #[Ac s,Ac p] w0 (fun v w'=>v=.bool r∧Keep Nil w0 w'):=by
  obtain ⟨m,hmc⟩:=hT w0 hH
  unfold Z0 at hm
  split at hm
  · rename_i h
    cases hm
    refine Calls.mono (Tryz.strings_Contains ⟨s.toArray⟩ ⟨p.toArray⟩ m w0 h hmc) ?_
    rintro e w' ⟨rfl,rfl⟩
    exact ⟨_,rfl,rfl,.refl _ _⟩
  · cases hm
end Go.LM.LB
