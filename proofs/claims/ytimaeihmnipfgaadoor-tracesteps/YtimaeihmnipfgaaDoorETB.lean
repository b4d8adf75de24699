/- What the walks of the seat et lean on. No condition: closed facts, by program. -/
import Derived.Test.YtimaeihmnipfgaaDoorLM
import Derived.Test.YtimaeihmnipfgaaDoorETP
import Derived.Test.YtimaeihmnipfgaaDoorProg
import Derived.KernelRfl
import Derived.Laws.StructEq
import Derived.Test.YtimaeihmnipfgaaDoorTrydSI
import Derived.Test.YtimaeihmnipfgaaDoorBLm
import Derived.Lib.Builder
import Derived.Lib.AppendStr
import Derived.Lib.UnsafeStr
import Derived.WalkKit
import Derived.Laws.Externs
import Derived.Test.YtimaeihmnipfgaaDoorLRw
import Derived.Test.YtimaeihmnipfgaaDoorTrydSB
namespace Go.LM.ET
open Go Go.LL Go.MD Go.LM Go.Proofs Go.MD.ET

theorem wide : Tryd.prog.follows .mixedOrders = true := by kernel_rfl
theorem info3 : (Tryd.prog.info? 3).map (fun i => (i.zero, i.size, i.bytes)) = some (some (.int .i64 0), 1, 8) := by kernel_rfl
theorem info4 : (Tryd.prog.info? 4).map (fun i => (i.zero, i.size, i.bytes)) = some (some (.bool false), 1, 1) := by kernel_rfl
theorem info23 : (Tryd.prog.info? 23).map (fun i => (i.zero, i.size, i.bytes)) = some (some (.agg #[.int .i64 0, .int .i64 0, .int .i64 0, .int .i64 0, .int .i64 0]), 5, 40) := by kernel_rfl
theorem info25 : (Tryd.prog.info? 25).map (fun i => (i.zero, i.size, i.bytes)) = some (some (.slice none 0 0), 1, 24) := by kernel_rfl
theorem info27 : (Tryd.prog.info? 27).map (fun i => (i.zero, i.size, i.bytes)) = some (some (.agg #[.int .i64 0, .int .i64 0, .bool false]), 3, 24) := by kernel_rfl
theorem fa23_0 (ad : Addr) (w : World) : (Instr.fieldAt 23 (.pointer (some ad)) 0).run Tryd.prog w = .ok (.pointer (some (ad.add 0))) w := by kernel_rfl
theorem fa23_1 (ad : Addr) (w : World) : (Instr.fieldAt 23 (.pointer (some ad)) 1).run Tryd.prog w = .ok (.pointer (some (ad.add 1))) w := by kernel_rfl
theorem fa23_2 (ad : Addr) (w : World) : (Instr.fieldAt 23 (.pointer (some ad)) 2).run Tryd.prog w = .ok (.pointer (some (ad.add 2))) w := by kernel_rfl
theorem fa23_3 (ad : Addr) (w : World) : (Instr.fieldAt 23 (.pointer (some ad)) 3).run Tryd.prog w = .ok (.pointer (some (ad.add 3))) w := by kernel_rfl
theorem fa23_4 (ad : Addr) (w : World) : (Instr.fieldAt 23 (.pointer (some ad)) 4).run Tryd.prog w = .ok (.pointer (some (ad.add 4))) w := by kernel_rfl
theorem fa27_0 (ad : Addr) (w : World) : (Instr.fieldAt 27 (.pointer (some ad)) 0).run Tryd.prog w = .ok (.pointer (some (ad.add 0))) w := by kernel_rfl
theorem fa27_1 (ad : Addr) (w : World) : (Instr.fieldAt 27 (.pointer (some ad)) 1).run Tryd.prog w = .ok (.pointer (some (ad.add 1))) w := by kernel_rfl
theorem fa27_2 (ad : Addr) (w : World) : (Instr.fieldAt 27 (.pointer (some ad)) 2).run Tryd.prog w = .ok (.pointer (some (ad.add 2))) w := by kernel_rfl
theorem fa59_0 (ad : Addr) (w : World) : (Instr.fieldAt 59 (.pointer (some ad)) 0).run Tryd.prog w = .ok (.pointer (some (ad.add 0))) w := by kernel_rfl
theorem fa59_1 (ad : Addr) (w : World) : (Instr.fieldAt 59 (.pointer (some ad)) 1).run Tryd.prog w = .ok (.pointer (some (ad.add 1))) w := by kernel_rfl
theorem fa59_2 (ad : Addr) (w : World) : (Instr.fieldAt 59 (.pointer (some ad)) 2).run Tryd.prog w = .ok (.pointer (some (ad.add 2))) w := by kernel_rfl
theorem fa59_3 (ad : Addr) (w : World) : (Instr.fieldAt 59 (.pointer (some ad)) 3).run Tryd.prog w = .ok (.pointer (some (ad.add 3))) w := by kernel_rfl
theorem fa64_0 (ad : Addr) (w : World) : (Instr.fieldAt 64 (.pointer (some ad)) 0).run Tryd.prog w = .ok (.pointer (some (ad.add 0))) w := by kernel_rfl
theorem fa64_1 (ad : Addr) (w : World) : (Instr.fieldAt 64 (.pointer (some ad)) 1).run Tryd.prog w = .ok (.pointer (some (ad.add 1))) w := by kernel_rfl
theorem key3 : KeyOk Tryd.prog 3 kI := keyInt Tryd.runUnderlying3

instance : Enc api_Event := Enc.via (β := Int × Int × Int × Int × Int) 5 rfl fun x => (x.Kind, x.T, x.A, x.N, x.M)
theorem api_Event_open {h : PH} {cs : List Value} {x : api_Event} (hx : Enc.rep h cs x) : cs = [.int .i64 x.Kind, .int .i64 x.T, .int .i64 x.A, .int .i64 x.N, .int .i64 x.M] := by
  have hx : Enc.rep (α := Int × Int × Int × Int × Int) h cs (x.Kind, x.T, x.A, x.N, x.M) := hx
  obtain ⟨q0, r0, e0, g0, hx⟩ := hx
  obtain ⟨q1, r1, e1, g1, hx⟩ := hx
  obtain ⟨q2, r2, e2, g2, hx⟩ := hx
  obtain ⟨q3, r3, e3, g3, hx⟩ := hx
  have w0 := g0
  have w1 := g1
  have w2 := g2
  have w3 := g3
  have w4 := hx
  exact (by rw [e0, w0, e1, w1, e2, w2, e3, w3, w4]; rfl)
instance : EncF api_Event := { ind := fun h => EncF.ind (α := Int × Int × Int × Int × Int) h }
instance : Enc api_Use := Enc.via (β := Int × Int × Bool) 3 rfl fun x => (x.What, x.N, x.Write)
theorem api_Use_open {h : PH} {cs : List Value} {x : api_Use} (hx : Enc.rep h cs x) : cs = [.int .i64 x.What, .int .i64 x.N, .bool x.Write] := by
  have hx : Enc.rep (α := Int × Int × Bool) h cs (x.What, x.N, x.Write) := hx
  obtain ⟨q0, r0, e0, g0, hx⟩ := hx
  obtain ⟨q1, r1, e1, g1, hx⟩ := hx
  have w0 := g0
  have w1 := g1
  have w2 := hx
  exact (by rw [e0, w0, e1, w1, w2]; rfl)
instance : EncF api_Use := { ind := fun h => EncF.ind (α := Int × Int × Bool) h }
instance : Enc event_kind := Enc.via (β := Str × Bool × Bool × Bool) 4 rfl fun x => (x.name, x.a, x.n, x.m)
theorem event_kind_open {h : PH} {cs : List Value} {x : event_kind} (hx : Enc.rep h cs x) : cs = [strv x.name, .bool x.a, .bool x.n, .bool x.m] := by
  have hx : Enc.rep (α := Str × Bool × Bool × Bool) h cs (x.name, x.a, x.n, x.m) := hx
  obtain ⟨q0, r0, e0, g0, hx⟩ := hx
  obtain ⟨q1, r1, e1, g1, hx⟩ := hx
  obtain ⟨q2, r2, e2, g2, hx⟩ := hx
  have w0 := g0
  have w1 := g1
  have w2 := g2
  have w3 := hx
  exact (by rw [e0, w0, e1, w1, e2, w2, w3]; rfl)
instance : EncF event_kind := { ind := fun h => EncF.ind (α := Str × Bool × Bool × Bool) h }
instance : Enc S_is_n := Enc.via (β := Bool × Int) 2 rfl fun x => (x.is', x.n)
theorem S_is_n_open {h : PH} {cs : List Value} {x : S_is_n} (hx : Enc.rep h cs x) : cs = [.bool x.is', .int .i64 x.n] := by
  have hx : Enc.rep (α := Bool × Int) h cs (x.is', x.n) := hx
  obtain ⟨q0, r0, e0, g0, hx⟩ := hx
  have w0 := g0
  have w1 := hx
  exact (by rw [e0, w0, w1]; rfl)
instance : EncF S_is_n := { ind := fun h => EncF.ind (α := Bool × Int) h }
theorem api_Event_run (x y : api_Event) (w : World) : (Op.equalIn 10000 23 (.agg #[.int .i64 x.Kind, .int .i64 x.T, .int .i64 x.A, .int .i64 x.N, .int .i64 x.M]) (.agg #[.int .i64 y.Kind, .int .i64 y.T, .int .i64 y.A, .int .i64 y.N, .int .i64 y.M])).run Tryd.prog w = .ok (decide (x = y)) w := by
  rw [show (10000 : Nat) = 9998 + 1 + 1 from rfl, run_equalIn_struct w _ 23 _ _ (by rw [Program.fieldsOf, Tryd.underlying23]) Tryd.stoodInHeld23]
  rw [Program.fieldsOf, Tryd.underlying23]
  obtain ⟨x0, x1, x2, x3, x4⟩ := x
  obtain ⟨y0, y1, y2, y3, y4⟩ := y
  simp [Op.eqFields, part, Tryd.isAgg3, run_equalIn_int w 9998 3 _ _ _ _ Tryd.underlying3, strv_list]
  repeat (first | rfl | (split <;> simp_all))
theorem api_Event_eql {N : Nat} {F : List (Nat × Value)} {a : Act} {w : World} {d : Option Tmp} {ty u : TypeId} {pos : String} {af : Array Edge} {g : Option (Nat × Bool)} {p q : Operand} {x y : api_Event} (hF : Fr N F a) (hx : opv F p = some (.agg #[.int .i64 x.Kind, .int .i64 x.T, .int .i64 x.A, .int .i64 x.N, .int .i64 x.M])) (hy : opv F q = some (.agg #[.int .i64 y.Kind, .int .i64 y.T, .int .i64 y.A, .int .i64 y.N, .int .i64 y.M])) :
    (execOp a.eval ⟨d, .binOp .eql 23 p q u, ty, pos, af, g⟩).run Tryd.prog w = .ok (.value (.bool (decide (x = y)))) w := by
  simp only [execOp, hF.ev hx, hF.ev hy, Sem.run_bind, run_eqGuard_agg w _ 23 _ _ _ _ Tryd.eqGuardType23, Result.andThen_ok, run_eql_struct, api_Event_run, Sem.run_pure]
theorem api_Event_neq {N : Nat} {F : List (Nat × Value)} {a : Act} {w : World} {d : Option Tmp} {ty u : TypeId} {pos : String} {af : Array Edge} {g : Option (Nat × Bool)} {p q : Operand} {x y : api_Event} (hF : Fr N F a) (hx : opv F p = some (.agg #[.int .i64 x.Kind, .int .i64 x.T, .int .i64 x.A, .int .i64 x.N, .int .i64 x.M])) (hy : opv F q = some (.agg #[.int .i64 y.Kind, .int .i64 y.T, .int .i64 y.A, .int .i64 y.N, .int .i64 y.M])) :
    (execOp a.eval ⟨d, .binOp .neq 23 p q u, ty, pos, af, g⟩).run Tryd.prog w = .ok (.value (.bool (decide (x ≠ y)))) w := by
  simp only [execOp, hF.ev hx, hF.ev hy, Sem.run_bind, run_eqGuard_agg w _ 23 _ _ _ _ Tryd.eqGuardType23, Result.andThen_ok, run_neq_struct, api_Event_run, Sem.run_pure, ne_eq, decide_not]
theorem api_Use_run (x y : api_Use) (w : World) : (Op.equalIn 10000 27 (.agg #[.int .i64 x.What, .int .i64 x.N, .bool x.Write]) (.agg #[.int .i64 y.What, .int .i64 y.N, .bool y.Write])).run Tryd.prog w = .ok (decide (x = y)) w := by
  rw [show (10000 : Nat) = 9998 + 1 + 1 from rfl, run_equalIn_struct w _ 27 _ _ (by rw [Program.fieldsOf, Tryd.underlying27]) Tryd.stoodInHeld27]
  rw [Program.fieldsOf, Tryd.underlying27]
  obtain ⟨x0, x1, x2⟩ := x
  obtain ⟨y0, y1, y2⟩ := y
  simp [Op.eqFields, part, Tryd.isAgg3, Tryd.isAgg4, run_equalIn_int w 9998 3 _ _ _ _ Tryd.underlying3, run_equalIn_bool' w 9998 4 _ _ Tryd.underlying4, strv_list]
  repeat (first | rfl | (split <;> simp_all))
theorem api_Use_eql {N : Nat} {F : List (Nat × Value)} {a : Act} {w : World} {d : Option Tmp} {ty u : TypeId} {pos : String} {af : Array Edge} {g : Option (Nat × Bool)} {p q : Operand} {x y : api_Use} (hF : Fr N F a) (hx : opv F p = some (.agg #[.int .i64 x.What, .int .i64 x.N, .bool x.Write])) (hy : opv F q = some (.agg #[.int .i64 y.What, .int .i64 y.N, .bool y.Write])) :
    (execOp a.eval ⟨d, .binOp .eql 27 p q u, ty, pos, af, g⟩).run Tryd.prog w = .ok (.value (.bool (decide (x = y)))) w := by
  simp only [execOp, hF.ev hx, hF.ev hy, Sem.run_bind, run_eqGuard_agg w _ 27 _ _ _ _ Tryd.eqGuardType27, Result.andThen_ok, run_eql_struct, api_Use_run, Sem.run_pure]
theorem api_Use_neq {N : Nat} {F : List (Nat × Value)} {a : Act} {w : World} {d : Option Tmp} {ty u : TypeId} {pos : String} {af : Array Edge} {g : Option (Nat × Bool)} {p q : Operand} {x y : api_Use} (hF : Fr N F a) (hx : opv F p = some (.agg #[.int .i64 x.What, .int .i64 x.N, .bool x.Write])) (hy : opv F q = some (.agg #[.int .i64 y.What, .int .i64 y.N, .bool y.Write])) :
    (execOp a.eval ⟨d, .binOp .neq 27 p q u, ty, pos, af, g⟩).run Tryd.prog w = .ok (.value (.bool (decide (x ≠ y)))) w := by
  simp only [execOp, hF.ev hx, hF.ev hy, Sem.run_bind, run_eqGuard_agg w _ 27 _ _ _ _ Tryd.eqGuardType27, Result.andThen_ok, run_neq_struct, api_Use_run, Sem.run_pure, ne_eq, decide_not]
theorem infoBld : ∃ j, Tryd.prog.info? 74 = some j ∧ j.size = 2 := by
  have h : (Tryd.prog.info? 74).map (fun i => i.size) = some 2 := by kernel_rfl
  obtain ⟨j, h1, h2⟩ := Option.map_eq_some_iff.1 h
  exact ⟨j, h1, h2⟩
theorem liesBld : liesAt Tryd.prog Tryd.prog.depth 74 (2 / Tryd.prog.cellsOf 74) 0 74 1 = true := by kernel_rfl
set_option maxRecDepth 100000 in
theorem copyCheck_used (b : Nat) (w : World) (h0 : w.cell? ⟨b, 0, none⟩ = some (.pointer (some ⟨b, 0, none⟩))) :
    Calls Tryd.prog 61 #[.pointer (some ⟨b, 0, none⟩)] w fun e w' => e = .returned (.tuple #[]) ∧ w' = w := by
  obtain ⟨j, hj, _⟩ := infoBld
  have mixed := wide
  go_enter Tryd.func61, Tryd.ntmps61
  go_wp2
  rw [Lib.run_neq_ptr_same w _ Tryd.underlying71 hj]
  go_wp2
  go_end0
  exact ⟨rfl, rfl⟩
set_option maxHeartbeats 1000000 in
set_option maxRecDepth 100000 in
theorem copyCheck_fresh (b : Nat) (w : World) (h0 : w.cell? ⟨b, 0, none⟩ = some (.pointer none)) (hsh : w.shape? b = some (74, 2)) (hfz : w.frozen? ⟨b, 0, none⟩ = false) :
    Calls Tryd.prog 61 #[.pointer (some ⟨b, 0, none⟩)] w fun e w' => e = .returned (.tuple #[]) ∧ w' = w.setCell ⟨b, 0, none⟩ (.pointer (some ⟨b, 0, none⟩)) := by
  obtain ⟨j, hj, hjs⟩ := infoBld
  have mixed := wide
  go_enter Tryd.func61, Tryd.ntmps61
  go_wp2
  rw [Lib.run_to_unsafe w ⟨b, 0, none⟩ Tryd.underlying71 Tryd.underlying84 hj (by rw [hjs]; decide) hsh (Nat.zero_lt_succ 1)]
  simp only [Result.andThen]
  rw [Oper.upon_value]
  go_wp2
  rw [run_callFunc_extern Tryd.func63 (by kernel_rfl) (by kernel_rfl) (by kernel_rfl) (e := Extern.AbiNoEscape.same) (by kernel_rfl)]
  rw [Lib.run_noEscape]
  simp only [Result.andThen]
  rw [Oper.upon_value]
  go_wp2
  rw [Lib.run_from_unsafe w ⟨b, 0, none⟩ Tryd.underlying84 Tryd.underlying71 hj hsh liesBld]
  simp only [Result.andThen]
  rw [Oper.upon_value]
  go_wp2
  go_end0
  exact ⟨rfl, rfl⟩

theorem info5b : (Tryd.prog.info? 5).map (fun i => (i.zero, i.size, i.bytes)) = some (some (.int .u8 0), 1, 1) := by kernel_rfl
theorem fab_0 (ad : Addr) (w : World) : (Instr.fieldAt 74 (.pointer (some ad)) 0).run Tryd.prog w = .ok (.pointer (some (ad.add 0))) w := by kernel_rfl
theorem fab_1 (ad : Addr) (w : World) : (Instr.fieldAt 74 (.pointer (some ad)) 1).run Tryd.prog w = .ok (.pointer (some (ad.add 1))) w := by kernel_rfl
theorem copyCheck_c {w0 : World} {M : Nat → Prop} {Hs : List PH} {L L' : List HA} {w : World} {b : Nat} {vp sv : Value} (hS : St w0 M Hs L w)
    (hr : Repl (blk b (.cells [vp, sv].toArray 74 (0, 0))) (blk b (.cells [.pointer (some ⟨b, 0, none⟩), sv].toArray 74 (0, 0))) L L') (hb : BP b vp) :
    Tot Tryd.prog 61 #[.pointer (some ⟨b, 0, none⟩)] w (fun v w' => v = .tuple #[] ∧ St w0 M Hs L' w') := by
  have hh : w.heap[b]? = some (.cells [vp, sv].toArray 74 (0, 0)) := hS.ok _ hr.memOld
  rcases hb with rfl | rfl
  · refine Calls.mono (copyCheck_fresh b w (by simp [World.cell?, hh]) (by simp [World.shape?, hh]) (by simp [World.frozen?, hh])) ?_
    rintro e w' ⟨rfl, rfl⟩
    refine ⟨_, rfl, rfl, hS.upd hr (.setCell _) ?_ (fun b' hb' => .inl hb')⟩
    show hp _ b = _
    rw [hp_setCell _ hh]
    simp
  · refine Calls.mono (copyCheck_used b w (by simp [World.cell?, hh])) ?_
    rintro e w' ⟨rfl, rfl⟩
    refine ⟨_, rfl, rfl, ?_⟩
    rw [Repl.id hr]; exact hS
set_option maxRecDepth 100000 in
theorem bws_c {w0 : World} {M : Nat → Prop} {Hs : List PH} {L : List HA} {w : World} {b cap : Nat} {oa : Option Addr} {xs zs s : Str} {vp : Value}
    (hS : St w0 M Hs (bldA 74 5 b vp oa cap xs :: L) w) (hb : BP b vp) (hm : catB xs s = some zs) :
    Tot Tryd.prog 56 #[.pointer (some ⟨b, 0, none⟩), strv s] w (fun v w' => v = .tuple #[.int .i64 s.length, .nilIface] ∧ ∃ oa' cap', St w0 M Hs (bldA 74 5 b (.pointer (some ⟨b, 0, none⟩)) oa' cap' zs :: L) w') := by
  replace hS := hS.open'
  refine fn0 (args := [.pointer (some ⟨b, 0, none⟩), strv s]) (F := [(0, .pointer (some ⟨b, 0, none⟩)), (1, strv s)]) Tryd.func56 rfl Tryd.ntmps56 rfl rfl fun a hF => ?_
  refine th <| ?_
  refine rg <| ?_
  refine ls <| q1 hF rfl (e_asg hF rfl) fun a hF => ?_
  refine ls <| q1 hF rfl (e_asg hF rfl) fun a hF => ?_
  refine re <| tn <| th <| rg <| ?_
  refine ls <| q1 hF rfl (e_move hF rfl) fun a hF => ?_
  refine ls <| c1 hF rfl Tryd.call61 (copyCheck_c hS .head hb) ⟨rfl, trivial⟩ (fun v w a hR hF => ?_)
  obtain ⟨rfl, hS⟩ := hR
  refine re <| tn <| th <| rg <| ?_
  refine ls <| q1 hF rfl (e_move hF rfl) fun a hF => ?_
  refine ls <| q1 hF rfl (e_move hF rfl) fun a hF => ?_
  refine ls <| q1 hF rfl (e_nilp hF rfl) fun a hF => ?_
  refine ls <| q1 hF rfl (e_fa hF fab_1 rfl) fun a hF => ?_
  refine ls <| q1 hF rfl (e_ld hF Tryd.isAgg72 rfl ((St.ld hS).cellB (.head _) rfl)) fun a hF => ?_
  refine ls <| q1 hF rfl (e_move hF rfl) fun a hF => ?_
  refine ls <| m_apS hF rfl hS Tryd.underlying72 Tryd.underlying9 info5b rfl rfl (.tail _ (.head _)) hm fun oa' cap' w a hU hF => ?_
  replace hS := hU _ (.tail .head)
  clear hU
  refine ls <| q1 hF rfl (e_nilp hF rfl) fun a hF => ?_
  refine ls <| q1 hF rfl (e_fa hF fab_1 rfl) fun a hF => ?_
  refine ls <| s_blk hF hS Tryd.sizeOf72 rfl rfl rfl rfl .head (.succ .zero) fun w hS => ?_
  refine re <| tn <| th <| rg <| ?_
  refine ls <| q1 hF rfl (e_move hF rfl) fun a hF => ?_
  refine ls <| q1 hF rfl (e_lenU hF Tryd.runUnderlying9 rfl) fun a hF => ?_
  refine ls <| q1 hF rfl (e_asg hF rfl) fun a hF => ?_
  refine ls <| q1 hF rfl (e_asg hF rfl) fun a hF => ?_
  refine re <| tn <| wp_ret <| ?_
  exact r2 hF Tryd.results56 rfl rfl ⟨rfl, oa', cap', St.sep2 hS⟩
theorem bstr_c {w0 : World} {Hs : List PH} {w : World} {b cap : Nat} {oa : Option Addr} {xs : Str} {vp : Value}
    (hS : St w0 Nil Hs [bldA 74 5 b vp oa cap xs] w) (hb : BP b vp) :
    Tot Tryd.prog 57 #[.pointer (some ⟨b, 0, none⟩)] w (fun v w' => v = strv xs ∧ Keep Nil w0 w') := by
  replace hS := hS.open'
  have hh : w.heap[b]? = some (.cells [vp, .slice oa xs.length cap].toArray 74 (0, 0)) := hS.ok _ (.head _)
  have ho : SlOk 5 1 (.slice oa xs.length cap) xs.length (Lib.byteCells xs) (hp w) := hS.ok _ (.tail _ (.head _))
  have hk := hS.keep
  have hb0 : w0.heap.size ≤ b := ((hS.own _ (.head _) b rfl).1).elim id (fun h => h.elim)
  have hl : (Lib.byteCells xs).length = xs.length := by simp [Lib.byteCells]
  have hrow : w.ownsRow w0.heap.size 5 1 (.slice oa xs.length cap) (Lib.byteCells xs).length (Lib.byteCells xs) := by
    refine ⟨by omega, ?_⟩
    rw [hl]
    rcases ho.2 with h | ⟨g, cap', cur, h1, h2, h3, h4, h5, h6⟩
    · exact .inl h
    · refine .inr ⟨g, cap', cur, h1, ?_, h2, h3, h4, h5, h6⟩
      exact ((hS.own _ (.tail _ (.head _)) g (by show slBlock _ = some g; rw [h1]; rfl)).1).elim id (fun h => h.elim)
  have hne : (Value.slice oa xs.length cap).ownBlock ≠ some b := fun h => by
    have hd := hS.disj
    rw [List.pairwise_cons] at hd
    refine hd.1 _ (.head _) b rfl ?_
    cases oa with
    | none => cases h
    | some g => exact h
  have hat : Lib.BuilderAt 74 5 w0.heap.size b vp (Lib.byteCells xs) w := ⟨hb0, _, hh, hrow, hne⟩
  have his : Lib.IsBuilder 74 5 w0.heap.size b (Lib.byteCells xs) w := by
    rcases hb with rfl | rfl
    · exact .inl hat
    · exact .inr hat
  refine Calls.mono (Tryd.Builder_String_any _ b xs w his hk.size) ?_
  rintro e w' ⟨rfl, h⟩
  refine ⟨_, rfl, rfl, h.os.trans hk.os, h.tape.trans hk.tape, h.output.trans hk.output, Nat.le_trans hk.size h.size, fun i hi hn => (h.block i hi).trans (hk.block i hi hn), fun ad ha => ?_⟩
  have : w'.frozen? ad = w.frozen? ad := World.frozen?_of_block (h.block _ ha)
  exact this.trans (hk.fz ad ha)

/-- the table that strconv reads -/
def Tab (H : PH) : Prop := ∀ w : World, H.le w → Lib.TabIs Tryd.prog w "internal/strconv.uint64pow10" .u64 Lib.pow10Tab
theorem Tab.mono {H H' : PH} (h : Tab H) (hs : ∀ b o, H b = some o → H' b = some o) : Tab H' := fun w hl => h w (fun b o hb => hl b o (hs b o hb))
theorem Keep.grew (w : World) (k : Nat) (os : Array Obj) : Keep Nil w (Go.Sort.grow (w.drewN k) os) := by
  have hh : (w.drewN k).heap = w.heap := rfl
  refine ⟨rfl, rfl, rfl, by simp [Go.Sort.grow, hh], fun b hb _ => ?_, fun a ha => ?_⟩
  · show ((w.drewN k).heap ++ os)[b]? = _
    rw [hh, Array.getElem?_append_left hb]
  · unfold World.frozen?
    have : (Go.Sort.grow (w.drewN k) os).heap[a.block]? = w.heap[a.block]? := by
      show ((w.drewN k).heap ++ os)[a.block]? = _
      rw [hh, Array.getElem?_append_left ha]
    rw [this]
theorem itoaM_c {w0 : World} {H : PH} (hH : H.le w0) (hT : Tab H) {n : Int} {r : Str} (hm : itoaM n = some r) : Tot Tryd.prog 60 #[.int .i64 n] w0 (fun v w' => v = strv r ∧ Keep Nil w0 w') := by
  unfold itoaM at hm
  split at hm
  · rename_i h
    cases hm
    refine Calls.mono (Tryd.strconv_Itoa n h.1 h.2 w0 (hT w0 hH)) ?_
    rintro e w' ⟨rfl, k, os, rfl⟩
    exact ⟨_, rfl, rfl, Keep.grew w0 k os⟩
  · cases hm

end Go.LM.ET
