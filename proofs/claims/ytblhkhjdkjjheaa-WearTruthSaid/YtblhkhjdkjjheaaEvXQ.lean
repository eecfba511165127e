/- Printed: functions of the wear chapter, as plain ones (own work). -/
import Derived.Test.YtblhkhjdkjjheaaEvXR
set_option linter.unusedVariables false
set_option linter.unusedSimpArgs false
set_option linter.unnecessarySimpa false
set_option linter.unusedSectionVars false
namespace Go.Ev.W.X
open Go Go.Ev Go.Ev.Ab Go.Proofs
set_option maxRecDepth 100000
noncomputable def tb5 : List (Nat × Sum) := [(9, S9), (10, S10t), (24, S24t), (17, SM17), (12, SC12), (25, S25), (26, S26), (20, ST20)]
theorem tbo5 : TblOk Try.prog G tb5 := ⟨ok9, ok10t, ok24t, okM17, okC12, ok25, ok26, okT20, trivial⟩
structure Pg5_0 where
  ns1 : Nat
  gs1 : Nat → List AVal
  ns6 : Nat
  gs6 : Nat → List AVal
  ns7 : Nat
  gs7 : Nat → List AVal
  ns8 : Nat
  gs8 : Nat → List AVal
  ns50 : Nat
  gs50 : Nat → List AVal
  is51 : Int
structure Sg5_0 where
  is52 : Int
noncomputable def h5_0_0 (p : Pg5_0) (s : Sg5_0) : St := ⟨[.unk, (.tree 1 p.ns1 p.gs1), .unk, .unk, .unk, (b true), (.tree 4 p.ns6 p.gs6), (.tree 4 p.ns7 p.gs7), (.tree 4 p.ns8 p.gs8), .unk, .unk, .unk, .unk, .unk, .unk, .unk, .unk, .unk, .unk, .unk, .unk, .unk, .unk, .unk, .unk, .unk, .unk, .unk, .unk, .unk, .unk, .unk, .unk, .unk, .unk, .unk, .unk, .unk, .unk, .unk, .unk, .unk, .unk, .unk, .unk, .unk, .unk, .unk, .unk, .unk, (.tree 4 p.ns50 p.gs50), (i p.is51), (i s.is52), .unk, .unk, .unk, .unk, .unk, .unk, .unk, .unk, .unk, .unk, .unk, .unk, .unk, .unk, .unk, .unk, .unk, .unk, .unk, .unk, .unk, .unk, .unk, .unk, .unk, .unk, .unk, .unk, .unk, .unk, .unk, .unk, .unk, .unk, .unk, .unk, .unk, .unk, .unk, .unk, .unk, .unk, .unk, .unk, .unk, .unk, .unk, .unk, .unk, .unk, .unk, .unk, .unk, .unk, .unk, .unk, .unk, .unk, .unk, .unk, .unk, .unk, .unk, .unk, .unk, .unk, .unk, .unk, .unk, .unk, .unk, .unk, .unk, .unk, .unk, .unk, .unk, .unk, .unk, .unk, .unk, .unk, .unk, .unk, .unk, .unk, .unk, .unk, .unk, .unk, .unk, .unk, .unk, .unk, .unk, .unk, .unk, .unk, .unk, .unk, .unk, .unk, .unk, .unk, .unk, .unk, .unk, .unk, .unk, .unk, .unk, .unk, .unk, .unk, .unk, .unk, .unk, .unk, .unk, .unk, .unk, .unk, .unk, .unk, .unk, .unk, .unk, .unk, .unk, .unk, .unk, .unk, .unk, .unk, .unk, .unk, .unk, .unk, .unk, .unk], []⟩
noncomputable def en5_0 (p : Pg5_0) (s : Sg5_0) : St := (h5_0_0 p s)
noncomputable def x5_0_1 (p : Pg5_0) (s : Sg5_0) : XExit × St := let t1 := (p25 (⟨p.ns1, fun k => toI (hdA (p.gs1 k))⟩ : IL) (toI (hdA (p.gs50 s.is52.toNat))) (toI (hdA (tlA (p.gs50 s.is52.toNat))))); (.ret, ⟨[.unk, (.tree 1 p.ns1 p.gs1), .unk, .unk, (b false), (b true), (.tree 4 p.ns6 p.gs6), (.tree 4 p.ns7 p.gs7), (.tree 4 p.ns8 p.gs8), .unk, .unk, (.ptr 0 0 0 0), (i t1), .unk, .unk, .unk, .unk, .unk, .unk, .unk, .unk, .unk, .unk, .unk, .unk, .unk, .unk, .unk, .unk, .unk, .unk, .unk, .unk, .unk, .unk, .unk, .unk, .unk, .unk, .unk, .unk, .unk, .unk, .unk, .unk, .unk, .unk, .unk, .unk, .unk, (.tree 4 p.ns50 p.gs50), (i p.is51), (i s.is52), (b (decide (s.is52 < p.is51))), (.tptr (p.gs50 s.is52.toNat)), (.agg [(i (toI (hdA (p.gs50 s.is52.toNat)))), (i (toI (hdA (tlA (p.gs50 s.is52.toNat))))), (i (toI (hdA (tlA (tlA (p.gs50 s.is52.toNat)))))), (i (toI (hdA (tlA (tlA (tlA (p.gs50 s.is52.toNat)))))))]), (.tree 1 p.ns1 p.gs1), (.ptr 0 0 0 0), (i (toI (hdA (p.gs50 s.is52.toNat)))), (.ptr 0 0 1 0), (i (toI (hdA (tlA (p.gs50 s.is52.toNat))))), (i t1), (.ptr 0 0 0 0), (i (toI (hdA (p.gs50 s.is52.toNat)))), (b (decide ((toI (hdA (p.gs50 s.is52.toNat))) < 0))), (b true), u, u, u, (b true), (b true), u, u, u, (b true), (b true), u, u, u, (b true), (b true), u, u, u, u, (b true), (b true), u, u, u, u, (b true), .unk, .unk, .unk, .unk, .unk, .unk, .unk, .unk, .unk, .unk, .unk, .unk, .unk, .unk, .unk, .unk, .unk, .unk, .unk, .unk, .unk, .unk, .unk, .unk, .unk, .unk, .unk, .unk, .unk, .unk, .unk, .unk, .unk, .unk, .unk, .unk, .unk, .unk, .unk, .unk, .unk, .unk, .unk, .unk, .unk, .unk, .unk, .unk, .unk, .unk, .unk, .unk, .unk, .unk, .unk, .unk, .unk, .unk, .unk, .unk, .unk, .unk, .unk, .unk, .unk, .unk, .unk, .unk, .unk, .unk, .unk, .unk, .unk, .unk, .unk, .unk, .unk, .unk, .unk, .unk, .unk, .unk, .unk, .unk, .unk, .unk, .unk, .unk, .unk, .unk, .unk, .unk, .unk, .unk, .unk, .unk, .unk, .unk, .unk, .unk, .unk], [⟨0, 4, [[(i (toI (hdA (p.gs50 s.is52.toNat)))), (i (toI (hdA (tlA (p.gs50 s.is52.toNat))))), (i (toI (hdA (tlA (tlA (p.gs50 s.is52.toNat)))))), (i (toI (hdA (tlA (tlA (tlA (p.gs50 s.is52.toNat)))))))]], true, false, 0⟩]⟩)
theorem nx5_0_1 (p : Pg5_0) (s : Sg5_0) : (x5_0_1 p s).1 ≠ .normal := fun h => by
  have h : XExit.ret = XExit.normal := h
  cases h
noncomputable def x5_0_2 (p : Pg5_0) (s : Sg5_0) : XExit × St := let t1 := (p25 (⟨p.ns1, fun k => toI (hdA (p.gs1 k))⟩ : IL) (toI (hdA (p.gs50 s.is52.toNat))) (toI (hdA (tlA (p.gs50 s.is52.toNat))))); (.ret, ⟨[.unk, (.tree 1 p.ns1 p.gs1), .unk, .unk, (b false), (b true), (.tree 4 p.ns6 p.gs6), (.tree 4 p.ns7 p.gs7), (.tree 4 p.ns8 p.gs8), .unk, .unk, (.ptr 0 0 0 0), (i t1), .unk, .unk, .unk, .unk, .unk, .unk, .unk, .unk, .unk, .unk, .unk, .unk, .unk, .unk, .unk, .unk, .unk, .unk, .unk, .unk, .unk, .unk, .unk, .unk, .unk, .unk, .unk, .unk, .unk, .unk, .unk, .unk, .unk, .unk, .unk, .unk, .unk, (.tree 4 p.ns50 p.gs50), (i p.is51), (i s.is52), (b (decide (s.is52 < p.is51))), (.tptr (p.gs50 s.is52.toNat)), (.agg [(i (toI (hdA (p.gs50 s.is52.toNat)))), (i (toI (hdA (tlA (p.gs50 s.is52.toNat))))), (i (toI (hdA (tlA (tlA (p.gs50 s.is52.toNat)))))), (i (toI (hdA (tlA (tlA (tlA (p.gs50 s.is52.toNat)))))))]), (.tree 1 p.ns1 p.gs1), (.ptr 0 0 0 0), (i (toI (hdA (p.gs50 s.is52.toNat)))), (.ptr 0 0 1 0), (i (toI (hdA (tlA (p.gs50 s.is52.toNat))))), (i t1), (.ptr 0 0 0 0), (i (toI (hdA (p.gs50 s.is52.toNat)))), (b (decide ((toI (hdA (p.gs50 s.is52.toNat))) < 0))), (b false), (.ptr 0 0 0 0), (i (toI (hdA (p.gs50 s.is52.toNat)))), (b (decide ((toI (hdA (p.gs50 s.is52.toNat))) > 2))), (b (decide ((toI (hdA (p.gs50 s.is52.toNat))) > 2))), (b true), u, u, u, (b true), (b true), u, u, u, (b true), (b true), u, u, u, u, (b true), (b true), u, u, u, u, (b true), .unk, .unk, .unk, .unk, .unk, .unk, .unk, .unk, .unk, .unk, .unk, .unk, .unk, .unk, .unk, .unk, .unk, .unk, .unk, .unk, .unk, .unk, .unk, .unk, .unk, .unk, .unk, .unk, .unk, .unk, .unk, .unk, .unk, .unk, .unk, .unk, .unk, .unk, .unk, .unk, .unk, .unk, .unk, .unk, .unk, .unk, .unk, .unk, .unk, .unk, .unk, .unk, .unk, .unk, .unk, .unk, .unk, .unk, .unk, .unk, .unk, .unk, .unk, .unk, .unk, .unk, .unk, .unk, .unk, .unk, .unk, .unk, .unk, .unk, .unk, .unk, .unk, .unk, .unk, .unk, .unk, .unk, .unk, .unk, .unk, .unk, .unk, .unk, .unk, .unk, .unk, .unk, .unk, .unk, .unk, .unk, .unk, .unk, .unk, .unk, .unk], [⟨0, 4, [[(i (toI (hdA (p.gs50 s.is52.toNat)))), (i (toI (hdA (tlA (p.gs50 s.is52.toNat))))), (i (toI (hdA (tlA (tlA (p.gs50 s.is52.toNat)))))), (i (toI (hdA (tlA (tlA (tlA (p.gs50 s.is52.toNat)))))))]], true, false, 0⟩]⟩)
theorem nx5_0_2 (p : Pg5_0) (s : Sg5_0) : (x5_0_2 p s).1 ≠ .normal := fun h => by
  have h : XExit.ret = XExit.normal := h
  cases h
noncomputable def x5_0_3 (p : Pg5_0) (s : Sg5_0) : XExit × St := let t1 := (p25 (⟨p.ns1, fun k => toI (hdA (p.gs1 k))⟩ : IL) (toI (hdA (p.gs50 s.is52.toNat))) (toI (hdA (tlA (p.gs50 s.is52.toNat))))); (.ret, ⟨[.unk, (.tree 1 p.ns1 p.gs1), .unk, .unk, (b false), (b true), (.tree 4 p.ns6 p.gs6), (.tree 4 p.ns7 p.gs7), (.tree 4 p.ns8 p.gs8), .unk, .unk, (.ptr 0 0 0 0), (i t1), .unk, .unk, .unk, .unk, .unk, .unk, .unk, .unk, .unk, .unk, .unk, .unk, .unk, .unk, .unk, .unk, .unk, .unk, .unk, .unk, .unk, .unk, .unk, .unk, .unk, .unk, .unk, .unk, .unk, .unk, .unk, .unk, .unk, .unk, .unk, .unk, .unk, (.tree 4 p.ns50 p.gs50), (i p.is51), (i s.is52), (b (decide (s.is52 < p.is51))), (.tptr (p.gs50 s.is52.toNat)), (.agg [(i (toI (hdA (p.gs50 s.is52.toNat)))), (i (toI (hdA (tlA (p.gs50 s.is52.toNat))))), (i (toI (hdA (tlA (tlA (p.gs50 s.is52.toNat)))))), (i (toI (hdA (tlA (tlA (tlA (p.gs50 s.is52.toNat)))))))]), (.tree 1 p.ns1 p.gs1), (.ptr 0 0 0 0), (i (toI (hdA (p.gs50 s.is52.toNat)))), (.ptr 0 0 1 0), (i (toI (hdA (tlA (p.gs50 s.is52.toNat))))), (i t1), (.ptr 0 0 0 0), (i (toI (hdA (p.gs50 s.is52.toNat)))), (b (decide ((toI (hdA (p.gs50 s.is52.toNat))) < 0))), (b false), (.ptr 0 0 0 0), (i (toI (hdA (p.gs50 s.is52.toNat)))), (b (decide ((toI (hdA (p.gs50 s.is52.toNat))) > 2))), (b (decide ((toI (hdA (p.gs50 s.is52.toNat))) > 2))), (b false), (.ptr 0 0 1 0), (i (toI (hdA (tlA (p.gs50 s.is52.toNat))))), (b (decide ((toI (hdA (tlA (p.gs50 s.is52.toNat)))) < 0))), (b (decide ((toI (hdA (tlA (p.gs50 s.is52.toNat)))) < 0))), (b true), u, u, u, (b true), (b true), u, u, u, u, (b true), (b true), u, u, u, u, (b true), .unk, .unk, .unk, .unk, .unk, .unk, .unk, .unk, .unk, .unk, .unk, .unk, .unk, .unk, .unk, .unk, .unk, .unk, .unk, .unk, .unk, .unk, .unk, .unk, .unk, .unk, .unk, .unk, .unk, .unk, .unk, .unk, .unk, .unk, .unk, .unk, .unk, .unk, .unk, .unk, .unk, .unk, .unk, .unk, .unk, .unk, .unk, .unk, .unk, .unk, .unk, .unk, .unk, .unk, .unk, .unk, .unk, .unk, .unk, .unk, .unk, .unk, .unk, .unk, .unk, .unk, .unk, .unk, .unk, .unk, .unk, .unk, .unk, .unk, .unk, .unk, .unk, .unk, .unk, .unk, .unk, .unk, .unk, .unk, .unk, .unk, .unk, .unk, .unk, .unk, .unk, .unk, .unk, .unk, .unk, .unk, .unk, .unk, .unk, .unk, .unk], [⟨0, 4, [[(i (toI (hdA (p.gs50 s.is52.toNat)))), (i (toI (hdA (tlA (p.gs50 s.is52.toNat))))), (i (toI (hdA (tlA (tlA (p.gs50 s.is52.toNat)))))), (i (toI (hdA (tlA (tlA (tlA (p.gs50 s.is52.toNat)))))))]], true, false, 0⟩]⟩)
theorem nx5_0_3 (p : Pg5_0) (s : Sg5_0) : (x5_0_3 p s).1 ≠ .normal := fun h => by
  have h : XExit.ret = XExit.normal := h
  cases h
noncomputable def x5_0_4 (p : Pg5_0) (s : Sg5_0) : XExit × St := let t1 := (p25 (⟨p.ns1, fun k => toI (hdA (p.gs1 k))⟩ : IL) (toI (hdA (p.gs50 s.is52.toNat))) (toI (hdA (tlA (p.gs50 s.is52.toNat))))); (.ret, ⟨[.unk, (.tree 1 p.ns1 p.gs1), .unk, .unk, (b false), (b true), (.tree 4 p.ns6 p.gs6), (.tree 4 p.ns7 p.gs7), (.tree 4 p.ns8 p.gs8), .unk, .unk, (.ptr 0 0 0 0), (i t1), .unk, .unk, .unk, .unk, .unk, .unk, .unk, .unk, .unk, .unk, .unk, .unk, .unk, .unk, .unk, .unk, .unk, .unk, .unk, .unk, .unk, .unk, .unk, .unk, .unk, .unk, .unk, .unk, .unk, .unk, .unk, .unk, .unk, .unk, .unk, .unk, .unk, (.tree 4 p.ns50 p.gs50), (i p.is51), (i s.is52), (b (decide (s.is52 < p.is51))), (.tptr (p.gs50 s.is52.toNat)), (.agg [(i (toI (hdA (p.gs50 s.is52.toNat)))), (i (toI (hdA (tlA (p.gs50 s.is52.toNat))))), (i (toI (hdA (tlA (tlA (p.gs50 s.is52.toNat)))))), (i (toI (hdA (tlA (tlA (tlA (p.gs50 s.is52.toNat)))))))]), (.tree 1 p.ns1 p.gs1), (.ptr 0 0 0 0), (i (toI (hdA (p.gs50 s.is52.toNat)))), (.ptr 0 0 1 0), (i (toI (hdA (tlA (p.gs50 s.is52.toNat))))), (i t1), (.ptr 0 0 0 0), (i (toI (hdA (p.gs50 s.is52.toNat)))), (b (decide ((toI (hdA (p.gs50 s.is52.toNat))) < 0))), (b false), (.ptr 0 0 0 0), (i (toI (hdA (p.gs50 s.is52.toNat)))), (b (decide ((toI (hdA (p.gs50 s.is52.toNat))) > 2))), (b (decide ((toI (hdA (p.gs50 s.is52.toNat))) > 2))), (b false), (.ptr 0 0 1 0), (i (toI (hdA (tlA (p.gs50 s.is52.toNat))))), (b (decide ((toI (hdA (tlA (p.gs50 s.is52.toNat)))) < 0))), (b (decide ((toI (hdA (tlA (p.gs50 s.is52.toNat)))) < 0))), (b false), (.ptr 0 0 1 0), (i (toI (hdA (tlA (p.gs50 s.is52.toNat))))), (b (decide ((toI (hdA (tlA (p.gs50 s.is52.toNat)))) > 3))), (b (decide ((toI (hdA (tlA (p.gs50 s.is52.toNat)))) > 3))), (b true), u, u, u, u, (b true), (b true), u, u, u, u, (b true), .unk, .unk, .unk, .unk, .unk, .unk, .unk, .unk, .unk, .unk, .unk, .unk, .unk, .unk, .unk, .unk, .unk, .unk, .unk, .unk, .unk, .unk, .unk, .unk, .unk, .unk, .unk, .unk, .unk, .unk, .unk, .unk, .unk, .unk, .unk, .unk, .unk, .unk, .unk, .unk, .unk, .unk, .unk, .unk, .unk, .unk, .unk, .unk, .unk, .unk, .unk, .unk, .unk, .unk, .unk, .unk, .unk, .unk, .unk, .unk, .unk, .unk, .unk, .unk, .unk, .unk, .unk, .unk, .unk, .unk, .unk, .unk, .unk, .unk, .unk, .unk, .unk, .unk, .unk, .unk, .unk, .unk, .unk, .unk, .unk, .unk, .unk, .unk, .unk, .unk, .unk, .unk, .unk, .unk, .unk, .unk, .unk, .unk, .unk, .unk, .unk], [⟨0, 4, [[(i (toI (hdA (p.gs50 s.is52.toNat)))), (i (toI (hdA (tlA (p.gs50 s.is52.toNat))))), (i (toI (hdA (tlA (tlA (p.gs50 s.is52.toNat)))))), (i (toI (hdA (tlA (tlA (tlA (p.gs50 s.is52.toNat)))))))]], true, false, 0⟩]⟩)
theorem nx5_0_4 (p : Pg5_0) (s : Sg5_0) : (x5_0_4 p s).1 ≠ .normal := fun h => by
  have h : XExit.ret = XExit.normal := h
  cases h
noncomputable def x5_0_5 (p : Pg5_0) (s : Sg5_0) : XExit × St := let t1 := (p25 (⟨p.ns1, fun k => toI (hdA (p.gs1 k))⟩ : IL) (toI (hdA (p.gs50 s.is52.toNat))) (toI (hdA (tlA (p.gs50 s.is52.toNat))))); (.ret, ⟨[.unk, (.tree 1 p.ns1 p.gs1), .unk, .unk, (b false), (b true), (.tree 4 p.ns6 p.gs6), (.tree 4 p.ns7 p.gs7), (.tree 4 p.ns8 p.gs8), .unk, .unk, (.ptr 0 0 0 0), (i t1), .unk, .unk, .unk, .unk, .unk, .unk, .unk, .unk, .unk, .unk, .unk, .unk, .unk, .unk, .unk, .unk, .unk, .unk, .unk, .unk, .unk, .unk, .unk, .unk, .unk, .unk, .unk, .unk, .unk, .unk, .unk, .unk, .unk, .unk, .unk, .unk, .unk, (.tree 4 p.ns50 p.gs50), (i p.is51), (i s.is52), (b (decide (s.is52 < p.is51))), (.tptr (p.gs50 s.is52.toNat)), (.agg [(i (toI (hdA (p.gs50 s.is52.toNat)))), (i (toI (hdA (tlA (p.gs50 s.is52.toNat))))), (i (toI (hdA (tlA (tlA (p.gs50 s.is52.toNat)))))), (i (toI (hdA (tlA (tlA (tlA (p.gs50 s.is52.toNat)))))))]), (.tree 1 p.ns1 p.gs1), (.ptr 0 0 0 0), (i (toI (hdA (p.gs50 s.is52.toNat)))), (.ptr 0 0 1 0), (i (toI (hdA (tlA (p.gs50 s.is52.toNat))))), (i t1), (.ptr 0 0 0 0), (i (toI (hdA (p.gs50 s.is52.toNat)))), (b (decide ((toI (hdA (p.gs50 s.is52.toNat))) < 0))), (b false), (.ptr 0 0 0 0), (i (toI (hdA (p.gs50 s.is52.toNat)))), (b (decide ((toI (hdA (p.gs50 s.is52.toNat))) > 2))), (b (decide ((toI (hdA (p.gs50 s.is52.toNat))) > 2))), (b false), (.ptr 0 0 1 0), (i (toI (hdA (tlA (p.gs50 s.is52.toNat))))), (b (decide ((toI (hdA (tlA (p.gs50 s.is52.toNat)))) < 0))), (b (decide ((toI (hdA (tlA (p.gs50 s.is52.toNat)))) < 0))), (b false), (.ptr 0 0 1 0), (i (toI (hdA (tlA (p.gs50 s.is52.toNat))))), (b (decide ((toI (hdA (tlA (p.gs50 s.is52.toNat)))) > 3))), (b (decide ((toI (hdA (tlA (p.gs50 s.is52.toNat)))) > 3))), (b false), (i t1), (.ptr 0 0 2 0), (i (toI (hdA (tlA (tlA (p.gs50 s.is52.toNat)))))), (b (decide (t1 < (toI (hdA (tlA (tlA (p.gs50 s.is52.toNat)))))))), (b (decide (t1 < (toI (hdA (tlA (tlA (p.gs50 s.is52.toNat)))))))), (b true), u, u, u, u, (b true), .unk, .unk, .unk, .unk, .unk, .unk, .unk, .unk, .unk, .unk, .unk, .unk, .unk, .unk, .unk, .unk, .unk, .unk, .unk, .unk, .unk, .unk, .unk, .unk, .unk, .unk, .unk, .unk, .unk, .unk, .unk, .unk, .unk, .unk, .unk, .unk, .unk, .unk, .unk, .unk, .unk, .unk, .unk, .unk, .unk, .unk, .unk, .unk, .unk, .unk, .unk, .unk, .unk, .unk, .unk, .unk, .unk, .unk, .unk, .unk, .unk, .unk, .unk, .unk, .unk, .unk, .unk, .unk, .unk, .unk, .unk, .unk, .unk, .unk, .unk, .unk, .unk, .unk, .unk, .unk, .unk, .unk, .unk, .unk, .unk, .unk, .unk, .unk, .unk, .unk, .unk, .unk, .unk, .unk, .unk, .unk, .unk, .unk, .unk, .unk, .unk], [⟨0, 4, [[(i (toI (hdA (p.gs50 s.is52.toNat)))), (i (toI (hdA (tlA (p.gs50 s.is52.toNat))))), (i (toI (hdA (tlA (tlA (p.gs50 s.is52.toNat)))))), (i (toI (hdA (tlA (tlA (tlA (p.gs50 s.is52.toNat)))))))]], true, false, 0⟩]⟩)
theorem nx5_0_5 (p : Pg5_0) (s : Sg5_0) : (x5_0_5 p s).1 ≠ .normal := fun h => by
  have h : XExit.ret = XExit.normal := h
  cases h
noncomputable def x5_0_6 (p : Pg5_0) (s : Sg5_0) : XExit × St := let t1 := (p25 (⟨p.ns1, fun k => toI (hdA (p.gs1 k))⟩ : IL) (toI (hdA (p.gs50 s.is52.toNat))) (toI (hdA (tlA (p.gs50 s.is52.toNat))))); (.ret, ⟨[.unk, (.tree 1 p.ns1 p.gs1), .unk, .unk, (b false), (b true), (.tree 4 p.ns6 p.gs6), (.tree 4 p.ns7 p.gs7), (.tree 4 p.ns8 p.gs8), .unk, .unk, (.ptr 0 0 0 0), (i t1), .unk, .unk, .unk, .unk, .unk, .unk, .unk, .unk, .unk, .unk, .unk, .unk, .unk, .unk, .unk, .unk, .unk, .unk, .unk, .unk, .unk, .unk, .unk, .unk, .unk, .unk, .unk, .unk, .unk, .unk, .unk, .unk, .unk, .unk, .unk, .unk, .unk, (.tree 4 p.ns50 p.gs50), (i p.is51), (i s.is52), (b (decide (s.is52 < p.is51))), (.tptr (p.gs50 s.is52.toNat)), (.agg [(i (toI (hdA (p.gs50 s.is52.toNat)))), (i (toI (hdA (tlA (p.gs50 s.is52.toNat))))), (i (toI (hdA (tlA (tlA (p.gs50 s.is52.toNat)))))), (i (toI (hdA (tlA (tlA (tlA (p.gs50 s.is52.toNat)))))))]), (.tree 1 p.ns1 p.gs1), (.ptr 0 0 0 0), (i (toI (hdA (p.gs50 s.is52.toNat)))), (.ptr 0 0 1 0), (i (toI (hdA (tlA (p.gs50 s.is52.toNat))))), (i t1), (.ptr 0 0 0 0), (i (toI (hdA (p.gs50 s.is52.toNat)))), (b (decide ((toI (hdA (p.gs50 s.is52.toNat))) < 0))), (b false), (.ptr 0 0 0 0), (i (toI (hdA (p.gs50 s.is52.toNat)))), (b (decide ((toI (hdA (p.gs50 s.is52.toNat))) > 2))), (b (decide ((toI (hdA (p.gs50 s.is52.toNat))) > 2))), (b false), (.ptr 0 0 1 0), (i (toI (hdA (tlA (p.gs50 s.is52.toNat))))), (b (decide ((toI (hdA (tlA (p.gs50 s.is52.toNat)))) < 0))), (b (decide ((toI (hdA (tlA (p.gs50 s.is52.toNat)))) < 0))), (b false), (.ptr 0 0 1 0), (i (toI (hdA (tlA (p.gs50 s.is52.toNat))))), (b (decide ((toI (hdA (tlA (p.gs50 s.is52.toNat)))) > 3))), (b (decide ((toI (hdA (tlA (p.gs50 s.is52.toNat)))) > 3))), (b false), (i t1), (.ptr 0 0 2 0), (i (toI (hdA (tlA (tlA (p.gs50 s.is52.toNat)))))), (b (decide (t1 < (toI (hdA (tlA (tlA (p.gs50 s.is52.toNat)))))))), (b (decide (t1 < (toI (hdA (tlA (tlA (p.gs50 s.is52.toNat)))))))), (b false), (i t1), (.ptr 0 0 3 0), (i (toI (hdA (tlA (tlA (tlA (p.gs50 s.is52.toNat))))))), (b (decide (t1 > (toI (hdA (tlA (tlA (tlA (p.gs50 s.is52.toNat))))))))), (b (decide (t1 > (toI (hdA (tlA (tlA (tlA (p.gs50 s.is52.toNat))))))))), .unk, .unk, .unk, .unk, .unk, .unk, .unk, .unk, .unk, .unk, .unk, .unk, .unk, .unk, .unk, .unk, .unk, .unk, .unk, .unk, .unk, .unk, .unk, .unk, .unk, .unk, .unk, .unk, .unk, .unk, .unk, .unk, .unk, .unk, .unk, .unk, .unk, .unk, .unk, .unk, .unk, .unk, .unk, .unk, .unk, .unk, .unk, .unk, .unk, .unk, .unk, .unk, .unk, .unk, .unk, .unk, .unk, .unk, .unk, .unk, .unk, .unk, .unk, .unk, .unk, .unk, .unk, .unk, .unk, .unk, .unk, .unk, .unk, .unk, .unk, .unk, .unk, .unk, .unk, .unk, .unk, .unk, .unk, .unk, .unk, .unk, .unk, .unk, .unk, .unk, .unk, .unk, .unk, .unk, .unk, .unk, .unk, .unk, .unk, .unk, .unk], [⟨0, 4, [[(i (toI (hdA (p.gs50 s.is52.toNat)))), (i (toI (hdA (tlA (p.gs50 s.is52.toNat))))), (i (toI (hdA (tlA (tlA (p.gs50 s.is52.toNat)))))), (i (toI (hdA (tlA (tlA (tlA (p.gs50 s.is52.toNat)))))))]], true, false, 0⟩]⟩)
theorem nx5_0_6 (p : Pg5_0) (s : Sg5_0) : (x5_0_6 p s).1 ≠ .normal := fun h => by
  have h : XExit.ret = XExit.normal := h
  cases h
noncomputable def x5_0_7 (p : Pg5_0) (s : Sg5_0) : XExit × St := (.exit 0, ⟨[.unk, (.tree 1 p.ns1 p.gs1), .unk, .unk, .unk, (b true), (.tree 4 p.ns6 p.gs6), (.tree 4 p.ns7 p.gs7), (.tree 4 p.ns8 p.gs8), .unk, .unk, .unk, .unk, .unk, .unk, .unk, .unk, .unk, .unk, .unk, .unk, .unk, .unk, .unk, .unk, .unk, .unk, .unk, .unk, .unk, .unk, .unk, .unk, .unk, .unk, .unk, .unk, .unk, .unk, .unk, .unk, .unk, .unk, .unk, .unk, .unk, .unk, .unk, .unk, .unk, (.tree 4 p.ns50 p.gs50), (i p.is51), (i s.is52), (b (decide (s.is52 < p.is51))), .unk, .unk, .unk, .unk, .unk, .unk, .unk, .unk, .unk, .unk, .unk, .unk, .unk, .unk, .unk, .unk, .unk, .unk, .unk, .unk, .unk, .unk, .unk, .unk, .unk, .unk, .unk, .unk, .unk, .unk, .unk, .unk, .unk, .unk, .unk, .unk, .unk, .unk, .unk, .unk, .unk, .unk, .unk, .unk, .unk, .unk, .unk, .unk, .unk, .unk, .unk, .unk, .unk, .unk, .unk, .unk, .unk, .unk, .unk, .unk, .unk, .unk, .unk, .unk, .unk, .unk, .unk, .unk, .unk, .unk, .unk, .unk, .unk, .unk, .unk, .unk, .unk, .unk, .unk, .unk, .unk, .unk, .unk, .unk, .unk, .unk, .unk, .unk, .unk, .unk, .unk, .unk, .unk, .unk, .unk, .unk, .unk, .unk, .unk, .unk, .unk, .unk, .unk, .unk, .unk, .unk, .unk, .unk, .unk, .unk, .unk, .unk, .unk, .unk, .unk, .unk, .unk, .unk, .unk, .unk, .unk, .unk, .unk, .unk, .unk, .unk, .unk, .unk, .unk, .unk, .unk, .unk, .unk, .unk, .unk, .unk, .unk, .unk, .unk], []⟩)
theorem nx5_0_7 (p : Pg5_0) (s : Sg5_0) : (x5_0_7 p s).1 ≠ .normal := fun h => by
  have h : XExit.exit 0 = XExit.normal := h
  cases h
noncomputable def xs5_0 : List (Pg5_0 → Sg5_0 → XExit × St) := [x5_0_1, x5_0_2, x5_0_3, x5_0_4, x5_0_5, x5_0_6, x5_0_7]
@[reducible] def l5_0 : PC := (.seq (.ops [(o 53 (.bin .lss (.t 52) (.t 51)))]) (.seq (.cond (.t 53) .skip (.exit 0)) (.seq (.block 1 (.seq (.ops [(o 54 (.idxS 4 (.t 50) (.t 52))), (o 55 (.load (ki 4) 4 true (.t 54))), (o 11 (.alloc (rep 4 (vi 0)))), (s (.store 4 (.t 11) (.t 55)))]) (.seq (.ops [(o 56 (.mv (.t 1))), (o 57 (.fld 0 (.t 11))), (o 58 (.load (ki 1) 1 false (.t 57))), (o 59 (.fld 1 (.t 11))), (o 60 (.load (ki 1) 1 false (.t 59))), (o 61 (.call 25 [(.t 56), (.t 58), (.t 60)])), (o 12 (.mv (.t 61)))]) (.seq (.ops [(o 62 (.fld 0 (.t 11))), (o 63 (.load (ki 1) 1 false (.t 62))), (o 64 (.bin .lss (.t 63) (ci 0))), (o 65 (.mv (.t 64))), ⟨(.some 66), (.some (65, false)), [], (.fld 0 (.t 11))⟩, ⟨(.some 67), (.some (65, false)), [], (.load (ki 1) 1 false (.t 66))⟩, ⟨(.some 68), (.some (65, false)), [], (.bin .gtr (.t 67) (ci 2))⟩, (o 69 (.pick (.t 65) (cb true) (.t 68))), (o 70 (.mv (.t 69))), ⟨(.some 71), (.some (70, false)), [], (.fld 1 (.t 11))⟩, ⟨(.some 72), (.some (70, false)), [], (.load (ki 1) 1 false (.t 71))⟩, ⟨(.some 73), (.some (70, false)), [], (.bin .lss (.t 72) (ci 0))⟩, (o 74 (.pick (.t 70) (cb true) (.t 73))), (o 75 (.mv (.t 74))), ⟨(.some 76), (.some (75, false)), [], (.fld 1 (.t 11))⟩, ⟨(.some 77), (.some (75, false)), [], (.load (ki 1) 1 false (.t 76))⟩, ⟨(.some 78), (.some (75, false)), [], (.bin .gtr (.t 77) (ci 3))⟩, (o 79 (.pick (.t 75) (cb true) (.t 78))), (o 80 (.mv (.t 79))), ⟨(.some 81), (.some (80, false)), [], (.mv (.t 12))⟩, ⟨(.some 82), (.some (80, false)), [], (.fld 2 (.t 11))⟩, ⟨(.some 83), (.some (80, false)), [], (.load (ki 1) 1 false (.t 82))⟩, ⟨(.some 84), (.some (80, false)), [], (.bin .lss (.t 81) (.t 83))⟩, (o 85 (.pick (.t 80) (cb true) (.t 84))), (o 86 (.mv (.t 85))), ⟨(.some 87), (.some (86, false)), [], (.mv (.t 12))⟩, ⟨(.some 88), (.some (86, false)), [], (.fld 3 (.t 11))⟩, ⟨(.some 89), (.some (86, false)), [], (.load (ki 1) 1 false (.t 88))⟩, ⟨(.some 90), (.some (86, false)), [], (.bin .gtr (.t 87) (.t 89))⟩, (o 91 (.pick (.t 86) (cb true) (.t 90)))]) (.cond (.t 91) (.seq (.ops [(o 4 (.mv (cb false)))]) .ret) .skip))))) (.ops [(o 92 (.bin .add (.t 52) (ci 1))), (o 52 (.mv (.t 92)))]))))
noncomputable def fo5_0 (p : Pg5_0) (s : Sg5_0) : Stp Sg5_0 → Option (XExit × St) := onStp (fun s' => some (.normal, en5_0 p s')) (fun t => xAt xs5_0 p s t 1) none
theorem rd5_0_0 (p : Pg5_0) (s : Sg5_0) (t1 : Int) (ht1 : t1 = (p25 (⟨p.ns1, fun k => toI (hdA (p.gs1 k))⟩ : IL) (toI (hdA (p.gs50 s.is52.toNat))) (toI (hdA (tlA (p.gs50 s.is52.toNat)))))) : (roundE (En tb5) 0 [1, 5, 6, 7, 8, 50, 51, 52] (.pc l5_0) (h5_0_0 p s)).run = (sel (decide (s.is52 < p.is51))
 (sel (inB s.is52 p.ns50)
  (sel ((Nat.ble 4 (len (p.gs50 s.is52.toNat))) && (okCKs [(CK.int .i64), (CK.int .i64), (CK.int .i64), (CK.int .i64)] (p.gs50 s.is52.toNat)))
  (sel (okInts p.ns1 p.gs1)
  (sel (g25 (⟨p.ns1, fun k => toI (hdA (p.gs1 k))⟩ : IL) (toI (hdA (p.gs50 s.is52.toNat))) (toI (hdA (tlA (p.gs50 s.is52.toNat)))))
  (sel (decide ((toI (hdA (p.gs50 s.is52.toNat))) < 0))
  (some (x5_0_1 p s))
  (sel (decide ((toI (hdA (p.gs50 s.is52.toNat))) > 2))
  (some (x5_0_2 p s))
  (sel (decide ((toI (hdA (tlA (p.gs50 s.is52.toNat)))) < 0))
  (some (x5_0_3 p s))
  (sel (decide ((toI (hdA (tlA (p.gs50 s.is52.toNat)))) > 3))
  (some (x5_0_4 p s))
  (sel (decide (t1 < (toI (hdA (tlA (tlA (p.gs50 s.is52.toNat)))))))
  (some (x5_0_5 p s))
  (sel (decide (t1 > (toI (hdA (tlA (tlA (tlA (p.gs50 s.is52.toNat))))))))
  (some (x5_0_6 p s))
  (some (.normal, h5_0_0 p ⟨(W (s.is52 + 1))⟩))))))))
  none)
  none)
  none)
  none)
 (some (x5_0_7 p s))) := by subst ht1; kernel_rfl
noncomputable def su5_0_0 (p : Pg5_0) (s : Sg5_0) : Stp Sg5_0 := let t1 := (p25 (⟨p.ns1, fun k => toI (hdA (p.gs1 k))⟩ : IL) (toI (hdA (p.gs50 s.is52.toNat))) (toI (hdA (tlA (p.gs50 s.is52.toNat))))); (sel (decide (s.is52 < p.is51))
 (sel (inB s.is52 p.ns50)
  (sel ((Nat.ble 4 (len (p.gs50 s.is52.toNat))) && (okCKs [(CK.int .i64), (CK.int .i64), (CK.int .i64), (CK.int .i64)] (p.gs50 s.is52.toNat)))
  (sel (okInts p.ns1 p.gs1)
  (sel (g25 (⟨p.ns1, fun k => toI (hdA (p.gs1 k))⟩ : IL) (toI (hdA (p.gs50 s.is52.toNat))) (toI (hdA (tlA (p.gs50 s.is52.toNat)))))
  (sel (decide ((toI (hdA (p.gs50 s.is52.toNat))) < 0))
  (.exit 1)
  (sel (decide ((toI (hdA (p.gs50 s.is52.toNat))) > 2))
  (.exit 2)
  (sel (decide ((toI (hdA (tlA (p.gs50 s.is52.toNat)))) < 0))
  (.exit 3)
  (sel (decide ((toI (hdA (tlA (p.gs50 s.is52.toNat)))) > 3))
  (.exit 4)
  (sel (decide (t1 < (toI (hdA (tlA (tlA (p.gs50 s.is52.toNat)))))))
  (.exit 5)
  (sel (decide (t1 > (toI (hdA (tlA (tlA (tlA (p.gs50 s.is52.toNat))))))))
  (.exit 6)
  (.next ⟨(W (s.is52 + 1))⟩)))))))
  .fail)
  .fail)
  .fail)
  .fail)
 (.exit 7))
theorem q5_0_0 (p : Pg5_0) (s : Sg5_0) (c1 c2 c3 c4 c5 c6 c7 c8 c9 c10 c11 : Bool)  : (fo5_0 p s) (sel c1
 (sel c2
  (sel c3
  (sel c4
  (sel c5
  (sel c6
  (.exit 1)
  (sel c7
  (.exit 2)
  (sel c8
  (.exit 3)
  (sel c9
  (.exit 4)
  (sel c10
  (.exit 5)
  (sel c11
  (.exit 6)
  (.next ⟨(W (s.is52 + 1))⟩)))))))
  .fail)
  .fail)
  .fail)
  .fail)
 (.exit 7)) = (sel c1
 (sel c2
  (sel c3
  (sel c4
  (sel c5
  (sel c6
  (some (x5_0_1 p s))
  (sel c7
  (some (x5_0_2 p s))
  (sel c8
  (some (x5_0_3 p s))
  (sel c9
  (some (x5_0_4 p s))
  (sel c10
  (some (x5_0_5 p s))
  (sel c11
  (some (x5_0_6 p s))
  (some (.normal, h5_0_0 p ⟨(W (s.is52 + 1))⟩))))))))
  none)
  none)
  none)
  none)
 (some (x5_0_7 p s))) := (stpSel (f := (fo5_0 p s)) (stpSel (f := (fo5_0 p s)) (stpSel (f := (fo5_0 p s)) (stpSel (f := (fo5_0 p s)) (stpSel (f := (fo5_0 p s)) (stpSel (f := (fo5_0 p s)) rfl (stpSel (f := (fo5_0 p s)) rfl (stpSel (f := (fo5_0 p s)) rfl (stpSel (f := (fo5_0 p s)) rfl (stpSel (f := (fo5_0 p s)) rfl (stpSel (f := (fo5_0 p s)) rfl rfl)))))) rfl) rfl) rfl) rfl) rfl)
theorem sp5_0_0 (p : Pg5_0) (s : Sg5_0) : (roundE (En tb5) 0 [1, 5, 6, 7, 8, 50, 51, 52] (.pc l5_0) (h5_0_0 p s)).run = fo5_0 p s (su5_0_0 p s) := (rd5_0_0 p s _ rfl).trans (q5_0_0 p s _ _ _ _ _ _ _ _ _ _ _).symm
noncomputable def st5_0 (p : Pg5_0) (s : Sg5_0) : Stp Sg5_0 := (su5_0_0 p s)
theorem sp5_0 (p : Pg5_0) (s : Sg5_0) : (roundE (En tb5) 0 [1, 5, 6, 7, 8, 50, 51, 52] (.pc l5_0) (en5_0 p s)).run = fo5_0 p s (st5_0 p s) := by
  show (roundE (En tb5) 0 [1, 5, 6, 7, 8, 50, 51, 52] (.pc l5_0) (h5_0_0 p s)).run = fo5_0 p s (su5_0_0 p s)
  exact sp5_0_0 p s
noncomputable def al5_0_0 : Alt Pg5_0 Sg5_0 := ⟨[(.s .unk), (.s (.tree 1)), (.s .unk), (.s .unk), (.s .unk), (.s (.blit true)), (.s (.tree 4)), (.s (.tree 4)), (.s (.tree 4)), (.s .unk), (.s .unk), (.s .unk), (.s .unk), (.s .unk), (.s .unk), (.s .unk), (.s .unk), (.s .unk), (.s .unk), (.s .unk), (.s .unk), (.s .unk), (.s .unk), (.s .unk), (.s .unk), (.s .unk), (.s .unk), (.s .unk), (.s .unk), (.s .unk), (.s .unk), (.s .unk), (.s .unk), (.s .unk), (.s .unk), (.s .unk), (.s .unk), (.s .unk), (.s .unk), (.s .unk), (.s .unk), (.s .unk), (.s .unk), (.s .unk), (.s .unk), (.s .unk), (.s .unk), (.s .unk), (.s .unk), (.s .unk), (.s (.tree 4)), (.s (.int .i64)), (.s (.int .i64)), (.s .unk), (.s .unk), (.s .unk), (.s .unk), (.s .unk), (.s .unk), (.s .unk), (.s .unk), (.s .unk), (.s .unk), (.s .unk), (.s .unk), (.s .unk), (.s .unk), (.s .unk), (.s .unk), (.s .unk), (.s .unk), (.s .unk), (.s .unk), (.s .unk), (.s .unk), (.s .unk), (.s .unk), (.s .unk), (.s .unk), (.s .unk), (.s .unk), (.s .unk), (.s .unk), (.s .unk), (.s .unk), (.s .unk), (.s .unk), (.s .unk), (.s .unk), (.s .unk), (.s .unk), (.s .unk), (.s .unk), (.s .unk), (.s .unk), (.s .unk), (.s .unk), (.s .unk), (.s .unk), (.s .unk), (.s .unk), (.s .unk), (.s .unk), (.s .unk), (.s .unk), (.s .unk), (.s .unk), (.s .unk), (.s .unk), (.s .unk), (.s .unk), (.s .unk), (.s .unk), (.s .unk), (.s .unk), (.s .unk), (.s .unk), (.s .unk), (.s .unk), (.s .unk), (.s .unk), (.s .unk), (.s .unk), (.s .unk), (.s .unk), (.s .unk), (.s .unk), (.s .unk), (.s .unk), (.s .unk), (.s .unk), (.s .unk), (.s .unk), (.s .unk), (.s .unk), (.s .unk), (.s .unk), (.s .unk), (.s .unk), (.s .unk), (.s .unk), (.s .unk), (.s .unk), (.s .unk), (.s .unk), (.s .unk), (.s .unk), (.s .unk), (.s .unk), (.s .unk), (.s .unk), (.s .unk), (.s .unk), (.s .unk), (.s .unk), (.s .unk), (.s .unk), (.s .unk), (.s .unk), (.s .unk), (.s .unk), (.s .unk), (.s .unk), (.s .unk), (.s .unk), (.s .unk), (.s .unk), (.s .unk), (.s .unk), (.s .unk), (.s .unk), (.s .unk), (.s .unk), (.s .unk), (.s .unk), (.s .unk), (.s .unk), (.s .unk), (.s .unk), (.s .unk), (.s .unk), (.s .unk), (.s .unk), (.s .unk), (.s .unk), (.s .unk), (.s .unk), (.s .unk), (.s .unk), (.s .unk), (.s .unk), (.s .unk), (.s .unk)], [], fun a H => (⟨(toN (slotA a 1)), (toG (slotA a 1)), (toN (slotA a 6)), (toG (slotA a 6)), (toN (slotA a 7)), (toG (slotA a 7)), (toN (slotA a 8)), (toG (slotA a 8)), (toN (slotA a 50)), (toG (slotA a 50)), (toI (slotA a 51))⟩, ⟨(toI (slotA a 52))⟩)⟩
theorem la5_0_0 (a : List AVal) (H : List ABlk) : (⟨asSls al5_0_0.sh a, asBks al5_0_0.bl H⟩ : St) = en5_0 (al5_0_0.rd (asSls al5_0_0.sh a) (asBks al5_0_0.bl H)).1 (al5_0_0.rd (asSls al5_0_0.sh a) (asBks al5_0_0.bl H)).2 := by kernel_rfl
noncomputable def as5_0 : List (Alt Pg5_0 Sg5_0) := [al5_0_0]
theorem lo5_0 (s : St) : Below ((loopL 0 [1, 5, 6, 7, 8, 50, 51, 52] as5_0 st5_0 xs5_0) s) (exec (En tb5) 0 (.loop [1, 5, 6, 7, 8, 50, 51, 52] l5_0) s) :=
  loopL_below (E := En tb5) (enc := en5_0) (body := (.pc l5_0)) (alts := as5_0) (xs := xs5_0) (.pc _) rfl (.cons la5_0_0 .nil) (.cons nx5_0_1 (.cons nx5_0_2 (.cons nx5_0_3 (.cons nx5_0_4 (.cons nx5_0_5 (.cons nx5_0_6 (.cons nx5_0_7 .nil))))))) (fun p s => sp5_0 p s) s
structure Pg5_1 where
  ns1 : Nat
  gs1 : Nat → List AVal
  ns6 : Nat
  gs6 : Nat → List AVal
  ns7 : Nat
  gs7 : Nat → List AVal
  ns8 : Nat
  gs8 : Nat → List AVal
  ns95 : Nat
  gs95 : Nat → List AVal
  is96 : Int
structure Sg5_1 where
  is13 : Int
  is97 : Int
noncomputable def h5_1_0 (p : Pg5_1) (s : Sg5_1) : St := ⟨[.unk, (.tree 1 p.ns1 p.gs1), .unk, .unk, .unk, (b true), (.tree 4 p.ns6 p.gs6), (.tree 4 p.ns7 p.gs7), (.tree 4 p.ns8 p.gs8), .unk, .unk, .unk, .unk, (i s.is13), .unk, .unk, .unk, .unk, .unk, .unk, .unk, .unk, .unk, .unk, .unk, .unk, .unk, .unk, .unk, .unk, .unk, .unk, .unk, .unk, .unk, .unk, .unk, .unk, .unk, .unk, .unk, .unk, .unk, .unk, .unk, .unk, .unk, .unk, .unk, .unk, .unk, .unk, .unk, .unk, .unk, .unk, .unk, .unk, .unk, .unk, .unk, .unk, .unk, .unk, .unk, .unk, .unk, .unk, .unk, .unk, .unk, .unk, .unk, .unk, .unk, .unk, .unk, .unk, .unk, .unk, .unk, .unk, .unk, .unk, .unk, .unk, .unk, .unk, .unk, .unk, .unk, .unk, .unk, .unk, .unk, (.tree 4 p.ns95 p.gs95), (i p.is96), (i s.is97), .unk, .unk, .unk, .unk, .unk, .unk, .unk, .unk, .unk, .unk, .unk, .unk, .unk, .unk, .unk, .unk, .unk, .unk, .unk, .unk, .unk, .unk, .unk, .unk, .unk, .unk, .unk, .unk, .unk, .unk, .unk, .unk, .unk, .unk, .unk, .unk, .unk, .unk, .unk, .unk, .unk, .unk, .unk, .unk, .unk, .unk, .unk, .unk, .unk, .unk, .unk, .unk, .unk, .unk, .unk, .unk, .unk, .unk, .unk, .unk, .unk, .unk, .unk, .unk, .unk, .unk, .unk, .unk, .unk, .unk, .unk, .unk, .unk, .unk, .unk, .unk, .unk, .unk, .unk, .unk, .unk, .unk, .unk, .unk, .unk, .unk, .unk, .unk, .unk, .unk, .unk, .unk, .unk, .unk, .unk], []⟩
noncomputable def en5_1 (p : Pg5_1) (s : Sg5_1) : St := (h5_1_0 p s)
noncomputable def x5_1_1 (p : Pg5_1) (s : Sg5_1) : XExit × St := (.exit 2, ⟨[.unk, (.tree 1 p.ns1 p.gs1), .unk, .unk, .unk, (b true), (.tree 4 p.ns6 p.gs6), (.tree 4 p.ns7 p.gs7), (.tree 4 p.ns8 p.gs8), .unk, .unk, .unk, .unk, (i s.is13), .unk, .unk, .unk, .unk, .unk, .unk, .unk, .unk, .unk, .unk, .unk, .unk, .unk, .unk, .unk, .unk, .unk, .unk, .unk, .unk, .unk, .unk, .unk, .unk, .unk, .unk, .unk, .unk, .unk, .unk, .unk, .unk, .unk, .unk, .unk, .unk, .unk, .unk, .unk, .unk, .unk, .unk, .unk, .unk, .unk, .unk, .unk, .unk, .unk, .unk, .unk, .unk, .unk, .unk, .unk, .unk, .unk, .unk, .unk, .unk, .unk, .unk, .unk, .unk, .unk, .unk, .unk, .unk, .unk, .unk, .unk, .unk, .unk, .unk, .unk, .unk, .unk, .unk, .unk, .unk, .unk, (.tree 4 p.ns95 p.gs95), (i p.is96), (i s.is97), (b (decide (s.is97 < p.is96))), .unk, .unk, .unk, .unk, .unk, .unk, .unk, .unk, .unk, .unk, .unk, .unk, .unk, .unk, .unk, .unk, .unk, .unk, .unk, .unk, .unk, .unk, .unk, .unk, .unk, .unk, .unk, .unk, .unk, .unk, .unk, .unk, .unk, .unk, .unk, .unk, .unk, .unk, .unk, .unk, .unk, .unk, .unk, .unk, .unk, .unk, .unk, .unk, .unk, .unk, .unk, .unk, .unk, .unk, .unk, .unk, .unk, .unk, .unk, .unk, .unk, .unk, .unk, .unk, .unk, .unk, .unk, .unk, .unk, .unk, .unk, .unk, .unk, .unk, .unk, .unk, .unk, .unk, .unk, .unk, .unk, .unk, .unk, .unk, .unk, .unk, .unk, .unk, .unk, .unk, .unk, .unk, .unk, .unk], []⟩)
theorem nx5_1_1 (p : Pg5_1) (s : Sg5_1) : (x5_1_1 p s).1 ≠ .normal := fun h => by
  have h : XExit.exit 2 = XExit.normal := h
  cases h
noncomputable def xs5_1 : List (Pg5_1 → Sg5_1 → XExit × St) := [x5_1_1]
@[reducible] def l5_1 : PC := (.seq (.ops [(o 98 (.bin .lss (.t 97) (.t 96)))]) (.seq (.cond (.t 98) .skip (.exit 2)) (.seq (.block 3 (.seq (.ops [(o 99 (.idxS 4 (.t 95) (.t 97))), (o 100 (.load (ki 4) 4 true (.t 99))), (o 15 (.alloc (rep 4 (vi 0)))), (s (.store 4 (.t 15) (.t 100)))]) (.seq (.ops [(o 101 (.mv (.t 6))), (o 102 (.load (ki 4) 4 true (.t 15))), (o 103 (.call 26 [(.t 101), (.t 102)])), (o 104 (.bin .lss (.t 103) (ci 0)))]) (.cond (.t 104) (.ops [(o 105 (.mv (.t 13))), (o 106 (.bin .add (.t 105) (ci 1))), (o 13 (.mv (.t 106)))]) .skip)))) (.ops [(o 107 (.bin .add (.t 97) (ci 1))), (o 97 (.mv (.t 107)))]))))
noncomputable def fo5_1 (p : Pg5_1) (s : Sg5_1) : Stp Sg5_1 → Option (XExit × St) := onStp (fun s' => some (.normal, en5_1 p s')) (fun t => xAt xs5_1 p s t 1) none
theorem rd5_1_0 (p : Pg5_1) (s : Sg5_1) (t1 : Int) (ht1 : t1 = (p26 (lsE p.ns6 p.gs6) (⟨(toI (hdA (p.gs95 s.is97.toNat))), (toI (hdA (tlA (p.gs95 s.is97.toNat)))), (toI (hdA (tlA (tlA (p.gs95 s.is97.toNat))))), (toI (hdA (tlA (tlA (tlA (p.gs95 s.is97.toNat))))))⟩ : Ent))) : (roundE (En tb5) 0 [1, 5, 6, 7, 8, 13, 95, 96, 97] (.pc l5_1) (h5_1_0 p s)).run = (sel (decide (s.is97 < p.is96))
 (sel (inB s.is97 p.ns95)
  (sel ((Nat.ble 4 (len (p.gs95 s.is97.toNat))) && (okCKs [(CK.int .i64), (CK.int .i64), (CK.int .i64), (CK.int .i64)] (p.gs95 s.is97.toNat)))
  (sel (okEs p.ns6 p.gs6)
  (sel (g26 (lsE p.ns6 p.gs6) (⟨(toI (hdA (p.gs95 s.is97.toNat))), (toI (hdA (tlA (p.gs95 s.is97.toNat)))), (toI (hdA (tlA (tlA (p.gs95 s.is97.toNat))))), (toI (hdA (tlA (tlA (tlA (p.gs95 s.is97.toNat))))))⟩ : Ent))
  (sel (decide (t1 < 0))
  (some (.normal, h5_1_0 p ⟨(W (s.is13 + 1)), (W (s.is97 + 1))⟩))
  (some (.normal, h5_1_0 p ⟨s.is13, (W (s.is97 + 1))⟩)))
  none)
  none)
  none)
  none)
 (some (x5_1_1 p s))) := by subst ht1; kernel_rfl
noncomputable def su5_1_0 (p : Pg5_1) (s : Sg5_1) : Stp Sg5_1 := let t1 := (p26 (lsE p.ns6 p.gs6) (⟨(toI (hdA (p.gs95 s.is97.toNat))), (toI (hdA (tlA (p.gs95 s.is97.toNat)))), (toI (hdA (tlA (tlA (p.gs95 s.is97.toNat))))), (toI (hdA (tlA (tlA (tlA (p.gs95 s.is97.toNat))))))⟩ : Ent)); (sel (decide (s.is97 < p.is96))
 (sel (inB s.is97 p.ns95)
  (sel ((Nat.ble 4 (len (p.gs95 s.is97.toNat))) && (okCKs [(CK.int .i64), (CK.int .i64), (CK.int .i64), (CK.int .i64)] (p.gs95 s.is97.toNat)))
  (sel (okEs p.ns6 p.gs6)
  (sel (g26 (lsE p.ns6 p.gs6) (⟨(toI (hdA (p.gs95 s.is97.toNat))), (toI (hdA (tlA (p.gs95 s.is97.toNat)))), (toI (hdA (tlA (tlA (p.gs95 s.is97.toNat))))), (toI (hdA (tlA (tlA (tlA (p.gs95 s.is97.toNat))))))⟩ : Ent))
  (sel (decide (t1 < 0))
  (.next ⟨(W (s.is13 + 1)), (W (s.is97 + 1))⟩)
  (.next ⟨s.is13, (W (s.is97 + 1))⟩))
  .fail)
  .fail)
  .fail)
  .fail)
 (.exit 1))
theorem q5_1_0 (p : Pg5_1) (s : Sg5_1) (c1 c2 c3 c4 c5 c6 : Bool)  : (fo5_1 p s) (sel c1
 (sel c2
  (sel c3
  (sel c4
  (sel c5
  (sel c6
  (.next ⟨(W (s.is13 + 1)), (W (s.is97 + 1))⟩)
  (.next ⟨s.is13, (W (s.is97 + 1))⟩))
  .fail)
  .fail)
  .fail)
  .fail)
 (.exit 1)) = (sel c1
 (sel c2
  (sel c3
  (sel c4
  (sel c5
  (sel c6
  (some (.normal, h5_1_0 p ⟨(W (s.is13 + 1)), (W (s.is97 + 1))⟩))
  (some (.normal, h5_1_0 p ⟨s.is13, (W (s.is97 + 1))⟩)))
  none)
  none)
  none)
  none)
 (some (x5_1_1 p s))) := (stpSel (f := (fo5_1 p s)) (stpSel (f := (fo5_1 p s)) (stpSel (f := (fo5_1 p s)) (stpSel (f := (fo5_1 p s)) (stpSel (f := (fo5_1 p s)) (stpSel (f := (fo5_1 p s)) rfl rfl) rfl) rfl) rfl) rfl) rfl)
theorem sp5_1_0 (p : Pg5_1) (s : Sg5_1) : (roundE (En tb5) 0 [1, 5, 6, 7, 8, 13, 95, 96, 97] (.pc l5_1) (h5_1_0 p s)).run = fo5_1 p s (su5_1_0 p s) := (rd5_1_0 p s _ rfl).trans (q5_1_0 p s _ _ _ _ _ _).symm
noncomputable def st5_1 (p : Pg5_1) (s : Sg5_1) : Stp Sg5_1 := (su5_1_0 p s)
theorem sp5_1 (p : Pg5_1) (s : Sg5_1) : (roundE (En tb5) 0 [1, 5, 6, 7, 8, 13, 95, 96, 97] (.pc l5_1) (en5_1 p s)).run = fo5_1 p s (st5_1 p s) := by
  show (roundE (En tb5) 0 [1, 5, 6, 7, 8, 13, 95, 96, 97] (.pc l5_1) (h5_1_0 p s)).run = fo5_1 p s (su5_1_0 p s)
  exact sp5_1_0 p s
noncomputable def al5_1_0 : Alt Pg5_1 Sg5_1 := ⟨[(.s .unk), (.s (.tree 1)), (.s .unk), (.s .unk), (.s .unk), (.s (.blit true)), (.s (.tree 4)), (.s (.tree 4)), (.s (.tree 4)), (.s .unk), (.s .unk), (.s .unk), (.s .unk), (.s (.int .i64)), (.s .unk), (.s .unk), (.s .unk), (.s .unk), (.s .unk), (.s .unk), (.s .unk), (.s .unk), (.s .unk), (.s .unk), (.s .unk), (.s .unk), (.s .unk), (.s .unk), (.s .unk), (.s .unk), (.s .unk), (.s .unk), (.s .unk), (.s .unk), (.s .unk), (.s .unk), (.s .unk), (.s .unk), (.s .unk), (.s .unk), (.s .unk), (.s .unk), (.s .unk), (.s .unk), (.s .unk), (.s .unk), (.s .unk), (.s .unk), (.s .unk), (.s .unk), (.s .unk), (.s .unk), (.s .unk), (.s .unk), (.s .unk), (.s .unk), (.s .unk), (.s .unk), (.s .unk), (.s .unk), (.s .unk), (.s .unk), (.s .unk), (.s .unk), (.s .unk), (.s .unk), (.s .unk), (.s .unk), (.s .unk), (.s .unk), (.s .unk), (.s .unk), (.s .unk), (.s .unk), (.s .unk), (.s .unk), (.s .unk), (.s .unk), (.s .unk), (.s .unk), (.s .unk), (.s .unk), (.s .unk), (.s .unk), (.s .unk), (.s .unk), (.s .unk), (.s .unk), (.s .unk), (.s .unk), (.s .unk), (.s .unk), (.s .unk), (.s .unk), (.s .unk), (.s (.tree 4)), (.s (.int .i64)), (.s (.int .i64)), (.s .unk), (.s .unk), (.s .unk), (.s .unk), (.s .unk), (.s .unk), (.s .unk), (.s .unk), (.s .unk), (.s .unk), (.s .unk), (.s .unk), (.s .unk), (.s .unk), (.s .unk), (.s .unk), (.s .unk), (.s .unk), (.s .unk), (.s .unk), (.s .unk), (.s .unk), (.s .unk), (.s .unk), (.s .unk), (.s .unk), (.s .unk), (.s .unk), (.s .unk), (.s .unk), (.s .unk), (.s .unk), (.s .unk), (.s .unk), (.s .unk), (.s .unk), (.s .unk), (.s .unk), (.s .unk), (.s .unk), (.s .unk), (.s .unk), (.s .unk), (.s .unk), (.s .unk), (.s .unk), (.s .unk), (.s .unk), (.s .unk), (.s .unk), (.s .unk), (.s .unk), (.s .unk), (.s .unk), (.s .unk), (.s .unk), (.s .unk), (.s .unk), (.s .unk), (.s .unk), (.s .unk), (.s .unk), (.s .unk), (.s .unk), (.s .unk), (.s .unk), (.s .unk), (.s .unk), (.s .unk), (.s .unk), (.s .unk), (.s .unk), (.s .unk), (.s .unk), (.s .unk), (.s .unk), (.s .unk), (.s .unk), (.s .unk), (.s .unk), (.s .unk), (.s .unk), (.s .unk), (.s .unk), (.s .unk), (.s .unk), (.s .unk), (.s .unk), (.s .unk), (.s .unk), (.s .unk), (.s .unk), (.s .unk), (.s .unk), (.s .unk)], [], fun a H => (⟨(toN (slotA a 1)), (toG (slotA a 1)), (toN (slotA a 6)), (toG (slotA a 6)), (toN (slotA a 7)), (toG (slotA a 7)), (toN (slotA a 8)), (toG (slotA a 8)), (toN (slotA a 95)), (toG (slotA a 95)), (toI (slotA a 96))⟩, ⟨(toI (slotA a 13)), (toI (slotA a 97))⟩)⟩
theorem la5_1_0 (a : List AVal) (H : List ABlk) : (⟨asSls al5_1_0.sh a, asBks al5_1_0.bl H⟩ : St) = en5_1 (al5_1_0.rd (asSls al5_1_0.sh a) (asBks al5_1_0.bl H)).1 (al5_1_0.rd (asSls al5_1_0.sh a) (asBks al5_1_0.bl H)).2 := by kernel_rfl
noncomputable def as5_1 : List (Alt Pg5_1 Sg5_1) := [al5_1_0]
theorem lo5_1 (s : St) : Below ((loopL 0 [1, 5, 6, 7, 8, 13, 95, 96, 97] as5_1 st5_1 xs5_1) s) (exec (En tb5) 0 (.loop [1, 5, 6, 7, 8, 13, 95, 96, 97] l5_1) s) :=
  loopL_below (E := En tb5) (enc := en5_1) (body := (.pc l5_1)) (alts := as5_1) (xs := xs5_1) (.pc _) rfl (.cons la5_1_0 .nil) (.cons nx5_1_1 .nil) (fun p s => sp5_1 p s) s
structure Pg5_2 where
  ns1 : Nat
  gs1 : Nat → List AVal
  ns8 : Nat
  gs8 : Nat → List AVal
  is13 : Int
  ns112 : Nat
  is113 : Int
  eh0 : List (List AVal)
structure Sg5_2 where
  is114 : Int
noncomputable def h5_2_0 (p : Pg5_2) (s : Sg5_2) : St := ⟨[.unk, (.tree 1 p.ns1 p.gs1), .unk, .unk, .unk, (b true), .unk, .unk, (.tree 4 p.ns8 p.gs8), .unk, .unk, .unk, .unk, (i p.is13), .unk, .unk, .unk, .unk, .unk, .unk, .unk, .unk, .unk, .unk, .unk, .unk, .unk, .unk, .unk, .unk, .unk, .unk, .unk, .unk, .unk, .unk, .unk, .unk, .unk, .unk, .unk, .unk, .unk, .unk, .unk, .unk, .unk, .unk, .unk, .unk, .unk, .unk, .unk, .unk, .unk, .unk, .unk, .unk, .unk, .unk, .unk, .unk, .unk, .unk, .unk, .unk, .unk, .unk, .unk, .unk, .unk, .unk, .unk, .unk, .unk, .unk, .unk, .unk, .unk, .unk, .unk, .unk, .unk, .unk, .unk, .unk, .unk, .unk, .unk, .unk, .unk, .unk, .unk, .unk, .unk, .unk, .unk, .unk, .unk, .unk, .unk, .unk, .unk, .unk, .unk, .unk, .unk, .unk, .unk, .unk, .unk, .unk, (.sl 0 0 p.ns112 0), (i p.is113), (i s.is114), .unk, .unk, .unk, .unk, .unk, .unk, .unk, .unk, .unk, .unk, .unk, .unk, .unk, .unk, .unk, .unk, .unk, .unk, .unk, .unk, .unk, .unk, .unk, .unk, .unk, .unk, .unk, .unk, .unk, .unk, .unk, .unk, .unk, .unk, .unk, .unk, .unk, .unk, .unk, .unk, .unk, .unk, .unk, .unk, .unk, .unk, .unk, .unk, .unk, .unk, .unk, .unk, .unk, .unk, .unk, .unk, .unk, .unk, .unk, .unk, .unk, .unk, .unk, .unk, .unk, .unk, .unk, .unk, .unk, .unk, .unk, .unk, .unk, .unk, .unk, .unk, .unk, .unk], [⟨27, 4, p.eh0, true, false, 0⟩]⟩
noncomputable def en5_2 (p : Pg5_2) (s : Sg5_2) : St := (h5_2_0 p s)
noncomputable def x5_2_1 (p : Pg5_2) (s : Sg5_2) : XExit × St := let t1 := (p26 (lsE p.ns8 p.gs8) (⟨(toI (hdA (dropN (getRow p.eh0 (0 + s.is114.toNat)) 0))), (toI (hdA (tlA (dropN (getRow p.eh0 (0 + s.is114.toNat)) 0)))), (toI (hdA (tlA (tlA (dropN (getRow p.eh0 (0 + s.is114.toNat)) 0))))), (toI (hdA (tlA (tlA (tlA (dropN (getRow p.eh0 (0 + s.is114.toNat)) 0))))))⟩ : Ent)); (.ret, ⟨[.unk, (.tree 1 p.ns1 p.gs1), .unk, .unk, (b false), (b true), .unk, .unk, (.tree 4 p.ns8 p.gs8), .unk, .unk, .unk, .unk, (i p.is13), .unk, .unk, .unk, (.ptr 1 0 0 0), (i t1), .unk, .unk, .unk, .unk, .unk, .unk, .unk, .unk, .unk, .unk, .unk, .unk, .unk, .unk, .unk, .unk, .unk, .unk, .unk, .unk, .unk, .unk, .unk, .unk, .unk, .unk, .unk, .unk, .unk, .unk, .unk, .unk, .unk, .unk, .unk, .unk, .unk, .unk, .unk, .unk, .unk, .unk, .unk, .unk, .unk, .unk, .unk, .unk, .unk, .unk, .unk, .unk, .unk, .unk, .unk, .unk, .unk, .unk, .unk, .unk, .unk, .unk, .unk, .unk, .unk, .unk, .unk, .unk, .unk, .unk, .unk, .unk, .unk, .unk, .unk, .unk, .unk, .unk, .unk, .unk, .unk, .unk, .unk, .unk, .unk, .unk, .unk, .unk, .unk, .unk, .unk, .unk, .unk, (.sl 0 0 p.ns112 0), (i p.is113), (i s.is114), (b (decide (s.is114 < p.is113))), (.ptr 0 (0 + s.is114.toNat) 0 0), (.agg [(i (toI (hdA (dropN (getRow p.eh0 (0 + s.is114.toNat)) 0)))), (i (toI (hdA (tlA (dropN (getRow p.eh0 (0 + s.is114.toNat)) 0))))), (i (toI (hdA (tlA (tlA (dropN (getRow p.eh0 (0 + s.is114.toNat)) 0)))))), (i (toI (hdA (tlA (tlA (tlA (dropN (getRow p.eh0 (0 + s.is114.toNat)) 0)))))))]), (.tree 4 p.ns8 p.gs8), (.agg [(i (toI (hdA (dropN (getRow p.eh0 (0 + s.is114.toNat)) 0)))), (i (toI (hdA (tlA (dropN (getRow p.eh0 (0 + s.is114.toNat)) 0))))), (i (toI (hdA (tlA (tlA (dropN (getRow p.eh0 (0 + s.is114.toNat)) 0)))))), (i (toI (hdA (tlA (tlA (tlA (dropN (getRow p.eh0 (0 + s.is114.toNat)) 0)))))))]), (i t1), (i t1), (b (decide (t1 < 0))), (b true), u, u, u, u, u, u, u, u, (b true), (b true), u, u, u, u, u, u, u, u, (b true), .unk, .unk, .unk, .unk, .unk, .unk, .unk, .unk, .unk, .unk, .unk, .unk, .unk, .unk, .unk, .unk, .unk, .unk, .unk, .unk, .unk, .unk, .unk, .unk, .unk, .unk, .unk, .unk, .unk, .unk, .unk, .unk, .unk, .unk, .unk, .unk, .unk, .unk, .unk, .unk, .unk, .unk, .unk, .unk, .unk, .unk, .unk, .unk, .unk, .unk], [⟨27, 4, p.eh0, true, false, 0⟩, ⟨0, 4, [[(i (toI (hdA (dropN (getRow p.eh0 (0 + s.is114.toNat)) 0)))), (i (toI (hdA (tlA (dropN (getRow p.eh0 (0 + s.is114.toNat)) 0))))), (i (toI (hdA (tlA (tlA (dropN (getRow p.eh0 (0 + s.is114.toNat)) 0)))))), (i (toI (hdA (tlA (tlA (tlA (dropN (getRow p.eh0 (0 + s.is114.toNat)) 0)))))))]], true, false, 0⟩]⟩)
theorem nx5_2_1 (p : Pg5_2) (s : Sg5_2) : (x5_2_1 p s).1 ≠ .normal := fun h => by
  have h : XExit.ret = XExit.normal := h
  cases h
noncomputable def x5_2_2 (p : Pg5_2) (s : Sg5_2) : XExit × St := let t1 := (p26 (lsE p.ns8 p.gs8) (⟨(toI (hdA (dropN (getRow p.eh0 (0 + s.is114.toNat)) 0))), (toI (hdA (tlA (dropN (getRow p.eh0 (0 + s.is114.toNat)) 0)))), (toI (hdA (tlA (tlA (dropN (getRow p.eh0 (0 + s.is114.toNat)) 0))))), (toI (hdA (tlA (tlA (tlA (dropN (getRow p.eh0 (0 + s.is114.toNat)) 0))))))⟩ : Ent)); (.ret, ⟨[.unk, (.tree 1 p.ns1 p.gs1), .unk, .unk, (b false), (b true), .unk, .unk, (.tree 4 p.ns8 p.gs8), .unk, .unk, .unk, .unk, (i p.is13), .unk, .unk, .unk, (.ptr 1 0 0 0), (i t1), .unk, .unk, .unk, .unk, .unk, .unk, .unk, .unk, .unk, .unk, .unk, .unk, .unk, .unk, .unk, .unk, .unk, .unk, .unk, .unk, .unk, .unk, .unk, .unk, .unk, .unk, .unk, .unk, .unk, .unk, .unk, .unk, .unk, .unk, .unk, .unk, .unk, .unk, .unk, .unk, .unk, .unk, .unk, .unk, .unk, .unk, .unk, .unk, .unk, .unk, .unk, .unk, .unk, .unk, .unk, .unk, .unk, .unk, .unk, .unk, .unk, .unk, .unk, .unk, .unk, .unk, .unk, .unk, .unk, .unk, .unk, .unk, .unk, .unk, .unk, .unk, .unk, .unk, .unk, .unk, .unk, .unk, .unk, .unk, .unk, .unk, .unk, .unk, .unk, .unk, .unk, .unk, .unk, (.sl 0 0 p.ns112 0), (i p.is113), (i s.is114), (b (decide (s.is114 < p.is113))), (.ptr 0 (0 + s.is114.toNat) 0 0), (.agg [(i (toI (hdA (dropN (getRow p.eh0 (0 + s.is114.toNat)) 0)))), (i (toI (hdA (tlA (dropN (getRow p.eh0 (0 + s.is114.toNat)) 0))))), (i (toI (hdA (tlA (tlA (dropN (getRow p.eh0 (0 + s.is114.toNat)) 0)))))), (i (toI (hdA (tlA (tlA (tlA (dropN (getRow p.eh0 (0 + s.is114.toNat)) 0)))))))]), (.tree 4 p.ns8 p.gs8), (.agg [(i (toI (hdA (dropN (getRow p.eh0 (0 + s.is114.toNat)) 0)))), (i (toI (hdA (tlA (dropN (getRow p.eh0 (0 + s.is114.toNat)) 0))))), (i (toI (hdA (tlA (tlA (dropN (getRow p.eh0 (0 + s.is114.toNat)) 0)))))), (i (toI (hdA (tlA (tlA (tlA (dropN (getRow p.eh0 (0 + s.is114.toNat)) 0)))))))]), (i t1), (i t1), (b (decide (t1 < 0))), (b false), (.tree 4 p.ns8 p.gs8), (i t1), (.tptr (p.gs8 t1.toNat)), (.tptr (dropN (p.gs8 t1.toNat) 2)), (i (toI (hdA (dropN (p.gs8 t1.toNat) 2)))), (.ptr 1 0 2 0), (i (toI (hdA (tlA (tlA (dropN (getRow p.eh0 (0 + s.is114.toNat)) 0)))))), (b (decide ((toI (hdA (dropN (p.gs8 t1.toNat) 2))) < (toI (hdA (tlA (tlA (dropN (getRow p.eh0 (0 + s.is114.toNat)) 0)))))))), (b (decide ((toI (hdA (dropN (p.gs8 t1.toNat) 2))) < (toI (hdA (tlA (tlA (dropN (getRow p.eh0 (0 + s.is114.toNat)) 0)))))))), (b true), u, u, u, u, u, u, u, u, (b true), .unk, .unk, .unk, .unk, .unk, .unk, .unk, .unk, .unk, .unk, .unk, .unk, .unk, .unk, .unk, .unk, .unk, .unk, .unk, .unk, .unk, .unk, .unk, .unk, .unk, .unk, .unk, .unk, .unk, .unk, .unk, .unk, .unk, .unk, .unk, .unk, .unk, .unk, .unk, .unk, .unk, .unk, .unk, .unk, .unk, .unk, .unk, .unk, .unk, .unk], [⟨27, 4, p.eh0, true, false, 0⟩, ⟨0, 4, [[(i (toI (hdA (dropN (getRow p.eh0 (0 + s.is114.toNat)) 0)))), (i (toI (hdA (tlA (dropN (getRow p.eh0 (0 + s.is114.toNat)) 0))))), (i (toI (hdA (tlA (tlA (dropN (getRow p.eh0 (0 + s.is114.toNat)) 0)))))), (i (toI (hdA (tlA (tlA (tlA (dropN (getRow p.eh0 (0 + s.is114.toNat)) 0)))))))]], true, false, 0⟩]⟩)
theorem nx5_2_2 (p : Pg5_2) (s : Sg5_2) : (x5_2_2 p s).1 ≠ .normal := fun h => by
  have h : XExit.ret = XExit.normal := h
  cases h
noncomputable def x5_2_3 (p : Pg5_2) (s : Sg5_2) : XExit × St := let t1 := (p26 (lsE p.ns8 p.gs8) (⟨(toI (hdA (dropN (getRow p.eh0 (0 + s.is114.toNat)) 0))), (toI (hdA (tlA (dropN (getRow p.eh0 (0 + s.is114.toNat)) 0)))), (toI (hdA (tlA (tlA (dropN (getRow p.eh0 (0 + s.is114.toNat)) 0))))), (toI (hdA (tlA (tlA (tlA (dropN (getRow p.eh0 (0 + s.is114.toNat)) 0))))))⟩ : Ent)); (.ret, ⟨[.unk, (.tree 1 p.ns1 p.gs1), .unk, .unk, (b false), (b true), .unk, .unk, (.tree 4 p.ns8 p.gs8), .unk, .unk, .unk, .unk, (i p.is13), .unk, .unk, .unk, (.ptr 1 0 0 0), (i t1), .unk, .unk, .unk, .unk, .unk, .unk, .unk, .unk, .unk, .unk, .unk, .unk, .unk, .unk, .unk, .unk, .unk, .unk, .unk, .unk, .unk, .unk, .unk, .unk, .unk, .unk, .unk, .unk, .unk, .unk, .unk, .unk, .unk, .unk, .unk, .unk, .unk, .unk, .unk, .unk, .unk, .unk, .unk, .unk, .unk, .unk, .unk, .unk, .unk, .unk, .unk, .unk, .unk, .unk, .unk, .unk, .unk, .unk, .unk, .unk, .unk, .unk, .unk, .unk, .unk, .unk, .unk, .unk, .unk, .unk, .unk, .unk, .unk, .unk, .unk, .unk, .unk, .unk, .unk, .unk, .unk, .unk, .unk, .unk, .unk, .unk, .unk, .unk, .unk, .unk, .unk, .unk, .unk, (.sl 0 0 p.ns112 0), (i p.is113), (i s.is114), (b (decide (s.is114 < p.is113))), (.ptr 0 (0 + s.is114.toNat) 0 0), (.agg [(i (toI (hdA (dropN (getRow p.eh0 (0 + s.is114.toNat)) 0)))), (i (toI (hdA (tlA (dropN (getRow p.eh0 (0 + s.is114.toNat)) 0))))), (i (toI (hdA (tlA (tlA (dropN (getRow p.eh0 (0 + s.is114.toNat)) 0)))))), (i (toI (hdA (tlA (tlA (tlA (dropN (getRow p.eh0 (0 + s.is114.toNat)) 0)))))))]), (.tree 4 p.ns8 p.gs8), (.agg [(i (toI (hdA (dropN (getRow p.eh0 (0 + s.is114.toNat)) 0)))), (i (toI (hdA (tlA (dropN (getRow p.eh0 (0 + s.is114.toNat)) 0))))), (i (toI (hdA (tlA (tlA (dropN (getRow p.eh0 (0 + s.is114.toNat)) 0)))))), (i (toI (hdA (tlA (tlA (tlA (dropN (getRow p.eh0 (0 + s.is114.toNat)) 0)))))))]), (i t1), (i t1), (b (decide (t1 < 0))), (b false), (.tree 4 p.ns8 p.gs8), (i t1), (.tptr (p.gs8 t1.toNat)), (.tptr (dropN (p.gs8 t1.toNat) 2)), (i (toI (hdA (dropN (p.gs8 t1.toNat) 2)))), (.ptr 1 0 2 0), (i (toI (hdA (tlA (tlA (dropN (getRow p.eh0 (0 + s.is114.toNat)) 0)))))), (b (decide ((toI (hdA (dropN (p.gs8 t1.toNat) 2))) < (toI (hdA (tlA (tlA (dropN (getRow p.eh0 (0 + s.is114.toNat)) 0)))))))), (b (decide ((toI (hdA (dropN (p.gs8 t1.toNat) 2))) < (toI (hdA (tlA (tlA (dropN (getRow p.eh0 (0 + s.is114.toNat)) 0)))))))), (b false), (.tree 4 p.ns8 p.gs8), (i t1), (.tptr (p.gs8 t1.toNat)), (.tptr (dropN (p.gs8 t1.toNat) 3)), (i (toI (hdA (dropN (p.gs8 t1.toNat) 3)))), (.ptr 1 0 3 0), (i (toI (hdA (tlA (tlA (tlA (dropN (getRow p.eh0 (0 + s.is114.toNat)) 0))))))), (b (decide ((toI (hdA (dropN (p.gs8 t1.toNat) 3))) > (toI (hdA (tlA (tlA (tlA (dropN (getRow p.eh0 (0 + s.is114.toNat)) 0))))))))), (b (decide ((toI (hdA (dropN (p.gs8 t1.toNat) 3))) > (toI (hdA (tlA (tlA (tlA (dropN (getRow p.eh0 (0 + s.is114.toNat)) 0))))))))), .unk, .unk, .unk, .unk, .unk, .unk, .unk, .unk, .unk, .unk, .unk, .unk, .unk, .unk, .unk, .unk, .unk, .unk, .unk, .unk, .unk, .unk, .unk, .unk, .unk, .unk, .unk, .unk, .unk, .unk, .unk, .unk, .unk, .unk, .unk, .unk, .unk, .unk, .unk, .unk, .unk, .unk, .unk, .unk, .unk, .unk, .unk, .unk, .unk, .unk], [⟨27, 4, p.eh0, true, false, 0⟩, ⟨0, 4, [[(i (toI (hdA (dropN (getRow p.eh0 (0 + s.is114.toNat)) 0)))), (i (toI (hdA (tlA (dropN (getRow p.eh0 (0 + s.is114.toNat)) 0))))), (i (toI (hdA (tlA (tlA (dropN (getRow p.eh0 (0 + s.is114.toNat)) 0)))))), (i (toI (hdA (tlA (tlA (tlA (dropN (getRow p.eh0 (0 + s.is114.toNat)) 0)))))))]], true, false, 0⟩]⟩)
theorem nx5_2_3 (p : Pg5_2) (s : Sg5_2) : (x5_2_3 p s).1 ≠ .normal := fun h => by
  have h : XExit.ret = XExit.normal := h
  cases h
noncomputable def x5_2_4 (p : Pg5_2) (s : Sg5_2) : XExit × St := (.exit 4, ⟨[.unk, (.tree 1 p.ns1 p.gs1), .unk, .unk, .unk, (b true), .unk, .unk, (.tree 4 p.ns8 p.gs8), .unk, .unk, .unk, .unk, (i p.is13), .unk, .unk, .unk, .unk, .unk, .unk, .unk, .unk, .unk, .unk, .unk, .unk, .unk, .unk, .unk, .unk, .unk, .unk, .unk, .unk, .unk, .unk, .unk, .unk, .unk, .unk, .unk, .unk, .unk, .unk, .unk, .unk, .unk, .unk, .unk, .unk, .unk, .unk, .unk, .unk, .unk, .unk, .unk, .unk, .unk, .unk, .unk, .unk, .unk, .unk, .unk, .unk, .unk, .unk, .unk, .unk, .unk, .unk, .unk, .unk, .unk, .unk, .unk, .unk, .unk, .unk, .unk, .unk, .unk, .unk, .unk, .unk, .unk, .unk, .unk, .unk, .unk, .unk, .unk, .unk, .unk, .unk, .unk, .unk, .unk, .unk, .unk, .unk, .unk, .unk, .unk, .unk, .unk, .unk, .unk, .unk, .unk, .unk, (.sl 0 0 p.ns112 0), (i p.is113), (i s.is114), (b (decide (s.is114 < p.is113))), .unk, .unk, .unk, .unk, .unk, .unk, .unk, .unk, .unk, .unk, .unk, .unk, .unk, .unk, .unk, .unk, .unk, .unk, .unk, .unk, .unk, .unk, .unk, .unk, .unk, .unk, .unk, .unk, .unk, .unk, .unk, .unk, .unk, .unk, .unk, .unk, .unk, .unk, .unk, .unk, .unk, .unk, .unk, .unk, .unk, .unk, .unk, .unk, .unk, .unk, .unk, .unk, .unk, .unk, .unk, .unk, .unk, .unk, .unk, .unk, .unk, .unk, .unk, .unk, .unk, .unk, .unk, .unk, .unk, .unk, .unk, .unk, .unk, .unk, .unk, .unk, .unk], [⟨27, 4, p.eh0, true, false, 0⟩]⟩)
theorem nx5_2_4 (p : Pg5_2) (s : Sg5_2) : (x5_2_4 p s).1 ≠ .normal := fun h => by
  have h : XExit.exit 4 = XExit.normal := h
  cases h
noncomputable def xs5_2 : List (Pg5_2 → Sg5_2 → XExit × St) := [x5_2_1, x5_2_2, x5_2_3, x5_2_4]
@[reducible] def l5_2 : PC := (.seq (.ops [(o 115 (.bin .lss (.t 114) (.t 113)))]) (.seq (.cond (.t 115) .skip (.exit 4)) (.seq (.block 5 (.seq (.ops [(o 116 (.idxS 4 (.t 112) (.t 114))), (o 117 (.load (ki 4) 4 true (.t 116))), (o 17 (.alloc (rep 4 (vi 0)))), (s (.store 4 (.t 17) (.t 117)))]) (.seq (.ops [(o 118 (.mv (.t 8))), (o 119 (.load (ki 4) 4 true (.t 17))), (o 120 (.call 26 [(.t 118), (.t 119)])), (o 18 (.mv (.t 120)))]) (.seq (.draw [121, 122, 123, 124, 125, 126, 127, 128, 129, 130, 131, 132, 133, 134, 135, 136, 137, 138, 139, 140, 141, 142] [] [(o 121 (.mv (.t 18))), (o 122 (.bin .lss (.t 121) (ci 0))), (o 123 (.mv (.t 122))), ⟨(.some 124), (.some (123, false)), [], (.mv (.t 8))⟩, ⟨(.some 125), (.some (123, false)), [], (.mv (.t 18))⟩, ⟨(.some 126), (.some (123, false)), [], (.idxS 4 (.t 124) (.t 125))⟩, ⟨(.some 127), (.some (123, false)), [], (.fld 2 (.t 126))⟩, ⟨(.some 128), (.some (123, false)), [], (.load (ki 1) 1 false (.t 127))⟩, ⟨(.some 129), (.some (123, false)), [], (.fld 2 (.t 17))⟩, ⟨(.some 130), (.some (123, false)), [], (.load (ki 1) 1 false (.t 129))⟩, ⟨(.some 131), (.some (123, false)), [], (.bin .lss (.t 128) (.t 130))⟩, (o 132 (.pick (.t 123) (cb true) (.t 131))), (o 133 (.mv (.t 132))), ⟨(.some 134), (.some (133, false)), [], (.mv (.t 8))⟩, ⟨(.some 135), (.some (133, false)), [], (.mv (.t 18))⟩, ⟨(.some 136), (.some (133, false)), [], (.idxS 4 (.t 134) (.t 135))⟩, ⟨(.some 137), (.some (133, false)), [], (.fld 3 (.t 136))⟩, ⟨(.some 138), (.some (133, false)), [], (.load (ki 1) 1 false (.t 137))⟩, ⟨(.some 139), (.some (133, false)), [], (.fld 3 (.t 17))⟩, ⟨(.some 140), (.some (133, false)), [], (.load (ki 1) 1 false (.t 139))⟩, ⟨(.some 141), (.some (133, false)), [], (.bin .gtr (.t 138) (.t 140))⟩, (o 142 (.pick (.t 133) (cb true) (.t 141)))] []) (.cond (.t 142) (.seq (.ops [(o 4 (.mv (cb false)))]) .ret) .skip))))) (.ops [(o 143 (.bin .add (.t 114) (ci 1))), (o 114 (.mv (.t 143)))]))))
noncomputable def fo5_2 (p : Pg5_2) (s : Sg5_2) : Stp Sg5_2 → Option (XExit × St) := onStp (fun s' => some (.normal, en5_2 p s')) (fun t => xAt xs5_2 p s t 1) none
theorem rd5_2_0 (p : Pg5_2) (s : Sg5_2) (t1 : Int) (ht1 : t1 = (p26 (lsE p.ns8 p.gs8) (⟨(toI (hdA (dropN (getRow p.eh0 (0 + s.is114.toNat)) 0))), (toI (hdA (tlA (dropN (getRow p.eh0 (0 + s.is114.toNat)) 0)))), (toI (hdA (tlA (tlA (dropN (getRow p.eh0 (0 + s.is114.toNat)) 0))))), (toI (hdA (tlA (tlA (tlA (dropN (getRow p.eh0 (0 + s.is114.toNat)) 0))))))⟩ : Ent))) : (roundE (En tb5) 0 [1, 5, 8, 13, 112, 113, 114] (.pc l5_2) (h5_2_0 p s)).run = (sel (decide (s.is114 < p.is113))
 (sel (inB s.is114 p.ns112)
  (sel (((Nat.blt (0 + s.is114.toNat) (len p.eh0)) && (Nat.ble (0 + 4) (len (getRow p.eh0 (0 + s.is114.toNat))))) && (okCKs [(CK.int .i64), (CK.int .i64), (CK.int .i64), (CK.int .i64)] (dropN (getRow p.eh0 (0 + s.is114.toNat)) 0)))
  (sel (okEs p.ns8 p.gs8)
  (sel (g26 (lsE p.ns8 p.gs8) (⟨(toI (hdA (dropN (getRow p.eh0 (0 + s.is114.toNat)) 0))), (toI (hdA (tlA (dropN (getRow p.eh0 (0 + s.is114.toNat)) 0)))), (toI (hdA (tlA (tlA (dropN (getRow p.eh0 (0 + s.is114.toNat)) 0))))), (toI (hdA (tlA (tlA (tlA (dropN (getRow p.eh0 (0 + s.is114.toNat)) 0))))))⟩ : Ent))
  (sel (decide (t1 < 0))
  (some (x5_2_1 p s))
  (sel (inB t1 p.ns8)
  (sel ((Nat.ble 1 (len (dropN (p.gs8 t1.toNat) 2))) && (okCKs [(CK.int .i64)] (dropN (p.gs8 t1.toNat) 2)))
  (sel (decide ((toI (hdA (dropN (p.gs8 t1.toNat) 2))) < (toI (hdA (tlA (tlA (dropN (getRow p.eh0 (0 + s.is114.toNat)) 0)))))))
  (some (x5_2_2 p s))
  (sel (inB t1 p.ns8)
  (sel ((Nat.ble 1 (len (dropN (p.gs8 t1.toNat) 3))) && (okCKs [(CK.int .i64)] (dropN (p.gs8 t1.toNat) 3)))
  (sel (decide ((toI (hdA (dropN (p.gs8 t1.toNat) 3))) > (toI (hdA (tlA (tlA (tlA (dropN (getRow p.eh0 (0 + s.is114.toNat)) 0))))))))
  (some (x5_2_3 p s))
  (some (.normal, h5_2_0 p ⟨(W (s.is114 + 1))⟩)))
  none)
  none))
  none)
  none))
  none)
  none)
  none)
  none)
 (some (x5_2_4 p s))) := by subst ht1; kernel_rfl
noncomputable def su5_2_0 (p : Pg5_2) (s : Sg5_2) : Stp Sg5_2 := let t1 := (p26 (lsE p.ns8 p.gs8) (⟨(toI (hdA (dropN (getRow p.eh0 (0 + s.is114.toNat)) 0))), (toI (hdA (tlA (dropN (getRow p.eh0 (0 + s.is114.toNat)) 0)))), (toI (hdA (tlA (tlA (dropN (getRow p.eh0 (0 + s.is114.toNat)) 0))))), (toI (hdA (tlA (tlA (tlA (dropN (getRow p.eh0 (0 + s.is114.toNat)) 0))))))⟩ : Ent)); (sel (decide (s.is114 < p.is113))
 (sel (inB s.is114 p.ns112)
  (sel (((Nat.blt (0 + s.is114.toNat) (len p.eh0)) && (Nat.ble (0 + 4) (len (getRow p.eh0 (0 + s.is114.toNat))))) && (okCKs [(CK.int .i64), (CK.int .i64), (CK.int .i64), (CK.int .i64)] (dropN (getRow p.eh0 (0 + s.is114.toNat)) 0)))
  (sel (okEs p.ns8 p.gs8)
  (sel (g26 (lsE p.ns8 p.gs8) (⟨(toI (hdA (dropN (getRow p.eh0 (0 + s.is114.toNat)) 0))), (toI (hdA (tlA (dropN (getRow p.eh0 (0 + s.is114.toNat)) 0)))), (toI (hdA (tlA (tlA (dropN (getRow p.eh0 (0 + s.is114.toNat)) 0))))), (toI (hdA (tlA (tlA (tlA (dropN (getRow p.eh0 (0 + s.is114.toNat)) 0))))))⟩ : Ent))
  (sel (decide (t1 < 0))
  (.exit 1)
  (sel (inB t1 p.ns8)
  (sel ((Nat.ble 1 (len (dropN (p.gs8 t1.toNat) 2))) && (okCKs [(CK.int .i64)] (dropN (p.gs8 t1.toNat) 2)))
  (sel (decide ((toI (hdA (dropN (p.gs8 t1.toNat) 2))) < (toI (hdA (tlA (tlA (dropN (getRow p.eh0 (0 + s.is114.toNat)) 0)))))))
  (.exit 2)
  (sel (inB t1 p.ns8)
  (sel ((Nat.ble 1 (len (dropN (p.gs8 t1.toNat) 3))) && (okCKs [(CK.int .i64)] (dropN (p.gs8 t1.toNat) 3)))
  (sel (decide ((toI (hdA (dropN (p.gs8 t1.toNat) 3))) > (toI (hdA (tlA (tlA (tlA (dropN (getRow p.eh0 (0 + s.is114.toNat)) 0))))))))
  (.exit 3)
  (.next ⟨(W (s.is114 + 1))⟩))
  .fail)
  .fail))
  .fail)
  .fail))
  .fail)
  .fail)
  .fail)
  .fail)
 (.exit 4))
theorem q5_2_0 (p : Pg5_2) (s : Sg5_2) (c1 c2 c3 c4 c5 c6 c7 c8 c9 c10 c11 : Bool)  : (fo5_2 p s) (sel c1
 (sel c2
  (sel c3
  (sel c4
  (sel c5
  (sel c6
  (.exit 1)
  (sel c7
  (sel c8
  (sel c9
  (.exit 2)
  (sel c7
  (sel c10
  (sel c11
  (.exit 3)
  (.next ⟨(W (s.is114 + 1))⟩))
  .fail)
  .fail))
  .fail)
  .fail))
  .fail)
  .fail)
  .fail)
  .fail)
 (.exit 4)) = (sel c1
 (sel c2
  (sel c3
  (sel c4
  (sel c5
  (sel c6
  (some (x5_2_1 p s))
  (sel c7
  (sel c8
  (sel c9
  (some (x5_2_2 p s))
  (sel c7
  (sel c10
  (sel c11
  (some (x5_2_3 p s))
  (some (.normal, h5_2_0 p ⟨(W (s.is114 + 1))⟩)))
  none)
  none))
  none)
  none))
  none)
  none)
  none)
  none)
 (some (x5_2_4 p s))) := (stpSel (f := (fo5_2 p s)) (stpSel (f := (fo5_2 p s)) (stpSel (f := (fo5_2 p s)) (stpSel (f := (fo5_2 p s)) (stpSel (f := (fo5_2 p s)) (stpSel (f := (fo5_2 p s)) rfl (stpSel (f := (fo5_2 p s)) (stpSel (f := (fo5_2 p s)) (stpSel (f := (fo5_2 p s)) rfl (stpSel (f := (fo5_2 p s)) (stpSel (f := (fo5_2 p s)) (stpSel (f := (fo5_2 p s)) rfl rfl) rfl) rfl)) rfl) rfl)) rfl) rfl) rfl) rfl) rfl)
theorem sp5_2_0 (p : Pg5_2) (s : Sg5_2) : (roundE (En tb5) 0 [1, 5, 8, 13, 112, 113, 114] (.pc l5_2) (h5_2_0 p s)).run = fo5_2 p s (su5_2_0 p s) := (rd5_2_0 p s _ rfl).trans (q5_2_0 p s _ _ _ _ _ _ _ _ _ _ _).symm
noncomputable def st5_2 (p : Pg5_2) (s : Sg5_2) : Stp Sg5_2 := (su5_2_0 p s)
theorem sp5_2 (p : Pg5_2) (s : Sg5_2) : (roundE (En tb5) 0 [1, 5, 8, 13, 112, 113, 114] (.pc l5_2) (en5_2 p s)).run = fo5_2 p s (st5_2 p s) := by
  show (roundE (En tb5) 0 [1, 5, 8, 13, 112, 113, 114] (.pc l5_2) (h5_2_0 p s)).run = fo5_2 p s (su5_2_0 p s)
  exact sp5_2_0 p s
noncomputable def al5_2_0 : Alt Pg5_2 Sg5_2 := ⟨[(.s .unk), (.s (.tree 1)), (.s .unk), (.s .unk), (.s .unk), (.s (.blit true)), (.s .unk), (.s .unk), (.s (.tree 4)), (.s .unk), (.s .unk), (.s .unk), (.s .unk), (.s (.int .i64)), (.s .unk), (.s .unk), (.s .unk), (.s .unk), (.s .unk), (.s .unk), (.s .unk), (.s .unk), (.s .unk), (.s .unk), (.s .unk), (.s .unk), (.s .unk), (.s .unk), (.s .unk), (.s .unk), (.s .unk), (.s .unk), (.s .unk), (.s .unk), (.s .unk), (.s .unk), (.s .unk), (.s .unk), (.s .unk), (.s .unk), (.s .unk), (.s .unk), (.s .unk), (.s .unk), (.s .unk), (.s .unk), (.s .unk), (.s .unk), (.s .unk), (.s .unk), (.s .unk), (.s .unk), (.s .unk), (.s .unk), (.s .unk), (.s .unk), (.s .unk), (.s .unk), (.s .unk), (.s .unk), (.s .unk), (.s .unk), (.s .unk), (.s .unk), (.s .unk), (.s .unk), (.s .unk), (.s .unk), (.s .unk), (.s .unk), (.s .unk), (.s .unk), (.s .unk), (.s .unk), (.s .unk), (.s .unk), (.s .unk), (.s .unk), (.s .unk), (.s .unk), (.s .unk), (.s .unk), (.s .unk), (.s .unk), (.s .unk), (.s .unk), (.s .unk), (.s .unk), (.s .unk), (.s .unk), (.s .unk), (.s .unk), (.s .unk), (.s .unk), (.s .unk), (.s .unk), (.s .unk), (.s .unk), (.s .unk), (.s .unk), (.s .unk), (.s .unk), (.s .unk), (.s .unk), (.s .unk), (.s .unk), (.s .unk), (.s .unk), (.s .unk), (.s .unk), (.s .unk), (.s .unk), (.s (.sl 0 0 (some 0) none)), (.s (.int .i64)), (.s (.int .i64)), (.s .unk), (.s .unk), (.s .unk), (.s .unk), (.s .unk), (.s .unk), (.s .unk), (.s .unk), (.s .unk), (.s .unk), (.s .unk), (.s .unk), (.s .unk), (.s .unk), (.s .unk), (.s .unk), (.s .unk), (.s .unk), (.s .unk), (.s .unk), (.s .unk), (.s .unk), (.s .unk), (.s .unk), (.s .unk), (.s .unk), (.s .unk), (.s .unk), (.s .unk), (.s .unk), (.s .unk), (.s .unk), (.s .unk), (.s .unk), (.s .unk), (.s .unk), (.s .unk), (.s .unk), (.s .unk), (.s .unk), (.s .unk), (.s .unk), (.s .unk), (.s .unk), (.s .unk), (.s .unk), (.s .unk), (.s .unk), (.s .unk), (.s .unk), (.s .unk), (.s .unk), (.s .unk), (.s .unk), (.s .unk), (.s .unk), (.s .unk), (.s .unk), (.s .unk), (.s .unk), (.s .unk), (.s .unk), (.s .unk), (.s .unk), (.s .unk), (.s .unk), (.s .unk), (.s .unk), (.s .unk), (.s .unk), (.s .unk), (.s .unk), (.s .unk), (.s .unk), (.s .unk), (.s .unk), (.s .unk), (.s .unk)], [⟨27, 4, true, none⟩], fun a H => (⟨(toN (slotA a 1)), (toG (slotA a 1)), (toN (slotA a 8)), (toG (slotA a 8)), (toI (slotA a 13)), (slN (slotA a 112)), (toI (slotA a 113)), (elsA H 0)⟩, ⟨(toI (slotA a 114))⟩)⟩
theorem la5_2_0 (a : List AVal) (H : List ABlk) : (⟨asSls al5_2_0.sh a, asBks al5_2_0.bl H⟩ : St) = en5_2 (al5_2_0.rd (asSls al5_2_0.sh a) (asBks al5_2_0.bl H)).1 (al5_2_0.rd (asSls al5_2_0.sh a) (asBks al5_2_0.bl H)).2 := by kernel_rfl
noncomputable def as5_2 : List (Alt Pg5_2 Sg5_2) := [al5_2_0]
theorem lo5_2 (s : St) : Below ((loopL 0 [1, 5, 8, 13, 112, 113, 114] as5_2 st5_2 xs5_2) s) (exec (En tb5) 0 (.loop [1, 5, 8, 13, 112, 113, 114] l5_2) s) :=
  loopL_below (E := En tb5) (enc := en5_2) (body := (.pc l5_2)) (alts := as5_2) (xs := xs5_2) (.pc _) rfl (.cons la5_2_0 .nil) (.cons nx5_2_1 (.cons nx5_2_2 (.cons nx5_2_3 (.cons nx5_2_4 .nil)))) (fun p s => sp5_2 p s) s
structure Pg5_4 where
  ns1 : Nat
  gs1 : Nat → List AVal
  ns8 : Nat
  gs8 : Nat → List AVal
  is13 : Int
  is19 : Int
  ns148 : Nat
  gs148 : Nat → List AVal
  is149 : Int
structure Sg5_4 where
  is20 : Int
  is150 : Int
noncomputable def h5_4_0 (p : Pg5_4) (s : Sg5_4) : St := ⟨[.unk, (.tree 1 p.ns1 p.gs1), .unk, .unk, .unk, (b true), .unk, .unk, (.tree 4 p.ns8 p.gs8), .unk, .unk, .unk, .unk, (i p.is13), .unk, .unk, .unk, .unk, .unk, (i p.is19), (i s.is20), .unk, .unk, .unk, .unk, .unk, .unk, .unk, .unk, .unk, .unk, .unk, .unk, .unk, .unk, .unk, .unk, .unk, .unk, .unk, .unk, .unk, .unk, .unk, .unk, .unk, .unk, .unk, .unk, .unk, .unk, .unk, .unk, .unk, .unk, .unk, .unk, .unk, .unk, .unk, .unk, .unk, .unk, .unk, .unk, .unk, .unk, .unk, .unk, .unk, .unk, .unk, .unk, .unk, .unk, .unk, .unk, .unk, .unk, .unk, .unk, .unk, .unk, .unk, .unk, .unk, .unk, .unk, .unk, .unk, .unk, .unk, .unk, .unk, .unk, .unk, .unk, .unk, .unk, .unk, .unk, .unk, .unk, .unk, .unk, .unk, .unk, .unk, .unk, .unk, .unk, .unk, .unk, .unk, .unk, .unk, .unk, .unk, .unk, .unk, .unk, .unk, .unk, .unk, .unk, .unk, .unk, .unk, .unk, .unk, .unk, .unk, .unk, .unk, .unk, .unk, .unk, .unk, .unk, .unk, .unk, .unk, .unk, .unk, .unk, .unk, .unk, .unk, (.tree 4 p.ns148 p.gs148), (i p.is149), (i s.is150), .unk, .unk, .unk, .unk, .unk, .unk, .unk, .unk, .unk, .unk, .unk, .unk, .unk, .unk, .unk, .unk, .unk, .unk, .unk, .unk, .unk, .unk, .unk, .unk, .unk, .unk, .unk, .unk, .unk, .unk, .unk, .unk, .unk, .unk, .unk, .unk, .unk, .unk, .unk, .unk, .unk, .unk], []⟩
noncomputable def en5_4 (p : Pg5_4) (s : Sg5_4) : St := (h5_4_0 p s)
noncomputable def x5_4_1 (p : Pg5_4) (s : Sg5_4) : XExit × St := (.exit 8, ⟨[.unk, (.tree 1 p.ns1 p.gs1), .unk, .unk, .unk, (b true), .unk, .unk, (.tree 4 p.ns8 p.gs8), .unk, .unk, .unk, .unk, (i p.is13), .unk, .unk, .unk, .unk, .unk, (i p.is19), (i s.is20), .unk, .unk, .unk, .unk, .unk, .unk, .unk, .unk, .unk, .unk, .unk, .unk, .unk, .unk, .unk, .unk, .unk, .unk, .unk, .unk, .unk, .unk, .unk, .unk, .unk, .unk, .unk, .unk, .unk, .unk, .unk, .unk, .unk, .unk, .unk, .unk, .unk, .unk, .unk, .unk, .unk, .unk, .unk, .unk, .unk, .unk, .unk, .unk, .unk, .unk, .unk, .unk, .unk, .unk, .unk, .unk, .unk, .unk, .unk, .unk, .unk, .unk, .unk, .unk, .unk, .unk, .unk, .unk, .unk, .unk, .unk, .unk, .unk, .unk, .unk, .unk, .unk, .unk, .unk, .unk, .unk, .unk, .unk, .unk, .unk, .unk, .unk, .unk, .unk, .unk, .unk, .unk, .unk, .unk, .unk, .unk, .unk, .unk, .unk, .unk, .unk, .unk, .unk, .unk, .unk, .unk, .unk, .unk, .unk, .unk, .unk, .unk, .unk, .unk, .unk, .unk, .unk, .unk, .unk, .unk, .unk, .unk, .unk, .unk, .unk, .unk, .unk, (.tree 4 p.ns148 p.gs148), (i p.is149), (i s.is150), (b (decide (s.is150 < p.is149))), .unk, .unk, .unk, .unk, .unk, .unk, .unk, .unk, .unk, .unk, .unk, .unk, .unk, .unk, .unk, .unk, .unk, .unk, .unk, .unk, .unk, .unk, .unk, .unk, .unk, .unk, .unk, .unk, .unk, .unk, .unk, .unk, .unk, .unk, .unk, .unk, .unk, .unk, .unk, .unk, .unk], []⟩)
theorem nx5_4_1 (p : Pg5_4) (s : Sg5_4) : (x5_4_1 p s).1 ≠ .normal := fun h => by
  have h : XExit.exit 8 = XExit.normal := h
  cases h
noncomputable def xs5_4 : List (Pg5_4 → Sg5_4 → XExit × St) := [x5_4_1]
@[reducible] def l5_4 : PC := (.seq (.ops [(o 151 (.bin .lss (.t 150) (.t 149)))]) (.seq (.cond (.t 151) .skip (.exit 8)) (.seq (.block 9 (.seq (.ops [(o 152 (.idxS 4 (.t 148) (.t 150))), (o 153 (.load (ki 4) 4 true (.t 152))), (o 22 (.alloc (rep 4 (vi 0)))), (s (.store 4 (.t 22) (.t 153)))]) (.seq (.ops [(o 154 (.fld 0 (.t 22))), (o 155 (.load (ki 1) 1 false (.t 154))), (o 156 (.mv (.t 19))), (o 157 (.bin .eql (.t 155) (.t 156)))]) (.cond (.t 157) (.ops [(o 158 (.mv (.t 20))), (o 159 (.mv (.t 1))), (o 160 (.fld 0 (.t 22))), (o 161 (.load (ki 1) 1 false (.t 160))), (o 162 (.fld 1 (.t 22))), (o 163 (.load (ki 1) 1 false (.t 162))), (o 164 (.call 25 [(.t 159), (.t 161), (.t 163)])), (o 165 (.bin .add (.t 158) (.t 164))), (o 20 (.mv (.t 165)))]) .skip)))) (.ops [(o 166 (.bin .add (.t 150) (ci 1))), (o 150 (.mv (.t 166)))]))))
noncomputable def fo5_4 (p : Pg5_4) (s : Sg5_4) : Stp Sg5_4 → Option (XExit × St) := onStp (fun s' => some (.normal, en5_4 p s')) (fun t => xAt xs5_4 p s t 1) none
theorem rd5_4_0 (p : Pg5_4) (s : Sg5_4) (t1 : Int) (ht1 : t1 = (p25 (⟨p.ns1, fun k => toI (hdA (p.gs1 k))⟩ : IL) (toI (hdA (p.gs148 s.is150.toNat))) (toI (hdA (tlA (p.gs148 s.is150.toNat)))))) : (roundE (En tb5) 0 [1, 5, 8, 13, 19, 20, 148, 149, 150] (.pc l5_4) (h5_4_0 p s)).run = (sel (decide (s.is150 < p.is149))
 (sel (inB s.is150 p.ns148)
  (sel ((Nat.ble 4 (len (p.gs148 s.is150.toNat))) && (okCKs [(CK.int .i64), (CK.int .i64), (CK.int .i64), (CK.int .i64)] (p.gs148 s.is150.toNat)))
  (sel ((toI (hdA (p.gs148 s.is150.toNat))) == p.is19)
  (sel (okInts p.ns1 p.gs1)
  (sel (g25 (⟨p.ns1, fun k => toI (hdA (p.gs1 k))⟩ : IL) (toI (hdA (p.gs148 s.is150.toNat))) (toI (hdA (tlA (p.gs148 s.is150.toNat)))))
  (some (.normal, h5_4_0 p ⟨(W (s.is20 + t1)), (W (s.is150 + 1))⟩))
  none)
  none)
  (some (.normal, h5_4_0 p ⟨s.is20, (W (s.is150 + 1))⟩)))
  none)
  none)
 (some (x5_4_1 p s))) := by subst ht1; kernel_rfl
noncomputable def su5_4_0 (p : Pg5_4) (s : Sg5_4) : Stp Sg5_4 := let t1 := (p25 (⟨p.ns1, fun k => toI (hdA (p.gs1 k))⟩ : IL) (toI (hdA (p.gs148 s.is150.toNat))) (toI (hdA (tlA (p.gs148 s.is150.toNat))))); (sel (decide (s.is150 < p.is149))
 (sel (inB s.is150 p.ns148)
  (sel ((Nat.ble 4 (len (p.gs148 s.is150.toNat))) && (okCKs [(CK.int .i64), (CK.int .i64), (CK.int .i64), (CK.int .i64)] (p.gs148 s.is150.toNat)))
  (sel ((toI (hdA (p.gs148 s.is150.toNat))) == p.is19)
  (sel (okInts p.ns1 p.gs1)
  (sel (g25 (⟨p.ns1, fun k => toI (hdA (p.gs1 k))⟩ : IL) (toI (hdA (p.gs148 s.is150.toNat))) (toI (hdA (tlA (p.gs148 s.is150.toNat)))))
  (.next ⟨(W (s.is20 + t1)), (W (s.is150 + 1))⟩)
  .fail)
  .fail)
  (.next ⟨s.is20, (W (s.is150 + 1))⟩))
  .fail)
  .fail)
 (.exit 1))
theorem q5_4_0 (p : Pg5_4) (s : Sg5_4) (c1 c2 c3 c4 c5 c6 : Bool) (t1 : Int) : (fo5_4 p s) (sel c1
 (sel c2
  (sel c3
  (sel c4
  (sel c5
  (sel c6
  (.next ⟨(W (s.is20 + t1)), (W (s.is150 + 1))⟩)
  .fail)
  .fail)
  (.next ⟨s.is20, (W (s.is150 + 1))⟩))
  .fail)
  .fail)
 (.exit 1)) = (sel c1
 (sel c2
  (sel c3
  (sel c4
  (sel c5
  (sel c6
  (some (.normal, h5_4_0 p ⟨(W (s.is20 + t1)), (W (s.is150 + 1))⟩))
  none)
  none)
  (some (.normal, h5_4_0 p ⟨s.is20, (W (s.is150 + 1))⟩)))
  none)
  none)
 (some (x5_4_1 p s))) := (stpSel (f := (fo5_4 p s)) (stpSel (f := (fo5_4 p s)) (stpSel (f := (fo5_4 p s)) (stpSel (f := (fo5_4 p s)) (stpSel (f := (fo5_4 p s)) (stpSel (f := (fo5_4 p s)) rfl rfl) rfl) rfl) rfl) rfl) rfl)
theorem sp5_4_0 (p : Pg5_4) (s : Sg5_4) : (roundE (En tb5) 0 [1, 5, 8, 13, 19, 20, 148, 149, 150] (.pc l5_4) (h5_4_0 p s)).run = fo5_4 p s (su5_4_0 p s) := (rd5_4_0 p s _ rfl).trans (q5_4_0 p s _ _ _ _ _ _ _).symm
noncomputable def st5_4 (p : Pg5_4) (s : Sg5_4) : Stp Sg5_4 := (su5_4_0 p s)
theorem sp5_4 (p : Pg5_4) (s : Sg5_4) : (roundE (En tb5) 0 [1, 5, 8, 13, 19, 20, 148, 149, 150] (.pc l5_4) (en5_4 p s)).run = fo5_4 p s (st5_4 p s) := by
  show (roundE (En tb5) 0 [1, 5, 8, 13, 19, 20, 148, 149, 150] (.pc l5_4) (h5_4_0 p s)).run = fo5_4 p s (su5_4_0 p s)
  exact sp5_4_0 p s
noncomputable def al5_4_0 : Alt Pg5_4 Sg5_4 := ⟨[(.s .unk), (.s (.tree 1)), (.s .unk), (.s .unk), (.s .unk), (.s (.blit true)), (.s .unk), (.s .unk), (.s (.tree 4)), (.s .unk), (.s .unk), (.s .unk), (.s .unk), (.s (.int .i64)), (.s .unk), (.s .unk), (.s .unk), (.s .unk), (.s .unk), (.s (.int .i64)), (.s (.int .i64)), (.s .unk), (.s .unk), (.s .unk), (.s .unk), (.s .unk), (.s .unk), (.s .unk), (.s .unk), (.s .unk), (.s .unk), (.s .unk), (.s .unk), (.s .unk), (.s .unk), (.s .unk), (.s .unk), (.s .unk), (.s .unk), (.s .unk), (.s .unk), (.s .unk), (.s .unk), (.s .unk), (.s .unk), (.s .unk), (.s .unk), (.s .unk), (.s .unk), (.s .unk), (.s .unk), (.s .unk), (.s .unk), (.s .unk), (.s .unk), (.s .unk), (.s .unk), (.s .unk), (.s .unk), (.s .unk), (.s .unk), (.s .unk), (.s .unk), (.s .unk), (.s .unk), (.s .unk), (.s .unk), (.s .unk), (.s .unk), (.s .unk), (.s .unk), (.s .unk), (.s .unk), (.s .unk), (.s .unk), (.s .unk), (.s .unk), (.s .unk), (.s .unk), (.s .unk), (.s .unk), (.s .unk), (.s .unk), (.s .unk), (.s .unk), (.s .unk), (.s .unk), (.s .unk), (.s .unk), (.s .unk), (.s .unk), (.s .unk), (.s .unk), (.s .unk), (.s .unk), (.s .unk), (.s .unk), (.s .unk), (.s .unk), (.s .unk), (.s .unk), (.s .unk), (.s .unk), (.s .unk), (.s .unk), (.s .unk), (.s .unk), (.s .unk), (.s .unk), (.s .unk), (.s .unk), (.s .unk), (.s .unk), (.s .unk), (.s .unk), (.s .unk), (.s .unk), (.s .unk), (.s .unk), (.s .unk), (.s .unk), (.s .unk), (.s .unk), (.s .unk), (.s .unk), (.s .unk), (.s .unk), (.s .unk), (.s .unk), (.s .unk), (.s .unk), (.s .unk), (.s .unk), (.s .unk), (.s .unk), (.s .unk), (.s .unk), (.s .unk), (.s .unk), (.s .unk), (.s .unk), (.s .unk), (.s .unk), (.s .unk), (.s .unk), (.s .unk), (.s .unk), (.s .unk), (.s (.tree 4)), (.s (.int .i64)), (.s (.int .i64)), (.s .unk), (.s .unk), (.s .unk), (.s .unk), (.s .unk), (.s .unk), (.s .unk), (.s .unk), (.s .unk), (.s .unk), (.s .unk), (.s .unk), (.s .unk), (.s .unk), (.s .unk), (.s .unk), (.s .unk), (.s .unk), (.s .unk), (.s .unk), (.s .unk), (.s .unk), (.s .unk), (.s .unk), (.s .unk), (.s .unk), (.s .unk), (.s .unk), (.s .unk), (.s .unk), (.s .unk), (.s .unk), (.s .unk), (.s .unk), (.s .unk), (.s .unk), (.s .unk), (.s .unk), (.s .unk), (.s .unk), (.s .unk), (.s .unk)], [], fun a H => (⟨(toN (slotA a 1)), (toG (slotA a 1)), (toN (slotA a 8)), (toG (slotA a 8)), (toI (slotA a 13)), (toI (slotA a 19)), (toN (slotA a 148)), (toG (slotA a 148)), (toI (slotA a 149))⟩, ⟨(toI (slotA a 20)), (toI (slotA a 150))⟩)⟩
theorem la5_4_0 (a : List AVal) (H : List ABlk) : (⟨asSls al5_4_0.sh a, asBks al5_4_0.bl H⟩ : St) = en5_4 (al5_4_0.rd (asSls al5_4_0.sh a) (asBks al5_4_0.bl H)).1 (al5_4_0.rd (asSls al5_4_0.sh a) (asBks al5_4_0.bl H)).2 := by kernel_rfl
noncomputable def as5_4 : List (Alt Pg5_4 Sg5_4) := [al5_4_0]
theorem lo5_4 (s : St) : Below ((loopL 0 [1, 5, 8, 13, 19, 20, 148, 149, 150] as5_4 st5_4 xs5_4) s) (exec (En tb5) 0 (.loop [1, 5, 8, 13, 19, 20, 148, 149, 150] l5_4) s) :=
  loopL_below (E := En tb5) (enc := en5_4) (body := (.pc l5_4)) (alts := as5_4) (xs := xs5_4) (.pc _) rfl (.cons la5_4_0 .nil) (.cons nx5_4_1 .nil) (fun p s => sp5_4 p s) s
structure Pg5_3 where
  ns1 : Nat
  gs1 : Nat → List AVal
  ns8 : Nat
  gs8 : Nat → List AVal
  is13 : Int
structure Sg5_3 where
  is19 : Int
noncomputable def h5_3_0 (p : Pg5_3) (s : Sg5_3) : St := ⟨[.unk, (.tree 1 p.ns1 p.gs1), .unk, .unk, .unk, (b true), .unk, .unk, (.tree 4 p.ns8 p.gs8), .unk, .unk, .unk, .unk, (i p.is13), .unk, .unk, .unk, .unk, .unk, (i s.is19), .unk, .unk, .unk, .unk, .unk, .unk, .unk, .unk, .unk, .unk, .unk, .unk, .unk, .unk, .unk, .unk, .unk, .unk, .unk, .unk, .unk, .unk, .unk, .unk, .unk, .unk, .unk, .unk, .unk, .unk, .unk, .unk, .unk, .unk, .unk, .unk, .unk, .unk, .unk, .unk, .unk, .unk, .unk, .unk, .unk, .unk, .unk, .unk, .unk, .unk, .unk, .unk, .unk, .unk, .unk, .unk, .unk, .unk, .unk, .unk, .unk, .unk, .unk, .unk, .unk, .unk, .unk, .unk, .unk, .unk, .unk, .unk, .unk, .unk, .unk, .unk, .unk, .unk, .unk, .unk, .unk, .unk, .unk, .unk, .unk, .unk, .unk, .unk, .unk, .unk, .unk, .unk, .unk, .unk, .unk, .unk, .unk, .unk, .unk, .unk, .unk, .unk, .unk, .unk, .unk, .unk, .unk, .unk, .unk, .unk, .unk, .unk, .unk, .unk, .unk, .unk, .unk, .unk, .unk, .unk, .unk, .unk, .unk, .unk, .unk, .unk, .unk, .unk, .unk, .unk, .unk, .unk, .unk, .unk, .unk, .unk, .unk, .unk, .unk, .unk, .unk, .unk, .unk, .unk, .unk, .unk, .unk, .unk, .unk, .unk, .unk, .unk, .unk, .unk, .unk, .unk, .unk, .unk, .unk, .unk, .unk, .unk, .unk, .unk, .unk, .unk, .unk, .unk, .unk, .unk, .unk, .unk, .unk], []⟩
noncomputable def en5_3 (p : Pg5_3) (s : Sg5_3) : St := (h5_3_0 p s)
noncomputable def x5_3_1 (p : Pg5_3) (s : Sg5_3) : XExit × St := let t1 := (lp (st5_4 (⟨p.ns1, p.gs1, p.ns8, p.gs8, p.is13, s.is19, p.ns8, p.gs8, (↑p.ns8 : Int)⟩ : Pg5_4)) (⟨0, 0⟩ : Sg5_4)); let t2 := (pT (lsE p.ns8 p.gs8) s.is19); (.ret, ⟨[.unk, (.tree 1 p.ns1 p.gs1), .unk, .unk, (b false), (b true), .unk, .unk, (.tree 4 p.ns8 p.gs8), .unk, .unk, .unk, .unk, (i p.is13), .unk, .unk, .unk, .unk, .unk, (i s.is19), (i t1.2.is20), .unk, .unk, (i t2.1), (i t2.2.1), (i t2.2.2), .unk, .unk, .unk, .unk, .unk, .unk, .unk, .unk, .unk, .unk, .unk, .unk, .unk, .unk, .unk, .unk, .unk, .unk, .unk, .unk, .unk, .unk, .unk, .unk, .unk, .unk, .unk, .unk, .unk, .unk, .unk, .unk, .unk, .unk, .unk, .unk, .unk, .unk, .unk, .unk, .unk, .unk, .unk, .unk, .unk, .unk, .unk, .unk, .unk, .unk, .unk, .unk, .unk, .unk, .unk, .unk, .unk, .unk, .unk, .unk, .unk, .unk, .unk, .unk, .unk, .unk, .unk, .unk, .unk, .unk, .unk, .unk, .unk, .unk, .unk, .unk, .unk, .unk, .unk, .unk, .unk, .unk, .unk, .unk, .unk, .unk, .unk, .unk, .unk, .unk, .unk, .unk, .unk, .unk, .unk, .unk, .unk, .unk, .unk, .unk, .unk, .unk, .unk, .unk, .unk, .unk, .unk, .unk, .unk, .unk, .unk, .unk, .unk, .unk, .unk, .unk, .unk, .unk, .unk, .unk, .unk, .unk, (.tree 4 p.ns8 p.gs8), (i (↑p.ns8 : Int)), (i t1.2.is150), (b (decide (t1.2.is150 < (↑p.ns8 : Int)))), .unk, .unk, .unk, .unk, .unk, .unk, .unk, .unk, .unk, .unk, .unk, .unk, .unk, .unk, .unk, (.tup [(i t2.1), (i t2.2.1), (i t2.2.2)]), (.tree 4 p.ns8 p.gs8), (i s.is19), (.tup [(i t2.1), (i t2.2.1), (i t2.2.2)]), (i t2.1), (i t2.2.1), (i t2.2.2), (i t2.2.2), (b (t2.2.2 != 0)), (b true), u, u, u, (b true), (b true), u, u, u, (b true), .unk, .unk, .unk, .unk, .unk, .unk, .unk], []⟩)
theorem nx5_3_1 (p : Pg5_3) (s : Sg5_3) : (x5_3_1 p s).1 ≠ .normal := fun h => by
  have h : XExit.ret = XExit.normal := h
  cases h
noncomputable def x5_3_2 (p : Pg5_3) (s : Sg5_3) : XExit × St := let t1 := (lp (st5_4 (⟨p.ns1, p.gs1, p.ns8, p.gs8, p.is13, s.is19, p.ns8, p.gs8, (↑p.ns8 : Int)⟩ : Pg5_4)) (⟨0, 0⟩ : Sg5_4)); let t2 := (pT (lsE p.ns8 p.gs8) s.is19); (.ret, ⟨[.unk, (.tree 1 p.ns1 p.gs1), .unk, .unk, (b false), (b true), .unk, .unk, (.tree 4 p.ns8 p.gs8), .unk, .unk, .unk, .unk, (i p.is13), .unk, .unk, .unk, .unk, .unk, (i s.is19), (i t1.2.is20), .unk, .unk, (i t2.1), (i t2.2.1), (i t2.2.2), .unk, .unk, .unk, .unk, .unk, .unk, .unk, .unk, .unk, .unk, .unk, .unk, .unk, .unk, .unk, .unk, .unk, .unk, .unk, .unk, .unk, .unk, .unk, .unk, .unk, .unk, .unk, .unk, .unk, .unk, .unk, .unk, .unk, .unk, .unk, .unk, .unk, .unk, .unk, .unk, .unk, .unk, .unk, .unk, .unk, .unk, .unk, .unk, .unk, .unk, .unk, .unk, .unk, .unk, .unk, .unk, .unk, .unk, .unk, .unk, .unk, .unk, .unk, .unk, .unk, .unk, .unk, .unk, .unk, .unk, .unk, .unk, .unk, .unk, .unk, .unk, .unk, .unk, .unk, .unk, .unk, .unk, .unk, .unk, .unk, .unk, .unk, .unk, .unk, .unk, .unk, .unk, .unk, .unk, .unk, .unk, .unk, .unk, .unk, .unk, .unk, .unk, .unk, .unk, .unk, .unk, .unk, .unk, .unk, .unk, .unk, .unk, .unk, .unk, .unk, .unk, .unk, .unk, .unk, .unk, .unk, .unk, (.tree 4 p.ns8 p.gs8), (i (↑p.ns8 : Int)), (i t1.2.is150), (b (decide (t1.2.is150 < (↑p.ns8 : Int)))), .unk, .unk, .unk, .unk, .unk, .unk, .unk, .unk, .unk, .unk, .unk, .unk, .unk, .unk, .unk, (.tup [(i t2.1), (i t2.2.1), (i t2.2.2)]), (.tree 4 p.ns8 p.gs8), (i s.is19), (.tup [(i t2.1), (i t2.2.1), (i t2.2.2)]), (i t2.1), (i t2.2.1), (i t2.2.2), (i t2.2.2), (b (t2.2.2 != 0)), (b false), (i t2.1), (i t1.2.is20), (b (decide (t2.1 > t1.2.is20))), (b (decide (t2.1 > t1.2.is20))), (b true), u, u, u, (b true), .unk, .unk, .unk, .unk, .unk, .unk, .unk], []⟩)
theorem nx5_3_2 (p : Pg5_3) (s : Sg5_3) : (x5_3_2 p s).1 ≠ .normal := fun h => by
  have h : XExit.ret = XExit.normal := h
  cases h
noncomputable def x5_3_3 (p : Pg5_3) (s : Sg5_3) : XExit × St := let t1 := (lp (st5_4 (⟨p.ns1, p.gs1, p.ns8, p.gs8, p.is13, s.is19, p.ns8, p.gs8, (↑p.ns8 : Int)⟩ : Pg5_4)) (⟨0, 0⟩ : Sg5_4)); let t2 := (pT (lsE p.ns8 p.gs8) s.is19); (.ret, ⟨[.unk, (.tree 1 p.ns1 p.gs1), .unk, .unk, (b false), (b true), .unk, .unk, (.tree 4 p.ns8 p.gs8), .unk, .unk, .unk, .unk, (i p.is13), .unk, .unk, .unk, .unk, .unk, (i s.is19), (i t1.2.is20), .unk, .unk, (i t2.1), (i t2.2.1), (i t2.2.2), .unk, .unk, .unk, .unk, .unk, .unk, .unk, .unk, .unk, .unk, .unk, .unk, .unk, .unk, .unk, .unk, .unk, .unk, .unk, .unk, .unk, .unk, .unk, .unk, .unk, .unk, .unk, .unk, .unk, .unk, .unk, .unk, .unk, .unk, .unk, .unk, .unk, .unk, .unk, .unk, .unk, .unk, .unk, .unk, .unk, .unk, .unk, .unk, .unk, .unk, .unk, .unk, .unk, .unk, .unk, .unk, .unk, .unk, .unk, .unk, .unk, .unk, .unk, .unk, .unk, .unk, .unk, .unk, .unk, .unk, .unk, .unk, .unk, .unk, .unk, .unk, .unk, .unk, .unk, .unk, .unk, .unk, .unk, .unk, .unk, .unk, .unk, .unk, .unk, .unk, .unk, .unk, .unk, .unk, .unk, .unk, .unk, .unk, .unk, .unk, .unk, .unk, .unk, .unk, .unk, .unk, .unk, .unk, .unk, .unk, .unk, .unk, .unk, .unk, .unk, .unk, .unk, .unk, .unk, .unk, .unk, .unk, (.tree 4 p.ns8 p.gs8), (i (↑p.ns8 : Int)), (i t1.2.is150), (b (decide (t1.2.is150 < (↑p.ns8 : Int)))), .unk, .unk, .unk, .unk, .unk, .unk, .unk, .unk, .unk, .unk, .unk, .unk, .unk, .unk, .unk, (.tup [(i t2.1), (i t2.2.1), (i t2.2.2)]), (.tree 4 p.ns8 p.gs8), (i s.is19), (.tup [(i t2.1), (i t2.2.1), (i t2.2.2)]), (i t2.1), (i t2.2.1), (i t2.2.2), (i t2.2.2), (b (t2.2.2 != 0)), (b false), (i t2.1), (i t1.2.is20), (b (decide (t2.1 > t1.2.is20))), (b (decide (t2.1 > t1.2.is20))), (b false), (i t2.2.1), (i t1.2.is20), (b (decide (t2.2.1 < t1.2.is20))), (b (decide (t2.2.1 < t1.2.is20))), .unk, .unk, .unk, .unk, .unk, .unk, .unk], []⟩)
theorem nx5_3_3 (p : Pg5_3) (s : Sg5_3) : (x5_3_3 p s).1 ≠ .normal := fun h => by
  have h : XExit.ret = XExit.normal := h
  cases h
noncomputable def x5_3_4 (p : Pg5_3) (s : Sg5_3) : XExit × St := (.exit 6, ⟨[.unk, (.tree 1 p.ns1 p.gs1), .unk, .unk, .unk, (b true), .unk, .unk, (.tree 4 p.ns8 p.gs8), .unk, .unk, .unk, .unk, (i p.is13), .unk, .unk, .unk, .unk, .unk, (i s.is19), .unk, .unk, .unk, .unk, .unk, .unk, .unk, .unk, .unk, .unk, .unk, .unk, .unk, .unk, .unk, .unk, .unk, .unk, .unk, .unk, .unk, .unk, .unk, .unk, .unk, .unk, .unk, .unk, .unk, .unk, .unk, .unk, .unk, .unk, .unk, .unk, .unk, .unk, .unk, .unk, .unk, .unk, .unk, .unk, .unk, .unk, .unk, .unk, .unk, .unk, .unk, .unk, .unk, .unk, .unk, .unk, .unk, .unk, .unk, .unk, .unk, .unk, .unk, .unk, .unk, .unk, .unk, .unk, .unk, .unk, .unk, .unk, .unk, .unk, .unk, .unk, .unk, .unk, .unk, .unk, .unk, .unk, .unk, .unk, .unk, .unk, .unk, .unk, .unk, .unk, .unk, .unk, .unk, .unk, .unk, .unk, .unk, .unk, .unk, .unk, .unk, .unk, .unk, .unk, .unk, .unk, .unk, .unk, .unk, .unk, .unk, .unk, .unk, .unk, .unk, .unk, .unk, .unk, .unk, .unk, .unk, .unk, .unk, .unk, (i s.is19), (b (decide (s.is19 < 3))), .unk, .unk, .unk, .unk, .unk, .unk, .unk, .unk, .unk, .unk, .unk, .unk, .unk, .unk, .unk, .unk, .unk, .unk, .unk, .unk, .unk, .unk, .unk, .unk, .unk, .unk, .unk, .unk, .unk, .unk, .unk, .unk, .unk, .unk, .unk, .unk, .unk, .unk, .unk, .unk, .unk, .unk, .unk, .unk, .unk, .unk, .unk], []⟩)
theorem nx5_3_4 (p : Pg5_3) (s : Sg5_3) : (x5_3_4 p s).1 ≠ .normal := fun h => by
  have h : XExit.exit 6 = XExit.normal := h
  cases h
noncomputable def xs5_3 : List (Pg5_3 → Sg5_3 → XExit × St) := [x5_3_1, x5_3_2, x5_3_3, x5_3_4]
noncomputable def l5_3 : PS := (.seq (.pc (.seq (.ops [(o 144 (.mv (.t 19))), (o 145 (.bin .lss (.t 144) (ci 3)))]) (.cond (.t 145) .skip (.exit 6)))) (.seq (.block 7 (.seq (.pc (.ops [(o 20 (.mv (ci 0)))])) (.seq (.seq (.pc (.ops [(o 148 (.mv (.t 8))), (o 149 (.len (.t 148))), (o 150 (.mv (ci 0)))])) (.block 8 (.sum (loopL 0 [1, 5, 8, 13, 19, 20, 148, 149, 150] as5_4 st5_4 xs5_4)))) (.pc (.seq (.ops [(o 168 (.mv (.t 8))), (o 169 (.mv (.t 19))), (o 170 (.call 20 [(.t 168), (.t 169)])), (o 167 (.mv (.t 170))), (o 171 (.ext (.t 167) 0)), (o 172 (.ext (.t 167) 1)), (o 173 (.ext (.t 167) 2)), (o 23 (.mv (.t 171))), (o 24 (.mv (.t 172))), (o 25 (.mv (.t 173)))]) (.seq (.ops [(o 174 (.mv (.t 25))), (o 175 (.bin .neq (.t 174) (ci 0))), (o 176 (.mv (.t 175))), ⟨(.some 177), (.some (176, false)), [], (.mv (.t 23))⟩, ⟨(.some 178), (.some (176, false)), [], (.mv (.t 20))⟩, ⟨(.some 179), (.some (176, false)), [], (.bin .gtr (.t 177) (.t 178))⟩, (o 180 (.pick (.t 176) (cb true) (.t 179))), (o 181 (.mv (.t 180))), ⟨(.some 182), (.some (181, false)), [], (.mv (.t 24))⟩, ⟨(.some 183), (.some (181, false)), [], (.mv (.t 20))⟩, ⟨(.some 184), (.some (181, false)), [], (.bin .lss (.t 182) (.t 183))⟩, (o 185 (.pick (.t 181) (cb true) (.t 184)))]) (.cond (.t 185) (.seq (.ops [(o 4 (.mv (cb false)))]) .ret) .skip))))))) (.pc (.ops [(o 146 (.mv (.t 19))), (o 147 (.bin .add (.t 146) (ci 1))), (o 19 (.mv (.t 147)))]))))
@[reducible] def lc5_3 : PC := (.seq (.seq (.ops [(o 144 (.mv (.t 19))), (o 145 (.bin .lss (.t 144) (ci 3)))]) (.cond (.t 145) .skip (.exit 6))) (.seq (.block 7 (.seq (.ops [(o 20 (.mv (ci 0)))]) (.seq (.seq (.ops [(o 148 (.mv (.t 8))), (o 149 (.len (.t 148))), (o 150 (.mv (ci 0)))]) (.block 8 (.loop [1, 5, 8, 13, 19, 20, 148, 149, 150] (.seq (.ops [(o 151 (.bin .lss (.t 150) (.t 149)))]) (.seq (.cond (.t 151) .skip (.exit 8)) (.seq (.block 9 (.seq (.ops [(o 152 (.idxS 4 (.t 148) (.t 150))), (o 153 (.load (ki 4) 4 true (.t 152))), (o 22 (.alloc (rep 4 (vi 0)))), (s (.store 4 (.t 22) (.t 153)))]) (.seq (.ops [(o 154 (.fld 0 (.t 22))), (o 155 (.load (ki 1) 1 false (.t 154))), (o 156 (.mv (.t 19))), (o 157 (.bin .eql (.t 155) (.t 156)))]) (.cond (.t 157) (.ops [(o 158 (.mv (.t 20))), (o 159 (.mv (.t 1))), (o 160 (.fld 0 (.t 22))), (o 161 (.load (ki 1) 1 false (.t 160))), (o 162 (.fld 1 (.t 22))), (o 163 (.load (ki 1) 1 false (.t 162))), (o 164 (.call 25 [(.t 159), (.t 161), (.t 163)])), (o 165 (.bin .add (.t 158) (.t 164))), (o 20 (.mv (.t 165)))]) .skip)))) (.ops [(o 166 (.bin .add (.t 150) (ci 1))), (o 150 (.mv (.t 166)))]))))))) (.seq (.ops [(o 168 (.mv (.t 8))), (o 169 (.mv (.t 19))), (o 170 (.call 20 [(.t 168), (.t 169)])), (o 167 (.mv (.t 170))), (o 171 (.ext (.t 167) 0)), (o 172 (.ext (.t 167) 1)), (o 173 (.ext (.t 167) 2)), (o 23 (.mv (.t 171))), (o 24 (.mv (.t 172))), (o 25 (.mv (.t 173)))]) (.seq (.ops [(o 174 (.mv (.t 25))), (o 175 (.bin .neq (.t 174) (ci 0))), (o 176 (.mv (.t 175))), ⟨(.some 177), (.some (176, false)), [], (.mv (.t 23))⟩, ⟨(.some 178), (.some (176, false)), [], (.mv (.t 20))⟩, ⟨(.some 179), (.some (176, false)), [], (.bin .gtr (.t 177) (.t 178))⟩, (o 180 (.pick (.t 176) (cb true) (.t 179))), (o 181 (.mv (.t 180))), ⟨(.some 182), (.some (181, false)), [], (.mv (.t 24))⟩, ⟨(.some 183), (.some (181, false)), [], (.mv (.t 20))⟩, ⟨(.some 184), (.some (181, false)), [], (.bin .lss (.t 182) (.t 183))⟩, (o 185 (.pick (.t 181) (cb true) (.t 184)))]) (.cond (.t 185) (.seq (.ops [(o 4 (.mv (cb false)))]) .ret) .skip)))))) (.ops [(o 146 (.mv (.t 19))), (o 147 (.bin .add (.t 146) (ci 1))), (o 19 (.mv (.t 147)))])))
noncomputable def fo5_3 (p : Pg5_3) (s : Sg5_3) : Stp Sg5_3 → Option (XExit × St) := onStp (fun s' => some (.normal, en5_3 p s')) (fun t => xAt xs5_3 p s t 1) none
theorem rd5_3_0 (p : Pg5_3) (s : Sg5_3) (t1 : Nat × Sg5_4) (ht1 : t1 = (lp (st5_4 (⟨p.ns1, p.gs1, p.ns8, p.gs8, p.is13, s.is19, p.ns8, p.gs8, (↑p.ns8 : Int)⟩ : Pg5_4)) (⟨0, 0⟩ : Sg5_4))) (t2 : Int × Int × Int) (ht2 : t2 = (pT (lsE p.ns8 p.gs8) s.is19)) : (roundE (En tb5) 0 [1, 5, 8, 13, 19] l5_3 (h5_3_0 p s)).run = (sel (decide (s.is19 < 3))
 (sel (Nat.beq t1.1 1)
  (sel (okEs p.ns8 p.gs8)
  (sel (gT (lsE p.ns8 p.gs8) s.is19)
  (sel (t2.2.2 != 0)
  (some (x5_3_1 p s))
  (sel (decide (t2.1 > t1.2.is20))
  (some (x5_3_2 p s))
  (sel (decide (t2.2.1 < t1.2.is20))
  (some (x5_3_3 p s))
  (some (.normal, h5_3_0 p ⟨(W (s.is19 + 1))⟩)))))
  none)
  none)
  none)
 (some (x5_3_4 p s))) := by subst ht1; subst ht2; kernel_rfl
noncomputable def su5_3_0 (p : Pg5_3) (s : Sg5_3) : Stp Sg5_3 := let t1 := (lp (st5_4 (⟨p.ns1, p.gs1, p.ns8, p.gs8, p.is13, s.is19, p.ns8, p.gs8, (↑p.ns8 : Int)⟩ : Pg5_4)) (⟨0, 0⟩ : Sg5_4)); let t2 := (pT (lsE p.ns8 p.gs8) s.is19); (sel (decide (s.is19 < 3))
 (sel (Nat.beq t1.1 1)
  (sel (okEs p.ns8 p.gs8)
  (sel (gT (lsE p.ns8 p.gs8) s.is19)
  (sel (t2.2.2 != 0)
  (.exit 1)
  (sel (decide (t2.1 > t1.2.is20))
  (.exit 2)
  (sel (decide (t2.2.1 < t1.2.is20))
  (.exit 3)
  (.next ⟨(W (s.is19 + 1))⟩))))
  .fail)
  .fail)
  .fail)
 (.exit 4))
theorem q5_3_0 (p : Pg5_3) (s : Sg5_3) (c1 c2 c3 c4 c5 c6 c7 : Bool)  : (fo5_3 p s) (sel c1
 (sel c2
  (sel c3
  (sel c4
  (sel c5
  (.exit 1)
  (sel c6
  (.exit 2)
  (sel c7
  (.exit 3)
  (.next ⟨(W (s.is19 + 1))⟩))))
  .fail)
  .fail)
  .fail)
 (.exit 4)) = (sel c1
 (sel c2
  (sel c3
  (sel c4
  (sel c5
  (some (x5_3_1 p s))
  (sel c6
  (some (x5_3_2 p s))
  (sel c7
  (some (x5_3_3 p s))
  (some (.normal, h5_3_0 p ⟨(W (s.is19 + 1))⟩)))))
  none)
  none)
  none)
 (some (x5_3_4 p s))) := (stpSel (f := (fo5_3 p s)) (stpSel (f := (fo5_3 p s)) (stpSel (f := (fo5_3 p s)) (stpSel (f := (fo5_3 p s)) (stpSel (f := (fo5_3 p s)) rfl (stpSel (f := (fo5_3 p s)) rfl (stpSel (f := (fo5_3 p s)) rfl rfl))) rfl) rfl) rfl) rfl)
theorem sp5_3_0 (p : Pg5_3) (s : Sg5_3) : (roundE (En tb5) 0 [1, 5, 8, 13, 19] l5_3 (h5_3_0 p s)).run = fo5_3 p s (su5_3_0 p s) := (rd5_3_0 p s _ rfl _ rfl).trans (q5_3_0 p s _ _ _ _ _ _ _).symm
noncomputable def st5_3 (p : Pg5_3) (s : Sg5_3) : Stp Sg5_3 := (su5_3_0 p s)
theorem sp5_3 (p : Pg5_3) (s : Sg5_3) : (roundE (En tb5) 0 [1, 5, 8, 13, 19] l5_3 (en5_3 p s)).run = fo5_3 p s (st5_3 p s) := by
  show (roundE (En tb5) 0 [1, 5, 8, 13, 19] l5_3 (h5_3_0 p s)).run = fo5_3 p s (su5_3_0 p s)
  exact sp5_3_0 p s
noncomputable def al5_3_0 : Alt Pg5_3 Sg5_3 := ⟨[(.s .unk), (.s (.tree 1)), (.s .unk), (.s .unk), (.s .unk), (.s (.blit true)), (.s .unk), (.s .unk), (.s (.tree 4)), (.s .unk), (.s .unk), (.s .unk), (.s .unk), (.s (.int .i64)), (.s .unk), (.s .unk), (.s .unk), (.s .unk), (.s .unk), (.s (.int .i64)), (.s .unk), (.s .unk), (.s .unk), (.s .unk), (.s .unk), (.s .unk), (.s .unk), (.s .unk), (.s .unk), (.s .unk), (.s .unk), (.s .unk), (.s .unk), (.s .unk), (.s .unk), (.s .unk), (.s .unk), (.s .unk), (.s .unk), (.s .unk), (.s .unk), (.s .unk), (.s .unk), (.s .unk), (.s .unk), (.s .unk), (.s .unk), (.s .unk), (.s .unk), (.s .unk), (.s .unk), (.s .unk), (.s .unk), (.s .unk), (.s .unk), (.s .unk), (.s .unk), (.s .unk), (.s .unk), (.s .unk), (.s .unk), (.s .unk), (.s .unk), (.s .unk), (.s .unk), (.s .unk), (.s .unk), (.s .unk), (.s .unk), (.s .unk), (.s .unk), (.s .unk), (.s .unk), (.s .unk), (.s .unk), (.s .unk), (.s .unk), (.s .unk), (.s .unk), (.s .unk), (.s .unk), (.s .unk), (.s .unk), (.s .unk), (.s .unk), (.s .unk), (.s .unk), (.s .unk), (.s .unk), (.s .unk), (.s .unk), (.s .unk), (.s .unk), (.s .unk), (.s .unk), (.s .unk), (.s .unk), (.s .unk), (.s .unk), (.s .unk), (.s .unk), (.s .unk), (.s .unk), (.s .unk), (.s .unk), (.s .unk), (.s .unk), (.s .unk), (.s .unk), (.s .unk), (.s .unk), (.s .unk), (.s .unk), (.s .unk), (.s .unk), (.s .unk), (.s .unk), (.s .unk), (.s .unk), (.s .unk), (.s .unk), (.s .unk), (.s .unk), (.s .unk), (.s .unk), (.s .unk), (.s .unk), (.s .unk), (.s .unk), (.s .unk), (.s .unk), (.s .unk), (.s .unk), (.s .unk), (.s .unk), (.s .unk), (.s .unk), (.s .unk), (.s .unk), (.s .unk), (.s .unk), (.s .unk), (.s .unk), (.s .unk), (.s .unk), (.s .unk), (.s .unk), (.s .unk), (.s .unk), (.s .unk), (.s .unk), (.s .unk), (.s .unk), (.s .unk), (.s .unk), (.s .unk), (.s .unk), (.s .unk), (.s .unk), (.s .unk), (.s .unk), (.s .unk), (.s .unk), (.s .unk), (.s .unk), (.s .unk), (.s .unk), (.s .unk), (.s .unk), (.s .unk), (.s .unk), (.s .unk), (.s .unk), (.s .unk), (.s .unk), (.s .unk), (.s .unk), (.s .unk), (.s .unk), (.s .unk), (.s .unk), (.s .unk), (.s .unk), (.s .unk), (.s .unk), (.s .unk), (.s .unk), (.s .unk), (.s .unk), (.s .unk), (.s .unk), (.s .unk), (.s .unk)], [], fun a H => (⟨(toN (slotA a 1)), (toG (slotA a 1)), (toN (slotA a 8)), (toG (slotA a 8)), (toI (slotA a 13))⟩, ⟨(toI (slotA a 19))⟩)⟩
theorem la5_3_0 (a : List AVal) (H : List ABlk) : (⟨asSls al5_3_0.sh a, asBks al5_3_0.bl H⟩ : St) = en5_3 (al5_3_0.rd (asSls al5_3_0.sh a) (asBks al5_3_0.bl H)).1 (al5_3_0.rd (asSls al5_3_0.sh a) (asBks al5_3_0.bl H)).2 := by kernel_rfl
noncomputable def as5_3 : List (Alt Pg5_3 Sg5_3) := [al5_3_0]
theorem lo5_3 (s : St) : Below ((loopL 0 [1, 5, 8, 13, 19] as5_3 st5_3 xs5_3) s) (exec (En tb5) 0 (.loop [1, 5, 8, 13, 19] lc5_3) s) :=
  loopL_below (E := En tb5) (enc := en5_3) (body := l5_3) (alts := as5_3) (xs := xs5_3) (.seq (.pc _) (.seq (.block _ (.seq (.pc _) (.seq (.seq (.pc _) (.block _ (.sum lo5_4))) (.pc _)))) (.pc _))) rfl (.cons la5_3_0 .nil) (.cons nx5_3_1 (.cons nx5_3_2 (.cons nx5_3_3 (.cons nx5_3_4 .nil)))) (fun p s => sp5_3 p s) s
noncomputable def ps5 : PS := (.seq (.pc (.ops [(o 2 (.box (.t 0))), (o 4 (.mv (cb false)))])) (.seq (.pc (.ops [(o 26 (.call 9 [])), (o 5 (.mv (.t 26)))])) (.seq (.pc (.draw [27, 28, 29, 30, 31, 32, 33, 34, 35, 36, 6, 7] [] [(o 27 (.idxA 2 1 (.t 2) (ci 0))), (o 28 (.load [(.sl 1)] 1 false (.t 27))), (o 29 (.call 10 [(.t 28)])), (o 30 (.mv (.t 1))), (o 31 (.call 24 [(.t 29), (.t 30)])), (o 32 (.idxA 2 1 (.t 2) (ci 1))), (o 33 (.load [(.sl 1)] 1 false (.t 32))), (o 34 (.call 10 [(.t 33)])), (o 35 (.mv (.t 1))), (o 36 (.call 24 [(.t 34), (.t 35)])), (o 6 (.mv (.t 31))), (o 7 (.mv (.t 36)))] [((.mv (.t 1)), (.call 10 [(.t 28)])), ((.idxA 2 1 (.t 2) (ci 1)), (.call 10 [(.t 28)])), ((.idxA 2 1 (.t 2) (ci 1)), (.call 24 [(.t 29), (.t 30)])), ((.load [(.sl 1)] 1 false (.t 32)), (.call 10 [(.t 28)])), ((.load [(.sl 1)] 1 false (.t 32)), (.call 24 [(.t 29), (.t 30)])), ((.mv (.t 1)), (.call 10 [(.t 28)])), ((.mv (.t 1)), (.call 24 [(.t 29), (.t 30)])), ((.mv (.t 1)), (.call 10 [(.t 33)]))])) (.seq (.pc (.ops [(o 38 (.mv (.t 6))), (o 39 (.mv (.t 7))), (o 40 (.call 17 [(.t 38), (.t 39)])), (o 37 (.mv (.t 40))), (o 41 (.ext (.t 37) 0)), (o 42 (.ext (.t 37) 1)), (o 8 (.mv (.t 41))), (o 9 (.mv (.t 42)))])) (.seq (.pc (.seq (.ops [(o 43 (.mv (.t 9))), (o 44 (.bin .neq (.t 43) (ci 0))), (o 45 (.mv (.t 44))), ⟨(.some 46), (.some (45, false)), [], (.mv (.t 8))⟩, ⟨(.some 47), (.some (45, false)), [], (.call 12 [(.t 46)])⟩, ⟨(.some 48), (.some (45, false)), [], (.bin .neq (.t 47) (ci 0))⟩, (o 49 (.pick (.t 45) (cb true) (.t 48)))]) (.cond (.t 49) (.seq (.ops [(o 4 (.mv (cb false)))]) .ret) .skip))) (.seq (.seq (.pc (.ops [(o 50 (.mv (.t 8))), (o 51 (.len (.t 50))), (o 52 (.mv (ci 0)))])) (.block 0 (.sum (loopL 0 [1, 5, 6, 7, 8, 50, 51, 52] as5_0 st5_0 xs5_0)))) (.seq (.pc (.ops [(o 93 (.mv (.t 6))), (o 94 (.len (.t 93))), (o 13 (.mv (.t 94)))])) (.seq (.seq (.pc (.ops [(o 95 (.mv (.t 7))), (o 96 (.len (.t 95))), (o 97 (.mv (ci 0)))])) (.block 2 (.sum (loopL 0 [1, 5, 6, 7, 8, 13, 95, 96, 97] as5_1 st5_1 xs5_1)))) (.seq (.seq (.pc (.ops [(o 108 (.bslice 27 4 0 [] [])), (o 109 (.mv (.t 6))), (o 110 (.append 27 4 32 (.t 108) (.t 109))), (o 111 (.mv (.t 7))), (o 112 (.append 27 4 32 (.t 110) (.t 111))), (o 113 (.len (.t 112))), (o 114 (.mv (ci 0)))])) (.block 4 (.sum (loopL 0 [1, 5, 8, 13, 112, 113, 114] as5_2 st5_2 xs5_2)))) (.seq (.seq (.pc (.ops [(o 19 (.mv (ci 0)))])) (.block 6 (.sum (loopL 0 [1, 5, 8, 13, 19] as5_3 st5_3 xs5_3)))) (.pc (.seq (.ops [(o 186 (.mv (.t 5))), (o 187 (.mv (.t 186))), ⟨(.some 188), (.some (187, true)), [], (.mv (.t 8))⟩, ⟨(.some 189), (.some (187, true)), [], (.len (.t 188))⟩, ⟨(.some 190), (.some (187, true)), [], (.mv (.t 13))⟩, ⟨(.some 191), (.some (187, true)), [], (.bin .eql (.t 189) (.t 190))⟩, (o 192 (.pick (.t 187) (.t 191) (cb false))), (o 4 (.mv (.t 192)))]) .ret))))))))))))
theorem sd5 : Stands (En tb5) 0 ps5 pf5.body := (.seq (.pc _) (.seq (.pc _) (.seq (.pc _) (.seq (.pc _) (.seq (.pc _) (.seq (.seq (.pc _) (.block _ (.sum lo5_0))) (.seq (.pc _) (.seq (.seq (.pc _) (.block _ (.sum lo5_1))) (.seq (.seq (.pc _) (.block _ (.sum lo5_2))) (.seq (.seq (.pc _) (.block _ (.sum lo5_3))) (.pc _)))))))))))
noncomputable def p5 (x : J2) (y : IL) : Bool := let t1 := (p10 (⟨(List.length x.a), (fun k => rJ (gJ x.a k))⟩ : Ag10)); let t2 := (p24 (lsE (List.length t1) (fun k => rE (gE t1 k))) y); let t3 := (p10 (⟨(List.length x.b), (fun k => rJ (gJ x.b k))⟩ : Ag10)); let t4 := (p24 (lsE (List.length t3) (fun k => rE (gE t3 k))) y); let t5 := (pM (lsE (List.length t2) (fun k => rE (gE t2 k))) (lsE (List.length t4) (fun k => rE (gE t4 k)))); let t6 := (pC (lsE (List.length t5.1) (fun k => rE (gE t5.1 k)))); let t7 := (lp (st5_0 (⟨y.n, (fun k => [i (y.g k)]), (List.length t2), (fun k => rE (gE t2 k)), (List.length t4), (fun k => rE (gE t4 k)), (List.length t5.1), (fun k => rE (gE t5.1 k)), (List.length t5.1), (fun k => rE (gE t5.1 k)), (↑(List.length t5.1) : Int)⟩ : Pg5_0)) (⟨0⟩ : Sg5_0)); let t9 := (lp (st5_1 (⟨y.n, (fun k => [i (y.g k)]), (List.length t2), (fun k => rE (gE t2 k)), (List.length t4), (fun k => rE (gE t4 k)), (List.length t5.1), (fun k => rE (gE t5.1 k)), (List.length t4), (fun k => rE (gE t4 k)), (↑(List.length t4) : Int)⟩ : Pg5_1)) (⟨(↑(List.length t2) : Int), 0⟩ : Sg5_1)); let t10 := (lp (st5_2 (⟨y.n, (fun k => [i (y.g k)]), (List.length t5.1), (fun k => rE (gE t5.1 k)), t9.2.is13, 0, 0, []⟩ : Pg5_2)) (⟨0⟩ : Sg5_2)); let t12 := (lp (st5_3 (⟨y.n, (fun k => [i (y.g k)]), (List.length t5.1), (fun k => rE (gE t5.1 k)), t9.2.is13⟩ : Pg5_3)) (⟨0⟩ : Sg5_3)); let t15 := (lp (st5_2 (⟨y.n, (fun k => [i (y.g k)]), (List.length t5.1), (fun k => rE (gE t5.1 k)), t9.2.is13, (0 + (len (mapL (fun k => rE (gE t4 k)) (List.range (List.length t4))))), (↑(0 + (len (mapL (fun k => rE (gE t4 k)) (List.range (List.length t4))))) : Int), (app [] (mapL (fun k => rE (gE t4 k)) (List.range (List.length t4))))⟩ : Pg5_2)) (⟨0⟩ : Sg5_2)); let t17 := (lp (st5_2 (⟨y.n, (fun k => [i (y.g k)]), (List.length t5.1), (fun k => rE (gE t5.1 k)), t9.2.is13, (0 + (len (mapL (fun k => rE (gE t2 k)) (List.range (List.length t2))))), (↑(0 + (len (mapL (fun k => rE (gE t2 k)) (List.range (List.length t2))))) : Int), (app [] (mapL (fun k => rE (gE t2 k)) (List.range (List.length t2))))⟩ : Pg5_2)) (⟨0⟩ : Sg5_2)); let t19 := (lp (st5_2 (⟨y.n, (fun k => [i (y.g k)]), (List.length t5.1), (fun k => rE (gE t5.1 k)), t9.2.is13, ((0 + (len (mapL (fun k => rE (gE t2 k)) (List.range (List.length t2))))) + (len (mapL (fun k => rE (gE t4 k)) (List.range (List.length t4))))), (↑((0 + (len (mapL (fun k => rE (gE t2 k)) (List.range (List.length t2))))) + (len (mapL (fun k => rE (gE t4 k)) (List.range (List.length t4))))) : Int), (app (app [] (mapL (fun k => rE (gE t2 k)) (List.range (List.length t2)))) (mapL (fun k => rE (gE t4 k)) (List.range (List.length t4))))⟩ : Pg5_2)) (⟨0⟩ : Sg5_2)); ((!(t5.2 != 0)) && ((!(t6 != 0)) && ((!(Nat.beq t7.1 1)) && ((!(Nat.beq t7.1 2)) && ((!(Nat.beq t7.1 3)) && ((!(Nat.beq t7.1 4)) && ((!(Nat.beq t7.1 5)) && ((!(Nat.beq t7.1 6)) && (sel (Nat.beq (len (mapL (fun k => rE (gE t2 k)) (List.range (List.length t2)))) 0) (sel (Nat.beq (len (mapL (fun k => rE (gE t4 k)) (List.range (List.length t4)))) 0) ((!(Nat.beq t10.1 1)) && ((!(Nat.beq t10.1 2)) && ((!(Nat.beq t10.1 3)) && ((!(Nat.beq t12.1 1)) && ((!(Nat.beq t12.1 2)) && ((!(Nat.beq t12.1 3)) && ((↑(List.length t5.1) : Int) == t9.2.is13))))))) ((!(Nat.beq t15.1 1)) && ((!(Nat.beq t15.1 2)) && ((!(Nat.beq t15.1 3)) && ((!(Nat.beq t12.1 1)) && ((!(Nat.beq t12.1 2)) && ((!(Nat.beq t12.1 3)) && ((↑(List.length t5.1) : Int) == t9.2.is13)))))))) (sel (Nat.beq (len (mapL (fun k => rE (gE t4 k)) (List.range (List.length t4)))) 0) ((!(Nat.beq t17.1 1)) && ((!(Nat.beq t17.1 2)) && ((!(Nat.beq t17.1 3)) && ((!(Nat.beq t12.1 1)) && ((!(Nat.beq t12.1 2)) && ((!(Nat.beq t12.1 3)) && ((↑(List.length t5.1) : Int) == t9.2.is13))))))) ((!(Nat.beq t19.1 1)) && ((!(Nat.beq t19.1 2)) && ((!(Nat.beq t19.1 3)) && ((!(Nat.beq t12.1 1)) && ((!(Nat.beq t12.1 2)) && ((!(Nat.beq t12.1 3)) && ((↑(List.length t5.1) : Int) == t9.2.is13)))))))))))))))))
noncomputable def g5 (x : J2) (y : IL) : Bool := let t1 := (p10 (⟨(List.length x.a), (fun k => rJ (gJ x.a k))⟩ : Ag10)); let t2 := (p24 (lsE (List.length t1) (fun k => rE (gE t1 k))) y); let t3 := (p10 (⟨(List.length x.b), (fun k => rJ (gJ x.b k))⟩ : Ag10)); let t4 := (p24 (lsE (List.length t3) (fun k => rE (gE t3 k))) y); let t5 := (pM (lsE (List.length t2) (fun k => rE (gE t2 k))) (lsE (List.length t4) (fun k => rE (gE t4 k)))); let t6 := (pC (lsE (List.length t5.1) (fun k => rE (gE t5.1 k)))); let t7 := (lp (st5_0 (⟨y.n, (fun k => [i (y.g k)]), (List.length t2), (fun k => rE (gE t2 k)), (List.length t4), (fun k => rE (gE t4 k)), (List.length t5.1), (fun k => rE (gE t5.1 k)), (List.length t5.1), (fun k => rE (gE t5.1 k)), (↑(List.length t5.1) : Int)⟩ : Pg5_0)) (⟨0⟩ : Sg5_0)); let t9 := (lp (st5_1 (⟨y.n, (fun k => [i (y.g k)]), (List.length t2), (fun k => rE (gE t2 k)), (List.length t4), (fun k => rE (gE t4 k)), (List.length t5.1), (fun k => rE (gE t5.1 k)), (List.length t4), (fun k => rE (gE t4 k)), (↑(List.length t4) : Int)⟩ : Pg5_1)) (⟨(↑(List.length t2) : Int), 0⟩ : Sg5_1)); let t10 := (lp (st5_2 (⟨y.n, (fun k => [i (y.g k)]), (List.length t5.1), (fun k => rE (gE t5.1 k)), t9.2.is13, 0, 0, []⟩ : Pg5_2)) (⟨0⟩ : Sg5_2)); let t12 := (lp (st5_3 (⟨y.n, (fun k => [i (y.g k)]), (List.length t5.1), (fun k => rE (gE t5.1 k)), t9.2.is13⟩ : Pg5_3)) (⟨0⟩ : Sg5_3)); let t15 := (lp (st5_2 (⟨y.n, (fun k => [i (y.g k)]), (List.length t5.1), (fun k => rE (gE t5.1 k)), t9.2.is13, (0 + (len (mapL (fun k => rE (gE t4 k)) (List.range (List.length t4))))), (↑(0 + (len (mapL (fun k => rE (gE t4 k)) (List.range (List.length t4))))) : Int), (app [] (mapL (fun k => rE (gE t4 k)) (List.range (List.length t4))))⟩ : Pg5_2)) (⟨0⟩ : Sg5_2)); let t17 := (lp (st5_2 (⟨y.n, (fun k => [i (y.g k)]), (List.length t5.1), (fun k => rE (gE t5.1 k)), t9.2.is13, (0 + (len (mapL (fun k => rE (gE t2 k)) (List.range (List.length t2))))), (↑(0 + (len (mapL (fun k => rE (gE t2 k)) (List.range (List.length t2))))) : Int), (app [] (mapL (fun k => rE (gE t2 k)) (List.range (List.length t2))))⟩ : Pg5_2)) (⟨0⟩ : Sg5_2)); let t19 := (lp (st5_2 (⟨y.n, (fun k => [i (y.g k)]), (List.length t5.1), (fun k => rE (gE t5.1 k)), t9.2.is13, ((0 + (len (mapL (fun k => rE (gE t2 k)) (List.range (List.length t2))))) + (len (mapL (fun k => rE (gE t4 k)) (List.range (List.length t4))))), (↑((0 + (len (mapL (fun k => rE (gE t2 k)) (List.range (List.length t2))))) + (len (mapL (fun k => rE (gE t4 k)) (List.range (List.length t4))))) : Int), (app (app [] (mapL (fun k => rE (gE t2 k)) (List.range (List.length t2)))) (mapL (fun k => rE (gE t4 k)) (List.range (List.length t4))))⟩ : Pg5_2)) (⟨0⟩ : Sg5_2)); ((g10 (⟨(List.length x.a), (fun k => rJ (gJ x.a k))⟩ : Ag10)) && ((okEs (List.length t1) (fun k => rE (gE t1 k))) && ((okInts y.n (fun k => [i (y.g k)])) && ((g24 (lsE (List.length t1) (fun k => rE (gE t1 k))) y) && ((g10 (⟨(List.length x.b), (fun k => rJ (gJ x.b k))⟩ : Ag10)) && ((okEs (List.length t3) (fun k => rE (gE t3 k))) && ((g24 (lsE (List.length t3) (fun k => rE (gE t3 k))) y) && ((okEs (List.length t2) (fun k => rE (gE t2 k))) && ((okEs (List.length t4) (fun k => rE (gE t4 k))) && ((gM (lsE (List.length t2) (fun k => rE (gE t2 k))) (lsE (List.length t4) (fun k => rE (gE t4 k)))) && ((t5.2 != 0) || ((okEs (List.length t5.1) (fun k => rE (gE t5.1 k))) && ((gC (lsE (List.length t5.1) (fun k => rE (gE t5.1 k)))) && ((t6 != 0) || ((Nat.beq t7.1 1) || ((Nat.beq t7.1 2) || ((Nat.beq t7.1 3) || ((Nat.beq t7.1 4) || ((Nat.beq t7.1 5) || ((Nat.beq t7.1 6) || ((Nat.beq t7.1 7) && ((Nat.beq t9.1 1) && (sel (Nat.beq (len (mapL (fun k => rE (gE t2 k)) (List.range (List.length t2)))) 0) (sel (Nat.beq (len (mapL (fun k => rE (gE t4 k)) (List.range (List.length t4)))) 0) ((Nat.beq t10.1 1) || ((Nat.beq t10.1 2) || ((Nat.beq t10.1 3) || ((Nat.beq t10.1 4) && ((Nat.beq t12.1 1) || ((Nat.beq t12.1 2) || ((Nat.beq t12.1 3) || (Nat.beq t12.1 4)))))))) ((Nat.beq 0 0 && Nat.ble ((0 + (len (mapL (fun k => rE (gE t4 k)) (List.range (List.length t4))))) * 32) room) && ((Nat.beq t15.1 1) || ((Nat.beq t15.1 2) || ((Nat.beq t15.1 3) || ((Nat.beq t15.1 4) && ((Nat.beq t12.1 1) || ((Nat.beq t12.1 2) || ((Nat.beq t12.1 3) || (Nat.beq t12.1 4)))))))))) ((Nat.beq 0 0 && Nat.ble ((0 + (len (mapL (fun k => rE (gE t2 k)) (List.range (List.length t2))))) * 32) room) && (sel (Nat.beq (len (mapL (fun k => rE (gE t4 k)) (List.range (List.length t4)))) 0) ((Nat.beq t17.1 1) || ((Nat.beq t17.1 2) || ((Nat.beq t17.1 3) || ((Nat.beq t17.1 4) && ((Nat.beq t12.1 1) || ((Nat.beq t12.1 2) || ((Nat.beq t12.1 3) || (Nat.beq t12.1 4)))))))) ((Nat.beq (0 + (len (mapL (fun k => rE (gE t2 k)) (List.range (List.length t2))))) (len (app [] (mapL (fun k => rE (gE t2 k)) (List.range (List.length t2))))) && Nat.ble (((0 + (len (mapL (fun k => rE (gE t2 k)) (List.range (List.length t2))))) + (len (mapL (fun k => rE (gE t4 k)) (List.range (List.length t4))))) * 32) room) && ((Nat.beq t19.1 1) || ((Nat.beq t19.1 2) || ((Nat.beq t19.1 3) || ((Nat.beq t19.1 4) && ((Nat.beq t12.1 1) || ((Nat.beq t12.1 2) || ((Nat.beq t12.1 3) || (Nat.beq t12.1 4))))))))))))))))))))))))))))))))))
noncomputable def S5 : Sum := sum2 cJJ cL (fun x y => DT.guard (g5 x y) (.ret (b (p5 x y), [])))
theorem r5 (x : J2) (y : IL) (t1 : List Ent) (ht1 : t1 = (p10 (⟨(List.length x.a), (fun k => rJ (gJ x.a k))⟩ : Ag10))) (t2 : List Ent) (ht2 : t2 = (p24 (lsE (List.length t1) (fun k => rE (gE t1 k))) y)) (t3 : List Ent) (ht3 : t3 = (p10 (⟨(List.length x.b), (fun k => rJ (gJ x.b k))⟩ : Ag10))) (t4 : List Ent) (ht4 : t4 = (p24 (lsE (List.length t3) (fun k => rE (gE t3 k))) y)) (t5 : List Ent × Int) (ht5 : t5 = (pM (lsE (List.length t2) (fun k => rE (gE t2 k))) (lsE (List.length t4) (fun k => rE (gE t4 k))))) (t6 : Int) (ht6 : t6 = (pC (lsE (List.length t5.1) (fun k => rE (gE t5.1 k))))) (t7 : Nat × Sg5_0) (ht7 : t7 = (lp (st5_0 (⟨y.n, (fun k => [i (y.g k)]), (List.length t2), (fun k => rE (gE t2 k)), (List.length t4), (fun k => rE (gE t4 k)), (List.length t5.1), (fun k => rE (gE t5.1 k)), (List.length t5.1), (fun k => rE (gE t5.1 k)), (↑(List.length t5.1) : Int)⟩ : Pg5_0)) (⟨0⟩ : Sg5_0))) (t9 : Nat × Sg5_1) (ht9 : t9 = (lp (st5_1 (⟨y.n, (fun k => [i (y.g k)]), (List.length t2), (fun k => rE (gE t2 k)), (List.length t4), (fun k => rE (gE t4 k)), (List.length t5.1), (fun k => rE (gE t5.1 k)), (List.length t4), (fun k => rE (gE t4 k)), (↑(List.length t4) : Int)⟩ : Pg5_1)) (⟨(↑(List.length t2) : Int), 0⟩ : Sg5_1))) (t10 : Nat × Sg5_2) (ht10 : t10 = (lp (st5_2 (⟨y.n, (fun k => [i (y.g k)]), (List.length t5.1), (fun k => rE (gE t5.1 k)), t9.2.is13, 0, 0, []⟩ : Pg5_2)) (⟨0⟩ : Sg5_2))) (t12 : Nat × Sg5_3) (ht12 : t12 = (lp (st5_3 (⟨y.n, (fun k => [i (y.g k)]), (List.length t5.1), (fun k => rE (gE t5.1 k)), t9.2.is13⟩ : Pg5_3)) (⟨0⟩ : Sg5_3))) (t15 : Nat × Sg5_2) (ht15 : t15 = (lp (st5_2 (⟨y.n, (fun k => [i (y.g k)]), (List.length t5.1), (fun k => rE (gE t5.1 k)), t9.2.is13, (0 + (len (mapL (fun k => rE (gE t4 k)) (List.range (List.length t4))))), (↑(0 + (len (mapL (fun k => rE (gE t4 k)) (List.range (List.length t4))))) : Int), (app [] (mapL (fun k => rE (gE t4 k)) (List.range (List.length t4))))⟩ : Pg5_2)) (⟨0⟩ : Sg5_2))) (t17 : Nat × Sg5_2) (ht17 : t17 = (lp (st5_2 (⟨y.n, (fun k => [i (y.g k)]), (List.length t5.1), (fun k => rE (gE t5.1 k)), t9.2.is13, (0 + (len (mapL (fun k => rE (gE t2 k)) (List.range (List.length t2))))), (↑(0 + (len (mapL (fun k => rE (gE t2 k)) (List.range (List.length t2))))) : Int), (app [] (mapL (fun k => rE (gE t2 k)) (List.range (List.length t2))))⟩ : Pg5_2)) (⟨0⟩ : Sg5_2))) (t19 : Nat × Sg5_2) (ht19 : t19 = (lp (st5_2 (⟨y.n, (fun k => [i (y.g k)]), (List.length t5.1), (fun k => rE (gE t5.1 k)), t9.2.is13, ((0 + (len (mapL (fun k => rE (gE t2 k)) (List.range (List.length t2))))) + (len (mapL (fun k => rE (gE t4 k)) (List.range (List.length t4))))), (↑((0 + (len (mapL (fun k => rE (gE t2 k)) (List.range (List.length t2))))) + (len (mapL (fun k => rE (gE t4 k)) (List.range (List.length t4))))) : Int), (app (app [] (mapL (fun k => rE (gE t2 k)) (List.range (List.length t2)))) (mapL (fun k => rE (gE t4 k)) (List.range (List.length t4))))⟩ : Pg5_2)) (⟨0⟩ : Sg5_2))) : (runS (En tb5) pf5 ps5 [cJJ.enc x, cL.enc y] []).run = (sel (g10 (⟨(List.length x.a), (fun k => rJ (gJ x.a k))⟩ : Ag10))
 (sel (okEs (List.length t1) (fun k => rE (gE t1 k)))
  (sel (okInts y.n (fun k => [i (y.g k)]))
   (sel (g24 (lsE (List.length t1) (fun k => rE (gE t1 k))) y)
    (sel (g10 (⟨(List.length x.b), (fun k => rJ (gJ x.b k))⟩ : Ag10))
     (sel (okEs (List.length t3) (fun k => rE (gE t3 k)))
      (sel (okInts y.n (fun k => [i (y.g k)]))
       (sel (g24 (lsE (List.length t3) (fun k => rE (gE t3 k))) y)
        (sel (okEs (List.length t2) (fun k => rE (gE t2 k)))
         (sel (okEs (List.length t4) (fun k => rE (gE t4 k)))
          (sel (gM (lsE (List.length t2) (fun k => rE (gE t2 k))) (lsE (List.length t4) (fun k => rE (gE t4 k))))
           (sel (t5.2 != 0)
            (some ((b false), []))
            (sel (okEs (List.length t5.1) (fun k => rE (gE t5.1 k)))
             (sel (gC (lsE (List.length t5.1) (fun k => rE (gE t5.1 k))))
              (sel (t6 != 0)
               (some ((b false), []))
               (sel (Nat.beq t7.1 1)
                (some ((b false), []))
                (sel (Nat.beq t7.1 2)
                 (some ((b false), []))
                 (sel (Nat.beq t7.1 3)
                  (some ((b false), []))
                  (sel (Nat.beq t7.1 4)
                   (some ((b false), []))
                   (sel (Nat.beq t7.1 5)
                    (some ((b false), []))
                    (sel (Nat.beq t7.1 6)
                     (some ((b false), []))
                     (sel (Nat.beq t7.1 7)
                      (sel (Nat.beq t9.1 1)
                       (sel (Nat.beq (len (mapL (fun k => rE (gE t2 k)) (List.range (List.length t2)))) 0)
                        (sel (Nat.beq (len (mapL (fun k => rE (gE t4 k)) (List.range (List.length t4)))) 0)
                         (sel (Nat.beq t10.1 1)
                          (some ((b false), []))
                          (sel (Nat.beq t10.1 2)
                           (some ((b false), []))
                           (sel (Nat.beq t10.1 3)
                            (some ((b false), []))
                            (sel (Nat.beq t10.1 4)
                             (sel (Nat.beq t12.1 1)
                              (some ((b false), []))
                              (sel (Nat.beq t12.1 2)
                               (some ((b false), []))
                               (sel (Nat.beq t12.1 3)
                                (some ((b false), []))
                                (sel (Nat.beq t12.1 4)
                                 (some ((b ((↑(List.length t5.1) : Int) == t9.2.is13)), []))
                                 none))))
                             none))))
                         (sel (Nat.beq 0 0 && Nat.ble ((0 + (len (mapL (fun k => rE (gE t4 k)) (List.range (List.length t4))))) * 32) room)
                          (sel (Nat.beq t15.1 1)
                           (some ((b false), []))
                           (sel (Nat.beq t15.1 2)
                            (some ((b false), []))
                            (sel (Nat.beq t15.1 3)
                             (some ((b false), []))
                             (sel (Nat.beq t15.1 4)
                              (sel (Nat.beq t12.1 1)
                               (some ((b false), []))
                               (sel (Nat.beq t12.1 2)
                                (some ((b false), []))
                                (sel (Nat.beq t12.1 3)
                                 (some ((b false), []))
                                 (sel (Nat.beq t12.1 4)
                                  (some ((b ((↑(List.length t5.1) : Int) == t9.2.is13)), []))
                                  none))))
                              none))))
                          none))
                        (sel (Nat.beq 0 0 && Nat.ble ((0 + (len (mapL (fun k => rE (gE t2 k)) (List.range (List.length t2))))) * 32) room)
                         (sel (Nat.beq (len (mapL (fun k => rE (gE t4 k)) (List.range (List.length t4)))) 0)
                          (sel (Nat.beq t17.1 1)
                           (some ((b false), []))
                           (sel (Nat.beq t17.1 2)
                            (some ((b false), []))
                            (sel (Nat.beq t17.1 3)
                             (some ((b false), []))
                             (sel (Nat.beq t17.1 4)
                              (sel (Nat.beq t12.1 1)
                               (some ((b false), []))
                               (sel (Nat.beq t12.1 2)
                                (some ((b false), []))
                                (sel (Nat.beq t12.1 3)
                                 (some ((b false), []))
                                 (sel (Nat.beq t12.1 4)
                                  (some ((b ((↑(List.length t5.1) : Int) == t9.2.is13)), []))
                                  none))))
                              none))))
                          (sel (Nat.beq (0 + (len (mapL (fun k => rE (gE t2 k)) (List.range (List.length t2))))) (len (app [] (mapL (fun k => rE (gE t2 k)) (List.range (List.length t2))))) && Nat.ble (((0 + (len (mapL (fun k => rE (gE t2 k)) (List.range (List.length t2))))) + (len (mapL (fun k => rE (gE t4 k)) (List.range (List.length t4))))) * 32) room)
                           (sel (Nat.beq t19.1 1)
                            (some ((b false), []))
                            (sel (Nat.beq t19.1 2)
                             (some ((b false), []))
                             (sel (Nat.beq t19.1 3)
                              (some ((b false), []))
                              (sel (Nat.beq t19.1 4)
                               (sel (Nat.beq t12.1 1)
                                (some ((b false), []))
                                (sel (Nat.beq t12.1 2)
                                 (some ((b false), []))
                                 (sel (Nat.beq t12.1 3)
                                  (some ((b false), []))
                                  (sel (Nat.beq t12.1 4)
                                   (some ((b ((↑(List.length t5.1) : Int) == t9.2.is13)), []))
                                   none))))
                               none))))
                           none))
                         none))
                       none)
                      none))))))))
              none)
             none))
           none)
          none)
         none)
        none)
       none)
      none)
     none)
    none)
   none)
  none)
 none) := by subst ht1; subst ht2; subst ht3; subst ht4; subst ht5; subst ht6; subst ht7; subst ht9; subst ht10; subst ht12; subst ht15; subst ht17; subst ht19; kernel_rfl
theorem m5 (c1 c2 c3 c4 c5 c6 c7 c8 c9 c10 c11 c12 c13 c14 c15 c16 c17 c18 c19 c20 c21 c22 c23 c24 c25 c26 c27 c28 c29 c30 c31 c32 c33 c34 c35 c36 c37 c38 c39 c40 c41 c42 c43 c44 c45 c46 c47 : Bool) (x : J2) (y : IL) (t5 : List Ent × Int) (t9 : Nat × Sg5_1) : ((sel c1
 (sel c2
  (sel c3
   (sel c4
    (sel c5
     (sel c6
      (sel c3
       (sel c7
        (sel c8
         (sel c9
          (sel c10
           (sel c11
            (some ((b false), []))
            (sel c12
             (sel c13
              (sel c14
               (some ((b false), []))
               (sel c15
                (some ((b false), []))
                (sel c16
                 (some ((b false), []))
                 (sel c17
                  (some ((b false), []))
                  (sel c18
                   (some ((b false), []))
                   (sel c19
                    (some ((b false), []))
                    (sel c20
                     (some ((b false), []))
                     (sel c21
                      (sel c22
                       (sel c23
                        (sel c24
                         (sel c25
                          (some ((b false), []))
                          (sel c26
                           (some ((b false), []))
                           (sel c27
                            (some ((b false), []))
                            (sel c28
                             (sel c29
                              (some ((b false), []))
                              (sel c30
                               (some ((b false), []))
                               (sel c31
                                (some ((b false), []))
                                (sel c32
                                 (some ((b ((↑(List.length t5.1) : Int) == t9.2.is13)), []))
                                 none))))
                             none))))
                         (sel c33
                          (sel c34
                           (some ((b false), []))
                           (sel c35
                            (some ((b false), []))
                            (sel c36
                             (some ((b false), []))
                             (sel c37
                              (sel c29
                               (some ((b false), []))
                               (sel c30
                                (some ((b false), []))
                                (sel c31
                                 (some ((b false), []))
                                 (sel c32
                                  (some ((b ((↑(List.length t5.1) : Int) == t9.2.is13)), []))
                                  none))))
                              none))))
                          none))
                        (sel c38
                         (sel c24
                          (sel c39
                           (some ((b false), []))
                           (sel c40
                            (some ((b false), []))
                            (sel c41
                             (some ((b false), []))
                             (sel c42
                              (sel c29
                               (some ((b false), []))
                               (sel c30
                                (some ((b false), []))
                                (sel c31
                                 (some ((b false), []))
                                 (sel c32
                                  (some ((b ((↑(List.length t5.1) : Int) == t9.2.is13)), []))
                                  none))))
                              none))))
                          (sel c43
                           (sel c44
                            (some ((b false), []))
                            (sel c45
                             (some ((b false), []))
                             (sel c46
                              (some ((b false), []))
                              (sel c47
                               (sel c29
                                (some ((b false), []))
                                (sel c30
                                 (some ((b false), []))
                                 (sel c31
                                  (some ((b false), []))
                                  (sel c32
                                   (some ((b ((↑(List.length t5.1) : Int) == t9.2.is13)), []))
                                   none))))
                               none))))
                           none))
                         none))
                       none)
                      none))))))))
              none)
             none))
           none)
          none)
         none)
        none)
       none)
      none)
     none)
    none)
   none)
  none)
 none) : Option (AVal × List ABlk)) = (sel (c1 && (c2 && (c3 && (c4 && (c5 && (c6 && (c7 && (c8 && (c9 && (c10 && (c11 || (c12 && (c13 && (c14 || (c15 || (c16 || (c17 || (c18 || (c19 || (c20 || (c21 && (c22 && (sel c23 (sel c24 (c25 || (c26 || (c27 || (c28 && (c29 || (c30 || (c31 || c32))))))) (c33 && (c34 || (c35 || (c36 || (c37 && (c29 || (c30 || (c31 || c32))))))))) (c38 && (sel c24 (c39 || (c40 || (c41 || (c42 && (c29 || (c30 || (c31 || c32))))))) (c43 && (c44 || (c45 || (c46 || (c47 && (c29 || (c30 || (c31 || c32))))))))))))))))))))))))))))))))) (some ((b ((!c11) && ((!c14) && ((!c15) && ((!c16) && ((!c17) && ((!c18) && ((!c19) && ((!c20) && (sel c23 (sel c24 ((!c25) && ((!c26) && ((!c27) && ((!c29) && ((!c30) && ((!c31) && ((↑(List.length t5.1) : Int) == t9.2.is13))))))) ((!c34) && ((!c35) && ((!c36) && ((!c29) && ((!c30) && ((!c31) && ((↑(List.length t5.1) : Int) == t9.2.is13)))))))) (sel c24 ((!c39) && ((!c40) && ((!c41) && ((!c29) && ((!c30) && ((!c31) && ((↑(List.length t5.1) : Int) == t9.2.is13))))))) ((!c44) && ((!c45) && ((!c46) && ((!c29) && ((!c30) && ((!c31) && ((↑(List.length t5.1) : Int) == t9.2.is13)))))))))))))))))), [])) none) := by
 cases c1
 ·
  rfl
 ·
  cases c2
  ·
   rfl
  ·
   cases c3
   ·
    rfl
   ·
    cases c4
    ·
     rfl
    ·
     cases c5
     ·
      rfl
     ·
      cases c6
      ·
       rfl
      ·
       cases c7
       ·
        rfl
       ·
        cases c8
        ·
         rfl
        ·
         cases c9
         ·
          rfl
         ·
          cases c10
          ·
           rfl
          ·
           cases c11
           ·
            cases c12
            ·
             rfl
            ·
             cases c13
             ·
              rfl
             ·
              cases c14
              ·
               cases c15
               ·
                cases c16
                ·
                 cases c17
                 ·
                  cases c18
                  ·
                   cases c19
                   ·
                    cases c20
                    ·
                     cases c21
                     ·
                      rfl
                     ·
                      cases c22
                      ·
                       rfl
                      ·
                       cases c23
                       ·
                        cases c38
                        ·
                         rfl
                        ·
                         cases c24
                         ·
                          cases c43
                          ·
                           rfl
                          ·
                           cases c44
                           ·
                            cases c45
                            ·
                             cases c46
                             ·
                              cases c47
                              ·
                               rfl
                              ·
                               cases c29
                               ·
                                cases c30
                                ·
                                 cases c31
                                 ·
                                  cases c32
                                  ·
                                   rfl
                                  ·
                                   rfl
                                 ·
                                  rfl
                                ·
                                 rfl
                               ·
                                rfl
                             ·
                              rfl
                            ·
                             rfl
                           ·
                            rfl
                         ·
                          cases c39
                          ·
                           cases c40
                           ·
                            cases c41
                            ·
                             cases c42
                             ·
                              rfl
                             ·
                              cases c29
                              ·
                               cases c30
                               ·
                                cases c31
                                ·
                                 cases c32
                                 ·
                                  rfl
                                 ·
                                  rfl
                                ·
                                 rfl
                               ·
                                rfl
                              ·
                               rfl
                            ·
                             rfl
                           ·
                            rfl
                          ·
                           rfl
                       ·
                        cases c24
                        ·
                         cases c33
                         ·
                          rfl
                         ·
                          cases c34
                          ·
                           cases c35
                           ·
                            cases c36
                            ·
                             cases c37
                             ·
                              rfl
                             ·
                              cases c29
                              ·
                               cases c30
                               ·
                                cases c31
                                ·
                                 cases c32
                                 ·
                                  rfl
                                 ·
                                  rfl
                                ·
                                 rfl
                               ·
                                rfl
                              ·
                               rfl
                            ·
                             rfl
                           ·
                            rfl
                          ·
                           rfl
                        ·
                         cases c25
                         ·
                          cases c26
                          ·
                           cases c27
                           ·
                            cases c28
                            ·
                             rfl
                            ·
                             cases c29
                             ·
                              cases c30
                              ·
                               cases c31
                               ·
                                cases c32
                                ·
                                 rfl
                                ·
                                 rfl
                               ·
                                rfl
                              ·
                               rfl
                             ·
                              rfl
                           ·
                            rfl
                          ·
                           rfl
                         ·
                          rfl
                    ·
                     rfl
                   ·
                    rfl
                  ·
                   rfl
                 ·
                  rfl
                ·
                 rfl
               ·
                rfl
              ·
               rfl
           ·
            rfl
theorem k5 (x : J2) (y : IL) (t1 : List Ent) (ht1 : t1 = (p10 (⟨(List.length x.a), (fun k => rJ (gJ x.a k))⟩ : Ag10))) (t2 : List Ent) (ht2 : t2 = (p24 (lsE (List.length t1) (fun k => rE (gE t1 k))) y)) (t3 : List Ent) (ht3 : t3 = (p10 (⟨(List.length x.b), (fun k => rJ (gJ x.b k))⟩ : Ag10))) (t4 : List Ent) (ht4 : t4 = (p24 (lsE (List.length t3) (fun k => rE (gE t3 k))) y)) (t5 : List Ent × Int) (ht5 : t5 = (pM (lsE (List.length t2) (fun k => rE (gE t2 k))) (lsE (List.length t4) (fun k => rE (gE t4 k))))) (t6 : Int) (ht6 : t6 = (pC (lsE (List.length t5.1) (fun k => rE (gE t5.1 k))))) (t7 : Nat × Sg5_0) (ht7 : t7 = (lp (st5_0 (⟨y.n, (fun k => [i (y.g k)]), (List.length t2), (fun k => rE (gE t2 k)), (List.length t4), (fun k => rE (gE t4 k)), (List.length t5.1), (fun k => rE (gE t5.1 k)), (List.length t5.1), (fun k => rE (gE t5.1 k)), (↑(List.length t5.1) : Int)⟩ : Pg5_0)) (⟨0⟩ : Sg5_0))) (t9 : Nat × Sg5_1) (ht9 : t9 = (lp (st5_1 (⟨y.n, (fun k => [i (y.g k)]), (List.length t2), (fun k => rE (gE t2 k)), (List.length t4), (fun k => rE (gE t4 k)), (List.length t5.1), (fun k => rE (gE t5.1 k)), (List.length t4), (fun k => rE (gE t4 k)), (↑(List.length t4) : Int)⟩ : Pg5_1)) (⟨(↑(List.length t2) : Int), 0⟩ : Sg5_1))) (t10 : Nat × Sg5_2) (ht10 : t10 = (lp (st5_2 (⟨y.n, (fun k => [i (y.g k)]), (List.length t5.1), (fun k => rE (gE t5.1 k)), t9.2.is13, 0, 0, []⟩ : Pg5_2)) (⟨0⟩ : Sg5_2))) (t12 : Nat × Sg5_3) (ht12 : t12 = (lp (st5_3 (⟨y.n, (fun k => [i (y.g k)]), (List.length t5.1), (fun k => rE (gE t5.1 k)), t9.2.is13⟩ : Pg5_3)) (⟨0⟩ : Sg5_3))) (t15 : Nat × Sg5_2) (ht15 : t15 = (lp (st5_2 (⟨y.n, (fun k => [i (y.g k)]), (List.length t5.1), (fun k => rE (gE t5.1 k)), t9.2.is13, (0 + (len (mapL (fun k => rE (gE t4 k)) (List.range (List.length t4))))), (↑(0 + (len (mapL (fun k => rE (gE t4 k)) (List.range (List.length t4))))) : Int), (app [] (mapL (fun k => rE (gE t4 k)) (List.range (List.length t4))))⟩ : Pg5_2)) (⟨0⟩ : Sg5_2))) (t17 : Nat × Sg5_2) (ht17 : t17 = (lp (st5_2 (⟨y.n, (fun k => [i (y.g k)]), (List.length t5.1), (fun k => rE (gE t5.1 k)), t9.2.is13, (0 + (len (mapL (fun k => rE (gE t2 k)) (List.range (List.length t2))))), (↑(0 + (len (mapL (fun k => rE (gE t2 k)) (List.range (List.length t2))))) : Int), (app [] (mapL (fun k => rE (gE t2 k)) (List.range (List.length t2))))⟩ : Pg5_2)) (⟨0⟩ : Sg5_2))) (t19 : Nat × Sg5_2) (ht19 : t19 = (lp (st5_2 (⟨y.n, (fun k => [i (y.g k)]), (List.length t5.1), (fun k => rE (gE t5.1 k)), t9.2.is13, ((0 + (len (mapL (fun k => rE (gE t2 k)) (List.range (List.length t2))))) + (len (mapL (fun k => rE (gE t4 k)) (List.range (List.length t4))))), (↑((0 + (len (mapL (fun k => rE (gE t2 k)) (List.range (List.length t2))))) + (len (mapL (fun k => rE (gE t4 k)) (List.range (List.length t4))))) : Int), (app (app [] (mapL (fun k => rE (gE t2 k)) (List.range (List.length t2)))) (mapL (fun k => rE (gE t4 k)) (List.range (List.length t4))))⟩ : Pg5_2)) (⟨0⟩ : Sg5_2))) : (DT.guard (g5 x y) (.ret (b (p5 x y), [])) : DT (AVal × List ABlk)).run = (sel ((g10 (⟨(List.length x.a), (fun k => rJ (gJ x.a k))⟩ : Ag10)) && ((okEs (List.length t1) (fun k => rE (gE t1 k))) && ((okInts y.n (fun k => [i (y.g k)])) && ((g24 (lsE (List.length t1) (fun k => rE (gE t1 k))) y) && ((g10 (⟨(List.length x.b), (fun k => rJ (gJ x.b k))⟩ : Ag10)) && ((okEs (List.length t3) (fun k => rE (gE t3 k))) && ((g24 (lsE (List.length t3) (fun k => rE (gE t3 k))) y) && ((okEs (List.length t2) (fun k => rE (gE t2 k))) && ((okEs (List.length t4) (fun k => rE (gE t4 k))) && ((gM (lsE (List.length t2) (fun k => rE (gE t2 k))) (lsE (List.length t4) (fun k => rE (gE t4 k)))) && ((t5.2 != 0) || ((okEs (List.length t5.1) (fun k => rE (gE t5.1 k))) && ((gC (lsE (List.length t5.1) (fun k => rE (gE t5.1 k)))) && ((t6 != 0) || ((Nat.beq t7.1 1) || ((Nat.beq t7.1 2) || ((Nat.beq t7.1 3) || ((Nat.beq t7.1 4) || ((Nat.beq t7.1 5) || ((Nat.beq t7.1 6) || ((Nat.beq t7.1 7) && ((Nat.beq t9.1 1) && (sel (Nat.beq (len (mapL (fun k => rE (gE t2 k)) (List.range (List.length t2)))) 0) (sel (Nat.beq (len (mapL (fun k => rE (gE t4 k)) (List.range (List.length t4)))) 0) ((Nat.beq t10.1 1) || ((Nat.beq t10.1 2) || ((Nat.beq t10.1 3) || ((Nat.beq t10.1 4) && ((Nat.beq t12.1 1) || ((Nat.beq t12.1 2) || ((Nat.beq t12.1 3) || (Nat.beq t12.1 4)))))))) ((Nat.beq 0 0 && Nat.ble ((0 + (len (mapL (fun k => rE (gE t4 k)) (List.range (List.length t4))))) * 32) room) && ((Nat.beq t15.1 1) || ((Nat.beq t15.1 2) || ((Nat.beq t15.1 3) || ((Nat.beq t15.1 4) && ((Nat.beq t12.1 1) || ((Nat.beq t12.1 2) || ((Nat.beq t12.1 3) || (Nat.beq t12.1 4)))))))))) ((Nat.beq 0 0 && Nat.ble ((0 + (len (mapL (fun k => rE (gE t2 k)) (List.range (List.length t2))))) * 32) room) && (sel (Nat.beq (len (mapL (fun k => rE (gE t4 k)) (List.range (List.length t4)))) 0) ((Nat.beq t17.1 1) || ((Nat.beq t17.1 2) || ((Nat.beq t17.1 3) || ((Nat.beq t17.1 4) && ((Nat.beq t12.1 1) || ((Nat.beq t12.1 2) || ((Nat.beq t12.1 3) || (Nat.beq t12.1 4)))))))) ((Nat.beq (0 + (len (mapL (fun k => rE (gE t2 k)) (List.range (List.length t2))))) (len (app [] (mapL (fun k => rE (gE t2 k)) (List.range (List.length t2))))) && Nat.ble (((0 + (len (mapL (fun k => rE (gE t2 k)) (List.range (List.length t2))))) + (len (mapL (fun k => rE (gE t4 k)) (List.range (List.length t4))))) * 32) room) && ((Nat.beq t19.1 1) || ((Nat.beq t19.1 2) || ((Nat.beq t19.1 3) || ((Nat.beq t19.1 4) && ((Nat.beq t12.1 1) || ((Nat.beq t12.1 2) || ((Nat.beq t12.1 3) || (Nat.beq t12.1 4)))))))))))))))))))))))))))))))))) (some ((b ((!(t5.2 != 0)) && ((!(t6 != 0)) && ((!(Nat.beq t7.1 1)) && ((!(Nat.beq t7.1 2)) && ((!(Nat.beq t7.1 3)) && ((!(Nat.beq t7.1 4)) && ((!(Nat.beq t7.1 5)) && ((!(Nat.beq t7.1 6)) && (sel (Nat.beq (len (mapL (fun k => rE (gE t2 k)) (List.range (List.length t2)))) 0) (sel (Nat.beq (len (mapL (fun k => rE (gE t4 k)) (List.range (List.length t4)))) 0) ((!(Nat.beq t10.1 1)) && ((!(Nat.beq t10.1 2)) && ((!(Nat.beq t10.1 3)) && ((!(Nat.beq t12.1 1)) && ((!(Nat.beq t12.1 2)) && ((!(Nat.beq t12.1 3)) && ((↑(List.length t5.1) : Int) == t9.2.is13))))))) ((!(Nat.beq t15.1 1)) && ((!(Nat.beq t15.1 2)) && ((!(Nat.beq t15.1 3)) && ((!(Nat.beq t12.1 1)) && ((!(Nat.beq t12.1 2)) && ((!(Nat.beq t12.1 3)) && ((↑(List.length t5.1) : Int) == t9.2.is13)))))))) (sel (Nat.beq (len (mapL (fun k => rE (gE t4 k)) (List.range (List.length t4)))) 0) ((!(Nat.beq t17.1 1)) && ((!(Nat.beq t17.1 2)) && ((!(Nat.beq t17.1 3)) && ((!(Nat.beq t12.1 1)) && ((!(Nat.beq t12.1 2)) && ((!(Nat.beq t12.1 3)) && ((↑(List.length t5.1) : Int) == t9.2.is13))))))) ((!(Nat.beq t19.1 1)) && ((!(Nat.beq t19.1 2)) && ((!(Nat.beq t19.1 3)) && ((!(Nat.beq t12.1 1)) && ((!(Nat.beq t12.1 2)) && ((!(Nat.beq t12.1 3)) && ((↑(List.length t5.1) : Int) == t9.2.is13)))))))))))))))))), [])) none) := by subst ht1; subst ht2; subst ht3; subst ht4; subst ht5; subst ht6; subst ht7; subst ht9; subst ht10; subst ht12; subst ht15; subst ht17; subst ht19; rw [run_grd]; kernel_rfl
theorem ok5 : FnOk Try.prog G 5 S5 := sum2_ok (b5 (E := En tb5) rfl (tdeps tbo5)) fun x y r h => runS_below sd5 _ (((r5 x y _ rfl _ rfl _ rfl _ rfl _ rfl _ rfl _ rfl _ rfl _ rfl _ rfl _ rfl _ rfl _ rfl).trans (m5 _ _ _ _ _ _ _ _ _ _ _ _ _ _ _ _ _ _ _ _ _ _ _ _ _ _ _ _ _ _ _ _ _ _ _ _ _ _ _ _ _ _ _ _ _ _ _ x y _ _)).trans ((k5 x y _ rfl _ rfl _ rfl _ rfl _ rfl _ rfl _ rfl _ rfl _ rfl _ rfl _ rfl _ rfl _ rfl).symm.trans h))
end Go.Ev.W.X

