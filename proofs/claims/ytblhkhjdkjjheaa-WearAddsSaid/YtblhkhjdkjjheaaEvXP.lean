/- Printed: functions of the wear chapter, as plain ones (own work). -/
import Derived.Test.YtblhkhjdkjjheaaEvXC
set_option linter.unusedVariables false
set_option linter.unusedSimpArgs false
set_option linter.unnecessarySimpa false
set_option linter.unusedSectionVars false
namespace Go.Ev.W.X
open Go Go.Ev Go.Ev.Ab Go.Proofs
set_option maxRecDepth 100000
noncomputable def tb7 : List (Nat × Sum) := [(9, S9), (10, S10t), (14, SA14), (16, S16), (20, ST20)]
theorem tbo7 : TblOk Try.prog G tb7 := ⟨ok9, ok10t, okA14, ok16, okT20, trivial⟩
structure Pg7_0 where
  is1 : Int
  is2 : Int
  ns10 : Nat
  gs10 : Nat → List AVal
  is14 : Int
  is35 : Int
structure Sg7_0 where
  ph : Nat
  is12 : Int
  is13 : Int
  is36 : Int
  ns11 : Nat
  gs11 : Nat → List AVal
noncomputable def h7_0_0 (p : Pg7_0) (s : Sg7_0) : St := ⟨[.unk, (.v (.int .u8 p.is1)), (.v (.int .u8 p.is2)), .unk, .unk, .unk, .unk, .unk, .unk, (b true), (.tree 4 p.ns10 p.gs10), (.v (.slice none 0 0)), (i s.is12), (i s.is13), (i p.is14), .unk, .unk, .unk, .unk, .unk, .unk, .unk, .unk, .unk, .unk, .unk, .unk, .unk, .unk, .unk, .unk, .unk, .unk, .unk, .unk, (i p.is35), (i s.is36), .unk, .unk, .unk, .unk, .unk, .unk, .unk, .unk, .unk, .unk, .unk, .unk, .unk, .unk, .unk, .unk, .unk, .unk, .unk, .unk, .unk, .unk, .unk, .unk, .unk, .unk, .unk, .unk, .unk, .unk, .unk, .unk, .unk, .unk, .unk, .unk, .unk, .unk, .unk, .unk, .unk, .unk, .unk, .unk, .unk, .unk, .unk, .unk, .unk, .unk, .unk, .unk, .unk, .unk, .unk, .unk, .unk, .unk, .unk, .unk, .unk, .unk, .unk, .unk, .unk, .unk, .unk, .unk, .unk, .unk, .unk, .unk, .unk, .unk, .unk, .unk, .unk, .unk, .unk, .unk, .unk, .unk, .unk, .unk, .unk, .unk, .unk, .unk, .unk, .unk, .unk, .unk, .unk, .unk, .unk, .unk, .unk, .unk, .unk, .unk, .unk, .unk, .unk, .unk, .unk, .unk, .unk, .unk, .unk, .unk], []⟩
noncomputable def h7_0_1 (p : Pg7_0) (s : Sg7_0) : St := ⟨[.unk, (.v (.int .u8 p.is1)), (.v (.int .u8 p.is2)), .unk, .unk, .unk, .unk, .unk, .unk, (b true), (.tree 4 p.ns10 p.gs10), (.tree 4 s.ns11 s.gs11), (i s.is12), (i s.is13), (i p.is14), .unk, .unk, .unk, .unk, .unk, .unk, .unk, .unk, .unk, .unk, .unk, .unk, .unk, .unk, .unk, .unk, .unk, .unk, .unk, .unk, (i p.is35), (i s.is36), .unk, .unk, .unk, .unk, .unk, .unk, .unk, .unk, .unk, .unk, .unk, .unk, .unk, .unk, .unk, .unk, .unk, .unk, .unk, .unk, .unk, .unk, .unk, .unk, .unk, .unk, .unk, .unk, .unk, .unk, .unk, .unk, .unk, .unk, .unk, .unk, .unk, .unk, .unk, .unk, .unk, .unk, .unk, .unk, .unk, .unk, .unk, .unk, .unk, .unk, .unk, .unk, .unk, .unk, .unk, .unk, .unk, .unk, .unk, .unk, .unk, .unk, .unk, .unk, .unk, .unk, .unk, .unk, .unk, .unk, .unk, .unk, .unk, .unk, .unk, .unk, .unk, .unk, .unk, .unk, .unk, .unk, .unk, .unk, .unk, .unk, .unk, .unk, .unk, .unk, .unk, .unk, .unk, .unk, .unk, .unk, .unk, .unk, .unk, .unk, .unk, .unk, .unk, .unk, .unk, .unk, .unk, .unk, .unk, .unk], []⟩
noncomputable def en7_0 (p : Pg7_0) (s : Sg7_0) : St := (sel (Nat.beq s.ph 1) (h7_0_1 p s) (h7_0_0 p s))
noncomputable def x7_0_1 (p : Pg7_0) (s : Sg7_0) : XExit × St := let t1 := (pA [] (⟨(toI (hdA (p.gs10 (Int.tmod (W (s.is36 + (W p.is1))) (↑p.ns10 : Int)).toNat))), (toI (hdA (tlA (p.gs10 (Int.tmod (W (s.is36 + (W p.is1))) (↑p.ns10 : Int)).toNat)))), (toI (hdA (tlA (tlA (p.gs10 (Int.tmod (W (s.is36 + (W p.is1))) (↑p.ns10 : Int)).toNat))))), (toI (hdA (tlA (tlA (tlA (p.gs10 (Int.tmod (W (s.is36 + (W p.is1))) (↑p.ns10 : Int)).toNat))))))⟩ : Ent)); (.ret, ⟨[.unk, (.v (.int .u8 p.is1)), (.v (.int .u8 p.is2)), .unk, .unk, .unk, .unk, .unk, (b false), (b true), (.tree 4 p.ns10 p.gs10), (.v (.slice none 0 0)), (i s.is12), (i s.is13), (i p.is14), (i s.is36), (.ptr 0 0 0 0), (.sl 1 0 0 0), (.tree 4 (List.length t1.1) (fun k => rE (gE t1.1 k))), (i t1.2), .unk, .unk, .unk, .unk, .unk, .unk, .unk, .unk, .unk, .unk, .unk, .unk, .unk, .unk, .unk, (i p.is35), (i s.is36), (b (decide (s.is36 < p.is35))), (i s.is36), (.tree 4 p.ns10 p.gs10), (i s.is36), (.v (.int .u8 p.is1)), (i (W p.is1)), (i (W (s.is36 + (W p.is1)))), (.tree 4 p.ns10 p.gs10), (i (↑p.ns10 : Int)), (i (Int.tmod (W (s.is36 + (W p.is1))) (↑p.ns10 : Int))), (.tptr (p.gs10 (Int.tmod (W (s.is36 + (W p.is1))) (↑p.ns10 : Int)).toNat)), (.agg [(i (toI (hdA (p.gs10 (Int.tmod (W (s.is36 + (W p.is1))) (↑p.ns10 : Int)).toNat)))), (i (toI (hdA (tlA (p.gs10 (Int.tmod (W (s.is36 + (W p.is1))) (↑p.ns10 : Int)).toNat))))), (i (toI (hdA (tlA (tlA (p.gs10 (Int.tmod (W (s.is36 + (W p.is1))) (↑p.ns10 : Int)).toNat)))))), (i (toI (hdA (tlA (tlA (tlA (p.gs10 (Int.tmod (W (s.is36 + (W p.is1))) (↑p.ns10 : Int)).toNat)))))))]), (.sl 1 0 0 0), (.v (.slice none 0 0)), (.sl 1 0 0 0), (.tup [(.tree 4 (List.length t1.1) (fun k => rE (gE t1.1 k))), (i t1.2)]), (.v (.slice none 0 0)), (.agg [(i (toI (hdA (p.gs10 (Int.tmod (W (s.is36 + (W p.is1))) (↑p.ns10 : Int)).toNat)))), (i (toI (hdA (tlA (p.gs10 (Int.tmod (W (s.is36 + (W p.is1))) (↑p.ns10 : Int)).toNat))))), (i (toI (hdA (tlA (tlA (p.gs10 (Int.tmod (W (s.is36 + (W p.is1))) (↑p.ns10 : Int)).toNat)))))), (i (toI (hdA (tlA (tlA (tlA (p.gs10 (Int.tmod (W (s.is36 + (W p.is1))) (↑p.ns10 : Int)).toNat)))))))]), (.tup [(.tree 4 (List.length t1.1) (fun k => rE (gE t1.1 k))), (i t1.2)]), (.tree 4 (List.length t1.1) (fun k => rE (gE t1.1 k))), (i t1.2), (i t1.2), (b (t1.2 != 0)), (b true), u, u, u, u, (b true), .unk, .unk, .unk, .unk, .unk, .unk, .unk, .unk, .unk, .unk, .unk, .unk, .unk, .unk, .unk, .unk, .unk, .unk, .unk, .unk, .unk, .unk, .unk, .unk, .unk, .unk, .unk, .unk, .unk, .unk, .unk, .unk, .unk, .unk, .unk, .unk, .unk, .unk, .unk, .unk, .unk, .unk, .unk, .unk, .unk, .unk, .unk, .unk, .unk, .unk, .unk, .unk, .unk, .unk, .unk, .unk, .unk, .unk, .unk, .unk, .unk, .unk, .unk, .unk, .unk, .unk, .unk, .unk, .unk, .unk, .unk, .unk, .unk, .unk, .unk, .unk, .unk, .unk, .unk, .unk, .unk], [⟨0, 4, [[(i (toI (hdA (p.gs10 (Int.tmod (W (s.is36 + (W p.is1))) (↑p.ns10 : Int)).toNat)))), (i (toI (hdA (tlA (p.gs10 (Int.tmod (W (s.is36 + (W p.is1))) (↑p.ns10 : Int)).toNat))))), (i (toI (hdA (tlA (tlA (p.gs10 (Int.tmod (W (s.is36 + (W p.is1))) (↑p.ns10 : Int)).toNat)))))), (i (toI (hdA (tlA (tlA (tlA (p.gs10 (Int.tmod (W (s.is36 + (W p.is1))) (↑p.ns10 : Int)).toNat)))))))]], true, false, 0⟩, ⟨27, 4, [], true, false, 0⟩]⟩)
theorem nx7_0_1 (p : Pg7_0) (s : Sg7_0) : (x7_0_1 p s).1 ≠ .normal := fun h => by
  have h : XExit.ret = XExit.normal := h
  cases h
noncomputable def x7_0_2 (p : Pg7_0) (s : Sg7_0) : XExit × St := let t1 := (pA [] (⟨(toI (hdA (p.gs10 (Int.tmod (W (s.is36 + (W p.is1))) (↑p.ns10 : Int)).toNat))), (toI (hdA (tlA (p.gs10 (Int.tmod (W (s.is36 + (W p.is1))) (↑p.ns10 : Int)).toNat)))), (toI (hdA (tlA (tlA (p.gs10 (Int.tmod (W (s.is36 + (W p.is1))) (↑p.ns10 : Int)).toNat))))), (toI (hdA (tlA (tlA (tlA (p.gs10 (Int.tmod (W (s.is36 + (W p.is1))) (↑p.ns10 : Int)).toNat))))))⟩ : Ent)); let t2 := (p16 [] (lsE 0 (fun k => getRow [] (0 + k)))); (.ret, ⟨[.unk, (.v (.int .u8 p.is1)), (.v (.int .u8 p.is2)), .unk, .unk, .unk, .unk, .unk, (b false), (b true), (.tree 4 p.ns10 p.gs10), (.v (.slice none 0 0)), (i s.is12), (i s.is13), (i p.is14), (i s.is36), (.ptr 0 0 0 0), (.sl 1 0 0 0), (.tree 4 (List.length t1.1) (fun k => rE (gE t1.1 k))), (i t1.2), .unk, .unk, .unk, .unk, .unk, .unk, .unk, .unk, .unk, .unk, .unk, .unk, .unk, .unk, .unk, (i p.is35), (i s.is36), (b (decide (s.is36 < p.is35))), (i s.is36), (.tree 4 p.ns10 p.gs10), (i s.is36), (.v (.int .u8 p.is1)), (i (W p.is1)), (i (W (s.is36 + (W p.is1)))), (.tree 4 p.ns10 p.gs10), (i (↑p.ns10 : Int)), (i (Int.tmod (W (s.is36 + (W p.is1))) (↑p.ns10 : Int))), (.tptr (p.gs10 (Int.tmod (W (s.is36 + (W p.is1))) (↑p.ns10 : Int)).toNat)), (.agg [(i (toI (hdA (p.gs10 (Int.tmod (W (s.is36 + (W p.is1))) (↑p.ns10 : Int)).toNat)))), (i (toI (hdA (tlA (p.gs10 (Int.tmod (W (s.is36 + (W p.is1))) (↑p.ns10 : Int)).toNat))))), (i (toI (hdA (tlA (tlA (p.gs10 (Int.tmod (W (s.is36 + (W p.is1))) (↑p.ns10 : Int)).toNat)))))), (i (toI (hdA (tlA (tlA (tlA (p.gs10 (Int.tmod (W (s.is36 + (W p.is1))) (↑p.ns10 : Int)).toNat)))))))]), (.sl 1 0 0 0), (.v (.slice none 0 0)), (.sl 1 0 0 0), (.tup [(.tree 4 (List.length t1.1) (fun k => rE (gE t1.1 k))), (i t1.2)]), (.v (.slice none 0 0)), (.agg [(i (toI (hdA (p.gs10 (Int.tmod (W (s.is36 + (W p.is1))) (↑p.ns10 : Int)).toNat)))), (i (toI (hdA (tlA (p.gs10 (Int.tmod (W (s.is36 + (W p.is1))) (↑p.ns10 : Int)).toNat))))), (i (toI (hdA (tlA (tlA (p.gs10 (Int.tmod (W (s.is36 + (W p.is1))) (↑p.ns10 : Int)).toNat)))))), (i (toI (hdA (tlA (tlA (tlA (p.gs10 (Int.tmod (W (s.is36 + (W p.is1))) (↑p.ns10 : Int)).toNat)))))))]), (.tup [(.tree 4 (List.length t1.1) (fun k => rE (gE t1.1 k))), (i t1.2)]), (.tree 4 (List.length t1.1) (fun k => rE (gE t1.1 k))), (i t1.2), (i t1.2), (b (t1.2 != 0)), (b false), (.v (.slice none 0 0)), (.sl 1 0 0 0), (b t2), (b (!t2)), (b (!t2)), .unk, .unk, .unk, .unk, .unk, .unk, .unk, .unk, .unk, .unk, .unk, .unk, .unk, .unk, .unk, .unk, .unk, .unk, .unk, .unk, .unk, .unk, .unk, .unk, .unk, .unk, .unk, .unk, .unk, .unk, .unk, .unk, .unk, .unk, .unk, .unk, .unk, .unk, .unk, .unk, .unk, .unk, .unk, .unk, .unk, .unk, .unk, .unk, .unk, .unk, .unk, .unk, .unk, .unk, .unk, .unk, .unk, .unk, .unk, .unk, .unk, .unk, .unk, .unk, .unk, .unk, .unk, .unk, .unk, .unk, .unk, .unk, .unk, .unk, .unk, .unk, .unk, .unk, .unk, .unk, .unk], [⟨0, 4, [[(i (toI (hdA (p.gs10 (Int.tmod (W (s.is36 + (W p.is1))) (↑p.ns10 : Int)).toNat)))), (i (toI (hdA (tlA (p.gs10 (Int.tmod (W (s.is36 + (W p.is1))) (↑p.ns10 : Int)).toNat))))), (i (toI (hdA (tlA (tlA (p.gs10 (Int.tmod (W (s.is36 + (W p.is1))) (↑p.ns10 : Int)).toNat)))))), (i (toI (hdA (tlA (tlA (tlA (p.gs10 (Int.tmod (W (s.is36 + (W p.is1))) (↑p.ns10 : Int)).toNat)))))))]], true, false, 0⟩, ⟨27, 4, [], true, false, 0⟩]⟩)
theorem nx7_0_2 (p : Pg7_0) (s : Sg7_0) : (x7_0_2 p s).1 ≠ .normal := fun h => by
  have h : XExit.ret = XExit.normal := h
  cases h
noncomputable def x7_0_3 (p : Pg7_0) (s : Sg7_0) : XExit × St := (.exit 0, ⟨[.unk, (.v (.int .u8 p.is1)), (.v (.int .u8 p.is2)), .unk, .unk, .unk, .unk, .unk, .unk, (b true), (.tree 4 p.ns10 p.gs10), (.v (.slice none 0 0)), (i s.is12), (i s.is13), (i p.is14), .unk, .unk, .unk, .unk, .unk, .unk, .unk, .unk, .unk, .unk, .unk, .unk, .unk, .unk, .unk, .unk, .unk, .unk, .unk, .unk, (i p.is35), (i s.is36), (b (decide (s.is36 < p.is35))), .unk, .unk, .unk, .unk, .unk, .unk, .unk, .unk, .unk, .unk, .unk, .unk, .unk, .unk, .unk, .unk, .unk, .unk, .unk, .unk, .unk, .unk, .unk, .unk, .unk, .unk, .unk, .unk, .unk, .unk, .unk, .unk, .unk, .unk, .unk, .unk, .unk, .unk, .unk, .unk, .unk, .unk, .unk, .unk, .unk, .unk, .unk, .unk, .unk, .unk, .unk, .unk, .unk, .unk, .unk, .unk, .unk, .unk, .unk, .unk, .unk, .unk, .unk, .unk, .unk, .unk, .unk, .unk, .unk, .unk, .unk, .unk, .unk, .unk, .unk, .unk, .unk, .unk, .unk, .unk, .unk, .unk, .unk, .unk, .unk, .unk, .unk, .unk, .unk, .unk, .unk, .unk, .unk, .unk, .unk, .unk, .unk, .unk, .unk, .unk, .unk, .unk, .unk, .unk, .unk, .unk, .unk, .unk, .unk], []⟩)
theorem nx7_0_3 (p : Pg7_0) (s : Sg7_0) : (x7_0_3 p s).1 ≠ .normal := fun h => by
  have h : XExit.exit 0 = XExit.normal := h
  cases h
noncomputable def x7_0_4 (p : Pg7_0) (s : Sg7_0) : XExit × St := let t1 := (pA (lsE s.ns11 s.gs11) (⟨(toI (hdA (p.gs10 (Int.tmod (W (s.is36 + (W p.is1))) (↑p.ns10 : Int)).toNat))), (toI (hdA (tlA (p.gs10 (Int.tmod (W (s.is36 + (W p.is1))) (↑p.ns10 : Int)).toNat)))), (toI (hdA (tlA (tlA (p.gs10 (Int.tmod (W (s.is36 + (W p.is1))) (↑p.ns10 : Int)).toNat))))), (toI (hdA (tlA (tlA (tlA (p.gs10 (Int.tmod (W (s.is36 + (W p.is1))) (↑p.ns10 : Int)).toNat))))))⟩ : Ent)); (.ret, ⟨[.unk, (.v (.int .u8 p.is1)), (.v (.int .u8 p.is2)), .unk, .unk, .unk, .unk, .unk, (b false), (b true), (.tree 4 p.ns10 p.gs10), (.tree 4 s.ns11 s.gs11), (i s.is12), (i s.is13), (i p.is14), (i s.is36), (.ptr 0 0 0 0), (.sl 1 0 0 0), (.tree 4 (List.length t1.1) (fun k => rE (gE t1.1 k))), (i t1.2), .unk, .unk, .unk, .unk, .unk, .unk, .unk, .unk, .unk, .unk, .unk, .unk, .unk, .unk, .unk, (i p.is35), (i s.is36), (b (decide (s.is36 < p.is35))), (i s.is36), (.tree 4 p.ns10 p.gs10), (i s.is36), (.v (.int .u8 p.is1)), (i (W p.is1)), (i (W (s.is36 + (W p.is1)))), (.tree 4 p.ns10 p.gs10), (i (↑p.ns10 : Int)), (i (Int.tmod (W (s.is36 + (W p.is1))) (↑p.ns10 : Int))), (.tptr (p.gs10 (Int.tmod (W (s.is36 + (W p.is1))) (↑p.ns10 : Int)).toNat)), (.agg [(i (toI (hdA (p.gs10 (Int.tmod (W (s.is36 + (W p.is1))) (↑p.ns10 : Int)).toNat)))), (i (toI (hdA (tlA (p.gs10 (Int.tmod (W (s.is36 + (W p.is1))) (↑p.ns10 : Int)).toNat))))), (i (toI (hdA (tlA (tlA (p.gs10 (Int.tmod (W (s.is36 + (W p.is1))) (↑p.ns10 : Int)).toNat)))))), (i (toI (hdA (tlA (tlA (tlA (p.gs10 (Int.tmod (W (s.is36 + (W p.is1))) (↑p.ns10 : Int)).toNat)))))))]), (.sl 1 0 0 0), (.tree 4 s.ns11 s.gs11), (.sl 1 0 0 0), (.tup [(.tree 4 (List.length t1.1) (fun k => rE (gE t1.1 k))), (i t1.2)]), (.tree 4 s.ns11 s.gs11), (.agg [(i (toI (hdA (p.gs10 (Int.tmod (W (s.is36 + (W p.is1))) (↑p.ns10 : Int)).toNat)))), (i (toI (hdA (tlA (p.gs10 (Int.tmod (W (s.is36 + (W p.is1))) (↑p.ns10 : Int)).toNat))))), (i (toI (hdA (tlA (tlA (p.gs10 (Int.tmod (W (s.is36 + (W p.is1))) (↑p.ns10 : Int)).toNat)))))), (i (toI (hdA (tlA (tlA (tlA (p.gs10 (Int.tmod (W (s.is36 + (W p.is1))) (↑p.ns10 : Int)).toNat)))))))]), (.tup [(.tree 4 (List.length t1.1) (fun k => rE (gE t1.1 k))), (i t1.2)]), (.tree 4 (List.length t1.1) (fun k => rE (gE t1.1 k))), (i t1.2), (i t1.2), (b (t1.2 != 0)), (b true), u, u, u, u, (b true), .unk, .unk, .unk, .unk, .unk, .unk, .unk, .unk, .unk, .unk, .unk, .unk, .unk, .unk, .unk, .unk, .unk, .unk, .unk, .unk, .unk, .unk, .unk, .unk, .unk, .unk, .unk, .unk, .unk, .unk, .unk, .unk, .unk, .unk, .unk, .unk, .unk, .unk, .unk, .unk, .unk, .unk, .unk, .unk, .unk, .unk, .unk, .unk, .unk, .unk, .unk, .unk, .unk, .unk, .unk, .unk, .unk, .unk, .unk, .unk, .unk, .unk, .unk, .unk, .unk, .unk, .unk, .unk, .unk, .unk, .unk, .unk, .unk, .unk, .unk, .unk, .unk, .unk, .unk, .unk, .unk], [⟨0, 4, [[(i (toI (hdA (p.gs10 (Int.tmod (W (s.is36 + (W p.is1))) (↑p.ns10 : Int)).toNat)))), (i (toI (hdA (tlA (p.gs10 (Int.tmod (W (s.is36 + (W p.is1))) (↑p.ns10 : Int)).toNat))))), (i (toI (hdA (tlA (tlA (p.gs10 (Int.tmod (W (s.is36 + (W p.is1))) (↑p.ns10 : Int)).toNat)))))), (i (toI (hdA (tlA (tlA (tlA (p.gs10 (Int.tmod (W (s.is36 + (W p.is1))) (↑p.ns10 : Int)).toNat)))))))]], true, false, 0⟩, ⟨27, 4, [], true, false, 0⟩]⟩)
theorem nx7_0_4 (p : Pg7_0) (s : Sg7_0) : (x7_0_4 p s).1 ≠ .normal := fun h => by
  have h : XExit.ret = XExit.normal := h
  cases h
noncomputable def x7_0_5 (p : Pg7_0) (s : Sg7_0) : XExit × St := let t1 := (pA (lsE s.ns11 s.gs11) (⟨(toI (hdA (p.gs10 (Int.tmod (W (s.is36 + (W p.is1))) (↑p.ns10 : Int)).toNat))), (toI (hdA (tlA (p.gs10 (Int.tmod (W (s.is36 + (W p.is1))) (↑p.ns10 : Int)).toNat)))), (toI (hdA (tlA (tlA (p.gs10 (Int.tmod (W (s.is36 + (W p.is1))) (↑p.ns10 : Int)).toNat))))), (toI (hdA (tlA (tlA (tlA (p.gs10 (Int.tmod (W (s.is36 + (W p.is1))) (↑p.ns10 : Int)).toNat))))))⟩ : Ent)); let t2 := (p16 (lsE s.ns11 s.gs11) (lsE 0 (fun k => getRow [] (0 + k)))); (.ret, ⟨[.unk, (.v (.int .u8 p.is1)), (.v (.int .u8 p.is2)), .unk, .unk, .unk, .unk, .unk, (b false), (b true), (.tree 4 p.ns10 p.gs10), (.tree 4 s.ns11 s.gs11), (i s.is12), (i s.is13), (i p.is14), (i s.is36), (.ptr 0 0 0 0), (.sl 1 0 0 0), (.tree 4 (List.length t1.1) (fun k => rE (gE t1.1 k))), (i t1.2), .unk, .unk, .unk, .unk, .unk, .unk, .unk, .unk, .unk, .unk, .unk, .unk, .unk, .unk, .unk, (i p.is35), (i s.is36), (b (decide (s.is36 < p.is35))), (i s.is36), (.tree 4 p.ns10 p.gs10), (i s.is36), (.v (.int .u8 p.is1)), (i (W p.is1)), (i (W (s.is36 + (W p.is1)))), (.tree 4 p.ns10 p.gs10), (i (↑p.ns10 : Int)), (i (Int.tmod (W (s.is36 + (W p.is1))) (↑p.ns10 : Int))), (.tptr (p.gs10 (Int.tmod (W (s.is36 + (W p.is1))) (↑p.ns10 : Int)).toNat)), (.agg [(i (toI (hdA (p.gs10 (Int.tmod (W (s.is36 + (W p.is1))) (↑p.ns10 : Int)).toNat)))), (i (toI (hdA (tlA (p.gs10 (Int.tmod (W (s.is36 + (W p.is1))) (↑p.ns10 : Int)).toNat))))), (i (toI (hdA (tlA (tlA (p.gs10 (Int.tmod (W (s.is36 + (W p.is1))) (↑p.ns10 : Int)).toNat)))))), (i (toI (hdA (tlA (tlA (tlA (p.gs10 (Int.tmod (W (s.is36 + (W p.is1))) (↑p.ns10 : Int)).toNat)))))))]), (.sl 1 0 0 0), (.tree 4 s.ns11 s.gs11), (.sl 1 0 0 0), (.tup [(.tree 4 (List.length t1.1) (fun k => rE (gE t1.1 k))), (i t1.2)]), (.tree 4 s.ns11 s.gs11), (.agg [(i (toI (hdA (p.gs10 (Int.tmod (W (s.is36 + (W p.is1))) (↑p.ns10 : Int)).toNat)))), (i (toI (hdA (tlA (p.gs10 (Int.tmod (W (s.is36 + (W p.is1))) (↑p.ns10 : Int)).toNat))))), (i (toI (hdA (tlA (tlA (p.gs10 (Int.tmod (W (s.is36 + (W p.is1))) (↑p.ns10 : Int)).toNat)))))), (i (toI (hdA (tlA (tlA (tlA (p.gs10 (Int.tmod (W (s.is36 + (W p.is1))) (↑p.ns10 : Int)).toNat)))))))]), (.tup [(.tree 4 (List.length t1.1) (fun k => rE (gE t1.1 k))), (i t1.2)]), (.tree 4 (List.length t1.1) (fun k => rE (gE t1.1 k))), (i t1.2), (i t1.2), (b (t1.2 != 0)), (b false), (.tree 4 s.ns11 s.gs11), (.sl 1 0 0 0), (b t2), (b (!t2)), (b (!t2)), .unk, .unk, .unk, .unk, .unk, .unk, .unk, .unk, .unk, .unk, .unk, .unk, .unk, .unk, .unk, .unk, .unk, .unk, .unk, .unk, .unk, .unk, .unk, .unk, .unk, .unk, .unk, .unk, .unk, .unk, .unk, .unk, .unk, .unk, .unk, .unk, .unk, .unk, .unk, .unk, .unk, .unk, .unk, .unk, .unk, .unk, .unk, .unk, .unk, .unk, .unk, .unk, .unk, .unk, .unk, .unk, .unk, .unk, .unk, .unk, .unk, .unk, .unk, .unk, .unk, .unk, .unk, .unk, .unk, .unk, .unk, .unk, .unk, .unk, .unk, .unk, .unk, .unk, .unk, .unk, .unk], [⟨0, 4, [[(i (toI (hdA (p.gs10 (Int.tmod (W (s.is36 + (W p.is1))) (↑p.ns10 : Int)).toNat)))), (i (toI (hdA (tlA (p.gs10 (Int.tmod (W (s.is36 + (W p.is1))) (↑p.ns10 : Int)).toNat))))), (i (toI (hdA (tlA (tlA (p.gs10 (Int.tmod (W (s.is36 + (W p.is1))) (↑p.ns10 : Int)).toNat)))))), (i (toI (hdA (tlA (tlA (tlA (p.gs10 (Int.tmod (W (s.is36 + (W p.is1))) (↑p.ns10 : Int)).toNat)))))))]], true, false, 0⟩, ⟨27, 4, [], true, false, 0⟩]⟩)
theorem nx7_0_5 (p : Pg7_0) (s : Sg7_0) : (x7_0_5 p s).1 ≠ .normal := fun h => by
  have h : XExit.ret = XExit.normal := h
  cases h
noncomputable def x7_0_6 (p : Pg7_0) (s : Sg7_0) : XExit × St := let t1 := (pA (lsE s.ns11 s.gs11) (⟨(toI (hdA (p.gs10 (Int.tmod (W (s.is36 + (W p.is1))) (↑p.ns10 : Int)).toNat))), (toI (hdA (tlA (p.gs10 (Int.tmod (W (s.is36 + (W p.is1))) (↑p.ns10 : Int)).toNat)))), (toI (hdA (tlA (tlA (p.gs10 (Int.tmod (W (s.is36 + (W p.is1))) (↑p.ns10 : Int)).toNat))))), (toI (hdA (tlA (tlA (tlA (p.gs10 (Int.tmod (W (s.is36 + (W p.is1))) (↑p.ns10 : Int)).toNat))))))⟩ : Ent)); (.ret, ⟨[.unk, (.v (.int .u8 p.is1)), (.v (.int .u8 p.is2)), .unk, .unk, .unk, .unk, .unk, (b false), (b true), (.tree 4 p.ns10 p.gs10), (.tree 4 s.ns11 s.gs11), (i s.is12), (i s.is13), (i p.is14), (i s.is36), (.ptr 0 0 0 0), (.sl 1 0 (0 + (len (mapL s.gs11 (List.range s.ns11)))) 1), (.tree 4 (List.length t1.1) (fun k => rE (gE t1.1 k))), (i t1.2), .unk, .unk, .unk, .unk, .unk, .unk, .unk, .unk, .unk, .unk, .unk, .unk, .unk, .unk, .unk, (i p.is35), (i s.is36), (b (decide (s.is36 < p.is35))), (i s.is36), (.tree 4 p.ns10 p.gs10), (i s.is36), (.v (.int .u8 p.is1)), (i (W p.is1)), (i (W (s.is36 + (W p.is1)))), (.tree 4 p.ns10 p.gs10), (i (↑p.ns10 : Int)), (i (Int.tmod (W (s.is36 + (W p.is1))) (↑p.ns10 : Int))), (.tptr (p.gs10 (Int.tmod (W (s.is36 + (W p.is1))) (↑p.ns10 : Int)).toNat)), (.agg [(i (toI (hdA (p.gs10 (Int.tmod (W (s.is36 + (W p.is1))) (↑p.ns10 : Int)).toNat)))), (i (toI (hdA (tlA (p.gs10 (Int.tmod (W (s.is36 + (W p.is1))) (↑p.ns10 : Int)).toNat))))), (i (toI (hdA (tlA (tlA (p.gs10 (Int.tmod (W (s.is36 + (W p.is1))) (↑p.ns10 : Int)).toNat)))))), (i (toI (hdA (tlA (tlA (tlA (p.gs10 (Int.tmod (W (s.is36 + (W p.is1))) (↑p.ns10 : Int)).toNat)))))))]), (.sl 1 0 0 0), (.tree 4 s.ns11 s.gs11), (.sl 1 0 (0 + (len (mapL s.gs11 (List.range s.ns11)))) 1), (.tup [(.tree 4 (List.length t1.1) (fun k => rE (gE t1.1 k))), (i t1.2)]), (.tree 4 s.ns11 s.gs11), (.agg [(i (toI (hdA (p.gs10 (Int.tmod (W (s.is36 + (W p.is1))) (↑p.ns10 : Int)).toNat)))), (i (toI (hdA (tlA (p.gs10 (Int.tmod (W (s.is36 + (W p.is1))) (↑p.ns10 : Int)).toNat))))), (i (toI (hdA (tlA (tlA (p.gs10 (Int.tmod (W (s.is36 + (W p.is1))) (↑p.ns10 : Int)).toNat)))))), (i (toI (hdA (tlA (tlA (tlA (p.gs10 (Int.tmod (W (s.is36 + (W p.is1))) (↑p.ns10 : Int)).toNat)))))))]), (.tup [(.tree 4 (List.length t1.1) (fun k => rE (gE t1.1 k))), (i t1.2)]), (.tree 4 (List.length t1.1) (fun k => rE (gE t1.1 k))), (i t1.2), (i t1.2), (b (t1.2 != 0)), (b true), u, u, u, u, (b true), .unk, .unk, .unk, .unk, .unk, .unk, .unk, .unk, .unk, .unk, .unk, .unk, .unk, .unk, .unk, .unk, .unk, .unk, .unk, .unk, .unk, .unk, .unk, .unk, .unk, .unk, .unk, .unk, .unk, .unk, .unk, .unk, .unk, .unk, .unk, .unk, .unk, .unk, .unk, .unk, .unk, .unk, .unk, .unk, .unk, .unk, .unk, .unk, .unk, .unk, .unk, .unk, .unk, .unk, .unk, .unk, .unk, .unk, .unk, .unk, .unk, .unk, .unk, .unk, .unk, .unk, .unk, .unk, .unk, .unk, .unk, .unk, .unk, .unk, .unk, .unk, .unk, .unk, .unk, .unk, .unk], [⟨0, 4, [[(i (toI (hdA (p.gs10 (Int.tmod (W (s.is36 + (W p.is1))) (↑p.ns10 : Int)).toNat)))), (i (toI (hdA (tlA (p.gs10 (Int.tmod (W (s.is36 + (W p.is1))) (↑p.ns10 : Int)).toNat))))), (i (toI (hdA (tlA (tlA (p.gs10 (Int.tmod (W (s.is36 + (W p.is1))) (↑p.ns10 : Int)).toNat)))))), (i (toI (hdA (tlA (tlA (tlA (p.gs10 (Int.tmod (W (s.is36 + (W p.is1))) (↑p.ns10 : Int)).toNat)))))))]], true, false, 0⟩, ⟨27, 4, (app [] (mapL s.gs11 (List.range s.ns11))), true, false, 1⟩]⟩)
theorem nx7_0_6 (p : Pg7_0) (s : Sg7_0) : (x7_0_6 p s).1 ≠ .normal := fun h => by
  have h : XExit.ret = XExit.normal := h
  cases h
noncomputable def x7_0_7 (p : Pg7_0) (s : Sg7_0) : XExit × St := let t1 := (pA (lsE s.ns11 s.gs11) (⟨(toI (hdA (p.gs10 (Int.tmod (W (s.is36 + (W p.is1))) (↑p.ns10 : Int)).toNat))), (toI (hdA (tlA (p.gs10 (Int.tmod (W (s.is36 + (W p.is1))) (↑p.ns10 : Int)).toNat)))), (toI (hdA (tlA (tlA (p.gs10 (Int.tmod (W (s.is36 + (W p.is1))) (↑p.ns10 : Int)).toNat))))), (toI (hdA (tlA (tlA (tlA (p.gs10 (Int.tmod (W (s.is36 + (W p.is1))) (↑p.ns10 : Int)).toNat))))))⟩ : Ent)); let t3 := (p16 (lsE s.ns11 s.gs11) (lsE (0 + (len (mapL s.gs11 (List.range s.ns11)))) (fun k => getRow (app [] (mapL s.gs11 (List.range s.ns11))) (0 + k)))); (.ret, ⟨[.unk, (.v (.int .u8 p.is1)), (.v (.int .u8 p.is2)), .unk, .unk, .unk, .unk, .unk, (b false), (b true), (.tree 4 p.ns10 p.gs10), (.tree 4 s.ns11 s.gs11), (i s.is12), (i s.is13), (i p.is14), (i s.is36), (.ptr 0 0 0 0), (.sl 1 0 (0 + (len (mapL s.gs11 (List.range s.ns11)))) 1), (.tree 4 (List.length t1.1) (fun k => rE (gE t1.1 k))), (i t1.2), .unk, .unk, .unk, .unk, .unk, .unk, .unk, .unk, .unk, .unk, .unk, .unk, .unk, .unk, .unk, (i p.is35), (i s.is36), (b (decide (s.is36 < p.is35))), (i s.is36), (.tree 4 p.ns10 p.gs10), (i s.is36), (.v (.int .u8 p.is1)), (i (W p.is1)), (i (W (s.is36 + (W p.is1)))), (.tree 4 p.ns10 p.gs10), (i (↑p.ns10 : Int)), (i (Int.tmod (W (s.is36 + (W p.is1))) (↑p.ns10 : Int))), (.tptr (p.gs10 (Int.tmod (W (s.is36 + (W p.is1))) (↑p.ns10 : Int)).toNat)), (.agg [(i (toI (hdA (p.gs10 (Int.tmod (W (s.is36 + (W p.is1))) (↑p.ns10 : Int)).toNat)))), (i (toI (hdA (tlA (p.gs10 (Int.tmod (W (s.is36 + (W p.is1))) (↑p.ns10 : Int)).toNat))))), (i (toI (hdA (tlA (tlA (p.gs10 (Int.tmod (W (s.is36 + (W p.is1))) (↑p.ns10 : Int)).toNat)))))), (i (toI (hdA (tlA (tlA (tlA (p.gs10 (Int.tmod (W (s.is36 + (W p.is1))) (↑p.ns10 : Int)).toNat)))))))]), (.sl 1 0 0 0), (.tree 4 s.ns11 s.gs11), (.sl 1 0 (0 + (len (mapL s.gs11 (List.range s.ns11)))) 1), (.tup [(.tree 4 (List.length t1.1) (fun k => rE (gE t1.1 k))), (i t1.2)]), (.tree 4 s.ns11 s.gs11), (.agg [(i (toI (hdA (p.gs10 (Int.tmod (W (s.is36 + (W p.is1))) (↑p.ns10 : Int)).toNat)))), (i (toI (hdA (tlA (p.gs10 (Int.tmod (W (s.is36 + (W p.is1))) (↑p.ns10 : Int)).toNat))))), (i (toI (hdA (tlA (tlA (p.gs10 (Int.tmod (W (s.is36 + (W p.is1))) (↑p.ns10 : Int)).toNat)))))), (i (toI (hdA (tlA (tlA (tlA (p.gs10 (Int.tmod (W (s.is36 + (W p.is1))) (↑p.ns10 : Int)).toNat)))))))]), (.tup [(.tree 4 (List.length t1.1) (fun k => rE (gE t1.1 k))), (i t1.2)]), (.tree 4 (List.length t1.1) (fun k => rE (gE t1.1 k))), (i t1.2), (i t1.2), (b (t1.2 != 0)), (b false), (.tree 4 s.ns11 s.gs11), (.sl 1 0 (0 + (len (mapL s.gs11 (List.range s.ns11)))) 1), (b t3), (b (!t3)), (b (!t3)), .unk, .unk, .unk, .unk, .unk, .unk, .unk, .unk, .unk, .unk, .unk, .unk, .unk, .unk, .unk, .unk, .unk, .unk, .unk, .unk, .unk, .unk, .unk, .unk, .unk, .unk, .unk, .unk, .unk, .unk, .unk, .unk, .unk, .unk, .unk, .unk, .unk, .unk, .unk, .unk, .unk, .unk, .unk, .unk, .unk, .unk, .unk, .unk, .unk, .unk, .unk, .unk, .unk, .unk, .unk, .unk, .unk, .unk, .unk, .unk, .unk, .unk, .unk, .unk, .unk, .unk, .unk, .unk, .unk, .unk, .unk, .unk, .unk, .unk, .unk, .unk, .unk, .unk, .unk, .unk, .unk], [⟨0, 4, [[(i (toI (hdA (p.gs10 (Int.tmod (W (s.is36 + (W p.is1))) (↑p.ns10 : Int)).toNat)))), (i (toI (hdA (tlA (p.gs10 (Int.tmod (W (s.is36 + (W p.is1))) (↑p.ns10 : Int)).toNat))))), (i (toI (hdA (tlA (tlA (p.gs10 (Int.tmod (W (s.is36 + (W p.is1))) (↑p.ns10 : Int)).toNat)))))), (i (toI (hdA (tlA (tlA (tlA (p.gs10 (Int.tmod (W (s.is36 + (W p.is1))) (↑p.ns10 : Int)).toNat)))))))]], true, false, 0⟩, ⟨27, 4, (app [] (mapL s.gs11 (List.range s.ns11))), true, false, 1⟩]⟩)
theorem nx7_0_7 (p : Pg7_0) (s : Sg7_0) : (x7_0_7 p s).1 ≠ .normal := fun h => by
  have h : XExit.ret = XExit.normal := h
  cases h
noncomputable def x7_0_8 (p : Pg7_0) (s : Sg7_0) : XExit × St := (.exit 0, ⟨[.unk, (.v (.int .u8 p.is1)), (.v (.int .u8 p.is2)), .unk, .unk, .unk, .unk, .unk, .unk, (b true), (.tree 4 p.ns10 p.gs10), (.tree 4 s.ns11 s.gs11), (i s.is12), (i s.is13), (i p.is14), .unk, .unk, .unk, .unk, .unk, .unk, .unk, .unk, .unk, .unk, .unk, .unk, .unk, .unk, .unk, .unk, .unk, .unk, .unk, .unk, (i p.is35), (i s.is36), (b (decide (s.is36 < p.is35))), .unk, .unk, .unk, .unk, .unk, .unk, .unk, .unk, .unk, .unk, .unk, .unk, .unk, .unk, .unk, .unk, .unk, .unk, .unk, .unk, .unk, .unk, .unk, .unk, .unk, .unk, .unk, .unk, .unk, .unk, .unk, .unk, .unk, .unk, .unk, .unk, .unk, .unk, .unk, .unk, .unk, .unk, .unk, .unk, .unk, .unk, .unk, .unk, .unk, .unk, .unk, .unk, .unk, .unk, .unk, .unk, .unk, .unk, .unk, .unk, .unk, .unk, .unk, .unk, .unk, .unk, .unk, .unk, .unk, .unk, .unk, .unk, .unk, .unk, .unk, .unk, .unk, .unk, .unk, .unk, .unk, .unk, .unk, .unk, .unk, .unk, .unk, .unk, .unk, .unk, .unk, .unk, .unk, .unk, .unk, .unk, .unk, .unk, .unk, .unk, .unk, .unk, .unk, .unk, .unk, .unk, .unk, .unk, .unk], []⟩)
theorem nx7_0_8 (p : Pg7_0) (s : Sg7_0) : (x7_0_8 p s).1 ≠ .normal := fun h => by
  have h : XExit.exit 0 = XExit.normal := h
  cases h
noncomputable def xs7_0 : List (Pg7_0 → Sg7_0 → XExit × St) := [x7_0_1, x7_0_2, x7_0_3, x7_0_4, x7_0_5, x7_0_6, x7_0_7, x7_0_8]
@[reducible] def l7_0 : PC := (.seq (.ops [(o 37 (.bin .lss (.t 36) (.t 35)))]) (.seq (.cond (.t 37) .skip (.exit 0)) (.seq (.block 1 (.seq (.ops [(o 38 (.mv (.t 36))), (o 15 (.mv (.t 38)))]) (.seq (.ops [(o 39 (.mv (.t 10))), (o 40 (.mv (.t 15))), (o 41 (.mv (.t 1))), (o 42 (.gen ⟨none, (.convert 5 3 (.tmp 41)), 3, "", #[], none⟩ [41])), (o 43 (.bin .add (.t 40) (.t 42))), (o 44 (.mv (.t 10))), (o 45 (.len (.t 44))), (o 46 (.bin .rem (.t 43) (.t 45))), (o 47 (.idxS 4 (.t 39) (.t 46))), (o 48 (.load (ki 4) 4 true (.t 47))), (o 16 (.alloc (rep 4 (vi 0)))), (s (.store 4 (.t 16) (.t 48)))]) (.seq (.ops [(o 49 (.bslice 27 4 0 [] [])), (o 50 (.mv (.t 11))), (o 51 (.append 27 4 32 (.t 49) (.t 50))), (o 17 (.mv (.t 51)))]) (.seq (.ops [(o 53 (.mv (.t 11))), (o 54 (.load (ki 4) 4 true (.t 16))), (o 55 (.call 14 [(.t 53), (.t 54)])), (o 52 (.mv (.t 55))), (o 56 (.ext (.t 52) 0)), (o 57 (.ext (.t 52) 1)), (o 18 (.mv (.t 56))), (o 19 (.mv (.t 57)))]) (.seq (.seq (.ops [(o 58 (.mv (.t 19))), (o 59 (.bin .neq (.t 58) (ci 0))), (o 60 (.mv (.t 59))), ⟨(.some 61), (.some (60, false)), [], (.mv (.t 11))⟩, ⟨(.some 62), (.some (60, false)), [], (.mv (.t 17))⟩, ⟨(.some 63), (.some (60, false)), [], (.call 16 [(.t 61), (.t 62)])⟩, ⟨(.some 64), (.some (60, false)), [], (.not (.t 63))⟩, (o 65 (.pick (.t 60) (cb true) (.t 64)))]) (.cond (.t 65) (.seq (.ops [(o 8 (.mv (cb false)))]) .ret) .skip)) (.seq (.ops [(o 66 (.mv (.t 18))), (o 11 (.mv (.t 66)))]) (.seq (.ops [(o 67 (.fld 0 (.t 16))), (o 68 (.load (ki 1) 1 false (.t 67))), (o 69 (.mv (.t 14))), (o 70 (.bin .eql (.t 68) (.t 69)))]) (.cond (.t 70) (.seq (.ops [(o 71 (.mv (.t 12))), (o 72 (.fld 2 (.t 16))), (o 73 (.load (ki 1) 1 false (.t 72))), (o 74 (.bin .add (.t 71) (.t 73))), (o 12 (.mv (.t 74)))]) (.ops [(o 75 (.mv (.t 13))), (o 76 (.fld 3 (.t 16))), (o 77 (.load (ki 1) 1 false (.t 76))), (o 78 (.bin .add (.t 75) (.t 77))), (o 13 (.mv (.t 78)))])) .skip))))))))) (.ops [(o 79 (.bin .add (.t 36) (ci 1))), (o 36 (.mv (.t 79)))]))))
noncomputable def fo7_0 (p : Pg7_0) (s : Sg7_0) : Stp Sg7_0 → Option (XExit × St) := onStp (fun s' => some (.normal, en7_0 p s')) (fun t => xAt xs7_0 p s t 1) none
theorem rd7_0_0 (p : Pg7_0) (s : Sg7_0) (t1 : List Ent × Int) (ht1 : t1 = (pA [] (⟨(toI (hdA (p.gs10 (Int.tmod (W (s.is36 + (W p.is1))) (↑p.ns10 : Int)).toNat))), (toI (hdA (tlA (p.gs10 (Int.tmod (W (s.is36 + (W p.is1))) (↑p.ns10 : Int)).toNat)))), (toI (hdA (tlA (tlA (p.gs10 (Int.tmod (W (s.is36 + (W p.is1))) (↑p.ns10 : Int)).toNat))))), (toI (hdA (tlA (tlA (tlA (p.gs10 (Int.tmod (W (s.is36 + (W p.is1))) (↑p.ns10 : Int)).toNat))))))⟩ : Ent))) (t2 : Bool) (ht2 : t2 = (p16 [] (lsE 0 (fun k => getRow [] (0 + k))))) : (roundE (En tb7) 0 [1, 2, 9, 10, 11, 12, 13, 14, 35, 36] (.pc l7_0) (h7_0_0 p s)).run = (sel (decide (s.is36 < p.is35))
 (sel ((↑p.ns10 : Int) == 0)
  none
  (sel (inB (Int.tmod (W (s.is36 + (W p.is1))) (↑p.ns10 : Int)) p.ns10)
  (sel ((Nat.ble 4 (len (p.gs10 (Int.tmod (W (s.is36 + (W p.is1))) (↑p.ns10 : Int)).toNat))) && (okCKs [(CK.int .i64), (CK.int .i64), (CK.int .i64), (CK.int .i64)] (p.gs10 (Int.tmod (W (s.is36 + (W p.is1))) (↑p.ns10 : Int)).toNat)))
  (sel (gA [] (⟨(toI (hdA (p.gs10 (Int.tmod (W (s.is36 + (W p.is1))) (↑p.ns10 : Int)).toNat))), (toI (hdA (tlA (p.gs10 (Int.tmod (W (s.is36 + (W p.is1))) (↑p.ns10 : Int)).toNat)))), (toI (hdA (tlA (tlA (p.gs10 (Int.tmod (W (s.is36 + (W p.is1))) (↑p.ns10 : Int)).toNat))))), (toI (hdA (tlA (tlA (tlA (p.gs10 (Int.tmod (W (s.is36 + (W p.is1))) (↑p.ns10 : Int)).toNat))))))⟩ : Ent))
  (sel (t1.2 != 0)
  (some (x7_0_1 p s))
  (sel (okEs 0 (fun k => getRow [] (0 + k)))
  (sel (g16 [] (lsE 0 (fun k => getRow [] (0 + k))))
  (sel (!t2)
  (some (x7_0_2 p s))
  (sel ((toI (hdA (p.gs10 (Int.tmod (W (s.is36 + (W p.is1))) (↑p.ns10 : Int)).toNat))) == p.is14)
  (some (.normal, h7_0_1 p ⟨1, (W (s.is12 + (toI (hdA (tlA (tlA (p.gs10 (Int.tmod (W (s.is36 + (W p.is1))) (↑p.ns10 : Int)).toNat))))))), (W (s.is13 + (toI (hdA (tlA (tlA (tlA (p.gs10 (Int.tmod (W (s.is36 + (W p.is1))) (↑p.ns10 : Int)).toNat)))))))), (W (s.is36 + 1)), (List.length t1.1), (fun k => rE (gE t1.1 k))⟩))
  (some (.normal, h7_0_1 p ⟨1, s.is12, s.is13, (W (s.is36 + 1)), (List.length t1.1), (fun k => rE (gE t1.1 k))⟩))))
  none)
  none))
  none)
  none)
  none))
 (some (x7_0_3 p s))) := by subst ht1; subst ht2; kernel_rfl
noncomputable def su7_0_0 (p : Pg7_0) (s : Sg7_0) : Stp Sg7_0 := let t1 := (pA [] (⟨(toI (hdA (p.gs10 (Int.tmod (W (s.is36 + (W p.is1))) (↑p.ns10 : Int)).toNat))), (toI (hdA (tlA (p.gs10 (Int.tmod (W (s.is36 + (W p.is1))) (↑p.ns10 : Int)).toNat)))), (toI (hdA (tlA (tlA (p.gs10 (Int.tmod (W (s.is36 + (W p.is1))) (↑p.ns10 : Int)).toNat))))), (toI (hdA (tlA (tlA (tlA (p.gs10 (Int.tmod (W (s.is36 + (W p.is1))) (↑p.ns10 : Int)).toNat))))))⟩ : Ent)); let t2 := (p16 [] (lsE 0 (fun k => getRow [] (0 + k)))); (sel (decide (s.is36 < p.is35))
 (sel ((↑p.ns10 : Int) == 0)
  .fail
  (sel (inB (Int.tmod (W (s.is36 + (W p.is1))) (↑p.ns10 : Int)) p.ns10)
  (sel ((Nat.ble 4 (len (p.gs10 (Int.tmod (W (s.is36 + (W p.is1))) (↑p.ns10 : Int)).toNat))) && (okCKs [(CK.int .i64), (CK.int .i64), (CK.int .i64), (CK.int .i64)] (p.gs10 (Int.tmod (W (s.is36 + (W p.is1))) (↑p.ns10 : Int)).toNat)))
  (sel (gA [] (⟨(toI (hdA (p.gs10 (Int.tmod (W (s.is36 + (W p.is1))) (↑p.ns10 : Int)).toNat))), (toI (hdA (tlA (p.gs10 (Int.tmod (W (s.is36 + (W p.is1))) (↑p.ns10 : Int)).toNat)))), (toI (hdA (tlA (tlA (p.gs10 (Int.tmod (W (s.is36 + (W p.is1))) (↑p.ns10 : Int)).toNat))))), (toI (hdA (tlA (tlA (tlA (p.gs10 (Int.tmod (W (s.is36 + (W p.is1))) (↑p.ns10 : Int)).toNat))))))⟩ : Ent))
  (sel (t1.2 != 0)
  (.exit 1)
  (sel (okEs 0 (fun k => getRow [] (0 + k)))
  (sel (g16 [] (lsE 0 (fun k => getRow [] (0 + k))))
  (sel (!t2)
  (.exit 2)
  (sel ((toI (hdA (p.gs10 (Int.tmod (W (s.is36 + (W p.is1))) (↑p.ns10 : Int)).toNat))) == p.is14)
  (.next ⟨1, (W (s.is12 + (toI (hdA (tlA (tlA (p.gs10 (Int.tmod (W (s.is36 + (W p.is1))) (↑p.ns10 : Int)).toNat))))))), (W (s.is13 + (toI (hdA (tlA (tlA (tlA (p.gs10 (Int.tmod (W (s.is36 + (W p.is1))) (↑p.ns10 : Int)).toNat)))))))), (W (s.is36 + 1)), (List.length t1.1), (fun k => rE (gE t1.1 k))⟩)
  (.next ⟨1, s.is12, s.is13, (W (s.is36 + 1)), (List.length t1.1), (fun k => rE (gE t1.1 k))⟩)))
  .fail)
  .fail))
  .fail)
  .fail)
  .fail))
 (.exit 3))
theorem q7_0_0 (p : Pg7_0) (s : Sg7_0) (c1 c2 c3 c4 c5 c6 c7 c8 c9 c10 : Bool) (t1 : List Ent × Int) : (fo7_0 p s) (sel c1
 (sel c2
  .fail
  (sel c3
  (sel c4
  (sel c5
  (sel c6
  (.exit 1)
  (sel c7
  (sel c8
  (sel c9
  (.exit 2)
  (sel c10
  (.next ⟨1, (W (s.is12 + (toI (hdA (tlA (tlA (p.gs10 (Int.tmod (W (s.is36 + (W p.is1))) (↑p.ns10 : Int)).toNat))))))), (W (s.is13 + (toI (hdA (tlA (tlA (tlA (p.gs10 (Int.tmod (W (s.is36 + (W p.is1))) (↑p.ns10 : Int)).toNat)))))))), (W (s.is36 + 1)), (List.length t1.1), (fun k => rE (gE t1.1 k))⟩)
  (.next ⟨1, s.is12, s.is13, (W (s.is36 + 1)), (List.length t1.1), (fun k => rE (gE t1.1 k))⟩)))
  .fail)
  .fail))
  .fail)
  .fail)
  .fail))
 (.exit 3)) = (sel c1
 (sel c2
  none
  (sel c3
  (sel c4
  (sel c5
  (sel c6
  (some (x7_0_1 p s))
  (sel c7
  (sel c8
  (sel c9
  (some (x7_0_2 p s))
  (sel c10
  (some (.normal, h7_0_1 p ⟨1, (W (s.is12 + (toI (hdA (tlA (tlA (p.gs10 (Int.tmod (W (s.is36 + (W p.is1))) (↑p.ns10 : Int)).toNat))))))), (W (s.is13 + (toI (hdA (tlA (tlA (tlA (p.gs10 (Int.tmod (W (s.is36 + (W p.is1))) (↑p.ns10 : Int)).toNat)))))))), (W (s.is36 + 1)), (List.length t1.1), (fun k => rE (gE t1.1 k))⟩))
  (some (.normal, h7_0_1 p ⟨1, s.is12, s.is13, (W (s.is36 + 1)), (List.length t1.1), (fun k => rE (gE t1.1 k))⟩))))
  none)
  none))
  none)
  none)
  none))
 (some (x7_0_3 p s))) := (stpSel (f := (fo7_0 p s)) (stpSel (f := (fo7_0 p s)) rfl (stpSel (f := (fo7_0 p s)) (stpSel (f := (fo7_0 p s)) (stpSel (f := (fo7_0 p s)) (stpSel (f := (fo7_0 p s)) rfl (stpSel (f := (fo7_0 p s)) (stpSel (f := (fo7_0 p s)) (stpSel (f := (fo7_0 p s)) rfl (stpSel (f := (fo7_0 p s)) rfl rfl)) rfl) rfl)) rfl) rfl) rfl)) rfl)
theorem sp7_0_0 (p : Pg7_0) (s : Sg7_0) : (roundE (En tb7) 0 [1, 2, 9, 10, 11, 12, 13, 14, 35, 36] (.pc l7_0) (h7_0_0 p s)).run = fo7_0 p s (su7_0_0 p s) := (rd7_0_0 p s _ rfl _ rfl).trans (q7_0_0 p s _ _ _ _ _ _ _ _ _ _ _).symm
theorem rd7_0_1 (p : Pg7_0) (s : Sg7_0) (t1 : List Ent × Int) (ht1 : t1 = (pA (lsE s.ns11 s.gs11) (⟨(toI (hdA (p.gs10 (Int.tmod (W (s.is36 + (W p.is1))) (↑p.ns10 : Int)).toNat))), (toI (hdA (tlA (p.gs10 (Int.tmod (W (s.is36 + (W p.is1))) (↑p.ns10 : Int)).toNat)))), (toI (hdA (tlA (tlA (p.gs10 (Int.tmod (W (s.is36 + (W p.is1))) (↑p.ns10 : Int)).toNat))))), (toI (hdA (tlA (tlA (tlA (p.gs10 (Int.tmod (W (s.is36 + (W p.is1))) (↑p.ns10 : Int)).toNat))))))⟩ : Ent))) (t2 : Bool) (ht2 : t2 = (p16 (lsE s.ns11 s.gs11) (lsE 0 (fun k => getRow [] (0 + k))))) (t3 : Bool) (ht3 : t3 = (p16 (lsE s.ns11 s.gs11) (lsE (0 + (len (mapL s.gs11 (List.range s.ns11)))) (fun k => getRow (app [] (mapL s.gs11 (List.range s.ns11))) (0 + k))))) : (roundE (En tb7) 0 [1, 2, 9, 10, 11, 12, 13, 14, 35, 36] (.pc l7_0) (h7_0_1 p s)).run = (sel (decide (s.is36 < p.is35))
 (sel ((↑p.ns10 : Int) == 0)
  none
  (sel (inB (Int.tmod (W (s.is36 + (W p.is1))) (↑p.ns10 : Int)) p.ns10)
  (sel ((Nat.ble 4 (len (p.gs10 (Int.tmod (W (s.is36 + (W p.is1))) (↑p.ns10 : Int)).toNat))) && (okCKs [(CK.int .i64), (CK.int .i64), (CK.int .i64), (CK.int .i64)] (p.gs10 (Int.tmod (W (s.is36 + (W p.is1))) (↑p.ns10 : Int)).toNat)))
  (sel (Nat.beq (len (mapL s.gs11 (List.range s.ns11))) 0)
  (sel (okEs s.ns11 s.gs11)
  (sel (gA (lsE s.ns11 s.gs11) (⟨(toI (hdA (p.gs10 (Int.tmod (W (s.is36 + (W p.is1))) (↑p.ns10 : Int)).toNat))), (toI (hdA (tlA (p.gs10 (Int.tmod (W (s.is36 + (W p.is1))) (↑p.ns10 : Int)).toNat)))), (toI (hdA (tlA (tlA (p.gs10 (Int.tmod (W (s.is36 + (W p.is1))) (↑p.ns10 : Int)).toNat))))), (toI (hdA (tlA (tlA (tlA (p.gs10 (Int.tmod (W (s.is36 + (W p.is1))) (↑p.ns10 : Int)).toNat))))))⟩ : Ent))
  (sel (t1.2 != 0)
  (some (x7_0_4 p s))
  (sel (okEs s.ns11 s.gs11)
  (sel (okEs 0 (fun k => getRow [] (0 + k)))
  (sel (g16 (lsE s.ns11 s.gs11) (lsE 0 (fun k => getRow [] (0 + k))))
  (sel (!t2)
  (some (x7_0_5 p s))
  (sel ((toI (hdA (p.gs10 (Int.tmod (W (s.is36 + (W p.is1))) (↑p.ns10 : Int)).toNat))) == p.is14)
  (some (.normal, h7_0_1 p ⟨1, (W (s.is12 + (toI (hdA (tlA (tlA (p.gs10 (Int.tmod (W (s.is36 + (W p.is1))) (↑p.ns10 : Int)).toNat))))))), (W (s.is13 + (toI (hdA (tlA (tlA (tlA (p.gs10 (Int.tmod (W (s.is36 + (W p.is1))) (↑p.ns10 : Int)).toNat)))))))), (W (s.is36 + 1)), (List.length t1.1), (fun k => rE (gE t1.1 k))⟩))
  (some (.normal, h7_0_1 p ⟨1, s.is12, s.is13, (W (s.is36 + 1)), (List.length t1.1), (fun k => rE (gE t1.1 k))⟩))))
  none)
  none)
  none))
  none)
  none)
  (sel (Nat.beq 0 0 && Nat.ble ((0 + (len (mapL s.gs11 (List.range s.ns11)))) * 32) room)
  (sel (okEs s.ns11 s.gs11)
  (sel (gA (lsE s.ns11 s.gs11) (⟨(toI (hdA (p.gs10 (Int.tmod (W (s.is36 + (W p.is1))) (↑p.ns10 : Int)).toNat))), (toI (hdA (tlA (p.gs10 (Int.tmod (W (s.is36 + (W p.is1))) (↑p.ns10 : Int)).toNat)))), (toI (hdA (tlA (tlA (p.gs10 (Int.tmod (W (s.is36 + (W p.is1))) (↑p.ns10 : Int)).toNat))))), (toI (hdA (tlA (tlA (tlA (p.gs10 (Int.tmod (W (s.is36 + (W p.is1))) (↑p.ns10 : Int)).toNat))))))⟩ : Ent))
  (sel (t1.2 != 0)
  (some (x7_0_6 p s))
  (sel (okEs s.ns11 s.gs11)
  (sel (okEs (0 + (len (mapL s.gs11 (List.range s.ns11)))) (fun k => getRow (app [] (mapL s.gs11 (List.range s.ns11))) (0 + k)))
  (sel (g16 (lsE s.ns11 s.gs11) (lsE (0 + (len (mapL s.gs11 (List.range s.ns11)))) (fun k => getRow (app [] (mapL s.gs11 (List.range s.ns11))) (0 + k))))
  (sel (!t3)
  (some (x7_0_7 p s))
  (sel ((toI (hdA (p.gs10 (Int.tmod (W (s.is36 + (W p.is1))) (↑p.ns10 : Int)).toNat))) == p.is14)
  (some (.normal, h7_0_1 p ⟨1, (W (s.is12 + (toI (hdA (tlA (tlA (p.gs10 (Int.tmod (W (s.is36 + (W p.is1))) (↑p.ns10 : Int)).toNat))))))), (W (s.is13 + (toI (hdA (tlA (tlA (tlA (p.gs10 (Int.tmod (W (s.is36 + (W p.is1))) (↑p.ns10 : Int)).toNat)))))))), (W (s.is36 + 1)), (List.length t1.1), (fun k => rE (gE t1.1 k))⟩))
  (some (.normal, h7_0_1 p ⟨1, s.is12, s.is13, (W (s.is36 + 1)), (List.length t1.1), (fun k => rE (gE t1.1 k))⟩))))
  none)
  none)
  none))
  none)
  none)
  none))
  none)
  none))
 (some (x7_0_8 p s))) := by subst ht1; subst ht2; subst ht3; kernel_rfl
noncomputable def su7_0_1 (p : Pg7_0) (s : Sg7_0) : Stp Sg7_0 := let t1 := (pA (lsE s.ns11 s.gs11) (⟨(toI (hdA (p.gs10 (Int.tmod (W (s.is36 + (W p.is1))) (↑p.ns10 : Int)).toNat))), (toI (hdA (tlA (p.gs10 (Int.tmod (W (s.is36 + (W p.is1))) (↑p.ns10 : Int)).toNat)))), (toI (hdA (tlA (tlA (p.gs10 (Int.tmod (W (s.is36 + (W p.is1))) (↑p.ns10 : Int)).toNat))))), (toI (hdA (tlA (tlA (tlA (p.gs10 (Int.tmod (W (s.is36 + (W p.is1))) (↑p.ns10 : Int)).toNat))))))⟩ : Ent)); let t2 := (p16 (lsE s.ns11 s.gs11) (lsE 0 (fun k => getRow [] (0 + k)))); let t3 := (p16 (lsE s.ns11 s.gs11) (lsE (0 + (len (mapL s.gs11 (List.range s.ns11)))) (fun k => getRow (app [] (mapL s.gs11 (List.range s.ns11))) (0 + k)))); (sel (decide (s.is36 < p.is35))
 (sel ((↑p.ns10 : Int) == 0)
  .fail
  (sel (inB (Int.tmod (W (s.is36 + (W p.is1))) (↑p.ns10 : Int)) p.ns10)
  (sel ((Nat.ble 4 (len (p.gs10 (Int.tmod (W (s.is36 + (W p.is1))) (↑p.ns10 : Int)).toNat))) && (okCKs [(CK.int .i64), (CK.int .i64), (CK.int .i64), (CK.int .i64)] (p.gs10 (Int.tmod (W (s.is36 + (W p.is1))) (↑p.ns10 : Int)).toNat)))
  (sel (Nat.beq (len (mapL s.gs11 (List.range s.ns11))) 0)
  (sel (okEs s.ns11 s.gs11)
  (sel (gA (lsE s.ns11 s.gs11) (⟨(toI (hdA (p.gs10 (Int.tmod (W (s.is36 + (W p.is1))) (↑p.ns10 : Int)).toNat))), (toI (hdA (tlA (p.gs10 (Int.tmod (W (s.is36 + (W p.is1))) (↑p.ns10 : Int)).toNat)))), (toI (hdA (tlA (tlA (p.gs10 (Int.tmod (W (s.is36 + (W p.is1))) (↑p.ns10 : Int)).toNat))))), (toI (hdA (tlA (tlA (tlA (p.gs10 (Int.tmod (W (s.is36 + (W p.is1))) (↑p.ns10 : Int)).toNat))))))⟩ : Ent))
  (sel (t1.2 != 0)
  (.exit 4)
  (sel (okEs s.ns11 s.gs11)
  (sel (okEs 0 (fun k => getRow [] (0 + k)))
  (sel (g16 (lsE s.ns11 s.gs11) (lsE 0 (fun k => getRow [] (0 + k))))
  (sel (!t2)
  (.exit 5)
  (sel ((toI (hdA (p.gs10 (Int.tmod (W (s.is36 + (W p.is1))) (↑p.ns10 : Int)).toNat))) == p.is14)
  (.next ⟨1, (W (s.is12 + (toI (hdA (tlA (tlA (p.gs10 (Int.tmod (W (s.is36 + (W p.is1))) (↑p.ns10 : Int)).toNat))))))), (W (s.is13 + (toI (hdA (tlA (tlA (tlA (p.gs10 (Int.tmod (W (s.is36 + (W p.is1))) (↑p.ns10 : Int)).toNat)))))))), (W (s.is36 + 1)), (List.length t1.1), (fun k => rE (gE t1.1 k))⟩)
  (.next ⟨1, s.is12, s.is13, (W (s.is36 + 1)), (List.length t1.1), (fun k => rE (gE t1.1 k))⟩)))
  .fail)
  .fail)
  .fail))
  .fail)
  .fail)
  (sel (Nat.beq 0 0 && Nat.ble ((0 + (len (mapL s.gs11 (List.range s.ns11)))) * 32) room)
  (sel (okEs s.ns11 s.gs11)
  (sel (gA (lsE s.ns11 s.gs11) (⟨(toI (hdA (p.gs10 (Int.tmod (W (s.is36 + (W p.is1))) (↑p.ns10 : Int)).toNat))), (toI (hdA (tlA (p.gs10 (Int.tmod (W (s.is36 + (W p.is1))) (↑p.ns10 : Int)).toNat)))), (toI (hdA (tlA (tlA (p.gs10 (Int.tmod (W (s.is36 + (W p.is1))) (↑p.ns10 : Int)).toNat))))), (toI (hdA (tlA (tlA (tlA (p.gs10 (Int.tmod (W (s.is36 + (W p.is1))) (↑p.ns10 : Int)).toNat))))))⟩ : Ent))
  (sel (t1.2 != 0)
  (.exit 6)
  (sel (okEs s.ns11 s.gs11)
  (sel (okEs (0 + (len (mapL s.gs11 (List.range s.ns11)))) (fun k => getRow (app [] (mapL s.gs11 (List.range s.ns11))) (0 + k)))
  (sel (g16 (lsE s.ns11 s.gs11) (lsE (0 + (len (mapL s.gs11 (List.range s.ns11)))) (fun k => getRow (app [] (mapL s.gs11 (List.range s.ns11))) (0 + k))))
  (sel (!t3)
  (.exit 7)
  (sel ((toI (hdA (p.gs10 (Int.tmod (W (s.is36 + (W p.is1))) (↑p.ns10 : Int)).toNat))) == p.is14)
  (.next ⟨1, (W (s.is12 + (toI (hdA (tlA (tlA (p.gs10 (Int.tmod (W (s.is36 + (W p.is1))) (↑p.ns10 : Int)).toNat))))))), (W (s.is13 + (toI (hdA (tlA (tlA (tlA (p.gs10 (Int.tmod (W (s.is36 + (W p.is1))) (↑p.ns10 : Int)).toNat)))))))), (W (s.is36 + 1)), (List.length t1.1), (fun k => rE (gE t1.1 k))⟩)
  (.next ⟨1, s.is12, s.is13, (W (s.is36 + 1)), (List.length t1.1), (fun k => rE (gE t1.1 k))⟩)))
  .fail)
  .fail)
  .fail))
  .fail)
  .fail)
  .fail))
  .fail)
  .fail))
 (.exit 8))
theorem q7_0_1 (p : Pg7_0) (s : Sg7_0) (c1 c2 c3 c4 c5 c6 c7 c8 c9 c10 c11 c12 c13 c14 c15 c16 : Bool) (t1 : List Ent × Int) : (fo7_0 p s) (sel c1
 (sel c2
  .fail
  (sel c3
  (sel c4
  (sel c5
  (sel c6
  (sel c7
  (sel c8
  (.exit 4)
  (sel c6
  (sel c9
  (sel c10
  (sel c11
  (.exit 5)
  (sel c12
  (.next ⟨1, (W (s.is12 + (toI (hdA (tlA (tlA (p.gs10 (Int.tmod (W (s.is36 + (W p.is1))) (↑p.ns10 : Int)).toNat))))))), (W (s.is13 + (toI (hdA (tlA (tlA (tlA (p.gs10 (Int.tmod (W (s.is36 + (W p.is1))) (↑p.ns10 : Int)).toNat)))))))), (W (s.is36 + 1)), (List.length t1.1), (fun k => rE (gE t1.1 k))⟩)
  (.next ⟨1, s.is12, s.is13, (W (s.is36 + 1)), (List.length t1.1), (fun k => rE (gE t1.1 k))⟩)))
  .fail)
  .fail)
  .fail))
  .fail)
  .fail)
  (sel c13
  (sel c6
  (sel c7
  (sel c8
  (.exit 6)
  (sel c6
  (sel c14
  (sel c15
  (sel c16
  (.exit 7)
  (sel c12
  (.next ⟨1, (W (s.is12 + (toI (hdA (tlA (tlA (p.gs10 (Int.tmod (W (s.is36 + (W p.is1))) (↑p.ns10 : Int)).toNat))))))), (W (s.is13 + (toI (hdA (tlA (tlA (tlA (p.gs10 (Int.tmod (W (s.is36 + (W p.is1))) (↑p.ns10 : Int)).toNat)))))))), (W (s.is36 + 1)), (List.length t1.1), (fun k => rE (gE t1.1 k))⟩)
  (.next ⟨1, s.is12, s.is13, (W (s.is36 + 1)), (List.length t1.1), (fun k => rE (gE t1.1 k))⟩)))
  .fail)
  .fail)
  .fail))
  .fail)
  .fail)
  .fail))
  .fail)
  .fail))
 (.exit 8)) = (sel c1
 (sel c2
  none
  (sel c3
  (sel c4
  (sel c5
  (sel c6
  (sel c7
  (sel c8
  (some (x7_0_4 p s))
  (sel c6
  (sel c9
  (sel c10
  (sel c11
  (some (x7_0_5 p s))
  (sel c12
  (some (.normal, h7_0_1 p ⟨1, (W (s.is12 + (toI (hdA (tlA (tlA (p.gs10 (Int.tmod (W (s.is36 + (W p.is1))) (↑p.ns10 : Int)).toNat))))))), (W (s.is13 + (toI (hdA (tlA (tlA (tlA (p.gs10 (Int.tmod (W (s.is36 + (W p.is1))) (↑p.ns10 : Int)).toNat)))))))), (W (s.is36 + 1)), (List.length t1.1), (fun k => rE (gE t1.1 k))⟩))
  (some (.normal, h7_0_1 p ⟨1, s.is12, s.is13, (W (s.is36 + 1)), (List.length t1.1), (fun k => rE (gE t1.1 k))⟩))))
  none)
  none)
  none))
  none)
  none)
  (sel c13
  (sel c6
  (sel c7
  (sel c8
  (some (x7_0_6 p s))
  (sel c6
  (sel c14
  (sel c15
  (sel c16
  (some (x7_0_7 p s))
  (sel c12
  (some (.normal, h7_0_1 p ⟨1, (W (s.is12 + (toI (hdA (tlA (tlA (p.gs10 (Int.tmod (W (s.is36 + (W p.is1))) (↑p.ns10 : Int)).toNat))))))), (W (s.is13 + (toI (hdA (tlA (tlA (tlA (p.gs10 (Int.tmod (W (s.is36 + (W p.is1))) (↑p.ns10 : Int)).toNat)))))))), (W (s.is36 + 1)), (List.length t1.1), (fun k => rE (gE t1.1 k))⟩))
  (some (.normal, h7_0_1 p ⟨1, s.is12, s.is13, (W (s.is36 + 1)), (List.length t1.1), (fun k => rE (gE t1.1 k))⟩))))
  none)
  none)
  none))
  none)
  none)
  none))
  none)
  none))
 (some (x7_0_8 p s))) := (stpSel (f := (fo7_0 p s)) (stpSel (f := (fo7_0 p s)) rfl (stpSel (f := (fo7_0 p s)) (stpSel (f := (fo7_0 p s)) (stpSel (f := (fo7_0 p s)) (stpSel (f := (fo7_0 p s)) (stpSel (f := (fo7_0 p s)) (stpSel (f := (fo7_0 p s)) rfl (stpSel (f := (fo7_0 p s)) (stpSel (f := (fo7_0 p s)) (stpSel (f := (fo7_0 p s)) (stpSel (f := (fo7_0 p s)) rfl (stpSel (f := (fo7_0 p s)) rfl rfl)) rfl) rfl) rfl)) rfl) rfl) (stpSel (f := (fo7_0 p s)) (stpSel (f := (fo7_0 p s)) (stpSel (f := (fo7_0 p s)) (stpSel (f := (fo7_0 p s)) rfl (stpSel (f := (fo7_0 p s)) (stpSel (f := (fo7_0 p s)) (stpSel (f := (fo7_0 p s)) (stpSel (f := (fo7_0 p s)) rfl (stpSel (f := (fo7_0 p s)) rfl rfl)) rfl) rfl) rfl)) rfl) rfl) rfl)) rfl) rfl)) rfl)
theorem sp7_0_1 (p : Pg7_0) (s : Sg7_0) : (roundE (En tb7) 0 [1, 2, 9, 10, 11, 12, 13, 14, 35, 36] (.pc l7_0) (h7_0_1 p s)).run = fo7_0 p s (su7_0_1 p s) := (rd7_0_1 p s _ rfl _ rfl _ rfl).trans (q7_0_1 p s _ _ _ _ _ _ _ _ _ _ _ _ _ _ _ _ _).symm
noncomputable def st7_0 (p : Pg7_0) (s : Sg7_0) : Stp Sg7_0 := (sel (Nat.beq s.ph 1) (su7_0_1 p s) (su7_0_0 p s))
theorem sp7_0 (p : Pg7_0) (s : Sg7_0) : (roundE (En tb7) 0 [1, 2, 9, 10, 11, 12, 13, 14, 35, 36] (.pc l7_0) (en7_0 p s)).run = fo7_0 p s (st7_0 p s) := by
  show (roundE (En tb7) 0 [1, 2, 9, 10, 11, 12, 13, 14, 35, 36] (.pc l7_0) (sel (Nat.beq s.ph 1) (h7_0_1 p s) (h7_0_0 p s))).run = fo7_0 p s (sel (Nat.beq s.ph 1) (su7_0_1 p s) (su7_0_0 p s))
  cases Nat.beq s.ph 1 with
  | true => exact sp7_0_1 p s
  | false =>
  exact sp7_0_0 p s
noncomputable def al7_0_0 : Alt Pg7_0 Sg7_0 := ⟨[(.s .unk), (.s (.int .u8)), (.s (.int .u8)), (.s .unk), (.s .unk), (.s .unk), (.s .unk), (.s .unk), (.s .unk), (.s (.blit true)), (.s (.tree 4)), (.s .nil), (.s (.int .i64)), (.s (.int .i64)), (.s (.int .i64)), (.s .unk), (.s .unk), (.s .unk), (.s .unk), (.s .unk), (.s .unk), (.s .unk), (.s .unk), (.s .unk), (.s .unk), (.s .unk), (.s .unk), (.s .unk), (.s .unk), (.s .unk), (.s .unk), (.s .unk), (.s .unk), (.s .unk), (.s .unk), (.s (.int .i64)), (.s (.int .i64)), (.s .unk), (.s .unk), (.s .unk), (.s .unk), (.s .unk), (.s .unk), (.s .unk), (.s .unk), (.s .unk), (.s .unk), (.s .unk), (.s .unk), (.s .unk), (.s .unk), (.s .unk), (.s .unk), (.s .unk), (.s .unk), (.s .unk), (.s .unk), (.s .unk), (.s .unk), (.s .unk), (.s .unk), (.s .unk), (.s .unk), (.s .unk), (.s .unk), (.s .unk), (.s .unk), (.s .unk), (.s .unk), (.s .unk), (.s .unk), (.s .unk), (.s .unk), (.s .unk), (.s .unk), (.s .unk), (.s .unk), (.s .unk), (.s .unk), (.s .unk), (.s .unk), (.s .unk), (.s .unk), (.s .unk), (.s .unk), (.s .unk), (.s .unk), (.s .unk), (.s .unk), (.s .unk), (.s .unk), (.s .unk), (.s .unk), (.s .unk), (.s .unk), (.s .unk), (.s .unk), (.s .unk), (.s .unk), (.s .unk), (.s .unk), (.s .unk), (.s .unk), (.s .unk), (.s .unk), (.s .unk), (.s .unk), (.s .unk), (.s .unk), (.s .unk), (.s .unk), (.s .unk), (.s .unk), (.s .unk), (.s .unk), (.s .unk), (.s .unk), (.s .unk), (.s .unk), (.s .unk), (.s .unk), (.s .unk), (.s .unk), (.s .unk), (.s .unk), (.s .unk), (.s .unk), (.s .unk), (.s .unk), (.s .unk), (.s .unk), (.s .unk), (.s .unk), (.s .unk), (.s .unk), (.s .unk), (.s .unk), (.s .unk), (.s .unk), (.s .unk), (.s .unk), (.s .unk), (.s .unk), (.s .unk), (.s .unk), (.s .unk), (.s .unk)], [], fun a H => (⟨(toI (slotA a 1)), (toI (slotA a 2)), (toN (slotA a 10)), (toG (slotA a 10)), (toI (slotA a 14)), (toI (slotA a 35))⟩, ⟨0, (toI (slotA a 12)), (toI (slotA a 13)), (toI (slotA a 36)), 0, (fun _ => [])⟩)⟩
theorem la7_0_0 (a : List AVal) (H : List ABlk) : (⟨asSls al7_0_0.sh a, asBks al7_0_0.bl H⟩ : St) = en7_0 (al7_0_0.rd (asSls al7_0_0.sh a) (asBks al7_0_0.bl H)).1 (al7_0_0.rd (asSls al7_0_0.sh a) (asBks al7_0_0.bl H)).2 := by kernel_rfl
noncomputable def al7_0_1 : Alt Pg7_0 Sg7_0 := ⟨[(.s .unk), (.s (.int .u8)), (.s (.int .u8)), (.s .unk), (.s .unk), (.s .unk), (.s .unk), (.s .unk), (.s .unk), (.s (.blit true)), (.s (.tree 4)), (.s (.tree 4)), (.s (.int .i64)), (.s (.int .i64)), (.s (.int .i64)), (.s .unk), (.s .unk), (.s .unk), (.s .unk), (.s .unk), (.s .unk), (.s .unk), (.s .unk), (.s .unk), (.s .unk), (.s .unk), (.s .unk), (.s .unk), (.s .unk), (.s .unk), (.s .unk), (.s .unk), (.s .unk), (.s .unk), (.s .unk), (.s (.int .i64)), (.s (.int .i64)), (.s .unk), (.s .unk), (.s .unk), (.s .unk), (.s .unk), (.s .unk), (.s .unk), (.s .unk), (.s .unk), (.s .unk), (.s .unk), (.s .unk), (.s .unk), (.s .unk), (.s .unk), (.s .unk), (.s .unk), (.s .unk), (.s .unk), (.s .unk), (.s .unk), (.s .unk), (.s .unk), (.s .unk), (.s .unk), (.s .unk), (.s .unk), (.s .unk), (.s .unk), (.s .unk), (.s .unk), (.s .unk), (.s .unk), (.s .unk), (.s .unk), (.s .unk), (.s .unk), (.s .unk), (.s .unk), (.s .unk), (.s .unk), (.s .unk), (.s .unk), (.s .unk), (.s .unk), (.s .unk), (.s .unk), (.s .unk), (.s .unk), (.s .unk), (.s .unk), (.s .unk), (.s .unk), (.s .unk), (.s .unk), (.s .unk), (.s .unk), (.s .unk), (.s .unk), (.s .unk), (.s .unk), (.s .unk), (.s .unk), (.s .unk), (.s .unk), (.s .unk), (.s .unk), (.s .unk), (.s .unk), (.s .unk), (.s .unk), (.s .unk), (.s .unk), (.s .unk), (.s .unk), (.s .unk), (.s .unk), (.s .unk), (.s .unk), (.s .unk), (.s .unk), (.s .unk), (.s .unk), (.s .unk), (.s .unk), (.s .unk), (.s .unk), (.s .unk), (.s .unk), (.s .unk), (.s .unk), (.s .unk), (.s .unk), (.s .unk), (.s .unk), (.s .unk), (.s .unk), (.s .unk), (.s .unk), (.s .unk), (.s .unk), (.s .unk), (.s .unk), (.s .unk), (.s .unk), (.s .unk), (.s .unk), (.s .unk), (.s .unk), (.s .unk)], [], fun a H => (⟨(toI (slotA a 1)), (toI (slotA a 2)), (toN (slotA a 10)), (toG (slotA a 10)), (toI (slotA a 14)), (toI (slotA a 35))⟩, ⟨1, (toI (slotA a 12)), (toI (slotA a 13)), (toI (slotA a 36)), (toN (slotA a 11)), (toG (slotA a 11))⟩)⟩
theorem la7_0_1 (a : List AVal) (H : List ABlk) : (⟨asSls al7_0_1.sh a, asBks al7_0_1.bl H⟩ : St) = en7_0 (al7_0_1.rd (asSls al7_0_1.sh a) (asBks al7_0_1.bl H)).1 (al7_0_1.rd (asSls al7_0_1.sh a) (asBks al7_0_1.bl H)).2 := by kernel_rfl
noncomputable def as7_0 : List (Alt Pg7_0 Sg7_0) := [al7_0_0, al7_0_1]
theorem lo7_0 (s : St) : Below ((loopL 0 [1, 2, 9, 10, 11, 12, 13, 14, 35, 36] as7_0 st7_0 xs7_0) s) (exec (En tb7) 0 (.loop [1, 2, 9, 10, 11, 12, 13, 14, 35, 36] l7_0) s) :=
  loopL_below (E := En tb7) (enc := en7_0) (body := (.pc l7_0)) (alts := as7_0) (xs := xs7_0) (.pc _) rfl (.cons la7_0_0 (.cons la7_0_1 .nil)) (.cons nx7_0_1 (.cons nx7_0_2 (.cons nx7_0_3 (.cons nx7_0_4 (.cons nx7_0_5 (.cons nx7_0_6 (.cons nx7_0_7 (.cons nx7_0_8 .nil)))))))) (fun p s => sp7_0 p s) s
noncomputable def ps7 : PS := (.seq (.pc (.ops [(o 8 (.mv (cb false)))])) (.seq (.pc (.ops [(o 28 (.call 9 [])), (o 9 (.mv (.t 28)))])) (.seq (.pc (.ops [(o 29 (.mv (.t 0))), (o 30 (.call 10 [(.t 29)])), (o 10 (.mv (.t 30)))])) (.seq (.pc (.ops [(o 11 (.mv (.c (.v (.slice none 0 0)))))])) (.seq (.pc (.ops [(o 12 (.mv (ci 0))), (o 13 (.mv (ci 0)))])) (.seq (.pc (.ops [(o 31 (.mv (.t 3))), (o 32 (.gen ⟨none, (.convert 5 3 (.tmp 31)), 3, "", #[], none⟩ [31])), (o 33 (.bin .rem (.t 32) (ci 4))), (o 14 (.mv (.t 33)))])) (.seq (.seq (.pc (.ops [(o 34 (.mv (.t 10))), (o 35 (.len (.t 34))), (o 36 (.mv (ci 0)))])) (.block 0 (.sum (loopL 0 [1, 2, 9, 10, 11, 12, 13, 14, 35, 36] as7_0 st7_0 xs7_0)))) (.pc (.seq (.ops [(o 81 (.mv (.t 11))), (o 82 (.mv (.t 14))), (o 83 (.call 20 [(.t 81), (.t 82)])), (o 80 (.mv (.t 83))), (o 84 (.ext (.t 80) 0)), (o 85 (.ext (.t 80) 1)), (o 86 (.ext (.t 80) 2)), (o 20 (.mv (.t 84))), (o 21 (.mv (.t 85))), (o 22 (.mv (.t 86)))]) (.seq (.seq (.ops [(o 87 (.mv (.t 22))), (o 88 (.bin .neq (.t 87) (ci 0))), (o 89 (.mv (.t 88))), ⟨(.some 90), (.some (89, false)), [], (.mv (.t 20))⟩, ⟨(.some 91), (.some (89, false)), [], (.mv (.t 12))⟩, ⟨(.some 92), (.some (89, false)), [], (.bin .neq (.t 90) (.t 91))⟩, (o 93 (.pick (.t 89) (cb true) (.t 92))), (o 94 (.mv (.t 93))), ⟨(.some 95), (.some (94, false)), [], (.mv (.t 21))⟩, ⟨(.some 96), (.some (94, false)), [], (.mv (.t 13))⟩, ⟨(.some 97), (.some (94, false)), [], (.bin .neq (.t 95) (.t 96))⟩, (o 98 (.pick (.t 94) (cb true) (.t 97))), (o 99 (.mv (.t 98))), ⟨(.some 100), (.some (99, false)), [], (.mv (.t 11))⟩, ⟨(.some 101), (.some (99, false)), [], (.mv (.t 10))⟩, ⟨(.some 102), (.some (99, false)), [], (.call 16 [(.t 100), (.t 101)])⟩, ⟨(.some 103), (.some (99, false)), [], (.not (.t 102))⟩, (o 104 (.pick (.t 99) (cb true) (.t 103)))]) (.cond (.t 104) (.seq (.ops [(o 8 (.mv (cb false)))]) .ret) .skip)) (.seq (.seq (.ops [(o 105 (.mv (.t 10))), (o 106 (.len (.t 105))), (o 107 (.bin .eql (.t 106) (ci 0)))]) (.cond (.t 107) (.seq (.ops [(o 108 (.mv (.t 9))), (o 8 (.mv (.t 108)))]) .ret) .skip)) (.seq (.ops [(o 109 (.mv (.t 10))), (o 110 (.mv (.t 2))), (o 111 (.gen ⟨none, (.convert 5 3 (.tmp 110)), 3, "", #[], none⟩ [110])), (o 112 (.mv (.t 10))), (o 113 (.len (.t 112))), (o 114 (.bin .rem (.t 111) (.t 113))), (o 115 (.idxS 4 (.t 109) (.t 114))), (o 116 (.load (ki 4) 4 true (.t 115))), (o 23 (.alloc (rep 4 (vi 0)))), (s (.store 4 (.t 23) (.t 116)))]) (.seq (.ops [(o 118 (.mv (.t 11))), (o 119 (.load (ki 4) 4 true (.t 23))), (o 120 (.call 14 [(.t 118), (.t 119)])), (o 117 (.mv (.t 120))), (o 121 (.ext (.t 117) 0)), (o 122 (.ext (.t 117) 1)), (o 24 (.mv (.t 121))), (o 25 (.mv (.t 122)))]) (.seq (.ops [(o 123 (.fld 3 (.t 23))), (o 124 (.load (ki 1) 1 false (.t 123))), (o 125 (.bin .add (.t 124) (ci 1))), (o 126 (.fld 3 (.t 23))), (s (.store 1 (.t 126) (.t 125)))]) (.seq (.ops [(o 128 (.mv (.t 11))), (o 129 (.load (ki 4) 4 true (.t 23))), (o 130 (.call 14 [(.t 128), (.t 129)])), (o 127 (.mv (.t 130))), (o 131 (.ext (.t 127) 0)), (o 132 (.ext (.t 127) 1)), (o 26 (.mv (.t 131))), (o 27 (.mv (.t 132)))]) (.seq (.ops [(o 133 (.mv (.t 9))), (o 134 (.mv (.t 133))), ⟨(.some 135), (.some (134, true)), [], (.mv (.t 25))⟩, ⟨(.some 136), (.some (134, true)), [], (.bin .eql (.t 135) (ci 0))⟩, (o 137 (.pick (.t 134) (.t 136) (cb false))), (o 138 (.mv (.t 137))), ⟨(.some 139), (.some (138, true)), [], (.mv (.t 24))⟩, ⟨(.some 140), (.some (138, true)), [], (.mv (.t 10))⟩, ⟨(.some 141), (.some (138, true)), [], (.call 16 [(.t 139), (.t 140)])⟩, (o 142 (.pick (.t 138) (.t 141) (cb false))), (o 143 (.mv (.t 142))), ⟨(.some 144), (.some (143, true)), [], (.mv (.t 27))⟩, ⟨(.some 145), (.some (143, true)), [], (.bin .eql (.t 144) (ci 6))⟩, (o 146 (.pick (.t 143) (.t 145) (cb false))), (o 8 (.mv (.t 146)))]) .ret))))))))))))))))
theorem sd7 : Stands (En tb7) 0 ps7 pf7.body := (.seq (.pc _) (.seq (.pc _) (.seq (.pc _) (.seq (.pc _) (.seq (.pc _) (.seq (.pc _) (.seq (.seq (.pc _) (.block _ (.sum lo7_0))) (.pc _))))))))
noncomputable def p7 (x : List IL) (y : Int) (z : Int) (w : Int) : Bool := let t1 := (p10 (⟨(List.length x), (fun k => rJ (gJ x k))⟩ : Ag10)); let t2 := (lp (st7_0 (⟨y, z, (List.length t1), (fun k => rE (gE t1 k)), (Int.tmod (W w) 4), (↑(List.length t1) : Int)⟩ : Pg7_0)) (⟨0, 0, 0, 0, 0, (fun _ => [])⟩ : Sg7_0)); let t5 := (pT [] (Int.tmod (W w) 4)); let t6 := (p16 [] (lsE (List.length t1) (fun k => rE (gE t1 k)))); let t7 := (pA [] (⟨(gE t1 (Int.tmod (W z) (↑(List.length t1) : Int)).toNat).t, (gE t1 (Int.tmod (W z) (↑(List.length t1) : Int)).toNat).o, (gE t1 (Int.tmod (W z) (↑(List.length t1) : Int)).toNat).l, (gE t1 (Int.tmod (W z) (↑(List.length t1) : Int)).toNat).h⟩ : Ent)); let t8 := (pA [] (⟨(gE t1 (Int.tmod (W z) (↑(List.length t1) : Int)).toNat).t, (gE t1 (Int.tmod (W z) (↑(List.length t1) : Int)).toNat).o, (gE t1 (Int.tmod (W z) (↑(List.length t1) : Int)).toNat).l, (W ((gE t1 (Int.tmod (W z) (↑(List.length t1) : Int)).toNat).h + 1))⟩ : Ent)); let t9 := (p16 (lsE (List.length t7.1) (fun k => rE (gE t7.1 k))) (lsE (List.length t1) (fun k => rE (gE t1 k)))); let t13 := (pT (lsE t2.2.ns11 t2.2.gs11) (Int.tmod (W w) 4)); let t14 := (p16 (lsE t2.2.ns11 t2.2.gs11) (lsE (List.length t1) (fun k => rE (gE t1 k)))); let t15 := (pA (lsE t2.2.ns11 t2.2.gs11) (⟨(gE t1 (Int.tmod (W z) (↑(List.length t1) : Int)).toNat).t, (gE t1 (Int.tmod (W z) (↑(List.length t1) : Int)).toNat).o, (gE t1 (Int.tmod (W z) (↑(List.length t1) : Int)).toNat).l, (gE t1 (Int.tmod (W z) (↑(List.length t1) : Int)).toNat).h⟩ : Ent)); let t16 := (pA (lsE t2.2.ns11 t2.2.gs11) (⟨(gE t1 (Int.tmod (W z) (↑(List.length t1) : Int)).toNat).t, (gE t1 (Int.tmod (W z) (↑(List.length t1) : Int)).toNat).o, (gE t1 (Int.tmod (W z) (↑(List.length t1) : Int)).toNat).l, (W ((gE t1 (Int.tmod (W z) (↑(List.length t1) : Int)).toNat).h + 1))⟩ : Ent)); let t17 := (p16 (lsE (List.length t15.1) (fun k => rE (gE t15.1 k))) (lsE (List.length t1) (fun k => rE (gE t1 k)))); ((!(Nat.beq t2.1 1)) && ((!(Nat.beq t2.1 2)) && (sel (Nat.beq t2.1 3) ((!(t5.2.2 != 0)) && ((!(t5.1 != t2.2.is12)) && ((!(t5.2.1 != t2.2.is13)) && ((!(!t6)) && (((↑(List.length t1) : Int) == 0) || ((t7.2 == 0) && (t9 && (t8.2 == 6)))))))) ((!(Nat.beq t2.1 4)) && ((!(Nat.beq t2.1 5)) && ((!(Nat.beq t2.1 6)) && ((!(Nat.beq t2.1 7)) && ((!(t13.2.2 != 0)) && ((!(t13.1 != t2.2.is12)) && ((!(t13.2.1 != t2.2.is13)) && ((!(!t14)) && (((↑(List.length t1) : Int) == 0) || ((t15.2 == 0) && (t17 && (t16.2 == 6)))))))))))))))
noncomputable def g7 (x : List IL) (y : Int) (z : Int) (w : Int) : Bool := let t1 := (p10 (⟨(List.length x), (fun k => rJ (gJ x k))⟩ : Ag10)); let t2 := (lp (st7_0 (⟨y, z, (List.length t1), (fun k => rE (gE t1 k)), (Int.tmod (W w) 4), (↑(List.length t1) : Int)⟩ : Pg7_0)) (⟨0, 0, 0, 0, 0, (fun _ => [])⟩ : Sg7_0)); let t5 := (pT [] (Int.tmod (W w) 4)); let t6 := (p16 [] (lsE (List.length t1) (fun k => rE (gE t1 k)))); let t7 := (pA [] (⟨(gE t1 (Int.tmod (W z) (↑(List.length t1) : Int)).toNat).t, (gE t1 (Int.tmod (W z) (↑(List.length t1) : Int)).toNat).o, (gE t1 (Int.tmod (W z) (↑(List.length t1) : Int)).toNat).l, (gE t1 (Int.tmod (W z) (↑(List.length t1) : Int)).toNat).h⟩ : Ent)); let t8 := (pA [] (⟨(gE t1 (Int.tmod (W z) (↑(List.length t1) : Int)).toNat).t, (gE t1 (Int.tmod (W z) (↑(List.length t1) : Int)).toNat).o, (gE t1 (Int.tmod (W z) (↑(List.length t1) : Int)).toNat).l, (W ((gE t1 (Int.tmod (W z) (↑(List.length t1) : Int)).toNat).h + 1))⟩ : Ent)); let t9 := (p16 (lsE (List.length t7.1) (fun k => rE (gE t7.1 k))) (lsE (List.length t1) (fun k => rE (gE t1 k)))); let t13 := (pT (lsE t2.2.ns11 t2.2.gs11) (Int.tmod (W w) 4)); let t14 := (p16 (lsE t2.2.ns11 t2.2.gs11) (lsE (List.length t1) (fun k => rE (gE t1 k)))); let t15 := (pA (lsE t2.2.ns11 t2.2.gs11) (⟨(gE t1 (Int.tmod (W z) (↑(List.length t1) : Int)).toNat).t, (gE t1 (Int.tmod (W z) (↑(List.length t1) : Int)).toNat).o, (gE t1 (Int.tmod (W z) (↑(List.length t1) : Int)).toNat).l, (gE t1 (Int.tmod (W z) (↑(List.length t1) : Int)).toNat).h⟩ : Ent)); let t16 := (pA (lsE t2.2.ns11 t2.2.gs11) (⟨(gE t1 (Int.tmod (W z) (↑(List.length t1) : Int)).toNat).t, (gE t1 (Int.tmod (W z) (↑(List.length t1) : Int)).toNat).o, (gE t1 (Int.tmod (W z) (↑(List.length t1) : Int)).toNat).l, (W ((gE t1 (Int.tmod (W z) (↑(List.length t1) : Int)).toNat).h + 1))⟩ : Ent)); let t17 := (p16 (lsE (List.length t15.1) (fun k => rE (gE t15.1 k))) (lsE (List.length t1) (fun k => rE (gE t1 k)))); ((g10 (⟨(List.length x), (fun k => rJ (gJ x k))⟩ : Ag10)) && ((Nat.beq t2.1 1) || ((Nat.beq t2.1 2) || (sel (Nat.beq t2.1 3) ((gT [] (Int.tmod (W w) 4)) && ((t5.2.2 != 0) || ((t5.1 != t2.2.is12) || ((t5.2.1 != t2.2.is13) || ((okEs (List.length t1) (fun k => rE (gE t1 k))) && ((g16 [] (lsE (List.length t1) (fun k => rE (gE t1 k)))) && ((!t6) || (((↑(List.length t1) : Int) == 0) || ((inB (Int.tmod (W z) (↑(List.length t1) : Int)) (List.length t1)) && ((gA [] (⟨(gE t1 (Int.tmod (W z) (↑(List.length t1) : Int)).toNat).t, (gE t1 (Int.tmod (W z) (↑(List.length t1) : Int)).toNat).o, (gE t1 (Int.tmod (W z) (↑(List.length t1) : Int)).toNat).l, (gE t1 (Int.tmod (W z) (↑(List.length t1) : Int)).toNat).h⟩ : Ent)) && ((gA [] (⟨(gE t1 (Int.tmod (W z) (↑(List.length t1) : Int)).toNat).t, (gE t1 (Int.tmod (W z) (↑(List.length t1) : Int)).toNat).o, (gE t1 (Int.tmod (W z) (↑(List.length t1) : Int)).toNat).l, (W ((gE t1 (Int.tmod (W z) (↑(List.length t1) : Int)).toNat).h + 1))⟩ : Ent)) && ((!(t7.2 == 0)) || ((okEs (List.length t7.1) (fun k => rE (gE t7.1 k))) && (g16 (lsE (List.length t7.1) (fun k => rE (gE t7.1 k))) (lsE (List.length t1) (fun k => rE (gE t1 k))))))))))))))))) ((Nat.beq t2.1 4) || ((Nat.beq t2.1 5) || ((Nat.beq t2.1 6) || ((Nat.beq t2.1 7) || ((Nat.beq t2.1 8) && ((okEs t2.2.ns11 t2.2.gs11) && ((gT (lsE t2.2.ns11 t2.2.gs11) (Int.tmod (W w) 4)) && ((t13.2.2 != 0) || ((t13.1 != t2.2.is12) || ((t13.2.1 != t2.2.is13) || ((okEs (List.length t1) (fun k => rE (gE t1 k))) && ((g16 (lsE t2.2.ns11 t2.2.gs11) (lsE (List.length t1) (fun k => rE (gE t1 k)))) && ((!t14) || (((↑(List.length t1) : Int) == 0) || ((inB (Int.tmod (W z) (↑(List.length t1) : Int)) (List.length t1)) && ((gA (lsE t2.2.ns11 t2.2.gs11) (⟨(gE t1 (Int.tmod (W z) (↑(List.length t1) : Int)).toNat).t, (gE t1 (Int.tmod (W z) (↑(List.length t1) : Int)).toNat).o, (gE t1 (Int.tmod (W z) (↑(List.length t1) : Int)).toNat).l, (gE t1 (Int.tmod (W z) (↑(List.length t1) : Int)).toNat).h⟩ : Ent)) && ((gA (lsE t2.2.ns11 t2.2.gs11) (⟨(gE t1 (Int.tmod (W z) (↑(List.length t1) : Int)).toNat).t, (gE t1 (Int.tmod (W z) (↑(List.length t1) : Int)).toNat).o, (gE t1 (Int.tmod (W z) (↑(List.length t1) : Int)).toNat).l, (W ((gE t1 (Int.tmod (W z) (↑(List.length t1) : Int)).toNat).h + 1))⟩ : Ent)) && ((!(t15.2 == 0)) || ((okEs (List.length t15.1) (fun k => rE (gE t15.1 k))) && (g16 (lsE (List.length t15.1) (fun k => rE (gE t15.1 k))) (lsE (List.length t1) (fun k => rE (gE t1 k)))))))))))))))))))))))))))
noncomputable def S7 : Sum := sum4 cJL cY cY cY (fun x y z w => DT.guard (g7 x y z w) (.ret (b (p7 x y z w), [])))
theorem r7 (x : List IL) (y : Int) (z : Int) (w : Int) (t1 : List Ent) (ht1 : t1 = (p10 (⟨(List.length x), (fun k => rJ (gJ x k))⟩ : Ag10))) (t2 : Nat × Sg7_0) (ht2 : t2 = (lp (st7_0 (⟨y, z, (List.length t1), (fun k => rE (gE t1 k)), (Int.tmod (W w) 4), (↑(List.length t1) : Int)⟩ : Pg7_0)) (⟨0, 0, 0, 0, 0, (fun _ => [])⟩ : Sg7_0))) (t5 : Int × Int × Int) (ht5 : t5 = (pT [] (Int.tmod (W w) 4))) (t6 : Bool) (ht6 : t6 = (p16 [] (lsE (List.length t1) (fun k => rE (gE t1 k))))) (t7 : List Ent × Int) (ht7 : t7 = (pA [] (⟨(gE t1 (Int.tmod (W z) (↑(List.length t1) : Int)).toNat).t, (gE t1 (Int.tmod (W z) (↑(List.length t1) : Int)).toNat).o, (gE t1 (Int.tmod (W z) (↑(List.length t1) : Int)).toNat).l, (gE t1 (Int.tmod (W z) (↑(List.length t1) : Int)).toNat).h⟩ : Ent))) (t8 : List Ent × Int) (ht8 : t8 = (pA [] (⟨(gE t1 (Int.tmod (W z) (↑(List.length t1) : Int)).toNat).t, (gE t1 (Int.tmod (W z) (↑(List.length t1) : Int)).toNat).o, (gE t1 (Int.tmod (W z) (↑(List.length t1) : Int)).toNat).l, (W ((gE t1 (Int.tmod (W z) (↑(List.length t1) : Int)).toNat).h + 1))⟩ : Ent))) (t9 : Bool) (ht9 : t9 = (p16 (lsE (List.length t7.1) (fun k => rE (gE t7.1 k))) (lsE (List.length t1) (fun k => rE (gE t1 k))))) (t13 : Int × Int × Int) (ht13 : t13 = (pT (lsE t2.2.ns11 t2.2.gs11) (Int.tmod (W w) 4))) (t14 : Bool) (ht14 : t14 = (p16 (lsE t2.2.ns11 t2.2.gs11) (lsE (List.length t1) (fun k => rE (gE t1 k))))) (t15 : List Ent × Int) (ht15 : t15 = (pA (lsE t2.2.ns11 t2.2.gs11) (⟨(gE t1 (Int.tmod (W z) (↑(List.length t1) : Int)).toNat).t, (gE t1 (Int.tmod (W z) (↑(List.length t1) : Int)).toNat).o, (gE t1 (Int.tmod (W z) (↑(List.length t1) : Int)).toNat).l, (gE t1 (Int.tmod (W z) (↑(List.length t1) : Int)).toNat).h⟩ : Ent))) (t16 : List Ent × Int) (ht16 : t16 = (pA (lsE t2.2.ns11 t2.2.gs11) (⟨(gE t1 (Int.tmod (W z) (↑(List.length t1) : Int)).toNat).t, (gE t1 (Int.tmod (W z) (↑(List.length t1) : Int)).toNat).o, (gE t1 (Int.tmod (W z) (↑(List.length t1) : Int)).toNat).l, (W ((gE t1 (Int.tmod (W z) (↑(List.length t1) : Int)).toNat).h + 1))⟩ : Ent))) (t17 : Bool) (ht17 : t17 = (p16 (lsE (List.length t15.1) (fun k => rE (gE t15.1 k))) (lsE (List.length t1) (fun k => rE (gE t1 k))))) : (runS (En tb7) pf7 ps7 [cJL.enc x, cY.enc y, cY.enc z, cY.enc w] []).run = (sel (g10 (⟨(List.length x), (fun k => rJ (gJ x k))⟩ : Ag10))
 (sel (Nat.beq t2.1 1)
  (some ((b false), []))
  (sel (Nat.beq t2.1 2)
   (some ((b false), []))
   (sel (Nat.beq t2.1 3)
    (sel (gT [] (Int.tmod (W w) 4))
     (sel (t5.2.2 != 0)
      (some ((b false), []))
      (sel (t5.1 != t2.2.is12)
       (some ((b false), []))
       (sel (t5.2.1 != t2.2.is13)
        (some ((b false), []))
        (sel (okEs (List.length t1) (fun k => rE (gE t1 k)))
         (sel (g16 [] (lsE (List.length t1) (fun k => rE (gE t1 k))))
          (sel (!t6)
           (some ((b false), []))
           (sel ((↑(List.length t1) : Int) == 0)
            (some ((b true), []))
            (sel ((↑(List.length t1) : Int) == 0)
             none
             (sel (inB (Int.tmod (W z) (↑(List.length t1) : Int)) (List.length t1))
              (sel (gA [] (⟨(gE t1 (Int.tmod (W z) (↑(List.length t1) : Int)).toNat).t, (gE t1 (Int.tmod (W z) (↑(List.length t1) : Int)).toNat).o, (gE t1 (Int.tmod (W z) (↑(List.length t1) : Int)).toNat).l, (gE t1 (Int.tmod (W z) (↑(List.length t1) : Int)).toNat).h⟩ : Ent))
               (sel (gA [] (⟨(gE t1 (Int.tmod (W z) (↑(List.length t1) : Int)).toNat).t, (gE t1 (Int.tmod (W z) (↑(List.length t1) : Int)).toNat).o, (gE t1 (Int.tmod (W z) (↑(List.length t1) : Int)).toNat).l, (W ((gE t1 (Int.tmod (W z) (↑(List.length t1) : Int)).toNat).h + 1))⟩ : Ent))
                (sel (t7.2 == 0)
                 (sel (okEs (List.length t7.1) (fun k => rE (gE t7.1 k)))
                  (sel (okEs (List.length t1) (fun k => rE (gE t1 k)))
                   (sel (g16 (lsE (List.length t7.1) (fun k => rE (gE t7.1 k))) (lsE (List.length t1) (fun k => rE (gE t1 k))))
                    (sel t9
                     (some ((b (t8.2 == 6)), []))
                     (some ((b false), [])))
                    none)
                   none)
                  none)
                 (some ((b false), [])))
                none)
               none)
              none))))
          none)
         none))))
     none)
    (sel (Nat.beq t2.1 4)
     (some ((b false), []))
     (sel (Nat.beq t2.1 5)
      (some ((b false), []))
      (sel (Nat.beq t2.1 6)
       (some ((b false), []))
       (sel (Nat.beq t2.1 7)
        (some ((b false), []))
        (sel (Nat.beq t2.1 8)
         (sel (okEs t2.2.ns11 t2.2.gs11)
          (sel (gT (lsE t2.2.ns11 t2.2.gs11) (Int.tmod (W w) 4))
           (sel (t13.2.2 != 0)
            (some ((b false), []))
            (sel (t13.1 != t2.2.is12)
             (some ((b false), []))
             (sel (t13.2.1 != t2.2.is13)
              (some ((b false), []))
              (sel (okEs t2.2.ns11 t2.2.gs11)
               (sel (okEs (List.length t1) (fun k => rE (gE t1 k)))
                (sel (g16 (lsE t2.2.ns11 t2.2.gs11) (lsE (List.length t1) (fun k => rE (gE t1 k))))
                 (sel (!t14)
                  (some ((b false), []))
                  (sel ((↑(List.length t1) : Int) == 0)
                   (some ((b true), []))
                   (sel ((↑(List.length t1) : Int) == 0)
                    none
                    (sel (inB (Int.tmod (W z) (↑(List.length t1) : Int)) (List.length t1))
                     (sel (okEs t2.2.ns11 t2.2.gs11)
                      (sel (gA (lsE t2.2.ns11 t2.2.gs11) (⟨(gE t1 (Int.tmod (W z) (↑(List.length t1) : Int)).toNat).t, (gE t1 (Int.tmod (W z) (↑(List.length t1) : Int)).toNat).o, (gE t1 (Int.tmod (W z) (↑(List.length t1) : Int)).toNat).l, (gE t1 (Int.tmod (W z) (↑(List.length t1) : Int)).toNat).h⟩ : Ent))
                       (sel (okEs t2.2.ns11 t2.2.gs11)
                        (sel (gA (lsE t2.2.ns11 t2.2.gs11) (⟨(gE t1 (Int.tmod (W z) (↑(List.length t1) : Int)).toNat).t, (gE t1 (Int.tmod (W z) (↑(List.length t1) : Int)).toNat).o, (gE t1 (Int.tmod (W z) (↑(List.length t1) : Int)).toNat).l, (W ((gE t1 (Int.tmod (W z) (↑(List.length t1) : Int)).toNat).h + 1))⟩ : Ent))
                         (sel (t15.2 == 0)
                          (sel (okEs (List.length t15.1) (fun k => rE (gE t15.1 k)))
                           (sel (okEs (List.length t1) (fun k => rE (gE t1 k)))
                            (sel (g16 (lsE (List.length t15.1) (fun k => rE (gE t15.1 k))) (lsE (List.length t1) (fun k => rE (gE t1 k))))
                             (sel t17
                              (some ((b (t16.2 == 6)), []))
                              (some ((b false), [])))
                             none)
                            none)
                           none)
                          (some ((b false), [])))
                         none)
                        none)
                       none)
                      none)
                     none))))
                 none)
                none)
               none))))
           none)
          none)
         none))))))))
 none) := by subst ht1; subst ht2; subst ht5; subst ht6; subst ht7; subst ht8; subst ht9; subst ht13; subst ht14; subst ht15; subst ht16; subst ht17; kernel_rfl
theorem m7 (c1 c2 c3 c4 c5 c6 c7 c8 c9 c10 c11 c12 c13 c14 c15 c16 c17 c18 c19 c20 c21 c22 c23 c24 c25 c26 c27 c28 c29 c30 c31 c32 c33 c34 c35 c36 c37 : Bool) (x : List IL) (y : Int) (z : Int) (w : Int) (t8 : List Ent × Int) (t16 : List Ent × Int) : ((sel c1
 (sel c2
  (some ((b false), []))
  (sel c3
   (some ((b false), []))
   (sel c4
    (sel c5
     (sel c6
      (some ((b false), []))
      (sel c7
       (some ((b false), []))
       (sel c8
        (some ((b false), []))
        (sel c9
         (sel c10
          (sel c11
           (some ((b false), []))
           (sel c12
            (some ((b true), []))
            (sel c12
             none
             (sel c13
              (sel c14
               (sel c15
                (sel c16
                 (sel c17
                  (sel c9
                   (sel c18
                    (sel c19
                     (some ((b (t8.2 == 6)), []))
                     (some ((b false), [])))
                    none)
                   none)
                  none)
                 (some ((b false), [])))
                none)
               none)
              none))))
          none)
         none))))
     none)
    (sel c20
     (some ((b false), []))
     (sel c21
      (some ((b false), []))
      (sel c22
       (some ((b false), []))
       (sel c23
        (some ((b false), []))
        (sel c24
         (sel c25
          (sel c26
           (sel c27
            (some ((b false), []))
            (sel c28
             (some ((b false), []))
             (sel c29
              (some ((b false), []))
              (sel c25
               (sel c9
                (sel c30
                 (sel c31
                  (some ((b false), []))
                  (sel c12
                   (some ((b true), []))
                   (sel c12
                    none
                    (sel c13
                     (sel c25
                      (sel c32
                       (sel c25
                        (sel c33
                         (sel c34
                          (sel c35
                           (sel c9
                            (sel c36
                             (sel c37
                              (some ((b (t16.2 == 6)), []))
                              (some ((b false), [])))
                             none)
                            none)
                           none)
                          (some ((b false), [])))
                         none)
                        none)
                       none)
                      none)
                     none))))
                 none)
                none)
               none))))
           none)
          none)
         none))))))))
 none) : Option (AVal × List ABlk)) = (sel (c1 && (c2 || (c3 || (sel c4 (c5 && (c6 || (c7 || (c8 || (c9 && (c10 && (c11 || (c12 || (c13 && (c14 && (c15 && ((!c16) || (c17 && c18))))))))))))) (c20 || (c21 || (c22 || (c23 || (c24 && (c25 && (c26 && (c27 || (c28 || (c29 || (c9 && (c30 && (c31 || (c12 || (c13 && (c32 && (c33 && ((!c34) || (c35 && c36))))))))))))))))))))))) (some ((b ((!c2) && ((!c3) && (sel c4 ((!c6) && ((!c7) && ((!c8) && ((!c11) && (c12 || (c16 && (c19 && (t8.2 == 6)))))))) ((!c20) && ((!c21) && ((!c22) && ((!c23) && ((!c27) && ((!c28) && ((!c29) && ((!c31) && (c12 || (c34 && (c37 && (t16.2 == 6)))))))))))))))), [])) none) := by
 cases c1
 ·
  rfl
 ·
  cases c2
  ·
   cases c3
   ·
    cases c4
    ·
     cases c20
     ·
      cases c21
      ·
       cases c22
       ·
        cases c23
        ·
         cases c24
         ·
          rfl
         ·
          cases c25
          ·
           rfl
          ·
           cases c26
           ·
            rfl
           ·
            cases c27
            ·
             cases c28
             ·
              cases c29
              ·
               cases c9
               ·
                rfl
               ·
                cases c30
                ·
                 rfl
                ·
                 cases c31
                 ·
                  cases c12
                  ·
                   cases c13
                   ·
                    rfl
                   ·
                    cases c32
                    ·
                     rfl
                    ·
                     cases c33
                     ·
                      rfl
                     ·
                      cases c34
                      ·
                       rfl
                      ·
                       cases c35
                       ·
                        rfl
                       ·
                        cases c36
                        ·
                         rfl
                        ·
                         cases c37
                         ·
                          rfl
                         ·
                          rfl
                  ·
                   rfl
                 ·
                  rfl
              ·
               rfl
             ·
              rfl
            ·
             rfl
        ·
         rfl
       ·
        rfl
      ·
       rfl
     ·
      rfl
    ·
     cases c5
     ·
      rfl
     ·
      cases c6
      ·
       cases c7
       ·
        cases c8
        ·
         cases c9
         ·
          rfl
         ·
          cases c10
          ·
           rfl
          ·
           cases c11
           ·
            cases c12
            ·
             cases c13
             ·
              rfl
             ·
              cases c14
              ·
               rfl
              ·
               cases c15
               ·
                rfl
               ·
                cases c16
                ·
                 rfl
                ·
                 cases c17
                 ·
                  rfl
                 ·
                  cases c18
                  ·
                   rfl
                  ·
                   cases c19
                   ·
                    rfl
                   ·
                    rfl
            ·
             rfl
           ·
            rfl
        ·
         rfl
       ·
        rfl
      ·
       rfl
   ·
    rfl
  ·
   rfl
theorem k7 (x : List IL) (y : Int) (z : Int) (w : Int) (t1 : List Ent) (ht1 : t1 = (p10 (⟨(List.length x), (fun k => rJ (gJ x k))⟩ : Ag10))) (t2 : Nat × Sg7_0) (ht2 : t2 = (lp (st7_0 (⟨y, z, (List.length t1), (fun k => rE (gE t1 k)), (Int.tmod (W w) 4), (↑(List.length t1) : Int)⟩ : Pg7_0)) (⟨0, 0, 0, 0, 0, (fun _ => [])⟩ : Sg7_0))) (t5 : Int × Int × Int) (ht5 : t5 = (pT [] (Int.tmod (W w) 4))) (t6 : Bool) (ht6 : t6 = (p16 [] (lsE (List.length t1) (fun k => rE (gE t1 k))))) (t7 : List Ent × Int) (ht7 : t7 = (pA [] (⟨(gE t1 (Int.tmod (W z) (↑(List.length t1) : Int)).toNat).t, (gE t1 (Int.tmod (W z) (↑(List.length t1) : Int)).toNat).o, (gE t1 (Int.tmod (W z) (↑(List.length t1) : Int)).toNat).l, (gE t1 (Int.tmod (W z) (↑(List.length t1) : Int)).toNat).h⟩ : Ent))) (t8 : List Ent × Int) (ht8 : t8 = (pA [] (⟨(gE t1 (Int.tmod (W z) (↑(List.length t1) : Int)).toNat).t, (gE t1 (Int.tmod (W z) (↑(List.length t1) : Int)).toNat).o, (gE t1 (Int.tmod (W z) (↑(List.length t1) : Int)).toNat).l, (W ((gE t1 (Int.tmod (W z) (↑(List.length t1) : Int)).toNat).h + 1))⟩ : Ent))) (t9 : Bool) (ht9 : t9 = (p16 (lsE (List.length t7.1) (fun k => rE (gE t7.1 k))) (lsE (List.length t1) (fun k => rE (gE t1 k))))) (t13 : Int × Int × Int) (ht13 : t13 = (pT (lsE t2.2.ns11 t2.2.gs11) (Int.tmod (W w) 4))) (t14 : Bool) (ht14 : t14 = (p16 (lsE t2.2.ns11 t2.2.gs11) (lsE (List.length t1) (fun k => rE (gE t1 k))))) (t15 : List Ent × Int) (ht15 : t15 = (pA (lsE t2.2.ns11 t2.2.gs11) (⟨(gE t1 (Int.tmod (W z) (↑(List.length t1) : Int)).toNat).t, (gE t1 (Int.tmod (W z) (↑(List.length t1) : Int)).toNat).o, (gE t1 (Int.tmod (W z) (↑(List.length t1) : Int)).toNat).l, (gE t1 (Int.tmod (W z) (↑(List.length t1) : Int)).toNat).h⟩ : Ent))) (t16 : List Ent × Int) (ht16 : t16 = (pA (lsE t2.2.ns11 t2.2.gs11) (⟨(gE t1 (Int.tmod (W z) (↑(List.length t1) : Int)).toNat).t, (gE t1 (Int.tmod (W z) (↑(List.length t1) : Int)).toNat).o, (gE t1 (Int.tmod (W z) (↑(List.length t1) : Int)).toNat).l, (W ((gE t1 (Int.tmod (W z) (↑(List.length t1) : Int)).toNat).h + 1))⟩ : Ent))) (t17 : Bool) (ht17 : t17 = (p16 (lsE (List.length t15.1) (fun k => rE (gE t15.1 k))) (lsE (List.length t1) (fun k => rE (gE t1 k))))) : (DT.guard (g7 x y z w) (.ret (b (p7 x y z w), [])) : DT (AVal × List ABlk)).run = (sel ((g10 (⟨(List.length x), (fun k => rJ (gJ x k))⟩ : Ag10)) && ((Nat.beq t2.1 1) || ((Nat.beq t2.1 2) || (sel (Nat.beq t2.1 3) ((gT [] (Int.tmod (W w) 4)) && ((t5.2.2 != 0) || ((t5.1 != t2.2.is12) || ((t5.2.1 != t2.2.is13) || ((okEs (List.length t1) (fun k => rE (gE t1 k))) && ((g16 [] (lsE (List.length t1) (fun k => rE (gE t1 k)))) && ((!t6) || (((↑(List.length t1) : Int) == 0) || ((inB (Int.tmod (W z) (↑(List.length t1) : Int)) (List.length t1)) && ((gA [] (⟨(gE t1 (Int.tmod (W z) (↑(List.length t1) : Int)).toNat).t, (gE t1 (Int.tmod (W z) (↑(List.length t1) : Int)).toNat).o, (gE t1 (Int.tmod (W z) (↑(List.length t1) : Int)).toNat).l, (gE t1 (Int.tmod (W z) (↑(List.length t1) : Int)).toNat).h⟩ : Ent)) && ((gA [] (⟨(gE t1 (Int.tmod (W z) (↑(List.length t1) : Int)).toNat).t, (gE t1 (Int.tmod (W z) (↑(List.length t1) : Int)).toNat).o, (gE t1 (Int.tmod (W z) (↑(List.length t1) : Int)).toNat).l, (W ((gE t1 (Int.tmod (W z) (↑(List.length t1) : Int)).toNat).h + 1))⟩ : Ent)) && ((!(t7.2 == 0)) || ((okEs (List.length t7.1) (fun k => rE (gE t7.1 k))) && (g16 (lsE (List.length t7.1) (fun k => rE (gE t7.1 k))) (lsE (List.length t1) (fun k => rE (gE t1 k))))))))))))))))) ((Nat.beq t2.1 4) || ((Nat.beq t2.1 5) || ((Nat.beq t2.1 6) || ((Nat.beq t2.1 7) || ((Nat.beq t2.1 8) && ((okEs t2.2.ns11 t2.2.gs11) && ((gT (lsE t2.2.ns11 t2.2.gs11) (Int.tmod (W w) 4)) && ((t13.2.2 != 0) || ((t13.1 != t2.2.is12) || ((t13.2.1 != t2.2.is13) || ((okEs (List.length t1) (fun k => rE (gE t1 k))) && ((g16 (lsE t2.2.ns11 t2.2.gs11) (lsE (List.length t1) (fun k => rE (gE t1 k)))) && ((!t14) || (((↑(List.length t1) : Int) == 0) || ((inB (Int.tmod (W z) (↑(List.length t1) : Int)) (List.length t1)) && ((gA (lsE t2.2.ns11 t2.2.gs11) (⟨(gE t1 (Int.tmod (W z) (↑(List.length t1) : Int)).toNat).t, (gE t1 (Int.tmod (W z) (↑(List.length t1) : Int)).toNat).o, (gE t1 (Int.tmod (W z) (↑(List.length t1) : Int)).toNat).l, (gE t1 (Int.tmod (W z) (↑(List.length t1) : Int)).toNat).h⟩ : Ent)) && ((gA (lsE t2.2.ns11 t2.2.gs11) (⟨(gE t1 (Int.tmod (W z) (↑(List.length t1) : Int)).toNat).t, (gE t1 (Int.tmod (W z) (↑(List.length t1) : Int)).toNat).o, (gE t1 (Int.tmod (W z) (↑(List.length t1) : Int)).toNat).l, (W ((gE t1 (Int.tmod (W z) (↑(List.length t1) : Int)).toNat).h + 1))⟩ : Ent)) && ((!(t15.2 == 0)) || ((okEs (List.length t15.1) (fun k => rE (gE t15.1 k))) && (g16 (lsE (List.length t15.1) (fun k => rE (gE t15.1 k))) (lsE (List.length t1) (fun k => rE (gE t1 k))))))))))))))))))))))))))) (some ((b ((!(Nat.beq t2.1 1)) && ((!(Nat.beq t2.1 2)) && (sel (Nat.beq t2.1 3) ((!(t5.2.2 != 0)) && ((!(t5.1 != t2.2.is12)) && ((!(t5.2.1 != t2.2.is13)) && ((!(!t6)) && (((↑(List.length t1) : Int) == 0) || ((t7.2 == 0) && (t9 && (t8.2 == 6)))))))) ((!(Nat.beq t2.1 4)) && ((!(Nat.beq t2.1 5)) && ((!(Nat.beq t2.1 6)) && ((!(Nat.beq t2.1 7)) && ((!(t13.2.2 != 0)) && ((!(t13.1 != t2.2.is12)) && ((!(t13.2.1 != t2.2.is13)) && ((!(!t14)) && (((↑(List.length t1) : Int) == 0) || ((t15.2 == 0) && (t17 && (t16.2 == 6)))))))))))))))), [])) none) := by subst ht1; subst ht2; subst ht5; subst ht6; subst ht7; subst ht8; subst ht9; subst ht13; subst ht14; subst ht15; subst ht16; subst ht17; rw [run_grd]; kernel_rfl
theorem ok7 : FnOk Try.prog G 7 S7 := sum4_ok (b7 (E := En tb7) rfl (tdeps tbo7)) fun x y z w r h => runS_below sd7 _ (((r7 x y z w _ rfl _ rfl _ rfl _ rfl _ rfl _ rfl _ rfl _ rfl _ rfl _ rfl _ rfl _ rfl).trans (m7 _ _ _ _ _ _ _ _ _ _ _ _ _ _ _ _ _ _ _ _ _ _ _ _ _ _ _ _ _ _ _ _ _ _ _ _ _ x y z w _ _)).trans ((k7 x y z w _ rfl _ rfl _ rfl _ rfl _ rfl _ rfl _ rfl _ rfl _ rfl _ rfl _ rfl _ rfl).symm.trans h))
end Go.Ev.W.X
