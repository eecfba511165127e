/- Own work: a part of the proof. -/
import Derived.Test.YtlccibobknidjaaGreatEvDS
import Derived.Test.YtlccibobknidjaaGreatEvE6
set_option linter.unusedVariables false
set_option linter.unusedSimpArgs false
set_option linter.unnecessarySimpa false
set_option linter.unusedSectionVars false
section
namespace Go.Ev.Ce
open Go Go.Ev Go.Ev.L Go.Proofs
set_option maxRecDepth 100000
noncomputable def wb2 : List (Nat × Sum) := []
theorem ub6 : i7 prog G wb2 := trivial
structure fa1 where
 alt : Nat
 ns0 : Nat
 eh0 : List (List b7)
noncomputable def K1 {α : Type} (kk : fa1 → α) (x : Pln × List Pln) : α := (sl (Nat.beq (len (n3 (fun k => (tP).row (gL tP (x.1 :: x.2) k)) (List.range (List.length x.2 + 1)))) 0) (kk ⟨1, 0, []⟩) (sl (Nat.beq 0 0 && Nat.ble ((0 + (len (n3 (fun k => (tP).row (gL tP (x.1 :: x.2) k)) (List.range (List.length x.2 + 1))))) * 32) room) (kk ⟨1, (0 + (len (n3 (fun k => (tP).row (gL tP (x.1 :: x.2) k)) (List.range (List.length x.2 + 1))))), (app [] (n3 (fun k => (tP).row (gL tP (x.1 :: x.2) k)) (List.range (List.length x.2 + 1))))⟩) (kk ⟨0, 0, []⟩)))
noncomputable def fa2 (x : Pln × List Pln) : fa1 := K1 (fun r => r) x
noncomputable def oa8 (r : fa1) : DT (b7 × List b8) := (.ite (Nat.beq r.alt 1) (.ret ((.sl 0 0 r.ns0 0), [⟨50, 4, r.eh0, true, false, 0⟩])) .fail)
theorem Db3 {α β : Type} (F : α → β) (kk : fa1 → α) (x : Pln × List Pln) : F (K1 kk x) = K1 (fun r => F (kk r)) x := by unfold K1; (repeat' apply k9 (f := F)) <;> rfl
noncomputable def Qa5 : Sum := ba5 (le8 tP) (fun x => oa8 (fa2 x))
theorem wb3 : f6 prog G 100 Qa5 := Rb5 (bd we8 ub6) fun x => p7 (Eq.trans (b := K1 (fun r => (oa8 r).run) x) (by kernel_rfl) (Db3 (fun r => (oa8 r).run) (fun r => r) x).symm)
noncomputable def Vc8 : List (Nat × Sum) := [(20, Ca6), (18, na2), (100, Qa5), (99, va6), (103, Ca9), (105, Ha8)]
theorem Gc3 : i7 prog G Vc8 := ⟨Ga4, sa0, wb3, bb4, lb3, ob5, trivial⟩
noncomputable def Qa6 (x : Pln × List Pln) : Option (b7 × List b8) := let t1 := (ea1 (rt tP (x.1 :: x.2))); let t2 := (R5 (rt tP (x.1 :: x.2))); let t3 := (fa2 (hC tP (fun k => (tP).row (gL tP (x.1 :: x.2) k)), tC tP (List.length x.2) (fun k => (tP).row (gL tP (x.1 :: x.2) k)))); let t4 := (P4 ⟨t3.ns0, t3.eh0, (rt tX t2)⟩); let t5 := (Y3 ⟨t4.ns0, (app (bL tP (vb5 (slR tP t4.eh0 0 t4.ns0))) (e7 t4.eh0 t4.ns0))⟩); (sl (okE tP (x.1 :: x.2)) (sl (ea2 (rt tP (x.1 :: x.2))) (sl (!t1) (some ((.v (.slice none 0 0)), [])) (sl (okE tP (x.1 :: x.2)) (sl (R6 (rt tP (x.1 :: x.2))) (sl (okL tP (List.length x.2 + 1) (fun k => (tP).row (gL tP (x.1 :: x.2) k))) (sl (Nat.beq t3.alt 1) (sl ((cnE tX t2) && true) (sl (Nat.beq t4.alt 1) (sl (Bool.and (Nat.ble t4.ns0 room) (Bool.and (Nat.ble t4.ns0 (len t4.eh0)) (okS tP t4.eh0 0 t4.ns0))) (sl (Nat.beq t5.alt 1) (some ((.sl 0 0 t5.ns0 0), [⟨50, 4, t5.eh0, true, false, 0⟩])) none) none) none) none) none) none) none) none)) none) none)
noncomputable def Db4 (x : Pln × List Pln) : List Pln := G6 (one (r1L tP)) (Qa6 x)
noncomputable def Db5 (x : Pln × List Pln) : Bool := okO (one (r1L tP)) (Qa6 x)
noncomputable def hc5 : Sum := ba5 (le8 tP) (fun x => .guard (Db5 x) (.ret ((one (r1L tP)).enc (Db4 x), [])))
theorem Vc9 : f6 prog G 25 hc5 := ua0 (bd b25 Gc3) (one (r1L tP)) (o := Qa6) fun x => p7 (by kernel_rfl)
noncomputable def lc6 : List (Nat × Sum) := [(81, Wb7), (18, na2), (17, La3), (25, hc5), (26, yc2), (20, Ca6), (28, zc0), (22, sb4), (31, Wb5), (33, Kb3), (15, Ua9)]
theorem dc9 : i7 prog G lc6 := ⟨Gc2, sa0, gb7, Vc9, gd6, Ga4, id8, Jb7, Gc0, zc3, jb3, trivial⟩
noncomputable def ta5  : Option (b7 × List b8) := let t1 := ub5; let t2 := (R5 [(⟨(⟨1, 0, 0⟩ : V3), t1.d8⟩ : Pln), (⟨(⟨(-1), 0, 0⟩ : V3), t1.K9⟩ : Pln), (⟨(⟨0, 1, 0⟩ : V3), t1.L0⟩ : Pln), (⟨(⟨0, (-1), 0⟩ : V3), t1.L1⟩ : Pln), (⟨(⟨0, 0, 1⟩ : V3), t1.L2⟩ : Pln), (⟨(⟨0, 0, (-1)⟩ : V3), t1.L3⟩ : Pln)]); let t3 := (R5 [(⟨(⟨(-1), 0, 0⟩ : V3), 0⟩ : Pln), (⟨(⟨0, (-1), 0⟩ : V3), 0⟩ : Pln), (⟨(⟨0, 0, (-1)⟩ : V3), 0⟩ : Pln), (⟨(⟨2, 3, 4⟩ : V3), 1⟩ : Pln)]); let t4 := (Z1 (rt tX t2) [(⟨1, 1, 1, 1⟩ : Pt), (⟨1, 1, 0, 1⟩ : Pt), (⟨1, 0, 1, 1⟩ : Pt), (⟨1, 0, 0, 1⟩ : Pt), (⟨0, 1, 1, 1⟩ : Pt), (⟨0, 1, 0, 1⟩ : Pt), (⟨0, 0, 1, 1⟩ : Pt), (⟨0, 0, 0, 1⟩ : Pt)]); let t5 := (Z1 (rt tX t3) [(⟨0, 0, 0, 1⟩ : Pt), (⟨0, 0, 1, 4⟩ : Pt), (⟨0, 1, 0, 3⟩ : Pt), (⟨1, 0, 0, 2⟩ : Pt)]); let t6 := (Db4 ((⟨(⟨1, 0, 0⟩ : V3), t1.d8⟩ : Pln), [(⟨(⟨(-1), 0, 0⟩ : V3), t1.K9⟩ : Pln), (⟨(⟨0, 1, 0⟩ : V3), t1.L0⟩ : Pln), (⟨(⟨0, (-1), 0⟩ : V3), t1.L1⟩ : Pln), (⟨(⟨0, 0, 1⟩ : V3), t1.L2⟩ : Pln), (⟨(⟨0, 0, (-1)⟩ : V3), t1.L3⟩ : Pln), (⟨(⟨1, 0, 0⟩ : V3), t1.d8⟩ : Pln), (⟨(⟨1, 1, 1⟩ : V3), 3⟩ : Pln), (⟨(⟨1, 0, 0⟩ : V3), 7⟩ : Pln)])); let t7 := (tb6 (rt tP t6) [(⟨(⟨(-1), 0, 0⟩ : V3), t1.K9⟩ : Pln), (⟨(⟨0, (-1), 0⟩ : V3), t1.L1⟩ : Pln), (⟨(⟨0, 0, (-1)⟩ : V3), t1.L3⟩ : Pln), (⟨(⟨0, 0, 1⟩ : V3), t1.L2⟩ : Pln), (⟨(⟨0, 1, 0⟩ : V3), t1.L0⟩ : Pln), (⟨(⟨1, 0, 0⟩ : V3), t1.d8⟩ : Pln)]); let t8 := (ea1 []); let t9 := (ea1 [(⟨(⟨1, 0, 0⟩ : V3), t1.d8⟩ : Pln), (⟨(⟨(-1), 0, 0⟩ : V3), t1.K9⟩ : Pln), (⟨(⟨0, 1, 0⟩ : V3), t1.L0⟩ : Pln), (⟨(⟨0, (-1), 0⟩ : V3), t1.L1⟩ : Pln), (⟨(⟨0, 0, 1⟩ : V3), t1.L2⟩ : Pln), (⟨(⟨0, 0, (-1)⟩ : V3), t1.L3⟩ : Pln), (⟨(⟨(-1), 0, 0⟩ : V3), (-1)⟩ : Pln)]); let t10 := (bb7 [(⟨(⟨1, 0, 0⟩ : V3), t1.d8⟩ : Pln), (⟨(⟨(-1), 0, 0⟩ : V3), t1.K9⟩ : Pln), (⟨(⟨0, 1, 0⟩ : V3), t1.L0⟩ : Pln), (⟨(⟨0, (-1), 0⟩ : V3), t1.L1⟩ : Pln), (⟨(⟨0, 0, 1⟩ : V3), t1.L2⟩ : Pln), (⟨(⟨0, 0, (-1)⟩ : V3), t1.L3⟩ : Pln)] (⟨1, 0, 0⟩ : V3)); let t11 := (bb7 [(⟨(⟨1, 0, 0⟩ : V3), t1.d8⟩ : Pln), (⟨(⟨(-1), 0, 0⟩ : V3), t1.K9⟩ : Pln), (⟨(⟨0, 1, 0⟩ : V3), t1.L0⟩ : Pln), (⟨(⟨0, (-1), 0⟩ : V3), t1.L1⟩ : Pln), (⟨(⟨0, 0, 1⟩ : V3), t1.L2⟩ : Pln), (⟨(⟨0, 0, (-1)⟩ : V3), t1.L3⟩ : Pln)] (⟨2, 0, 0⟩ : V3)); let t12 := (Ga7 [(⟨(⟨(-1), 0, 0⟩ : V3), 0⟩ : Pln), (⟨(⟨0, (-1), 0⟩ : V3), 0⟩ : Pln), (⟨(⟨0, 0, (-1)⟩ : V3), 0⟩ : Pln), (⟨(⟨2, 3, 4⟩ : V3), 1⟩ : Pln)]); let t13 := (Ia0 [(⟨(⟨1, 0, 0⟩ : V3), t1.d8⟩ : Pln), (⟨(⟨(-1), 0, 0⟩ : V3), t1.K9⟩ : Pln), (⟨(⟨0, 1, 0⟩ : V3), t1.L0⟩ : Pln), (⟨(⟨0, (-1), 0⟩ : V3), t1.L1⟩ : Pln), (⟨(⟨0, 0, 1⟩ : V3), t1.L2⟩ : Pln), (⟨(⟨0, 0, (-1)⟩ : V3), t1.L3⟩ : Pln)] [(⟨(⟨(-1), 0, 0⟩ : V3), (-1)⟩ : Pln)]); let t14 := (Ia0 [(⟨(⟨1, 0, 0⟩ : V3), t1.d8⟩ : Pln), (⟨(⟨(-1), 0, 0⟩ : V3), t1.K9⟩ : Pln), (⟨(⟨0, 1, 0⟩ : V3), t1.L0⟩ : Pln), (⟨(⟨0, (-1), 0⟩ : V3), t1.L1⟩ : Pln), (⟨(⟨0, 0, 1⟩ : V3), t1.L2⟩ : Pln), (⟨(⟨0, 0, (-1)⟩ : V3), t1.L3⟩ : Pln)] [(⟨(⟨(-1), (-1), 0⟩ : V3), (-1)⟩ : Pln)]); let t15 := (za1 [(⟨(⟨1, 0, 0⟩ : V3), t1.d8⟩ : Pln), (⟨(⟨(-1), 0, 0⟩ : V3), t1.K9⟩ : Pln), (⟨(⟨0, 1, 0⟩ : V3), t1.L0⟩ : Pln), (⟨(⟨0, (-1), 0⟩ : V3), t1.L1⟩ : Pln), (⟨(⟨0, 0, 1⟩ : V3), t1.L2⟩ : Pln), (⟨(⟨0, 0, (-1)⟩ : V3), t1.L3⟩ : Pln)] [(⟨(⟨1, 1, 1⟩ : V3), 3⟩ : Pln)]); let t16 := (za1 [(⟨(⟨1, 0, 0⟩ : V3), t1.d8⟩ : Pln), (⟨(⟨(-1), 0, 0⟩ : V3), t1.K9⟩ : Pln), (⟨(⟨0, 1, 0⟩ : V3), t1.L0⟩ : Pln), (⟨(⟨0, (-1), 0⟩ : V3), t1.L1⟩ : Pln), (⟨(⟨0, 0, 1⟩ : V3), t1.L2⟩ : Pln), (⟨(⟨0, 0, (-1)⟩ : V3), t1.L3⟩ : Pln)] [(⟨(⟨1, 1, 1⟩ : V3), 2⟩ : Pln)]); let t17 := (ua4 [(⟨(⟨0, 0, 0⟩ : V3), 0⟩ : Pln)]); (sl (R6 [(⟨(⟨1, 0, 0⟩ : V3), t1.d8⟩ : Pln), (⟨(⟨(-1), 0, 0⟩ : V3), t1.K9⟩ : Pln), (⟨(⟨0, 1, 0⟩ : V3), t1.L0⟩ : Pln), (⟨(⟨0, (-1), 0⟩ : V3), t1.L1⟩ : Pln), (⟨(⟨0, 0, 1⟩ : V3), t1.L2⟩ : Pln), (⟨(⟨0, 0, (-1)⟩ : V3), t1.L3⟩ : Pln)]) (sl (R6 [(⟨(⟨(-1), 0, 0⟩ : V3), 0⟩ : Pln), (⟨(⟨0, (-1), 0⟩ : V3), 0⟩ : Pln), (⟨(⟨0, 0, (-1)⟩ : V3), 0⟩ : Pln), (⟨(⟨2, 3, 4⟩ : V3), 1⟩ : Pln)]) (sl (okE tX t2) (sl (Z2 (rt tX t2) [(⟨1, 1, 1, 1⟩ : Pt), (⟨1, 1, 0, 1⟩ : Pt), (⟨1, 0, 1, 1⟩ : Pt), (⟨1, 0, 0, 1⟩ : Pt), (⟨0, 1, 1, 1⟩ : Pt), (⟨0, 1, 0, 1⟩ : Pt), (⟨0, 0, 1, 1⟩ : Pt), (⟨0, 0, 0, 1⟩ : Pt)]) (sl (!t4) (some ((b false), [])) (sl (okE tX t3) (sl (Z2 (rt tX t3) [(⟨0, 0, 0, 1⟩ : Pt), (⟨0, 0, 1, 4⟩ : Pt), (⟨0, 1, 0, 3⟩ : Pt), (⟨1, 0, 0, 2⟩ : Pt)]) (sl (!t5) (some ((b false), [])) (sl (Db5 ((⟨(⟨1, 0, 0⟩ : V3), t1.d8⟩ : Pln), [(⟨(⟨(-1), 0, 0⟩ : V3), t1.K9⟩ : Pln), (⟨(⟨0, 1, 0⟩ : V3), t1.L0⟩ : Pln), (⟨(⟨0, (-1), 0⟩ : V3), t1.L1⟩ : Pln), (⟨(⟨0, 0, 1⟩ : V3), t1.L2⟩ : Pln), (⟨(⟨0, 0, (-1)⟩ : V3), t1.L3⟩ : Pln), (⟨(⟨1, 0, 0⟩ : V3), t1.d8⟩ : Pln), (⟨(⟨1, 1, 1⟩ : V3), 3⟩ : Pln), (⟨(⟨1, 0, 0⟩ : V3), 7⟩ : Pln)])) (sl (okE tP t6) (sl (tb7 (rt tP t6) [(⟨(⟨(-1), 0, 0⟩ : V3), t1.K9⟩ : Pln), (⟨(⟨0, (-1), 0⟩ : V3), t1.L1⟩ : Pln), (⟨(⟨0, 0, (-1)⟩ : V3), t1.L3⟩ : Pln), (⟨(⟨0, 0, 1⟩ : V3), t1.L2⟩ : Pln), (⟨(⟨0, 1, 0⟩ : V3), t1.L0⟩ : Pln), (⟨(⟨1, 0, 0⟩ : V3), t1.d8⟩ : Pln)]) (sl (!t7) (some ((b false), [])) (sl (ea2 []) (sl (!t8) (some ((b false), [])) (sl (ea2 [(⟨(⟨1, 0, 0⟩ : V3), t1.d8⟩ : Pln), (⟨(⟨(-1), 0, 0⟩ : V3), t1.K9⟩ : Pln), (⟨(⟨0, 1, 0⟩ : V3), t1.L0⟩ : Pln), (⟨(⟨0, (-1), 0⟩ : V3), t1.L1⟩ : Pln), (⟨(⟨0, 0, 1⟩ : V3), t1.L2⟩ : Pln), (⟨(⟨0, 0, (-1)⟩ : V3), t1.L3⟩ : Pln), (⟨(⟨(-1), 0, 0⟩ : V3), (-1)⟩ : Pln)]) (sl t9 (some ((b false), [])) (sl (bb8 [(⟨(⟨1, 0, 0⟩ : V3), t1.d8⟩ : Pln), (⟨(⟨(-1), 0, 0⟩ : V3), t1.K9⟩ : Pln), (⟨(⟨0, 1, 0⟩ : V3), t1.L0⟩ : Pln), (⟨(⟨0, (-1), 0⟩ : V3), t1.L1⟩ : Pln), (⟨(⟨0, 0, 1⟩ : V3), t1.L2⟩ : Pln), (⟨(⟨0, 0, (-1)⟩ : V3), t1.L3⟩ : Pln)] (⟨1, 0, 0⟩ : V3)) (sl (!t10) (some ((b false), [])) (sl (bb8 [(⟨(⟨1, 0, 0⟩ : V3), t1.d8⟩ : Pln), (⟨(⟨(-1), 0, 0⟩ : V3), t1.K9⟩ : Pln), (⟨(⟨0, 1, 0⟩ : V3), t1.L0⟩ : Pln), (⟨(⟨0, (-1), 0⟩ : V3), t1.L1⟩ : Pln), (⟨(⟨0, 0, 1⟩ : V3), t1.L2⟩ : Pln), (⟨(⟨0, 0, (-1)⟩ : V3), t1.L3⟩ : Pln)] (⟨2, 0, 0⟩ : V3)) (sl t11 (some ((b false), [])) (sl (Ga8 [(⟨(⟨(-1), 0, 0⟩ : V3), 0⟩ : Pln), (⟨(⟨0, (-1), 0⟩ : V3), 0⟩ : Pln), (⟨(⟨0, 0, (-1)⟩ : V3), 0⟩ : Pln), (⟨(⟨2, 3, 4⟩ : V3), 1⟩ : Pln)]) (sl (!((t12.1.x == 0) && ((t12.1.y == 0) && ((t12.1.z == 0) && true)))) (some ((b false), [])) (sl (!((t12.2.1.x == 1) && ((t12.2.1.y == 1) && ((t12.2.1.z == 1) && true)))) (some ((b false), [])) (sl (!t12.2.2) (some ((b false), [])) (sl (Ia1 [(⟨(⟨1, 0, 0⟩ : V3), t1.d8⟩ : Pln), (⟨(⟨(-1), 0, 0⟩ : V3), t1.K9⟩ : Pln), (⟨(⟨0, 1, 0⟩ : V3), t1.L0⟩ : Pln), (⟨(⟨0, (-1), 0⟩ : V3), t1.L1⟩ : Pln), (⟨(⟨0, 0, 1⟩ : V3), t1.L2⟩ : Pln), (⟨(⟨0, 0, (-1)⟩ : V3), t1.L3⟩ : Pln)] [(⟨(⟨(-1), 0, 0⟩ : V3), (-1)⟩ : Pln)]) (sl t13 (sl (Ia1 [(⟨(⟨1, 0, 0⟩ : V3), t1.d8⟩ : Pln), (⟨(⟨(-1), 0, 0⟩ : V3), t1.K9⟩ : Pln), (⟨(⟨0, 1, 0⟩ : V3), t1.L0⟩ : Pln), (⟨(⟨0, (-1), 0⟩ : V3), t1.L1⟩ : Pln), (⟨(⟨0, 0, 1⟩ : V3), t1.L2⟩ : Pln), (⟨(⟨0, 0, (-1)⟩ : V3), t1.L3⟩ : Pln)] [(⟨(⟨(-1), (-1), 0⟩ : V3), (-1)⟩ : Pln)]) (sl (!t14) (sl (za2 [(⟨(⟨1, 0, 0⟩ : V3), t1.d8⟩ : Pln), (⟨(⟨(-1), 0, 0⟩ : V3), t1.K9⟩ : Pln), (⟨(⟨0, 1, 0⟩ : V3), t1.L0⟩ : Pln), (⟨(⟨0, (-1), 0⟩ : V3), t1.L1⟩ : Pln), (⟨(⟨0, 0, 1⟩ : V3), t1.L2⟩ : Pln), (⟨(⟨0, 0, (-1)⟩ : V3), t1.L3⟩ : Pln)] [(⟨(⟨1, 1, 1⟩ : V3), 3⟩ : Pln)]) (sl t15 (sl (za2 [(⟨(⟨1, 0, 0⟩ : V3), t1.d8⟩ : Pln), (⟨(⟨(-1), 0, 0⟩ : V3), t1.K9⟩ : Pln), (⟨(⟨0, 1, 0⟩ : V3), t1.L0⟩ : Pln), (⟨(⟨0, (-1), 0⟩ : V3), t1.L1⟩ : Pln), (⟨(⟨0, 0, 1⟩ : V3), t1.L2⟩ : Pln), (⟨(⟨0, 0, (-1)⟩ : V3), t1.L3⟩ : Pln)] [(⟨(⟨1, 1, 1⟩ : V3), 2⟩ : Pln)]) (sl (!t16) (sl (ua5 [(⟨(⟨0, 0, 0⟩ : V3), 0⟩ : Pln)]) (some ((b (t17 == 12)), [])) none) (some ((b false), []))) none) (some ((b false), []))) none) (some ((b false), []))) none) (some ((b false), []))) none)))) none)) none)) none)) none)) none)) none) none) none)) none) none)) none) none) none) none)
noncomputable def Ia3  : Bool := G6 (one r1B) ta5
noncomputable def Ia4  : Bool := okO (one r1B) ta5
noncomputable def Db6 : Sum := Zc7  (.guard Ia4 (.ret ((one r1B).enc Ia3, [])))
theorem lc7 : f6 prog G 13 Db6 := te4 (bd b13 dc9) (one r1B) (o := ta5) (p7 (by kernel_rfl))
end Go.Ev.Ce
end
namespace Go.Ev.Ce
open Go Go.Ev Go.Ev.L Go.Proofs
noncomputable def onc (X : List Pt) (p : Pln) : Nat := X.countP fun x => rm p x == 0
noncomputable def keep (X : List Pt) (p : Pln) : Bool := !decide ((onc X p : Int) < 3)
theorem zc8 (p : Pln) (X : List Pt) (hX : X.length ≤ 1000000000) : ga0 ⟨p.n.x, p.n.y, p.n.z, p.b, X⟩ = ⟨1, !keep X p, X⟩ := by
 have h := Fb2 (step := ia8 ⟨X, (X.length : Int), X, p.n.x, p.n.y, p.n.z, p.b⟩) (mk := fun j (n : Nat) => (⟨(n : Int), (j : Int)⟩ : I8)) (f := fun n x => if rm p x == 0 then n + 1 else n) (fin := 1) tX X (fun j n => n ≤ j) hX
  (fun j n hj hi => by
   have hW : W ((n : Int) + 1) = ((n + 1 : Nat) : Int) := by rw [va9 (by omega) (by omega)]; omega
   refine ⟨?_, by show (if rm p (gL tX X j) == 0 then n + 1 else n) ≤ j + 1; split <;> omega⟩
   simp only [ia8, fa0, Int.toNat_natCast, Sc4, hW, o5 hj (show X.length ≤ 4611686018427387904 by omega)]
   rw [btD (m9 hj), bt (e8 hj)]
   cases rm p (gL tX X j) == 0 <;> rfl)
  (fun n _ => by simp only [ia8, fa0]; rw [bfD (T1 (Nat.lt_irrefl _))]) 0 (Nat.zero_le _) 0 (Nat.le_refl _)
 have h := h.1
 have e : ∀ (l : List Pt) (n : Nat), l.foldl (fun n x => if rm p x == 0 then n + 1 else n) n = n + l.countP fun x => rm p x == 0 := by
  intro l
  induction l with
  | nil => intro n; rfl
  | cons x l ih =>
   intro n
   rw [List.foldl_cons, ih, List.countP_cons]
   split <;> omega
 rw [List.drop_zero, e, Nat.zero_add] at h
 unfold ga0 oa0 keep onc
 simp only [l4, m8]
 rw [show (⟨0, 0⟩ : I8) = ⟨((0 : Nat) : Int), ((0 : Nat) : Int)⟩ from rfl, h]
 show na9.mk 1 (decide _) X = na9.mk 1 (!(!(decide _))) X
 rw [Bool.not_not]
theorem Yd0 (l : List Pln) (X : List Pt) (hl : l.length ≤ 1000000000) (hX : X.length ≤ 1000000000) : O9 ⟨l.length, bL tP l, X⟩ = ⟨1, if l.any (fun p => !keep X p) then ((l.findIdx (fun p => !keep X p) : Nat) : Int) else -1, X⟩ := by
 have h := fb7 (step := B9 ⟨l.length, (l.length : Int), bL tP l⟩) (mk := fun j => (⟨(j : Int), X⟩ : l9)) (c := fun p => !keep X p) (u := 1) (fin := 2) tP l hl
  (fun j hj => by
   simp only [B9, z9, Int.toNat_natCast, l4, m8, Wb3 hj, Gb5 hj, zc8 _ _ hX, o5 hj (show l.length ≤ 4611686018427387904 by omega)]
   rw [btD (m9 hj), bt (e8 hj)]
   rfl)
  (by simp only [B9, z9]; rw [bfD (T1 (Nat.lt_irrefl _))]) 0 (Nat.zero_le _)
 rw [List.drop_zero] at h
 unfold O9 A6
 simp only [l4, m8]
 rw [show (⟨0, X⟩ : l9) = ⟨((0 : Nat) : Int), X⟩ from rfl, h]
 cases ha : l.any fun p => !keep X p with
 | false => rfl
 | true =>
  have hf : l.findIdx (fun p => !keep X p) < l.length := by
   rw [List.any_eq_true] at ha
   obtain ⟨p, hp, hc⟩ := ha
   exact List.findIdx_lt_length_of_exists ⟨p, hp, hc⟩
  simp only [if_true, Nat.zero_add, Int.toNat_natCast, Gb5 hf, zc8 _ _ hX, l4]
  rfl
theorem Xb0 {α : Type} (c : α → Bool) : ∀ l : List α, (l.take (l.findIdx c)).filter (fun x => !c x) = l.take (l.findIdx c)
 | [] => rfl
 | x :: l => by
  rw [List.findIdx_cons]
  cases h : c x with
  | true => rfl
  | false =>
   simp only [cond_false, List.take_succ_cons, List.filter_cons, h, Bool.not_false, if_true]
   rw [Xb0 c l]
theorem rd2 {α : Type} (l : List α) (j : Nat) (h : j < l.length) : l.take (j + 1) = l.take j ++ [l[j]] := by rw [List.take_succ_eq_append_getElem h]
theorem Wc0 {α : Type} (t : Ty α) {l : List α} {j : Nat} (h : j < l.length) : l.take (j + 1) = l.take j ++ [gL t l j] := by rw [rd2 l j h, Ma9 t h]
theorem ec0 {α : Type} (t : Ty α) {l r : List α} {j : Nat} (h : l.drop j = r.drop j) : gL t l j = gL t r j := by
 have h1 := Vb3 t l j 0
 have h2 := Vb3 t r j 0
 rw [Nat.add_zero] at h1 h2
 rw [← h1, ← h2, h]
theorem Xb1 {α : Type} {l r : List α} {j : Nat} (h : l.drop j = r.drop j) (k : Nat) : l.drop (j + k) = r.drop (j + k) := by rw [← List.drop_drop, ← List.drop_drop, h]
structure Del (l : List Pln) (f : Pln → Bool) (cur : List Pln) (m j : Nat) : Prop where
 len : cur.length = l.length
 t : cur.take m = (l.take j).filter f
 d : cur.drop j = l.drop j
 le : m ≤ j
 lm : m ≤ l.length
theorem jd3 (l : List Pln) (X : List Pt) (hl : l.length ≤ 1000000000) (hX : X.length ≤ 1000000000) (m j : Nat) (cur : List Pln) (hd : Del l (keep X) cur m j) :
  ∃ t s, lp (v8 ⟨l.length⟩) ⟨(m : Int), (j : Int), bL tP cur, X⟩ = (t, s) ∧ (t = 1 ∧ ∃ m' cur' k, s = ⟨((m' : Nat) : Int), ((k : Nat) : Int), bL tP cur', X⟩ ∧ Del l (keep X) cur' m' k ∧ l.length ≤ k) := by
 refine Aa2 (step := v8 ⟨l.length⟩) (mk := fun j (x : Nat × List Pln) => (⟨(x.1 : Int), (j : Int), bL tP x.2, X⟩ : o2)) l.length (fun j x => Del l (keep X) x.2 x.1 j) (fun t s => t = 1 ∧ ∃ m' cur' k, s = ⟨((m' : Nat) : Int), ((k : Nat) : Int), bL tP cur', X⟩ ∧ Del l (keep X) cur' m' k ∧ l.length ≤ k) hl (fun j x hj hx => ?_) (fun j x hj hx => ?_) j (m, cur) hd
 ·obtain ⟨m, cur⟩ := x
  obtain ⟨h1, h2, h3, h4, h5⟩ := hx
  simp only at h1 h2 h3 h4 h5
  have hjc : j < cur.length := by omega
  have hmc : m < cur.length := by omega
  have hg : gL tP cur j = gL tP l j := ec0 tP h3
  have hWm : W ((m : Int) + 1) = ((m + 1 : Nat) : Int) := by rw [va9 (by omega) (by omega)]; omega
  have hb : Nat.blt m cur.length = true := by rw [Nat.blt_eq]; exact hmc
  have hrow : i5 (bL tP cur) m = tP.row (gL tP cur m) := T7 tP hmc
  have sp : ∀ (v : Pln) (x1 x2 x3 x4 : Int), G8 (tP.row v) 0 [i x1, i x2, i x3, i x4] = tP.row ⟨⟨x1, x2, x3⟩, x4⟩ := fun _ _ _ _ _ => rfl
  have rl : ∀ v : Pln, Nat.ble (0 + 4) (len (tP.row v)) = true := fun _ => rfl
  simp only [v8, A0, Int.toNat_natCast, l4, m8, Wb3 hjc, Gb5 hjc, zc8 _ _ hX, o5 hj (show l.length ≤ 4611686018427387904 by omega), hWm]
  rw [btD (m9 hj), bt (e8 hj)]
  simp only [Nat.zero_add, hrow, N6, hb, sp, lb9, e8 (show m < l.length by omega), hg]
  have ht := Wc0 tP hj
  have hd1 : cur.drop (j + 1) = l.drop (j + 1) := Xb1 h3 1
  cases hk : keep X (gL tP l j) with
  | true =>
   refine .nx ⟨(m + 1, cur.set m (gL tP l j)), rfl, ⟨by rw [List.length_set]; exact h1, ?_, ?_, by omega, by show m + 1 ≤ l.length; omega⟩⟩
   ·show (cur.set m (gL tP l j)).take (m + 1) = _
    rw [ht, List.filter_append, List.take_succ_eq_append_getElem (by rw [List.length_set]; exact hmc), List.getElem_set_self, List.take_set_of_le (Nat.le_refl _), h2, List.filter_cons, hk, if_pos rfl, List.filter_nil]
   ·show (cur.set m (gL tP l j)).drop (j + 1) = _
    rw [List.drop_set_of_lt (by omega), hd1]
  | false =>
   refine .nx ⟨(m, cur), rfl, ⟨h1, ?_, hd1, by omega, h5⟩⟩
   show cur.take m = _
   rw [ht, List.filter_append, h2, List.filter_cons, hk, if_neg (by simp), List.filter_nil, List.append_nil]
 ·obtain ⟨m, cur⟩ := x
  refine ⟨1, ?_, rfl, m, cur, j, rfl, hx, hj⟩
  simp only [v8, A0]
  rw [bfD (by omega)]
theorem wd2 (l : List Pln) (n : Nat) : C9 (bL tP l) n = bL tP (l.take n) := by unfold bL; rw [B0, k8, k8, List.map_take]
theorem Wc1 (l : List Pln) (n : Nat) : e7 (bL tP l) n = bL tP (l.drop n) := by unfold bL; rw [B1, k8, k8, List.map_drop]
theorem wd3 (n : Nat) : List.replicate n [i 0, i 0, i 0, i 0] = bL tP (List.replicate n ⟨⟨0, 0, 0⟩, 0⟩) := by unfold bL; rw [k8, List.map_replicate]; rfl
theorem Cd9 (l : List Pln) (X : List Pt) (hl : l.length ≤ 1000000000) (hX : X.length ≤ 1000000000) :
  ∃ m r, P4 ⟨l.length, bL tP l, X⟩ = ⟨1, m, bL tP r, X⟩ ∧ m ≤ r.length ∧ r.take m = l.filter (keep X) ∧ r.length = l.length := by
 unfold P4 A7
 simp only [l4, m8, Yd0 l X hl hX]
 cases ha : l.any fun p => !keep X p with
 | false =>
  refine ⟨l.length, l, rfl, Nat.le_refl _, ?_, rfl⟩
  rw [List.take_length]
  symm
  rw [List.filter_eq_self]
  intro p hp
  have := List.any_eq_false.1 ha p hp
  simpa using this
 | true =>
  have hf : l.findIdx (fun p => !keep X p) < l.length := by
   rw [List.any_eq_true] at ha
   obtain ⟨p, hp, hc⟩ := ha
   exact List.findIdx_lt_length_of_exists ⟨p, hp, hc⟩
  have hk : keep X (gL tP l (l.findIdx fun p => !keep X p)) = false := by
   have := List.findIdx_getElem (xs := l) (p := fun p => !keep X p) (w := hf)
   rw [Ma9 tP hf]
   simpa using this
  have ht := Xb0 (fun p => !keep X p) l
  simp only [Bool.not_not] at ht
  generalize hF : l.findIdx (fun p => !keep X p) = F at *
  have hW : W ((F : Int) + 1) = ((F + 1 : Nat) : Int) := o5 hf (by omega)
  have hne : ((F : Int) == -1) = false := by rw [beq_eq_false_iff_ne]; omega
  obtain ⟨t, s, e1, rfl, m, cur, k, e2, e3, e4⟩ := jd3 l X hl hX F (F + 1) l ⟨rfl, by rw [Wc0 tP hf, List.filter_append, ht, List.filter_cons, hk, if_neg (by simp), List.filter_nil, List.append_nil], rfl, by omega, by omega⟩
  have hm : m ≤ l.length := e3.lm
  have hin : inB (m : Int) (l.length + 1) = true := e8 (by omega)
  have hfin : cur.take m = l.filter (keep X) := by rw [e3.t, List.take_of_length_le e4]
  simp only [if_true, hW, hne, e1, e2, Int.toNat_natCast, hin, Nat.zero_add, Nat.sub_zero]
  refine ⟨m, cur.take m ++ (List.replicate (l.length - m) ⟨⟨0, 0, 0⟩, 0⟩ ++ cur.drop (m + (l.length - m))), ?_, ?_, ?_, ?_⟩
  ·rw [wd2, wd3, Wc1, Ea2, Ea2]
   rfl
  ·rw [List.length_append, List.length_append, List.length_take, List.length_replicate, e3.len]; omega
  ·rw [List.take_append_of_le_length (by rw [List.length_take, e3.len]; omega), List.take_take, Nat.min_self, hfin]
  ·rw [List.length_append, List.length_append, List.length_take, List.length_replicate, List.length_drop, e3.len]; omega
def eqP (x y : Pln) : Bool := x.n.x == y.n.x && (x.n.y == y.n.y && (x.n.z == y.n.z && (x.b == y.b && true)))
theorem Yd1 (x y : Pln) : eqP x y = true ↔ x = y := by
 unfold eqP
 simp only [Bool.and_true, Bool.and_eq_true, beq_iff_eq]
 refine ⟨fun ⟨h1, h2, h3, h4⟩ => ?_, fun h => by subst h; exact ⟨rfl, rfl, rfl, rfl⟩⟩
 obtain ⟨⟨x1, x2, x3⟩, x4⟩ := x
 obtain ⟨⟨y1, y2, y3⟩, y4⟩ := y
 simp only at h1 h2 h3 h4
 subst h1 h2 h3 h4
 rfl
def ddF : Pln → List Pln → List Pln
 | _, [] => []
 | a, x :: l => if eqP x a then ddF x l else x :: ddF x l
def dd : List Pln → List Pln
 | [] => []
 | x :: l => x :: ddF x l
structure Cmp (l : List Pln) (n : Nat) (cur : List Pln) (m j : Nat) (R : List Pln) : Prop where
 len : cur.length = l.length
 t : cur.take m ++ ddF (gL tP l (j - 1)) ((l.take n).drop j) = R
 d : cur.drop (j - 1) = l.drop (j - 1)
 le : m + 1 ≤ j
theorem Wc2 (l : List Pln) (n o : Nat) (hn : n ≤ l.length) (hl : l.length ≤ 1000000000) (ho : o < n) (m : Nat) (cur : List Pln) (R : List Pln) (hd : Cmp l n cur m (o + 1) R) :
  ∃ t s, lp (o0 ⟨n, 0 + o, n - o⟩) ⟨(m : Int), ((1 : Nat) : Int), bL tP cur⟩ = (t, s) ∧ (t = 1 ∧ ∃ m' cur' k, s = ⟨((m' : Nat) : Int), k, bL tP cur'⟩ ∧ cur'.length = l.length ∧ cur'.take m' = R ∧ m' ≤ n) := by
 refine Aa2 (step := o0 ⟨n, 0 + o, n - o⟩) (mk := fun j (x : Nat × List Pln) => (⟨(x.1 : Int), (j : Int), bL tP x.2⟩ : n5)) (n - o) (fun j x => Cmp l n x.2 x.1 (o + j) R ∧ 1 ≤ j ∧ x.1 ≤ n) (fun t s => t = 1 ∧ ∃ m' cur' k, s = ⟨((m' : Nat) : Int), k, bL tP cur'⟩ ∧ cur'.length = l.length ∧ cur'.take m' = R ∧ m' ≤ n) (by omega) (fun j x hj hx => ?_) (fun j x hj hx => ?_) 1 (m, cur) ⟨hd, Nat.le_refl _, by have := hd.le; show m ≤ n; omega⟩
 ·obtain ⟨m, cur⟩ := x
  obtain ⟨⟨h1, h2, h3, h4⟩, hj1, hmn⟩ := hx
  simp only at h1 h2 h3 h4 hmn
  have hoj : o + j < n := by omega
  have hjc : o + j < cur.length := by omega
  have hjc' : o + (j - 1) < cur.length := by omega
  have hmc : m < cur.length := by omega
  have hg' : gL tP cur (o + (j - 1)) = gL tP l (o + j - 1) := by rw [show o + (j - 1) = o + j - 1 by omega]; exact ec0 tP h3
  have hd1 : cur.drop (o + j) = l.drop (o + j) := by have := Xb1 h3 1; rw [show o + j - 1 + 1 = o + j by omega] at this; exact this
  have hg : gL tP cur (o + j) = gL tP l (o + j) := ec0 tP hd1
  have hWm : W ((m : Int) + 1) = ((m + 1 : Nat) : Int) := by rw [va9 (by omega) (by omega)]; omega
  have hWj : W ((j : Int) - 1) = ((j - 1 : Nat) : Int) := by rw [va9 (by omega) (by omega)]; omega
  have hb : Nat.blt m cur.length = true := by rw [Nat.blt_eq]; exact hmc
  have hrow : i5 (bL tP cur) m = tP.row (gL tP cur m) := T7 tP hmc
  have sp : ∀ (v : Pln) (x1 x2 x3 x4 : Int), G8 (tP.row v) 0 [i x1, i x2, i x3, i x4] = tP.row ⟨⟨x1, x2, x3⟩, x4⟩ := fun _ _ _ _ _ => rfl
  have rl : ∀ v : Pln, Nat.ble 4 (len (tP.row v)) = true := fun _ => rfl
  simp only [o0, E7, Int.toNat_natCast, Nat.zero_add, hWj, Pc1 tP hjc, Pc1 tP hjc', Pc0 tP hjc, Pc0 tP hjc', o5 hj (show n - o ≤ 4611686018427387904 by omega), hWm, hg, hg', hrow, N6, hb, sp, rl, lb9, e8 (show m < n by omega)]
  rw [btD (m9 hj)]
  simp only [e8 hj, e8 (show j - 1 < n - o by omega), o6, Bool.and_self]
  rw [show ((gL tP l (o + j)).n.x == (gL tP l (o + j - 1)).n.x && ((gL tP l (o + j)).n.y == (gL tP l (o + j - 1)).n.y && ((gL tP l (o + j)).n.z == (gL tP l (o + j - 1)).n.z && ((gL tP l (o + j)).b == (gL tP l (o + j - 1)).b && true)))) = eqP (gL tP l (o + j)) (gL tP l (o + j - 1)) from rfl]
  have hcons : (l.take n).drop (o + j) = gL tP l (o + j) :: (l.take n).drop (o + (j + 1)) := by
   rw [List.drop_eq_getElem_cons (by rw [List.length_take]; omega), List.getElem_take, Ma9 tP (by omega)]
   rfl
  rw [hcons] at h2
  have hlast : o + (j + 1) - 1 = o + j := by omega
  unfold ddF at h2
  cases he : eqP (gL tP l (o + j)) (gL tP l (o + j - 1)) with
  | true =>
   rw [he] at h2
   simp only [if_true] at h2
   refine .nx ⟨(m, cur), rfl, ⟨⟨h1, ?_, ?_, by show m + 1 ≤ o + (j + 1); omega⟩, by omega, hmn⟩⟩
   ·rw [hlast]; exact h2
   ·rw [hlast]; exact hd1
  | false =>
   rw [he] at h2
   simp only [Bool.false_eq_true, if_false] at h2
   refine .nx ⟨(m + 1, cur.set m (gL tP l (o + j))), rfl, ⟨⟨by rw [List.length_set]; exact h1, ?_, ?_, by show m + 1 + 1 ≤ o + (j + 1); omega⟩, by omega, by show m + 1 ≤ n; omega⟩⟩
   ·rw [hlast]
    show (cur.set m (gL tP l (o + j))).take (m + 1) ++ _ = R
    rw [List.take_succ_eq_append_getElem (by rw [List.length_set]; exact hmc), List.getElem_set_self, List.take_set_of_le (Nat.le_refl _), List.append_assoc]
    exact h2
   ·rw [hlast]
    show (cur.set m (gL tP l (o + j))).drop (o + j) = _
    rw [List.drop_set_of_lt (by omega), hd1]
 ·obtain ⟨m, cur⟩ := x
  obtain ⟨⟨h1, h2, h3, h4⟩, hj1, hmn⟩ := hx
  simp only at h1 h2 h3 h4 hmn
  refine ⟨1, ?_, rfl, m, cur, _, rfl, h1, ?_, hmn⟩
  ·simp only [o0, E7]
   rw [bfD (by omega)]
  ·rw [List.drop_eq_nil_of_le (by rw [List.length_take]; omega)] at h2
   unfold ddF at h2
   rw [List.append_nil] at h2
   exact h2
theorem rd3 (l : List Pln) (n : Nat) (hn : n ≤ l.length) (hl : l.length ≤ 1000000000) :
  ∃ m r, Y3 ⟨n, bL tP l⟩ = ⟨1, m, bL tP r⟩ ∧ m ≤ r.length ∧ r.take m = dd (l.take n) := by
 unfold Y3 F8
 simp only
 by_cases h2 : (n : Int) < 2
 ·rw [btD h2]
  refine ⟨n, l, rfl, hn, ?_⟩
  have : n = 0 ∨ n = 1 := by omega
  rcases this with rfl | rfl
  ·rfl
  ·cases l with
   | nil => rfl
   | cons x l => rfl
 ·rw [bfD h2]
  have h1n : 1 ≤ n := by omega
  have hI : ∀ j, j < n → 1 ≤ j → l.take j ++ ddF (gL tP l (j - 1)) ((l.take n).drop j) = dd (l.take n) →
    (eqP (gL tP l j) (gL tP l (j - 1)) = true → Cmp l n l j (j + 1) (dd (l.take n))) ∧ (eqP (gL tP l j) (gL tP l (j - 1)) = false → l.take (j + 1) ++ ddF (gL tP l (j + 1 - 1)) ((l.take n).drop (j + 1)) = dd (l.take n)) := by
   intro j hj hj1 hR
   have hcons : (l.take n).drop j = gL tP l j :: (l.take n).drop (j + 1) := by
    rw [List.drop_eq_getElem_cons (by rw [List.length_take]; omega), List.getElem_take, Ma9 tP (by omega)]
   rw [hcons] at hR
   unfold ddF at hR
   constructor
   ·intro he
    rw [he] at hR
    simp only [if_true] at hR
    exact ⟨rfl, hR, rfl, Nat.le_refl _⟩
   ·intro he
    rw [he] at hR
    simp only [Bool.false_eq_true, if_false] at hR
    rw [Wc0 tP (show j < l.length by omega), List.append_assoc]
    exact hR
  have inner : ∀ k, k < n → 1 ≤ k → Cmp l n l k (k + 1) (dd (l.take n)) → ∃ m' cur' k', lp (o0 ⟨n, 0 + k, n - k⟩) ⟨(k : Int), 1, bL tP l⟩ = (1, ⟨((m' : Nat) : Int), k', bL tP cur'⟩) ∧ cur'.length = l.length ∧ cur'.take m' = dd (l.take n) ∧ m' ≤ n := by
   intro k hk hk1 hc
   obtain ⟨t, s, e1, rfl, m', cur', k', rfl, e2, e3, e4⟩ := Wc2 l n k hn hl hk k l _ hc
   exact ⟨m', cur', k', e1, e2, e3, e4⟩
  have key := Aa2 (step := G2 ⟨n, bL tP l⟩) (mk := fun j (_ : Unit) => (⟨(j : Int)⟩ : o4)) n (fun j _ => 1 ≤ j ∧ j ≤ n ∧ l.take j ++ ddF (gL tP l (j - 1)) ((l.take n).drop j) = dd (l.take n))
   (fun t s => (t = 1 ∧ ∃ k : Nat, s = ⟨(k : Int)⟩ ∧ k < n ∧ 1 ≤ k ∧ Cmp l n l k (k + 1) (dd (l.take n))) ∨ (t = 2 ∧ l.take n = dd (l.take n))) (by omega) (fun j x hj hx => ?_) (fun j x hj hx => ?_) 1 () ⟨Nat.le_refl _, h1n, by
    cases l with
    | nil => simp only [List.length_nil] at hn; omega
    | cons x l =>
     cases n with
     | zero => omega
     | succ n => rfl⟩
  ·obtain ⟨t, s, e1, e2⟩ := key
   rw [show (⟨1⟩ : o4) = ⟨((1 : Nat) : Int)⟩ from rfl, e1]
   rcases e2 with ⟨rfl, k, rfl, hk, hk1, hc⟩ | ⟨rfl, he⟩
   ·obtain ⟨m', cur', k', e2, e3, e4, e5⟩ := inner k hk hk1 hc
    simp only [Int.toNat_natCast, e2]
    simp only [Nat.zero_add, Nat.sub_zero]
    refine ⟨m', cur'.take m' ++ (List.replicate (n - m') ⟨⟨0, 0, 0⟩, 0⟩ ++ cur'.drop (m' + (n - m'))), ?_, ?_, ?_⟩
    ·rw [wd2, wd3, Wc1, Ea2, Ea2]
     rfl
    ·rw [List.length_append, List.length_take, e3]; omega
    ·rw [List.take_append_of_le_length (by rw [List.length_take, e3]; omega), List.take_take, Nat.min_self, e4]
   ·exact ⟨n, l, rfl, hn, he⟩
  ·obtain ⟨hj1, hjn, hR⟩ := hx
   obtain ⟨i1, i2⟩ := hI j hj hj1 hR
   have hWj : W ((j : Int) - 1) = ((j - 1 : Nat) : Int) := by rw [va9 (by omega) (by omega)]; omega
   have hjl : j < l.length := by omega
   have hjl' : j - 1 < l.length := by omega
   simp only [G2, E8, Int.toNat_natCast, hWj, Wb3 hjl, Wb3 hjl', Gb5 hjl, Gb5 hjl', o5 hj (show n ≤ 4611686018427387904 by omega)]
   rw [btD (m9 hj), bt (e8 hj), bt (e8 (show j - 1 < n by omega)), bt (e8 (show j < n + 1 by omega))]
   simp only [o6]
   rw [show ((gL tP l j).n.x == (gL tP l (j - 1)).n.x && ((gL tP l j).n.y == (gL tP l (j - 1)).n.y && ((gL tP l j).n.z == (gL tP l (j - 1)).n.z && ((gL tP l j).b == (gL tP l (j - 1)).b && true)))) = eqP (gL tP l j) (gL tP l (j - 1)) from rfl]
   cases he : eqP (gL tP l j) (gL tP l (j - 1)) with
   | false => exact .nx ⟨(), rfl, by omega, by omega, i2 he⟩
   | true =>
    obtain ⟨m', cur', k', e2, e3, e4, e5⟩ := inner j hj hj1 (i1 he)
    rw [e2]
    simp only [e8 (show m' < n + 1 by omega)]
    exact .ex (.inl ⟨rfl, j, rfl, hj, hj1, i1 he⟩)
  ·obtain ⟨hj1, hjn, hR⟩ := hx
   refine ⟨2, ?_, .inr ⟨rfl, ?_⟩⟩
   ·simp only [G2, E8]
    rw [bfD (by omega)]
   ·have : j = n := by omega
    subst this
    rw [List.drop_eq_nil_of_le (by rw [List.length_take]; omega)] at hR
    unfold ddF at hR
    rw [List.append_nil] at hR
    exact hR
theorem Od5 (l : List Pln) (n : Nat) (hn : n ≤ l.length) : slR tP (bL tP l) 0 n = l.take n := rc2 tP (by rw [List.length_take]; omega) fun k hk => by
 rw [Nat.zero_add, T7 tP (by omega)]
 congr 1
 simp [gL, List.getD_eq_getElem?_getD, List.getElem?_take, hk]
theorem Od6 (l : List Pln) (n : Nat) (hn : n ≤ l.length) : okS tP (bL tP l) 0 n = true := qb1 tP (f := fun k => gL tP l k) fun k hk => by rw [Nat.zero_add, T7 tP (by omega)]
noncomputable def lean (c : List Pln) : List Pln := if ful c then dd (vb5 (c.filter (keep (pts c)))) else []
theorem wd4 (p : Pln) (c : List Pln) (hc : c.length ≤ 1000000) : Rd (one (r1L tP)) (Qa6 (p, c)) (fun r => r = lean (p :: c)) := by
 have hl : (p :: c).length ≤ 1000000000 := by simp only [List.length_cons]; omega
 have hX := Wb1 (p :: c)
 unfold Qa6 lean
 simp only [l4, J4, m8, le6, le7, cc2 hl, cc3 hl, nb7 hl, nb8 hl]
 cases hf : ful (p :: c) with
 | false => exact ⟨_, [], rfl, rfl, rfl⟩
 | true =>
  have ec : n3 (fun k => tP.row (gL tP (p :: c) k)) (List.range (c.length + 1)) = bL tP (p :: c) := Xa9 tP (p :: c)
  have hcl : fa2 (p, c) = ⟨1, (p :: c).length, bL tP (p :: c)⟩ := by
   unfold fa2 K1
   simp only [ec, N6]
   have z : Nat.beq (p :: c).length 0 = false := rfl
   have r : Nat.ble ((0 + (p :: c).length) * 32) room = true := ka1 (by simp only [List.length_cons]; omega)
   rw [z, r, Nat.zero_add]
   rfl
  obtain ⟨m, r, e1, e2, e3, e4⟩ := Cd9 (p :: c) (pts (p :: c)) hl (by omega)
  have hm : m ≤ (p :: c).length := by
   have h1 := congrArg List.length e3
   have h2 := List.length_filter_le (keep (pts (p :: c))) (p :: c)
   rw [List.length_take] at h1
   omega
  have hs : (vb5 (r.take m)).length = m := by rw [Mc0, List.length_take]; omega
  have hrows : app (bL tP (vb5 (r.take m))) (e7 (bL tP r) m) = bL tP (vb5 (r.take m) ++ r.drop m) := by rw [Wc1, Ea2]
  have hok : okL tP (c.length + 1) (fun k => tP.row (gL tP (p :: c) k)) = true := qb1 tP (f := fun k => gL tP (p :: c) k) fun _ _ => rfl
  simp only [hcl, e1, Od5 r m e2, Od6 r m e2, hrows, hok]
  obtain ⟨m2, r2, k1, k2, k3⟩ := rd3 (vb5 (r.take m) ++ r.drop m) m (by rw [List.length_append, hs]; omega) (by rw [List.length_append, hs, List.length_drop, e4]; omega)
  rw [k1, N6]
  have q1 : Nat.ble m room = true := by rw [Nat.ble_eq]; unfold room; simp only [List.length_cons] at hm; omega
  have q2 : Nat.ble m r.length = true := by rw [Nat.ble_eq]; exact e2
  rw [q1, q2]
  have hfin : r2.take m2 = dd (vb5 ((p :: c).filter (keep (pts (p :: c))))) := by
   rw [k3, List.take_append_of_le_length (by rw [hs]; omega), List.take_of_length_le (by rw [hs]; omega), e3]
  exact Nd2 k2 rfl hfin
theorem je3 (p : Pln) (c : List Pln) (hc : c.length ≤ 1000000) : Db4 (p, c) = lean (p :: c) := (wd4 p c hc).p
theorem je4 (p : Pln) (c : List Pln) (hc : c.length ≤ 1000000) : Db5 (p, c) = true := (wd4 p c hc).g
end Go.Ev.Ce
namespace Go.Ev.Ce
open Go Go.Ev Go.Ev.L Go.Proofs Go.Sort
theorem rd4 (l : List Pln) : List.Perm (vb5 l) l := List.mergeSort_perm l _
theorem Dd0 (x y z : Pln) (h1 : (!ltOf lb2 y x) = true) (h2 : (!ltOf lb2 z y) = true) : (!ltOf lb2 z x) = true := by
 simp only [Bool.not_eq_true', Xa0, decide_eq_false_iff_not] at *
 unfold LtP at *
 omega
theorem Dd1 (x y : Pln) : ((!ltOf lb2 y x) || !ltOf lb2 x y) = true := by
 simp only [Bool.or_eq_true, Bool.not_eq_true', Xa0, decide_eq_false_iff_not]
 unfold LtP
 omega
theorem Wc3 (l : List Pln) : (vb5 l).Pairwise fun x y => (!ltOf lb2 y x) = true := List.pairwise_mergeSort Dd0 Dd1 l
theorem Wc4 {l r : List Pln} (hp : List.Perm r l) (hs : r.Pairwise fun x y => (!ltOf lb2 y x) = true) : vb5 l = r :=
 List.Perm.eq_of_pairwise (fun x y _ _ h1 h2 => se2 x y (by simpa using h2) (by simpa using h1)) (Wc3 l) hs ((rd4 l).trans hp.symm)
instance : DecidableEq Pln := fun x y => decidable_of_iff _ (Yd1 x y)
def U6 : List Pln := [⟨⟨1, 0, 0⟩, 1⟩, ⟨⟨-1, 0, 0⟩, 0⟩, ⟨⟨0, 1, 0⟩, 1⟩, ⟨⟨0, -1, 0⟩, 0⟩, ⟨⟨0, 0, 1⟩, 1⟩, ⟨⟨0, 0, -1⟩, 0⟩]
def U8 : List Pln := [⟨⟨-1, 0, 0⟩, 0⟩, ⟨⟨0, 1, 0⟩, 1⟩, ⟨⟨0, -1, 0⟩, 0⟩, ⟨⟨0, 0, 1⟩, 1⟩, ⟨⟨0, 0, -1⟩, 0⟩, ⟨⟨1, 0, 0⟩, 1⟩, ⟨⟨1, 1, 1⟩, 3⟩, ⟨⟨1, 0, 0⟩, 7⟩]
def C4 : List Pln := [⟨⟨-1, 0, 0⟩, 0⟩, ⟨⟨0, -1, 0⟩, 0⟩, ⟨⟨0, 0, -1⟩, 0⟩, ⟨⟨2, 3, 4⟩, 1⟩]
def U7 : List Pln := [⟨⟨1, 0, 0⟩, 1⟩, ⟨⟨-1, 0, 0⟩, 0⟩, ⟨⟨0, 1, 0⟩, 1⟩, ⟨⟨0, -1, 0⟩, 0⟩, ⟨⟨0, 0, 1⟩, 1⟩, ⟨⟨0, 0, -1⟩, 0⟩, ⟨⟨-1, 0, 0⟩, -1⟩]
def LU : List Pln := [⟨⟨-1, 0, 0⟩, 0⟩, ⟨⟨0, -1, 0⟩, 0⟩, ⟨⟨0, 0, -1⟩, 0⟩, ⟨⟨0, 0, 1⟩, 1⟩, ⟨⟨0, 1, 0⟩, 1⟩, ⟨⟨1, 0, 0⟩, 1⟩]
def PU : List Pt := [⟨1, 1, 1, 1⟩, ⟨1, 1, 0, 1⟩, ⟨1, 0, 1, 1⟩, ⟨1, 0, 0, 1⟩, ⟨0, 1, 1, 1⟩, ⟨0, 1, 0, 1⟩, ⟨0, 0, 1, 1⟩, ⟨0, 0, 0, 1⟩]
def PC : List Pt := [⟨0, 0, 0, 1⟩, ⟨0, 0, 1, 4⟩, ⟨0, 1, 0, 3⟩, ⟨1, 0, 0, 2⟩]
theorem je5 : pts U6 = PU := by kernel_rfl
theorem je6 : pts C4 = PC := by kernel_rfl
theorem je7 : ful [] = true := by kernel_rfl
theorem je8 : ful U7 = false := by kernel_rfl
theorem je9 : has U6 ⟨1, 0, 0⟩ = true := by kernel_rfl
theorem ke0 : has U6 ⟨2, 0, 0⟩ = false := by kernel_rfl
theorem se6 : bnd C4 = (⟨0, 0, 0⟩, ⟨1, 1, 1⟩, true) := by kernel_rfl
theorem se7 : apart U6 [⟨⟨-1, 0, 0⟩, -1⟩] = true := by kernel_rfl
theorem se8 : apart U6 [⟨⟨-1, -1, 0⟩, -1⟩] = false := by kernel_rfl
theorem se9 : Od0 U6 [⟨⟨1, 1, 1⟩, 3⟩] = true := by kernel_rfl
theorem te0 : Od0 U6 [⟨⟨1, 1, 1⟩, 2⟩] = false := by kernel_rfl
theorem te1 : chk [⟨⟨0, 0, 0⟩, 0⟩] = 12 := by kernel_rfl
theorem te2 : (⟨⟨1, 0, 0⟩, 1⟩ :: U8).filter (keep (pts (⟨⟨1, 0, 0⟩, 1⟩ :: U8))) = [⟨⟨1, 0, 0⟩, 1⟩, ⟨⟨-1, 0, 0⟩, 0⟩, ⟨⟨0, 1, 0⟩, 1⟩, ⟨⟨0, -1, 0⟩, 0⟩, ⟨⟨0, 0, 1⟩, 1⟩, ⟨⟨0, 0, -1⟩, 0⟩, ⟨⟨1, 0, 0⟩, 1⟩] := by kernel_rfl
theorem ke1 : ful (⟨⟨1, 0, 0⟩, 1⟩ :: U8) = true := by kernel_rfl
theorem ke2 : lean (⟨⟨1, 0, 0⟩, 1⟩ :: U8) = LU := by
 unfold lean
 rw [ke1, if_pos rfl, te2, Wc4 (r := [⟨⟨-1, 0, 0⟩, 0⟩, ⟨⟨0, -1, 0⟩, 0⟩, ⟨⟨0, 0, -1⟩, 0⟩, ⟨⟨0, 0, 1⟩, 1⟩, ⟨⟨0, 1, 0⟩, 1⟩, ⟨⟨1, 0, 0⟩, 1⟩, ⟨⟨1, 0, 0⟩, 1⟩])]
 ·rfl
 ·exact List.isPerm_iff.1 (by kernel_rfl)
 ·exact of_decide_eq_true (by kernel_rfl)
theorem Yd2 : ub5 = ⟨1, 0, 1, 0, 1, 0⟩ := by kernel_rfl
theorem Mc2 : ta5 = some (b true, []) := by
 have le : ∀ {c : List Pln}, c.length ≤ 100 → c.length ≤ 1000000000 := fun h => by omega
 have le' : ∀ {c : List Pln}, c.length ≤ 100 → c.length ≤ 100000000 := fun h => by omega
 have u : U6.length ≤ 100 := by decide
 have u7 : U7.length ≤ 100 := by decide
 have u8 : U8.length ≤ 1000000 := by decide
 have c4 : C4.length ≤ 100 := by decide
 have n0 : ([] : List Pln).length ≤ 100 := by decide
 have o1 : ∀ p : Pln, [p].length ≤ 100 := fun _ => (by decide : 1 ≤ 100)
 unfold ta5
 rw [Yd2]
 simp only [l4, J4]
 rw [show ([⟨⟨1, 0, 0⟩, 1⟩, ⟨⟨-1, 0, 0⟩, 0⟩, ⟨⟨0, 1, 0⟩, 1⟩, ⟨⟨0, -1, 0⟩, 0⟩, ⟨⟨0, 0, 1⟩, 1⟩, ⟨⟨0, 0, -1⟩, 0⟩, ⟨⟨-1, 0, 0⟩, -1⟩] : List Pln) = U7 from rfl,
  show ([⟨⟨-1, 0, 0⟩, 0⟩, ⟨⟨0, 1, 0⟩, 1⟩, ⟨⟨0, -1, 0⟩, 0⟩, ⟨⟨0, 0, 1⟩, 1⟩, ⟨⟨0, 0, -1⟩, 0⟩, ⟨⟨1, 0, 0⟩, 1⟩, ⟨⟨1, 1, 1⟩, 3⟩, ⟨⟨1, 0, 0⟩, 7⟩] : List Pln) = U8 from rfl,
  show ([⟨⟨1, 0, 0⟩, 1⟩, ⟨⟨-1, 0, 0⟩, 0⟩, ⟨⟨0, 1, 0⟩, 1⟩, ⟨⟨0, -1, 0⟩, 0⟩, ⟨⟨0, 0, 1⟩, 1⟩, ⟨⟨0, 0, -1⟩, 0⟩] : List Pln) = U6 from rfl,
  show ([⟨⟨-1, 0, 0⟩, 0⟩, ⟨⟨0, -1, 0⟩, 0⟩, ⟨⟨0, 0, -1⟩, 0⟩, ⟨⟨2, 3, 4⟩, 1⟩] : List Pln) = C4 from rfl,
  show ([⟨⟨-1, 0, 0⟩, 0⟩, ⟨⟨0, -1, 0⟩, 0⟩, ⟨⟨0, 0, -1⟩, 0⟩, ⟨⟨0, 0, 1⟩, 1⟩, ⟨⟨0, 1, 0⟩, 1⟩, ⟨⟨1, 0, 0⟩, 1⟩] : List Pln) = LU from rfl]
 simp only [nb7 (le u), nb8 (le u), nb7 (le c4), nb8 (le c4), je5, je6, je3 _ U8 u8, je4 _ U8 u8, ke2, cc2 (le n0), cc3 (le n0), je7, cc2 (le u7), cc3 (le u7), je8,
  re9 (le u), se0 (le u), je9, ke0, vd6 (le c4), vd7 (le c4), se6, Xd3 (le' u) (le' (o1 _)), Xd4 (le' u) (le' (o1 _)), se7, se8, Od1 (le u) (le (o1 _)), Od2 (le u) (le (o1 _)), se9, te0,
  Sc8 _ (le (o1 _)), Sc9 _ (le (o1 _)), te1]
 rw [show ([⟨1, 1, 1, 1⟩, ⟨1, 1, 0, 1⟩, ⟨1, 0, 1, 1⟩, ⟨1, 0, 0, 1⟩, ⟨0, 1, 1, 1⟩, ⟨0, 1, 0, 1⟩, ⟨0, 0, 1, 1⟩, ⟨0, 0, 0, 1⟩] : List Pt) = PU from rfl,
  show ([⟨0, 0, 0, 1⟩, ⟨0, 0, 1, 4⟩, ⟨0, 1, 0, 3⟩, ⟨1, 0, 0, 2⟩] : List Pt) = PC from rfl]
 simp only [tb8 PU (by decide), tb9 PU (by decide), tb8 PC (by decide), tb9 PC (by decide), ie4 LU (by decide), ie5 LU (by decide)]
 rfl
theorem Od7 : Ia3 = true := by unfold Ia3; rw [Mc2]; rfl
theorem Od8 : Ia4 = true := by unfold Ia4; rw [Mc2]; rfl
end Go.Ev.Ce
section
namespace Go.Ev.Ce
open Go Go.Ev Go.Ev.L Go.Proofs
set_option maxRecDepth 100000
noncomputable def cb1 : List (Nat × Sum) := [(13, Db6), (14, Kb0), (15, Ua9), (16, gb0), (18, na2), (19, qb8), (17, La3), (20, Ca6), (21, rb3), (22, sb4), (23, fc8)]
theorem Ib0 : i7 prog G cb1 := ⟨lc7, yc5, jb3, qb7, sa0, Jb2, gb7, Ga4, Bb2, Jb7, Rc4, trivial⟩
structure W0 where
 bs7 : Bool
 F9 : List (List Pln)
 ba4 : Int
structure D0 where
 Da1 : Int
noncomputable def Db7 (p : W0) (s : D0) : St := ⟨(ra 7 ((b p.bs7) :: (ra 12 ((eL (tLs tP) p.F9) :: ((i p.ba4) :: ((i s.Da1) :: (ra 50 []))))))), []⟩
noncomputable def Q1 {α : Type} (k : D0 → α) (e : Nat → α) (z : α) (p : W0) (s : D0) : α := let t1 := (ua4 (rt tP (gL (tLs tP) p.F9 s.Da1.toNat))); let t2 := (Ca2 (rt tP (gL (tLs tP) p.F9 s.Da1.toNat))); let t3 := (R5 (rt tP (gL (tLs tP) p.F9 s.Da1.toNat))); let t4 := (Ea8 (rt tP (gL (tLs tP) p.F9 s.Da1.toNat))); let t5 := (Z1 (rt tX t3) (rt tX t4)); let t6 := (ea1 (rt tP (gL (tLs tP) p.F9 s.Da1.toNat))); let t7 := (Ba2 (rt tP (gL (tLs tP) p.F9 s.Da1.toNat))); let t8 := (Ga7 (rt tP (gL (tLs tP) p.F9 s.Da1.toNat))); let t9 := (gb1 (rt tP (gL (tLs tP) p.F9 s.Da1.toNat))); (sl (decide (s.Da1 < p.ba4)) (sl (inB s.Da1 (List.length p.F9)) (sl (okE tP (gL (tLs tP) p.F9 s.Da1.toNat)) (sl (ua5 (rt tP (gL (tLs tP) p.F9 s.Da1.toNat))) (sl (okE tP (gL (tLs tP) p.F9 s.Da1.toNat)) (sl (Ca3 (rt tP (gL (tLs tP) p.F9 s.Da1.toNat))) (sl (t1 != t2) (e 1) (sl (okE tP (gL (tLs tP) p.F9 s.Da1.toNat)) (sl (R6 (rt tP (gL (tLs tP) p.F9 s.Da1.toNat))) (sl (okE tP (gL (tLs tP) p.F9 s.Da1.toNat)) (sl (Ea9 (rt tP (gL (tLs tP) p.F9 s.Da1.toNat))) (sl (okE tX t3) (sl (okE tX t4) (sl (Z2 (rt tX t3) (rt tX t4)) (sl (!t5) (e 1) (sl (okE tP (gL (tLs tP) p.F9 s.Da1.toNat)) (sl (ea2 (rt tP (gL (tLs tP) p.F9 s.Da1.toNat))) (sl (okE tP (gL (tLs tP) p.F9 s.Da1.toNat)) (sl (ra0 (rt tP (gL (tLs tP) p.F9 s.Da1.toNat))) (sl (!(t6 == t7)) (e 1) (sl (okE tP (gL (tLs tP) p.F9 s.Da1.toNat)) (sl (Ga8 (rt tP (gL (tLs tP) p.F9 s.Da1.toNat))) (sl (okE tP (gL (tLs tP) p.F9 s.Da1.toNat)) (sl (gb2 (rt tP (gL (tLs tP) p.F9 s.Da1.toNat))) (sl (!((t8.1.x == t9.1.x) && ((t8.1.y == t9.1.y) && ((t8.1.z == t9.1.z) && true)))) (e 1) (sl (!((t8.2.1.x == t9.2.1.x) && ((t8.2.1.y == t9.2.1.y) && ((t8.2.1.z == t9.2.1.z) && true)))) (e 1) (sl (!(t8.2.2 == t9.2.2)) (e 1) (k ⟨(W (s.Da1 + 1))⟩)))) z) z) z) z)) z) z) z) z)) z) z) z) z) z) z) z)) z) z) z) z) z) (e 2))
noncomputable def K2 (p : W0) (s : D0) : Stp D0 := Q1 .next .exit .fail p s
noncomputable def wa2 : Lo W0 D0 := ⟨En cb1, 0, pf3, [1, 1, 0, 1, 4, 4], [7, 20, 21, 22], .p, [⟨(ru2 7 ((.s (.o .bool)) :: (ru2 12 ((.s (.c 1 (nL (tLs tP)))) :: ((.s (.o (.int .i64))) :: ((.s (.o (.int .i64))) :: (ru2 50 []))))))), [], fun a H => (⟨(toB (slT a 7)), (rL (tLs tP) (slT a 20)), (toI (slT a 21))⟩, ⟨(toI (slT a 22))⟩)⟩], K2, [(none, fun p s => ⟨[(b false)], []⟩), (some 0, fun p s => ⟨(ra 7 ((b p.bs7) :: (ra 12 ((eL (tLs tP) p.F9) :: ((i p.ba4) :: ((i s.Da1) :: ((b (decide (s.Da1 < p.ba4))) :: (ra 49 [])))))))), []⟩)], Db7⟩
theorem Db8 : wa2.Ok := Lo.ok [] (by kernel_rfl) .nil rfl (.cons (fun a H => by kernel_rfl) .nil) fun p s => (.of @Q1 (fun F _ _ _ _ _ => by unfold Q1; (repeat' apply k9 (f := F)) <;> rfl) (by kernel_rfl))
noncomputable def fa3 (x : List Int) (y : Q2) (z : List Pln) : Option (b7 × List b8) := let t1 := Ia3; let t2 := (kb7 (rt tI x) y (rt tP z)); let t3 := (lp (K2 (⟨t1, (rt (tLs tP) t2), (↑(List.length t2) : Int)⟩ : W0)) (⟨0⟩ : D0)); (sl Ia4 (sl (okE tI x) (sl (okE tP z) (sl (kb8 (rt tI x) y (rt tP z)) (sl ((cnE (tLs tP) t2) && true) (sl (Nat.beq t3.1 1) (some ((b false), [])) (sl (Nat.beq t3.1 2) (some ((b t1), [])) none)) none) none) none) none) none)
noncomputable def pa4 (x : List Int) (y : Q2) (z : List Pln) : Bool := G6 (one r1B) (fa3 x y z)
noncomputable def pa5 (x : List Int) (y : Q2) (z : List Pln) : Bool := okO (one r1B) (fa3 x y z)
noncomputable def Ia5 : Sum := ic3 (T5 tI) (P7 tQ) (T5 tP) (fun x y z => .guard (pa5 x y z) (.ret ((one r1B).enc (pa4 x y z), [])))
theorem Ob2 : f6 prog G 3 Ia5 := Rd4 (bd b3 Ib0) (one r1B) (o := fa3) fun x y z => wa0 (.s .p (.s .p (.s (.s .p (.b (.u wa2.ls))) .p))) [wa2.pr] (by kernel_rfl) (.cons Db8 .nil) (by kernel_rfl)
end Go.Ev.Ce
end
namespace Go.Ev.Ce
open Go Go.Ev Go.Ev.L Go.Proofs
theorem rd5 (l : List (List Pln)) (c0 : Bool) (hl : l.length ≤ 1000000000) (hc : ∀ c ∈ l, c.length ≤ 1000000) : (lp (K2 ⟨c0, l, (l.length : Int)⟩) ⟨0⟩).1 = 2 := by
 have h := ib1 (step := K2 ⟨c0, l, (l.length : Int)⟩) (mk := fun j => (⟨(j : Int)⟩ : D0)) (c := fun _ => false) (u := 1) (fin := 2) (tLs tP) l hl
  (fun j hj => by
   have hlen : (gL (tLs tP) l j).length ≤ 1000000000 := Nat.le_trans (hc _ (Yb8 (tLs tP) hj)) (by omega)
   have hp := Wb1 (gL (tLs tP) l j)
   simp only [K2, Q1, Int.toNat_natCast, l4, J4, Sc8 _ hlen, Sc9 _ hlen, vc6 _ hlen, vc7 _ hlen, nb7 hlen, nb8 hlen, Kc9 hlen, Lc0 hlen,
    tb8 (pts (gL (tLs tP) l j)) (by omega), tb9 (pts (gL (tLs tP) l j)) (by omega), cc2 hlen, cc3 hlen, vd3 hlen, Tc5 hlen, vd6 hlen, vd7 hlen, Ld7 hlen, Ld8 hlen,
    o5 hj (show l.length ≤ 4611686018427387904 by omega), bne_self_eq_false, beq_self_eq_true, Bool.and_self, Bool.not_true, o6, lb8]
   rw [btD (m9 hj), bt (e8 hj)])
  (by simp only [K2, Q1]; rw [bfD (T1 (Nat.lt_irrefl _))]) 0 (Nat.zero_le _)
 rw [List.drop_zero, show (l.any fun _ => false) = false by simp] at h
 exact h
theorem jd4 (x : List Int) (y : Q2) (z : List Pln) : fa3 x y z = some (b true, []) := by
 have h := rd5 (Cb9 x y z) true (by simp [Cb9]) (Cd8 x y z)
 unfold fa3
 simp only [l4, J4, m8, Od7, Od8, Xd2, Xd1, h]
 rfl
theorem Yd3 (x : List Int) (y : Q2) (z : List Pln) : pa4 x y z = true := by unfold pa4; rw [jd4]; rfl
theorem Yd4 (x : List Int) (y : Q2) (z : List Pln) : pa5 x y z = true := by unfold pa5; rw [jd4]; rfl
end Go.Ev.Ce
