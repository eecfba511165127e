/- Own work: a part of the proof. -/
import Derived.Test.YtlccibobknidjaaGreatEvDS
import Derived.Test.YtlccibobknidjaaGreatEvE6
set_option linter.unusedVariables false
set_option linter.unusedSimpArgs false
set_option linter.unnecessarySimpa false
set_option linter.unusedSectionVars false
section
namespace Go.Ev.Ce
open Go Go.Ev Go.Ev.L Go.Proofs
set_option maxRecDepth 100000
noncomputable def vb7 : List (Nat × Sum) := []
theorem ub1 : j8 prog G vb7 := trivial
structure fa2 where
 alt : Nat
 ns0 : Nat
 eh0 : List (List b7)
noncomputable def K9 {α : Type} (kk : fa2 → α) (x : Pln × List Pln) : α := (sl (Nat.beq (len (l0 (fun k => (tP).row (gL tP (x.1 :: x.2) k)) (List.range (List.length x.2 + 1)))) 0) (kk ⟨1, 0, []⟩) (sl (Nat.beq 0 0 && Nat.ble ((0 + (len (l0 (fun k => (tP).row (gL tP (x.1 :: x.2) k)) (List.range (List.length x.2 + 1))))) * 32) room) (kk ⟨1, (0 + (len (l0 (fun k => (tP).row (gL tP (x.1 :: x.2) k)) (List.range (List.length x.2 + 1))))), (app [] (l0 (fun k => (tP).row (gL tP (x.1 :: x.2) k)) (List.range (List.length x.2 + 1))))⟩) (kk ⟨0, 0, []⟩)))
noncomputable def fa3 (x : Pln × List Pln) : fa2 := K9 (fun r => r) x
noncomputable def qa0 (r : fa2) : DT (b7 × List b8) := (.ite (Nat.beq r.alt 1) (.ret ((.sl 0 0 r.ns0 0), [⟨50, 4, r.eh0, true, false, 0⟩])) .fail)
theorem Db3 {α β : Type} (F : α → β) (kk : fa2 → α) (x : Pln × List Pln) : F (K9 kk x) = K9 (fun r => F (kk r)) x := by unfold K9; (repeat' apply m8 (f := F)) <;> rfl
noncomputable def Ra0 : Sum := da4 (ne2 tP) (fun x => qa0 (fa3 x))
theorem vb8 : i5 prog G 100 Ra0 := Sb1 (bd ye5 ub1) fun x => r5 (Eq.trans (b := K9 (fun r => (qa0 r).run) x) (by kernel_rfl) (Db3 (fun r => (qa0 r).run) (fun r => r) x).symm)
noncomputable def Wc9 : List (Nat × Sum) := [(20, Pa5), (18, za1), (100, Ra0), (99, wa7), (103, Da6), (105, Ia2)]
theorem Hc5 : j8 prog G Wc9 := ⟨Wa5, Ga9, vb8, cb8, lb9, ob4, trivial⟩
noncomputable def Ra1 (x : Pln × List Pln) : Option (b7 × List b8) := let t1 := (ka7 (rt tP (x.1 :: x.2))); let t2 := (Z4 (rt tP (x.1 :: x.2))); let t3 := (fa3 (hC tP (fun k => (tP).row (gL tP (x.1 :: x.2) k)), tC tP (List.length x.2) (fun k => (tP).row (gL tP (x.1 :: x.2) k)))); let t4 := (Q1 ⟨t3.ns0, t3.eh0, (rt tX t2)⟩); let t5 := (Y6 ⟨t4.ns0, (app (bL tP (vb0 (slR tP t4.eh0 0 t4.ns0))) (d8 t4.eh0 t4.ns0))⟩); (sl (okE tP (x.1 :: x.2)) (sl (ka8 (rt tP (x.1 :: x.2))) (sl (!t1) (some ((.v (.slice none 0 0)), [])) (sl (okE tP (x.1 :: x.2)) (sl (Z5 (rt tP (x.1 :: x.2))) (sl (okL tP (List.length x.2 + 1) (fun k => (tP).row (gL tP (x.1 :: x.2) k))) (sl (Nat.beq t3.alt 1) (sl ((cnE tX t2) && true) (sl (Nat.beq t4.alt 1) (sl (Bool.and (Nat.ble t4.ns0 room) (Bool.and (Nat.ble t4.ns0 (len t4.eh0)) (okS tP t4.eh0 0 t4.ns0))) (sl (Nat.beq t5.alt 1) (some ((.sl 0 0 t5.ns0 0), [⟨50, 4, t5.eh0, true, false, 0⟩])) none) none) none) none) none) none) none) none)) none) none)
noncomputable def Db4 (x : Pln × List Pln) : List Pln := I6 (one (r1L tP)) (Ra1 x)
noncomputable def Db5 (x : Pln × List Pln) : Bool := okO (one (r1L tP)) (Ra1 x)
noncomputable def ic4 : Sum := da4 (ne2 tP) (fun x => .guard (Db5 x) (.ret ((one (r1L tP)).enc (Db4 x), [])))
theorem Xc0 : i5 prog G 25 ic4 := xa0 (bd b25 Hc5) (one (r1L tP)) (o := Ra1) fun x => r5 (by kernel_rfl)
noncomputable def mc4 : List (Nat × Sum) := [(81, Xb6), (18, za1), (17, ob1), (25, ic4), (26, zc3), (20, Pa5), (28, Ac0), (22, Vb3), (31, tb8), (33, lb6), (15, rb6)]
theorem ec7 : j8 prog G mc4 := ⟨Hc4, Ga9, Wb8, Xc0, id3, Wa5, jd6, Fc2, Kb5, Db1, Jb9, trivial⟩
noncomputable def ua6  : Option (b7 × List b8) := let t1 := ub0; let t2 := (Z4 [(⟨(⟨1, 0, 0⟩ : V3), t1.e7⟩ : Pln), (⟨(⟨(-1), 0, 0⟩ : V3), t1.L4⟩ : Pln), (⟨(⟨0, 1, 0⟩ : V3), t1.L5⟩ : Pln), (⟨(⟨0, (-1), 0⟩ : V3), t1.L6⟩ : Pln), (⟨(⟨0, 0, 1⟩ : V3), t1.L7⟩ : Pln), (⟨(⟨0, 0, (-1)⟩ : V3), t1.L8⟩ : Pln)]); let t3 := (Z4 [(⟨(⟨(-1), 0, 0⟩ : V3), 0⟩ : Pln), (⟨(⟨0, (-1), 0⟩ : V3), 0⟩ : Pln), (⟨(⟨0, 0, (-1)⟩ : V3), 0⟩ : Pln), (⟨(⟨2, 3, 4⟩ : V3), 1⟩ : Pln)]); let t4 := (ja1 (rt tX t2) [(⟨1, 1, 1, 1⟩ : Pt), (⟨1, 1, 0, 1⟩ : Pt), (⟨1, 0, 1, 1⟩ : Pt), (⟨1, 0, 0, 1⟩ : Pt), (⟨0, 1, 1, 1⟩ : Pt), (⟨0, 1, 0, 1⟩ : Pt), (⟨0, 0, 1, 1⟩ : Pt), (⟨0, 0, 0, 1⟩ : Pt)]); let t5 := (ja1 (rt tX t3) [(⟨0, 0, 0, 1⟩ : Pt), (⟨0, 0, 1, 4⟩ : Pt), (⟨0, 1, 0, 3⟩ : Pt), (⟨1, 0, 0, 2⟩ : Pt)]); let t6 := (Db4 ((⟨(⟨1, 0, 0⟩ : V3), t1.e7⟩ : Pln), [(⟨(⟨(-1), 0, 0⟩ : V3), t1.L4⟩ : Pln), (⟨(⟨0, 1, 0⟩ : V3), t1.L5⟩ : Pln), (⟨(⟨0, (-1), 0⟩ : V3), t1.L6⟩ : Pln), (⟨(⟨0, 0, 1⟩ : V3), t1.L7⟩ : Pln), (⟨(⟨0, 0, (-1)⟩ : V3), t1.L8⟩ : Pln), (⟨(⟨1, 0, 0⟩ : V3), t1.e7⟩ : Pln), (⟨(⟨1, 1, 1⟩ : V3), 3⟩ : Pln), (⟨(⟨1, 0, 0⟩ : V3), 7⟩ : Pln)])); let t7 := (tb2 (rt tP t6) [(⟨(⟨(-1), 0, 0⟩ : V3), t1.L4⟩ : Pln), (⟨(⟨0, (-1), 0⟩ : V3), t1.L6⟩ : Pln), (⟨(⟨0, 0, (-1)⟩ : V3), t1.L8⟩ : Pln), (⟨(⟨0, 0, 1⟩ : V3), t1.L7⟩ : Pln), (⟨(⟨0, 1, 0⟩ : V3), t1.L5⟩ : Pln), (⟨(⟨1, 0, 0⟩ : V3), t1.e7⟩ : Pln)]); let t8 := (ka7 []); let t9 := (ka7 [(⟨(⟨1, 0, 0⟩ : V3), t1.e7⟩ : Pln), (⟨(⟨(-1), 0, 0⟩ : V3), t1.L4⟩ : Pln), (⟨(⟨0, 1, 0⟩ : V3), t1.L5⟩ : Pln), (⟨(⟨0, (-1), 0⟩ : V3), t1.L6⟩ : Pln), (⟨(⟨0, 0, 1⟩ : V3), t1.L7⟩ : Pln), (⟨(⟨0, 0, (-1)⟩ : V3), t1.L8⟩ : Pln), (⟨(⟨(-1), 0, 0⟩ : V3), (-1)⟩ : Pln)]); let t10 := (db1 [(⟨(⟨1, 0, 0⟩ : V3), t1.e7⟩ : Pln), (⟨(⟨(-1), 0, 0⟩ : V3), t1.L4⟩ : Pln), (⟨(⟨0, 1, 0⟩ : V3), t1.L5⟩ : Pln), (⟨(⟨0, (-1), 0⟩ : V3), t1.L6⟩ : Pln), (⟨(⟨0, 0, 1⟩ : V3), t1.L7⟩ : Pln), (⟨(⟨0, 0, (-1)⟩ : V3), t1.L8⟩ : Pln)] (⟨1, 0, 0⟩ : V3)); let t11 := (db1 [(⟨(⟨1, 0, 0⟩ : V3), t1.e7⟩ : Pln), (⟨(⟨(-1), 0, 0⟩ : V3), t1.L4⟩ : Pln), (⟨(⟨0, 1, 0⟩ : V3), t1.L5⟩ : Pln), (⟨(⟨0, (-1), 0⟩ : V3), t1.L6⟩ : Pln), (⟨(⟨0, 0, 1⟩ : V3), t1.L7⟩ : Pln), (⟨(⟨0, 0, (-1)⟩ : V3), t1.L8⟩ : Pln)] (⟨2, 0, 0⟩ : V3)); let t12 := (Wa6 [(⟨(⟨(-1), 0, 0⟩ : V3), 0⟩ : Pln), (⟨(⟨0, (-1), 0⟩ : V3), 0⟩ : Pln), (⟨(⟨0, 0, (-1)⟩ : V3), 0⟩ : Pln), (⟨(⟨2, 3, 4⟩ : V3), 1⟩ : Pln)]); let t13 := (la8 [(⟨(⟨1, 0, 0⟩ : V3), t1.e7⟩ : Pln), (⟨(⟨(-1), 0, 0⟩ : V3), t1.L4⟩ : Pln), (⟨(⟨0, 1, 0⟩ : V3), t1.L5⟩ : Pln), (⟨(⟨0, (-1), 0⟩ : V3), t1.L6⟩ : Pln), (⟨(⟨0, 0, 1⟩ : V3), t1.L7⟩ : Pln), (⟨(⟨0, 0, (-1)⟩ : V3), t1.L8⟩ : Pln)] [(⟨(⟨(-1), 0, 0⟩ : V3), (-1)⟩ : Pln)]); let t14 := (la8 [(⟨(⟨1, 0, 0⟩ : V3), t1.e7⟩ : Pln), (⟨(⟨(-1), 0, 0⟩ : V3), t1.L4⟩ : Pln), (⟨(⟨0, 1, 0⟩ : V3), t1.L5⟩ : Pln), (⟨(⟨0, (-1), 0⟩ : V3), t1.L6⟩ : Pln), (⟨(⟨0, 0, 1⟩ : V3), t1.L7⟩ : Pln), (⟨(⟨0, 0, (-1)⟩ : V3), t1.L8⟩ : Pln)] [(⟨(⟨(-1), (-1), 0⟩ : V3), (-1)⟩ : Pln)]); let t15 := (ga7 [(⟨(⟨1, 0, 0⟩ : V3), t1.e7⟩ : Pln), (⟨(⟨(-1), 0, 0⟩ : V3), t1.L4⟩ : Pln), (⟨(⟨0, 1, 0⟩ : V3), t1.L5⟩ : Pln), (⟨(⟨0, (-1), 0⟩ : V3), t1.L6⟩ : Pln), (⟨(⟨0, 0, 1⟩ : V3), t1.L7⟩ : Pln), (⟨(⟨0, 0, (-1)⟩ : V3), t1.L8⟩ : Pln)] [(⟨(⟨1, 1, 1⟩ : V3), 3⟩ : Pln)]); let t16 := (ga7 [(⟨(⟨1, 0, 0⟩ : V3), t1.e7⟩ : Pln), (⟨(⟨(-1), 0, 0⟩ : V3), t1.L4⟩ : Pln), (⟨(⟨0, 1, 0⟩ : V3), t1.L5⟩ : Pln), (⟨(⟨0, (-1), 0⟩ : V3), t1.L6⟩ : Pln), (⟨(⟨0, 0, 1⟩ : V3), t1.L7⟩ : Pln), (⟨(⟨0, 0, (-1)⟩ : V3), t1.L8⟩ : Pln)] [(⟨(⟨1, 1, 1⟩ : V3), 2⟩ : Pln)]); let t17 := (Ga3 [(⟨(⟨0, 0, 0⟩ : V3), 0⟩ : Pln)]); (sl (Z5 [(⟨(⟨1, 0, 0⟩ : V3), t1.e7⟩ : Pln), (⟨(⟨(-1), 0, 0⟩ : V3), t1.L4⟩ : Pln), (⟨(⟨0, 1, 0⟩ : V3), t1.L5⟩ : Pln), (⟨(⟨0, (-1), 0⟩ : V3), t1.L6⟩ : Pln), (⟨(⟨0, 0, 1⟩ : V3), t1.L7⟩ : Pln), (⟨(⟨0, 0, (-1)⟩ : V3), t1.L8⟩ : Pln)]) (sl (Z5 [(⟨(⟨(-1), 0, 0⟩ : V3), 0⟩ : Pln), (⟨(⟨0, (-1), 0⟩ : V3), 0⟩ : Pln), (⟨(⟨0, 0, (-1)⟩ : V3), 0⟩ : Pln), (⟨(⟨2, 3, 4⟩ : V3), 1⟩ : Pln)]) (sl (okE tX t2) (sl (ja2 (rt tX t2) [(⟨1, 1, 1, 1⟩ : Pt), (⟨1, 1, 0, 1⟩ : Pt), (⟨1, 0, 1, 1⟩ : Pt), (⟨1, 0, 0, 1⟩ : Pt), (⟨0, 1, 1, 1⟩ : Pt), (⟨0, 1, 0, 1⟩ : Pt), (⟨0, 0, 1, 1⟩ : Pt), (⟨0, 0, 0, 1⟩ : Pt)]) (sl (!t4) (some ((b false), [])) (sl (okE tX t3) (sl (ja2 (rt tX t3) [(⟨0, 0, 0, 1⟩ : Pt), (⟨0, 0, 1, 4⟩ : Pt), (⟨0, 1, 0, 3⟩ : Pt), (⟨1, 0, 0, 2⟩ : Pt)]) (sl (!t5) (some ((b false), [])) (sl (Db5 ((⟨(⟨1, 0, 0⟩ : V3), t1.e7⟩ : Pln), [(⟨(⟨(-1), 0, 0⟩ : V3), t1.L4⟩ : Pln), (⟨(⟨0, 1, 0⟩ : V3), t1.L5⟩ : Pln), (⟨(⟨0, (-1), 0⟩ : V3), t1.L6⟩ : Pln), (⟨(⟨0, 0, 1⟩ : V3), t1.L7⟩ : Pln), (⟨(⟨0, 0, (-1)⟩ : V3), t1.L8⟩ : Pln), (⟨(⟨1, 0, 0⟩ : V3), t1.e7⟩ : Pln), (⟨(⟨1, 1, 1⟩ : V3), 3⟩ : Pln), (⟨(⟨1, 0, 0⟩ : V3), 7⟩ : Pln)])) (sl (okE tP t6) (sl (tb3 (rt tP t6) [(⟨(⟨(-1), 0, 0⟩ : V3), t1.L4⟩ : Pln), (⟨(⟨0, (-1), 0⟩ : V3), t1.L6⟩ : Pln), (⟨(⟨0, 0, (-1)⟩ : V3), t1.L8⟩ : Pln), (⟨(⟨0, 0, 1⟩ : V3), t1.L7⟩ : Pln), (⟨(⟨0, 1, 0⟩ : V3), t1.L5⟩ : Pln), (⟨(⟨1, 0, 0⟩ : V3), t1.e7⟩ : Pln)]) (sl (!t7) (some ((b false), [])) (sl (ka8 []) (sl (!t8) (some ((b false), [])) (sl (ka8 [(⟨(⟨1, 0, 0⟩ : V3), t1.e7⟩ : Pln), (⟨(⟨(-1), 0, 0⟩ : V3), t1.L4⟩ : Pln), (⟨(⟨0, 1, 0⟩ : V3), t1.L5⟩ : Pln), (⟨(⟨0, (-1), 0⟩ : V3), t1.L6⟩ : Pln), (⟨(⟨0, 0, 1⟩ : V3), t1.L7⟩ : Pln), (⟨(⟨0, 0, (-1)⟩ : V3), t1.L8⟩ : Pln), (⟨(⟨(-1), 0, 0⟩ : V3), (-1)⟩ : Pln)]) (sl t9 (some ((b false), [])) (sl (db2 [(⟨(⟨1, 0, 0⟩ : V3), t1.e7⟩ : Pln), (⟨(⟨(-1), 0, 0⟩ : V3), t1.L4⟩ : Pln), (⟨(⟨0, 1, 0⟩ : V3), t1.L5⟩ : Pln), (⟨(⟨0, (-1), 0⟩ : V3), t1.L6⟩ : Pln), (⟨(⟨0, 0, 1⟩ : V3), t1.L7⟩ : Pln), (⟨(⟨0, 0, (-1)⟩ : V3), t1.L8⟩ : Pln)] (⟨1, 0, 0⟩ : V3)) (sl (!t10) (some ((b false), [])) (sl (db2 [(⟨(⟨1, 0, 0⟩ : V3), t1.e7⟩ : Pln), (⟨(⟨(-1), 0, 0⟩ : V3), t1.L4⟩ : Pln), (⟨(⟨0, 1, 0⟩ : V3), t1.L5⟩ : Pln), (⟨(⟨0, (-1), 0⟩ : V3), t1.L6⟩ : Pln), (⟨(⟨0, 0, 1⟩ : V3), t1.L7⟩ : Pln), (⟨(⟨0, 0, (-1)⟩ : V3), t1.L8⟩ : Pln)] (⟨2, 0, 0⟩ : V3)) (sl t11 (some ((b false), [])) (sl (Wa7 [(⟨(⟨(-1), 0, 0⟩ : V3), 0⟩ : Pln), (⟨(⟨0, (-1), 0⟩ : V3), 0⟩ : Pln), (⟨(⟨0, 0, (-1)⟩ : V3), 0⟩ : Pln), (⟨(⟨2, 3, 4⟩ : V3), 1⟩ : Pln)]) (sl (!((t12.1.x == 0) && ((t12.1.y == 0) && ((t12.1.z == 0) && true)))) (some ((b false), [])) (sl (!((t12.2.1.x == 1) && ((t12.2.1.y == 1) && ((t12.2.1.z == 1) && true)))) (some ((b false), [])) (sl (!t12.2.2) (some ((b false), [])) (sl (la9 [(⟨(⟨1, 0, 0⟩ : V3), t1.e7⟩ : Pln), (⟨(⟨(-1), 0, 0⟩ : V3), t1.L4⟩ : Pln), (⟨(⟨0, 1, 0⟩ : V3), t1.L5⟩ : Pln), (⟨(⟨0, (-1), 0⟩ : V3), t1.L6⟩ : Pln), (⟨(⟨0, 0, 1⟩ : V3), t1.L7⟩ : Pln), (⟨(⟨0, 0, (-1)⟩ : V3), t1.L8⟩ : Pln)] [(⟨(⟨(-1), 0, 0⟩ : V3), (-1)⟩ : Pln)]) (sl t13 (sl (la9 [(⟨(⟨1, 0, 0⟩ : V3), t1.e7⟩ : Pln), (⟨(⟨(-1), 0, 0⟩ : V3), t1.L4⟩ : Pln), (⟨(⟨0, 1, 0⟩ : V3), t1.L5⟩ : Pln), (⟨(⟨0, (-1), 0⟩ : V3), t1.L6⟩ : Pln), (⟨(⟨0, 0, 1⟩ : V3), t1.L7⟩ : Pln), (⟨(⟨0, 0, (-1)⟩ : V3), t1.L8⟩ : Pln)] [(⟨(⟨(-1), (-1), 0⟩ : V3), (-1)⟩ : Pln)]) (sl (!t14) (sl (ga8 [(⟨(⟨1, 0, 0⟩ : V3), t1.e7⟩ : Pln), (⟨(⟨(-1), 0, 0⟩ : V3), t1.L4⟩ : Pln), (⟨(⟨0, 1, 0⟩ : V3), t1.L5⟩ : Pln), (⟨(⟨0, (-1), 0⟩ : V3), t1.L6⟩ : Pln), (⟨(⟨0, 0, 1⟩ : V3), t1.L7⟩ : Pln), (⟨(⟨0, 0, (-1)⟩ : V3), t1.L8⟩ : Pln)] [(⟨(⟨1, 1, 1⟩ : V3), 3⟩ : Pln)]) (sl t15 (sl (ga8 [(⟨(⟨1, 0, 0⟩ : V3), t1.e7⟩ : Pln), (⟨(⟨(-1), 0, 0⟩ : V3), t1.L4⟩ : Pln), (⟨(⟨0, 1, 0⟩ : V3), t1.L5⟩ : Pln), (⟨(⟨0, (-1), 0⟩ : V3), t1.L6⟩ : Pln), (⟨(⟨0, 0, 1⟩ : V3), t1.L7⟩ : Pln), (⟨(⟨0, 0, (-1)⟩ : V3), t1.L8⟩ : Pln)] [(⟨(⟨1, 1, 1⟩ : V3), 2⟩ : Pln)]) (sl (!t16) (sl (Ga4 [(⟨(⟨0, 0, 0⟩ : V3), 0⟩ : Pln)]) (some ((b (t17 == 12)), [])) none) (some ((b false), []))) none) (some ((b false), []))) none) (some ((b false), []))) none) (some ((b false), []))) none)))) none)) none)) none)) none)) none)) none) none) none)) none) none)) none) none) none) none)
noncomputable def Ia5  : Bool := I6 (one r1B) ua6
noncomputable def Ia6  : Bool := okO (one r1B) ua6
noncomputable def Db6 : Sum := bd1  (.guard Ia6 (.ret ((one r1B).enc Ia5, [])))
theorem mc5 : i5 prog G 13 Db6 := ve1 (bd b13 ec7) (one r1B) (o := ua6) (r5 (by kernel_rfl))
end Go.Ev.Ce
end
section
namespace Go.Ev.Ce
open Go Go.Ev Go.Ev.L Go.Proofs
set_option maxRecDepth 100000
structure ee5 where
 c9 : List Pln
 g9 : Int
 c8 : Int
 i4 : Int
 e7 : Int
structure ee6 where
 is5 : Int
noncomputable def Xc1 : List (Nat × Sum) := [(16, Oa0), (91, Fb9), (93, Nb1)]
theorem Hc6 : j8 prog G Xc1 := ⟨Va5, Nb0, gc6, trivial⟩
noncomputable def Ra2 (x : List Pln) (y : List Pln) : Option (b7 × List b8) := let t1 := (ka3 (rt tP x)); let t2 := (ka3 (rt tP y)); let t3 := (va3 []); let t4 := (sa1 (rt tP t3)); let t5 := (va3 (slR tP (app [] (l0 (fun k => (tP).row (gL tP y k)) (List.range (List.length y)))) 0 (0 + (len (l0 (fun k => (tP).row (gL tP y k)) (List.range (List.length y))))))); let t6 := (sa1 (rt tP t5)); let t7 := (va3 (slR tP (app [] (l0 (fun k => (tP).row (gL tP x k)) (List.range (List.length x)))) 0 (0 + (len (l0 (fun k => (tP).row (gL tP x k)) (List.range (List.length x))))))); let t8 := (sa1 (rt tP t7)); let t9 := (va3 (slR tP (app (app [] (l0 (fun k => (tP).row (gL tP x k)) (List.range (List.length x)))) (l0 (fun k => (tP).row (gL tP y k)) (List.range (List.length y)))) 0 ((0 + (len (l0 (fun k => (tP).row (gL tP x k)) (List.range (List.length x))))) + (len (l0 (fun k => (tP).row (gL tP y k)) (List.range (List.length y))))))); let t10 := (sa1 (rt tP t9)); (sl (okE tP x) (sl (ka4 (rt tP x)) (sl (t1 != 0) (some ((b true), [])) (sl (okE tP y) (sl (ka4 (rt tP y)) (sl (t2 != 0) (some ((b true), [])) (sl (Nat.beq (len (l0 (fun k => (tP).row (gL tP x k)) (List.range (List.length x)))) 0) (sl (Nat.beq (len (l0 (fun k => (tP).row (gL tP y k)) (List.range (List.length y)))) 0) (sl (va4 []) (sl (okE tP t3) (sl (sa2 (rt tP t3)) (some ((b (!t4)), [])) none) none) none) (sl (Nat.beq 0 0 && Nat.ble ((0 + (len (l0 (fun k => (tP).row (gL tP y k)) (List.range (List.length y))))) * 32) room) (sl (okS tP (app [] (l0 (fun k => (tP).row (gL tP y k)) (List.range (List.length y)))) 0 (0 + (len (l0 (fun k => (tP).row (gL tP y k)) (List.range (List.length y)))))) (sl (va4 (slR tP (app [] (l0 (fun k => (tP).row (gL tP y k)) (List.range (List.length y)))) 0 (0 + (len (l0 (fun k => (tP).row (gL tP y k)) (List.range (List.length y))))))) (sl (okE tP t5) (sl (sa2 (rt tP t5)) (some ((b (!t6)), [])) none) none) none) none) none)) (sl (Nat.beq 0 0 && Nat.ble ((0 + (len (l0 (fun k => (tP).row (gL tP x k)) (List.range (List.length x))))) * 32) room) (sl (Nat.beq (len (l0 (fun k => (tP).row (gL tP y k)) (List.range (List.length y)))) 0) (sl (okS tP (app [] (l0 (fun k => (tP).row (gL tP x k)) (List.range (List.length x)))) 0 (0 + (len (l0 (fun k => (tP).row (gL tP x k)) (List.range (List.length x)))))) (sl (va4 (slR tP (app [] (l0 (fun k => (tP).row (gL tP x k)) (List.range (List.length x)))) 0 (0 + (len (l0 (fun k => (tP).row (gL tP x k)) (List.range (List.length x))))))) (sl (okE tP t7) (sl (sa2 (rt tP t7)) (some ((b (!t8)), [])) none) none) none) none) (sl (Nat.beq (0 + (len (l0 (fun k => (tP).row (gL tP x k)) (List.range (List.length x))))) (len (app [] (l0 (fun k => (tP).row (gL tP x k)) (List.range (List.length x))))) && Nat.ble (((0 + (len (l0 (fun k => (tP).row (gL tP x k)) (List.range (List.length x))))) + (len (l0 (fun k => (tP).row (gL tP y k)) (List.range (List.length y))))) * 32) room) (sl (okS tP (app (app [] (l0 (fun k => (tP).row (gL tP x k)) (List.range (List.length x)))) (l0 (fun k => (tP).row (gL tP y k)) (List.range (List.length y)))) 0 ((0 + (len (l0 (fun k => (tP).row (gL tP x k)) (List.range (List.length x))))) + (len (l0 (fun k => (tP).row (gL tP y k)) (List.range (List.length y)))))) (sl (va4 (slR tP (app (app [] (l0 (fun k => (tP).row (gL tP x k)) (List.range (List.length x)))) (l0 (fun k => (tP).row (gL tP y k)) (List.range (List.length y)))) 0 ((0 + (len (l0 (fun k => (tP).row (gL tP x k)) (List.range (List.length x))))) + (len (l0 (fun k => (tP).row (gL tP y k)) (List.range (List.length y))))))) (sl (okE tP t9) (sl (sa2 (rt tP t9)) (some ((b (!t10)), [])) none) none) none) none) none)) none))) none) none)) none) none)
noncomputable def Ra3 (x : List Pln) (y : List Pln) : Bool := I6 (one r1B) (Ra2 x y)
noncomputable def Ra4 (x : List Pln) (y : List Pln) : Bool := okO (one r1B) (Ra2 x y)
noncomputable def ic5 : Sum := ga9 (U3 tP) (U3 tP) (fun x y => .guard (Ra4 x y) (.ret ((one r1B).enc (Ra3 x y), [])))
theorem Xc2 : i5 prog G 32 ic5 := Za1 (bd b32 Hc6) (one r1B) (o := Ra2) fun x y => r5 (by kernel_rfl)
noncomputable def Kb6 : List (Nat × Sum) := [(21, Nb2), (16, Oa0), (19, Ub4), (110, uc1)]
theorem Ac9 : j8 prog G Kb6 := ⟨gc7, Va5, Dc3, Lc5, trivial⟩
structure ua7 where
 ob5 : List Pln
 Kb9 : List Pt
structure N5 where
 is6 : Int
noncomputable def mc6 (p : ua7) (s : N5) : St := ⟨(.unk :: ((eL tP p.ob5) :: (ra 3 ((eL tX p.Kb9) :: ((i s.is6) :: (ra 23 [])))))), []⟩
noncomputable def ja6 {α : Type} (k : N5 → α) (e : Nat → α) (z : α) (p : ua7) (s : N5) : α := let t1 := (ab3 (rt tP p.ob5) (gL tX p.Kb9 s.is6.toNat)); (sl (decide (s.is6 < (↑(List.length p.Kb9) : Int))) (sl (inB s.is6 (List.length p.Kb9)) (sl (okE tP p.ob5) (sl (ab4 (rt tP p.ob5) (gL tX p.Kb9 s.is6.toNat)) (sl (!t1) (e 1) (k ⟨(W (s.is6 + 1))⟩)) z) z) z) (e 2))
noncomputable def oa0 (p : ua7) (s : N5) : Stp N5 := ja6 .next .exit .fail p s
noncomputable def db5 : Lo ua7 N5 := ⟨En Kb6, 0, oe3, [1, 1, 1, 0, 1, 4, 4], [1, 5, 6], .p, [⟨((.s (.o .unk)) :: ((.s (.c 4 (nL tP))) :: (ru2 3 ((.s (.c 4 (nL tX))) :: ((.s (.o (.int .i64))) :: (ru2 23 [])))))), [], fun a H => (⟨(rL tP (slT a 1)), (rL tX (slT a 5))⟩, ⟨(toI (slT a 6))⟩)⟩], oa0, [(none, fun p s => ⟨[(b false)], []⟩), (some 0, fun p s => ⟨(.unk :: ((eL tP p.ob5) :: (ra 3 ((eL tX p.Kb9) :: ((i s.is6) :: (ra 10 ((i s.is6) :: ((eL tX p.Kb9) :: ((i (↑(List.length p.Kb9) : Int)) :: ((b (decide (s.is6 < (↑(List.length p.Kb9) : Int)))) :: (ra 9 []))))))))))), []⟩)], mc6⟩
theorem mc7 : db5.Ok := Lo.ok [] (by kernel_rfl) .nil rfl (.cons (fun a H => by kernel_rfl) .nil) fun p s => (.of @ja6 (fun F _ _ _ _ _ => by unfold ja6; (repeat' apply m8 (f := F)) <;> rfl) (by kernel_rfl))
noncomputable def Ia7 (x : List Pln) (y : List Pln) : Option (b7 × List b8) := let t1 := (Ka4 (rt tP x)); let t2 := (ka3 (rt tP y)); let t3 := (Va6 (rt tP x)); let t4 := (lp (oa0 (⟨(rt tP y), (rt tX t3)⟩ : ua7)) (⟨0⟩ : N5)); (sl (okE tP x) (sl (Ca2 (rt tP x)) (sl (!t1) (some ((b false), [])) (sl (okE tP y) (sl (ka4 (rt tP y)) (sl (t2 != 0) (some ((b false), [])) (sl (okE tP x) (sl (Va7 (rt tP x)) (sl ((cnE tP y) && ((cnE tX t3) && true)) (sl (Nat.beq t4.1 1) (some ((b false), [])) (sl (Nat.beq t4.1 2) (some ((b true), [])) none)) none) none) none)) none) none)) none) none)
noncomputable def Ia8 (x : List Pln) (y : List Pln) : Bool := I6 (one r1B) (Ia7 x y)
noncomputable def Ia9 (x : List Pln) (y : List Pln) : Bool := okO (one r1B) (Ia7 x y)
noncomputable def Xb9 : Sum := ga9 (U3 tP) (U3 tP) (fun x y => .guard (Ia9 x y) (.ret ((one r1B).enc (Ia8 x y), [])))
theorem Hc7 : i5 prog G 34 Xb9 := Za1 (bd b34 Ac9) (one r1B) (o := Ia7) fun x y => xa1 (.s .p (.s .p (.s .p (.s (.s .p (.b (.u db5.ls))) .p)))) [db5.pr] (by kernel_rfl) (.cons mc7 .nil) (by kernel_rfl)
end Go.Ev.Ce
end
namespace Go.Ev.Ce
open Go Go.Ev Go.Ev.L Go.Proofs
theorem Zd4 (l : List Pln) {n : Nat} (h : n = l.length) : okS tP (bL tP l) 0 n = true := by subst h; exact zb1 tP l
theorem Zd5 (l : List Pln) {n : Nat} (h : n = l.length) : slR tP (bL tP l) 0 n = l := by subst h; exact zb0 tP l
theorem Nc5 {a c : List Pln} (ha : a.length ≤ 100000000) (hc : c.length ≤ 100000000) : Ra2 a c = some (b (apart a c), []) := by
 have ha' : a.length ≤ 1000000000 := by omega
 have hc' : c.length ≤ 1000000000 := by omega
 unfold Ra2 apart
 simp only [Na2, l9, G3, Bb8 _ ha', Bb9 _ ha', Bb8 _ hc', Bb9 _ hc', o8]
 have hz : ∀ l : List Pln, (chk l != 0) = !(chk l == 0) := fun _ => rfl
 rw [hz, hz]
 cases h1 : chk a == 0 with
 | false => rfl
 | true =>
  cases h2 : chk c == 0 with
  | false => rfl
  | true =>
   obtain ⟨q1, q2⟩ := jd9 h1 h2
   have e1 : app [] (bL tP a) = bL tP a := rfl
   have e1' : app [] (bL tP c) = bL tP c := rfl
   have e2 : app (bL tP a) (bL tP c) = bL tP (a ++ c) := Ba9 tP a c
   have n1 : 0 + len (bL tP a) = a.length := by rw [I5]; omega
   have n2 : 0 + len (bL tP c) = c.length := by rw [I5]; omega
   have n3 : a.length + len (bL tP c) = (a ++ c).length := by rw [I5, List.length_append]
   have hl : (a ++ c).length ≤ 1000000000 := by rw [List.length_append]; omega
   have hn : ([] : List Pln).length ≤ 1000000000 := by simp
   simp only [Bool.not_true, xa6, Bool.and_true, Bool.true_and, Bool.false_or, wd5, n1, n2, n3, e1, e1', e2, zb1, zb0, Zd4 _ rfl, Zd5 _ rfl, Mc3 _ hl, Mc4 _ hl, Mc3 _ ha', Mc4 _ ha', Mc3 _ hc', Mc4 _ hc', Mc3 _ hn, Mc4 _ hn, o8]
   cases a with
   | nil =>
    cases c with
    | nil =>
     simp only [List.isEmpty_nil, o8]
     rw [xc1 ([] ++ ws) q1 q2, xc2 ([] ++ ws) q1 q2]; rfl
    | cons p c =>
     simp only [List.isEmpty_nil, List.isEmpty_cons, o8, xa6]
     rw [show Nat.ble ((p :: c).length * 32) room = true from ba6 (by omega)]
     rw [xc1 (p :: c ++ ws) q1 q2, xc2 (p :: c ++ ws) q1 q2]; rfl
   | cons q a =>
    simp only [List.isEmpty_cons, xa6]
    rw [show Nat.ble ((q :: a).length * 32) room = true from ba6 (by omega)]
    cases c with
    | nil =>
     simp only [List.isEmpty_nil, o8]
     rw [List.append_nil] at q1 q2
     rw [xc1 _ q1 q2, xc2 _ q1 q2]
     simp only [List.append_nil]
     rfl
    | cons p c =>
     simp only [List.isEmpty_cons, xa6]
     rw [show Nat.ble ((q :: a ++ p :: c).length * 32) room = true from ba6 (by omega)]
     rw [show Nat.beq (q :: a).length (len (bL tP (q :: a))) = true by rw [I5, Nat.beq_refl]]
     rw [xc1 _ q1 q2, xc2 _ q1 q2]; rfl
theorem kd3 {a c : List Pln} (ha : a.length ≤ 100000000) (hc : c.length ≤ 100000000) : Ra3 a c = apart a c := by unfold Ra3; rw [Nc5 ha hc]; rfl
theorem kd4 {a c : List Pln} (ha : a.length ≤ 100000000) (hc : c.length ≤ 100000000) : Ra4 a c = true := by unfold Ra4; rw [Nc5 ha hc]; rfl
theorem Bc0 {a c : List Pln} (ha : a.length ≤ 1000000000) (hc : c.length ≤ 1000000000) : Ia7 a c = some (b (kd1 a c), []) := by
 have hX := oc4 a
 have h := Za3 (step := oa0 ⟨c, pts a⟩) (mk := fun j => (⟨(j : Int)⟩ : N5)) (c := fun x => !inn c x) (u := 1) (fin := 2) tX (pts a) (by omega)
  (fun j hj => by
   simp only [oa0, ja6, Int.toNat_natCast, l9, G3, se3 _ _ hc, se4 _ _ hc, p6 hj (show (pts a).length ≤ 4611686018427387904 by omega)]
   rw [btD (o5 hj), bt (f9 hj)]
   rfl)
  (by simp only [oa0, ja6]; rw [bfD (W6 (Nat.lt_irrefl _))]) 0 (Nat.zero_le _)
 rw [List.drop_zero] at h
 have e : ((pts a).any fun x => !inn c x) = !(pts a).all (inn c) := by rw [List.not_all_eq_any_not]
 have hz : ∀ l : List Pln, (chk l != 0) = !(chk l == 0) := fun _ => rfl
 unfold Ia7 kd1
 simp only [l9, G3, o2, Xd0 ha, wd9 ha, Bb8 c hc, Bb9 c hc, Dd9 ha, Ed0 ha, hz]
 rw [show (⟨0⟩ : N5) = ⟨((0 : Nat) : Int)⟩ from rfl, h, e]
 cases ful a with
 | false => rfl
 | true =>
  cases chk c == 0 with
  | false => rfl
  | true => cases (pts a).all (inn c) <;> rfl
theorem Nc6 {a c : List Pln} (ha : a.length ≤ 1000000000) (hc : c.length ≤ 1000000000) : Ia8 a c = kd1 a c := by unfold Ia8; rw [Bc0 ha hc]; rfl
theorem Nc7 {a c : List Pln} (ha : a.length ≤ 1000000000) (hc : c.length ≤ 1000000000) : Ia9 a c = true := by unfold Ia9; rw [Bc0 ha hc]; rfl
end Go.Ev.Ce
namespace Go.Ev.Ce
open Go Go.Ev Go.Ev.L Go.Proofs
noncomputable def onc (X : List Pt) (p : Pln) : Nat := X.countP fun x => rm p x == 0
noncomputable def keep (X : List Pt) (p : Pln) : Bool := !decide ((onc X p : Int) < 3)
theorem Bc1 (p : Pln) (X : List Pt) (hX : X.length ≤ 1000000000) : ga2 ⟨p.n.x, p.n.y, p.n.z, p.b, X⟩ = ⟨1, !keep X p, X⟩ := by
 have h := Sb3 (step := ja3 ⟨X, (X.length : Int), X, p.n.x, p.n.y, p.n.z, p.b⟩) (mk := fun j (n : Nat) => (⟨(n : Int), (j : Int)⟩ : J9)) (f := fun n x => if rm p x == 0 then n + 1 else n) (fin := 1) tX X (fun j n => n ≤ j) hX
  (fun j n hj hi => by
   have hW : W ((n : Int) + 1) = ((n + 1 : Nat) : Int) := by rw [Ca0 (by omega) (by omega)]; omega
   refine ⟨?_, by show (if rm p (gL tX X j) == 0 then n + 1 else n) ≤ j + 1; split <;> omega⟩
   simp only [ja3, fa1, Int.toNat_natCast, Tc6, hW, p6 hj (show X.length ≤ 4611686018427387904 by omega)]
   rw [btD (o5 hj), bt (f9 hj)]
   cases rm p (gL tX X j) == 0 <;> rfl)
  (fun n _ => by simp only [ja3, fa1]; rw [bfD (W6 (Nat.lt_irrefl _))]) 0 (Nat.zero_le _) 0 (Nat.le_refl _)
 have h := h.1
 have e : ∀ (l : List Pt) (n : Nat), l.foldl (fun n x => if rm p x == 0 then n + 1 else n) n = n + l.countP fun x => rm p x == 0 := by
  intro l
  induction l with
  | nil => intro n; rfl
  | cons x l ih =>
   intro n
   rw [List.foldl_cons, ih, List.countP_cons]
   split <;> omega
 rw [List.drop_zero, e, Nat.zero_add] at h
 unfold ga2 pa1 keep onc
 simp only [l9, o2]
 rw [show (⟨0, 0⟩ : J9) = ⟨((0 : Nat) : Int), ((0 : Nat) : Int)⟩ from rfl, h]
 show pa0.mk 1 (decide _) X = pa0.mk 1 (!(!(decide _))) X
 rw [Bool.not_not]
theorem Zd6 (l : List Pln) (X : List Pt) (hl : l.length ≤ 1000000000) (hX : X.length ≤ 1000000000) : P8 ⟨l.length, bL tP l, X⟩ = ⟨1, if l.any (fun p => !keep X p) then ((l.findIdx (fun p => !keep X p) : Nat) : Int) else -1, X⟩ := by
 have h := hb6 (step := C9 ⟨l.length, (l.length : Int), bL tP l⟩) (mk := fun j => (⟨(j : Int), X⟩ : n9)) (c := fun p => !keep X p) (u := 1) (fin := 2) tP l hl
  (fun j hj => by
   simp only [C9, A6, Int.toNat_natCast, l9, o2, Xb3 hj, Gb6 hj, Bc1 _ _ hX, p6 hj (show l.length ≤ 4611686018427387904 by omega)]
   rw [btD (o5 hj), bt (f9 hj)]
   rfl)
  (by simp only [C9, A6]; rw [bfD (W6 (Nat.lt_irrefl _))]) 0 (Nat.zero_le _)
 rw [List.drop_zero] at h
 unfold P8 B4
 simp only [l9, o2]
 rw [show (⟨0, X⟩ : n9) = ⟨((0 : Nat) : Int), X⟩ from rfl, h]
 cases ha : l.any fun p => !keep X p with
 | false => rfl
 | true =>
  have hf : l.findIdx (fun p => !keep X p) < l.length := by
   rw [List.any_eq_true] at ha
   obtain ⟨p, hp, hc⟩ := ha
   exact List.findIdx_lt_length_of_exists ⟨p, hp, hc⟩
  simp only [if_true, Nat.zero_add, Int.toNat_natCast, Gb6 hf, Bc1 _ _ hX, l9]
  rfl
theorem Yb0 {α : Type} (c : α → Bool) : ∀ l : List α, (l.take (l.findIdx c)).filter (fun x => !c x) = l.take (l.findIdx c)
 | [] => rfl
 | x :: l => by
  rw [List.findIdx_cons]
  cases h : c x with
  | true => rfl
  | false =>
   simp only [cond_false, List.take_succ_cons, List.filter_cons, h, Bool.not_false, if_true]
   rw [Yb0 c l]
theorem sd4 {α : Type} (l : List α) (j : Nat) (h : j < l.length) : l.take (j + 1) = l.take j ++ [l[j]] := by rw [List.take_succ_eq_append_getElem h]
theorem Xc3 {α : Type} (t : Ty α) {l : List α} {j : Nat} (h : j < l.length) : l.take (j + 1) = l.take j ++ [gL t l j] := by rw [sd4 l j h, Na3 t h]
theorem ec8 {α : Type} (t : Ty α) {l r : List α} {j : Nat} (h : l.drop j = r.drop j) : gL t l j = gL t r j := by
 have h1 := Wb0 t l j 0
 have h2 := Wb0 t r j 0
 rw [Nat.add_zero] at h1 h2
 rw [← h1, ← h2, h]
theorem Yb1 {α : Type} {l r : List α} {j : Nat} (h : l.drop j = r.drop j) (k : Nat) : l.drop (j + k) = r.drop (j + k) := by rw [← List.drop_drop, ← List.drop_drop, h]
structure Del (l : List Pln) (f : Pln → Bool) (cur : List Pln) (m j : Nat) : Prop where
 len : cur.length = l.length
 t : cur.take m = (l.take j).filter f
 d : cur.drop j = l.drop j
 le : m ≤ j
 lm : m ≤ l.length
theorem kd5 (l : List Pln) (X : List Pt) (hl : l.length ≤ 1000000000) (hX : X.length ≤ 1000000000) (m j : Nat) (cur : List Pln) (hd : Del l (keep X) cur m j) :
  ∃ t s, lp (w9 ⟨l.length⟩) ⟨(m : Int), (j : Int), bL tP cur, X⟩ = (t, s) ∧ (t = 1 ∧ ∃ m' cur' k, s = ⟨((m' : Nat) : Int), ((k : Nat) : Int), bL tP cur', X⟩ ∧ Del l (keep X) cur' m' k ∧ l.length ≤ k) := by
 refine Ba0 (step := w9 ⟨l.length⟩) (mk := fun j (x : Nat × List Pln) => (⟨(x.1 : Int), (j : Int), bL tP x.2, X⟩ : p0)) l.length (fun j x => Del l (keep X) x.2 x.1 j) (fun t s => t = 1 ∧ ∃ m' cur' k, s = ⟨((m' : Nat) : Int), ((k : Nat) : Int), bL tP cur', X⟩ ∧ Del l (keep X) cur' m' k ∧ l.length ≤ k) hl (fun j x hj hx => ?_) (fun j x hj hx => ?_) j (m, cur) hd
 ·obtain ⟨m, cur⟩ := x
  obtain ⟨h1, h2, h3, h4, h5⟩ := hx
  simp only at h1 h2 h3 h4 h5
  have hjc : j < cur.length := by omega
  have hmc : m < cur.length := by omega
  have hg : gL tP cur j = gL tP l j := ec8 tP h3
  have hWm : W ((m : Int) + 1) = ((m + 1 : Nat) : Int) := by rw [Ca0 (by omega) (by omega)]; omega
  have hb : Nat.blt m cur.length = true := by rw [Nat.blt_eq]; exact hmc
  have hrow : d9 (bL tP cur) m = tP.row (gL tP cur m) := Q9 tP hmc
  have sp : ∀ (v : Pln) (x1 x2 x3 x4 : Int), I1 (tP.row v) 0 [i x1, i x2, i x3, i x4] = tP.row ⟨⟨x1, x2, x3⟩, x4⟩ := fun _ _ _ _ _ => rfl
  have rl : ∀ v : Pln, Nat.ble (0 + 4) (len (tP.row v)) = true := fun _ => rfl
  simp only [w9, A7, Int.toNat_natCast, l9, o2, Xb3 hjc, Gb6 hjc, Bc1 _ _ hX, p6 hj (show l.length ≤ 4611686018427387904 by omega), hWm]
  rw [btD (o5 hj), bt (f9 hj)]
  simp only [Nat.zero_add, hrow, I5, hb, sp, mb4, f9 (show m < l.length by omega), hg]
  have ht := Xc3 tP hj
  have hd1 : cur.drop (j + 1) = l.drop (j + 1) := Yb1 h3 1
  cases hk : keep X (gL tP l j) with
  | true =>
   refine .nx ⟨(m + 1, cur.set m (gL tP l j)), rfl, ⟨by rw [List.length_set]; exact h1, ?_, ?_, by omega, by show m + 1 ≤ l.length; omega⟩⟩
   ·show (cur.set m (gL tP l j)).take (m + 1) = _
    rw [ht, List.filter_append, List.take_succ_eq_append_getElem (by rw [List.length_set]; exact hmc), List.getElem_set_self, List.take_set_of_le (Nat.le_refl _), h2, List.filter_cons, hk, if_pos rfl, List.filter_nil]
   ·show (cur.set m (gL tP l j)).drop (j + 1) = _
    rw [List.drop_set_of_lt (by omega), hd1]
  | false =>
   refine .nx ⟨(m, cur), rfl, ⟨h1, ?_, hd1, by omega, h5⟩⟩
   show cur.take m = _
   rw [ht, List.filter_append, h2, List.filter_cons, hk, if_neg (by simp), List.filter_nil, List.append_nil]
 ·obtain ⟨m, cur⟩ := x
  refine ⟨1, ?_, rfl, m, cur, j, rfl, hx, hj⟩
  simp only [w9, A7]
  rw [bfD (by omega)]
theorem xd7 (l : List Pln) (n : Nat) : D6 (bL tP l) n = bL tP (l.take n) := by unfold bL; rw [B8, l8, l8, List.map_take]
theorem Xc4 (l : List Pln) (n : Nat) : d8 (bL tP l) n = bL tP (l.drop n) := by unfold bL; rw [B9, l8, l8, List.map_drop]
theorem xd8 (n : Nat) : List.replicate n [i 0, i 0, i 0, i 0] = bL tP (List.replicate n ⟨⟨0, 0, 0⟩, 0⟩) := by unfold bL; rw [l8, List.map_replicate]; rfl
theorem Ed6 (l : List Pln) (X : List Pt) (hl : l.length ≤ 1000000000) (hX : X.length ≤ 1000000000) :
  ∃ m r, Q1 ⟨l.length, bL tP l, X⟩ = ⟨1, m, bL tP r, X⟩ ∧ m ≤ r.length ∧ r.take m = l.filter (keep X) ∧ r.length = l.length := by
 unfold Q1 B5
 simp only [l9, o2, Zd6 l X hl hX]
 cases ha : l.any fun p => !keep X p with
 | false =>
  refine ⟨l.length, l, rfl, Nat.le_refl _, ?_, rfl⟩
  rw [List.take_length]
  symm
  rw [List.filter_eq_self]
  intro p hp
  have := List.any_eq_false.1 ha p hp
  simpa using this
 | true =>
  have hf : l.findIdx (fun p => !keep X p) < l.length := by
   rw [List.any_eq_true] at ha
   obtain ⟨p, hp, hc⟩ := ha
   exact List.findIdx_lt_length_of_exists ⟨p, hp, hc⟩
  have hk : keep X (gL tP l (l.findIdx fun p => !keep X p)) = false := by
   have := List.findIdx_getElem (xs := l) (p := fun p => !keep X p) (w := hf)
   rw [Na3 tP hf]
   simpa using this
  have ht := Yb0 (fun p => !keep X p) l
  simp only [Bool.not_not] at ht
  generalize hF : l.findIdx (fun p => !keep X p) = F at *
  have hW : W ((F : Int) + 1) = ((F + 1 : Nat) : Int) := p6 hf (by omega)
  have hne : ((F : Int) == -1) = false := by rw [beq_eq_false_iff_ne]; omega
  obtain ⟨t, s, e1, rfl, m, cur, k, e2, e3, e4⟩ := kd5 l X hl hX F (F + 1) l ⟨rfl, by rw [Xc3 tP hf, List.filter_append, ht, List.filter_cons, hk, if_neg (by simp), List.filter_nil, List.append_nil], rfl, by omega, by omega⟩
  have hm : m ≤ l.length := e3.lm
  have hin : inB (m : Int) (l.length + 1) = true := f9 (by omega)
  have hfin : cur.take m = l.filter (keep X) := by rw [e3.t, List.take_of_length_le e4]
  simp only [if_true, hW, hne, e1, e2, Int.toNat_natCast, hin, Nat.zero_add, Nat.sub_zero]
  refine ⟨m, cur.take m ++ (List.replicate (l.length - m) ⟨⟨0, 0, 0⟩, 0⟩ ++ cur.drop (m + (l.length - m))), ?_, ?_, ?_, ?_⟩
  ·rw [xd7, xd8, Xc4, Ba9, Ba9]
   rfl
  ·rw [List.length_append, List.length_append, List.length_take, List.length_replicate, e3.len]; omega
  ·rw [List.take_append_of_le_length (by rw [List.length_take, e3.len]; omega), List.take_take, Nat.min_self, hfin]
  ·rw [List.length_append, List.length_append, List.length_take, List.length_replicate, List.length_drop, e3.len]; omega
def eqP (x y : Pln) : Bool := x.n.x == y.n.x && (x.n.y == y.n.y && (x.n.z == y.n.z && (x.b == y.b && true)))
theorem Zd7 (x y : Pln) : eqP x y = true ↔ x = y := by
 unfold eqP
 simp only [Bool.and_true, Bool.and_eq_true, beq_iff_eq]
 refine ⟨fun ⟨h1, h2, h3, h4⟩ => ?_, fun h => by subst h; exact ⟨rfl, rfl, rfl, rfl⟩⟩
 obtain ⟨⟨x1, x2, x3⟩, x4⟩ := x
 obtain ⟨⟨y1, y2, y3⟩, y4⟩ := y
 simp only at h1 h2 h3 h4
 subst h1 h2 h3 h4
 rfl
def ddF : Pln → List Pln → List Pln
 | _, [] => []
 | a, x :: l => if eqP x a then ddF x l else x :: ddF x l
def dd : List Pln → List Pln
 | [] => []
 | x :: l => x :: ddF x l
structure Cmp (l : List Pln) (n : Nat) (cur : List Pln) (m j : Nat) (R : List Pln) : Prop where
 len : cur.length = l.length
 t : cur.take m ++ ddF (gL tP l (j - 1)) ((l.take n).drop j) = R
 d : cur.drop (j - 1) = l.drop (j - 1)
 le : m + 1 ≤ j
theorem Xc5 (l : List Pln) (n o : Nat) (hn : n ≤ l.length) (hl : l.length ≤ 1000000000) (ho : o < n) (m : Nat) (cur : List Pln) (R : List Pln) (hd : Cmp l n cur m (o + 1) R) :
  ∃ t s, lp (o9 ⟨n, 0 + o, n - o⟩) ⟨(m : Int), ((1 : Nat) : Int), bL tP cur⟩ = (t, s) ∧ (t = 1 ∧ ∃ m' cur' k, s = ⟨((m' : Nat) : Int), k, bL tP cur'⟩ ∧ cur'.length = l.length ∧ cur'.take m' = R ∧ m' ≤ n) := by
 refine Ba0 (step := o9 ⟨n, 0 + o, n - o⟩) (mk := fun j (x : Nat × List Pln) => (⟨(x.1 : Int), (j : Int), bL tP x.2⟩ : o3)) (n - o) (fun j x => Cmp l n x.2 x.1 (o + j) R ∧ 1 ≤ j ∧ x.1 ≤ n) (fun t s => t = 1 ∧ ∃ m' cur' k, s = ⟨((m' : Nat) : Int), k, bL tP cur'⟩ ∧ cur'.length = l.length ∧ cur'.take m' = R ∧ m' ≤ n) (by omega) (fun j x hj hx => ?_) (fun j x hj hx => ?_) 1 (m, cur) ⟨hd, Nat.le_refl _, by have := hd.le; show m ≤ n; omega⟩
 ·obtain ⟨m, cur⟩ := x
  obtain ⟨⟨h1, h2, h3, h4⟩, hj1, hmn⟩ := hx
  simp only at h1 h2 h3 h4 hmn
  have hoj : o + j < n := by omega
  have hjc : o + j < cur.length := by omega
  have hjc' : o + (j - 1) < cur.length := by omega
  have hmc : m < cur.length := by omega
  have hg' : gL tP cur (o + (j - 1)) = gL tP l (o + j - 1) := by rw [show o + (j - 1) = o + j - 1 by omega]; exact ec8 tP h3
  have hd1 : cur.drop (o + j) = l.drop (o + j) := by have := Yb1 h3 1; rw [show o + j - 1 + 1 = o + j by omega] at this; exact this
  have hg : gL tP cur (o + j) = gL tP l (o + j) := ec8 tP hd1
  have hWm : W ((m : Int) + 1) = ((m + 1 : Nat) : Int) := by rw [Ca0 (by omega) (by omega)]; omega
  have hWj : W ((j : Int) - 1) = ((j - 1 : Nat) : Int) := by rw [Ca0 (by omega) (by omega)]; omega
  have hb : Nat.blt m cur.length = true := by rw [Nat.blt_eq]; exact hmc
  have hrow : d9 (bL tP cur) m = tP.row (gL tP cur m) := Q9 tP hmc
  have sp : ∀ (v : Pln) (x1 x2 x3 x4 : Int), I1 (tP.row v) 0 [i x1, i x2, i x3, i x4] = tP.row ⟨⟨x1, x2, x3⟩, x4⟩ := fun _ _ _ _ _ => rfl
  have rl : ∀ v : Pln, Nat.ble 4 (len (tP.row v)) = true := fun _ => rfl
  simp only [o9, G0, Int.toNat_natCast, Nat.zero_add, hWj, Qc6 tP hjc, Qc6 tP hjc', Qc5 tP hjc, Qc5 tP hjc', p6 hj (show n - o ≤ 4611686018427387904 by omega), hWm, hg, hg', hrow, I5, hb, sp, rl, mb4, f9 (show m < n by omega)]
  rw [btD (o5 hj)]
  simp only [f9 hj, f9 (show j - 1 < n - o by omega), o8, Bool.and_self]
  rw [show ((gL tP l (o + j)).n.x == (gL tP l (o + j - 1)).n.x && ((gL tP l (o + j)).n.y == (gL tP l (o + j - 1)).n.y && ((gL tP l (o + j)).n.z == (gL tP l (o + j - 1)).n.z && ((gL tP l (o + j)).b == (gL tP l (o + j - 1)).b && true)))) = eqP (gL tP l (o + j)) (gL tP l (o + j - 1)) from rfl]
  have hcons : (l.take n).drop (o + j) = gL tP l (o + j) :: (l.take n).drop (o + (j + 1)) := by
   rw [List.drop_eq_getElem_cons (by rw [List.length_take]; omega), List.getElem_take, Na3 tP (by omega)]
   rfl
  rw [hcons] at h2
  have hlast : o + (j + 1) - 1 = o + j := by omega
  unfold ddF at h2
  cases he : eqP (gL tP l (o + j)) (gL tP l (o + j - 1)) with
  | true =>
   rw [he] at h2
   simp only [if_true] at h2
   refine .nx ⟨(m, cur), rfl, ⟨⟨h1, ?_, ?_, by show m + 1 ≤ o + (j + 1); omega⟩, by omega, hmn⟩⟩
   ·rw [hlast]; exact h2
   ·rw [hlast]; exact hd1
  | false =>
   rw [he] at h2
   simp only [Bool.false_eq_true, if_false] at h2
   refine .nx ⟨(m + 1, cur.set m (gL tP l (o + j))), rfl, ⟨⟨by rw [List.length_set]; exact h1, ?_, ?_, by show m + 1 + 1 ≤ o + (j + 1); omega⟩, by omega, by show m + 1 ≤ n; omega⟩⟩
   ·rw [hlast]
    show (cur.set m (gL tP l (o + j))).take (m + 1) ++ _ = R
    rw [List.take_succ_eq_append_getElem (by rw [List.length_set]; exact hmc), List.getElem_set_self, List.take_set_of_le (Nat.le_refl _), List.append_assoc]
    exact h2
   ·rw [hlast]
    show (cur.set m (gL tP l (o + j))).drop (o + j) = _
    rw [List.drop_set_of_lt (by omega), hd1]
 ·obtain ⟨m, cur⟩ := x
  obtain ⟨⟨h1, h2, h3, h4⟩, hj1, hmn⟩ := hx
  simp only at h1 h2 h3 h4 hmn
  refine ⟨1, ?_, rfl, m, cur, _, rfl, h1, ?_, hmn⟩
  ·simp only [o9, G0]
   rw [bfD (by omega)]
  ·rw [List.drop_eq_nil_of_le (by rw [List.length_take]; omega)] at h2
   unfold ddF at h2
   rw [List.append_nil] at h2
   exact h2
theorem sd5 (l : List Pln) (n : Nat) (hn : n ≤ l.length) (hl : l.length ≤ 1000000000) :
  ∃ m r, Y6 ⟨n, bL tP l⟩ = ⟨1, m, bL tP r⟩ ∧ m ≤ r.length ∧ r.take m = dd (l.take n) := by
 unfold Y6 G8
 simp only
 by_cases h2 : (n : Int) < 2
 ·rw [btD h2]
  refine ⟨n, l, rfl, hn, ?_⟩
  have : n = 0 ∨ n = 1 := by omega
  rcases this with rfl | rfl
  ·rfl
  ·cases l with
   | nil => rfl
   | cons x l => rfl
 ·rw [bfD h2]
  have h1n : 1 ≤ n := by omega
  have hI : ∀ j, j < n → 1 ≤ j → l.take j ++ ddF (gL tP l (j - 1)) ((l.take n).drop j) = dd (l.take n) →
    (eqP (gL tP l j) (gL tP l (j - 1)) = true → Cmp l n l j (j + 1) (dd (l.take n))) ∧ (eqP (gL tP l j) (gL tP l (j - 1)) = false → l.take (j + 1) ++ ddF (gL tP l (j + 1 - 1)) ((l.take n).drop (j + 1)) = dd (l.take n)) := by
   intro j hj hj1 hR
   have hcons : (l.take n).drop j = gL tP l j :: (l.take n).drop (j + 1) := by
    rw [List.drop_eq_getElem_cons (by rw [List.length_take]; omega), List.getElem_take, Na3 tP (by omega)]
   rw [hcons] at hR
   unfold ddF at hR
   constructor
   ·intro he
    rw [he] at hR
    simp only [if_true] at hR
    exact ⟨rfl, hR, rfl, Nat.le_refl _⟩
   ·intro he
    rw [he] at hR
    simp only [Bool.false_eq_true, if_false] at hR
    rw [Xc3 tP (show j < l.length by omega), List.append_assoc]
    exact hR
  have inner : ∀ k, k < n → 1 ≤ k → Cmp l n l k (k + 1) (dd (l.take n)) → ∃ m' cur' k', lp (o9 ⟨n, 0 + k, n - k⟩) ⟨(k : Int), 1, bL tP l⟩ = (1, ⟨((m' : Nat) : Int), k', bL tP cur'⟩) ∧ cur'.length = l.length ∧ cur'.take m' = dd (l.take n) ∧ m' ≤ n := by
   intro k hk hk1 hc
   obtain ⟨t, s, e1, rfl, m', cur', k', rfl, e2, e3, e4⟩ := Xc5 l n k hn hl hk k l _ hc
   exact ⟨m', cur', k', e1, e2, e3, e4⟩
  have key := Ba0 (step := H5 ⟨n, bL tP l⟩) (mk := fun j (_ : Unit) => (⟨(j : Int)⟩ : p5)) n (fun j _ => 1 ≤ j ∧ j ≤ n ∧ l.take j ++ ddF (gL tP l (j - 1)) ((l.take n).drop j) = dd (l.take n))
   (fun t s => (t = 1 ∧ ∃ k : Nat, s = ⟨(k : Int)⟩ ∧ k < n ∧ 1 ≤ k ∧ Cmp l n l k (k + 1) (dd (l.take n))) ∨ (t = 2 ∧ l.take n = dd (l.take n))) (by omega) (fun j x hj hx => ?_) (fun j x hj hx => ?_) 1 () ⟨Nat.le_refl _, h1n, by
    cases l with
    | nil => simp only [List.length_nil] at hn; omega
    | cons x l =>
     cases n with
     | zero => omega
     | succ n => rfl⟩
  ·obtain ⟨t, s, e1, e2⟩ := key
   rw [show (⟨1⟩ : p5) = ⟨((1 : Nat) : Int)⟩ from rfl, e1]
   rcases e2 with ⟨rfl, k, rfl, hk, hk1, hc⟩ | ⟨rfl, he⟩
   ·obtain ⟨m', cur', k', e2, e3, e4, e5⟩ := inner k hk hk1 hc
    simp only [Int.toNat_natCast, e2]
    simp only [Nat.zero_add, Nat.sub_zero]
    refine ⟨m', cur'.take m' ++ (List.replicate (n - m') ⟨⟨0, 0, 0⟩, 0⟩ ++ cur'.drop (m' + (n - m'))), ?_, ?_, ?_⟩
    ·rw [xd7, xd8, Xc4, Ba9, Ba9]
     rfl
    ·rw [List.length_append, List.length_take, e3]; omega
    ·rw [List.take_append_of_le_length (by rw [List.length_take, e3]; omega), List.take_take, Nat.min_self, e4]
   ·exact ⟨n, l, rfl, hn, he⟩
  ·obtain ⟨hj1, hjn, hR⟩ := hx
   obtain ⟨i1, i2⟩ := hI j hj hj1 hR
   have hWj : W ((j : Int) - 1) = ((j - 1 : Nat) : Int) := by rw [Ca0 (by omega) (by omega)]; omega
   have hjl : j < l.length := by omega
   have hjl' : j - 1 < l.length := by omega
   simp only [H5, G1, Int.toNat_natCast, hWj, Xb3 hjl, Xb3 hjl', Gb6 hjl, Gb6 hjl', p6 hj (show n ≤ 4611686018427387904 by omega)]
   rw [btD (o5 hj), bt (f9 hj), bt (f9 (show j - 1 < n by omega)), bt (f9 (show j < n + 1 by omega))]
   simp only [o8]
   rw [show ((gL tP l j).n.x == (gL tP l (j - 1)).n.x && ((gL tP l j).n.y == (gL tP l (j - 1)).n.y && ((gL tP l j).n.z == (gL tP l (j - 1)).n.z && ((gL tP l j).b == (gL tP l (j - 1)).b && true)))) = eqP (gL tP l j) (gL tP l (j - 1)) from rfl]
   cases he : eqP (gL tP l j) (gL tP l (j - 1)) with
   | false => exact .nx ⟨(), rfl, by omega, by omega, i2 he⟩
   | true =>
    obtain ⟨m', cur', k', e2, e3, e4, e5⟩ := inner j hj hj1 (i1 he)
    rw [e2]
    simp only [f9 (show m' < n + 1 by omega)]
    exact .ex (.inl ⟨rfl, j, rfl, hj, hj1, i1 he⟩)
  ·obtain ⟨hj1, hjn, hR⟩ := hx
   refine ⟨2, ?_, .inr ⟨rfl, ?_⟩⟩
   ·simp only [H5, G1]
    rw [bfD (by omega)]
   ·have : j = n := by omega
    subst this
    rw [List.drop_eq_nil_of_le (by rw [List.length_take]; omega)] at hR
    unfold ddF at hR
    rw [List.append_nil] at hR
    exact hR
theorem Pd9 (l : List Pln) (n : Nat) (hn : n ≤ l.length) : slR tP (bL tP l) 0 n = l.take n := sc4 tP (by rw [List.length_take]; omega) fun k hk => by
 rw [Nat.zero_add, Q9 tP (by omega)]
 congr 1
 simp [gL, List.getD_eq_getElem?_getD, List.getElem?_take, hk]
theorem Qd0 (l : List Pln) (n : Nat) (hn : n ≤ l.length) : okS tP (bL tP l) 0 n = true := ib9 tP (f := fun k => gL tP l k) fun k hk => by rw [Nat.zero_add, Q9 tP (by omega)]
noncomputable def lean (c : List Pln) : List Pln := if ful c then dd (vb0 (c.filter (keep (pts c)))) else []
theorem xd9 (p : Pln) (c : List Pln) (hc : c.length ≤ 1000000) : Rd (one (r1L tP)) (Ra1 (p, c)) (fun r => r = lean (p :: c)) := by
 have hl : (p :: c).length ≤ 1000000000 := by simp only [List.length_cons]; omega
 have hX := oc4 (p :: c)
 unfold Ra1 lean
 simp only [l9, G3, o2, ne0, ne1, xc3 hl, xc4 hl, Cb0 hl, Cb1 hl]
 cases hf : ful (p :: c) with
 | false => exact ⟨_, [], rfl, rfl, rfl⟩
 | true =>
  have ec : l0 (fun k => tP.row (gL tP (p :: c) k)) (List.range (c.length + 1)) = bL tP (p :: c) := Na2 tP (p :: c)
  have hcl : fa3 (p, c) = ⟨1, (p :: c).length, bL tP (p :: c)⟩ := by
   unfold fa3 K9
   simp only [ec, I5]
   have z : Nat.beq (p :: c).length 0 = false := rfl
   have r : Nat.ble ((0 + (p :: c).length) * 32) room = true := ba6 (by simp only [List.length_cons]; omega)
   rw [z, r, Nat.zero_add]
   rfl
  obtain ⟨m, r, e1, e2, e3, e4⟩ := Ed6 (p :: c) (pts (p :: c)) hl (by omega)
  have hm : m ≤ (p :: c).length := by
   have h1 := congrArg List.length e3
   have h2 := List.length_filter_le (keep (pts (p :: c))) (p :: c)
   rw [List.length_take] at h1
   omega
  have hs : (vb0 (r.take m)).length = m := by rw [Nc3, List.length_take]; omega
  have hrows : app (bL tP (vb0 (r.take m))) (d8 (bL tP r) m) = bL tP (vb0 (r.take m) ++ r.drop m) := by rw [Xc4, Ba9]
  have hok : okL tP (c.length + 1) (fun k => tP.row (gL tP (p :: c) k)) = true := ib9 tP (f := fun k => gL tP (p :: c) k) fun _ _ => rfl
  simp only [hcl, e1, Pd9 r m e2, Qd0 r m e2, hrows, hok]
  obtain ⟨m2, r2, k1, k2, k3⟩ := sd5 (vb0 (r.take m) ++ r.drop m) m (by rw [List.length_append, hs]; omega) (by rw [List.length_append, hs, List.length_drop, e4]; omega)
  rw [k1, I5]
  have q1 : Nat.ble m room = true := by rw [Nat.ble_eq]; unfold room; simp only [List.length_cons] at hm; omega
  have q2 : Nat.ble m r.length = true := by rw [Nat.ble_eq]; exact e2
  rw [q1, q2]
  have hfin : r2.take m2 = dd (vb0 ((p :: c).filter (keep (pts (p :: c))))) := by
   rw [k3, List.take_append_of_le_length (by rw [hs]; omega), List.take_of_length_le (by rw [hs]; omega), e3]
  exact Pd0 k2 rfl hfin
theorem ke6 (p : Pln) (c : List Pln) (hc : c.length ≤ 1000000) : Db4 (p, c) = lean (p :: c) := (xd9 p c hc).p
theorem ke7 (p : Pln) (c : List Pln) (hc : c.length ≤ 1000000) : Db5 (p, c) = true := (xd9 p c hc).g
end Go.Ev.Ce
namespace Go.Ev.Ce
open Go Go.Ev Go.Ev.L Go.Proofs Go.Sort
theorem sd6 (l : List Pln) : List.Perm (vb0 l) l := List.mergeSort_perm l _
theorem Ed7 (x y z : Pln) (h1 : (!ltOf lb8 y x) = true) (h2 : (!ltOf lb8 z y) = true) : (!ltOf lb8 z x) = true := by
 simp only [Bool.not_eq_true', Ya2, decide_eq_false_iff_not] at *
 unfold LtP at *
 omega
theorem Ed8 (x y : Pln) : ((!ltOf lb8 y x) || !ltOf lb8 x y) = true := by
 simp only [Bool.or_eq_true, Bool.not_eq_true', Ya2, decide_eq_false_iff_not]
 unfold LtP
 omega
theorem Xc6 (l : List Pln) : (vb0 l).Pairwise fun x y => (!ltOf lb8 y x) = true := List.pairwise_mergeSort Ed7 Ed8 l
theorem Xc7 {l r : List Pln} (hp : List.Perm r l) (hs : r.Pairwise fun x y => (!ltOf lb8 y x) = true) : vb0 l = r :=
 List.Perm.eq_of_pairwise (fun x y _ _ h1 h2 => te9 x y (by simpa using h2) (by simpa using h1)) (Xc6 l) hs ((sd6 l).trans hp.symm)
instance : DecidableEq Pln := fun x y => decidable_of_iff _ (Zd7 x y)
def U6 : List Pln := [⟨⟨1, 0, 0⟩, 1⟩, ⟨⟨-1, 0, 0⟩, 0⟩, ⟨⟨0, 1, 0⟩, 1⟩, ⟨⟨0, -1, 0⟩, 0⟩, ⟨⟨0, 0, 1⟩, 1⟩, ⟨⟨0, 0, -1⟩, 0⟩]
def U8 : List Pln := [⟨⟨-1, 0, 0⟩, 0⟩, ⟨⟨0, 1, 0⟩, 1⟩, ⟨⟨0, -1, 0⟩, 0⟩, ⟨⟨0, 0, 1⟩, 1⟩, ⟨⟨0, 0, -1⟩, 0⟩, ⟨⟨1, 0, 0⟩, 1⟩, ⟨⟨1, 1, 1⟩, 3⟩, ⟨⟨1, 0, 0⟩, 7⟩]
def C4 : List Pln := [⟨⟨-1, 0, 0⟩, 0⟩, ⟨⟨0, -1, 0⟩, 0⟩, ⟨⟨0, 0, -1⟩, 0⟩, ⟨⟨2, 3, 4⟩, 1⟩]
def U7 : List Pln := [⟨⟨1, 0, 0⟩, 1⟩, ⟨⟨-1, 0, 0⟩, 0⟩, ⟨⟨0, 1, 0⟩, 1⟩, ⟨⟨0, -1, 0⟩, 0⟩, ⟨⟨0, 0, 1⟩, 1⟩, ⟨⟨0, 0, -1⟩, 0⟩, ⟨⟨-1, 0, 0⟩, -1⟩]
def LU : List Pln := [⟨⟨-1, 0, 0⟩, 0⟩, ⟨⟨0, -1, 0⟩, 0⟩, ⟨⟨0, 0, -1⟩, 0⟩, ⟨⟨0, 0, 1⟩, 1⟩, ⟨⟨0, 1, 0⟩, 1⟩, ⟨⟨1, 0, 0⟩, 1⟩]
def PU : List Pt := [⟨1, 1, 1, 1⟩, ⟨1, 1, 0, 1⟩, ⟨1, 0, 1, 1⟩, ⟨1, 0, 0, 1⟩, ⟨0, 1, 1, 1⟩, ⟨0, 1, 0, 1⟩, ⟨0, 0, 1, 1⟩, ⟨0, 0, 0, 1⟩]
def PC : List Pt := [⟨0, 0, 0, 1⟩, ⟨0, 0, 1, 4⟩, ⟨0, 1, 0, 3⟩, ⟨1, 0, 0, 2⟩]
theorem ke8 : pts U6 = PU := by kernel_rfl
theorem ke9 : pts C4 = PC := by kernel_rfl
theorem le0 : ful [] = true := by kernel_rfl
theorem le1 : ful U7 = false := by kernel_rfl
theorem le2 : has U6 ⟨1, 0, 0⟩ = true := by kernel_rfl
theorem le3 : has U6 ⟨2, 0, 0⟩ = false := by kernel_rfl
theorem ue3 : bnd C4 = (⟨0, 0, 0⟩, ⟨1, 1, 1⟩, true) := by kernel_rfl
theorem ue4 : apart U6 [⟨⟨-1, 0, 0⟩, -1⟩] = true := by kernel_rfl
theorem ue5 : apart U6 [⟨⟨-1, -1, 0⟩, -1⟩] = false := by kernel_rfl
theorem ue6 : kd1 U6 [⟨⟨1, 1, 1⟩, 3⟩] = true := by kernel_rfl
theorem ue7 : kd1 U6 [⟨⟨1, 1, 1⟩, 2⟩] = false := by kernel_rfl
theorem ue8 : chk [⟨⟨0, 0, 0⟩, 0⟩] = 12 := by kernel_rfl
theorem ue9 : (⟨⟨1, 0, 0⟩, 1⟩ :: U8).filter (keep (pts (⟨⟨1, 0, 0⟩, 1⟩ :: U8))) = [⟨⟨1, 0, 0⟩, 1⟩, ⟨⟨-1, 0, 0⟩, 0⟩, ⟨⟨0, 1, 0⟩, 1⟩, ⟨⟨0, -1, 0⟩, 0⟩, ⟨⟨0, 0, 1⟩, 1⟩, ⟨⟨0, 0, -1⟩, 0⟩, ⟨⟨1, 0, 0⟩, 1⟩] := by kernel_rfl
theorem le4 : ful (⟨⟨1, 0, 0⟩, 1⟩ :: U8) = true := by kernel_rfl
theorem le5 : lean (⟨⟨1, 0, 0⟩, 1⟩ :: U8) = LU := by
 unfold lean
 rw [le4, if_pos rfl, ue9, Xc7 (r := [⟨⟨-1, 0, 0⟩, 0⟩, ⟨⟨0, -1, 0⟩, 0⟩, ⟨⟨0, 0, -1⟩, 0⟩, ⟨⟨0, 0, 1⟩, 1⟩, ⟨⟨0, 1, 0⟩, 1⟩, ⟨⟨1, 0, 0⟩, 1⟩, ⟨⟨1, 0, 0⟩, 1⟩])]
 ·rfl
 ·exact List.isPerm_iff.1 (by kernel_rfl)
 ·exact of_decide_eq_true (by kernel_rfl)
theorem Zd8 : ub0 = ⟨1, 0, 1, 0, 1, 0⟩ := by kernel_rfl
theorem Nc8 : ua6 = some (b true, []) := by
 have le : ∀ {c : List Pln}, c.length ≤ 100 → c.length ≤ 1000000000 := fun h => by omega
 have le' : ∀ {c : List Pln}, c.length ≤ 100 → c.length ≤ 100000000 := fun h => by omega
 have u : U6.length ≤ 100 := by decide
 have u7 : U7.length ≤ 100 := by decide
 have u8 : U8.length ≤ 1000000 := by decide
 have c4 : C4.length ≤ 100 := by decide
 have n0 : ([] : List Pln).length ≤ 100 := by decide
 have o1 : ∀ p : Pln, [p].length ≤ 100 := fun _ => (by decide : 1 ≤ 100)
 unfold ua6
 rw [Zd8]
 simp only [l9, G3]
 rw [show ([⟨⟨1, 0, 0⟩, 1⟩, ⟨⟨-1, 0, 0⟩, 0⟩, ⟨⟨0, 1, 0⟩, 1⟩, ⟨⟨0, -1, 0⟩, 0⟩, ⟨⟨0, 0, 1⟩, 1⟩, ⟨⟨0, 0, -1⟩, 0⟩, ⟨⟨-1, 0, 0⟩, -1⟩] : List Pln) = U7 from rfl,
  show ([⟨⟨-1, 0, 0⟩, 0⟩, ⟨⟨0, 1, 0⟩, 1⟩, ⟨⟨0, -1, 0⟩, 0⟩, ⟨⟨0, 0, 1⟩, 1⟩, ⟨⟨0, 0, -1⟩, 0⟩, ⟨⟨1, 0, 0⟩, 1⟩, ⟨⟨1, 1, 1⟩, 3⟩, ⟨⟨1, 0, 0⟩, 7⟩] : List Pln) = U8 from rfl,
  show ([⟨⟨1, 0, 0⟩, 1⟩, ⟨⟨-1, 0, 0⟩, 0⟩, ⟨⟨0, 1, 0⟩, 1⟩, ⟨⟨0, -1, 0⟩, 0⟩, ⟨⟨0, 0, 1⟩, 1⟩, ⟨⟨0, 0, -1⟩, 0⟩] : List Pln) = U6 from rfl,
  show ([⟨⟨-1, 0, 0⟩, 0⟩, ⟨⟨0, -1, 0⟩, 0⟩, ⟨⟨0, 0, -1⟩, 0⟩, ⟨⟨2, 3, 4⟩, 1⟩] : List Pln) = C4 from rfl,
  show ([⟨⟨-1, 0, 0⟩, 0⟩, ⟨⟨0, -1, 0⟩, 0⟩, ⟨⟨0, 0, -1⟩, 0⟩, ⟨⟨0, 0, 1⟩, 1⟩, ⟨⟨0, 1, 0⟩, 1⟩, ⟨⟨1, 0, 0⟩, 1⟩] : List Pln) = LU from rfl]
 simp only [Cb0 (le u), Cb1 (le u), Cb0 (le c4), Cb1 (le c4), ke8, ke9, ke6 _ U8 u8, ke7 _ U8 u8, le5, xc3 (le n0), xc4 (le n0), le0, xc3 (le u7), xc4 (le u7), le1,
  te6 (le u), te7 (le u), le2, le3, Xd5 (le c4), Xd6 (le c4), ue3, Wc6 (le' u) (le' (o1 _)), Wc7 (le' u) (le' (o1 _)), ue4, ue5, Ac6 (le u) (le (o1 _)), Ac7 (le u) (le (o1 _)), ue6, ue7,
  wd0 _ (le (o1 _)), wd1 _ (le (o1 _)), ue8]
 rw [show ([⟨1, 1, 1, 1⟩, ⟨1, 1, 0, 1⟩, ⟨1, 0, 1, 1⟩, ⟨1, 0, 0, 1⟩, ⟨0, 1, 1, 1⟩, ⟨0, 1, 0, 1⟩, ⟨0, 0, 1, 1⟩, ⟨0, 0, 0, 1⟩] : List Pt) = PU from rfl,
  show ([⟨0, 0, 0, 1⟩, ⟨0, 0, 1, 4⟩, ⟨0, 1, 0, 3⟩, ⟨1, 0, 0, 2⟩] : List Pt) = PC from rfl]
 simp only [Xb0 PU (by decide), Xb1 PU (by decide), Xb0 PC (by decide), Xb1 PC (by decide), je9 LU (by decide), ke0 LU (by decide)]
 rfl
theorem Qd1 : Ia5 = true := by unfold Ia5; rw [Nc8]; rfl
theorem Qd2 : Ia6 = true := by unfold Ia6; rw [Nc8]; rfl
end Go.Ev.Ce
