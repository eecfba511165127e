/- Printed: functions of the geometry chapters, as plain ones (own work). -/
import Derived.Test.YthbcfinnphpcbaaDoorEvT2
set_option linter.unusedVariables false
set_option linter.unusedSimpArgs false
set_option linter.unnecessarySimpa false
set_option linter.unusedSectionVars false
namespace Go.Ev.T
open Go Go.Ev Go.Ev.Ab Go.Proofs
set_option maxRecDepth 100000
noncomputable def p74a (x : Int) (y : Int) : Bool := ((!(decide (y < (W (0 - x))))) && (!(decide (y > x))))
noncomputable def tb74a : List (Nat × Sum) := []
theorem tbo74a : TblOk Tryd.prog G tb74a := trivial
noncomputable def S74a : Sum := sum2 cI cS1 (fun x y => .ret (b (p74a x y), []))
theorem r74a (x : Int) (y : Int)  : (runFn (En tb74a) pf74 [cI.enc x, cS1.enc y] []).run = (sel (decide (y < (W (0 - x))))
 (some ((b false), []))
 (sel (decide (y > x))
  (some ((b false), []))
  (some ((b true), [])))) := by kernel_rfl
theorem m74a (c1 c2 : Bool) (x : Int) (y : Int)  : ((sel c1
 (some ((b false), []))
 (sel c2
  (some ((b false), []))
  (some ((b true), [])))) : Option (AVal × List ABlk)) = (some ((b ((!c1) && (!c2))), [])) := by
 cases c1
 ·
  cases c2
  ·
   rfl
  ·
   rfl
 ·
  rfl
theorem k74a (x : Int) (y : Int)  : (.ret (b (p74a x y), []) : DT (AVal × List ABlk)).run = (some ((b ((!(decide (y < (W (0 - x))))) && (!(decide (y > x))))), [])) := by kernel_rfl
theorem ok74a : FnOk Tryd.prog G 74 S74a := sum2_ok (b74 (E := En tb74a) rfl (tdeps tbo74a)) fun x y r h => ((r74a x y ).trans (m74a _ _ x y )).trans ((k74a x y ).symm.trans h)
noncomputable def p74b (x : Int) (y : V3) : Bool := ((!(decide (y.x < (W (0 - x))))) && ((!(decide (y.x > x))) && ((!(decide (y.y < (W (0 - x))))) && ((!(decide (y.y > x))) && ((!(decide (y.z < (W (0 - x))))) && (!(decide (y.z > x))))))))
noncomputable def tb74b : List (Nat × Sum) := []
theorem tbo74b : TblOk Tryd.prog G tb74b := trivial
noncomputable def S74b : Sum := sum2 cI cS3 (fun x y => .ret (b (p74b x y), []))
theorem r74b (x : Int) (y : V3)  : (runFn (En tb74b) pf74 [cI.enc x, cS3.enc y] []).run = (sel (decide (y.x < (W (0 - x))))
 (some ((b false), []))
 (sel (decide (y.x > x))
  (some ((b false), []))
  (sel (decide (y.y < (W (0 - x))))
   (some ((b false), []))
   (sel (decide (y.y > x))
    (some ((b false), []))
    (sel (decide (y.z < (W (0 - x))))
     (some ((b false), []))
     (sel (decide (y.z > x))
      (some ((b false), []))
      (some ((b true), [])))))))) := by kernel_rfl
theorem m74b (c1 c2 c3 c4 c5 c6 : Bool) (x : Int) (y : V3)  : ((sel c1
 (some ((b false), []))
 (sel c2
  (some ((b false), []))
  (sel c3
   (some ((b false), []))
   (sel c4
    (some ((b false), []))
    (sel c5
     (some ((b false), []))
     (sel c6
      (some ((b false), []))
      (some ((b true), [])))))))) : Option (AVal × List ABlk)) = (some ((b ((!c1) && ((!c2) && ((!c3) && ((!c4) && ((!c5) && (!c6))))))), [])) := by
 cases c1
 ·
  cases c2
  ·
   cases c3
   ·
    cases c4
    ·
     cases c5
     ·
      cases c6
      ·
       rfl
      ·
       rfl
     ·
      rfl
    ·
     rfl
   ·
    rfl
  ·
   rfl
 ·
  rfl
theorem k74b (x : Int) (y : V3)  : (.ret (b (p74b x y), []) : DT (AVal × List ABlk)).run = (some ((b ((!(decide (y.x < (W (0 - x))))) && ((!(decide (y.x > x))) && ((!(decide (y.y < (W (0 - x))))) && ((!(decide (y.y > x))) && ((!(decide (y.z < (W (0 - x))))) && (!(decide (y.z > x))))))))), [])) := by kernel_rfl
theorem ok74b : FnOk Tryd.prog G 74 S74b := sum2_ok (b74 (E := En tb74b) rfl (tdeps tbo74b)) fun x y r h => ((r74b x y ).trans (m74b _ _ _ _ _ _ x y )).trans ((k74b x y ).symm.trans h)
noncomputable def S74 : Sum := altS (fun l => match l with | [_, .tree _ n _] => Nat.beq n 1 | _ => false) S74a S74b
theorem ok74 : FnOk Tryd.prog G 74 S74 := altS_ok ok74a ok74b
noncomputable def p75 (x : V3) : Int := let t1 := (p84 x.x); let t2 := (gcdP 0 t1); let t3 := (p84 x.y); let t4 := (gcdP t2.1 t3); let t5 := (p84 x.z); let t6 := (gcdP t4.1 t5); (sel (x.x == (-9223372036854775808)) 0 (sel (x.y == (-9223372036854775808)) 0 (sel (x.z == (-9223372036854775808)) 0 t6.1)))
noncomputable def g75 (x : V3) : Bool := let t1 := (p84 x.x); let t2 := (gcdP 0 t1); let t3 := (p84 x.y); let t4 := (gcdP t2.1 t3); let t5 := (p84 x.z); let t6 := (gcdP t4.1 t5); ((x.x == (-9223372036854775808)) || ((decide (t1 < 9223372036854775808)) && ((x.y == (-9223372036854775808)) || ((decide (t3 < 9223372036854775808)) && ((x.z == (-9223372036854775808)) || (decide (t5 < 9223372036854775808)))))))
noncomputable def tb75 : List (Nat × Sum) := [(84, S84)]
theorem tbo75 : TblOk Tryd.prog G tb75 := ⟨ok84, trivial⟩
noncomputable def S75 : Sum := sum1 cS3 (fun x => DT.guard (g75 x) (.ret (i (p75 x), [])))
noncomputable def h75_0 (s3 : Int) (s5 : Int) (n6 : Nat) (get6 : Nat → List AVal) (s7 : Int) (s8 : Int) : St := ⟨[.unk, .unk, .unk, (i s3), .unk, (i s5), (.tree 1 n6 get6), (i s7), (i s8), .unk, .unk, .unk, .unk, .unk, .unk, .unk, .unk, .unk, .unk, .unk, .unk, .unk, .unk, .unk], []⟩
noncomputable def x75_0 (s3 : Int) (s5 : Int) (n6 : Nat) (get6 : Nat → List AVal) (s7 : Int) (s8 : Int) : XExit × St := (.exit 2, ⟨[.unk, .unk, .unk, (i s3), .unk, (i s5), (.tree 1 n6 get6), (i s7), (i s8), .unk, .unk, .unk, .unk, .unk, .unk, .unk, (i s5), (b (decide (s5 > 0))), .unk, .unk, .unk, .unk, .unk, .unk], []⟩)
@[reducible] def l75_0 : PC := (.seq (.seq (.ops [(o 16 (.mv (.t 5))), (o 17 (.bin .gtr (.t 16) (ci 0)))]) (.cond (.t 17) .skip (.exit 2))) (.block 3 (.draw [18, 19, 20, 21, 3, 5] [] [(o 18 (.mv (.t 5))), (o 19 (.mv (.t 3))), (o 20 (.mv (.t 5))), (o 21 (.bin .rem (.t 19) (.t 20))), (o 3 (.mv (.t 18))), (o 5 (.mv (.t 21)))] [])))
theorem rd75_0 (s3 : Int) (s5 : Int) (n6 : Nat) (get6 : Nat → List AVal) (s7 : Int) (s8 : Int) : (roundE (En tb75) 0 [3, 5, 6, 7, 8] (.pc l75_0) (h75_0 s3 s5 n6 get6 s7 s8)).run = sel (decide (s5 > 0)) (sel (s5 == 0) none (some (.normal, h75_0 s5 (Int.tmod s3 s5) n6 get6 s7 s8))) (some (x75_0 s3 s5 n6 get6 s7 s8)) := by kernel_rfl
noncomputable def f75_0 (a : List AVal) (H : List ABlk) : XExit × St := x75_0 (gcdP (toI (slotA a 3)) (toI (slotA a 5))).1 (gcdP (toI (slotA a 3)) (toI (slotA a 5))).2 (toN (slotA a 6)) (toG (slotA a 6)) (toI (slotA a 7)) (toI (slotA a 8))
noncomputable def q75_0 (a : List AVal) : Bool := decide (toI (slotA a 5) < 9223372036854775808)
theorem st75_0 (s : St) : Below ((loopS 0 [3, 5, 6, 7, 8] [.unk, .unk, .unk, .int, .unk, .int, (.tree 1), .int, .int, .unk, .unk, .unk, .unk, .unk, .unk, .unk, .unk, .unk, .unk, .unk, .unk, .unk, .unk, .unk] [] q75_0 f75_0) s) (exec (En tb75) 0 (.loop [3, 5, 6, 7, 8] l75_0) s) :=
  loopS_below (n := 18446744073709551615) (body := .pc l75_0) (.pc _) rfl (fun aa HH hq => gcd_loop (head := headOf 0 [3, 5, 6, 7, 8]) (body := execS (En tb75) 0 (.pc l75_0)) (st := (fun g a => h75_0 g a (toN (slotA (asShs [.unk, .unk, .unk, .int, .unk, .int, (.tree 1), .int, .int, .unk, .unk, .unk, .unk, .unk, .unk, .unk, .unk, .unk, .unk, .unk, .unk, .unk, .unk, .unk] aa) 6)) (toG (slotA (asShs [.unk, .unk, .unk, .int, .unk, .int, (.tree 1), .int, .int, .unk, .unk, .unk, .unk, .unk, .unk, .unk, .unk, .unk, .unk, .unk, .unk, .unk, .unk, .unk] aa) 6)) (toI (slotA (asShs [.unk, .unk, .unk, .int, .unk, .int, (.tree 1), .int, .int, .unk, .unk, .unk, .unk, .unk, .unk, .unk, .unk, .unk, .unk, .unk, .unk, .unk, .unk, .unk] aa) 7)) (toI (slotA (asShs [.unk, .unk, .unk, .int, .unk, .int, (.tree 1), .int, .int, .unk, .unk, .unk, .unk, .unk, .unk, .unk, .unk, .unk, .unk, .unk, .unk, .unk, .unk, .unk] aa) 8)))) (ex := (fun g a => x75_0 g a (toN (slotA (asShs [.unk, .unk, .unk, .int, .unk, .int, (.tree 1), .int, .int, .unk, .unk, .unk, .unk, .unk, .unk, .unk, .unk, .unk, .unk, .unk, .unk, .unk, .unk, .unk] aa) 6)) (toG (slotA (asShs [.unk, .unk, .unk, .int, .unk, .int, (.tree 1), .int, .int, .unk, .unk, .unk, .unk, .unk, .unk, .unk, .unk, .unk, .unk, .unk, .unk, .unk, .unk, .unk] aa) 6)) (toI (slotA (asShs [.unk, .unk, .unk, .int, .unk, .int, (.tree 1), .int, .int, .unk, .unk, .unk, .unk, .unk, .unk, .unk, .unk, .unk, .unk, .unk, .unk, .unk, .unk, .unk] aa) 7)) (toI (slotA (asShs [.unk, .unk, .unk, .int, .unk, .int, (.tree 1), .int, .int, .unk, .unk, .unk, .unk, .unk, .unk, .unk, .unk, .unk, .unk, .unk, .unk, .unk, .unk, .unk] aa) 8)))) (fun _ _ h => by cases h) (fun g a => rd75_0 g a _ _ _ _) 18446744073709551615 (toI (slotA (asShs [.unk, .unk, .unk, .int, .unk, .int, (.tree 1), .int, .int, .unk, .unk, .unk, .unk, .unk, .unk, .unk, .unk, .unk, .unk, .unk, .unk, .unk, .unk, .unk] aa) 3)) (toI (slotA (asShs [.unk, .unk, .unk, .int, .unk, .int, (.tree 1), .int, .int, .unk, .unk, .unk, .unk, .unk, .unk, .unk, .unk, .unk, .unk, .unk, .unk, .unk, .unk, .unk] aa) 5)) (bnd_of hq)) s
noncomputable def ps75 : PS := (.seq (.pc (.ops [(o 2 (.mv (ci 0)))])) (.seq (.pc (.ops [(o 3 (.mv (ci 0)))])) (.seq (.seq (.pc (.ops [(o 6 (.mv (.t 0))), (o 7 (.len (.t 6))), (o 8 (.mv (ci 0)))])) (.block 0 (.loop [3, 6, 7, 8] (.seq (.pc (.ops [(o 9 (.bin .lss (.t 8) (.t 7)))])) (.seq (.pc (.cond (.t 9) .skip (.exit 0))) (.seq (.block 1 (.seq (.pc (.ops [(o 10 (.idxS 1 (.t 6) (.t 8))), (o 11 (.load (ki 1) 1 false (.t 10))), (o 5 (.mv (.t 11)))])) (.seq (.pc (.seq (.ops [(o 12 (.mv (.t 5))), (o 13 (.bin .eql (.t 12) (ci (-9223372036854775808))))]) (.cond (.t 13) (.seq (.ops [(o 2 (.mv (ci 0)))]) .ret) .skip))) (.seq (.pc (.ops [(o 14 (.mv (.t 5))), (o 15 (.call 84 [(.t 14)])), (o 5 (.mv (.t 15)))])) (.block 2 (.sum (loopS 0 [3, 5, 6, 7, 8] [.unk, .unk, .unk, .int, .unk, .int, (.tree 1), .int, .int, .unk, .unk, .unk, .unk, .unk, .unk, .unk, .unk, .unk, .unk, .unk, .unk, .unk, .unk, .unk] [] q75_0 f75_0))))))) (.pc (.ops [(o 22 (.bin .add (.t 8) (ci 1))), (o 8 (.mv (.t 22)))])))))))) (.pc (.seq (.ops [(o 23 (.mv (.t 3))), (o 2 (.mv (.t 23)))]) .ret)))))
theorem sd75 : Stands (En tb75) 0 ps75 pf75.body := (.seq (.pc _) (.seq (.pc _) (.seq (.seq (.pc _) (.block _ (.loop _ (.seq (.pc _) (.seq (.pc _) (.seq (.block _ (.seq (.pc _) (.seq (.pc _) (.seq (.pc _) (.block _ (.sum st75_0)))))) (.pc _))))))) (.pc _))))
theorem r75 (x : V3) (t1 : Int) (ht1 : t1 = (p84 x.x)) (t2 : Int × Int) (ht2 : t2 = (gcdP 0 t1)) (t3 : Int) (ht3 : t3 = (p84 x.y)) (t4 : Int × Int) (ht4 : t4 = (gcdP t2.1 t3)) (t5 : Int) (ht5 : t5 = (p84 x.z)) (t6 : Int × Int) (ht6 : t6 = (gcdP t4.1 t5)) : (runS (En tb75) pf75 ps75 [cS3.enc x] []).run = (sel (x.x == (-9223372036854775808))
 (some ((i 0), []))
 (sel (decide (t1 < 9223372036854775808))
  (sel (x.y == (-9223372036854775808))
   (some ((i 0), []))
   (sel (decide (t3 < 9223372036854775808))
    (sel (x.z == (-9223372036854775808))
     (some ((i 0), []))
     (sel (decide (t5 < 9223372036854775808))
      (some ((i t6.1), []))
      none))
    none))
  none)) := by subst ht1; subst ht2; subst ht3; subst ht4; subst ht5; subst ht6; kernel_rfl
theorem m75 (c1 c2 c3 c4 c5 c6 : Bool) (x : V3) (t6 : Int × Int) : ((sel c1
 (some ((i 0), []))
 (sel c2
  (sel c3
   (some ((i 0), []))
   (sel c4
    (sel c5
     (some ((i 0), []))
     (sel c6
      (some ((i t6.1), []))
      none))
    none))
  none)) : Option (AVal × List ABlk)) = (sel (c1 || (c2 && (c3 || (c4 && (c5 || c6))))) (some ((i (sel c1 0 (sel c3 0 (sel c5 0 t6.1)))), [])) none) := by
 cases c1
 ·
  cases c2
  ·
   rfl
  ·
   cases c3
   ·
    cases c4
    ·
     rfl
    ·
     cases c5
     ·
      cases c6
      ·
       rfl
      ·
       rfl
     ·
      rfl
   ·
    rfl
 ·
  rfl
theorem k75 (x : V3) (t1 : Int) (ht1 : t1 = (p84 x.x)) (t2 : Int × Int) (ht2 : t2 = (gcdP 0 t1)) (t3 : Int) (ht3 : t3 = (p84 x.y)) (t4 : Int × Int) (ht4 : t4 = (gcdP t2.1 t3)) (t5 : Int) (ht5 : t5 = (p84 x.z)) (t6 : Int × Int) (ht6 : t6 = (gcdP t4.1 t5)) : (DT.guard (g75 x) (.ret (i (p75 x), [])) : DT (AVal × List ABlk)).run = (sel ((x.x == (-9223372036854775808)) || ((decide (t1 < 9223372036854775808)) && ((x.y == (-9223372036854775808)) || ((decide (t3 < 9223372036854775808)) && ((x.z == (-9223372036854775808)) || (decide (t5 < 9223372036854775808))))))) (some ((i (sel (x.x == (-9223372036854775808)) 0 (sel (x.y == (-9223372036854775808)) 0 (sel (x.z == (-9223372036854775808)) 0 t6.1)))), [])) none) := by subst ht1; subst ht2; subst ht3; subst ht4; subst ht5; subst ht6; rw [run_grd]; kernel_rfl
theorem ok75 : FnOk Tryd.prog G 75 S75 := sum1_ok (b75 (E := En tb75) rfl (tdeps tbo75)) fun x r h => runS_below sd75 _ (((r75 x _ rfl _ rfl _ rfl _ rfl _ rfl _ rfl).trans (m75 _ _ _ _ _ _ x _)).trans ((k75 x _ rfl _ rfl _ rfl _ rfl _ rfl _ rfl).symm.trans h))
noncomputable def p73 (x : V3) : V3 × Int := let t1 := (p83 x.x); let t2 := (gcdP 0 t1); let t3 := (p83 x.y); let t4 := (gcdP t2.1 t3); let t5 := (p83 x.z); let t6 := (gcdP t4.1 t5); ((⟨(sel (x.x == (-9223372036854775808)) 0 (sel (x.y == (-9223372036854775808)) 0 (sel (x.z == (-9223372036854775808)) 0 (sel (t6.1 == 0) 0 (W (Int.tdiv x.x t6.1)))))), (sel (x.x == (-9223372036854775808)) 0 (sel (x.y == (-9223372036854775808)) 0 (sel (x.z == (-9223372036854775808)) 0 (sel (t6.1 == 0) 0 (W (Int.tdiv x.y t6.1)))))), (sel (x.x == (-9223372036854775808)) 0 (sel (x.y == (-9223372036854775808)) 0 (sel (x.z == (-9223372036854775808)) 0 (sel (t6.1 == 0) 0 (W (Int.tdiv x.z t6.1))))))⟩ : V3), (sel (x.x == (-9223372036854775808)) 0 (sel (x.y == (-9223372036854775808)) 0 (sel (x.z == (-9223372036854775808)) 0 (sel (t6.1 == 0) 0 t6.1)))))
noncomputable def g73 (x : V3) : Bool := let t1 := (p83 x.x); let t2 := (gcdP 0 t1); let t3 := (p83 x.y); let t4 := (gcdP t2.1 t3); let t5 := (p83 x.z); let t6 := (gcdP t4.1 t5); ((x.x == (-9223372036854775808)) || ((decide (t1 < 9223372036854775808)) && ((x.y == (-9223372036854775808)) || ((decide (t3 < 9223372036854775808)) && ((x.z == (-9223372036854775808)) || (decide (t5 < 9223372036854775808)))))))
noncomputable def tb73 : List (Nat × Sum) := [(82, S82), (83, S83)]
theorem tbo73 : TblOk Tryd.prog G tb73 := ⟨ok82, ok83, trivial⟩
noncomputable def S73 : Sum := sum1 cV (fun x => DT.guard (g73 x) (.ret (.tup [eV (p73 x).1, i (p73 x).2], [])))
noncomputable def h73_0 (s5 : Int) (s6 : Int) (s7 : Int) (e0 : List (List AVal)) (e1 : List (List AVal)) (e2 : List (List AVal)) : St := ⟨[.unk, (.ptr 0 0 0 0), (.ptr 1 0 0 0), .unk, (.ptr 2 0 0 0), (i s5), (i s6), (i s7), .unk, .unk, .unk, .unk, .unk, .unk, .unk, .unk, .unk, .unk, .unk, .unk, .unk, .unk, .unk, .unk, .unk, .unk, .unk, .unk, .unk, .unk, .unk, .unk, .unk, .unk, .unk, .unk, .unk, .unk, .unk, .unk, .unk, .unk, .unk, .unk, .unk, .unk], [⟨0, 3, e0, true, false, 0⟩, ⟨0, 3, e1, true, false, 0⟩, ⟨0, 3, e2, true, false, 0⟩]⟩
noncomputable def x73_0 (s5 : Int) (s6 : Int) (s7 : Int) (e0 : List (List AVal)) (e1 : List (List AVal)) (e2 : List (List AVal)) : XExit × St := (.exit 2, ⟨[.unk, (.ptr 0 0 0 0), (.ptr 1 0 0 0), .unk, (.ptr 2 0 0 0), (i s5), (i s6), (i s7), .unk, .unk, .unk, .unk, .unk, .unk, .unk, .unk, .unk, .unk, .unk, .unk, .unk, .unk, .unk, (i s7), (b (decide (s7 > 0))), .unk, .unk, .unk, .unk, .unk, .unk, .unk, .unk, .unk, .unk, .unk, .unk, .unk, .unk, .unk, .unk, .unk, .unk, .unk, .unk, .unk], [⟨0, 3, e0, true, false, 0⟩, ⟨0, 3, e1, true, false, 0⟩, ⟨0, 3, e2, true, false, 0⟩]⟩)
@[reducible] def l73_0 : PC := (.seq (.seq (.ops [(o 23 (.mv (.t 7))), (o 24 (.bin .gtr (.t 23) (ci 0)))]) (.cond (.t 24) .skip (.exit 2))) (.block 3 (.draw [25, 26, 27, 28, 5, 7] [] [(o 25 (.mv (.t 7))), (o 26 (.mv (.t 5))), (o 27 (.mv (.t 7))), (o 28 (.bin .rem (.t 26) (.t 27))), (o 5 (.mv (.t 25))), (o 7 (.mv (.t 28)))] [])))
theorem rd73_0 (s5 : Int) (s6 : Int) (s7 : Int) (e0 : List (List AVal)) (e1 : List (List AVal)) (e2 : List (List AVal)) : (roundE (En tb73) 0 [1, 2, 4, 5, 6, 7] (.pc l73_0) (h73_0 s5 s6 s7 e0 e1 e2)).run = sel (decide (s7 > 0)) (sel (s7 == 0) none (some (.normal, h73_0 s7 s6 (Int.tmod s5 s7) e0 e1 e2))) (some (x73_0 s5 s6 s7 e0 e1 e2)) := by kernel_rfl
noncomputable def f73_0 (a : List AVal) (H : List ABlk) : XExit × St := x73_0 (gcdP (toI (slotA a 5)) (toI (slotA a 7))).1 (toI (slotA a 6)) (gcdP (toI (slotA a 5)) (toI (slotA a 7))).2 (elsA H 0) (elsA H 1) (elsA H 2)
noncomputable def q73_0 (a : List AVal) : Bool := decide (toI (slotA a 7) < 9223372036854775808)
theorem st73_0 (s : St) : Below ((loopS 0 [1, 2, 4, 5, 6, 7] [.unk, (.ptr 0 0 0 0), (.ptr 1 0 0 0), .unk, (.ptr 2 0 0 0), .int, .int, .int, .unk, .unk, .unk, .unk, .unk, .unk, .unk, .unk, .unk, .unk, .unk, .unk, .unk, .unk, .unk, .unk, .unk, .unk, .unk, .unk, .unk, .unk, .unk, .unk, .unk, .unk, .unk, .unk, .unk, .unk, .unk, .unk, .unk, .unk, .unk, .unk, .unk, .unk] [(0, 3), (0, 3), (0, 3)] q73_0 f73_0) s) (exec (En tb73) 0 (.loop [1, 2, 4, 5, 6, 7] l73_0) s) :=
  loopS_below (n := 18446744073709551615) (body := .pc l73_0) (.pc _) rfl (fun aa HH hq => gcd_loop (head := headOf 0 [1, 2, 4, 5, 6, 7]) (body := execS (En tb73) 0 (.pc l73_0)) (st := (fun g a => h73_0 g (toI (slotA (asShs [.unk, (.ptr 0 0 0 0), (.ptr 1 0 0 0), .unk, (.ptr 2 0 0 0), .int, .int, .int, .unk, .unk, .unk, .unk, .unk, .unk, .unk, .unk, .unk, .unk, .unk, .unk, .unk, .unk, .unk, .unk, .unk, .unk, .unk, .unk, .unk, .unk, .unk, .unk, .unk, .unk, .unk, .unk, .unk, .unk, .unk, .unk, .unk, .unk, .unk, .unk, .unk, .unk] aa) 6)) a (elsA (asBl [(0, 3), (0, 3), (0, 3)] HH) 0) (elsA (asBl [(0, 3), (0, 3), (0, 3)] HH) 1) (elsA (asBl [(0, 3), (0, 3), (0, 3)] HH) 2))) (ex := (fun g a => x73_0 g (toI (slotA (asShs [.unk, (.ptr 0 0 0 0), (.ptr 1 0 0 0), .unk, (.ptr 2 0 0 0), .int, .int, .int, .unk, .unk, .unk, .unk, .unk, .unk, .unk, .unk, .unk, .unk, .unk, .unk, .unk, .unk, .unk, .unk, .unk, .unk, .unk, .unk, .unk, .unk, .unk, .unk, .unk, .unk, .unk, .unk, .unk, .unk, .unk, .unk, .unk, .unk, .unk, .unk, .unk, .unk] aa) 6)) a (elsA (asBl [(0, 3), (0, 3), (0, 3)] HH) 0) (elsA (asBl [(0, 3), (0, 3), (0, 3)] HH) 1) (elsA (asBl [(0, 3), (0, 3), (0, 3)] HH) 2))) (fun _ _ h => by cases h) (fun g a => rd73_0 g _ a _ _ _) 18446744073709551615 (toI (slotA (asShs [.unk, (.ptr 0 0 0 0), (.ptr 1 0 0 0), .unk, (.ptr 2 0 0 0), .int, .int, .int, .unk, .unk, .unk, .unk, .unk, .unk, .unk, .unk, .unk, .unk, .unk, .unk, .unk, .unk, .unk, .unk, .unk, .unk, .unk, .unk, .unk, .unk, .unk, .unk, .unk, .unk, .unk, .unk, .unk, .unk, .unk, .unk, .unk, .unk, .unk, .unk, .unk, .unk] aa) 5)) (toI (slotA (asShs [.unk, (.ptr 0 0 0 0), (.ptr 1 0 0 0), .unk, (.ptr 2 0 0 0), .int, .int, .int, .unk, .unk, .unk, .unk, .unk, .unk, .unk, .unk, .unk, .unk, .unk, .unk, .unk, .unk, .unk, .unk, .unk, .unk, .unk, .unk, .unk, .unk, .unk, .unk, .unk, .unk, .unk, .unk, .unk, .unk, .unk, .unk, .unk, .unk, .unk, .unk, .unk, .unk] aa) 7)) (bnd_of hq)) s
noncomputable def ps73 : PS := (.seq (.pc (.ops [(o 1 (.box (.t 0))), (o 2 (.alloc (rep 3 (vi 0)))), (o 3 (.mv (ci 0)))])) (.seq (.pc (.ops [(o 8 (.load (ki 3) 3 true (.t 1))), (o 9 (.call 82 [(.t 8)])), (o 4 (.alloc (rep 3 (vi 0)))), (s (.store 3 (.t 4) (.t 9)))])) (.seq (.pc (.ops [(o 5 (.mv (ci 0)))])) (.seq (.seq (.pc (.ops [(o 6 (.mv (ci 0)))])) (.block 0 (.loop [1, 2, 4, 5, 6] (.seq (.pc (.seq (.ops [(o 10 (.mv (.t 6))), (o 11 (.bin .lss (.t 10) (ci 3)))]) (.cond (.t 11) .skip (.exit 0)))) (.seq (.block 1 (.seq (.pc (.seq (.ops [(o 14 (.mv (.t 6))), (o 15 (.idxA 3 1 (.t 4) (.t 14))), (o 16 (.load (ki 1) 1 false (.t 15))), (o 17 (.bin .eql (.t 16) (ci (-9223372036854775808))))]) (.cond (.t 17) (.seq (.ops [(o 18 (.build (rep 3 (vi 0)) [])), (s (.store 3 (.t 2) (.t 18))), (o 3 (.mv (ci 0)))]) .ret) .skip))) (.seq (.pc (.ops [(o 19 (.mv (.t 6))), (o 20 (.idxA 3 1 (.t 4) (.t 19))), (o 21 (.load (ki 1) 1 false (.t 20))), (o 22 (.call 83 [(.t 21)])), (o 7 (.mv (.t 22)))])) (.block 2 (.sum (loopS 0 [1, 2, 4, 5, 6, 7] [.unk, (.ptr 0 0 0 0), (.ptr 1 0 0 0), .unk, (.ptr 2 0 0 0), .int, .int, .int, .unk, .unk, .unk, .unk, .unk, .unk, .unk, .unk, .unk, .unk, .unk, .unk, .unk, .unk, .unk, .unk, .unk, .unk, .unk, .unk, .unk, .unk, .unk, .unk, .unk, .unk, .unk, .unk, .unk, .unk, .unk, .unk, .unk, .unk, .unk, .unk, .unk, .unk] [(0, 3), (0, 3), (0, 3)] q73_0 f73_0)))))) (.pc (.ops [(o 12 (.mv (.t 6))), (o 13 (.bin .add (.t 12) (ci 1))), (o 6 (.mv (.t 13)))]))))))) (.pc (.seq (.seq (.ops [(o 29 (.mv (.t 5))), (o 30 (.bin .eql (.t 29) (ci 0)))]) (.cond (.t 30) (.seq (.ops [(o 31 (.build (rep 3 (vi 0)) [])), (s (.store 3 (.t 2) (.t 31))), (o 3 (.mv (ci 0)))]) .ret) .skip)) (.seq (.draw [32, 33, 34, 35, 36, 37, 38, 39, 40, 41, 42, 43, 44, 45, 3] [] [(o 32 (.fld 0 (.t 1))), (o 33 (.load (ki 1) 1 false (.t 32))), (o 34 (.mv (.t 5))), (o 35 (.bin .quo (.t 33) (.t 34))), (o 36 (.fld 1 (.t 1))), (o 37 (.load (ki 1) 1 false (.t 36))), (o 38 (.mv (.t 5))), (o 39 (.bin .quo (.t 37) (.t 38))), (o 40 (.fld 2 (.t 1))), (o 41 (.load (ki 1) 1 false (.t 40))), (o 42 (.mv (.t 5))), (o 43 (.bin .quo (.t 41) (.t 42))), (o 44 (.build (rep 3 (vi 0)) [(0, (1, (.t 35))), (1, (1, (.t 39))), (2, (1, (.t 43)))])), (o 45 (.mv (.t 5))), (s (.store 3 (.t 2) (.t 44))), (o 3 (.mv (.t 45)))] [((.mv (.t 5)), (.store 3 (.t 2) (.t 44)))]) .ret)))))))
theorem sd73 : Stands (En tb73) 0 ps73 pf73.body := (.seq (.pc _) (.seq (.pc _) (.seq (.pc _) (.seq (.seq (.pc _) (.block _ (.loop _ (.seq (.pc _) (.seq (.block _ (.seq (.pc _) (.seq (.pc _) (.block _ (.sum st73_0))))) (.pc _)))))) (.pc _)))))
theorem r73 (x : V3) (t1 : Int) (ht1 : t1 = (p83 x.x)) (t2 : Int × Int) (ht2 : t2 = (gcdP 0 t1)) (t3 : Int) (ht3 : t3 = (p83 x.y)) (t4 : Int × Int) (ht4 : t4 = (gcdP t2.1 t3)) (t5 : Int) (ht5 : t5 = (p83 x.z)) (t6 : Int × Int) (ht6 : t6 = (gcdP t4.1 t5)) : (runS (En tb73) pf73 ps73 [cV.enc x] []).run = (sel (x.x == (-9223372036854775808))
 (some ((.tup [(.agg [(i 0), (i 0), (i 0)]), (i 0)]), []))
 (sel (decide (t1 < 9223372036854775808))
  (sel (x.y == (-9223372036854775808))
   (some ((.tup [(.agg [(i 0), (i 0), (i 0)]), (i 0)]), []))
   (sel (decide (t3 < 9223372036854775808))
    (sel (x.z == (-9223372036854775808))
     (some ((.tup [(.agg [(i 0), (i 0), (i 0)]), (i 0)]), []))
     (sel (decide (t5 < 9223372036854775808))
      (sel (t6.1 == 0)
       (some ((.tup [(.agg [(i 0), (i 0), (i 0)]), (i 0)]), []))
       (sel (t6.1 == 0)
        none
        (sel (t6.1 == 0)
         none
         (sel (t6.1 == 0)
          none
          (some ((.tup [(.agg [(i (W (Int.tdiv x.x t6.1))), (i (W (Int.tdiv x.y t6.1))), (i (W (Int.tdiv x.z t6.1)))]), (i t6.1)]), []))))))
      none))
    none))
  none)) := by subst ht1; subst ht2; subst ht3; subst ht4; subst ht5; subst ht6; kernel_rfl
theorem m73 (c1 c2 c3 c4 c5 c6 c7 : Bool) (x : V3) (t6 : Int × Int) : ((sel c1
 (some ((.tup [(.agg [(i 0), (i 0), (i 0)]), (i 0)]), []))
 (sel c2
  (sel c3
   (some ((.tup [(.agg [(i 0), (i 0), (i 0)]), (i 0)]), []))
   (sel c4
    (sel c5
     (some ((.tup [(.agg [(i 0), (i 0), (i 0)]), (i 0)]), []))
     (sel c6
      (sel c7
       (some ((.tup [(.agg [(i 0), (i 0), (i 0)]), (i 0)]), []))
       (sel c7
        none
        (sel c7
         none
         (sel c7
          none
          (some ((.tup [(.agg [(i (W (Int.tdiv x.x t6.1))), (i (W (Int.tdiv x.y t6.1))), (i (W (Int.tdiv x.z t6.1)))]), (i t6.1)]), []))))))
      none))
    none))
  none)) : Option (AVal × List ABlk)) = (sel (c1 || (c2 && (c3 || (c4 && (c5 || c6))))) (some ((.tup [(.agg [(i (sel c1 0 (sel c3 0 (sel c5 0 (sel c7 0 (W (Int.tdiv x.x t6.1))))))), (i (sel c1 0 (sel c3 0 (sel c5 0 (sel c7 0 (W (Int.tdiv x.y t6.1))))))), (i (sel c1 0 (sel c3 0 (sel c5 0 (sel c7 0 (W (Int.tdiv x.z t6.1)))))))]), (i (sel c1 0 (sel c3 0 (sel c5 0 (sel c7 0 t6.1)))))]), [])) none) := by
 cases c1
 ·
  cases c2
  ·
   rfl
  ·
   cases c3
   ·
    cases c4
    ·
     rfl
    ·
     cases c5
     ·
      cases c6
      ·
       rfl
      ·
       cases c7
       ·
        rfl
       ·
        rfl
     ·
      rfl
   ·
    rfl
 ·
  rfl
theorem k73 (x : V3) (t1 : Int) (ht1 : t1 = (p83 x.x)) (t2 : Int × Int) (ht2 : t2 = (gcdP 0 t1)) (t3 : Int) (ht3 : t3 = (p83 x.y)) (t4 : Int × Int) (ht4 : t4 = (gcdP t2.1 t3)) (t5 : Int) (ht5 : t5 = (p83 x.z)) (t6 : Int × Int) (ht6 : t6 = (gcdP t4.1 t5)) : (DT.guard (g73 x) (.ret (.tup [eV (p73 x).1, i (p73 x).2], [])) : DT (AVal × List ABlk)).run = (sel ((x.x == (-9223372036854775808)) || ((decide (t1 < 9223372036854775808)) && ((x.y == (-9223372036854775808)) || ((decide (t3 < 9223372036854775808)) && ((x.z == (-9223372036854775808)) || (decide (t5 < 9223372036854775808))))))) (some ((.tup [(.agg [(i (sel (x.x == (-9223372036854775808)) 0 (sel (x.y == (-9223372036854775808)) 0 (sel (x.z == (-9223372036854775808)) 0 (sel (t6.1 == 0) 0 (W (Int.tdiv x.x t6.1))))))), (i (sel (x.x == (-9223372036854775808)) 0 (sel (x.y == (-9223372036854775808)) 0 (sel (x.z == (-9223372036854775808)) 0 (sel (t6.1 == 0) 0 (W (Int.tdiv x.y t6.1))))))), (i (sel (x.x == (-9223372036854775808)) 0 (sel (x.y == (-9223372036854775808)) 0 (sel (x.z == (-9223372036854775808)) 0 (sel (t6.1 == 0) 0 (W (Int.tdiv x.z t6.1)))))))]), (i (sel (x.x == (-9223372036854775808)) 0 (sel (x.y == (-9223372036854775808)) 0 (sel (x.z == (-9223372036854775808)) 0 (sel (t6.1 == 0) 0 t6.1)))))]), [])) none) := by subst ht1; subst ht2; subst ht3; subst ht4; subst ht5; subst ht6; rw [run_grd]; kernel_rfl
theorem ok73 : FnOk Tryd.prog G 73 S73 := sum1_ok (b73 (E := En tb73) rfl (tdeps tbo73)) fun x r h => runS_below sd73 _ (((r73 x _ rfl _ rfl _ rfl _ rfl _ rfl _ rfl).trans (m73 _ _ _ _ _ _ _ x _)).trans ((k73 x _ rfl _ rfl _ rfl _ rfl _ rfl _ rfl).symm.trans h))
noncomputable def p71 (x : V3) : V3 × Int := let t1 := (p75 x); ((⟨(sel (t1 == 0) 0 (W (Int.tdiv x.x t1))), (sel (t1 == 0) 0 (W (Int.tdiv x.y t1))), (sel (t1 == 0) 0 (W (Int.tdiv x.z t1)))⟩ : V3), (sel (t1 == 0) 0 t1))
noncomputable def g71 (x : V3) : Bool := let t1 := (p75 x); (g75 x)
noncomputable def tb71 : List (Nat × Sum) := [(75, S75)]
theorem tbo71 : TblOk Tryd.prog G tb71 := ⟨ok75, trivial⟩
noncomputable def S71 : Sum := sum1 cV (fun x => DT.guard (g71 x) (.ret (.tup [eV (p71 x).1, i (p71 x).2], [])))
theorem r71 (x : V3) (t1 : Int) (ht1 : t1 = (p75 x)) : (runFn (En tb71) pf71 [cV.enc x] []).run = (sel (g75 x)
 (sel (t1 == 0)
  (some ((.tup [(.agg [(i 0), (i 0), (i 0)]), (i 0)]), []))
  (sel (t1 == 0)
   none
   (sel (t1 == 0)
    none
    (sel (t1 == 0)
     none
     (some ((.tup [(.agg [(i (W (Int.tdiv x.x t1))), (i (W (Int.tdiv x.y t1))), (i (W (Int.tdiv x.z t1)))]), (i t1)]), []))))))
 none) := by subst ht1; kernel_rfl
theorem m71 (c1 c2 : Bool) (x : V3) (t1 : Int) : ((sel c1
 (sel c2
  (some ((.tup [(.agg [(i 0), (i 0), (i 0)]), (i 0)]), []))
  (sel c2
   none
   (sel c2
    none
    (sel c2
     none
     (some ((.tup [(.agg [(i (W (Int.tdiv x.x t1))), (i (W (Int.tdiv x.y t1))), (i (W (Int.tdiv x.z t1)))]), (i t1)]), []))))))
 none) : Option (AVal × List ABlk)) = (sel c1 (some ((.tup [(.agg [(i (sel c2 0 (W (Int.tdiv x.x t1)))), (i (sel c2 0 (W (Int.tdiv x.y t1)))), (i (sel c2 0 (W (Int.tdiv x.z t1))))]), (i (sel c2 0 t1))]), [])) none) := by
 cases c1
 ·
  rfl
 ·
  cases c2
  ·
   rfl
  ·
   rfl
theorem k71 (x : V3) (t1 : Int) (ht1 : t1 = (p75 x)) : (DT.guard (g71 x) (.ret (.tup [eV (p71 x).1, i (p71 x).2], [])) : DT (AVal × List ABlk)).run = (sel (g75 x) (some ((.tup [(.agg [(i (sel (t1 == 0) 0 (W (Int.tdiv x.x t1)))), (i (sel (t1 == 0) 0 (W (Int.tdiv x.y t1)))), (i (sel (t1 == 0) 0 (W (Int.tdiv x.z t1))))]), (i (sel (t1 == 0) 0 t1))]), [])) none) := by subst ht1; rw [run_grd]; kernel_rfl
theorem ok71 : FnOk Tryd.prog G 71 S71 := sum1_ok (b71 (E := En tb71) rfl (tdeps tbo71)) fun x r h => ((r71 x _ rfl).trans (m71 _ _ x _)).trans ((k71 x _ rfl).symm.trans h)
noncomputable def p68 (x : V3) : Bool := let t1 := (p74b 24 x); t1
noncomputable def tb68 : List (Nat × Sum) := [(74, S74)]
theorem tbo68 : TblOk Tryd.prog G tb68 := ⟨ok74, trivial⟩
noncomputable def S68 : Sum := sum1 cV (fun x => .ret (b (p68 x), []))
theorem r68 (x : V3)  : (runFn (En tb68) pf68 [cV.enc x] []).run = some (b (p68 x), []) := by kernel_rfl
theorem ok68 : FnOk Tryd.prog G 68 S68 := sum1_ok (b68 (E := En tb68) rfl (tdeps tbo68)) fun x r h => (r68 x).trans h
noncomputable def p34 (x : Pln) : Bool := let t1 := (p74b 4608 x.n); let t2 := (p75 x.n); let t3 := (p74a 2097152 x.b); (t1 && ((t2 == 1) && t3))
noncomputable def g34 (x : Pln) : Bool := let t1 := (p74b 4608 x.n); let t2 := (p75 x.n); let t3 := (p74a 2097152 x.b); ((!t1) || (g75 x.n))
noncomputable def tb34 : List (Nat × Sum) := [(74, S74), (75, S75)]
theorem tbo34 : TblOk Tryd.prog G tb34 := ⟨ok74, ok75, trivial⟩
noncomputable def S34 : Sum := sum1 cP (fun x => DT.guard (g34 x) (.ret (b (p34 x), [])))
theorem r34 (x : Pln) (t1 : Bool) (ht1 : t1 = (p74b 4608 x.n)) (t2 : Int) (ht2 : t2 = (p75 x.n)) (t3 : Bool) (ht3 : t3 = (p74a 2097152 x.b)) : (runFn (En tb34) pf34 [cP.enc x] []).run = (sel t1
 (sel (g75 x.n)
  (sel (t2 == 1)
   (some ((b t3), []))
   (some ((b false), [])))
  none)
 (some ((b false), []))) := by subst ht1; subst ht2; subst ht3; kernel_rfl
theorem m34 (c1 c2 c3 : Bool) (x : Pln) (t3 : Bool) : ((sel c1
 (sel c2
  (sel c3
   (some ((b t3), []))
   (some ((b false), [])))
  none)
 (some ((b false), []))) : Option (AVal × List ABlk)) = (sel ((!c1) || c2) (some ((b (c1 && (c3 && t3))), [])) none) := by
 cases c1
 ·
  rfl
 ·
  cases c2
  ·
   rfl
  ·
   cases c3
   ·
    rfl
   ·
    rfl
theorem k34 (x : Pln) (t1 : Bool) (ht1 : t1 = (p74b 4608 x.n)) (t2 : Int) (ht2 : t2 = (p75 x.n)) (t3 : Bool) (ht3 : t3 = (p74a 2097152 x.b)) : (DT.guard (g34 x) (.ret (b (p34 x), [])) : DT (AVal × List ABlk)).run = (sel ((!t1) || (g75 x.n)) (some ((b (t1 && ((t2 == 1) && t3))), [])) none) := by subst ht1; subst ht2; subst ht3; rw [run_grd]; kernel_rfl
theorem ok34 : FnOk Tryd.prog G 34 S34 := sum1_ok (b34 (E := En tb34) rfl (tdeps tbo34)) fun x r h => ((r34 x _ rfl _ rfl _ rfl).trans (m34 _ _ _ x _)).trans ((k34 x _ rfl _ rfl _ rfl).symm.trans h)
noncomputable def p72 (x : Pln) : Bool := let t1 := (p73 x.n); ((!(decide (x.n.x < (-4608)))) && ((!(decide (x.n.x > 4608))) && ((!(decide (x.n.y < (-4608)))) && ((!(decide (x.n.y > 4608))) && ((!(decide (x.n.z < (-4608)))) && ((!(decide (x.n.z > 4608))) && ((t1.2 == 1) && ((decide (x.b ≥ (-2097152))) && (decide (x.b ≤ 2097152))))))))))
noncomputable def g72 (x : Pln) : Bool := let t1 := (p73 x.n); ((decide (x.n.x < (-4608))) || ((decide (x.n.x > 4608)) || ((decide (x.n.y < (-4608))) || ((decide (x.n.y > 4608)) || ((decide (x.n.z < (-4608))) || ((decide (x.n.z > 4608)) || (g73 x.n)))))))
noncomputable def tb72 : List (Nat × Sum) := [(82, S82), (73, S73)]
theorem tbo72 : TblOk Tryd.prog G tb72 := ⟨ok82, ok73, trivial⟩
noncomputable def S72 : Sum := sum1 cP (fun x => DT.guard (g72 x) (.ret (b (p72 x), [])))
theorem r72 (x : Pln) (t1 : V3 × Int) (ht1 : t1 = (p73 x.n)) : (runFn (En tb72) pf72 [cP.enc x] []).run = (sel (decide (x.n.x < (-4608)))
 (some ((b false), []))
 (sel (decide (x.n.x > 4608))
  (some ((b false), []))
  (sel (decide (x.n.y < (-4608)))
   (some ((b false), []))
   (sel (decide (x.n.y > 4608))
    (some ((b false), []))
    (sel (decide (x.n.z < (-4608)))
     (some ((b false), []))
     (sel (decide (x.n.z > 4608))
      (some ((b false), []))
      (sel (g73 x.n)
       (sel (t1.2 == 1)
        (sel (decide (x.b ≥ (-2097152)))
         (some ((b (decide (x.b ≤ 2097152))), []))
         (some ((b false), [])))
        (some ((b false), [])))
       none))))))) := by subst ht1; kernel_rfl
theorem m72 (c1 c2 c3 c4 c5 c6 c7 c8 c9 : Bool) (x : Pln)  : ((sel c1
 (some ((b false), []))
 (sel c2
  (some ((b false), []))
  (sel c3
   (some ((b false), []))
   (sel c4
    (some ((b false), []))
    (sel c5
     (some ((b false), []))
     (sel c6
      (some ((b false), []))
      (sel c7
       (sel c8
        (sel c9
         (some ((b (decide (x.b ≤ 2097152))), []))
         (some ((b false), [])))
        (some ((b false), [])))
       none))))))) : Option (AVal × List ABlk)) = (sel (c1 || (c2 || (c3 || (c4 || (c5 || (c6 || c7)))))) (some ((b ((!c1) && ((!c2) && ((!c3) && ((!c4) && ((!c5) && ((!c6) && (c8 && (c9 && (decide (x.b ≤ 2097152))))))))))), [])) none) := by
 cases c1
 ·
  cases c2
  ·
   cases c3
   ·
    cases c4
    ·
     cases c5
     ·
      cases c6
      ·
       cases c7
       ·
        rfl
       ·
        cases c8
        ·
         rfl
        ·
         cases c9
         ·
          rfl
         ·
          rfl
      ·
       rfl
     ·
      rfl
    ·
     rfl
   ·
    rfl
  ·
   rfl
 ·
  rfl
theorem k72 (x : Pln) (t1 : V3 × Int) (ht1 : t1 = (p73 x.n)) : (DT.guard (g72 x) (.ret (b (p72 x), [])) : DT (AVal × List ABlk)).run = (sel ((decide (x.n.x < (-4608))) || ((decide (x.n.x > 4608)) || ((decide (x.n.y < (-4608))) || ((decide (x.n.y > 4608)) || ((decide (x.n.z < (-4608))) || ((decide (x.n.z > 4608)) || (g73 x.n))))))) (some ((b ((!(decide (x.n.x < (-4608)))) && ((!(decide (x.n.x > 4608))) && ((!(decide (x.n.y < (-4608)))) && ((!(decide (x.n.y > 4608))) && ((!(decide (x.n.z < (-4608)))) && ((!(decide (x.n.z > 4608))) && ((t1.2 == 1) && ((decide (x.b ≥ (-2097152))) && (decide (x.b ≤ 2097152))))))))))), [])) none) := by subst ht1; rw [run_grd]; kernel_rfl
theorem ok72 : FnOk Tryd.prog G 72 S72 := sum1_ok (b72 (E := En tb72) rfl (tdeps tbo72)) fun x r h => ((r72 x _ rfl).trans (m72 _ _ _ _ _ _ _ _ _ x )).trans ((k72 x _ rfl).symm.trans h)
noncomputable def p33 (x : Pln) : Pln := let t1 := (p53 (⟨0, 0, 0⟩ : V3) x.n); (⟨t1, (W (0 - x.b))⟩ : Pln)
noncomputable def tb33 : List (Nat × Sum) := [(53, S53)]
theorem tbo33 : TblOk Tryd.prog G tb33 := ⟨ok53, trivial⟩
noncomputable def S33 : Sum := sum1 cP (fun x => .ret (eP (p33 x), []))
theorem r33 (x : Pln)  : (runFn (En tb33) pf33 [cP.enc x] []).run = some (eP (p33 x), []) := by kernel_rfl
theorem ok33 : FnOk Tryd.prog G 33 S33 := sum1_ok (b33 (E := En tb33) rfl (tdeps tbo33)) fun x r h => (r33 x).trans h
noncomputable def p35 (x : Pln) (y : V3) : Int := let t1 := (p34 x); let t2 := (p68 y); let t3 := (p54 x.n y); let t4 := (p76 t3 x.b); (sel (!t1) 0 (sel (!t2) 0 t4))
noncomputable def g35 (x : Pln) (y : V3) : Bool := let t1 := (p34 x); let t2 := (p68 y); let t3 := (p54 x.n y); let t4 := (p76 t3 x.b); (g34 x)
noncomputable def tb35 : List (Nat × Sum) := [(34, S34), (68, S68), (54, S54), (76, S76)]
theorem tbo35 : TblOk Tryd.prog G tb35 := ⟨ok34, ok68, ok54, ok76, trivial⟩
noncomputable def S35 : Sum := sum2 cP cV (fun x y => DT.guard (g35 x y) (.ret (i (p35 x y), [])))
theorem r35 (x : Pln) (y : V3) (t1 : Bool) (ht1 : t1 = (p34 x)) (t2 : Bool) (ht2 : t2 = (p68 y)) (t3 : Int) (ht3 : t3 = (p54 x.n y)) (t4 : Int) (ht4 : t4 = (p76 t3 x.b)) : (runFn (En tb35) pf35 [cP.enc x, cV.enc y] []).run = (sel (g34 x)
 (sel (!t1)
  (some ((i 0), []))
  (sel (!t2)
   (some ((i 0), []))
   (some ((i t4), []))))
 none) := by subst ht1; subst ht2; subst ht3; subst ht4; kernel_rfl
theorem m35 (c1 c2 c3 : Bool) (x : Pln) (y : V3) (t4 : Int) : ((sel c1
 (sel c2
  (some ((i 0), []))
  (sel c3
   (some ((i 0), []))
   (some ((i t4), []))))
 none) : Option (AVal × List ABlk)) = (sel c1 (some ((i (sel c2 0 (sel c3 0 t4))), [])) none) := by
 cases c1
 ·
  rfl
 ·
  cases c2
  ·
   cases c3
   ·
    rfl
   ·
    rfl
  ·
   rfl
theorem k35 (x : Pln) (y : V3) (t1 : Bool) (ht1 : t1 = (p34 x)) (t2 : Bool) (ht2 : t2 = (p68 y)) (t3 : Int) (ht3 : t3 = (p54 x.n y)) (t4 : Int) (ht4 : t4 = (p76 t3 x.b)) : (DT.guard (g35 x y) (.ret (i (p35 x y), [])) : DT (AVal × List ABlk)).run = (sel (g34 x) (some ((i (sel (!t1) 0 (sel (!t2) 0 t4))), [])) none) := by subst ht1; subst ht2; subst ht3; subst ht4; rw [run_grd]; kernel_rfl
theorem ok35 : FnOk Tryd.prog G 35 S35 := sum2_ok (b35 (E := En tb35) rfl (tdeps tbo35)) fun x y r h => ((r35 x y _ rfl _ rfl _ rfl _ rfl).trans (m35 _ _ _ x y _)).trans ((k35 x y _ rfl _ rfl _ rfl _ rfl).symm.trans h)
noncomputable def p52 (x : Trn) : Int := let t1 := (p78 x.d); let t2 := (p78 x.m.r0.x); let t3 := (p79 t1 t2); let t4 := (p78 x.m.r0.y); let t5 := (p79 t3 t4); let t6 := (p78 x.m.r0.z); let t7 := (p79 t5 t6); let t8 := (p78 x.m.r1.x); let t9 := (p79 t7 t8); let t10 := (p78 x.m.r1.y); let t11 := (p79 t9 t10); let t12 := (p78 x.m.r1.z); let t13 := (p79 t11 t12); let t14 := (p78 x.m.r2.x); let t15 := (p79 t13 t14); let t16 := (p78 x.m.r2.y); let t17 := (p79 t15 t16); let t18 := (p78 x.m.r2.z); let t19 := (p79 t17 t18); t19
noncomputable def g52 (x : Trn) : Bool := let t1 := (p78 x.d); let t2 := (p78 x.m.r0.x); let t3 := (p79 t1 t2); let t4 := (p78 x.m.r0.y); let t5 := (p79 t3 t4); let t6 := (p78 x.m.r0.z); let t7 := (p79 t5 t6); let t8 := (p78 x.m.r1.x); let t9 := (p79 t7 t8); let t10 := (p78 x.m.r1.y); let t11 := (p79 t9 t10); let t12 := (p78 x.m.r1.z); let t13 := (p79 t11 t12); let t14 := (p78 x.m.r2.x); let t15 := (p79 t13 t14); let t16 := (p78 x.m.r2.y); let t17 := (p79 t15 t16); let t18 := (p78 x.m.r2.z); let t19 := (p79 t17 t18); ((g79 t1 t2) && ((g79 t3 t4) && ((g79 t5 t6) && ((g79 t7 t8) && ((g79 t9 t10) && ((g79 t11 t12) && ((g79 t13 t14) && ((g79 t15 t16) && (g79 t17 t18)))))))))
noncomputable def tb52 : List (Nat × Sum) := [(78, S78), (79, S79)]
theorem tbo52 : TblOk Tryd.prog G tb52 := ⟨ok78, ok79, trivial⟩
noncomputable def S52 : Sum := sum1 cT (fun x => DT.guard (g52 x) (.ret (i (p52 x), [])))
theorem r52 (x : Trn) (t1 : Int) (ht1 : t1 = (p78 x.d)) (t2 : Int) (ht2 : t2 = (p78 x.m.r0.x)) (t3 : Int) (ht3 : t3 = (p79 t1 t2)) (t4 : Int) (ht4 : t4 = (p78 x.m.r0.y)) (t5 : Int) (ht5 : t5 = (p79 t3 t4)) (t6 : Int) (ht6 : t6 = (p78 x.m.r0.z)) (t7 : Int) (ht7 : t7 = (p79 t5 t6)) (t8 : Int) (ht8 : t8 = (p78 x.m.r1.x)) (t9 : Int) (ht9 : t9 = (p79 t7 t8)) (t10 : Int) (ht10 : t10 = (p78 x.m.r1.y)) (t11 : Int) (ht11 : t11 = (p79 t9 t10)) (t12 : Int) (ht12 : t12 = (p78 x.m.r1.z)) (t13 : Int) (ht13 : t13 = (p79 t11 t12)) (t14 : Int) (ht14 : t14 = (p78 x.m.r2.x)) (t15 : Int) (ht15 : t15 = (p79 t13 t14)) (t16 : Int) (ht16 : t16 = (p78 x.m.r2.y)) (t17 : Int) (ht17 : t17 = (p79 t15 t16)) (t18 : Int) (ht18 : t18 = (p78 x.m.r2.z)) (t19 : Int) (ht19 : t19 = (p79 t17 t18)) : (runFn (En tb52) pf52 [cT.enc x] []).run = (sel (g79 t1 t2)
 (sel (g79 t3 t4)
  (sel (g79 t5 t6)
   (sel (g79 t7 t8)
    (sel (g79 t9 t10)
     (sel (g79 t11 t12)
      (sel (g79 t13 t14)
       (sel (g79 t15 t16)
        (sel (g79 t17 t18)
         (some ((i t19), []))
         none)
        none)
       none)
      none)
     none)
    none)
   none)
  none)
 none) := by subst ht1; subst ht2; subst ht3; subst ht4; subst ht5; subst ht6; subst ht7; subst ht8; subst ht9; subst ht10; subst ht11; subst ht12; subst ht13; subst ht14; subst ht15; subst ht16; subst ht17; subst ht18; subst ht19; kernel_rfl
theorem m52 (c1 c2 c3 c4 c5 c6 c7 c8 c9 : Bool) (x : Trn) (t19 : Int) : ((sel c1
 (sel c2
  (sel c3
   (sel c4
    (sel c5
     (sel c6
      (sel c7
       (sel c8
        (sel c9
         (some ((i t19), []))
         none)
        none)
       none)
      none)
     none)
    none)
   none)
  none)
 none) : Option (AVal × List ABlk)) = (sel (c1 && (c2 && (c3 && (c4 && (c5 && (c6 && (c7 && (c8 && c9)))))))) (some ((i t19), [])) none) := by
 cases c1
 ·
  rfl
 ·
  cases c2
  ·
   rfl
  ·
   cases c3
   ·
    rfl
   ·
    cases c4
    ·
     rfl
    ·
     cases c5
     ·
      rfl
     ·
      cases c6
      ·
       rfl
      ·
       cases c7
       ·
        rfl
       ·
        cases c8
        ·
         rfl
        ·
         cases c9
         ·
          rfl
         ·
          rfl
theorem k52 (x : Trn) (t1 : Int) (ht1 : t1 = (p78 x.d)) (t2 : Int) (ht2 : t2 = (p78 x.m.r0.x)) (t3 : Int) (ht3 : t3 = (p79 t1 t2)) (t4 : Int) (ht4 : t4 = (p78 x.m.r0.y)) (t5 : Int) (ht5 : t5 = (p79 t3 t4)) (t6 : Int) (ht6 : t6 = (p78 x.m.r0.z)) (t7 : Int) (ht7 : t7 = (p79 t5 t6)) (t8 : Int) (ht8 : t8 = (p78 x.m.r1.x)) (t9 : Int) (ht9 : t9 = (p79 t7 t8)) (t10 : Int) (ht10 : t10 = (p78 x.m.r1.y)) (t11 : Int) (ht11 : t11 = (p79 t9 t10)) (t12 : Int) (ht12 : t12 = (p78 x.m.r1.z)) (t13 : Int) (ht13 : t13 = (p79 t11 t12)) (t14 : Int) (ht14 : t14 = (p78 x.m.r2.x)) (t15 : Int) (ht15 : t15 = (p79 t13 t14)) (t16 : Int) (ht16 : t16 = (p78 x.m.r2.y)) (t17 : Int) (ht17 : t17 = (p79 t15 t16)) (t18 : Int) (ht18 : t18 = (p78 x.m.r2.z)) (t19 : Int) (ht19 : t19 = (p79 t17 t18)) : (DT.guard (g52 x) (.ret (i (p52 x), [])) : DT (AVal × List ABlk)).run = (sel ((g79 t1 t2) && ((g79 t3 t4) && ((g79 t5 t6) && ((g79 t7 t8) && ((g79 t9 t10) && ((g79 t11 t12) && ((g79 t13 t14) && ((g79 t15 t16) && (g79 t17 t18))))))))) (some ((i t19), [])) none) := by subst ht1; subst ht2; subst ht3; subst ht4; subst ht5; subst ht6; subst ht7; subst ht8; subst ht9; subst ht10; subst ht11; subst ht12; subst ht13; subst ht14; subst ht15; subst ht16; subst ht17; subst ht18; subst ht19; rw [run_grd]; kernel_rfl
theorem ok52 : FnOk Tryd.prog G 52 S52 := sum1_ok (b52 (E := En tb52) rfl (tdeps tbo52)) fun x r h => ((r52 x _ rfl _ rfl _ rfl _ rfl _ rfl _ rfl _ rfl _ rfl _ rfl _ rfl _ rfl _ rfl _ rfl _ rfl _ rfl _ rfl _ rfl _ rfl _ rfl).trans (m52 _ _ _ _ _ _ _ _ _ x _)).trans ((k52 x _ rfl _ rfl _ rfl _ rfl _ rfl _ rfl _ rfl _ rfl _ rfl _ rfl _ rfl _ rfl _ rfl _ rfl _ rfl _ rfl _ rfl _ rfl _ rfl).symm.trans h)
noncomputable def p81 (x : V3) : Bool := let t1 := (p78 x.x); let t2 := (p78 x.y); let t3 := (p78 x.z); ((decide (t1 ≤ 96)) && ((decide (t2 ≤ 96)) && ((decide (t3 ≤ 96)) && ((decide (x.x ≥ (-96))) && ((decide (x.y ≥ (-96))) && (decide (x.z ≥ (-96))))))))
noncomputable def tb81 : List (Nat × Sum) := [(78, S78)]
theorem tbo81 : TblOk Tryd.prog G tb81 := ⟨ok78, trivial⟩
noncomputable def S81 : Sum := sum1 cV (fun x => .ret (b (p81 x), []))
theorem r81 (x : V3) (t1 : Int) (ht1 : t1 = (p78 x.x)) (t2 : Int) (ht2 : t2 = (p78 x.y)) (t3 : Int) (ht3 : t3 = (p78 x.z)) : (runFn (En tb81) pf81 [cV.enc x] []).run = (sel (decide (t1 ≤ 96))
 (sel (decide (t2 ≤ 96))
  (sel (decide (t3 ≤ 96))
   (sel (decide (x.x ≥ (-96)))
    (sel (decide (x.y ≥ (-96)))
     (some ((b (decide (x.z ≥ (-96)))), []))
     (some ((b false), [])))
    (some ((b false), [])))
   (some ((b false), [])))
  (some ((b false), [])))
 (some ((b false), []))) := by subst ht1; subst ht2; subst ht3; kernel_rfl
theorem m81 (c1 c2 c3 c4 c5 : Bool) (x : V3)  : ((sel c1
 (sel c2
  (sel c3
   (sel c4
    (sel c5
     (some ((b (decide (x.z ≥ (-96)))), []))
     (some ((b false), [])))
    (some ((b false), [])))
   (some ((b false), [])))
  (some ((b false), [])))
 (some ((b false), []))) : Option (AVal × List ABlk)) = (some ((b (c1 && (c2 && (c3 && (c4 && (c5 && (decide (x.z ≥ (-96))))))))), [])) := by
 cases c1
 ·
  rfl
 ·
  cases c2
  ·
   rfl
  ·
   cases c3
   ·
    rfl
   ·
    cases c4
    ·
     rfl
    ·
     cases c5
     ·
      rfl
     ·
      rfl
theorem k81 (x : V3) (t1 : Int) (ht1 : t1 = (p78 x.x)) (t2 : Int) (ht2 : t2 = (p78 x.y)) (t3 : Int) (ht3 : t3 = (p78 x.z)) : (.ret (b (p81 x), []) : DT (AVal × List ABlk)).run = (some ((b ((decide (t1 ≤ 96)) && ((decide (t2 ≤ 96)) && ((decide (t3 ≤ 96)) && ((decide (x.x ≥ (-96))) && ((decide (x.y ≥ (-96))) && (decide (x.z ≥ (-96))))))))), [])) := by subst ht1; subst ht2; subst ht3; kernel_rfl
theorem ok81 : FnOk Tryd.prog G 81 S81 := sum1_ok (b81 (E := En tb81) rfl (tdeps tbo81)) fun x r h => ((r81 x _ rfl _ rfl _ rfl).trans (m81 _ _ _ _ _ x )).trans ((k81 x _ rfl _ rfl _ rfl).symm.trans h)
noncomputable def p69 (x : V3) (y : V3) (z : V3) : Pln × Bool := let t1 := (p70 x); let t2 := (p70 y); let t3 := (p70 z); let t4 := (p64 y x); let t5 := (p64 z x); let t6 := (p51 t4 t5); let t7 := (p73 t6); let t8 := (p49 t7.1 x); ((⟨(⟨(sel (!t1) 0 (sel (!t2) 0 (sel (!t3) 0 (sel (t7.2 == 0) 0 t7.1.x)))), (sel (!t1) 0 (sel (!t2) 0 (sel (!t3) 0 (sel (t7.2 == 0) 0 t7.1.y)))), (sel (!t1) 0 (sel (!t2) 0 (sel (!t3) 0 (sel (t7.2 == 0) 0 t7.1.z))))⟩ : V3), (sel (!t1) 0 (sel (!t2) 0 (sel (!t3) 0 (sel (t7.2 == 0) 0 t8))))⟩ : Pln), ((!(!t1)) && ((!(!t2)) && ((!(!t3)) && (!(t7.2 == 0))))))
noncomputable def g69 (x : V3) (y : V3) (z : V3) : Bool := let t1 := (p70 x); let t2 := (p70 y); let t3 := (p70 z); let t4 := (p64 y x); let t5 := (p64 z x); let t6 := (p51 t4 t5); let t7 := (p73 t6); let t8 := (p49 t7.1 x); ((!t1) || ((!t2) || ((!t3) || (g73 t6))))
noncomputable def tb69 : List (Nat × Sum) := [(70, S70), (64, S64), (51, S51), (73, S73), (49, S49)]
theorem tbo69 : TblOk Tryd.prog G tb69 := ⟨ok70, ok64, ok51, ok73, ok49, trivial⟩
noncomputable def S69 : Sum := sum3 cV cV cV (fun x y z => DT.guard (g69 x y z) (.ret (.tup [eP (p69 x y z).1, b (p69 x y z).2], [])))
theorem r69 (x : V3) (y : V3) (z : V3) (t1 : Bool) (ht1 : t1 = (p70 x)) (t2 : Bool) (ht2 : t2 = (p70 y)) (t3 : Bool) (ht3 : t3 = (p70 z)) (t4 : V3) (ht4 : t4 = (p64 y x)) (t5 : V3) (ht5 : t5 = (p64 z x)) (t6 : V3) (ht6 : t6 = (p51 t4 t5)) (t7 : V3 × Int) (ht7 : t7 = (p73 t6)) (t8 : Int) (ht8 : t8 = (p49 t7.1 x)) : (runFn (En tb69) pf69 [cV.enc x, cV.enc y, cV.enc z] []).run = (sel (!t1)
 (some ((.tup [(.agg [(i 0), (i 0), (i 0), (i 0)]), (b false)]), []))
 (sel (!t2)
  (some ((.tup [(.agg [(i 0), (i 0), (i 0), (i 0)]), (b false)]), []))
  (sel (!t3)
   (some ((.tup [(.agg [(i 0), (i 0), (i 0), (i 0)]), (b false)]), []))
   (sel (g73 t6)
    (sel (t7.2 == 0)
     (some ((.tup [(.agg [(i 0), (i 0), (i 0), (i 0)]), (b false)]), []))
     (some ((.tup [(.agg [(i t7.1.x), (i t7.1.y), (i t7.1.z), (i t8)]), (b true)]), [])))
    none)))) := by subst ht1; subst ht2; subst ht3; subst ht4; subst ht5; subst ht6; subst ht7; subst ht8; kernel_rfl
theorem m69 (c1 c2 c3 c4 c5 : Bool) (x : V3) (y : V3) (z : V3) (t7 : V3 × Int) (t8 : Int) : ((sel c1
 (some ((.tup [(.agg [(i 0), (i 0), (i 0), (i 0)]), (b false)]), []))
 (sel c2
  (some ((.tup [(.agg [(i 0), (i 0), (i 0), (i 0)]), (b false)]), []))
  (sel c3
   (some ((.tup [(.agg [(i 0), (i 0), (i 0), (i 0)]), (b false)]), []))
   (sel c4
    (sel c5
     (some ((.tup [(.agg [(i 0), (i 0), (i 0), (i 0)]), (b false)]), []))
     (some ((.tup [(.agg [(i t7.1.x), (i t7.1.y), (i t7.1.z), (i t8)]), (b true)]), [])))
    none)))) : Option (AVal × List ABlk)) = (sel (c1 || (c2 || (c3 || c4))) (some ((.tup [(.agg [(i (sel c1 0 (sel c2 0 (sel c3 0 (sel c5 0 t7.1.x))))), (i (sel c1 0 (sel c2 0 (sel c3 0 (sel c5 0 t7.1.y))))), (i (sel c1 0 (sel c2 0 (sel c3 0 (sel c5 0 t7.1.z))))), (i (sel c1 0 (sel c2 0 (sel c3 0 (sel c5 0 t8)))))]), (b ((!c1) && ((!c2) && ((!c3) && (!c5)))))]), [])) none) := by
 cases c1
 ·
  cases c2
  ·
   cases c3
   ·
    cases c4
    ·
     rfl
    ·
     cases c5
     ·
      rfl
     ·
      rfl
   ·
    rfl
  ·
   rfl
 ·
  rfl
theorem k69 (x : V3) (y : V3) (z : V3) (t1 : Bool) (ht1 : t1 = (p70 x)) (t2 : Bool) (ht2 : t2 = (p70 y)) (t3 : Bool) (ht3 : t3 = (p70 z)) (t4 : V3) (ht4 : t4 = (p64 y x)) (t5 : V3) (ht5 : t5 = (p64 z x)) (t6 : V3) (ht6 : t6 = (p51 t4 t5)) (t7 : V3 × Int) (ht7 : t7 = (p73 t6)) (t8 : Int) (ht8 : t8 = (p49 t7.1 x)) : (DT.guard (g69 x y z) (.ret (.tup [eP (p69 x y z).1, b (p69 x y z).2], [])) : DT (AVal × List ABlk)).run = (sel ((!t1) || ((!t2) || ((!t3) || (g73 t6)))) (some ((.tup [(.agg [(i (sel (!t1) 0 (sel (!t2) 0 (sel (!t3) 0 (sel (t7.2 == 0) 0 t7.1.x))))), (i (sel (!t1) 0 (sel (!t2) 0 (sel (!t3) 0 (sel (t7.2 == 0) 0 t7.1.y))))), (i (sel (!t1) 0 (sel (!t2) 0 (sel (!t3) 0 (sel (t7.2 == 0) 0 t7.1.z))))), (i (sel (!t1) 0 (sel (!t2) 0 (sel (!t3) 0 (sel (t7.2 == 0) 0 t8)))))]), (b ((!(!t1)) && ((!(!t2)) && ((!(!t3)) && (!(t7.2 == 0))))))]), [])) none) := by subst ht1; subst ht2; subst ht3; subst ht4; subst ht5; subst ht6; subst ht7; subst ht8; rw [run_grd]; kernel_rfl
theorem ok69 : FnOk Tryd.prog G 69 S69 := sum3_ok (b69 (E := En tb69) rfl (tdeps tbo69)) fun x y z r h => ((r69 x y z _ rfl _ rfl _ rfl _ rfl _ rfl _ rfl _ rfl _ rfl).trans (m69 _ _ _ _ _ x y z _ _)).trans ((k69 x y z _ rfl _ rfl _ rfl _ rfl _ rfl _ rfl _ rfl _ rfl).symm.trans h)

end Go.Ev.T
