/- Printed: functions of the wear chapter, as plain ones (own work). -/
import Derived.Test.YtblhkhjdkjjheaaEvXC
set_option linter.unusedVariables false
set_option linter.unusedSimpArgs false
set_option linter.unnecessarySimpa false
set_option linter.unusedSectionVars false
namespace Go.Ev.W.X
open Go Go.Ev Go.Ev.Ab Go.Proofs
set_option maxRecDepth 100000
noncomputable def tb6 : List (Nat × Sum) := [(9, S9), (10, S10t), (17, SM17), (16, S16)]
theorem tbo6 : TblOk Try.prog G tb6 := ⟨ok9, ok10t, okM17, ok16, trivial⟩
noncomputable def ps6 : PS := (.pc (.seq (.ops [(o 1 (.box (.t 0))), (o 2 (.mv (cb false)))]) (.seq (.ops [(o 21 (.call 9 [])), (o 3 (.mv (.t 21)))]) (.seq (.draw [22, 23, 24, 25, 26, 27, 28, 29, 30, 4, 5, 6] [] [(o 22 (.idxA 3 1 (.t 1) (ci 0))), (o 23 (.load [(.sl 1)] 1 false (.t 22))), (o 24 (.call 10 [(.t 23)])), (o 25 (.idxA 3 1 (.t 1) (ci 1))), (o 26 (.load [(.sl 1)] 1 false (.t 25))), (o 27 (.call 10 [(.t 26)])), (o 28 (.idxA 3 1 (.t 1) (ci 2))), (o 29 (.load [(.sl 1)] 1 false (.t 28))), (o 30 (.call 10 [(.t 29)])), (o 4 (.mv (.t 24))), (o 5 (.mv (.t 27))), (o 6 (.mv (.t 30)))] [((.idxA 3 1 (.t 1) (ci 1)), (.call 10 [(.t 23)])), ((.load [(.sl 1)] 1 false (.t 25)), (.call 10 [(.t 23)])), ((.idxA 3 1 (.t 1) (ci 2)), (.call 10 [(.t 23)])), ((.idxA 3 1 (.t 1) (ci 2)), (.call 10 [(.t 26)])), ((.load [(.sl 1)] 1 false (.t 28)), (.call 10 [(.t 23)])), ((.load [(.sl 1)] 1 false (.t 28)), (.call 10 [(.t 26)]))]) (.seq (.ops [(o 32 (.mv (.t 4))), (o 33 (.mv (.t 5))), (o 34 (.call 17 [(.t 32), (.t 33)])), (o 31 (.mv (.t 34))), (o 35 (.ext (.t 31) 0)), (o 36 (.ext (.t 31) 1)), (o 7 (.mv (.t 35))), (o 8 (.mv (.t 36)))]) (.seq (.ops [(o 38 (.mv (.t 5))), (o 39 (.mv (.t 4))), (o 40 (.call 17 [(.t 38), (.t 39)])), (o 37 (.mv (.t 40))), (o 41 (.ext (.t 37) 0)), (o 42 (.ext (.t 37) 1)), (o 9 (.mv (.t 41))), (o 10 (.mv (.t 42)))]) (.seq (.ops [(o 44 (.mv (.t 4))), (o 45 (.mv (.t 4))), (o 46 (.call 17 [(.t 44), (.t 45)])), (o 43 (.mv (.t 46))), (o 47 (.ext (.t 43) 0)), (o 48 (.ext (.t 43) 1)), (o 11 (.mv (.t 47))), (o 12 (.mv (.t 48)))]) (.seq (.ops [(o 50 (.mv (.t 4))), (o 51 (.call 17 [(.c (.v (.slice none 0 0))), (.t 50)])), (o 49 (.mv (.t 51))), (o 52 (.ext (.t 49) 0)), (o 53 (.ext (.t 49) 1)), (o 13 (.mv (.t 52))), (o 14 (.mv (.t 53)))]) (.seq (.seq (.ops [(o 54 (.mv (.t 8))), (o 55 (.mv (.t 10))), (o 56 (.bin .neq (.t 54) (.t 55))), (o 57 (.mv (.t 56))), ⟨(.some 58), (.some (57, false)), [], (.mv (.t 7))⟩, ⟨(.some 59), (.some (57, false)), [], (.mv (.t 9))⟩, ⟨(.some 60), (.some (57, false)), [], (.call 16 [(.t 58), (.t 59)])⟩, ⟨(.some 61), (.some (57, false)), [], (.not (.t 60))⟩, (o 62 (.pick (.t 57) (cb true) (.t 61))), (o 63 (.mv (.t 62))), ⟨(.some 64), (.some (63, false)), [], (.mv (.t 12))⟩, ⟨(.some 65), (.some (63, false)), [], (.bin .neq (.t 64) (ci 0))⟩, (o 66 (.pick (.t 63) (cb true) (.t 65))), (o 67 (.mv (.t 66))), ⟨(.some 68), (.some (67, false)), [], (.mv (.t 14))⟩, ⟨(.some 69), (.some (67, false)), [], (.bin .neq (.t 68) (ci 0))⟩, (o 70 (.pick (.t 67) (cb true) (.t 69))), (o 71 (.mv (.t 70))), ⟨(.some 72), (.some (71, false)), [], (.mv (.t 11))⟩, ⟨(.some 73), (.some (71, false)), [], (.mv (.t 4))⟩, ⟨(.some 74), (.some (71, false)), [], (.call 16 [(.t 72), (.t 73)])⟩, ⟨(.some 75), (.some (71, false)), [], (.not (.t 74))⟩, (o 76 (.pick (.t 71) (cb true) (.t 75))), (o 77 (.mv (.t 76))), ⟨(.some 78), (.some (77, false)), [], (.mv (.t 13))⟩, ⟨(.some 79), (.some (77, false)), [], (.mv (.t 4))⟩, ⟨(.some 80), (.some (77, false)), [], (.call 16 [(.t 78), (.t 79)])⟩, ⟨(.some 81), (.some (77, false)), [], (.not (.t 80))⟩, (o 82 (.pick (.t 77) (cb true) (.t 81)))]) (.cond (.t 82) (.seq (.ops [(o 2 (.mv (cb false)))]) .ret) .skip)) (.seq (.ops [(o 84 (.mv (.t 5))), (o 85 (.mv (.t 6))), (o 86 (.call 17 [(.t 84), (.t 85)])), (o 83 (.mv (.t 86))), (o 87 (.ext (.t 83) 0)), (o 88 (.ext (.t 83) 1)), (o 15 (.mv (.t 87))), (o 16 (.mv (.t 88)))]) (.seq (.ops [(o 89 (.mv (.t 8))), (o 90 (.mv (.t 16))), (o 17 (.mv (.t 89))), (o 18 (.mv (.t 90)))]) (.seq (.ops [(o 19 (.mv (.c (.v (.slice none 0 0))))), (o 20 (.mv (.c (.v (.slice none 0 0)))))]) (.seq (.seq (.ops [(o 91 (.mv (.t 8))), (o 92 (.bin .eql (.t 91) (ci 0)))]) (.cond (.t 92) (.ops [(o 94 (.mv (.t 7))), (o 95 (.mv (.t 6))), (o 96 (.call 17 [(.t 94), (.t 95)])), (o 93 (.mv (.t 96))), (o 97 (.ext (.t 93) 0)), (o 98 (.ext (.t 93) 1)), (o 19 (.mv (.t 97))), (o 17 (.mv (.t 98)))]) .skip)) (.seq (.seq (.ops [(o 99 (.mv (.t 16))), (o 100 (.bin .eql (.t 99) (ci 0)))]) (.cond (.t 100) (.ops [(o 102 (.mv (.t 4))), (o 103 (.mv (.t 15))), (o 104 (.call 17 [(.t 102), (.t 103)])), (o 101 (.mv (.t 104))), (o 105 (.ext (.t 101) 0)), (o 106 (.ext (.t 101) 1)), (o 20 (.mv (.t 105))), (o 18 (.mv (.t 106)))]) .skip)) (.seq (.ops [(o 107 (.mv (.t 3))), (o 108 (.mv (.t 107))), ⟨(.some 109), (.some (108, true)), [], (.mv (.t 17))⟩, ⟨(.some 110), (.some (108, true)), [], (.mv (.t 18))⟩, ⟨(.some 111), (.some (108, true)), [], (.bin .eql (.t 109) (.t 110))⟩, (o 112 (.pick (.t 108) (.t 111) (cb false))), (o 113 (.mv (.t 112))), ⟨(.some 114), (.some (113, true)), [], (.mv (.t 19))⟩, ⟨(.some 115), (.some (113, true)), [], (.mv (.t 20))⟩, ⟨(.some 116), (.some (113, true)), [], (.call 16 [(.t 114), (.t 115)])⟩, (o 117 (.pick (.t 113) (.t 116) (cb false))), (o 2 (.mv (.t 117)))]) .ret)))))))))))))))
theorem sd6 : Stands (En tb6) 0 ps6 pf6.body := (.pc _)
noncomputable def p6 (x : J3) : Bool := let t1 := (p10 (⟨(List.length x.a), (fun k => rJ (gJ x.a k))⟩ : Ag10)); let t2 := (p10 (⟨(List.length x.b), (fun k => rJ (gJ x.b k))⟩ : Ag10)); let t3 := (p10 (⟨(List.length x.c), (fun k => rJ (gJ x.c k))⟩ : Ag10)); let t4 := (pM (lsE (List.length t1) (fun k => rE (gE t1 k))) (lsE (List.length t2) (fun k => rE (gE t2 k)))); let t5 := (pM (lsE (List.length t2) (fun k => rE (gE t2 k))) (lsE (List.length t1) (fun k => rE (gE t1 k)))); let t6 := (pM (lsE (List.length t1) (fun k => rE (gE t1 k))) (lsE (List.length t1) (fun k => rE (gE t1 k)))); let t7 := (pM [] (lsE (List.length t1) (fun k => rE (gE t1 k)))); let t8 := (p16 (lsE (List.length t4.1) (fun k => rE (gE t4.1 k))) (lsE (List.length t5.1) (fun k => rE (gE t5.1 k)))); let t9 := (p16 (lsE (List.length t6.1) (fun k => rE (gE t6.1 k))) (lsE (List.length t1) (fun k => rE (gE t1 k)))); let t10 := (p16 (lsE (List.length t7.1) (fun k => rE (gE t7.1 k))) (lsE (List.length t1) (fun k => rE (gE t1 k)))); let t11 := (pM (lsE (List.length t2) (fun k => rE (gE t2 k))) (lsE (List.length t3) (fun k => rE (gE t3 k)))); let t12 := (pM (lsE (List.length t4.1) (fun k => rE (gE t4.1 k))) (lsE (List.length t3) (fun k => rE (gE t3 k)))); let t13 := (pM (lsE (List.length t1) (fun k => rE (gE t1 k))) (lsE (List.length t11.1) (fun k => rE (gE t11.1 k)))); let t14 := (p16 (lsE (List.length t12.1) (fun k => rE (gE t12.1 k))) (lsE (List.length t13.1) (fun k => rE (gE t13.1 k)))); let t15 := (p16 (lsE (List.length t12.1) (fun k => rE (gE t12.1 k))) []); let t16 := (p16 [] (lsE (List.length t13.1) (fun k => rE (gE t13.1 k)))); let t17 := (p16 [] []); ((!(t4.2 != t5.2)) && ((!(!t8)) && ((!(t6.2 != 0)) && ((!(t7.2 != 0)) && ((!(!t9)) && ((!(!t10)) && (sel (t4.2 == 0) (sel (t11.2 == 0) ((t12.2 == t13.2) && t14) ((t12.2 == t11.2) && t15)) (sel (t11.2 == 0) ((t4.2 == t13.2) && t16) ((t4.2 == t11.2) && t17)))))))))
noncomputable def g6 (x : J3) : Bool := let t1 := (p10 (⟨(List.length x.a), (fun k => rJ (gJ x.a k))⟩ : Ag10)); let t2 := (p10 (⟨(List.length x.b), (fun k => rJ (gJ x.b k))⟩ : Ag10)); let t3 := (p10 (⟨(List.length x.c), (fun k => rJ (gJ x.c k))⟩ : Ag10)); let t4 := (pM (lsE (List.length t1) (fun k => rE (gE t1 k))) (lsE (List.length t2) (fun k => rE (gE t2 k)))); let t5 := (pM (lsE (List.length t2) (fun k => rE (gE t2 k))) (lsE (List.length t1) (fun k => rE (gE t1 k)))); let t6 := (pM (lsE (List.length t1) (fun k => rE (gE t1 k))) (lsE (List.length t1) (fun k => rE (gE t1 k)))); let t7 := (pM [] (lsE (List.length t1) (fun k => rE (gE t1 k)))); let t8 := (p16 (lsE (List.length t4.1) (fun k => rE (gE t4.1 k))) (lsE (List.length t5.1) (fun k => rE (gE t5.1 k)))); let t9 := (p16 (lsE (List.length t6.1) (fun k => rE (gE t6.1 k))) (lsE (List.length t1) (fun k => rE (gE t1 k)))); let t10 := (p16 (lsE (List.length t7.1) (fun k => rE (gE t7.1 k))) (lsE (List.length t1) (fun k => rE (gE t1 k)))); let t11 := (pM (lsE (List.length t2) (fun k => rE (gE t2 k))) (lsE (List.length t3) (fun k => rE (gE t3 k)))); let t12 := (pM (lsE (List.length t4.1) (fun k => rE (gE t4.1 k))) (lsE (List.length t3) (fun k => rE (gE t3 k)))); let t13 := (pM (lsE (List.length t1) (fun k => rE (gE t1 k))) (lsE (List.length t11.1) (fun k => rE (gE t11.1 k)))); let t14 := (p16 (lsE (List.length t12.1) (fun k => rE (gE t12.1 k))) (lsE (List.length t13.1) (fun k => rE (gE t13.1 k)))); let t15 := (p16 (lsE (List.length t12.1) (fun k => rE (gE t12.1 k))) []); let t16 := (p16 [] (lsE (List.length t13.1) (fun k => rE (gE t13.1 k)))); let t17 := (p16 [] []); ((g10 (⟨(List.length x.a), (fun k => rJ (gJ x.a k))⟩ : Ag10)) && ((g10 (⟨(List.length x.b), (fun k => rJ (gJ x.b k))⟩ : Ag10)) && ((g10 (⟨(List.length x.c), (fun k => rJ (gJ x.c k))⟩ : Ag10)) && ((okEs (List.length t1) (fun k => rE (gE t1 k))) && ((okEs (List.length t2) (fun k => rE (gE t2 k))) && ((gM (lsE (List.length t1) (fun k => rE (gE t1 k))) (lsE (List.length t2) (fun k => rE (gE t2 k)))) && ((gM (lsE (List.length t2) (fun k => rE (gE t2 k))) (lsE (List.length t1) (fun k => rE (gE t1 k)))) && ((gM (lsE (List.length t1) (fun k => rE (gE t1 k))) (lsE (List.length t1) (fun k => rE (gE t1 k)))) && ((gM [] (lsE (List.length t1) (fun k => rE (gE t1 k)))) && ((t4.2 != t5.2) || ((okEs (List.length t4.1) (fun k => rE (gE t4.1 k))) && ((okEs (List.length t5.1) (fun k => rE (gE t5.1 k))) && ((g16 (lsE (List.length t4.1) (fun k => rE (gE t4.1 k))) (lsE (List.length t5.1) (fun k => rE (gE t5.1 k)))) && ((!t8) || ((t6.2 != 0) || ((t7.2 != 0) || ((okEs (List.length t6.1) (fun k => rE (gE t6.1 k))) && ((g16 (lsE (List.length t6.1) (fun k => rE (gE t6.1 k))) (lsE (List.length t1) (fun k => rE (gE t1 k)))) && ((!t9) || ((okEs (List.length t7.1) (fun k => rE (gE t7.1 k))) && ((g16 (lsE (List.length t7.1) (fun k => rE (gE t7.1 k))) (lsE (List.length t1) (fun k => rE (gE t1 k)))) && ((!t10) || ((okEs (List.length t3) (fun k => rE (gE t3 k))) && ((gM (lsE (List.length t2) (fun k => rE (gE t2 k))) (lsE (List.length t3) (fun k => rE (gE t3 k)))) && (sel (t4.2 == 0) ((gM (lsE (List.length t4.1) (fun k => rE (gE t4.1 k))) (lsE (List.length t3) (fun k => rE (gE t3 k)))) && (sel (t11.2 == 0) ((okEs (List.length t11.1) (fun k => rE (gE t11.1 k))) && ((gM (lsE (List.length t1) (fun k => rE (gE t1 k))) (lsE (List.length t11.1) (fun k => rE (gE t11.1 k)))) && ((!(t12.2 == t13.2)) || ((okEs (List.length t12.1) (fun k => rE (gE t12.1 k))) && ((okEs (List.length t13.1) (fun k => rE (gE t13.1 k))) && (g16 (lsE (List.length t12.1) (fun k => rE (gE t12.1 k))) (lsE (List.length t13.1) (fun k => rE (gE t13.1 k))))))))) ((!(t12.2 == t11.2)) || ((okEs (List.length t12.1) (fun k => rE (gE t12.1 k))) && (g16 (lsE (List.length t12.1) (fun k => rE (gE t12.1 k))) []))))) (sel (t11.2 == 0) ((okEs (List.length t11.1) (fun k => rE (gE t11.1 k))) && ((gM (lsE (List.length t1) (fun k => rE (gE t1 k))) (lsE (List.length t11.1) (fun k => rE (gE t11.1 k)))) && ((!(t4.2 == t13.2)) || ((okEs (List.length t13.1) (fun k => rE (gE t13.1 k))) && (g16 [] (lsE (List.length t13.1) (fun k => rE (gE t13.1 k)))))))) ((!(t4.2 == t11.2)) || (g16 [] []))))))))))))))))))))))))))))
noncomputable def S6 : Sum := sum1 cJ3 (fun x => DT.guard (g6 x) (.ret (b (p6 x), [])))
theorem r6 (x : J3) (t1 : List Ent) (ht1 : t1 = (p10 (⟨(List.length x.a), (fun k => rJ (gJ x.a k))⟩ : Ag10))) (t2 : List Ent) (ht2 : t2 = (p10 (⟨(List.length x.b), (fun k => rJ (gJ x.b k))⟩ : Ag10))) (t3 : List Ent) (ht3 : t3 = (p10 (⟨(List.length x.c), (fun k => rJ (gJ x.c k))⟩ : Ag10))) (t4 : List Ent × Int) (ht4 : t4 = (pM (lsE (List.length t1) (fun k => rE (gE t1 k))) (lsE (List.length t2) (fun k => rE (gE t2 k))))) (t5 : List Ent × Int) (ht5 : t5 = (pM (lsE (List.length t2) (fun k => rE (gE t2 k))) (lsE (List.length t1) (fun k => rE (gE t1 k))))) (t6 : List Ent × Int) (ht6 : t6 = (pM (lsE (List.length t1) (fun k => rE (gE t1 k))) (lsE (List.length t1) (fun k => rE (gE t1 k))))) (t7 : List Ent × Int) (ht7 : t7 = (pM [] (lsE (List.length t1) (fun k => rE (gE t1 k))))) (t8 : Bool) (ht8 : t8 = (p16 (lsE (List.length t4.1) (fun k => rE (gE t4.1 k))) (lsE (List.length t5.1) (fun k => rE (gE t5.1 k))))) (t9 : Bool) (ht9 : t9 = (p16 (lsE (List.length t6.1) (fun k => rE (gE t6.1 k))) (lsE (List.length t1) (fun k => rE (gE t1 k))))) (t10 : Bool) (ht10 : t10 = (p16 (lsE (List.length t7.1) (fun k => rE (gE t7.1 k))) (lsE (List.length t1) (fun k => rE (gE t1 k))))) (t11 : List Ent × Int) (ht11 : t11 = (pM (lsE (List.length t2) (fun k => rE (gE t2 k))) (lsE (List.length t3) (fun k => rE (gE t3 k))))) (t12 : List Ent × Int) (ht12 : t12 = (pM (lsE (List.length t4.1) (fun k => rE (gE t4.1 k))) (lsE (List.length t3) (fun k => rE (gE t3 k))))) (t13 : List Ent × Int) (ht13 : t13 = (pM (lsE (List.length t1) (fun k => rE (gE t1 k))) (lsE (List.length t11.1) (fun k => rE (gE t11.1 k))))) (t14 : Bool) (ht14 : t14 = (p16 (lsE (List.length t12.1) (fun k => rE (gE t12.1 k))) (lsE (List.length t13.1) (fun k => rE (gE t13.1 k))))) (t15 : Bool) (ht15 : t15 = (p16 (lsE (List.length t12.1) (fun k => rE (gE t12.1 k))) [])) (t16 : Bool) (ht16 : t16 = (p16 [] (lsE (List.length t13.1) (fun k => rE (gE t13.1 k))))) (t17 : Bool) (ht17 : t17 = (p16 [] [])) : (runS (En tb6) pf6 ps6 [cJ3.enc x] []).run = (sel (g10 (⟨(List.length x.a), (fun k => rJ (gJ x.a k))⟩ : Ag10))
 (sel (g10 (⟨(List.length x.b), (fun k => rJ (gJ x.b k))⟩ : Ag10))
  (sel (g10 (⟨(List.length x.c), (fun k => rJ (gJ x.c k))⟩ : Ag10))
   (sel (okEs (List.length t1) (fun k => rE (gE t1 k)))
    (sel (okEs (List.length t2) (fun k => rE (gE t2 k)))
     (sel (gM (lsE (List.length t1) (fun k => rE (gE t1 k))) (lsE (List.length t2) (fun k => rE (gE t2 k))))
      (sel (okEs (List.length t2) (fun k => rE (gE t2 k)))
       (sel (okEs (List.length t1) (fun k => rE (gE t1 k)))
        (sel (gM (lsE (List.length t2) (fun k => rE (gE t2 k))) (lsE (List.length t1) (fun k => rE (gE t1 k))))
         (sel (okEs (List.length t1) (fun k => rE (gE t1 k)))
          (sel (okEs (List.length t1) (fun k => rE (gE t1 k)))
           (sel (gM (lsE (List.length t1) (fun k => rE (gE t1 k))) (lsE (List.length t1) (fun k => rE (gE t1 k))))
            (sel (okEs (List.length t1) (fun k => rE (gE t1 k)))
             (sel (gM [] (lsE (List.length t1) (fun k => rE (gE t1 k))))
              (sel (t4.2 != t5.2)
               (some ((b false), []))
               (sel (okEs (List.length t4.1) (fun k => rE (gE t4.1 k)))
                (sel (okEs (List.length t5.1) (fun k => rE (gE t5.1 k)))
                 (sel (g16 (lsE (List.length t4.1) (fun k => rE (gE t4.1 k))) (lsE (List.length t5.1) (fun k => rE (gE t5.1 k))))
                  (sel (!t8)
                   (some ((b false), []))
                   (sel (t6.2 != 0)
                    (some ((b false), []))
                    (sel (t7.2 != 0)
                     (some ((b false), []))
                     (sel (okEs (List.length t6.1) (fun k => rE (gE t6.1 k)))
                      (sel (okEs (List.length t1) (fun k => rE (gE t1 k)))
                       (sel (g16 (lsE (List.length t6.1) (fun k => rE (gE t6.1 k))) (lsE (List.length t1) (fun k => rE (gE t1 k))))
                        (sel (!t9)
                         (some ((b false), []))
                         (sel (okEs (List.length t7.1) (fun k => rE (gE t7.1 k)))
                          (sel (okEs (List.length t1) (fun k => rE (gE t1 k)))
                           (sel (g16 (lsE (List.length t7.1) (fun k => rE (gE t7.1 k))) (lsE (List.length t1) (fun k => rE (gE t1 k))))
                            (sel (!t10)
                             (some ((b false), []))
                             (sel (okEs (List.length t2) (fun k => rE (gE t2 k)))
                              (sel (okEs (List.length t3) (fun k => rE (gE t3 k)))
                               (sel (gM (lsE (List.length t2) (fun k => rE (gE t2 k))) (lsE (List.length t3) (fun k => rE (gE t3 k))))
                                (sel (t4.2 == 0)
                                 (sel (okEs (List.length t4.1) (fun k => rE (gE t4.1 k)))
                                  (sel (okEs (List.length t3) (fun k => rE (gE t3 k)))
                                   (sel (gM (lsE (List.length t4.1) (fun k => rE (gE t4.1 k))) (lsE (List.length t3) (fun k => rE (gE t3 k))))
                                    (sel (t11.2 == 0)
                                     (sel (okEs (List.length t1) (fun k => rE (gE t1 k)))
                                      (sel (okEs (List.length t11.1) (fun k => rE (gE t11.1 k)))
                                       (sel (gM (lsE (List.length t1) (fun k => rE (gE t1 k))) (lsE (List.length t11.1) (fun k => rE (gE t11.1 k))))
                                        (sel (t12.2 == t13.2)
                                         (sel (okEs (List.length t12.1) (fun k => rE (gE t12.1 k)))
                                          (sel (okEs (List.length t13.1) (fun k => rE (gE t13.1 k)))
                                           (sel (g16 (lsE (List.length t12.1) (fun k => rE (gE t12.1 k))) (lsE (List.length t13.1) (fun k => rE (gE t13.1 k))))
                                            (some ((b t14), []))
                                            none)
                                           none)
                                          none)
                                         (some ((b false), [])))
                                        none)
                                       none)
                                      none)
                                     (sel (t12.2 == t11.2)
                                      (sel (okEs (List.length t12.1) (fun k => rE (gE t12.1 k)))
                                       (sel (g16 (lsE (List.length t12.1) (fun k => rE (gE t12.1 k))) [])
                                        (some ((b t15), []))
                                        none)
                                       none)
                                      (some ((b false), []))))
                                    none)
                                   none)
                                  none)
                                 (sel (t11.2 == 0)
                                  (sel (okEs (List.length t1) (fun k => rE (gE t1 k)))
                                   (sel (okEs (List.length t11.1) (fun k => rE (gE t11.1 k)))
                                    (sel (gM (lsE (List.length t1) (fun k => rE (gE t1 k))) (lsE (List.length t11.1) (fun k => rE (gE t11.1 k))))
                                     (sel (t4.2 == t13.2)
                                      (sel (okEs (List.length t13.1) (fun k => rE (gE t13.1 k)))
                                       (sel (g16 [] (lsE (List.length t13.1) (fun k => rE (gE t13.1 k))))
                                        (some ((b t16), []))
                                        none)
                                       none)
                                      (some ((b false), [])))
                                     none)
                                    none)
                                   none)
                                  (sel (t4.2 == t11.2)
                                   (sel (g16 [] [])
                                    (some ((b t17), []))
                                    none)
                                   (some ((b false), [])))))
                                none)
                               none)
                              none))
                            none)
                           none)
                          none))
                        none)
                       none)
                      none))))
                  none)
                 none)
                none))
              none)
             none)
            none)
           none)
          none)
         none)
        none)
       none)
      none)
     none)
    none)
   none)
  none)
 none) := by subst ht1; subst ht2; subst ht3; subst ht4; subst ht5; subst ht6; subst ht7; subst ht8; subst ht9; subst ht10; subst ht11; subst ht12; subst ht13; subst ht14; subst ht15; subst ht16; subst ht17; kernel_rfl
theorem m6 (c1 c2 c3 c4 c5 c6 c7 c8 c9 c10 c11 c12 c13 c14 c15 c16 c17 c18 c19 c20 c21 c22 c23 c24 c25 c26 c27 c28 c29 c30 c31 c32 c33 c34 c35 c36 c37 c38 c39 : Bool) (x : J3) (t14 : Bool) (t15 : Bool) (t16 : Bool) (t17 : Bool) : ((sel c1
 (sel c2
  (sel c3
   (sel c4
    (sel c5
     (sel c6
      (sel c5
       (sel c4
        (sel c7
         (sel c4
          (sel c4
           (sel c8
            (sel c4
             (sel c9
              (sel c10
               (some ((b false), []))
               (sel c11
                (sel c12
                 (sel c13
                  (sel c14
                   (some ((b false), []))
                   (sel c15
                    (some ((b false), []))
                    (sel c16
                     (some ((b false), []))
                     (sel c17
                      (sel c4
                       (sel c18
                        (sel c19
                         (some ((b false), []))
                         (sel c20
                          (sel c4
                           (sel c21
                            (sel c22
                             (some ((b false), []))
                             (sel c5
                              (sel c23
                               (sel c24
                                (sel c25
                                 (sel c11
                                  (sel c23
                                   (sel c26
                                    (sel c27
                                     (sel c4
                                      (sel c28
                                       (sel c29
                                        (sel c30
                                         (sel c31
                                          (sel c32
                                           (sel c33
                                            (some ((b t14), []))
                                            none)
                                           none)
                                          none)
                                         (some ((b false), [])))
                                        none)
                                       none)
                                      none)
                                     (sel c34
                                      (sel c31
                                       (sel c35
                                        (some ((b t15), []))
                                        none)
                                       none)
                                      (some ((b false), []))))
                                    none)
                                   none)
                                  none)
                                 (sel c27
                                  (sel c4
                                   (sel c28
                                    (sel c29
                                     (sel c36
                                      (sel c32
                                       (sel c37
                                        (some ((b t16), []))
                                        none)
                                       none)
                                      (some ((b false), [])))
                                     none)
                                    none)
                                   none)
                                  (sel c38
                                   (sel c39
                                    (some ((b t17), []))
                                    none)
                                   (some ((b false), [])))))
                                none)
                               none)
                              none))
                            none)
                           none)
                          none))
                        none)
                       none)
                      none))))
                  none)
                 none)
                none))
              none)
             none)
            none)
           none)
          none)
         none)
        none)
       none)
      none)
     none)
    none)
   none)
  none)
 none) : Option (AVal × List ABlk)) = (sel (c1 && (c2 && (c3 && (c4 && (c5 && (c6 && (c7 && (c8 && (c9 && (c10 || (c11 && (c12 && (c13 && (c14 || (c15 || (c16 || (c17 && (c18 && (c19 || (c20 && (c21 && (c22 || (c23 && (c24 && (sel c25 (c26 && (sel c27 (c28 && (c29 && ((!c30) || (c31 && (c32 && c33))))) ((!c34) || (c31 && c35)))) (sel c27 (c28 && (c29 && ((!c36) || (c32 && c37)))) ((!c38) || c39))))))))))))))))))))))))))) (some ((b ((!c10) && ((!c14) && ((!c15) && ((!c16) && ((!c19) && ((!c22) && (sel c25 (sel c27 (c30 && t14) (c34 && t15)) (sel c27 (c36 && t16) (c38 && t17)))))))))), [])) none) := by
 cases c1
 ·
  rfl
 ·
  cases c2
  ·
   rfl
  ·
   cases c3
   ·
    rfl
   ·
    cases c4
    ·
     rfl
    ·
     cases c5
     ·
      rfl
     ·
      cases c6
      ·
       rfl
      ·
       cases c7
       ·
        rfl
       ·
        cases c8
        ·
         rfl
        ·
         cases c9
         ·
          rfl
         ·
          cases c10
          ·
           cases c11
           ·
            rfl
           ·
            cases c12
            ·
             rfl
            ·
             cases c13
             ·
              rfl
             ·
              cases c14
              ·
               cases c15
               ·
                cases c16
                ·
                 cases c17
                 ·
                  rfl
                 ·
                  cases c18
                  ·
                   rfl
                  ·
                   cases c19
                   ·
                    cases c20
                    ·
                     rfl
                    ·
                     cases c21
                     ·
                      rfl
                     ·
                      cases c22
                      ·
                       cases c23
                       ·
                        rfl
                       ·
                        cases c24
                        ·
                         rfl
                        ·
                         cases c25
                         ·
                          cases c27
                          ·
                           cases c38
                           ·
                            rfl
                           ·
                            cases c39
                            ·
                             rfl
                            ·
                             rfl
                          ·
                           cases c28
                           ·
                            rfl
                           ·
                            cases c29
                            ·
                             rfl
                            ·
                             cases c36
                             ·
                              rfl
                             ·
                              cases c32
                              ·
                               rfl
                              ·
                               cases c37
                               ·
                                rfl
                               ·
                                rfl
                         ·
                          cases c26
                          ·
                           rfl
                          ·
                           cases c27
                           ·
                            cases c34
                            ·
                             rfl
                            ·
                             cases c31
                             ·
                              rfl
                             ·
                              cases c35
                              ·
                               rfl
                              ·
                               rfl
                           ·
                            cases c28
                            ·
                             rfl
                            ·
                             cases c29
                             ·
                              rfl
                             ·
                              cases c30
                              ·
                               rfl
                              ·
                               cases c31
                               ·
                                rfl
                               ·
                                cases c32
                                ·
                                 rfl
                                ·
                                 cases c33
                                 ·
                                  rfl
                                 ·
                                  rfl
                      ·
                       rfl
                   ·
                    rfl
                ·
                 rfl
               ·
                rfl
              ·
               rfl
          ·
           rfl
theorem k6 (x : J3) (t1 : List Ent) (ht1 : t1 = (p10 (⟨(List.length x.a), (fun k => rJ (gJ x.a k))⟩ : Ag10))) (t2 : List Ent) (ht2 : t2 = (p10 (⟨(List.length x.b), (fun k => rJ (gJ x.b k))⟩ : Ag10))) (t3 : List Ent) (ht3 : t3 = (p10 (⟨(List.length x.c), (fun k => rJ (gJ x.c k))⟩ : Ag10))) (t4 : List Ent × Int) (ht4 : t4 = (pM (lsE (List.length t1) (fun k => rE (gE t1 k))) (lsE (List.length t2) (fun k => rE (gE t2 k))))) (t5 : List Ent × Int) (ht5 : t5 = (pM (lsE (List.length t2) (fun k => rE (gE t2 k))) (lsE (List.length t1) (fun k => rE (gE t1 k))))) (t6 : List Ent × Int) (ht6 : t6 = (pM (lsE (List.length t1) (fun k => rE (gE t1 k))) (lsE (List.length t1) (fun k => rE (gE t1 k))))) (t7 : List Ent × Int) (ht7 : t7 = (pM [] (lsE (List.length t1) (fun k => rE (gE t1 k))))) (t8 : Bool) (ht8 : t8 = (p16 (lsE (List.length t4.1) (fun k => rE (gE t4.1 k))) (lsE (List.length t5.1) (fun k => rE (gE t5.1 k))))) (t9 : Bool) (ht9 : t9 = (p16 (lsE (List.length t6.1) (fun k => rE (gE t6.1 k))) (lsE (List.length t1) (fun k => rE (gE t1 k))))) (t10 : Bool) (ht10 : t10 = (p16 (lsE (List.length t7.1) (fun k => rE (gE t7.1 k))) (lsE (List.length t1) (fun k => rE (gE t1 k))))) (t11 : List Ent × Int) (ht11 : t11 = (pM (lsE (List.length t2) (fun k => rE (gE t2 k))) (lsE (List.length t3) (fun k => rE (gE t3 k))))) (t12 : List Ent × Int) (ht12 : t12 = (pM (lsE (List.length t4.1) (fun k => rE (gE t4.1 k))) (lsE (List.length t3) (fun k => rE (gE t3 k))))) (t13 : List Ent × Int) (ht13 : t13 = (pM (lsE (List.length t1) (fun k => rE (gE t1 k))) (lsE (List.length t11.1) (fun k => rE (gE t11.1 k))))) (t14 : Bool) (ht14 : t14 = (p16 (lsE (List.length t12.1) (fun k => rE (gE t12.1 k))) (lsE (List.length t13.1) (fun k => rE (gE t13.1 k))))) (t15 : Bool) (ht15 : t15 = (p16 (lsE (List.length t12.1) (fun k => rE (gE t12.1 k))) [])) (t16 : Bool) (ht16 : t16 = (p16 [] (lsE (List.length t13.1) (fun k => rE (gE t13.1 k))))) (t17 : Bool) (ht17 : t17 = (p16 [] [])) : (DT.guard (g6 x) (.ret (b (p6 x), [])) : DT (AVal × List ABlk)).run = (sel ((g10 (⟨(List.length x.a), (fun k => rJ (gJ x.a k))⟩ : Ag10)) && ((g10 (⟨(List.length x.b), (fun k => rJ (gJ x.b k))⟩ : Ag10)) && ((g10 (⟨(List.length x.c), (fun k => rJ (gJ x.c k))⟩ : Ag10)) && ((okEs (List.length t1) (fun k => rE (gE t1 k))) && ((okEs (List.length t2) (fun k => rE (gE t2 k))) && ((gM (lsE (List.length t1) (fun k => rE (gE t1 k))) (lsE (List.length t2) (fun k => rE (gE t2 k)))) && ((gM (lsE (List.length t2) (fun k => rE (gE t2 k))) (lsE (List.length t1) (fun k => rE (gE t1 k)))) && ((gM (lsE (List.length t1) (fun k => rE (gE t1 k))) (lsE (List.length t1) (fun k => rE (gE t1 k)))) && ((gM [] (lsE (List.length t1) (fun k => rE (gE t1 k)))) && ((t4.2 != t5.2) || ((okEs (List.length t4.1) (fun k => rE (gE t4.1 k))) && ((okEs (List.length t5.1) (fun k => rE (gE t5.1 k))) && ((g16 (lsE (List.length t4.1) (fun k => rE (gE t4.1 k))) (lsE (List.length t5.1) (fun k => rE (gE t5.1 k)))) && ((!t8) || ((t6.2 != 0) || ((t7.2 != 0) || ((okEs (List.length t6.1) (fun k => rE (gE t6.1 k))) && ((g16 (lsE (List.length t6.1) (fun k => rE (gE t6.1 k))) (lsE (List.length t1) (fun k => rE (gE t1 k)))) && ((!t9) || ((okEs (List.length t7.1) (fun k => rE (gE t7.1 k))) && ((g16 (lsE (List.length t7.1) (fun k => rE (gE t7.1 k))) (lsE (List.length t1) (fun k => rE (gE t1 k)))) && ((!t10) || ((okEs (List.length t3) (fun k => rE (gE t3 k))) && ((gM (lsE (List.length t2) (fun k => rE (gE t2 k))) (lsE (List.length t3) (fun k => rE (gE t3 k)))) && (sel (t4.2 == 0) ((gM (lsE (List.length t4.1) (fun k => rE (gE t4.1 k))) (lsE (List.length t3) (fun k => rE (gE t3 k)))) && (sel (t11.2 == 0) ((okEs (List.length t11.1) (fun k => rE (gE t11.1 k))) && ((gM (lsE (List.length t1) (fun k => rE (gE t1 k))) (lsE (List.length t11.1) (fun k => rE (gE t11.1 k)))) && ((!(t12.2 == t13.2)) || ((okEs (List.length t12.1) (fun k => rE (gE t12.1 k))) && ((okEs (List.length t13.1) (fun k => rE (gE t13.1 k))) && (g16 (lsE (List.length t12.1) (fun k => rE (gE t12.1 k))) (lsE (List.length t13.1) (fun k => rE (gE t13.1 k))))))))) ((!(t12.2 == t11.2)) || ((okEs (List.length t12.1) (fun k => rE (gE t12.1 k))) && (g16 (lsE (List.length t12.1) (fun k => rE (gE t12.1 k))) []))))) (sel (t11.2 == 0) ((okEs (List.length t11.1) (fun k => rE (gE t11.1 k))) && ((gM (lsE (List.length t1) (fun k => rE (gE t1 k))) (lsE (List.length t11.1) (fun k => rE (gE t11.1 k)))) && ((!(t4.2 == t13.2)) || ((okEs (List.length t13.1) (fun k => rE (gE t13.1 k))) && (g16 [] (lsE (List.length t13.1) (fun k => rE (gE t13.1 k)))))))) ((!(t4.2 == t11.2)) || (g16 [] [])))))))))))))))))))))))))))) (some ((b ((!(t4.2 != t5.2)) && ((!(!t8)) && ((!(t6.2 != 0)) && ((!(t7.2 != 0)) && ((!(!t9)) && ((!(!t10)) && (sel (t4.2 == 0) (sel (t11.2 == 0) ((t12.2 == t13.2) && t14) ((t12.2 == t11.2) && t15)) (sel (t11.2 == 0) ((t4.2 == t13.2) && t16) ((t4.2 == t11.2) && t17)))))))))), [])) none) := by subst ht1; subst ht2; subst ht3; subst ht4; subst ht5; subst ht6; subst ht7; subst ht8; subst ht9; subst ht10; subst ht11; subst ht12; subst ht13; subst ht14; subst ht15; subst ht16; subst ht17; rw [run_grd]; kernel_rfl
theorem ok6 : FnOk Try.prog G 6 S6 := sum1_ok (b6 (E := En tb6) rfl (tdeps tbo6)) fun x r h => runS_below sd6 _ (((r6 x _ rfl _ rfl _ rfl _ rfl _ rfl _ rfl _ rfl _ rfl _ rfl _ rfl _ rfl _ rfl _ rfl _ rfl _ rfl _ rfl _ rfl).trans (m6 _ _ _ _ _ _ _ _ _ _ _ _ _ _ _ _ _ _ _ _ _ _ _ _ _ _ _ _ _ _ _ _ _ _ _ _ _ _ _ x _ _ _ _)).trans ((k6 x _ rfl _ rfl _ rfl _ rfl _ rfl _ rfl _ rfl _ rfl _ rfl _ rfl _ rfl _ rfl _ rfl _ rfl _ rfl _ rfl _ rfl).symm.trans h))
end Go.Ev.W.X
