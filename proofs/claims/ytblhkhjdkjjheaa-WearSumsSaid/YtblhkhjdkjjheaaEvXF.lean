/- Printed: functions of the wear chapter, as plain ones (own work). -/
import Derived.Test.YtblhkhjdkjjheaaEvXC
set_option linter.unusedVariables false
set_option linter.unusedSimpArgs false
set_option linter.unnecessarySimpa false
set_option linter.unusedSectionVars false
namespace Go.Ev.W.X
open Go Go.Ev Go.Ev.Ab Go.Proofs
set_option maxRecDepth 100000
noncomputable def tb22 : List (Nat × Sum) := [(45, S45)]
theorem tbo22 : TblOk Try.prog G tb22 := ⟨ok45, trivial⟩
noncomputable def p22 (x : Int) (y : Int) : Int × Int := ((sel (decide (x ≥ 0)) (sel (!(decide (x ≤ 1048576))) 0 (sel (decide (y < 0)) 0 (sel (decide (y > 100)) 0 (W (Int.tdiv (W ((W ((W (x * y)) + 10)) - 1)) 10))))) 0), (sel (decide (x ≥ 0)) (sel (!(decide (x ≤ 1048576))) 3 (sel (decide (y < 0)) 3 (sel (decide (y > 100)) 3 0))) 3))
noncomputable def S22 : Sum := sum2 cI cI (fun x y => .ret (.tup [i (p22 x y).1, i (p22 x y).2], []))
theorem r22 (x : Int) (y : Int)  : (runFn (En tb22) pf22 [cI.enc x, cI.enc y] []).run = (sel (decide (x ≥ 0))
 (sel (!(decide (x ≤ 1048576)))
  (some ((.tup [(i 0), (i 3)]), []))
  (sel (decide (y < 0))
   (some ((.tup [(i 0), (i 3)]), []))
   (sel (decide (y > 100))
    (some ((.tup [(i 0), (i 3)]), []))
    (some ((.tup [(i (W (Int.tdiv (W ((W ((W (x * y)) + 10)) - 1)) 10))), (i 0)]), [])))))
 (some ((.tup [(i 0), (i 3)]), []))) := by kernel_rfl
theorem m22 (c1 c2 c3 c4 : Bool) (x : Int) (y : Int)  : ((sel c1
 (sel c2
  (some ((.tup [(i 0), (i 3)]), []))
  (sel c3
   (some ((.tup [(i 0), (i 3)]), []))
   (sel c4
    (some ((.tup [(i 0), (i 3)]), []))
    (some ((.tup [(i (W (Int.tdiv (W ((W ((W (x * y)) + 10)) - 1)) 10))), (i 0)]), [])))))
 (some ((.tup [(i 0), (i 3)]), []))) : Option (AVal × List ABlk)) = (some ((.tup [(i (sel c1 (sel c2 0 (sel c3 0 (sel c4 0 (W (Int.tdiv (W ((W ((W (x * y)) + 10)) - 1)) 10))))) 0)), (i (sel c1 (sel c2 3 (sel c3 3 (sel c4 3 0))) 3))]), [])) := by
 cases c1
 ·
  rfl
 ·
  cases c2
  ·
   cases c3
   ·
    cases c4
    ·
     rfl
    ·
     rfl
   ·
    rfl
  ·
   rfl
theorem k22 (x : Int) (y : Int)  : (.ret (.tup [i (p22 x y).1, i (p22 x y).2], []) : DT (AVal × List ABlk)).run = (some ((.tup [(i (sel (decide (x ≥ 0)) (sel (!(decide (x ≤ 1048576))) 0 (sel (decide (y < 0)) 0 (sel (decide (y > 100)) 0 (W (Int.tdiv (W ((W ((W (x * y)) + 10)) - 1)) 10))))) 0)), (i (sel (decide (x ≥ 0)) (sel (!(decide (x ≤ 1048576))) 3 (sel (decide (y < 0)) 3 (sel (decide (y > 100)) 3 0))) 3))]), [])) := by kernel_rfl
theorem ok22 : FnOk Try.prog G 22 S22 := sum2_ok (b22 (E := En tb22) rfl (tdeps tbo22)) fun x y r h => ((r22 x y ).trans (m22 _ _ _ _ x y )).trans ((k22 x y ).symm.trans h)
noncomputable def tb23 : List (Nat × Sum) := []
theorem tbo23 : TblOk Try.prog G tb23 := trivial
noncomputable def p23 (x : Int) (y : Int) : Int × Int := ((sel (decide (x < 0)) 0 (sel (decide (x > 1048576)) 0 (sel (decide (y < 0)) 0 (sel (decide (y > 100)) 0 (W (Int.tdiv (W ((W (x * y)) + 9)) 10)))))), (sel (decide (x < 0)) 3 (sel (decide (x > 1048576)) 3 (sel (decide (y < 0)) 3 (sel (decide (y > 100)) 3 0)))))
noncomputable def S23 : Sum := sum2 cI cI (fun x y => .ret (.tup [i (p23 x y).1, i (p23 x y).2], []))
theorem r23 (x : Int) (y : Int)  : (runFn (En tb23) pf23 [cI.enc x, cI.enc y] []).run = (sel (decide (x < 0))
 (some ((.tup [(i 0), (i 3)]), []))
 (sel (decide (x > 1048576))
  (some ((.tup [(i 0), (i 3)]), []))
  (sel (decide (y < 0))
   (some ((.tup [(i 0), (i 3)]), []))
   (sel (decide (y > 100))
    (some ((.tup [(i 0), (i 3)]), []))
    (some ((.tup [(i (W (Int.tdiv (W ((W (x * y)) + 9)) 10))), (i 0)]), [])))))) := by kernel_rfl
theorem m23 (c1 c2 c3 c4 : Bool) (x : Int) (y : Int)  : ((sel c1
 (some ((.tup [(i 0), (i 3)]), []))
 (sel c2
  (some ((.tup [(i 0), (i 3)]), []))
  (sel c3
   (some ((.tup [(i 0), (i 3)]), []))
   (sel c4
    (some ((.tup [(i 0), (i 3)]), []))
    (some ((.tup [(i (W (Int.tdiv (W ((W (x * y)) + 9)) 10))), (i 0)]), [])))))) : Option (AVal × List ABlk)) = (some ((.tup [(i (sel c1 0 (sel c2 0 (sel c3 0 (sel c4 0 (W (Int.tdiv (W ((W (x * y)) + 9)) 10))))))), (i (sel c1 3 (sel c2 3 (sel c3 3 (sel c4 3 0)))))]), [])) := by
 cases c1
 ·
  cases c2
  ·
   cases c3
   ·
    cases c4
    ·
     rfl
    ·
     rfl
   ·
    rfl
  ·
   rfl
 ·
  rfl
theorem k23 (x : Int) (y : Int)  : (.ret (.tup [i (p23 x y).1, i (p23 x y).2], []) : DT (AVal × List ABlk)).run = (some ((.tup [(i (sel (decide (x < 0)) 0 (sel (decide (x > 1048576)) 0 (sel (decide (y < 0)) 0 (sel (decide (y > 100)) 0 (W (Int.tdiv (W ((W (x * y)) + 9)) 10))))))), (i (sel (decide (x < 0)) 3 (sel (decide (x > 1048576)) 3 (sel (decide (y < 0)) 3 (sel (decide (y > 100)) 3 0)))))]), [])) := by kernel_rfl
theorem ok23 : FnOk Try.prog G 23 S23 := sum2_ok (b23 (E := En tb23) rfl (tdeps tbo23)) fun x y r h => ((r23 x y ).trans (m23 _ _ _ _ x y )).trans ((k23 x y ).symm.trans h)
noncomputable def tb4 : List (Nat × Sum) := [(9, S9), (10, S10t), (11, S11t), (17, SM17), (18, SM18), (16, S16), (19, S19), (20, ST20), (21, ST21), (22, S22), (23, S23)]
theorem tbo4 : TblOk Try.prog G tb4 := ⟨ok9, ok10t, ok11t, okM17, okM18, ok16, ok19, okT20, okT21, ok22, ok23, trivial⟩
noncomputable def ps4 : PS := (.pc (.seq (.ops [(o 4 (.box (.t 0))), (o 5 (.box (.t 1))), (o 7 (.box (.t 3))), (o 8 (.mv (cb false)))]) (.seq (.ops [(o 32 (.call 9 [])), (o 9 (.mv (.t 32)))]) (.seq (.draw [33, 34, 35, 36, 37, 38, 10, 11] [] [(o 33 (.idxA 2 1 (.t 4) (ci 0))), (o 34 (.load [(.sl 1)] 1 false (.t 33))), (o 35 (.call 10 [(.t 34)])), (o 36 (.idxA 2 1 (.t 4) (ci 1))), (o 37 (.load [(.sl 1)] 1 false (.t 36))), (o 38 (.call 10 [(.t 37)])), (o 10 (.mv (.t 35))), (o 11 (.mv (.t 38)))] [((.idxA 2 1 (.t 4) (ci 1)), (.call 10 [(.t 34)])), ((.load [(.sl 1)] 1 false (.t 36)), (.call 10 [(.t 34)]))]) (.seq (.seq (.draw [39, 40, 41, 42, 43, 44, 45, 46, 47, 48, 49, 50, 51, 52, 53, 54, 55, 56, 57, 58, 59, 60, 61, 62, 63, 64, 65] [] [(o 39 (.mv (.t 10))), (o 40 (.mv (.t 11))), (o 41 (.build [(.v (.slice none 0 0)), (.v (.slice none 0 0))] [(0, (1, (.t 39))), (1, (1, (.t 40)))])), (o 42 (.mv (.t 10))), (o 43 (.idxA 2 3 (.t 5) (ci 0))), (o 44 (.load (ki 3) 3 true (.t 43))), (o 45 (.call 11 [(.t 42), (.t 44)])), (o 46 (.mv (.t 11))), (o 47 (.build [(.v (.slice none 0 0)), (.v (.slice none 0 0))] [(0, (1, (.t 45))), (1, (1, (.t 46)))])), (o 48 (.mv (.t 10))), (o 49 (.mv (.t 11))), (o 50 (.idxA 2 3 (.t 5) (ci 1))), (o 51 (.load (ki 3) 3 true (.t 50))), (o 52 (.call 11 [(.t 49), (.t 51)])), (o 53 (.build [(.v (.slice none 0 0)), (.v (.slice none 0 0))] [(0, (1, (.t 48))), (1, (1, (.t 52)))])), (o 54 (.mv (.t 10))), (o 55 (.idxA 2 3 (.t 5) (ci 0))), (o 56 (.load (ki 3) 3 true (.t 55))), (o 57 (.call 11 [(.t 54), (.t 56)])), (o 58 (.mv (.t 11))), (o 59 (.idxA 2 3 (.t 5) (ci 1))), (o 60 (.load (ki 3) 3 true (.t 59))), (o 61 (.call 11 [(.t 58), (.t 60)])), (o 62 (.build [(.v (.slice none 0 0)), (.v (.slice none 0 0))] [(0, (1, (.t 57))), (1, (1, (.t 61)))])), (o 63 (.bslice 41 2 4 [(.v (.slice none 0 0)), (.v (.slice none 0 0)), (.v (.slice none 0 0)), (.v (.slice none 0 0)), (.v (.slice none 0 0)), (.v (.slice none 0 0)), (.v (.slice none 0 0)), (.v (.slice none 0 0))] [(0, (2, (.t 41))), (2, (2, (.t 47))), (4, (2, (.t 53))), (6, (2, (.t 62)))])), (o 64 (.len (.t 63))), (o 65 (.mv (ci 0)))] [((.mv (.t 10)), (.call 11 [(.t 42), (.t 44)])), ((.mv (.t 10)), (.call 11 [(.t 49), (.t 51)])), ((.mv (.t 10)), (.call 11 [(.t 54), (.t 56)])), ((.mv (.t 10)), (.call 11 [(.t 58), (.t 60)])), ((.mv (.t 11)), (.call 11 [(.t 42), (.t 44)])), ((.mv (.t 11)), (.call 11 [(.t 49), (.t 51)])), ((.mv (.t 11)), (.call 11 [(.t 54), (.t 56)])), ((.mv (.t 11)), (.call 11 [(.t 58), (.t 60)])), ((.build [(.v (.slice none 0 0)), (.v (.slice none 0 0))] [(0, (1, (.t 39))), (1, (1, (.t 40)))]), (.call 11 [(.t 42), (.t 44)])), ((.build [(.v (.slice none 0 0)), (.v (.slice none 0 0))] [(0, (1, (.t 39))), (1, (1, (.t 40)))]), (.call 11 [(.t 49), (.t 51)])), ((.build [(.v (.slice none 0 0)), (.v (.slice none 0 0))] [(0, (1, (.t 39))), (1, (1, (.t 40)))]), (.call 11 [(.t 54), (.t 56)])), ((.build [(.v (.slice none 0 0)), (.v (.slice none 0 0))] [(0, (1, (.t 39))), (1, (1, (.t 40)))]), (.call 11 [(.t 58), (.t 60)])), ((.mv (.t 11)), (.call 11 [(.t 42), (.t 44)])), ((.mv (.t 11)), (.call 11 [(.t 49), (.t 51)])), ((.mv (.t 11)), (.call 11 [(.t 54), (.t 56)])), ((.mv (.t 11)), (.call 11 [(.t 58), (.t 60)])), ((.build [(.v (.slice none 0 0)), (.v (.slice none 0 0))] [(0, (1, (.t 45))), (1, (1, (.t 46)))]), (.call 11 [(.t 49), (.t 51)])), ((.build [(.v (.slice none 0 0)), (.v (.slice none 0 0))] [(0, (1, (.t 45))), (1, (1, (.t 46)))]), (.call 11 [(.t 54), (.t 56)])), ((.build [(.v (.slice none 0 0)), (.v (.slice none 0 0))] [(0, (1, (.t 45))), (1, (1, (.t 46)))]), (.call 11 [(.t 58), (.t 60)])), ((.mv (.t 10)), (.call 11 [(.t 42), (.t 44)])), ((.mv (.t 10)), (.call 11 [(.t 49), (.t 51)])), ((.mv (.t 10)), (.call 11 [(.t 54), (.t 56)])), ((.mv (.t 10)), (.call 11 [(.t 58), (.t 60)])), ((.mv (.t 11)), (.call 11 [(.t 42), (.t 44)])), ((.idxA 2 3 (.t 5) (ci 1)), (.call 11 [(.t 42), (.t 44)])), ((.load (ki 3) 3 true (.t 50)), (.call 11 [(.t 42), (.t 44)])), ((.build [(.v (.slice none 0 0)), (.v (.slice none 0 0))] [(0, (1, (.t 48))), (1, (1, (.t 52)))]), (.call 11 [(.t 54), (.t 56)])), ((.build [(.v (.slice none 0 0)), (.v (.slice none 0 0))] [(0, (1, (.t 48))), (1, (1, (.t 52)))]), (.call 11 [(.t 58), (.t 60)])), ((.mv (.t 10)), (.call 11 [(.t 42), (.t 44)])), ((.mv (.t 10)), (.call 11 [(.t 49), (.t 51)])), ((.idxA 2 3 (.t 5) (ci 0)), (.call 11 [(.t 42), (.t 44)])), ((.idxA 2 3 (.t 5) (ci 0)), (.call 11 [(.t 49), (.t 51)])), ((.load (ki 3) 3 true (.t 55)), (.call 11 [(.t 42), (.t 44)])), ((.load (ki 3) 3 true (.t 55)), (.call 11 [(.t 49), (.t 51)])), ((.mv (.t 11)), (.call 11 [(.t 42), (.t 44)])), ((.mv (.t 11)), (.call 11 [(.t 49), (.t 51)])), ((.mv (.t 11)), (.call 11 [(.t 54), (.t 56)])), ((.idxA 2 3 (.t 5) (ci 1)), (.call 11 [(.t 42), (.t 44)])), ((.idxA 2 3 (.t 5) (ci 1)), (.call 11 [(.t 49), (.t 51)])), ((.idxA 2 3 (.t 5) (ci 1)), (.call 11 [(.t 54), (.t 56)])), ((.load (ki 3) 3 true (.t 59)), (.call 11 [(.t 42), (.t 44)])), ((.load (ki 3) 3 true (.t 59)), (.call 11 [(.t 49), (.t 51)])), ((.load (ki 3) 3 true (.t 59)), (.call 11 [(.t 54), (.t 56)])), ((.mv (ci 0)), (.call 11 [(.t 42), (.t 44)])), ((.mv (ci 0)), (.call 11 [(.t 49), (.t 51)])), ((.mv (ci 0)), (.call 11 [(.t 54), (.t 56)])), ((.mv (ci 0)), (.call 11 [(.t 58), (.t 60)])), ((.mv (ci 0)), (.bslice 41 2 4 [(.v (.slice none 0 0)), (.v (.slice none 0 0)), (.v (.slice none 0 0)), (.v (.slice none 0 0)), (.v (.slice none 0 0)), (.v (.slice none 0 0)), (.v (.slice none 0 0)), (.v (.slice none 0 0))] [(0, (2, (.t 41))), (2, (2, (.t 47))), (4, (2, (.t 53))), (6, (2, (.t 62)))]))]) (.block 0 (.loop [2, 7, 9, 63, 64, 65] (.seq (.ops [(o 66 (.bin .lss (.t 65) (.t 64)))]) (.seq (.cond (.t 66) .skip (.exit 0)) (.seq (.block 1 (.seq (.ops [(o 67 (.idxS 2 (.t 63) (.t 65))), (o 68 (.load [(.sl 4), (.sl 4)] 2 true (.t 67))), (o 13 (.alloc [(.v (.slice none 0 0)), (.v (.slice none 0 0))])), (s (.store 2 (.t 13) (.t 68)))]) (.seq (.ops [(o 70 (.idxA 2 1 (.t 13) (ci 0))), (o 71 (.load [(.sl 4)] 1 false (.t 70))), (o 72 (.idxA 2 1 (.t 13) (ci 1))), (o 73 (.load [(.sl 4)] 1 false (.t 72))), (o 74 (.call 17 [(.t 71), (.t 73)])), (o 69 (.mv (.t 74))), (o 75 (.ext (.t 69) 0)), (o 76 (.ext (.t 69) 1)), (o 14 (.mv (.t 75))), (o 15 (.mv (.t 76)))]) (.seq (.ops [(o 78 (.idxA 2 1 (.t 13) (ci 0))), (o 79 (.load [(.sl 4)] 1 false (.t 78))), (o 80 (.idxA 2 1 (.t 13) (ci 1))), (o 81 (.load [(.sl 4)] 1 false (.t 80))), (o 82 (.call 18 [(.t 79), (.t 81)])), (o 77 (.mv (.t 82))), (o 83 (.ext (.t 77) 0)), (o 84 (.ext (.t 77) 1)), (o 16 (.mv (.t 83))), (o 17 (.mv (.t 84)))]) (.seq (.seq (.ops [(o 85 (.mv (.t 15))), (o 86 (.mv (.t 17))), (o 87 (.bin .neq (.t 85) (.t 86))), (o 88 (.mv (.t 87))), ⟨(.some 89), (.some (88, false)), [], (.mv (.t 14))⟩, ⟨(.some 90), (.some (88, false)), [], (.mv (.t 16))⟩, ⟨(.some 91), (.some (88, false)), [], (.call 16 [(.t 89), (.t 90)])⟩, ⟨(.some 92), (.some (88, false)), [], (.not (.t 91))⟩, (o 93 (.pick (.t 88) (cb true) (.t 92)))]) (.cond (.t 93) (.seq (.ops [(o 8 (.mv (cb false)))]) .ret) .skip)) (.seq (.ops [(o 94 (.mv (.t 2))), (o 95 (.mv (.t 2))), (o 96 (.call 19 [(.t 95), (ci 4)])), (o 97 (.bslice 3 1 2 (rep 2 (vi 0)) [(0, (1, (.t 94))), (1, (1, (.t 96)))])), (o 98 (.len (.t 97))), (o 99 (.mv (ci 0)))]) (.block 2 (.loop [2, 7, 9, 13, 63, 64, 65, 97, 98, 99] (.seq (.ops [(o 100 (.bin .lss (.t 99) (.t 98)))]) (.seq (.cond (.t 100) .skip (.exit 2)) (.seq (.block 3 (.seq (.ops [(o 101 (.idxS 1 (.t 97) (.t 99))), (o 102 (.load (ki 1) 1 false (.t 101))), (o 19 (.mv (.t 102)))]) (.seq (.ops [(o 104 (.idxA 2 1 (.t 13) (ci 0))), (o 105 (.load [(.sl 4)] 1 false (.t 104))), (o 106 (.mv (.t 19))), (o 107 (.call 20 [(.t 105), (.t 106)])), (o 103 (.mv (.t 107))), (o 108 (.ext (.t 103) 0)), (o 109 (.ext (.t 103) 1)), (o 110 (.ext (.t 103) 2)), (o 20 (.mv (.t 108))), (o 21 (.mv (.t 109))), (o 22 (.mv (.t 110)))]) (.seq (.ops [(o 112 (.idxA 2 1 (.t 13) (ci 0))), (o 113 (.load [(.sl 4)] 1 false (.t 112))), (o 114 (.mv (.t 19))), (o 115 (.call 21 [(.t 113), (.t 114)])), (o 111 (.mv (.t 115))), (o 116 (.ext (.t 111) 0)), (o 117 (.ext (.t 111) 1)), (o 118 (.ext (.t 111) 2)), (o 23 (.mv (.t 116))), (o 24 (.mv (.t 117))), (o 25 (.mv (.t 118)))]) (.seq (.ops [(o 119 (.mv (.t 20))), (o 120 (.mv (.t 23))), (o 121 (.bin .neq (.t 119) (.t 120))), (o 122 (.mv (.t 121))), ⟨(.some 123), (.some (122, false)), [], (.mv (.t 21))⟩, ⟨(.some 124), (.some (122, false)), [], (.mv (.t 24))⟩, ⟨(.some 125), (.some (122, false)), [], (.bin .neq (.t 123) (.t 124))⟩, (o 126 (.pick (.t 122) (cb true) (.t 125))), (o 127 (.mv (.t 126))), ⟨(.some 128), (.some (127, false)), [], (.mv (.t 22))⟩, ⟨(.some 129), (.some (127, false)), [], (.mv (.t 25))⟩, ⟨(.some 130), (.some (127, false)), [], (.bin .neq (.t 128) (.t 129))⟩, (o 131 (.pick (.t 127) (cb true) (.t 130)))]) (.cond (.t 131) (.seq (.ops [(o 8 (.mv (cb false)))]) .ret) .skip)))))) (.ops [(o 132 (.bin .add (.t 99) (ci 1))), (o 99 (.mv (.t 132)))])))))))))))) (.ops [(o 133 (.bin .add (.t 65) (ci 1))), (o 65 (.mv (.t 133)))]))))))) (.seq (.seq (.draw [134, 135, 136, 137, 138, 139, 140, 141, 142, 143, 144] [] [(o 134 (.load (ki 2) 2 true (.t 7))), (o 135 (.idxA 2 1 (.t 7) (ci 0))), (o 136 (.load (ki 1) 1 false (.t 135))), (o 137 (.call 19 [(.t 136), (ci 50)])), (o 138 (.idxA 2 1 (.t 7) (ci 1))), (o 139 (.load (ki 1) 1 false (.t 138))), (o 140 (.call 19 [(.t 139), (ci 102)])), (o 141 (.build (rep 2 (vi 0)) [(0, (1, (.t 137))), (1, (1, (.t 140)))])), (o 142 (.bslice 40 2 2 (rep 4 (vi 0)) [(0, (2, (.t 134))), (2, (2, (.t 141)))])), (o 143 (.len (.t 142))), (o 144 (.mv (ci 0)))] [((.load (ki 2) 2 true (.t 7)), (.call 19 [(.t 136), (ci 50)])), ((.load (ki 2) 2 true (.t 7)), (.call 19 [(.t 139), (ci 102)])), ((.idxA 2 1 (.t 7) (ci 1)), (.call 19 [(.t 136), (ci 50)])), ((.load (ki 1) 1 false (.t 138)), (.call 19 [(.t 136), (ci 50)])), ((.mv (ci 0)), (.call 19 [(.t 136), (ci 50)])), ((.mv (ci 0)), (.call 19 [(.t 139), (ci 102)])), ((.mv (ci 0)), (.bslice 40 2 2 (rep 4 (vi 0)) [(0, (2, (.t 134))), (2, (2, (.t 141)))]))]) (.block 4 (.loop [9, 142, 143, 144] (.seq (.ops [(o 145 (.bin .lss (.t 144) (.t 143)))]) (.seq (.cond (.t 145) .skip (.exit 4)) (.seq (.block 5 (.seq (.ops [(o 146 (.idxS 2 (.t 142) (.t 144))), (o 147 (.load (ki 2) 2 true (.t 146))), (o 27 (.alloc (rep 2 (vi 0)))), (s (.store 2 (.t 27) (.t 147)))]) (.seq (.ops [(o 149 (.idxA 2 1 (.t 27) (ci 0))), (o 150 (.load (ki 1) 1 false (.t 149))), (o 151 (.idxA 2 1 (.t 27) (ci 1))), (o 152 (.load (ki 1) 1 false (.t 151))), (o 153 (.call 22 [(.t 150), (.t 152)])), (o 148 (.mv (.t 153))), (o 154 (.ext (.t 148) 0)), (o 155 (.ext (.t 148) 1)), (o 28 (.mv (.t 154))), (o 29 (.mv (.t 155)))]) (.seq (.ops [(o 157 (.idxA 2 1 (.t 27) (ci 0))), (o 158 (.load (ki 1) 1 false (.t 157))), (o 159 (.idxA 2 1 (.t 27) (ci 1))), (o 160 (.load (ki 1) 1 false (.t 159))), (o 161 (.call 23 [(.t 158), (.t 160)])), (o 156 (.mv (.t 161))), (o 162 (.ext (.t 156) 0)), (o 163 (.ext (.t 156) 1)), (o 30 (.mv (.t 162))), (o 31 (.mv (.t 163)))]) (.seq (.ops [(o 164 (.mv (.t 28))), (o 165 (.mv (.t 30))), (o 166 (.bin .neq (.t 164) (.t 165))), (o 167 (.mv (.t 166))), ⟨(.some 168), (.some (167, false)), [], (.mv (.t 29))⟩, ⟨(.some 169), (.some (167, false)), [], (.mv (.t 31))⟩, ⟨(.some 170), (.some (167, false)), [], (.bin .neq (.t 168) (.t 169))⟩, (o 171 (.pick (.t 167) (cb true) (.t 170)))]) (.cond (.t 171) (.seq (.ops [(o 8 (.mv (cb false)))]) .ret) .skip)))))) (.ops [(o 172 (.bin .add (.t 144) (ci 1))), (o 144 (.mv (.t 172)))]))))))) (.seq (.ops [(o 173 (.mv (.t 9))), (o 8 (.mv (.t 173)))]) .ret)))))))
theorem sd4 : Stands (En tb4) 0 ps4 pf4.body := (.pc _)
noncomputable def p4 (x : J2) (y : Q2) (z : Int) (w : D2) : Bool := let t1 := (p10 (⟨(List.length x.a), (fun k => rJ (gJ x.a k))⟩ : Ag10)); let t2 := (p10 (⟨(List.length x.b), (fun k => rJ (gJ x.b k))⟩ : Ag10)); let t3 := (p11 (lsE (List.length t1) (fun k => rE (gE t1 k))) y.a); let t4 := (p11 (lsE (List.length t2) (fun k => rE (gE t2 k))) y.b); let t5 := (pM (lsE (List.length t1) (fun k => rE (gE t1 k))) (lsE (List.length t2) (fun k => rE (gE t2 k)))); let t6 := (p16 (lsE (List.length t5.1) (fun k => rE (gE t5.1 k))) (lsE (List.length t5.1) (fun k => rE (gE t5.1 k)))); let t7 := (p19 z 4); let t8 := (pT (lsE (List.length t1) (fun k => rE (gE t1 k))) z); let t9 := (pT (lsE (List.length t1) (fun k => rE (gE t1 k))) t7); let t10 := (pM (lsE (List.length t3) (fun k => rE (gE t3 k))) (lsE (List.length t2) (fun k => rE (gE t2 k)))); let t11 := (p16 (lsE (List.length t10.1) (fun k => rE (gE t10.1 k))) (lsE (List.length t10.1) (fun k => rE (gE t10.1 k)))); let t12 := (pT (lsE (List.length t3) (fun k => rE (gE t3 k))) z); let t13 := (pT (lsE (List.length t3) (fun k => rE (gE t3 k))) t7); let t14 := (pM (lsE (List.length t1) (fun k => rE (gE t1 k))) (lsE (List.length t4) (fun k => rE (gE t4 k)))); let t15 := (p16 (lsE (List.length t14.1) (fun k => rE (gE t14.1 k))) (lsE (List.length t14.1) (fun k => rE (gE t14.1 k)))); let t16 := (pM (lsE (List.length t3) (fun k => rE (gE t3 k))) (lsE (List.length t4) (fun k => rE (gE t4 k)))); let t17 := (p16 (lsE (List.length t16.1) (fun k => rE (gE t16.1 k))) (lsE (List.length t16.1) (fun k => rE (gE t16.1 k)))); let t18 := (p19 w.a 50); let t19 := (p19 w.b 102); let t20 := (p22 w.a w.b); let t21 := (p23 w.a w.b); let t22 := (p22 t18 t19); let t23 := (p23 t18 t19); ((!(t5.2 != t5.2)) && ((!(!t6)) && ((!(t8.1 != t8.1)) && ((!(t8.2.1 != t8.2.1)) && ((!(t8.2.2 != t8.2.2)) && ((!(t9.1 != t9.1)) && ((!(t9.2.1 != t9.2.1)) && ((!(t9.2.2 != t9.2.2)) && ((!(t10.2 != t10.2)) && ((!(!t11)) && ((!(t12.1 != t12.1)) && ((!(t12.2.1 != t12.2.1)) && ((!(t12.2.2 != t12.2.2)) && ((!(t13.1 != t13.1)) && ((!(t13.2.1 != t13.2.1)) && ((!(t13.2.2 != t13.2.2)) && ((!(t14.2 != t14.2)) && ((!(!t15)) && ((!(t16.2 != t16.2)) && ((!(!t17)) && ((!(t20.1 != t21.1)) && ((!(t20.2 != t21.2)) && ((!(t22.1 != t23.1)) && (!(t22.2 != t23.2)))))))))))))))))))))))))
noncomputable def g4 (x : J2) (y : Q2) (z : Int) (w : D2) : Bool := let t1 := (p10 (⟨(List.length x.a), (fun k => rJ (gJ x.a k))⟩ : Ag10)); let t2 := (p10 (⟨(List.length x.b), (fun k => rJ (gJ x.b k))⟩ : Ag10)); let t3 := (p11 (lsE (List.length t1) (fun k => rE (gE t1 k))) y.a); let t4 := (p11 (lsE (List.length t2) (fun k => rE (gE t2 k))) y.b); let t5 := (pM (lsE (List.length t1) (fun k => rE (gE t1 k))) (lsE (List.length t2) (fun k => rE (gE t2 k)))); let t6 := (p16 (lsE (List.length t5.1) (fun k => rE (gE t5.1 k))) (lsE (List.length t5.1) (fun k => rE (gE t5.1 k)))); let t7 := (p19 z 4); let t8 := (pT (lsE (List.length t1) (fun k => rE (gE t1 k))) z); let t9 := (pT (lsE (List.length t1) (fun k => rE (gE t1 k))) t7); let t10 := (pM (lsE (List.length t3) (fun k => rE (gE t3 k))) (lsE (List.length t2) (fun k => rE (gE t2 k)))); let t11 := (p16 (lsE (List.length t10.1) (fun k => rE (gE t10.1 k))) (lsE (List.length t10.1) (fun k => rE (gE t10.1 k)))); let t12 := (pT (lsE (List.length t3) (fun k => rE (gE t3 k))) z); let t13 := (pT (lsE (List.length t3) (fun k => rE (gE t3 k))) t7); let t14 := (pM (lsE (List.length t1) (fun k => rE (gE t1 k))) (lsE (List.length t4) (fun k => rE (gE t4 k)))); let t15 := (p16 (lsE (List.length t14.1) (fun k => rE (gE t14.1 k))) (lsE (List.length t14.1) (fun k => rE (gE t14.1 k)))); let t16 := (pM (lsE (List.length t3) (fun k => rE (gE t3 k))) (lsE (List.length t4) (fun k => rE (gE t4 k)))); let t17 := (p16 (lsE (List.length t16.1) (fun k => rE (gE t16.1 k))) (lsE (List.length t16.1) (fun k => rE (gE t16.1 k)))); let t18 := (p19 w.a 50); let t19 := (p19 w.b 102); let t20 := (p22 w.a w.b); let t21 := (p23 w.a w.b); let t22 := (p22 t18 t19); let t23 := (p23 t18 t19); ((g10 (⟨(List.length x.a), (fun k => rJ (gJ x.a k))⟩ : Ag10)) && ((g10 (⟨(List.length x.b), (fun k => rJ (gJ x.b k))⟩ : Ag10)) && ((okEs (List.length t1) (fun k => rE (gE t1 k))) && ((g11 (lsE (List.length t1) (fun k => rE (gE t1 k))) y.a) && ((okEs (List.length t2) (fun k => rE (gE t2 k))) && ((g11 (lsE (List.length t2) (fun k => rE (gE t2 k))) y.b) && ((gM (lsE (List.length t1) (fun k => rE (gE t1 k))) (lsE (List.length t2) (fun k => rE (gE t2 k)))) && ((t5.2 != t5.2) || ((okEs (List.length t5.1) (fun k => rE (gE t5.1 k))) && ((g16 (lsE (List.length t5.1) (fun k => rE (gE t5.1 k))) (lsE (List.length t5.1) (fun k => rE (gE t5.1 k)))) && ((!t6) || ((g19 z 4) && ((gT (lsE (List.length t1) (fun k => rE (gE t1 k))) z) && ((t8.1 != t8.1) || ((t8.2.1 != t8.2.1) || ((t8.2.2 != t8.2.2) || ((gT (lsE (List.length t1) (fun k => rE (gE t1 k))) t7) && ((t9.1 != t9.1) || ((t9.2.1 != t9.2.1) || ((t9.2.2 != t9.2.2) || ((okEs (List.length t3) (fun k => rE (gE t3 k))) && ((gM (lsE (List.length t3) (fun k => rE (gE t3 k))) (lsE (List.length t2) (fun k => rE (gE t2 k)))) && ((t10.2 != t10.2) || ((okEs (List.length t10.1) (fun k => rE (gE t10.1 k))) && ((g16 (lsE (List.length t10.1) (fun k => rE (gE t10.1 k))) (lsE (List.length t10.1) (fun k => rE (gE t10.1 k)))) && ((!t11) || ((gT (lsE (List.length t3) (fun k => rE (gE t3 k))) z) && ((t12.1 != t12.1) || ((t12.2.1 != t12.2.1) || ((t12.2.2 != t12.2.2) || ((gT (lsE (List.length t3) (fun k => rE (gE t3 k))) t7) && ((t13.1 != t13.1) || ((t13.2.1 != t13.2.1) || ((t13.2.2 != t13.2.2) || ((okEs (List.length t4) (fun k => rE (gE t4 k))) && ((gM (lsE (List.length t1) (fun k => rE (gE t1 k))) (lsE (List.length t4) (fun k => rE (gE t4 k)))) && ((t14.2 != t14.2) || ((okEs (List.length t14.1) (fun k => rE (gE t14.1 k))) && ((g16 (lsE (List.length t14.1) (fun k => rE (gE t14.1 k))) (lsE (List.length t14.1) (fun k => rE (gE t14.1 k)))) && ((!t15) || ((gM (lsE (List.length t3) (fun k => rE (gE t3 k))) (lsE (List.length t4) (fun k => rE (gE t4 k)))) && ((t16.2 != t16.2) || ((okEs (List.length t16.1) (fun k => rE (gE t16.1 k))) && ((g16 (lsE (List.length t16.1) (fun k => rE (gE t16.1 k))) (lsE (List.length t16.1) (fun k => rE (gE t16.1 k)))) && ((!t17) || ((g19 w.a 50) && (g19 w.b 102)))))))))))))))))))))))))))))))))))))))))))))))
noncomputable def S4 : Sum := sum4 cJJ cQ cI cD (fun x y z w => DT.guard (g4 x y z w) (.ret (b (p4 x y z w), [])))
theorem r4 (x : J2) (y : Q2) (z : Int) (w : D2) (t1 : List Ent) (ht1 : t1 = (p10 (⟨(List.length x.a), (fun k => rJ (gJ x.a k))⟩ : Ag10))) (t2 : List Ent) (ht2 : t2 = (p10 (⟨(List.length x.b), (fun k => rJ (gJ x.b k))⟩ : Ag10))) (t3 : List Ent) (ht3 : t3 = (p11 (lsE (List.length t1) (fun k => rE (gE t1 k))) y.a)) (t4 : List Ent) (ht4 : t4 = (p11 (lsE (List.length t2) (fun k => rE (gE t2 k))) y.b)) (t5 : List Ent × Int) (ht5 : t5 = (pM (lsE (List.length t1) (fun k => rE (gE t1 k))) (lsE (List.length t2) (fun k => rE (gE t2 k))))) (t6 : Bool) (ht6 : t6 = (p16 (lsE (List.length t5.1) (fun k => rE (gE t5.1 k))) (lsE (List.length t5.1) (fun k => rE (gE t5.1 k))))) (t7 : Int) (ht7 : t7 = (p19 z 4)) (t8 : Int × Int × Int) (ht8 : t8 = (pT (lsE (List.length t1) (fun k => rE (gE t1 k))) z)) (t9 : Int × Int × Int) (ht9 : t9 = (pT (lsE (List.length t1) (fun k => rE (gE t1 k))) t7)) (t10 : List Ent × Int) (ht10 : t10 = (pM (lsE (List.length t3) (fun k => rE (gE t3 k))) (lsE (List.length t2) (fun k => rE (gE t2 k))))) (t11 : Bool) (ht11 : t11 = (p16 (lsE (List.length t10.1) (fun k => rE (gE t10.1 k))) (lsE (List.length t10.1) (fun k => rE (gE t10.1 k))))) (t12 : Int × Int × Int) (ht12 : t12 = (pT (lsE (List.length t3) (fun k => rE (gE t3 k))) z)) (t13 : Int × Int × Int) (ht13 : t13 = (pT (lsE (List.length t3) (fun k => rE (gE t3 k))) t7)) (t14 : List Ent × Int) (ht14 : t14 = (pM (lsE (List.length t1) (fun k => rE (gE t1 k))) (lsE (List.length t4) (fun k => rE (gE t4 k))))) (t15 : Bool) (ht15 : t15 = (p16 (lsE (List.length t14.1) (fun k => rE (gE t14.1 k))) (lsE (List.length t14.1) (fun k => rE (gE t14.1 k))))) (t16 : List Ent × Int) (ht16 : t16 = (pM (lsE (List.length t3) (fun k => rE (gE t3 k))) (lsE (List.length t4) (fun k => rE (gE t4 k))))) (t17 : Bool) (ht17 : t17 = (p16 (lsE (List.length t16.1) (fun k => rE (gE t16.1 k))) (lsE (List.length t16.1) (fun k => rE (gE t16.1 k))))) (t18 : Int) (ht18 : t18 = (p19 w.a 50)) (t19 : Int) (ht19 : t19 = (p19 w.b 102)) (t20 : Int × Int) (ht20 : t20 = (p22 w.a w.b)) (t21 : Int × Int) (ht21 : t21 = (p23 w.a w.b)) (t22 : Int × Int) (ht22 : t22 = (p22 t18 t19)) (t23 : Int × Int) (ht23 : t23 = (p23 t18 t19)) : (runS (En tb4) pf4 ps4 [cJJ.enc x, cQ.enc y, cI.enc z, cD.enc w] []).run = (sel (g10 (⟨(List.length x.a), (fun k => rJ (gJ x.a k))⟩ : Ag10))
 (sel (g10 (⟨(List.length x.b), (fun k => rJ (gJ x.b k))⟩ : Ag10))
  (sel (okEs (List.length t1) (fun k => rE (gE t1 k)))
   (sel (g11 (lsE (List.length t1) (fun k => rE (gE t1 k))) y.a)
    (sel (okEs (List.length t2) (fun k => rE (gE t2 k)))
     (sel (g11 (lsE (List.length t2) (fun k => rE (gE t2 k))) y.b)
      (sel (okEs (List.length t1) (fun k => rE (gE t1 k)))
       (sel (g11 (lsE (List.length t1) (fun k => rE (gE t1 k))) y.a)
        (sel (okEs (List.length t2) (fun k => rE (gE t2 k)))
         (sel (g11 (lsE (List.length t2) (fun k => rE (gE t2 k))) y.b)
          (sel (okEs (List.length t1) (fun k => rE (gE t1 k)))
           (sel (okEs (List.length t2) (fun k => rE (gE t2 k)))
            (sel (gM (lsE (List.length t1) (fun k => rE (gE t1 k))) (lsE (List.length t2) (fun k => rE (gE t2 k))))
             (sel (okEs (List.length t1) (fun k => rE (gE t1 k)))
              (sel (okEs (List.length t2) (fun k => rE (gE t2 k)))
               (sel (gM (lsE (List.length t1) (fun k => rE (gE t1 k))) (lsE (List.length t2) (fun k => rE (gE t2 k))))
                (sel (t5.2 != t5.2)
                 (some ((b false), []))
                 (sel (okEs (List.length t5.1) (fun k => rE (gE t5.1 k)))
                  (sel (okEs (List.length t5.1) (fun k => rE (gE t5.1 k)))
                   (sel (g16 (lsE (List.length t5.1) (fun k => rE (gE t5.1 k))) (lsE (List.length t5.1) (fun k => rE (gE t5.1 k))))
                    (sel (!t6)
                     (some ((b false), []))
                     (sel (g19 z 4)
                      (sel (okEs (List.length t1) (fun k => rE (gE t1 k)))
                       (sel (gT (lsE (List.length t1) (fun k => rE (gE t1 k))) z)
                        (sel (okEs (List.length t1) (fun k => rE (gE t1 k)))
                         (sel (gT (lsE (List.length t1) (fun k => rE (gE t1 k))) z)
                          (sel (t8.1 != t8.1)
                           (some ((b false), []))
                           (sel (t8.2.1 != t8.2.1)
                            (some ((b false), []))
                            (sel (t8.2.2 != t8.2.2)
                             (some ((b false), []))
                             (sel (okEs (List.length t1) (fun k => rE (gE t1 k)))
                              (sel (gT (lsE (List.length t1) (fun k => rE (gE t1 k))) t7)
                               (sel (okEs (List.length t1) (fun k => rE (gE t1 k)))
                                (sel (gT (lsE (List.length t1) (fun k => rE (gE t1 k))) t7)
                                 (sel (t9.1 != t9.1)
                                  (some ((b false), []))
                                  (sel (t9.2.1 != t9.2.1)
                                   (some ((b false), []))
                                   (sel (t9.2.2 != t9.2.2)
                                    (some ((b false), []))
                                    (sel (okEs (List.length t3) (fun k => rE (gE t3 k)))
                                     (sel (okEs (List.length t2) (fun k => rE (gE t2 k)))
                                      (sel (gM (lsE (List.length t3) (fun k => rE (gE t3 k))) (lsE (List.length t2) (fun k => rE (gE t2 k))))
                                       (sel (okEs (List.length t3) (fun k => rE (gE t3 k)))
                                        (sel (okEs (List.length t2) (fun k => rE (gE t2 k)))
                                         (sel (gM (lsE (List.length t3) (fun k => rE (gE t3 k))) (lsE (List.length t2) (fun k => rE (gE t2 k))))
                                          (sel (t10.2 != t10.2)
                                           (some ((b false), []))
                                           (sel (okEs (List.length t10.1) (fun k => rE (gE t10.1 k)))
                                            (sel (okEs (List.length t10.1) (fun k => rE (gE t10.1 k)))
                                             (sel (g16 (lsE (List.length t10.1) (fun k => rE (gE t10.1 k))) (lsE (List.length t10.1) (fun k => rE (gE t10.1 k))))
                                              (sel (!t11)
                                               (some ((b false), []))
                                               (sel (g19 z 4)
                                                (sel (okEs (List.length t3) (fun k => rE (gE t3 k)))
                                                 (sel (gT (lsE (List.length t3) (fun k => rE (gE t3 k))) z)
                                                  (sel (okEs (List.length t3) (fun k => rE (gE t3 k)))
                                                   (sel (gT (lsE (List.length t3) (fun k => rE (gE t3 k))) z)
                                                    (sel (t12.1 != t12.1)
                                                     (some ((b false), []))
                                                     (sel (t12.2.1 != t12.2.1)
                                                      (some ((b false), []))
                                                      (sel (t12.2.2 != t12.2.2)
                                                       (some ((b false), []))
                                                       (sel (okEs (List.length t3) (fun k => rE (gE t3 k)))
                                                        (sel (gT (lsE (List.length t3) (fun k => rE (gE t3 k))) t7)
                                                         (sel (okEs (List.length t3) (fun k => rE (gE t3 k)))
                                                          (sel (gT (lsE (List.length t3) (fun k => rE (gE t3 k))) t7)
                                                           (sel (t13.1 != t13.1)
                                                            (some ((b false), []))
                                                            (sel (t13.2.1 != t13.2.1)
                                                             (some ((b false), []))
                                                             (sel (t13.2.2 != t13.2.2)
                                                              (some ((b false), []))
                                                              (sel (okEs (List.length t1) (fun k => rE (gE t1 k)))
                                                               (sel (okEs (List.length t4) (fun k => rE (gE t4 k)))
                                                                (sel (gM (lsE (List.length t1) (fun k => rE (gE t1 k))) (lsE (List.length t4) (fun k => rE (gE t4 k))))
                                                                 (sel (okEs (List.length t1) (fun k => rE (gE t1 k)))
                                                                  (sel (okEs (List.length t4) (fun k => rE (gE t4 k)))
                                                                   (sel (gM (lsE (List.length t1) (fun k => rE (gE t1 k))) (lsE (List.length t4) (fun k => rE (gE t4 k))))
                                                                    (sel (t14.2 != t14.2)
                                                                     (some ((b false), []))
                                                                     (sel (okEs (List.length t14.1) (fun k => rE (gE t14.1 k)))
                                                                      (sel (okEs (List.length t14.1) (fun k => rE (gE t14.1 k)))
                                                                       (sel (g16 (lsE (List.length t14.1) (fun k => rE (gE t14.1 k))) (lsE (List.length t14.1) (fun k => rE (gE t14.1 k))))
                                                                        (sel (!t15)
                                                                         (some ((b false), []))
                                                                         (sel (g19 z 4)
                                                                          (sel (okEs (List.length t1) (fun k => rE (gE t1 k)))
                                                                           (sel (gT (lsE (List.length t1) (fun k => rE (gE t1 k))) z)
                                                                            (sel (okEs (List.length t1) (fun k => rE (gE t1 k)))
                                                                             (sel (gT (lsE (List.length t1) (fun k => rE (gE t1 k))) z)
                                                                              (sel (t8.1 != t8.1)
                                                                               (some ((b false), []))
                                                                               (sel (t8.2.1 != t8.2.1)
                                                                                (some ((b false), []))
                                                                                (sel (t8.2.2 != t8.2.2)
                                                                                 (some ((b false), []))
                                                                                 (sel (okEs (List.length t1) (fun k => rE (gE t1 k)))
                                                                                  (sel (gT (lsE (List.length t1) (fun k => rE (gE t1 k))) t7)
                                                                                   (sel (okEs (List.length t1) (fun k => rE (gE t1 k)))
                                                                                    (sel (gT (lsE (List.length t1) (fun k => rE (gE t1 k))) t7)
                                                                                     (sel (t9.1 != t9.1)
                                                                                      (some ((b false), []))
                                                                                      (sel (t9.2.1 != t9.2.1)
                                                                                       (some ((b false), []))
                                                                                       (sel (t9.2.2 != t9.2.2)
                                                                                        (some ((b false), []))
                                                                                        (sel (okEs (List.length t3) (fun k => rE (gE t3 k)))
                                                                                         (sel (okEs (List.length t4) (fun k => rE (gE t4 k)))
                                                                                          (sel (gM (lsE (List.length t3) (fun k => rE (gE t3 k))) (lsE (List.length t4) (fun k => rE (gE t4 k))))
                                                                                           (sel (okEs (List.length t3) (fun k => rE (gE t3 k)))
                                                                                            (sel (okEs (List.length t4) (fun k => rE (gE t4 k)))
                                                                                             (sel (gM (lsE (List.length t3) (fun k => rE (gE t3 k))) (lsE (List.length t4) (fun k => rE (gE t4 k))))
                                                                                              (sel (t16.2 != t16.2)
                                                                                               (some ((b false), []))
                                                                                               (sel (okEs (List.length t16.1) (fun k => rE (gE t16.1 k)))
                                                                                                (sel (okEs (List.length t16.1) (fun k => rE (gE t16.1 k)))
                                                                                                 (sel (g16 (lsE (List.length t16.1) (fun k => rE (gE t16.1 k))) (lsE (List.length t16.1) (fun k => rE (gE t16.1 k))))
                                                                                                  (sel (!t17)
                                                                                                   (some ((b false), []))
                                                                                                   (sel (g19 z 4)
                                                                                                    (sel (okEs (List.length t3) (fun k => rE (gE t3 k)))
                                                                                                     (sel (gT (lsE (List.length t3) (fun k => rE (gE t3 k))) z)
                                                                                                      (sel (okEs (List.length t3) (fun k => rE (gE t3 k)))
                                                                                                       (sel (gT (lsE (List.length t3) (fun k => rE (gE t3 k))) z)
                                                                                                        (sel (t12.1 != t12.1)
                                                                                                         (some ((b false), []))
                                                                                                         (sel (t12.2.1 != t12.2.1)
                                                                                                          (some ((b false), []))
                                                                                                          (sel (t12.2.2 != t12.2.2)
                                                                                                           (some ((b false), []))
                                                                                                           (sel (okEs (List.length t3) (fun k => rE (gE t3 k)))
                                                                                                            (sel (gT (lsE (List.length t3) (fun k => rE (gE t3 k))) t7)
                                                                                                             (sel (okEs (List.length t3) (fun k => rE (gE t3 k)))
                                                                                                              (sel (gT (lsE (List.length t3) (fun k => rE (gE t3 k))) t7)
                                                                                                               (sel (t13.1 != t13.1)
                                                                                                                (some ((b false), []))
                                                                                                                (sel (t13.2.1 != t13.2.1)
                                                                                                                 (some ((b false), []))
                                                                                                                 (sel (t13.2.2 != t13.2.2)
                                                                                                                  (some ((b false), []))
                                                                                                                  (sel (g19 w.a 50)
                                                                                                                   (sel (g19 w.b 102)
                                                                                                                    (sel (t20.1 != t21.1)
                                                                                                                     (some ((b false), []))
                                                                                                                     (sel (t20.2 != t21.2)
                                                                                                                      (some ((b false), []))
                                                                                                                      (sel (t22.1 != t23.1)
                                                                                                                       (some ((b false), []))
                                                                                                                       (sel (t22.2 != t23.2)
                                                                                                                        (some ((b false), []))
                                                                                                                        (some ((b true), []))))))
                                                                                                                    none)
                                                                                                                   none))))
                                                                                                               none)
                                                                                                              none)
                                                                                                             none)
                                                                                                            none))))
                                                                                                        none)
                                                                                                       none)
                                                                                                      none)
                                                                                                     none)
                                                                                                    none))
                                                                                                  none)
                                                                                                 none)
                                                                                                none))
                                                                                              none)
                                                                                             none)
                                                                                            none)
                                                                                           none)
                                                                                          none)
                                                                                         none))))
                                                                                     none)
                                                                                    none)
                                                                                   none)
                                                                                  none))))
                                                                              none)
                                                                             none)
                                                                            none)
                                                                           none)
                                                                          none))
                                                                        none)
                                                                       none)
                                                                      none))
                                                                    none)
                                                                   none)
                                                                  none)
                                                                 none)
                                                                none)
                                                               none))))
                                                           none)
                                                          none)
                                                         none)
                                                        none))))
                                                    none)
                                                   none)
                                                  none)
                                                 none)
                                                none))
                                              none)
                                             none)
                                            none))
                                          none)
                                         none)
                                        none)
                                       none)
                                      none)
                                     none))))
                                 none)
                                none)
                               none)
                              none))))
                          none)
                         none)
                        none)
                       none)
                      none))
                    none)
                   none)
                  none))
                none)
               none)
              none)
             none)
            none)
           none)
          none)
         none)
        none)
       none)
      none)
     none)
    none)
   none)
  none)
 none) := by subst ht1; subst ht2; subst ht3; subst ht4; subst ht5; subst ht6; subst ht7; subst ht8; subst ht9; subst ht10; subst ht11; subst ht12; subst ht13; subst ht14; subst ht15; subst ht16; subst ht17; subst ht18; subst ht19; subst ht20; subst ht21; subst ht22; subst ht23; kernel_rfl
theorem m4 (c1 c2 c3 c4 c5 c6 c7 c8 c9 c10 c11 c12 c13 c14 c15 c16 c17 c18 c19 c20 c21 c22 c23 c24 c25 c26 c27 c28 c29 c30 c31 c32 c33 c34 c35 c36 c37 c38 c39 c40 c41 c42 c43 c44 c45 c46 c47 c48 c49 c50 c51 : Bool) (x : J2) (y : Q2) (z : Int) (w : D2)  : ((sel c1
 (sel c2
  (sel c3
   (sel c4
    (sel c5
     (sel c6
      (sel c3
       (sel c4
        (sel c5
         (sel c6
          (sel c3
           (sel c5
            (sel c7
             (sel c3
              (sel c5
               (sel c7
                (sel c8
                 (some ((b false), []))
                 (sel c9
                  (sel c9
                   (sel c10
                    (sel c11
                     (some ((b false), []))
                     (sel c12
                      (sel c3
                       (sel c13
                        (sel c3
                         (sel c13
                          (sel c14
                           (some ((b false), []))
                           (sel c15
                            (some ((b false), []))
                            (sel c16
                             (some ((b false), []))
                             (sel c3
                              (sel c17
                               (sel c3
                                (sel c17
                                 (sel c18
                                  (some ((b false), []))
                                  (sel c19
                                   (some ((b false), []))
                                   (sel c20
                                    (some ((b false), []))
                                    (sel c21
                                     (sel c5
                                      (sel c22
                                       (sel c21
                                        (sel c5
                                         (sel c22
                                          (sel c23
                                           (some ((b false), []))
                                           (sel c24
                                            (sel c24
                                             (sel c25
                                              (sel c26
                                               (some ((b false), []))
                                               (sel c12
                                                (sel c21
                                                 (sel c27
                                                  (sel c21
                                                   (sel c27
                                                    (sel c28
                                                     (some ((b false), []))
                                                     (sel c29
                                                      (some ((b false), []))
                                                      (sel c30
                                                       (some ((b false), []))
                                                       (sel c21
                                                        (sel c31
                                                         (sel c21
                                                          (sel c31
                                                           (sel c32
                                                            (some ((b false), []))
                                                            (sel c33
                                                             (some ((b false), []))
                                                             (sel c34
                                                              (some ((b false), []))
                                                              (sel c3
                                                               (sel c35
                                                                (sel c36
                                                                 (sel c3
                                                                  (sel c35
                                                                   (sel c36
                                                                    (sel c37
                                                                     (some ((b false), []))
                                                                     (sel c38
                                                                      (sel c38
                                                                       (sel c39
                                                                        (sel c40
                                                                         (some ((b false), []))
                                                                         (sel c12
                                                                          (sel c3
                                                                           (sel c13
                                                                            (sel c3
                                                                             (sel c13
                                                                              (sel c14
                                                                               (some ((b false), []))
                                                                               (sel c15
                                                                                (some ((b false), []))
                                                                                (sel c16
                                                                                 (some ((b false), []))
                                                                                 (sel c3
                                                                                  (sel c17
                                                                                   (sel c3
                                                                                    (sel c17
                                                                                     (sel c18
                                                                                      (some ((b false), []))
                                                                                      (sel c19
                                                                                       (some ((b false), []))
                                                                                       (sel c20
                                                                                        (some ((b false), []))
                                                                                        (sel c21
                                                                                         (sel c35
                                                                                          (sel c41
                                                                                           (sel c21
                                                                                            (sel c35
                                                                                             (sel c41
                                                                                              (sel c42
                                                                                               (some ((b false), []))
                                                                                               (sel c43
                                                                                                (sel c43
                                                                                                 (sel c44
                                                                                                  (sel c45
                                                                                                   (some ((b false), []))
                                                                                                   (sel c12
                                                                                                    (sel c21
                                                                                                     (sel c27
                                                                                                      (sel c21
                                                                                                       (sel c27
                                                                                                        (sel c28
                                                                                                         (some ((b false), []))
                                                                                                         (sel c29
                                                                                                          (some ((b false), []))
                                                                                                          (sel c30
                                                                                                           (some ((b false), []))
                                                                                                           (sel c21
                                                                                                            (sel c31
                                                                                                             (sel c21
                                                                                                              (sel c31
                                                                                                               (sel c32
                                                                                                                (some ((b false), []))
                                                                                                                (sel c33
                                                                                                                 (some ((b false), []))
                                                                                                                 (sel c34
                                                                                                                  (some ((b false), []))
                                                                                                                  (sel c46
                                                                                                                   (sel c47
                                                                                                                    (sel c48
                                                                                                                     (some ((b false), []))
                                                                                                                     (sel c49
                                                                                                                      (some ((b false), []))
                                                                                                                      (sel c50
                                                                                                                       (some ((b false), []))
                                                                                                                       (sel c51
                                                                                                                        (some ((b false), []))
                                                                                                                        (some ((b true), []))))))
                                                                                                                    none)
                                                                                                                   none))))
                                                                                                               none)
                                                                                                              none)
                                                                                                             none)
                                                                                                            none))))
                                                                                                        none)
                                                                                                       none)
                                                                                                      none)
                                                                                                     none)
                                                                                                    none))
                                                                                                  none)
                                                                                                 none)
                                                                                                none))
                                                                                              none)
                                                                                             none)
                                                                                            none)
                                                                                           none)
                                                                                          none)
                                                                                         none))))
                                                                                     none)
                                                                                    none)
                                                                                   none)
                                                                                  none))))
                                                                              none)
                                                                             none)
                                                                            none)
                                                                           none)
                                                                          none))
                                                                        none)
                                                                       none)
                                                                      none))
                                                                    none)
                                                                   none)
                                                                  none)
                                                                 none)
                                                                none)
                                                               none))))
                                                           none)
                                                          none)
                                                         none)
                                                        none))))
                                                    none)
                                                   none)
                                                  none)
                                                 none)
                                                none))
                                              none)
                                             none)
                                            none))
                                          none)
                                         none)
                                        none)
                                       none)
                                      none)
                                     none))))
                                 none)
                                none)
                               none)
                              none))))
                          none)
                         none)
                        none)
                       none)
                      none))
                    none)
                   none)
                  none))
                none)
               none)
              none)
             none)
            none)
           none)
          none)
         none)
        none)
       none)
      none)
     none)
    none)
   none)
  none)
 none) : Option (AVal × List ABlk)) = (sel (c1 && (c2 && (c3 && (c4 && (c5 && (c6 && (c7 && (c8 || (c9 && (c10 && (c11 || (c12 && (c13 && (c14 || (c15 || (c16 || (c17 && (c18 || (c19 || (c20 || (c21 && (c22 && (c23 || (c24 && (c25 && (c26 || (c27 && (c28 || (c29 || (c30 || (c31 && (c32 || (c33 || (c34 || (c35 && (c36 && (c37 || (c38 && (c39 && (c40 || (c41 && (c42 || (c43 && (c44 && (c45 || (c46 && c47)))))))))))))))))))))))))))))))))))))))))))))) (some ((b ((!c8) && ((!c11) && ((!c14) && ((!c15) && ((!c16) && ((!c18) && ((!c19) && ((!c20) && ((!c23) && ((!c26) && ((!c28) && ((!c29) && ((!c30) && ((!c32) && ((!c33) && ((!c34) && ((!c37) && ((!c40) && ((!c42) && ((!c45) && ((!c48) && ((!c49) && ((!c50) && (!c51))))))))))))))))))))))))), [])) none) := by
 cases c1
 ·
  rfl
 ·
  cases c2
  ·
   rfl
  ·
   cases c3
   ·
    rfl
   ·
    cases c4
    ·
     rfl
    ·
     cases c5
     ·
      rfl
     ·
      cases c6
      ·
       rfl
      ·
       cases c7
       ·
        rfl
       ·
        cases c8
        ·
         cases c9
         ·
          rfl
         ·
          cases c10
          ·
           rfl
          ·
           cases c11
           ·
            cases c12
            ·
             rfl
            ·
             cases c13
             ·
              rfl
             ·
              cases c14
              ·
               cases c15
               ·
                cases c16
                ·
                 cases c17
                 ·
                  rfl
                 ·
                  cases c18
                  ·
                   cases c19
                   ·
                    cases c20
                    ·
                     cases c21
                     ·
                      rfl
                     ·
                      cases c22
                      ·
                       rfl
                      ·
                       cases c23
                       ·
                        cases c24
                        ·
                         rfl
                        ·
                         cases c25
                         ·
                          rfl
                         ·
                          cases c26
                          ·
                           cases c27
                           ·
                            rfl
                           ·
                            cases c28
                            ·
                             cases c29
                             ·
                              cases c30
                              ·
                               cases c31
                               ·
                                rfl
                               ·
                                cases c32
                                ·
                                 cases c33
                                 ·
                                  cases c34
                                  ·
                                   cases c35
                                   ·
                                    rfl
                                   ·
                                    cases c36
                                    ·
                                     rfl
                                    ·
                                     cases c37
                                     ·
                                      cases c38
                                      ·
                                       rfl
                                      ·
                                       cases c39
                                       ·
                                        rfl
                                       ·
                                        cases c40
                                        ·
                                         cases c41
                                         ·
                                          rfl
                                         ·
                                          cases c42
                                          ·
                                           cases c43
                                           ·
                                            rfl
                                           ·
                                            cases c44
                                            ·
                                             rfl
                                            ·
                                             cases c45
                                             ·
                                              cases c46
                                              ·
                                               rfl
                                              ·
                                               cases c47
                                               ·
                                                rfl
                                               ·
                                                cases c48
                                                ·
                                                 cases c49
                                                 ·
                                                  cases c50
                                                  ·
                                                   cases c51
                                                   ·
                                                    rfl
                                                   ·
                                                    rfl
                                                  ·
                                                   rfl
                                                 ·
                                                  rfl
                                                ·
                                                 rfl
                                             ·
                                              rfl
                                          ·
                                           rfl
                                        ·
                                         rfl
                                     ·
                                      rfl
                                  ·
                                   rfl
                                 ·
                                  rfl
                                ·
                                 rfl
                              ·
                               rfl
                             ·
                              rfl
                            ·
                             rfl
                          ·
                           rfl
                       ·
                        rfl
                    ·
                     rfl
                   ·
                    rfl
                  ·
                   rfl
                ·
                 rfl
               ·
                rfl
              ·
               rfl
           ·
            rfl
        ·
         rfl
theorem k4 (x : J2) (y : Q2) (z : Int) (w : D2) (t1 : List Ent) (ht1 : t1 = (p10 (⟨(List.length x.a), (fun k => rJ (gJ x.a k))⟩ : Ag10))) (t2 : List Ent) (ht2 : t2 = (p10 (⟨(List.length x.b), (fun k => rJ (gJ x.b k))⟩ : Ag10))) (t3 : List Ent) (ht3 : t3 = (p11 (lsE (List.length t1) (fun k => rE (gE t1 k))) y.a)) (t4 : List Ent) (ht4 : t4 = (p11 (lsE (List.length t2) (fun k => rE (gE t2 k))) y.b)) (t5 : List Ent × Int) (ht5 : t5 = (pM (lsE (List.length t1) (fun k => rE (gE t1 k))) (lsE (List.length t2) (fun k => rE (gE t2 k))))) (t6 : Bool) (ht6 : t6 = (p16 (lsE (List.length t5.1) (fun k => rE (gE t5.1 k))) (lsE (List.length t5.1) (fun k => rE (gE t5.1 k))))) (t7 : Int) (ht7 : t7 = (p19 z 4)) (t8 : Int × Int × Int) (ht8 : t8 = (pT (lsE (List.length t1) (fun k => rE (gE t1 k))) z)) (t9 : Int × Int × Int) (ht9 : t9 = (pT (lsE (List.length t1) (fun k => rE (gE t1 k))) t7)) (t10 : List Ent × Int) (ht10 : t10 = (pM (lsE (List.length t3) (fun k => rE (gE t3 k))) (lsE (List.length t2) (fun k => rE (gE t2 k))))) (t11 : Bool) (ht11 : t11 = (p16 (lsE (List.length t10.1) (fun k => rE (gE t10.1 k))) (lsE (List.length t10.1) (fun k => rE (gE t10.1 k))))) (t12 : Int × Int × Int) (ht12 : t12 = (pT (lsE (List.length t3) (fun k => rE (gE t3 k))) z)) (t13 : Int × Int × Int) (ht13 : t13 = (pT (lsE (List.length t3) (fun k => rE (gE t3 k))) t7)) (t14 : List Ent × Int) (ht14 : t14 = (pM (lsE (List.length t1) (fun k => rE (gE t1 k))) (lsE (List.length t4) (fun k => rE (gE t4 k))))) (t15 : Bool) (ht15 : t15 = (p16 (lsE (List.length t14.1) (fun k => rE (gE t14.1 k))) (lsE (List.length t14.1) (fun k => rE (gE t14.1 k))))) (t16 : List Ent × Int) (ht16 : t16 = (pM (lsE (List.length t3) (fun k => rE (gE t3 k))) (lsE (List.length t4) (fun k => rE (gE t4 k))))) (t17 : Bool) (ht17 : t17 = (p16 (lsE (List.length t16.1) (fun k => rE (gE t16.1 k))) (lsE (List.length t16.1) (fun k => rE (gE t16.1 k))))) (t18 : Int) (ht18 : t18 = (p19 w.a 50)) (t19 : Int) (ht19 : t19 = (p19 w.b 102)) (t20 : Int × Int) (ht20 : t20 = (p22 w.a w.b)) (t21 : Int × Int) (ht21 : t21 = (p23 w.a w.b)) (t22 : Int × Int) (ht22 : t22 = (p22 t18 t19)) (t23 : Int × Int) (ht23 : t23 = (p23 t18 t19)) : (DT.guard (g4 x y z w) (.ret (b (p4 x y z w), [])) : DT (AVal × List ABlk)).run = (sel ((g10 (⟨(List.length x.a), (fun k => rJ (gJ x.a k))⟩ : Ag10)) && ((g10 (⟨(List.length x.b), (fun k => rJ (gJ x.b k))⟩ : Ag10)) && ((okEs (List.length t1) (fun k => rE (gE t1 k))) && ((g11 (lsE (List.length t1) (fun k => rE (gE t1 k))) y.a) && ((okEs (List.length t2) (fun k => rE (gE t2 k))) && ((g11 (lsE (List.length t2) (fun k => rE (gE t2 k))) y.b) && ((gM (lsE (List.length t1) (fun k => rE (gE t1 k))) (lsE (List.length t2) (fun k => rE (gE t2 k)))) && ((t5.2 != t5.2) || ((okEs (List.length t5.1) (fun k => rE (gE t5.1 k))) && ((g16 (lsE (List.length t5.1) (fun k => rE (gE t5.1 k))) (lsE (List.length t5.1) (fun k => rE (gE t5.1 k)))) && ((!t6) || ((g19 z 4) && ((gT (lsE (List.length t1) (fun k => rE (gE t1 k))) z) && ((t8.1 != t8.1) || ((t8.2.1 != t8.2.1) || ((t8.2.2 != t8.2.2) || ((gT (lsE (List.length t1) (fun k => rE (gE t1 k))) t7) && ((t9.1 != t9.1) || ((t9.2.1 != t9.2.1) || ((t9.2.2 != t9.2.2) || ((okEs (List.length t3) (fun k => rE (gE t3 k))) && ((gM (lsE (List.length t3) (fun k => rE (gE t3 k))) (lsE (List.length t2) (fun k => rE (gE t2 k)))) && ((t10.2 != t10.2) || ((okEs (List.length t10.1) (fun k => rE (gE t10.1 k))) && ((g16 (lsE (List.length t10.1) (fun k => rE (gE t10.1 k))) (lsE (List.length t10.1) (fun k => rE (gE t10.1 k)))) && ((!t11) || ((gT (lsE (List.length t3) (fun k => rE (gE t3 k))) z) && ((t12.1 != t12.1) || ((t12.2.1 != t12.2.1) || ((t12.2.2 != t12.2.2) || ((gT (lsE (List.length t3) (fun k => rE (gE t3 k))) t7) && ((t13.1 != t13.1) || ((t13.2.1 != t13.2.1) || ((t13.2.2 != t13.2.2) || ((okEs (List.length t4) (fun k => rE (gE t4 k))) && ((gM (lsE (List.length t1) (fun k => rE (gE t1 k))) (lsE (List.length t4) (fun k => rE (gE t4 k)))) && ((t14.2 != t14.2) || ((okEs (List.length t14.1) (fun k => rE (gE t14.1 k))) && ((g16 (lsE (List.length t14.1) (fun k => rE (gE t14.1 k))) (lsE (List.length t14.1) (fun k => rE (gE t14.1 k)))) && ((!t15) || ((gM (lsE (List.length t3) (fun k => rE (gE t3 k))) (lsE (List.length t4) (fun k => rE (gE t4 k)))) && ((t16.2 != t16.2) || ((okEs (List.length t16.1) (fun k => rE (gE t16.1 k))) && ((g16 (lsE (List.length t16.1) (fun k => rE (gE t16.1 k))) (lsE (List.length t16.1) (fun k => rE (gE t16.1 k)))) && ((!t17) || ((g19 w.a 50) && (g19 w.b 102))))))))))))))))))))))))))))))))))))))))))))))) (some ((b ((!(t5.2 != t5.2)) && ((!(!t6)) && ((!(t8.1 != t8.1)) && ((!(t8.2.1 != t8.2.1)) && ((!(t8.2.2 != t8.2.2)) && ((!(t9.1 != t9.1)) && ((!(t9.2.1 != t9.2.1)) && ((!(t9.2.2 != t9.2.2)) && ((!(t10.2 != t10.2)) && ((!(!t11)) && ((!(t12.1 != t12.1)) && ((!(t12.2.1 != t12.2.1)) && ((!(t12.2.2 != t12.2.2)) && ((!(t13.1 != t13.1)) && ((!(t13.2.1 != t13.2.1)) && ((!(t13.2.2 != t13.2.2)) && ((!(t14.2 != t14.2)) && ((!(!t15)) && ((!(t16.2 != t16.2)) && ((!(!t17)) && ((!(t20.1 != t21.1)) && ((!(t20.2 != t21.2)) && ((!(t22.1 != t23.1)) && (!(t22.2 != t23.2)))))))))))))))))))))))))), [])) none) := by subst ht1; subst ht2; subst ht3; subst ht4; subst ht5; subst ht6; subst ht7; subst ht8; subst ht9; subst ht10; subst ht11; subst ht12; subst ht13; subst ht14; subst ht15; subst ht16; subst ht17; subst ht18; subst ht19; subst ht20; subst ht21; subst ht22; subst ht23; rw [run_grd]; kernel_rfl
theorem ok4 : FnOk Try.prog G 4 S4 := sum4_ok (b4 (E := En tb4) rfl (tdeps tbo4)) fun x y z w r h => runS_below sd4 _ (((r4 x y z w _ rfl _ rfl _ rfl _ rfl _ rfl _ rfl _ rfl _ rfl _ rfl _ rfl _ rfl _ rfl _ rfl _ rfl _ rfl _ rfl _ rfl _ rfl _ rfl _ rfl _ rfl _ rfl _ rfl).trans (m4 _ _ _ _ _ _ _ _ _ _ _ _ _ _ _ _ _ _ _ _ _ _ _ _ _ _ _ _ _ _ _ _ _ _ _ _ _ _ _ _ _ _ _ _ _ _ _ _ _ _ _ x y z w )).trans ((k4 x y z w _ rfl _ rfl _ rfl _ rfl _ rfl _ rfl _ rfl _ rfl _ rfl _ rfl _ rfl _ rfl _ rfl _ rfl _ rfl _ rfl _ rfl _ rfl _ rfl _ rfl _ rfl _ rfl _ rfl).symm.trans h))
end Go.Ev.W.X
