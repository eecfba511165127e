/- Printed: functions of the wear chapter, as plain ones (own work). -/
import Derived.Test.YtblhkhjdkjjheaaEvX5
set_option linter.unusedVariables false
set_option linter.unusedSimpArgs false
set_option linter.unnecessarySimpa false
set_option linter.unusedSectionVars false
namespace Go.Ev.W.X
open Go Go.Ev Go.Ev.Ab Go.Proofs
set_option maxRecDepth 100000
noncomputable def tb17u : List (Nat × Sum) := [(12, SC12), (31, S31), (29, S29t)]
theorem tbo17u : TblOk Try.prog G tb17u := ⟨okC12, ok31, ok29t, trivial⟩
structure Pg17_0 where
structure Sg17_0 where
  ph : Nat
  ns0 : Nat
  gs0 : Nat → List AVal
  ns1 : Nat
  gs1 : Nat → List AVal
  ns8 : Nat
  eh0 : List (List AVal)
noncomputable def h17_0_0 (p : Pg17_0) (s : Sg17_0) : St := ⟨[(.tree 4 s.ns0 s.gs0), (.tree 4 s.ns1 s.gs1), .unk, .unk, .unk, .unk, .unk, .unk, (.v (.slice none 0 0)), .unk, .unk, .unk, .unk, .unk, .unk, .unk, .unk, .unk, .unk, .unk, .unk, .unk, .unk, .unk, .unk, .unk, .unk, .unk, .unk, .unk, .unk, .unk, .unk, .unk, .unk, .unk, .unk, .unk, .unk, .unk, .unk, .unk, .unk, .unk, .unk, .unk, .unk, .unk, .unk, .unk, .unk, .unk, .unk, .unk, .unk, .unk, .unk, .unk, .unk, .unk, .unk, .unk, .unk, .unk, .unk, .unk, .unk, .unk, .unk, .unk, .unk, .unk, .unk, .unk, .unk, .unk, .unk, .unk, .unk, .unk, .unk, .unk, .unk, .unk, .unk, .unk, .unk, .unk, .unk, .unk, .unk, .unk, .unk, .unk, .unk, .unk, .unk, .unk, .unk, .unk, .unk, .unk, .unk, .unk, .unk, .unk, .unk, .unk, .unk, .unk, .unk, .unk], []⟩
noncomputable def h17_0_1 (p : Pg17_0) (s : Sg17_0) : St := ⟨[(.tree 4 s.ns0 s.gs0), (.tree 4 s.ns1 s.gs1), .unk, .unk, .unk, .unk, .unk, .unk, (.sl 0 0 s.ns8 0), .unk, .unk, .unk, .unk, .unk, .unk, .unk, .unk, .unk, .unk, .unk, .unk, .unk, .unk, .unk, .unk, .unk, .unk, .unk, .unk, .unk, .unk, .unk, .unk, .unk, .unk, .unk, .unk, .unk, .unk, .unk, .unk, .unk, .unk, .unk, .unk, .unk, .unk, .unk, .unk, .unk, .unk, .unk, .unk, .unk, .unk, .unk, .unk, .unk, .unk, .unk, .unk, .unk, .unk, .unk, .unk, .unk, .unk, .unk, .unk, .unk, .unk, .unk, .unk, .unk, .unk, .unk, .unk, .unk, .unk, .unk, .unk, .unk, .unk, .unk, .unk, .unk, .unk, .unk, .unk, .unk, .unk, .unk, .unk, .unk, .unk, .unk, .unk, .unk, .unk, .unk, .unk, .unk, .unk, .unk, .unk, .unk, .unk, .unk, .unk, .unk, .unk, .unk], [⟨27, 4, s.eh0, true, false, 0⟩]⟩
noncomputable def en17_0 (p : Pg17_0) (s : Sg17_0) : St := (sel (Nat.beq s.ph 1) (h17_0_1 p s) (h17_0_0 p s))
noncomputable def x17_0_1 (p : Pg17_0) (s : Sg17_0) : XExit × St := (.exit 0, ⟨[(.tree 4 s.ns0 s.gs0), (.tree 4 s.ns1 s.gs1), .unk, .unk, .unk, .unk, .unk, .unk, (.v (.slice none 0 0)), .unk, .unk, .unk, .unk, .unk, .unk, .unk, .unk, .unk, .unk, .unk, (.tree 4 s.ns0 s.gs0), (i (↑s.ns0 : Int)), (b (decide ((↑s.ns0 : Int) > 0))), (b false), (.tree 4 s.ns1 s.gs1), (i (↑s.ns1 : Int)), (b (decide ((↑s.ns1 : Int) > 0))), (b (decide ((↑s.ns1 : Int) > 0))), .unk, .unk, .unk, .unk, .unk, .unk, .unk, .unk, .unk, .unk, .unk, .unk, .unk, .unk, .unk, .unk, .unk, .unk, .unk, .unk, .unk, .unk, .unk, .unk, .unk, .unk, .unk, .unk, .unk, .unk, .unk, .unk, .unk, .unk, .unk, .unk, .unk, .unk, .unk, .unk, .unk, .unk, .unk, .unk, .unk, .unk, .unk, .unk, .unk, .unk, .unk, .unk, .unk, .unk, .unk, .unk, .unk, .unk, .unk, .unk, .unk, .unk, .unk, .unk, .unk, .unk, .unk, .unk, .unk, .unk, .unk, .unk, .unk, .unk, .unk, .unk, .unk, .unk, .unk, .unk, .unk, .unk, .unk, .unk], []⟩)
theorem nx17_0_1 (p : Pg17_0) (s : Sg17_0) : (x17_0_1 p s).1 ≠ .normal := fun h => by
  have h : XExit.exit 0 = XExit.normal := h
  cases h
noncomputable def x17_0_2 (p : Pg17_0) (s : Sg17_0) : XExit × St := (.exit 0, ⟨[(.tree 4 s.ns0 s.gs0), (.tree 4 s.ns1 s.gs1), .unk, .unk, .unk, .unk, .unk, .unk, (.sl 0 0 s.ns8 0), .unk, .unk, .unk, .unk, .unk, .unk, .unk, .unk, .unk, .unk, .unk, (.tree 4 s.ns0 s.gs0), (i (↑s.ns0 : Int)), (b (decide ((↑s.ns0 : Int) > 0))), (b false), (.tree 4 s.ns1 s.gs1), (i (↑s.ns1 : Int)), (b (decide ((↑s.ns1 : Int) > 0))), (b (decide ((↑s.ns1 : Int) > 0))), .unk, .unk, .unk, .unk, .unk, .unk, .unk, .unk, .unk, .unk, .unk, .unk, .unk, .unk, .unk, .unk, .unk, .unk, .unk, .unk, .unk, .unk, .unk, .unk, .unk, .unk, .unk, .unk, .unk, .unk, .unk, .unk, .unk, .unk, .unk, .unk, .unk, .unk, .unk, .unk, .unk, .unk, .unk, .unk, .unk, .unk, .unk, .unk, .unk, .unk, .unk, .unk, .unk, .unk, .unk, .unk, .unk, .unk, .unk, .unk, .unk, .unk, .unk, .unk, .unk, .unk, .unk, .unk, .unk, .unk, .unk, .unk, .unk, .unk, .unk, .unk, .unk, .unk, .unk, .unk, .unk, .unk, .unk, .unk], [⟨27, 4, s.eh0, true, false, 0⟩]⟩)
theorem nx17_0_2 (p : Pg17_0) (s : Sg17_0) : (x17_0_2 p s).1 ≠ .normal := fun h => by
  have h : XExit.exit 0 = XExit.normal := h
  cases h
noncomputable def xs17_0 : List (Pg17_0 → Sg17_0 → XExit × St) := [x17_0_1, x17_0_2]
@[reducible] def l17_0 : PC := (.seq (.seq (.ops [(o 20 (.mv (.t 0))), (o 21 (.len (.t 20))), (o 22 (.bin .gtr (.t 21) (ci 0))), (o 23 (.mv (.t 22))), ⟨(.some 24), (.some (23, false)), [], (.mv (.t 1))⟩, ⟨(.some 25), (.some (23, false)), [], (.len (.t 24))⟩, ⟨(.some 26), (.some (23, false)), [], (.bin .gtr (.t 25) (ci 0))⟩, (o 27 (.pick (.t 23) (cb true) (.t 26)))]) (.cond (.t 27) .skip (.exit 0))) (.block 1 (.seq (.block 2 (.seq (.draw [29, 30, 31, 32, 33, 34, 35, 36, 37, 38, 39, 40, 41, 42, 43, 44, 45, 46, 28] [] [(o 29 (.mv (.t 1))), (o 30 (.len (.t 29))), (o 31 (.bin .eql (.t 30) (ci 0))), (o 32 (.mv (.t 31))), ⟨(.some 33), (.some (32, false)), [], (.mv (.t 0))⟩, ⟨(.some 34), (.some (32, false)), [], (.len (.t 33))⟩, ⟨(.some 35), (.some (32, false)), [], (.bin .gtr (.t 34) (ci 0))⟩, ⟨(.some 36), (.some (32, false)), [], (.mv (.t 35))⟩, ⟨(.some 37), (.some (36, true)), [], (.mv (.t 0))⟩, ⟨(.some 38), (.some (36, true)), [], (.idxS 4 (.t 37) (ci 0))⟩, ⟨(.some 39), (.some (36, true)), [], (.load (ki 4) 4 true (.t 38))⟩, ⟨(.some 40), (.some (36, true)), [], (.mv (.t 1))⟩, ⟨(.some 41), (.some (36, true)), [], (.idxS 4 (.t 40) (ci 0))⟩, ⟨(.some 42), (.some (36, true)), [], (.load (ki 4) 4 true (.t 41))⟩, ⟨(.some 43), (.some (36, true)), [], (.call 31 [(.t 39), (.t 42)])⟩, ⟨(.some 44), (.some (36, true)), [], (.bin .lss (.t 43) (ci 0))⟩, ⟨(.some 45), (.some (32, false)), [], (.pick (.t 36) (.t 44) (cb false))⟩, (o 46 (.pick (.t 32) (cb true) (.t 45))), (o 28 (.mv (.t 46)))] []) (.cond (.t 28) (.seq (.draw [47, 48, 49, 50, 51, 52, 53, 54, 8, 0] [] [(o 47 (.mv (.t 8))), (o 48 (.mv (.t 0))), (o 49 (.idxS 4 (.t 48) (ci 0))), (o 50 (.load (ki 4) 4 true (.t 49))), (o 51 (.bslice 27 4 1 (rep 4 (vi 0)) [(0, (4, (.t 50)))])), (o 52 (.append 27 4 32 (.t 47) (.t 51))), (o 53 (.mv (.t 0))), (o 54 (.slice 4 (.t 53) (.some (ci 1)) none)), (o 8 (.mv (.t 52))), (o 0 (.mv (.t 54)))] [((.mv (.t 8)), (.bslice 27 4 1 (rep 4 (vi 0)) [(0, (4, (.t 50)))])), ((.mv (.t 0)), (.bslice 27 4 1 (rep 4 (vi 0)) [(0, (4, (.t 50)))])), ((.mv (.t 0)), (.append 27 4 32 (.t 47) (.t 51))), ((.slice 4 (.t 53) (.some (ci 1)) none), (.bslice 27 4 1 (rep 4 (vi 0)) [(0, (4, (.t 50)))])), ((.slice 4 (.t 53) (.some (ci 1)) none), (.append 27 4 32 (.t 47) (.t 51)))]) (.exit 1)) (.seq (.draw [56, 57, 58, 59, 60, 61, 62, 63, 64, 65, 66, 67, 68, 55] [] [(o 56 (.mv (.t 0))), (o 57 (.len (.t 56))), (o 58 (.bin .eql (.t 57) (ci 0))), (o 59 (.mv (.t 58))), ⟨(.some 60), (.some (59, false)), [], (.mv (.t 0))⟩, ⟨(.some 61), (.some (59, false)), [], (.idxS 4 (.t 60) (ci 0))⟩, ⟨(.some 62), (.some (59, false)), [], (.load (ki 4) 4 true (.t 61))⟩, ⟨(.some 63), (.some (59, false)), [], (.mv (.t 1))⟩, ⟨(.some 64), (.some (59, false)), [], (.idxS 4 (.t 63) (ci 0))⟩, ⟨(.some 65), (.some (59, false)), [], (.load (ki 4) 4 true (.t 64))⟩, ⟨(.some 66), (.some (59, false)), [], (.call 31 [(.t 62), (.t 65)])⟩, ⟨(.some 67), (.some (59, false)), [], (.bin .gtr (.t 66) (ci 0))⟩, (o 68 (.pick (.t 59) (cb true) (.t 67))), (o 55 (.mv (.t 68)))] []) (.cond (.t 55) (.seq (.draw [69, 70, 71, 72, 73, 74, 75, 76, 8, 1] [] [(o 69 (.mv (.t 8))), (o 70 (.mv (.t 1))), (o 71 (.idxS 4 (.t 70) (ci 0))), (o 72 (.load (ki 4) 4 true (.t 71))), (o 73 (.bslice 27 4 1 (rep 4 (vi 0)) [(0, (4, (.t 72)))])), (o 74 (.append 27 4 32 (.t 69) (.t 73))), (o 75 (.mv (.t 1))), (o 76 (.slice 4 (.t 75) (.some (ci 1)) none)), (o 8 (.mv (.t 74))), (o 1 (.mv (.t 76)))] [((.mv (.t 8)), (.bslice 27 4 1 (rep 4 (vi 0)) [(0, (4, (.t 72)))])), ((.mv (.t 1)), (.bslice 27 4 1 (rep 4 (vi 0)) [(0, (4, (.t 72)))])), ((.mv (.t 1)), (.append 27 4 32 (.t 69) (.t 73))), ((.slice 4 (.t 75) (.some (ci 1)) none), (.bslice 27 4 1 (rep 4 (vi 0)) [(0, (4, (.t 72)))])), ((.slice 4 (.t 75) (.some (ci 1)) none), (.append 27 4 32 (.t 69) (.t 73)))]) (.exit 1)) .skip))))) (.seq (.ops [(o 77 (.mv (.t 0))), (o 78 (.idxS 4 (.t 77) (ci 0))), (o 79 (.load (ki 4) 4 true (.t 78))), (o 9 (.alloc (rep 4 (vi 0)))), (s (.store 4 (.t 9) (.t 79)))]) (.seq (.draw [80, 81, 82, 83, 84, 85, 86, 87, 88, 89, 90, 91, 92, 93, 94, 95] [] [(o 80 (.fld 2 (.t 9))), (o 81 (.load (ki 1) 1 false (.t 80))), (o 82 (.mv (.t 1))), (o 83 (.idxS 4 (.t 82) (ci 0))), (o 84 (.fld 2 (.t 83))), (o 85 (.load (ki 1) 1 false (.t 84))), (o 86 (.gen ⟨none, (.call ⟨(.builtin .max), #[(.tmp 81), (.tmp 85)], #[3, 3]⟩), 3, "", #[], none⟩ [81, 85])), (o 87 (.fld 3 (.t 9))), (o 88 (.load (ki 1) 1 false (.t 87))), (o 89 (.mv (.t 1))), (o 90 (.idxS 4 (.t 89) (ci 0))), (o 91 (.fld 3 (.t 90))), (o 92 (.load (ki 1) 1 false (.t 91))), (o 93 (.gen ⟨none, (.call ⟨(.builtin .min), #[(.tmp 88), (.tmp 92)], #[3, 3]⟩), 3, "", #[], none⟩ [88, 92])), (o 94 (.fld 2 (.t 9))), (s (.store 1 (.t 94) (.t 86))), (o 95 (.fld 3 (.t 9))), (s (.store 1 (.t 95) (.t 93)))] [((.mv (.t 1)), (.store 1 (.t 94) (.t 86))), ((.idxS 4 (.t 89) (ci 0)), (.store 1 (.t 94) (.t 86))), ((.fld 3 (.t 90)), (.store 1 (.t 94) (.t 86))), ((.load (ki 1) 1 false (.t 91)), (.store 1 (.t 94) (.t 86))), ((.gen ⟨none, (.call ⟨(.builtin .min), #[(.tmp 88), (.tmp 92)], #[3, 3]⟩), 3, "", #[], none⟩ [88, 92]), (.store 1 (.t 94) (.t 86)))]) (.draw [96, 97, 98, 99, 100, 101, 102, 103, 8, 0, 1] [] [(o 96 (.mv (.t 8))), (o 97 (.load (ki 4) 4 true (.t 9))), (o 98 (.bslice 27 4 1 (rep 4 (vi 0)) [(0, (4, (.t 97)))])), (o 99 (.append 27 4 32 (.t 96) (.t 98))), (o 100 (.mv (.t 0))), (o 101 (.slice 4 (.t 100) (.some (ci 1)) none)), (o 102 (.mv (.t 1))), (o 103 (.slice 4 (.t 102) (.some (ci 1)) none)), (o 8 (.mv (.t 99))), (o 0 (.mv (.t 101))), (o 1 (.mv (.t 103)))] [((.mv (.t 8)), (.bslice 27 4 1 (rep 4 (vi 0)) [(0, (4, (.t 97)))])), ((.mv (.t 0)), (.bslice 27 4 1 (rep 4 (vi 0)) [(0, (4, (.t 97)))])), ((.mv (.t 0)), (.append 27 4 32 (.t 96) (.t 98))), ((.slice 4 (.t 100) (.some (ci 1)) none), (.bslice 27 4 1 (rep 4 (vi 0)) [(0, (4, (.t 97)))])), ((.slice 4 (.t 100) (.some (ci 1)) none), (.append 27 4 32 (.t 96) (.t 98))), ((.mv (.t 1)), (.bslice 27 4 1 (rep 4 (vi 0)) [(0, (4, (.t 97)))])), ((.mv (.t 1)), (.append 27 4 32 (.t 96) (.t 98))), ((.slice 4 (.t 102) (.some (ci 1)) none), (.bslice 27 4 1 (rep 4 (vi 0)) [(0, (4, (.t 97)))])), ((.slice 4 (.t 102) (.some (ci 1)) none), (.append 27 4 32 (.t 96) (.t 98)))]))))))
noncomputable def fo17_0 (p : Pg17_0) (s : Sg17_0) : Stp Sg17_0 → Option (XExit × St) := onStp (fun s' => some (.normal, en17_0 p s')) (fun t => xAt xs17_0 p s t 1) none
theorem rd17_0_0 (p : Pg17_0) (s : Sg17_0) (t1 : Int) (ht1 : t1 = (p31 (⟨(toI (hdA (s.gs0 0))), (toI (hdA (tlA (s.gs0 0)))), (toI (hdA (tlA (tlA (s.gs0 0))))), (toI (hdA (tlA (tlA (tlA (s.gs0 0))))))⟩ : Ent) (⟨(toI (hdA (s.gs1 0))), (toI (hdA (tlA (s.gs1 0)))), (toI (hdA (tlA (tlA (s.gs1 0))))), (toI (hdA (tlA (tlA (tlA (s.gs1 0))))))⟩ : Ent))) : (roundE (En tb17u) 0 [0, 1, 8] (.pc l17_0) (h17_0_0 p s)).run = (sel (decide ((↑s.ns0 : Int) > 0))
 (sel ((↑s.ns1 : Int) == 0)
  (sel (inB 0 s.ns0)
  (sel ((Nat.ble 4 (len (s.gs0 0))) && (okCKs [(CK.int .i64), (CK.int .i64), (CK.int .i64), (CK.int .i64)] (s.gs0 0)))
  (sel (inB 1 (s.ns0 + 1))
  (some (.normal, h17_0_1 p ⟨1, (s.ns0 - 1), (fun k => s.gs0 (1 + k)), s.ns1, s.gs1, 1, [[(i (toI (hdA (s.gs0 0)))), (i (toI (hdA (tlA (s.gs0 0))))), (i (toI (hdA (tlA (tlA (s.gs0 0)))))), (i (toI (hdA (tlA (tlA (tlA (s.gs0 0)))))))]]⟩))
  none)
  none)
  none)
  (sel (decide ((↑s.ns0 : Int) > 0))
  (sel (inB 0 s.ns0)
  (sel ((Nat.ble 4 (len (s.gs0 0))) && (okCKs [(CK.int .i64), (CK.int .i64), (CK.int .i64), (CK.int .i64)] (s.gs0 0)))
  (sel (inB 0 s.ns1)
  (sel ((Nat.ble 4 (len (s.gs1 0))) && (okCKs [(CK.int .i64), (CK.int .i64), (CK.int .i64), (CK.int .i64)] (s.gs1 0)))
  (sel (decide (t1 < 0))
  (sel (inB 0 s.ns0)
  (sel ((Nat.ble 4 (len (s.gs0 0))) && (okCKs [(CK.int .i64), (CK.int .i64), (CK.int .i64), (CK.int .i64)] (s.gs0 0)))
  (sel (inB 1 (s.ns0 + 1))
  (some (.normal, h17_0_1 p ⟨1, (s.ns0 - 1), (fun k => s.gs0 (1 + k)), s.ns1, s.gs1, 1, [[(i (toI (hdA (s.gs0 0)))), (i (toI (hdA (tlA (s.gs0 0))))), (i (toI (hdA (tlA (tlA (s.gs0 0)))))), (i (toI (hdA (tlA (tlA (tlA (s.gs0 0)))))))]]⟩))
  none)
  none)
  none)
  (sel ((↑s.ns0 : Int) == 0)
  (sel (inB 0 s.ns1)
  (sel ((Nat.ble 4 (len (s.gs1 0))) && (okCKs [(CK.int .i64), (CK.int .i64), (CK.int .i64), (CK.int .i64)] (s.gs1 0)))
  (sel (inB 1 (s.ns1 + 1))
  (some (.normal, h17_0_1 p ⟨1, s.ns0, s.gs0, (s.ns1 - 1), (fun k => s.gs1 (1 + k)), 1, [[(i (toI (hdA (s.gs1 0)))), (i (toI (hdA (tlA (s.gs1 0))))), (i (toI (hdA (tlA (tlA (s.gs1 0)))))), (i (toI (hdA (tlA (tlA (tlA (s.gs1 0)))))))]]⟩))
  none)
  none)
  none)
  (sel (inB 0 s.ns0)
  (sel ((Nat.ble 4 (len (s.gs0 0))) && (okCKs [(CK.int .i64), (CK.int .i64), (CK.int .i64), (CK.int .i64)] (s.gs0 0)))
  (sel (inB 0 s.ns1)
  (sel ((Nat.ble 4 (len (s.gs1 0))) && (okCKs [(CK.int .i64), (CK.int .i64), (CK.int .i64), (CK.int .i64)] (s.gs1 0)))
  (sel (decide (t1 > 0))
  (sel (inB 0 s.ns1)
  (sel ((Nat.ble 4 (len (s.gs1 0))) && (okCKs [(CK.int .i64), (CK.int .i64), (CK.int .i64), (CK.int .i64)] (s.gs1 0)))
  (sel (inB 1 (s.ns1 + 1))
  (some (.normal, h17_0_1 p ⟨1, s.ns0, s.gs0, (s.ns1 - 1), (fun k => s.gs1 (1 + k)), 1, [[(i (toI (hdA (s.gs1 0)))), (i (toI (hdA (tlA (s.gs1 0))))), (i (toI (hdA (tlA (tlA (s.gs1 0)))))), (i (toI (hdA (tlA (tlA (tlA (s.gs1 0)))))))]]⟩))
  none)
  none)
  none)
  (sel (inB 0 s.ns0)
  (sel ((Nat.ble 4 (len (s.gs0 0))) && (okCKs [(CK.int .i64), (CK.int .i64), (CK.int .i64), (CK.int .i64)] (s.gs0 0)))
  (sel (inB 0 s.ns1)
  (sel ((Nat.ble 1 (len (dropN (s.gs1 0) 2))) && (okCKs [(CK.int .i64)] (dropN (s.gs1 0) 2)))
  (sel (inB 0 s.ns1)
  (sel ((Nat.ble 1 (len (dropN (s.gs1 0) 3))) && (okCKs [(CK.int .i64)] (dropN (s.gs1 0) 3)))
  (sel (inB 1 (s.ns0 + 1))
  (sel (inB 1 (s.ns1 + 1))
  (some (.normal, h17_0_1 p ⟨1, (s.ns0 - 1), (fun k => s.gs0 (1 + k)), (s.ns1 - 1), (fun k => s.gs1 (1 + k)), 1, [[(i (toI (hdA (s.gs0 0)))), (i (toI (hdA (tlA (s.gs0 0))))), (i (if (toI (hdA (dropN (s.gs1 0) 2))) > (toI (hdA (tlA (tlA (s.gs0 0))))) then (toI (hdA (dropN (s.gs1 0) 2))) else (toI (hdA (tlA (tlA (s.gs0 0))))))), (i (if (toI (hdA (dropN (s.gs1 0) 3))) < (toI (hdA (tlA (tlA (tlA (s.gs0 0)))))) then (toI (hdA (dropN (s.gs1 0) 3))) else (toI (hdA (tlA (tlA (tlA (s.gs0 0))))))))]]⟩))
  none)
  none)
  none)
  none)
  none)
  none)
  none)
  none))
  none)
  none)
  none)
  none)))
  none)
  none)
  none)
  none)
  (sel ((↑s.ns0 : Int) == 0)
  (sel (inB 0 s.ns1)
  (sel ((Nat.ble 4 (len (s.gs1 0))) && (okCKs [(CK.int .i64), (CK.int .i64), (CK.int .i64), (CK.int .i64)] (s.gs1 0)))
  (sel (inB 1 (s.ns1 + 1))
  (some (.normal, h17_0_1 p ⟨1, s.ns0, s.gs0, (s.ns1 - 1), (fun k => s.gs1 (1 + k)), 1, [[(i (toI (hdA (s.gs1 0)))), (i (toI (hdA (tlA (s.gs1 0))))), (i (toI (hdA (tlA (tlA (s.gs1 0)))))), (i (toI (hdA (tlA (tlA (tlA (s.gs1 0)))))))]]⟩))
  none)
  none)
  none)
  (sel (inB 0 s.ns0)
  (sel ((Nat.ble 4 (len (s.gs0 0))) && (okCKs [(CK.int .i64), (CK.int .i64), (CK.int .i64), (CK.int .i64)] (s.gs0 0)))
  (sel (inB 0 s.ns1)
  (sel ((Nat.ble 4 (len (s.gs1 0))) && (okCKs [(CK.int .i64), (CK.int .i64), (CK.int .i64), (CK.int .i64)] (s.gs1 0)))
  (sel (decide (t1 > 0))
  (sel (inB 0 s.ns1)
  (sel ((Nat.ble 4 (len (s.gs1 0))) && (okCKs [(CK.int .i64), (CK.int .i64), (CK.int .i64), (CK.int .i64)] (s.gs1 0)))
  (sel (inB 1 (s.ns1 + 1))
  (some (.normal, h17_0_1 p ⟨1, s.ns0, s.gs0, (s.ns1 - 1), (fun k => s.gs1 (1 + k)), 1, [[(i (toI (hdA (s.gs1 0)))), (i (toI (hdA (tlA (s.gs1 0))))), (i (toI (hdA (tlA (tlA (s.gs1 0)))))), (i (toI (hdA (tlA (tlA (tlA (s.gs1 0)))))))]]⟩))
  none)
  none)
  none)
  (sel (inB 0 s.ns0)
  (sel ((Nat.ble 4 (len (s.gs0 0))) && (okCKs [(CK.int .i64), (CK.int .i64), (CK.int .i64), (CK.int .i64)] (s.gs0 0)))
  (sel (inB 0 s.ns1)
  (sel ((Nat.ble 1 (len (dropN (s.gs1 0) 2))) && (okCKs [(CK.int .i64)] (dropN (s.gs1 0) 2)))
  (sel (inB 0 s.ns1)
  (sel ((Nat.ble 1 (len (dropN (s.gs1 0) 3))) && (okCKs [(CK.int .i64)] (dropN (s.gs1 0) 3)))
  (sel (inB 1 (s.ns0 + 1))
  (sel (inB 1 (s.ns1 + 1))
  (some (.normal, h17_0_1 p ⟨1, (s.ns0 - 1), (fun k => s.gs0 (1 + k)), (s.ns1 - 1), (fun k => s.gs1 (1 + k)), 1, [[(i (toI (hdA (s.gs0 0)))), (i (toI (hdA (tlA (s.gs0 0))))), (i (if (toI (hdA (dropN (s.gs1 0) 2))) > (toI (hdA (tlA (tlA (s.gs0 0))))) then (toI (hdA (dropN (s.gs1 0) 2))) else (toI (hdA (tlA (tlA (s.gs0 0))))))), (i (if (toI (hdA (dropN (s.gs1 0) 3))) < (toI (hdA (tlA (tlA (tlA (s.gs0 0)))))) then (toI (hdA (dropN (s.gs1 0) 3))) else (toI (hdA (tlA (tlA (tlA (s.gs0 0))))))))]]⟩))
  none)
  none)
  none)
  none)
  none)
  none)
  none)
  none))
  none)
  none)
  none)
  none))))
 (sel (decide ((↑s.ns1 : Int) > 0))
  (sel ((↑s.ns1 : Int) == 0)
  (sel (inB 0 s.ns0)
  (sel ((Nat.ble 4 (len (s.gs0 0))) && (okCKs [(CK.int .i64), (CK.int .i64), (CK.int .i64), (CK.int .i64)] (s.gs0 0)))
  (sel (inB 1 (s.ns0 + 1))
  (some (.normal, h17_0_1 p ⟨1, (s.ns0 - 1), (fun k => s.gs0 (1 + k)), s.ns1, s.gs1, 1, [[(i (toI (hdA (s.gs0 0)))), (i (toI (hdA (tlA (s.gs0 0))))), (i (toI (hdA (tlA (tlA (s.gs0 0)))))), (i (toI (hdA (tlA (tlA (tlA (s.gs0 0)))))))]]⟩))
  none)
  none)
  none)
  (sel (decide ((↑s.ns0 : Int) > 0))
  (sel (inB 0 s.ns0)
  (sel ((Nat.ble 4 (len (s.gs0 0))) && (okCKs [(CK.int .i64), (CK.int .i64), (CK.int .i64), (CK.int .i64)] (s.gs0 0)))
  (sel (inB 0 s.ns1)
  (sel ((Nat.ble 4 (len (s.gs1 0))) && (okCKs [(CK.int .i64), (CK.int .i64), (CK.int .i64), (CK.int .i64)] (s.gs1 0)))
  (sel (decide (t1 < 0))
  (sel (inB 0 s.ns0)
  (sel ((Nat.ble 4 (len (s.gs0 0))) && (okCKs [(CK.int .i64), (CK.int .i64), (CK.int .i64), (CK.int .i64)] (s.gs0 0)))
  (sel (inB 1 (s.ns0 + 1))
  (some (.normal, h17_0_1 p ⟨1, (s.ns0 - 1), (fun k => s.gs0 (1 + k)), s.ns1, s.gs1, 1, [[(i (toI (hdA (s.gs0 0)))), (i (toI (hdA (tlA (s.gs0 0))))), (i (toI (hdA (tlA (tlA (s.gs0 0)))))), (i (toI (hdA (tlA (tlA (tlA (s.gs0 0)))))))]]⟩))
  none)
  none)
  none)
  (sel ((↑s.ns0 : Int) == 0)
  (sel (inB 0 s.ns1)
  (sel ((Nat.ble 4 (len (s.gs1 0))) && (okCKs [(CK.int .i64), (CK.int .i64), (CK.int .i64), (CK.int .i64)] (s.gs1 0)))
  (sel (inB 1 (s.ns1 + 1))
  (some (.normal, h17_0_1 p ⟨1, s.ns0, s.gs0, (s.ns1 - 1), (fun k => s.gs1 (1 + k)), 1, [[(i (toI (hdA (s.gs1 0)))), (i (toI (hdA (tlA (s.gs1 0))))), (i (toI (hdA (tlA (tlA (s.gs1 0)))))), (i (toI (hdA (tlA (tlA (tlA (s.gs1 0)))))))]]⟩))
  none)
  none)
  none)
  (sel (inB 0 s.ns0)
  (sel ((Nat.ble 4 (len (s.gs0 0))) && (okCKs [(CK.int .i64), (CK.int .i64), (CK.int .i64), (CK.int .i64)] (s.gs0 0)))
  (sel (inB 0 s.ns1)
  (sel ((Nat.ble 4 (len (s.gs1 0))) && (okCKs [(CK.int .i64), (CK.int .i64), (CK.int .i64), (CK.int .i64)] (s.gs1 0)))
  (sel (decide (t1 > 0))
  (sel (inB 0 s.ns1)
  (sel ((Nat.ble 4 (len (s.gs1 0))) && (okCKs [(CK.int .i64), (CK.int .i64), (CK.int .i64), (CK.int .i64)] (s.gs1 0)))
  (sel (inB 1 (s.ns1 + 1))
  (some (.normal, h17_0_1 p ⟨1, s.ns0, s.gs0, (s.ns1 - 1), (fun k => s.gs1 (1 + k)), 1, [[(i (toI (hdA (s.gs1 0)))), (i (toI (hdA (tlA (s.gs1 0))))), (i (toI (hdA (tlA (tlA (s.gs1 0)))))), (i (toI (hdA (tlA (tlA (tlA (s.gs1 0)))))))]]⟩))
  none)
  none)
  none)
  (sel (inB 0 s.ns0)
  (sel ((Nat.ble 4 (len (s.gs0 0))) && (okCKs [(CK.int .i64), (CK.int .i64), (CK.int .i64), (CK.int .i64)] (s.gs0 0)))
  (sel (inB 0 s.ns1)
  (sel ((Nat.ble 1 (len (dropN (s.gs1 0) 2))) && (okCKs [(CK.int .i64)] (dropN (s.gs1 0) 2)))
  (sel (inB 0 s.ns1)
  (sel ((Nat.ble 1 (len (dropN (s.gs1 0) 3))) && (okCKs [(CK.int .i64)] (dropN (s.gs1 0) 3)))
  (sel (inB 1 (s.ns0 + 1))
  (sel (inB 1 (s.ns1 + 1))
  (some (.normal, h17_0_1 p ⟨1, (s.ns0 - 1), (fun k => s.gs0 (1 + k)), (s.ns1 - 1), (fun k => s.gs1 (1 + k)), 1, [[(i (toI (hdA (s.gs0 0)))), (i (toI (hdA (tlA (s.gs0 0))))), (i (if (toI (hdA (dropN (s.gs1 0) 2))) > (toI (hdA (tlA (tlA (s.gs0 0))))) then (toI (hdA (dropN (s.gs1 0) 2))) else (toI (hdA (tlA (tlA (s.gs0 0))))))), (i (if (toI (hdA (dropN (s.gs1 0) 3))) < (toI (hdA (tlA (tlA (tlA (s.gs0 0)))))) then (toI (hdA (dropN (s.gs1 0) 3))) else (toI (hdA (tlA (tlA (tlA (s.gs0 0))))))))]]⟩))
  none)
  none)
  none)
  none)
  none)
  none)
  none)
  none))
  none)
  none)
  none)
  none)))
  none)
  none)
  none)
  none)
  (sel ((↑s.ns0 : Int) == 0)
  (sel (inB 0 s.ns1)
  (sel ((Nat.ble 4 (len (s.gs1 0))) && (okCKs [(CK.int .i64), (CK.int .i64), (CK.int .i64), (CK.int .i64)] (s.gs1 0)))
  (sel (inB 1 (s.ns1 + 1))
  (some (.normal, h17_0_1 p ⟨1, s.ns0, s.gs0, (s.ns1 - 1), (fun k => s.gs1 (1 + k)), 1, [[(i (toI (hdA (s.gs1 0)))), (i (toI (hdA (tlA (s.gs1 0))))), (i (toI (hdA (tlA (tlA (s.gs1 0)))))), (i (toI (hdA (tlA (tlA (tlA (s.gs1 0)))))))]]⟩))
  none)
  none)
  none)
  (sel (inB 0 s.ns0)
  (sel ((Nat.ble 4 (len (s.gs0 0))) && (okCKs [(CK.int .i64), (CK.int .i64), (CK.int .i64), (CK.int .i64)] (s.gs0 0)))
  (sel (inB 0 s.ns1)
  (sel ((Nat.ble 4 (len (s.gs1 0))) && (okCKs [(CK.int .i64), (CK.int .i64), (CK.int .i64), (CK.int .i64)] (s.gs1 0)))
  (sel (decide (t1 > 0))
  (sel (inB 0 s.ns1)
  (sel ((Nat.ble 4 (len (s.gs1 0))) && (okCKs [(CK.int .i64), (CK.int .i64), (CK.int .i64), (CK.int .i64)] (s.gs1 0)))
  (sel (inB 1 (s.ns1 + 1))
  (some (.normal, h17_0_1 p ⟨1, s.ns0, s.gs0, (s.ns1 - 1), (fun k => s.gs1 (1 + k)), 1, [[(i (toI (hdA (s.gs1 0)))), (i (toI (hdA (tlA (s.gs1 0))))), (i (toI (hdA (tlA (tlA (s.gs1 0)))))), (i (toI (hdA (tlA (tlA (tlA (s.gs1 0)))))))]]⟩))
  none)
  none)
  none)
  (sel (inB 0 s.ns0)
  (sel ((Nat.ble 4 (len (s.gs0 0))) && (okCKs [(CK.int .i64), (CK.int .i64), (CK.int .i64), (CK.int .i64)] (s.gs0 0)))
  (sel (inB 0 s.ns1)
  (sel ((Nat.ble 1 (len (dropN (s.gs1 0) 2))) && (okCKs [(CK.int .i64)] (dropN (s.gs1 0) 2)))
  (sel (inB 0 s.ns1)
  (sel ((Nat.ble 1 (len (dropN (s.gs1 0) 3))) && (okCKs [(CK.int .i64)] (dropN (s.gs1 0) 3)))
  (sel (inB 1 (s.ns0 + 1))
  (sel (inB 1 (s.ns1 + 1))
  (some (.normal, h17_0_1 p ⟨1, (s.ns0 - 1), (fun k => s.gs0 (1 + k)), (s.ns1 - 1), (fun k => s.gs1 (1 + k)), 1, [[(i (toI (hdA (s.gs0 0)))), (i (toI (hdA (tlA (s.gs0 0))))), (i (if (toI (hdA (dropN (s.gs1 0) 2))) > (toI (hdA (tlA (tlA (s.gs0 0))))) then (toI (hdA (dropN (s.gs1 0) 2))) else (toI (hdA (tlA (tlA (s.gs0 0))))))), (i (if (toI (hdA (dropN (s.gs1 0) 3))) < (toI (hdA (tlA (tlA (tlA (s.gs0 0)))))) then (toI (hdA (dropN (s.gs1 0) 3))) else (toI (hdA (tlA (tlA (tlA (s.gs0 0))))))))]]⟩))
  none)
  none)
  none)
  none)
  none)
  none)
  none)
  none))
  none)
  none)
  none)
  none))))
  (some (x17_0_1 p s)))) := by subst ht1; kernel_rfl
noncomputable def su17_0_0 (p : Pg17_0) (s : Sg17_0) : Stp Sg17_0 := let t1 := (p31 (⟨(toI (hdA (s.gs0 0))), (toI (hdA (tlA (s.gs0 0)))), (toI (hdA (tlA (tlA (s.gs0 0))))), (toI (hdA (tlA (tlA (tlA (s.gs0 0))))))⟩ : Ent) (⟨(toI (hdA (s.gs1 0))), (toI (hdA (tlA (s.gs1 0)))), (toI (hdA (tlA (tlA (s.gs1 0))))), (toI (hdA (tlA (tlA (tlA (s.gs1 0))))))⟩ : Ent)); (sel (decide ((↑s.ns0 : Int) > 0))
 (sel ((↑s.ns1 : Int) == 0)
  (sel (inB 0 s.ns0)
  (sel ((Nat.ble 4 (len (s.gs0 0))) && (okCKs [(CK.int .i64), (CK.int .i64), (CK.int .i64), (CK.int .i64)] (s.gs0 0)))
  (sel (inB 1 (s.ns0 + 1))
  (.next ⟨1, (s.ns0 - 1), (fun k => s.gs0 (1 + k)), s.ns1, s.gs1, 1, [[(i (toI (hdA (s.gs0 0)))), (i (toI (hdA (tlA (s.gs0 0))))), (i (toI (hdA (tlA (tlA (s.gs0 0)))))), (i (toI (hdA (tlA (tlA (tlA (s.gs0 0)))))))]]⟩)
  .fail)
  .fail)
  .fail)
  (sel (decide ((↑s.ns0 : Int) > 0))
  (sel (inB 0 s.ns0)
  (sel ((Nat.ble 4 (len (s.gs0 0))) && (okCKs [(CK.int .i64), (CK.int .i64), (CK.int .i64), (CK.int .i64)] (s.gs0 0)))
  (sel (inB 0 s.ns1)
  (sel ((Nat.ble 4 (len (s.gs1 0))) && (okCKs [(CK.int .i64), (CK.int .i64), (CK.int .i64), (CK.int .i64)] (s.gs1 0)))
  (sel (decide (t1 < 0))
  (sel (inB 0 s.ns0)
  (sel ((Nat.ble 4 (len (s.gs0 0))) && (okCKs [(CK.int .i64), (CK.int .i64), (CK.int .i64), (CK.int .i64)] (s.gs0 0)))
  (sel (inB 1 (s.ns0 + 1))
  (.next ⟨1, (s.ns0 - 1), (fun k => s.gs0 (1 + k)), s.ns1, s.gs1, 1, [[(i (toI (hdA (s.gs0 0)))), (i (toI (hdA (tlA (s.gs0 0))))), (i (toI (hdA (tlA (tlA (s.gs0 0)))))), (i (toI (hdA (tlA (tlA (tlA (s.gs0 0)))))))]]⟩)
  .fail)
  .fail)
  .fail)
  (sel ((↑s.ns0 : Int) == 0)
  (sel (inB 0 s.ns1)
  (sel ((Nat.ble 4 (len (s.gs1 0))) && (okCKs [(CK.int .i64), (CK.int .i64), (CK.int .i64), (CK.int .i64)] (s.gs1 0)))
  (sel (inB 1 (s.ns1 + 1))
  (.next ⟨1, s.ns0, s.gs0, (s.ns1 - 1), (fun k => s.gs1 (1 + k)), 1, [[(i (toI (hdA (s.gs1 0)))), (i (toI (hdA (tlA (s.gs1 0))))), (i (toI (hdA (tlA (tlA (s.gs1 0)))))), (i (toI (hdA (tlA (tlA (tlA (s.gs1 0)))))))]]⟩)
  .fail)
  .fail)
  .fail)
  (sel (inB 0 s.ns0)
  (sel ((Nat.ble 4 (len (s.gs0 0))) && (okCKs [(CK.int .i64), (CK.int .i64), (CK.int .i64), (CK.int .i64)] (s.gs0 0)))
  (sel (inB 0 s.ns1)
  (sel ((Nat.ble 4 (len (s.gs1 0))) && (okCKs [(CK.int .i64), (CK.int .i64), (CK.int .i64), (CK.int .i64)] (s.gs1 0)))
  (sel (decide (t1 > 0))
  (sel (inB 0 s.ns1)
  (sel ((Nat.ble 4 (len (s.gs1 0))) && (okCKs [(CK.int .i64), (CK.int .i64), (CK.int .i64), (CK.int .i64)] (s.gs1 0)))
  (sel (inB 1 (s.ns1 + 1))
  (.next ⟨1, s.ns0, s.gs0, (s.ns1 - 1), (fun k => s.gs1 (1 + k)), 1, [[(i (toI (hdA (s.gs1 0)))), (i (toI (hdA (tlA (s.gs1 0))))), (i (toI (hdA (tlA (tlA (s.gs1 0)))))), (i (toI (hdA (tlA (tlA (tlA (s.gs1 0)))))))]]⟩)
  .fail)
  .fail)
  .fail)
  (sel (inB 0 s.ns0)
  (sel ((Nat.ble 4 (len (s.gs0 0))) && (okCKs [(CK.int .i64), (CK.int .i64), (CK.int .i64), (CK.int .i64)] (s.gs0 0)))
  (sel (inB 0 s.ns1)
  (sel ((Nat.ble 1 (len (dropN (s.gs1 0) 2))) && (okCKs [(CK.int .i64)] (dropN (s.gs1 0) 2)))
  (sel (inB 0 s.ns1)
  (sel ((Nat.ble 1 (len (dropN (s.gs1 0) 3))) && (okCKs [(CK.int .i64)] (dropN (s.gs1 0) 3)))
  (sel (inB 1 (s.ns0 + 1))
  (sel (inB 1 (s.ns1 + 1))
  (.next ⟨1, (s.ns0 - 1), (fun k => s.gs0 (1 + k)), (s.ns1 - 1), (fun k => s.gs1 (1 + k)), 1, [[(i (toI (hdA (s.gs0 0)))), (i (toI (hdA (tlA (s.gs0 0))))), (i (if (toI (hdA (dropN (s.gs1 0) 2))) > (toI (hdA (tlA (tlA (s.gs0 0))))) then (toI (hdA (dropN (s.gs1 0) 2))) else (toI (hdA (tlA (tlA (s.gs0 0))))))), (i (if (toI (hdA (dropN (s.gs1 0) 3))) < (toI (hdA (tlA (tlA (tlA (s.gs0 0)))))) then (toI (hdA (dropN (s.gs1 0) 3))) else (toI (hdA (tlA (tlA (tlA (s.gs0 0))))))))]]⟩)
  .fail)
  .fail)
  .fail)
  .fail)
  .fail)
  .fail)
  .fail)
  .fail))
  .fail)
  .fail)
  .fail)
  .fail)))
  .fail)
  .fail)
  .fail)
  .fail)
  (sel ((↑s.ns0 : Int) == 0)
  (sel (inB 0 s.ns1)
  (sel ((Nat.ble 4 (len (s.gs1 0))) && (okCKs [(CK.int .i64), (CK.int .i64), (CK.int .i64), (CK.int .i64)] (s.gs1 0)))
  (sel (inB 1 (s.ns1 + 1))
  (.next ⟨1, s.ns0, s.gs0, (s.ns1 - 1), (fun k => s.gs1 (1 + k)), 1, [[(i (toI (hdA (s.gs1 0)))), (i (toI (hdA (tlA (s.gs1 0))))), (i (toI (hdA (tlA (tlA (s.gs1 0)))))), (i (toI (hdA (tlA (tlA (tlA (s.gs1 0)))))))]]⟩)
  .fail)
  .fail)
  .fail)
  (sel (inB 0 s.ns0)
  (sel ((Nat.ble 4 (len (s.gs0 0))) && (okCKs [(CK.int .i64), (CK.int .i64), (CK.int .i64), (CK.int .i64)] (s.gs0 0)))
  (sel (inB 0 s.ns1)
  (sel ((Nat.ble 4 (len (s.gs1 0))) && (okCKs [(CK.int .i64), (CK.int .i64), (CK.int .i64), (CK.int .i64)] (s.gs1 0)))
  (sel (decide (t1 > 0))
  (sel (inB 0 s.ns1)
  (sel ((Nat.ble 4 (len (s.gs1 0))) && (okCKs [(CK.int .i64), (CK.int .i64), (CK.int .i64), (CK.int .i64)] (s.gs1 0)))
  (sel (inB 1 (s.ns1 + 1))
  (.next ⟨1, s.ns0, s.gs0, (s.ns1 - 1), (fun k => s.gs1 (1 + k)), 1, [[(i (toI (hdA (s.gs1 0)))), (i (toI (hdA (tlA (s.gs1 0))))), (i (toI (hdA (tlA (tlA (s.gs1 0)))))), (i (toI (hdA (tlA (tlA (tlA (s.gs1 0)))))))]]⟩)
  .fail)
  .fail)
  .fail)
  (sel (inB 0 s.ns0)
  (sel ((Nat.ble 4 (len (s.gs0 0))) && (okCKs [(CK.int .i64), (CK.int .i64), (CK.int .i64), (CK.int .i64)] (s.gs0 0)))
  (sel (inB 0 s.ns1)
  (sel ((Nat.ble 1 (len (dropN (s.gs1 0) 2))) && (okCKs [(CK.int .i64)] (dropN (s.gs1 0) 2)))
  (sel (inB 0 s.ns1)
  (sel ((Nat.ble 1 (len (dropN (s.gs1 0) 3))) && (okCKs [(CK.int .i64)] (dropN (s.gs1 0) 3)))
  (sel (inB 1 (s.ns0 + 1))
  (sel (inB 1 (s.ns1 + 1))
  (.next ⟨1, (s.ns0 - 1), (fun k => s.gs0 (1 + k)), (s.ns1 - 1), (fun k => s.gs1 (1 + k)), 1, [[(i (toI (hdA (s.gs0 0)))), (i (toI (hdA (tlA (s.gs0 0))))), (i (if (toI (hdA (dropN (s.gs1 0) 2))) > (toI (hdA (tlA (tlA (s.gs0 0))))) then (toI (hdA (dropN (s.gs1 0) 2))) else (toI (hdA (tlA (tlA (s.gs0 0))))))), (i (if (toI (hdA (dropN (s.gs1 0) 3))) < (toI (hdA (tlA (tlA (tlA (s.gs0 0)))))) then (toI (hdA (dropN (s.gs1 0) 3))) else (toI (hdA (tlA (tlA (tlA (s.gs0 0))))))))]]⟩)
  .fail)
  .fail)
  .fail)
  .fail)
  .fail)
  .fail)
  .fail)
  .fail))
  .fail)
  .fail)
  .fail)
  .fail))))
 (sel (decide ((↑s.ns1 : Int) > 0))
  (sel ((↑s.ns1 : Int) == 0)
  (sel (inB 0 s.ns0)
  (sel ((Nat.ble 4 (len (s.gs0 0))) && (okCKs [(CK.int .i64), (CK.int .i64), (CK.int .i64), (CK.int .i64)] (s.gs0 0)))
  (sel (inB 1 (s.ns0 + 1))
  (.next ⟨1, (s.ns0 - 1), (fun k => s.gs0 (1 + k)), s.ns1, s.gs1, 1, [[(i (toI (hdA (s.gs0 0)))), (i (toI (hdA (tlA (s.gs0 0))))), (i (toI (hdA (tlA (tlA (s.gs0 0)))))), (i (toI (hdA (tlA (tlA (tlA (s.gs0 0)))))))]]⟩)
  .fail)
  .fail)
  .fail)
  (sel (decide ((↑s.ns0 : Int) > 0))
  (sel (inB 0 s.ns0)
  (sel ((Nat.ble 4 (len (s.gs0 0))) && (okCKs [(CK.int .i64), (CK.int .i64), (CK.int .i64), (CK.int .i64)] (s.gs0 0)))
  (sel (inB 0 s.ns1)
  (sel ((Nat.ble 4 (len (s.gs1 0))) && (okCKs [(CK.int .i64), (CK.int .i64), (CK.int .i64), (CK.int .i64)] (s.gs1 0)))
  (sel (decide (t1 < 0))
  (sel (inB 0 s.ns0)
  (sel ((Nat.ble 4 (len (s.gs0 0))) && (okCKs [(CK.int .i64), (CK.int .i64), (CK.int .i64), (CK.int .i64)] (s.gs0 0)))
  (sel (inB 1 (s.ns0 + 1))
  (.next ⟨1, (s.ns0 - 1), (fun k => s.gs0 (1 + k)), s.ns1, s.gs1, 1, [[(i (toI (hdA (s.gs0 0)))), (i (toI (hdA (tlA (s.gs0 0))))), (i (toI (hdA (tlA (tlA (s.gs0 0)))))), (i (toI (hdA (tlA (tlA (tlA (s.gs0 0)))))))]]⟩)
  .fail)
  .fail)
  .fail)
  (sel ((↑s.ns0 : Int) == 0)
  (sel (inB 0 s.ns1)
  (sel ((Nat.ble 4 (len (s.gs1 0))) && (okCKs [(CK.int .i64), (CK.int .i64), (CK.int .i64), (CK.int .i64)] (s.gs1 0)))
  (sel (inB 1 (s.ns1 + 1))
  (.next ⟨1, s.ns0, s.gs0, (s.ns1 - 1), (fun k => s.gs1 (1 + k)), 1, [[(i (toI (hdA (s.gs1 0)))), (i (toI (hdA (tlA (s.gs1 0))))), (i (toI (hdA (tlA (tlA (s.gs1 0)))))), (i (toI (hdA (tlA (tlA (tlA (s.gs1 0)))))))]]⟩)
  .fail)
  .fail)
  .fail)
  (sel (inB 0 s.ns0)
  (sel ((Nat.ble 4 (len (s.gs0 0))) && (okCKs [(CK.int .i64), (CK.int .i64), (CK.int .i64), (CK.int .i64)] (s.gs0 0)))
  (sel (inB 0 s.ns1)
  (sel ((Nat.ble 4 (len (s.gs1 0))) && (okCKs [(CK.int .i64), (CK.int .i64), (CK.int .i64), (CK.int .i64)] (s.gs1 0)))
  (sel (decide (t1 > 0))
  (sel (inB 0 s.ns1)
  (sel ((Nat.ble 4 (len (s.gs1 0))) && (okCKs [(CK.int .i64), (CK.int .i64), (CK.int .i64), (CK.int .i64)] (s.gs1 0)))
  (sel (inB 1 (s.ns1 + 1))
  (.next ⟨1, s.ns0, s.gs0, (s.ns1 - 1), (fun k => s.gs1 (1 + k)), 1, [[(i (toI (hdA (s.gs1 0)))), (i (toI (hdA (tlA (s.gs1 0))))), (i (toI (hdA (tlA (tlA (s.gs1 0)))))), (i (toI (hdA (tlA (tlA (tlA (s.gs1 0)))))))]]⟩)
  .fail)
  .fail)
  .fail)
  (sel (inB 0 s.ns0)
  (sel ((Nat.ble 4 (len (s.gs0 0))) && (okCKs [(CK.int .i64), (CK.int .i64), (CK.int .i64), (CK.int .i64)] (s.gs0 0)))
  (sel (inB 0 s.ns1)
  (sel ((Nat.ble 1 (len (dropN (s.gs1 0) 2))) && (okCKs [(CK.int .i64)] (dropN (s.gs1 0) 2)))
  (sel (inB 0 s.ns1)
  (sel ((Nat.ble 1 (len (dropN (s.gs1 0) 3))) && (okCKs [(CK.int .i64)] (dropN (s.gs1 0) 3)))
  (sel (inB 1 (s.ns0 + 1))
  (sel (inB 1 (s.ns1 + 1))
  (.next ⟨1, (s.ns0 - 1), (fun k => s.gs0 (1 + k)), (s.ns1 - 1), (fun k => s.gs1 (1 + k)), 1, [[(i (toI (hdA (s.gs0 0)))), (i (toI (hdA (tlA (s.gs0 0))))), (i (if (toI (hdA (dropN (s.gs1 0) 2))) > (toI (hdA (tlA (tlA (s.gs0 0))))) then (toI (hdA (dropN (s.gs1 0) 2))) else (toI (hdA (tlA (tlA (s.gs0 0))))))), (i (if (toI (hdA (dropN (s.gs1 0) 3))) < (toI (hdA (tlA (tlA (tlA (s.gs0 0)))))) then (toI (hdA (dropN (s.gs1 0) 3))) else (toI (hdA (tlA (tlA (tlA (s.gs0 0))))))))]]⟩)
  .fail)
  .fail)
  .fail)
  .fail)
  .fail)
  .fail)
  .fail)
  .fail))
  .fail)
  .fail)
  .fail)
  .fail)))
  .fail)
  .fail)
  .fail)
  .fail)
  (sel ((↑s.ns0 : Int) == 0)
  (sel (inB 0 s.ns1)
  (sel ((Nat.ble 4 (len (s.gs1 0))) && (okCKs [(CK.int .i64), (CK.int .i64), (CK.int .i64), (CK.int .i64)] (s.gs1 0)))
  (sel (inB 1 (s.ns1 + 1))
  (.next ⟨1, s.ns0, s.gs0, (s.ns1 - 1), (fun k => s.gs1 (1 + k)), 1, [[(i (toI (hdA (s.gs1 0)))), (i (toI (hdA (tlA (s.gs1 0))))), (i (toI (hdA (tlA (tlA (s.gs1 0)))))), (i (toI (hdA (tlA (tlA (tlA (s.gs1 0)))))))]]⟩)
  .fail)
  .fail)
  .fail)
  (sel (inB 0 s.ns0)
  (sel ((Nat.ble 4 (len (s.gs0 0))) && (okCKs [(CK.int .i64), (CK.int .i64), (CK.int .i64), (CK.int .i64)] (s.gs0 0)))
  (sel (inB 0 s.ns1)
  (sel ((Nat.ble 4 (len (s.gs1 0))) && (okCKs [(CK.int .i64), (CK.int .i64), (CK.int .i64), (CK.int .i64)] (s.gs1 0)))
  (sel (decide (t1 > 0))
  (sel (inB 0 s.ns1)
  (sel ((Nat.ble 4 (len (s.gs1 0))) && (okCKs [(CK.int .i64), (CK.int .i64), (CK.int .i64), (CK.int .i64)] (s.gs1 0)))
  (sel (inB 1 (s.ns1 + 1))
  (.next ⟨1, s.ns0, s.gs0, (s.ns1 - 1), (fun k => s.gs1 (1 + k)), 1, [[(i (toI (hdA (s.gs1 0)))), (i (toI (hdA (tlA (s.gs1 0))))), (i (toI (hdA (tlA (tlA (s.gs1 0)))))), (i (toI (hdA (tlA (tlA (tlA (s.gs1 0)))))))]]⟩)
  .fail)
  .fail)
  .fail)
  (sel (inB 0 s.ns0)
  (sel ((Nat.ble 4 (len (s.gs0 0))) && (okCKs [(CK.int .i64), (CK.int .i64), (CK.int .i64), (CK.int .i64)] (s.gs0 0)))
  (sel (inB 0 s.ns1)
  (sel ((Nat.ble 1 (len (dropN (s.gs1 0) 2))) && (okCKs [(CK.int .i64)] (dropN (s.gs1 0) 2)))
  (sel (inB 0 s.ns1)
  (sel ((Nat.ble 1 (len (dropN (s.gs1 0) 3))) && (okCKs [(CK.int .i64)] (dropN (s.gs1 0) 3)))
  (sel (inB 1 (s.ns0 + 1))
  (sel (inB 1 (s.ns1 + 1))
  (.next ⟨1, (s.ns0 - 1), (fun k => s.gs0 (1 + k)), (s.ns1 - 1), (fun k => s.gs1 (1 + k)), 1, [[(i (toI (hdA (s.gs0 0)))), (i (toI (hdA (tlA (s.gs0 0))))), (i (if (toI (hdA (dropN (s.gs1 0) 2))) > (toI (hdA (tlA (tlA (s.gs0 0))))) then (toI (hdA (dropN (s.gs1 0) 2))) else (toI (hdA (tlA (tlA (s.gs0 0))))))), (i (if (toI (hdA (dropN (s.gs1 0) 3))) < (toI (hdA (tlA (tlA (tlA (s.gs0 0)))))) then (toI (hdA (dropN (s.gs1 0) 3))) else (toI (hdA (tlA (tlA (tlA (s.gs0 0))))))))]]⟩)
  .fail)
  .fail)
  .fail)
  .fail)
  .fail)
  .fail)
  .fail)
  .fail))
  .fail)
  .fail)
  .fail)
  .fail))))
  (.exit 1)))
theorem q17_0_0 (p : Pg17_0) (s : Sg17_0) (c1 c2 c3 c4 c5 c6 c7 c8 c9 c10 c11 c12 c13 c14 : Bool)  : (fo17_0 p s) (sel c1
 (sel c2
  (sel c3
  (sel c4
  (sel c5
  (.next ⟨1, (s.ns0 - 1), (fun k => s.gs0 (1 + k)), s.ns1, s.gs1, 1, [[(i (toI (hdA (s.gs0 0)))), (i (toI (hdA (tlA (s.gs0 0))))), (i (toI (hdA (tlA (tlA (s.gs0 0)))))), (i (toI (hdA (tlA (tlA (tlA (s.gs0 0)))))))]]⟩)
  .fail)
  .fail)
  .fail)
  (sel c1
  (sel c3
  (sel c4
  (sel c6
  (sel c7
  (sel c8
  (sel c3
  (sel c4
  (sel c5
  (.next ⟨1, (s.ns0 - 1), (fun k => s.gs0 (1 + k)), s.ns1, s.gs1, 1, [[(i (toI (hdA (s.gs0 0)))), (i (toI (hdA (tlA (s.gs0 0))))), (i (toI (hdA (tlA (tlA (s.gs0 0)))))), (i (toI (hdA (tlA (tlA (tlA (s.gs0 0)))))))]]⟩)
  .fail)
  .fail)
  .fail)
  (sel c9
  (sel c6
  (sel c7
  (sel c10
  (.next ⟨1, s.ns0, s.gs0, (s.ns1 - 1), (fun k => s.gs1 (1 + k)), 1, [[(i (toI (hdA (s.gs1 0)))), (i (toI (hdA (tlA (s.gs1 0))))), (i (toI (hdA (tlA (tlA (s.gs1 0)))))), (i (toI (hdA (tlA (tlA (tlA (s.gs1 0)))))))]]⟩)
  .fail)
  .fail)
  .fail)
  (sel c3
  (sel c4
  (sel c6
  (sel c7
  (sel c11
  (sel c6
  (sel c7
  (sel c10
  (.next ⟨1, s.ns0, s.gs0, (s.ns1 - 1), (fun k => s.gs1 (1 + k)), 1, [[(i (toI (hdA (s.gs1 0)))), (i (toI (hdA (tlA (s.gs1 0))))), (i (toI (hdA (tlA (tlA (s.gs1 0)))))), (i (toI (hdA (tlA (tlA (tlA (s.gs1 0)))))))]]⟩)
  .fail)
  .fail)
  .fail)
  (sel c3
  (sel c4
  (sel c6
  (sel c12
  (sel c6
  (sel c13
  (sel c5
  (sel c10
  (.next ⟨1, (s.ns0 - 1), (fun k => s.gs0 (1 + k)), (s.ns1 - 1), (fun k => s.gs1 (1 + k)), 1, [[(i (toI (hdA (s.gs0 0)))), (i (toI (hdA (tlA (s.gs0 0))))), (i (if (toI (hdA (dropN (s.gs1 0) 2))) > (toI (hdA (tlA (tlA (s.gs0 0))))) then (toI (hdA (dropN (s.gs1 0) 2))) else (toI (hdA (tlA (tlA (s.gs0 0))))))), (i (if (toI (hdA (dropN (s.gs1 0) 3))) < (toI (hdA (tlA (tlA (tlA (s.gs0 0)))))) then (toI (hdA (dropN (s.gs1 0) 3))) else (toI (hdA (tlA (tlA (tlA (s.gs0 0))))))))]]⟩)
  .fail)
  .fail)
  .fail)
  .fail)
  .fail)
  .fail)
  .fail)
  .fail))
  .fail)
  .fail)
  .fail)
  .fail)))
  .fail)
  .fail)
  .fail)
  .fail)
  (sel c9
  (sel c6
  (sel c7
  (sel c10
  (.next ⟨1, s.ns0, s.gs0, (s.ns1 - 1), (fun k => s.gs1 (1 + k)), 1, [[(i (toI (hdA (s.gs1 0)))), (i (toI (hdA (tlA (s.gs1 0))))), (i (toI (hdA (tlA (tlA (s.gs1 0)))))), (i (toI (hdA (tlA (tlA (tlA (s.gs1 0)))))))]]⟩)
  .fail)
  .fail)
  .fail)
  (sel c3
  (sel c4
  (sel c6
  (sel c7
  (sel c11
  (sel c6
  (sel c7
  (sel c10
  (.next ⟨1, s.ns0, s.gs0, (s.ns1 - 1), (fun k => s.gs1 (1 + k)), 1, [[(i (toI (hdA (s.gs1 0)))), (i (toI (hdA (tlA (s.gs1 0))))), (i (toI (hdA (tlA (tlA (s.gs1 0)))))), (i (toI (hdA (tlA (tlA (tlA (s.gs1 0)))))))]]⟩)
  .fail)
  .fail)
  .fail)
  (sel c3
  (sel c4
  (sel c6
  (sel c12
  (sel c6
  (sel c13
  (sel c5
  (sel c10
  (.next ⟨1, (s.ns0 - 1), (fun k => s.gs0 (1 + k)), (s.ns1 - 1), (fun k => s.gs1 (1 + k)), 1, [[(i (toI (hdA (s.gs0 0)))), (i (toI (hdA (tlA (s.gs0 0))))), (i (if (toI (hdA (dropN (s.gs1 0) 2))) > (toI (hdA (tlA (tlA (s.gs0 0))))) then (toI (hdA (dropN (s.gs1 0) 2))) else (toI (hdA (tlA (tlA (s.gs0 0))))))), (i (if (toI (hdA (dropN (s.gs1 0) 3))) < (toI (hdA (tlA (tlA (tlA (s.gs0 0)))))) then (toI (hdA (dropN (s.gs1 0) 3))) else (toI (hdA (tlA (tlA (tlA (s.gs0 0))))))))]]⟩)
  .fail)
  .fail)
  .fail)
  .fail)
  .fail)
  .fail)
  .fail)
  .fail))
  .fail)
  .fail)
  .fail)
  .fail))))
 (sel c14
  (sel c2
  (sel c3
  (sel c4
  (sel c5
  (.next ⟨1, (s.ns0 - 1), (fun k => s.gs0 (1 + k)), s.ns1, s.gs1, 1, [[(i (toI (hdA (s.gs0 0)))), (i (toI (hdA (tlA (s.gs0 0))))), (i (toI (hdA (tlA (tlA (s.gs0 0)))))), (i (toI (hdA (tlA (tlA (tlA (s.gs0 0)))))))]]⟩)
  .fail)
  .fail)
  .fail)
  (sel c1
  (sel c3
  (sel c4
  (sel c6
  (sel c7
  (sel c8
  (sel c3
  (sel c4
  (sel c5
  (.next ⟨1, (s.ns0 - 1), (fun k => s.gs0 (1 + k)), s.ns1, s.gs1, 1, [[(i (toI (hdA (s.gs0 0)))), (i (toI (hdA (tlA (s.gs0 0))))), (i (toI (hdA (tlA (tlA (s.gs0 0)))))), (i (toI (hdA (tlA (tlA (tlA (s.gs0 0)))))))]]⟩)
  .fail)
  .fail)
  .fail)
  (sel c9
  (sel c6
  (sel c7
  (sel c10
  (.next ⟨1, s.ns0, s.gs0, (s.ns1 - 1), (fun k => s.gs1 (1 + k)), 1, [[(i (toI (hdA (s.gs1 0)))), (i (toI (hdA (tlA (s.gs1 0))))), (i (toI (hdA (tlA (tlA (s.gs1 0)))))), (i (toI (hdA (tlA (tlA (tlA (s.gs1 0)))))))]]⟩)
  .fail)
  .fail)
  .fail)
  (sel c3
  (sel c4
  (sel c6
  (sel c7
  (sel c11
  (sel c6
  (sel c7
  (sel c10
  (.next ⟨1, s.ns0, s.gs0, (s.ns1 - 1), (fun k => s.gs1 (1 + k)), 1, [[(i (toI (hdA (s.gs1 0)))), (i (toI (hdA (tlA (s.gs1 0))))), (i (toI (hdA (tlA (tlA (s.gs1 0)))))), (i (toI (hdA (tlA (tlA (tlA (s.gs1 0)))))))]]⟩)
  .fail)
  .fail)
  .fail)
  (sel c3
  (sel c4
  (sel c6
  (sel c12
  (sel c6
  (sel c13
  (sel c5
  (sel c10
  (.next ⟨1, (s.ns0 - 1), (fun k => s.gs0 (1 + k)), (s.ns1 - 1), (fun k => s.gs1 (1 + k)), 1, [[(i (toI (hdA (s.gs0 0)))), (i (toI (hdA (tlA (s.gs0 0))))), (i (if (toI (hdA (dropN (s.gs1 0) 2))) > (toI (hdA (tlA (tlA (s.gs0 0))))) then (toI (hdA (dropN (s.gs1 0) 2))) else (toI (hdA (tlA (tlA (s.gs0 0))))))), (i (if (toI (hdA (dropN (s.gs1 0) 3))) < (toI (hdA (tlA (tlA (tlA (s.gs0 0)))))) then (toI (hdA (dropN (s.gs1 0) 3))) else (toI (hdA (tlA (tlA (tlA (s.gs0 0))))))))]]⟩)
  .fail)
  .fail)
  .fail)
  .fail)
  .fail)
  .fail)
  .fail)
  .fail))
  .fail)
  .fail)
  .fail)
  .fail)))
  .fail)
  .fail)
  .fail)
  .fail)
  (sel c9
  (sel c6
  (sel c7
  (sel c10
  (.next ⟨1, s.ns0, s.gs0, (s.ns1 - 1), (fun k => s.gs1 (1 + k)), 1, [[(i (toI (hdA (s.gs1 0)))), (i (toI (hdA (tlA (s.gs1 0))))), (i (toI (hdA (tlA (tlA (s.gs1 0)))))), (i (toI (hdA (tlA (tlA (tlA (s.gs1 0)))))))]]⟩)
  .fail)
  .fail)
  .fail)
  (sel c3
  (sel c4
  (sel c6
  (sel c7
  (sel c11
  (sel c6
  (sel c7
  (sel c10
  (.next ⟨1, s.ns0, s.gs0, (s.ns1 - 1), (fun k => s.gs1 (1 + k)), 1, [[(i (toI (hdA (s.gs1 0)))), (i (toI (hdA (tlA (s.gs1 0))))), (i (toI (hdA (tlA (tlA (s.gs1 0)))))), (i (toI (hdA (tlA (tlA (tlA (s.gs1 0)))))))]]⟩)
  .fail)
  .fail)
  .fail)
  (sel c3
  (sel c4
  (sel c6
  (sel c12
  (sel c6
  (sel c13
  (sel c5
  (sel c10
  (.next ⟨1, (s.ns0 - 1), (fun k => s.gs0 (1 + k)), (s.ns1 - 1), (fun k => s.gs1 (1 + k)), 1, [[(i (toI (hdA (s.gs0 0)))), (i (toI (hdA (tlA (s.gs0 0))))), (i (if (toI (hdA (dropN (s.gs1 0) 2))) > (toI (hdA (tlA (tlA (s.gs0 0))))) then (toI (hdA (dropN (s.gs1 0) 2))) else (toI (hdA (tlA (tlA (s.gs0 0))))))), (i (if (toI (hdA (dropN (s.gs1 0) 3))) < (toI (hdA (tlA (tlA (tlA (s.gs0 0)))))) then (toI (hdA (dropN (s.gs1 0) 3))) else (toI (hdA (tlA (tlA (tlA (s.gs0 0))))))))]]⟩)
  .fail)
  .fail)
  .fail)
  .fail)
  .fail)
  .fail)
  .fail)
  .fail))
  .fail)
  .fail)
  .fail)
  .fail))))
  (.exit 1))) = (sel c1
 (sel c2
  (sel c3
  (sel c4
  (sel c5
  (some (.normal, h17_0_1 p ⟨1, (s.ns0 - 1), (fun k => s.gs0 (1 + k)), s.ns1, s.gs1, 1, [[(i (toI (hdA (s.gs0 0)))), (i (toI (hdA (tlA (s.gs0 0))))), (i (toI (hdA (tlA (tlA (s.gs0 0)))))), (i (toI (hdA (tlA (tlA (tlA (s.gs0 0)))))))]]⟩))
  none)
  none)
  none)
  (sel c1
  (sel c3
  (sel c4
  (sel c6
  (sel c7
  (sel c8
  (sel c3
  (sel c4
  (sel c5
  (some (.normal, h17_0_1 p ⟨1, (s.ns0 - 1), (fun k => s.gs0 (1 + k)), s.ns1, s.gs1, 1, [[(i (toI (hdA (s.gs0 0)))), (i (toI (hdA (tlA (s.gs0 0))))), (i (toI (hdA (tlA (tlA (s.gs0 0)))))), (i (toI (hdA (tlA (tlA (tlA (s.gs0 0)))))))]]⟩))
  none)
  none)
  none)
  (sel c9
  (sel c6
  (sel c7
  (sel c10
  (some (.normal, h17_0_1 p ⟨1, s.ns0, s.gs0, (s.ns1 - 1), (fun k => s.gs1 (1 + k)), 1, [[(i (toI (hdA (s.gs1 0)))), (i (toI (hdA (tlA (s.gs1 0))))), (i (toI (hdA (tlA (tlA (s.gs1 0)))))), (i (toI (hdA (tlA (tlA (tlA (s.gs1 0)))))))]]⟩))
  none)
  none)
  none)
  (sel c3
  (sel c4
  (sel c6
  (sel c7
  (sel c11
  (sel c6
  (sel c7
  (sel c10
  (some (.normal, h17_0_1 p ⟨1, s.ns0, s.gs0, (s.ns1 - 1), (fun k => s.gs1 (1 + k)), 1, [[(i (toI (hdA (s.gs1 0)))), (i (toI (hdA (tlA (s.gs1 0))))), (i (toI (hdA (tlA (tlA (s.gs1 0)))))), (i (toI (hdA (tlA (tlA (tlA (s.gs1 0)))))))]]⟩))
  none)
  none)
  none)
  (sel c3
  (sel c4
  (sel c6
  (sel c12
  (sel c6
  (sel c13
  (sel c5
  (sel c10
  (some (.normal, h17_0_1 p ⟨1, (s.ns0 - 1), (fun k => s.gs0 (1 + k)), (s.ns1 - 1), (fun k => s.gs1 (1 + k)), 1, [[(i (toI (hdA (s.gs0 0)))), (i (toI (hdA (tlA (s.gs0 0))))), (i (if (toI (hdA (dropN (s.gs1 0) 2))) > (toI (hdA (tlA (tlA (s.gs0 0))))) then (toI (hdA (dropN (s.gs1 0) 2))) else (toI (hdA (tlA (tlA (s.gs0 0))))))), (i (if (toI (hdA (dropN (s.gs1 0) 3))) < (toI (hdA (tlA (tlA (tlA (s.gs0 0)))))) then (toI (hdA (dropN (s.gs1 0) 3))) else (toI (hdA (tlA (tlA (tlA (s.gs0 0))))))))]]⟩))
  none)
  none)
  none)
  none)
  none)
  none)
  none)
  none))
  none)
  none)
  none)
  none)))
  none)
  none)
  none)
  none)
  (sel c9
  (sel c6
  (sel c7
  (sel c10
  (some (.normal, h17_0_1 p ⟨1, s.ns0, s.gs0, (s.ns1 - 1), (fun k => s.gs1 (1 + k)), 1, [[(i (toI (hdA (s.gs1 0)))), (i (toI (hdA (tlA (s.gs1 0))))), (i (toI (hdA (tlA (tlA (s.gs1 0)))))), (i (toI (hdA (tlA (tlA (tlA (s.gs1 0)))))))]]⟩))
  none)
  none)
  none)
  (sel c3
  (sel c4
  (sel c6
  (sel c7
  (sel c11
  (sel c6
  (sel c7
  (sel c10
  (some (.normal, h17_0_1 p ⟨1, s.ns0, s.gs0, (s.ns1 - 1), (fun k => s.gs1 (1 + k)), 1, [[(i (toI (hdA (s.gs1 0)))), (i (toI (hdA (tlA (s.gs1 0))))), (i (toI (hdA (tlA (tlA (s.gs1 0)))))), (i (toI (hdA (tlA (tlA (tlA (s.gs1 0)))))))]]⟩))
  none)
  none)
  none)
  (sel c3
  (sel c4
  (sel c6
  (sel c12
  (sel c6
  (sel c13
  (sel c5
  (sel c10
  (some (.normal, h17_0_1 p ⟨1, (s.ns0 - 1), (fun k => s.gs0 (1 + k)), (s.ns1 - 1), (fun k => s.gs1 (1 + k)), 1, [[(i (toI (hdA (s.gs0 0)))), (i (toI (hdA (tlA (s.gs0 0))))), (i (if (toI (hdA (dropN (s.gs1 0) 2))) > (toI (hdA (tlA (tlA (s.gs0 0))))) then (toI (hdA (dropN (s.gs1 0) 2))) else (toI (hdA (tlA (tlA (s.gs0 0))))))), (i (if (toI (hdA (dropN (s.gs1 0) 3))) < (toI (hdA (tlA (tlA (tlA (s.gs0 0)))))) then (toI (hdA (dropN (s.gs1 0) 3))) else (toI (hdA (tlA (tlA (tlA (s.gs0 0))))))))]]⟩))
  none)
  none)
  none)
  none)
  none)
  none)
  none)
  none))
  none)
  none)
  none)
  none))))
 (sel c14
  (sel c2
  (sel c3
  (sel c4
  (sel c5
  (some (.normal, h17_0_1 p ⟨1, (s.ns0 - 1), (fun k => s.gs0 (1 + k)), s.ns1, s.gs1, 1, [[(i (toI (hdA (s.gs0 0)))), (i (toI (hdA (tlA (s.gs0 0))))), (i (toI (hdA (tlA (tlA (s.gs0 0)))))), (i (toI (hdA (tlA (tlA (tlA (s.gs0 0)))))))]]⟩))
  none)
  none)
  none)
  (sel c1
  (sel c3
  (sel c4
  (sel c6
  (sel c7
  (sel c8
  (sel c3
  (sel c4
  (sel c5
  (some (.normal, h17_0_1 p ⟨1, (s.ns0 - 1), (fun k => s.gs0 (1 + k)), s.ns1, s.gs1, 1, [[(i (toI (hdA (s.gs0 0)))), (i (toI (hdA (tlA (s.gs0 0))))), (i (toI (hdA (tlA (tlA (s.gs0 0)))))), (i (toI (hdA (tlA (tlA (tlA (s.gs0 0)))))))]]⟩))
  none)
  none)
  none)
  (sel c9
  (sel c6
  (sel c7
  (sel c10
  (some (.normal, h17_0_1 p ⟨1, s.ns0, s.gs0, (s.ns1 - 1), (fun k => s.gs1 (1 + k)), 1, [[(i (toI (hdA (s.gs1 0)))), (i (toI (hdA (tlA (s.gs1 0))))), (i (toI (hdA (tlA (tlA (s.gs1 0)))))), (i (toI (hdA (tlA (tlA (tlA (s.gs1 0)))))))]]⟩))
  none)
  none)
  none)
  (sel c3
  (sel c4
  (sel c6
  (sel c7
  (sel c11
  (sel c6
  (sel c7
  (sel c10
  (some (.normal, h17_0_1 p ⟨1, s.ns0, s.gs0, (s.ns1 - 1), (fun k => s.gs1 (1 + k)), 1, [[(i (toI (hdA (s.gs1 0)))), (i (toI (hdA (tlA (s.gs1 0))))), (i (toI (hdA (tlA (tlA (s.gs1 0)))))), (i (toI (hdA (tlA (tlA (tlA (s.gs1 0)))))))]]⟩))
  none)
  none)
  none)
  (sel c3
  (sel c4
  (sel c6
  (sel c12
  (sel c6
  (sel c13
  (sel c5
  (sel c10
  (some (.normal, h17_0_1 p ⟨1, (s.ns0 - 1), (fun k => s.gs0 (1 + k)), (s.ns1 - 1), (fun k => s.gs1 (1 + k)), 1, [[(i (toI (hdA (s.gs0 0)))), (i (toI (hdA (tlA (s.gs0 0))))), (i (if (toI (hdA (dropN (s.gs1 0) 2))) > (toI (hdA (tlA (tlA (s.gs0 0))))) then (toI (hdA (dropN (s.gs1 0) 2))) else (toI (hdA (tlA (tlA (s.gs0 0))))))), (i (if (toI (hdA (dropN (s.gs1 0) 3))) < (toI (hdA (tlA (tlA (tlA (s.gs0 0)))))) then (toI (hdA (dropN (s.gs1 0) 3))) else (toI (hdA (tlA (tlA (tlA (s.gs0 0))))))))]]⟩))
  none)
  none)
  none)
  none)
  none)
  none)
  none)
  none))
  none)
  none)
  none)
  none)))
  none)
  none)
  none)
  none)
  (sel c9
  (sel c6
  (sel c7
  (sel c10
  (some (.normal, h17_0_1 p ⟨1, s.ns0, s.gs0, (s.ns1 - 1), (fun k => s.gs1 (1 + k)), 1, [[(i (toI (hdA (s.gs1 0)))), (i (toI (hdA (tlA (s.gs1 0))))), (i (toI (hdA (tlA (tlA (s.gs1 0)))))), (i (toI (hdA (tlA (tlA (tlA (s.gs1 0)))))))]]⟩))
  none)
  none)
  none)
  (sel c3
  (sel c4
  (sel c6
  (sel c7
  (sel c11
  (sel c6
  (sel c7
  (sel c10
  (some (.normal, h17_0_1 p ⟨1, s.ns0, s.gs0, (s.ns1 - 1), (fun k => s.gs1 (1 + k)), 1, [[(i (toI (hdA (s.gs1 0)))), (i (toI (hdA (tlA (s.gs1 0))))), (i (toI (hdA (tlA (tlA (s.gs1 0)))))), (i (toI (hdA (tlA (tlA (tlA (s.gs1 0)))))))]]⟩))
  none)
  none)
  none)
  (sel c3
  (sel c4
  (sel c6
  (sel c12
  (sel c6
  (sel c13
  (sel c5
  (sel c10
  (some (.normal, h17_0_1 p ⟨1, (s.ns0 - 1), (fun k => s.gs0 (1 + k)), (s.ns1 - 1), (fun k => s.gs1 (1 + k)), 1, [[(i (toI (hdA (s.gs0 0)))), (i (toI (hdA (tlA (s.gs0 0))))), (i (if (toI (hdA (dropN (s.gs1 0) 2))) > (toI (hdA (tlA (tlA (s.gs0 0))))) then (toI (hdA (dropN (s.gs1 0) 2))) else (toI (hdA (tlA (tlA (s.gs0 0))))))), (i (if (toI (hdA (dropN (s.gs1 0) 3))) < (toI (hdA (tlA (tlA (tlA (s.gs0 0)))))) then (toI (hdA (dropN (s.gs1 0) 3))) else (toI (hdA (tlA (tlA (tlA (s.gs0 0))))))))]]⟩))
  none)
  none)
  none)
  none)
  none)
  none)
  none)
  none))
  none)
  none)
  none)
  none))))
  (some (x17_0_1 p s)))) := (stpSel (f := (fo17_0 p s)) (stpSel (f := (fo17_0 p s)) (stpSel (f := (fo17_0 p s)) (stpSel (f := (fo17_0 p s)) (stpSel (f := (fo17_0 p s)) rfl rfl) rfl) rfl) (stpSel (f := (fo17_0 p s)) (stpSel (f := (fo17_0 p s)) (stpSel (f := (fo17_0 p s)) (stpSel (f := (fo17_0 p s)) (stpSel (f := (fo17_0 p s)) (stpSel (f := (fo17_0 p s)) (stpSel (f := (fo17_0 p s)) (stpSel (f := (fo17_0 p s)) (stpSel (f := (fo17_0 p s)) rfl rfl) rfl) rfl) (stpSel (f := (fo17_0 p s)) (stpSel (f := (fo17_0 p s)) (stpSel (f := (fo17_0 p s)) (stpSel (f := (fo17_0 p s)) rfl rfl) rfl) rfl) (stpSel (f := (fo17_0 p s)) (stpSel (f := (fo17_0 p s)) (stpSel (f := (fo17_0 p s)) (stpSel (f := (fo17_0 p s)) (stpSel (f := (fo17_0 p s)) (stpSel (f := (fo17_0 p s)) (stpSel (f := (fo17_0 p s)) (stpSel (f := (fo17_0 p s)) rfl rfl) rfl) rfl) (stpSel (f := (fo17_0 p s)) (stpSel (f := (fo17_0 p s)) (stpSel (f := (fo17_0 p s)) (stpSel (f := (fo17_0 p s)) (stpSel (f := (fo17_0 p s)) (stpSel (f := (fo17_0 p s)) (stpSel (f := (fo17_0 p s)) (stpSel (f := (fo17_0 p s)) rfl rfl) rfl) rfl) rfl) rfl) rfl) rfl) rfl)) rfl) rfl) rfl) rfl))) rfl) rfl) rfl) rfl) (stpSel (f := (fo17_0 p s)) (stpSel (f := (fo17_0 p s)) (stpSel (f := (fo17_0 p s)) (stpSel (f := (fo17_0 p s)) rfl rfl) rfl) rfl) (stpSel (f := (fo17_0 p s)) (stpSel (f := (fo17_0 p s)) (stpSel (f := (fo17_0 p s)) (stpSel (f := (fo17_0 p s)) (stpSel (f := (fo17_0 p s)) (stpSel (f := (fo17_0 p s)) (stpSel (f := (fo17_0 p s)) (stpSel (f := (fo17_0 p s)) rfl rfl) rfl) rfl) (stpSel (f := (fo17_0 p s)) (stpSel (f := (fo17_0 p s)) (stpSel (f := (fo17_0 p s)) (stpSel (f := (fo17_0 p s)) (stpSel (f := (fo17_0 p s)) (stpSel (f := (fo17_0 p s)) (stpSel (f := (fo17_0 p s)) (stpSel (f := (fo17_0 p s)) rfl rfl) rfl) rfl) rfl) rfl) rfl) rfl) rfl)) rfl) rfl) rfl) rfl)))) (stpSel (f := (fo17_0 p s)) (stpSel (f := (fo17_0 p s)) (stpSel (f := (fo17_0 p s)) (stpSel (f := (fo17_0 p s)) (stpSel (f := (fo17_0 p s)) rfl rfl) rfl) rfl) (stpSel (f := (fo17_0 p s)) (stpSel (f := (fo17_0 p s)) (stpSel (f := (fo17_0 p s)) (stpSel (f := (fo17_0 p s)) (stpSel (f := (fo17_0 p s)) (stpSel (f := (fo17_0 p s)) (stpSel (f := (fo17_0 p s)) (stpSel (f := (fo17_0 p s)) (stpSel (f := (fo17_0 p s)) rfl rfl) rfl) rfl) (stpSel (f := (fo17_0 p s)) (stpSel (f := (fo17_0 p s)) (stpSel (f := (fo17_0 p s)) (stpSel (f := (fo17_0 p s)) rfl rfl) rfl) rfl) (stpSel (f := (fo17_0 p s)) (stpSel (f := (fo17_0 p s)) (stpSel (f := (fo17_0 p s)) (stpSel (f := (fo17_0 p s)) (stpSel (f := (fo17_0 p s)) (stpSel (f := (fo17_0 p s)) (stpSel (f := (fo17_0 p s)) (stpSel (f := (fo17_0 p s)) rfl rfl) rfl) rfl) (stpSel (f := (fo17_0 p s)) (stpSel (f := (fo17_0 p s)) (stpSel (f := (fo17_0 p s)) (stpSel (f := (fo17_0 p s)) (stpSel (f := (fo17_0 p s)) (stpSel (f := (fo17_0 p s)) (stpSel (f := (fo17_0 p s)) (stpSel (f := (fo17_0 p s)) rfl rfl) rfl) rfl) rfl) rfl) rfl) rfl) rfl)) rfl) rfl) rfl) rfl))) rfl) rfl) rfl) rfl) (stpSel (f := (fo17_0 p s)) (stpSel (f := (fo17_0 p s)) (stpSel (f := (fo17_0 p s)) (stpSel (f := (fo17_0 p s)) rfl rfl) rfl) rfl) (stpSel (f := (fo17_0 p s)) (stpSel (f := (fo17_0 p s)) (stpSel (f := (fo17_0 p s)) (stpSel (f := (fo17_0 p s)) (stpSel (f := (fo17_0 p s)) (stpSel (f := (fo17_0 p s)) (stpSel (f := (fo17_0 p s)) (stpSel (f := (fo17_0 p s)) rfl rfl) rfl) rfl) (stpSel (f := (fo17_0 p s)) (stpSel (f := (fo17_0 p s)) (stpSel (f := (fo17_0 p s)) (stpSel (f := (fo17_0 p s)) (stpSel (f := (fo17_0 p s)) (stpSel (f := (fo17_0 p s)) (stpSel (f := (fo17_0 p s)) (stpSel (f := (fo17_0 p s)) rfl rfl) rfl) rfl) rfl) rfl) rfl) rfl) rfl)) rfl) rfl) rfl) rfl)))) rfl))
theorem sp17_0_0 (p : Pg17_0) (s : Sg17_0) : (roundE (En tb17u) 0 [0, 1, 8] (.pc l17_0) (h17_0_0 p s)).run = fo17_0 p s (su17_0_0 p s) := (rd17_0_0 p s _ rfl).trans (q17_0_0 p s _ _ _ _ _ _ _ _ _ _ _ _ _ _).symm
theorem rd17_0_1 (p : Pg17_0) (s : Sg17_0) (t1 : Int) (ht1 : t1 = (p31 (⟨(toI (hdA (s.gs0 0))), (toI (hdA (tlA (s.gs0 0)))), (toI (hdA (tlA (tlA (s.gs0 0))))), (toI (hdA (tlA (tlA (tlA (s.gs0 0))))))⟩ : Ent) (⟨(toI (hdA (s.gs1 0))), (toI (hdA (tlA (s.gs1 0)))), (toI (hdA (tlA (tlA (s.gs1 0))))), (toI (hdA (tlA (tlA (tlA (s.gs1 0))))))⟩ : Ent))) : (roundE (En tb17u) 0 [0, 1, 8] (.pc l17_0) (h17_0_1 p s)).run = (sel (decide ((↑s.ns0 : Int) > 0))
 (sel ((↑s.ns1 : Int) == 0)
  (sel (inB 0 s.ns0)
  (sel ((Nat.ble 4 (len (s.gs0 0))) && (okCKs [(CK.int .i64), (CK.int .i64), (CK.int .i64), (CK.int .i64)] (s.gs0 0)))
  (sel (Nat.beq s.ns8 (len s.eh0) && Nat.ble ((s.ns8 + 1) * 32) room)
  (sel (inB 1 (s.ns0 + 1))
  (some (.normal, h17_0_1 p ⟨1, (s.ns0 - 1), (fun k => s.gs0 (1 + k)), s.ns1, s.gs1, (s.ns8 + 1), (app s.eh0 [[(i (toI (hdA (s.gs0 0)))), (i (toI (hdA (tlA (s.gs0 0))))), (i (toI (hdA (tlA (tlA (s.gs0 0)))))), (i (toI (hdA (tlA (tlA (tlA (s.gs0 0)))))))]])⟩))
  none)
  none)
  none)
  none)
  (sel (decide ((↑s.ns0 : Int) > 0))
  (sel (inB 0 s.ns0)
  (sel ((Nat.ble 4 (len (s.gs0 0))) && (okCKs [(CK.int .i64), (CK.int .i64), (CK.int .i64), (CK.int .i64)] (s.gs0 0)))
  (sel (inB 0 s.ns1)
  (sel ((Nat.ble 4 (len (s.gs1 0))) && (okCKs [(CK.int .i64), (CK.int .i64), (CK.int .i64), (CK.int .i64)] (s.gs1 0)))
  (sel (decide (t1 < 0))
  (sel (inB 0 s.ns0)
  (sel ((Nat.ble 4 (len (s.gs0 0))) && (okCKs [(CK.int .i64), (CK.int .i64), (CK.int .i64), (CK.int .i64)] (s.gs0 0)))
  (sel (Nat.beq s.ns8 (len s.eh0) && Nat.ble ((s.ns8 + 1) * 32) room)
  (sel (inB 1 (s.ns0 + 1))
  (some (.normal, h17_0_1 p ⟨1, (s.ns0 - 1), (fun k => s.gs0 (1 + k)), s.ns1, s.gs1, (s.ns8 + 1), (app s.eh0 [[(i (toI (hdA (s.gs0 0)))), (i (toI (hdA (tlA (s.gs0 0))))), (i (toI (hdA (tlA (tlA (s.gs0 0)))))), (i (toI (hdA (tlA (tlA (tlA (s.gs0 0)))))))]])⟩))
  none)
  none)
  none)
  none)
  (sel ((↑s.ns0 : Int) == 0)
  (sel (inB 0 s.ns1)
  (sel ((Nat.ble 4 (len (s.gs1 0))) && (okCKs [(CK.int .i64), (CK.int .i64), (CK.int .i64), (CK.int .i64)] (s.gs1 0)))
  (sel (Nat.beq s.ns8 (len s.eh0) && Nat.ble ((s.ns8 + 1) * 32) room)
  (sel (inB 1 (s.ns1 + 1))
  (some (.normal, h17_0_1 p ⟨1, s.ns0, s.gs0, (s.ns1 - 1), (fun k => s.gs1 (1 + k)), (s.ns8 + 1), (app s.eh0 [[(i (toI (hdA (s.gs1 0)))), (i (toI (hdA (tlA (s.gs1 0))))), (i (toI (hdA (tlA (tlA (s.gs1 0)))))), (i (toI (hdA (tlA (tlA (tlA (s.gs1 0)))))))]])⟩))
  none)
  none)
  none)
  none)
  (sel (inB 0 s.ns0)
  (sel ((Nat.ble 4 (len (s.gs0 0))) && (okCKs [(CK.int .i64), (CK.int .i64), (CK.int .i64), (CK.int .i64)] (s.gs0 0)))
  (sel (inB 0 s.ns1)
  (sel ((Nat.ble 4 (len (s.gs1 0))) && (okCKs [(CK.int .i64), (CK.int .i64), (CK.int .i64), (CK.int .i64)] (s.gs1 0)))
  (sel (decide (t1 > 0))
  (sel (inB 0 s.ns1)
  (sel ((Nat.ble 4 (len (s.gs1 0))) && (okCKs [(CK.int .i64), (CK.int .i64), (CK.int .i64), (CK.int .i64)] (s.gs1 0)))
  (sel (Nat.beq s.ns8 (len s.eh0) && Nat.ble ((s.ns8 + 1) * 32) room)
  (sel (inB 1 (s.ns1 + 1))
  (some (.normal, h17_0_1 p ⟨1, s.ns0, s.gs0, (s.ns1 - 1), (fun k => s.gs1 (1 + k)), (s.ns8 + 1), (app s.eh0 [[(i (toI (hdA (s.gs1 0)))), (i (toI (hdA (tlA (s.gs1 0))))), (i (toI (hdA (tlA (tlA (s.gs1 0)))))), (i (toI (hdA (tlA (tlA (tlA (s.gs1 0)))))))]])⟩))
  none)
  none)
  none)
  none)
  (sel (inB 0 s.ns0)
  (sel ((Nat.ble 4 (len (s.gs0 0))) && (okCKs [(CK.int .i64), (CK.int .i64), (CK.int .i64), (CK.int .i64)] (s.gs0 0)))
  (sel (inB 0 s.ns1)
  (sel ((Nat.ble 1 (len (dropN (s.gs1 0) 2))) && (okCKs [(CK.int .i64)] (dropN (s.gs1 0) 2)))
  (sel (inB 0 s.ns1)
  (sel ((Nat.ble 1 (len (dropN (s.gs1 0) 3))) && (okCKs [(CK.int .i64)] (dropN (s.gs1 0) 3)))
  (sel (Nat.beq s.ns8 (len s.eh0) && Nat.ble ((s.ns8 + 1) * 32) room)
  (sel (inB 1 (s.ns0 + 1))
  (sel (inB 1 (s.ns1 + 1))
  (some (.normal, h17_0_1 p ⟨1, (s.ns0 - 1), (fun k => s.gs0 (1 + k)), (s.ns1 - 1), (fun k => s.gs1 (1 + k)), (s.ns8 + 1), (app s.eh0 [[(i (toI (hdA (s.gs0 0)))), (i (toI (hdA (tlA (s.gs0 0))))), (i (if (toI (hdA (dropN (s.gs1 0) 2))) > (toI (hdA (tlA (tlA (s.gs0 0))))) then (toI (hdA (dropN (s.gs1 0) 2))) else (toI (hdA (tlA (tlA (s.gs0 0))))))), (i (if (toI (hdA (dropN (s.gs1 0) 3))) < (toI (hdA (tlA (tlA (tlA (s.gs0 0)))))) then (toI (hdA (dropN (s.gs1 0) 3))) else (toI (hdA (tlA (tlA (tlA (s.gs0 0))))))))]])⟩))
  none)
  none)
  none)
  none)
  none)
  none)
  none)
  none)
  none))
  none)
  none)
  none)
  none)))
  none)
  none)
  none)
  none)
  (sel ((↑s.ns0 : Int) == 0)
  (sel (inB 0 s.ns1)
  (sel ((Nat.ble 4 (len (s.gs1 0))) && (okCKs [(CK.int .i64), (CK.int .i64), (CK.int .i64), (CK.int .i64)] (s.gs1 0)))
  (sel (Nat.beq s.ns8 (len s.eh0) && Nat.ble ((s.ns8 + 1) * 32) room)
  (sel (inB 1 (s.ns1 + 1))
  (some (.normal, h17_0_1 p ⟨1, s.ns0, s.gs0, (s.ns1 - 1), (fun k => s.gs1 (1 + k)), (s.ns8 + 1), (app s.eh0 [[(i (toI (hdA (s.gs1 0)))), (i (toI (hdA (tlA (s.gs1 0))))), (i (toI (hdA (tlA (tlA (s.gs1 0)))))), (i (toI (hdA (tlA (tlA (tlA (s.gs1 0)))))))]])⟩))
  none)
  none)
  none)
  none)
  (sel (inB 0 s.ns0)
  (sel ((Nat.ble 4 (len (s.gs0 0))) && (okCKs [(CK.int .i64), (CK.int .i64), (CK.int .i64), (CK.int .i64)] (s.gs0 0)))
  (sel (inB 0 s.ns1)
  (sel ((Nat.ble 4 (len (s.gs1 0))) && (okCKs [(CK.int .i64), (CK.int .i64), (CK.int .i64), (CK.int .i64)] (s.gs1 0)))
  (sel (decide (t1 > 0))
  (sel (inB 0 s.ns1)
  (sel ((Nat.ble 4 (len (s.gs1 0))) && (okCKs [(CK.int .i64), (CK.int .i64), (CK.int .i64), (CK.int .i64)] (s.gs1 0)))
  (sel (Nat.beq s.ns8 (len s.eh0) && Nat.ble ((s.ns8 + 1) * 32) room)
  (sel (inB 1 (s.ns1 + 1))
  (some (.normal, h17_0_1 p ⟨1, s.ns0, s.gs0, (s.ns1 - 1), (fun k => s.gs1 (1 + k)), (s.ns8 + 1), (app s.eh0 [[(i (toI (hdA (s.gs1 0)))), (i (toI (hdA (tlA (s.gs1 0))))), (i (toI (hdA (tlA (tlA (s.gs1 0)))))), (i (toI (hdA (tlA (tlA (tlA (s.gs1 0)))))))]])⟩))
  none)
  none)
  none)
  none)
  (sel (inB 0 s.ns0)
  (sel ((Nat.ble 4 (len (s.gs0 0))) && (okCKs [(CK.int .i64), (CK.int .i64), (CK.int .i64), (CK.int .i64)] (s.gs0 0)))
  (sel (inB 0 s.ns1)
  (sel ((Nat.ble 1 (len (dropN (s.gs1 0) 2))) && (okCKs [(CK.int .i64)] (dropN (s.gs1 0) 2)))
  (sel (inB 0 s.ns1)
  (sel ((Nat.ble 1 (len (dropN (s.gs1 0) 3))) && (okCKs [(CK.int .i64)] (dropN (s.gs1 0) 3)))
  (sel (Nat.beq s.ns8 (len s.eh0) && Nat.ble ((s.ns8 + 1) * 32) room)
  (sel (inB 1 (s.ns0 + 1))
  (sel (inB 1 (s.ns1 + 1))
  (some (.normal, h17_0_1 p ⟨1, (s.ns0 - 1), (fun k => s.gs0 (1 + k)), (s.ns1 - 1), (fun k => s.gs1 (1 + k)), (s.ns8 + 1), (app s.eh0 [[(i (toI (hdA (s.gs0 0)))), (i (toI (hdA (tlA (s.gs0 0))))), (i (if (toI (hdA (dropN (s.gs1 0) 2))) > (toI (hdA (tlA (tlA (s.gs0 0))))) then (toI (hdA (dropN (s.gs1 0) 2))) else (toI (hdA (tlA (tlA (s.gs0 0))))))), (i (if (toI (hdA (dropN (s.gs1 0) 3))) < (toI (hdA (tlA (tlA (tlA (s.gs0 0)))))) then (toI (hdA (dropN (s.gs1 0) 3))) else (toI (hdA (tlA (tlA (tlA (s.gs0 0))))))))]])⟩))
  none)
  none)
  none)
  none)
  none)
  none)
  none)
  none)
  none))
  none)
  none)
  none)
  none))))
 (sel (decide ((↑s.ns1 : Int) > 0))
  (sel ((↑s.ns1 : Int) == 0)
  (sel (inB 0 s.ns0)
  (sel ((Nat.ble 4 (len (s.gs0 0))) && (okCKs [(CK.int .i64), (CK.int .i64), (CK.int .i64), (CK.int .i64)] (s.gs0 0)))
  (sel (Nat.beq s.ns8 (len s.eh0) && Nat.ble ((s.ns8 + 1) * 32) room)
  (sel (inB 1 (s.ns0 + 1))
  (some (.normal, h17_0_1 p ⟨1, (s.ns0 - 1), (fun k => s.gs0 (1 + k)), s.ns1, s.gs1, (s.ns8 + 1), (app s.eh0 [[(i (toI (hdA (s.gs0 0)))), (i (toI (hdA (tlA (s.gs0 0))))), (i (toI (hdA (tlA (tlA (s.gs0 0)))))), (i (toI (hdA (tlA (tlA (tlA (s.gs0 0)))))))]])⟩))
  none)
  none)
  none)
  none)
  (sel (decide ((↑s.ns0 : Int) > 0))
  (sel (inB 0 s.ns0)
  (sel ((Nat.ble 4 (len (s.gs0 0))) && (okCKs [(CK.int .i64), (CK.int .i64), (CK.int .i64), (CK.int .i64)] (s.gs0 0)))
  (sel (inB 0 s.ns1)
  (sel ((Nat.ble 4 (len (s.gs1 0))) && (okCKs [(CK.int .i64), (CK.int .i64), (CK.int .i64), (CK.int .i64)] (s.gs1 0)))
  (sel (decide (t1 < 0))
  (sel (inB 0 s.ns0)
  (sel ((Nat.ble 4 (len (s.gs0 0))) && (okCKs [(CK.int .i64), (CK.int .i64), (CK.int .i64), (CK.int .i64)] (s.gs0 0)))
  (sel (Nat.beq s.ns8 (len s.eh0) && Nat.ble ((s.ns8 + 1) * 32) room)
  (sel (inB 1 (s.ns0 + 1))
  (some (.normal, h17_0_1 p ⟨1, (s.ns0 - 1), (fun k => s.gs0 (1 + k)), s.ns1, s.gs1, (s.ns8 + 1), (app s.eh0 [[(i (toI (hdA (s.gs0 0)))), (i (toI (hdA (tlA (s.gs0 0))))), (i (toI (hdA (tlA (tlA (s.gs0 0)))))), (i (toI (hdA (tlA (tlA (tlA (s.gs0 0)))))))]])⟩))
  none)
  none)
  none)
  none)
  (sel ((↑s.ns0 : Int) == 0)
  (sel (inB 0 s.ns1)
  (sel ((Nat.ble 4 (len (s.gs1 0))) && (okCKs [(CK.int .i64), (CK.int .i64), (CK.int .i64), (CK.int .i64)] (s.gs1 0)))
  (sel (Nat.beq s.ns8 (len s.eh0) && Nat.ble ((s.ns8 + 1) * 32) room)
  (sel (inB 1 (s.ns1 + 1))
  (some (.normal, h17_0_1 p ⟨1, s.ns0, s.gs0, (s.ns1 - 1), (fun k => s.gs1 (1 + k)), (s.ns8 + 1), (app s.eh0 [[(i (toI (hdA (s.gs1 0)))), (i (toI (hdA (tlA (s.gs1 0))))), (i (toI (hdA (tlA (tlA (s.gs1 0)))))), (i (toI (hdA (tlA (tlA (tlA (s.gs1 0)))))))]])⟩))
  none)
  none)
  none)
  none)
  (sel (inB 0 s.ns0)
  (sel ((Nat.ble 4 (len (s.gs0 0))) && (okCKs [(CK.int .i64), (CK.int .i64), (CK.int .i64), (CK.int .i64)] (s.gs0 0)))
  (sel (inB 0 s.ns1)
  (sel ((Nat.ble 4 (len (s.gs1 0))) && (okCKs [(CK.int .i64), (CK.int .i64), (CK.int .i64), (CK.int .i64)] (s.gs1 0)))
  (sel (decide (t1 > 0))
  (sel (inB 0 s.ns1)
  (sel ((Nat.ble 4 (len (s.gs1 0))) && (okCKs [(CK.int .i64), (CK.int .i64), (CK.int .i64), (CK.int .i64)] (s.gs1 0)))
  (sel (Nat.beq s.ns8 (len s.eh0) && Nat.ble ((s.ns8 + 1) * 32) room)
  (sel (inB 1 (s.ns1 + 1))
  (some (.normal, h17_0_1 p ⟨1, s.ns0, s.gs0, (s.ns1 - 1), (fun k => s.gs1 (1 + k)), (s.ns8 + 1), (app s.eh0 [[(i (toI (hdA (s.gs1 0)))), (i (toI (hdA (tlA (s.gs1 0))))), (i (toI (hdA (tlA (tlA (s.gs1 0)))))), (i (toI (hdA (tlA (tlA (tlA (s.gs1 0)))))))]])⟩))
  none)
  none)
  none)
  none)
  (sel (inB 0 s.ns0)
  (sel ((Nat.ble 4 (len (s.gs0 0))) && (okCKs [(CK.int .i64), (CK.int .i64), (CK.int .i64), (CK.int .i64)] (s.gs0 0)))
  (sel (inB 0 s.ns1)
  (sel ((Nat.ble 1 (len (dropN (s.gs1 0) 2))) && (okCKs [(CK.int .i64)] (dropN (s.gs1 0) 2)))
  (sel (inB 0 s.ns1)
  (sel ((Nat.ble 1 (len (dropN (s.gs1 0) 3))) && (okCKs [(CK.int .i64)] (dropN (s.gs1 0) 3)))
  (sel (Nat.beq s.ns8 (len s.eh0) && Nat.ble ((s.ns8 + 1) * 32) room)
  (sel (inB 1 (s.ns0 + 1))
  (sel (inB 1 (s.ns1 + 1))
  (some (.normal, h17_0_1 p ⟨1, (s.ns0 - 1), (fun k => s.gs0 (1 + k)), (s.ns1 - 1), (fun k => s.gs1 (1 + k)), (s.ns8 + 1), (app s.eh0 [[(i (toI (hdA (s.gs0 0)))), (i (toI (hdA (tlA (s.gs0 0))))), (i (if (toI (hdA (dropN (s.gs1 0) 2))) > (toI (hdA (tlA (tlA (s.gs0 0))))) then (toI (hdA (dropN (s.gs1 0) 2))) else (toI (hdA (tlA (tlA (s.gs0 0))))))), (i (if (toI (hdA (dropN (s.gs1 0) 3))) < (toI (hdA (tlA (tlA (tlA (s.gs0 0)))))) then (toI (hdA (dropN (s.gs1 0) 3))) else (toI (hdA (tlA (tlA (tlA (s.gs0 0))))))))]])⟩))
  none)
  none)
  none)
  none)
  none)
  none)
  none)
  none)
  none))
  none)
  none)
  none)
  none)))
  none)
  none)
  none)
  none)
  (sel ((↑s.ns0 : Int) == 0)
  (sel (inB 0 s.ns1)
  (sel ((Nat.ble 4 (len (s.gs1 0))) && (okCKs [(CK.int .i64), (CK.int .i64), (CK.int .i64), (CK.int .i64)] (s.gs1 0)))
  (sel (Nat.beq s.ns8 (len s.eh0) && Nat.ble ((s.ns8 + 1) * 32) room)
  (sel (inB 1 (s.ns1 + 1))
  (some (.normal, h17_0_1 p ⟨1, s.ns0, s.gs0, (s.ns1 - 1), (fun k => s.gs1 (1 + k)), (s.ns8 + 1), (app s.eh0 [[(i (toI (hdA (s.gs1 0)))), (i (toI (hdA (tlA (s.gs1 0))))), (i (toI (hdA (tlA (tlA (s.gs1 0)))))), (i (toI (hdA (tlA (tlA (tlA (s.gs1 0)))))))]])⟩))
  none)
  none)
  none)
  none)
  (sel (inB 0 s.ns0)
  (sel ((Nat.ble 4 (len (s.gs0 0))) && (okCKs [(CK.int .i64), (CK.int .i64), (CK.int .i64), (CK.int .i64)] (s.gs0 0)))
  (sel (inB 0 s.ns1)
  (sel ((Nat.ble 4 (len (s.gs1 0))) && (okCKs [(CK.int .i64), (CK.int .i64), (CK.int .i64), (CK.int .i64)] (s.gs1 0)))
  (sel (decide (t1 > 0))
  (sel (inB 0 s.ns1)
  (sel ((Nat.ble 4 (len (s.gs1 0))) && (okCKs [(CK.int .i64), (CK.int .i64), (CK.int .i64), (CK.int .i64)] (s.gs1 0)))
  (sel (Nat.beq s.ns8 (len s.eh0) && Nat.ble ((s.ns8 + 1) * 32) room)
  (sel (inB 1 (s.ns1 + 1))
  (some (.normal, h17_0_1 p ⟨1, s.ns0, s.gs0, (s.ns1 - 1), (fun k => s.gs1 (1 + k)), (s.ns8 + 1), (app s.eh0 [[(i (toI (hdA (s.gs1 0)))), (i (toI (hdA (tlA (s.gs1 0))))), (i (toI (hdA (tlA (tlA (s.gs1 0)))))), (i (toI (hdA (tlA (tlA (tlA (s.gs1 0)))))))]])⟩))
  none)
  none)
  none)
  none)
  (sel (inB 0 s.ns0)
  (sel ((Nat.ble 4 (len (s.gs0 0))) && (okCKs [(CK.int .i64), (CK.int .i64), (CK.int .i64), (CK.int .i64)] (s.gs0 0)))
  (sel (inB 0 s.ns1)
  (sel ((Nat.ble 1 (len (dropN (s.gs1 0) 2))) && (okCKs [(CK.int .i64)] (dropN (s.gs1 0) 2)))
  (sel (inB 0 s.ns1)
  (sel ((Nat.ble 1 (len (dropN (s.gs1 0) 3))) && (okCKs [(CK.int .i64)] (dropN (s.gs1 0) 3)))
  (sel (Nat.beq s.ns8 (len s.eh0) && Nat.ble ((s.ns8 + 1) * 32) room)
  (sel (inB 1 (s.ns0 + 1))
  (sel (inB 1 (s.ns1 + 1))
  (some (.normal, h17_0_1 p ⟨1, (s.ns0 - 1), (fun k => s.gs0 (1 + k)), (s.ns1 - 1), (fun k => s.gs1 (1 + k)), (s.ns8 + 1), (app s.eh0 [[(i (toI (hdA (s.gs0 0)))), (i (toI (hdA (tlA (s.gs0 0))))), (i (if (toI (hdA (dropN (s.gs1 0) 2))) > (toI (hdA (tlA (tlA (s.gs0 0))))) then (toI (hdA (dropN (s.gs1 0) 2))) else (toI (hdA (tlA (tlA (s.gs0 0))))))), (i (if (toI (hdA (dropN (s.gs1 0) 3))) < (toI (hdA (tlA (tlA (tlA (s.gs0 0)))))) then (toI (hdA (dropN (s.gs1 0) 3))) else (toI (hdA (tlA (tlA (tlA (s.gs0 0))))))))]])⟩))
  none)
  none)
  none)
  none)
  none)
  none)
  none)
  none)
  none))
  none)
  none)
  none)
  none))))
  (some (x17_0_2 p s)))) := by subst ht1; kernel_rfl
noncomputable def su17_0_1 (p : Pg17_0) (s : Sg17_0) : Stp Sg17_0 := let t1 := (p31 (⟨(toI (hdA (s.gs0 0))), (toI (hdA (tlA (s.gs0 0)))), (toI (hdA (tlA (tlA (s.gs0 0))))), (toI (hdA (tlA (tlA (tlA (s.gs0 0))))))⟩ : Ent) (⟨(toI (hdA (s.gs1 0))), (toI (hdA (tlA (s.gs1 0)))), (toI (hdA (tlA (tlA (s.gs1 0))))), (toI (hdA (tlA (tlA (tlA (s.gs1 0))))))⟩ : Ent)); (sel (decide ((↑s.ns0 : Int) > 0))
 (sel ((↑s.ns1 : Int) == 0)
  (sel (inB 0 s.ns0)
  (sel ((Nat.ble 4 (len (s.gs0 0))) && (okCKs [(CK.int .i64), (CK.int .i64), (CK.int .i64), (CK.int .i64)] (s.gs0 0)))
  (sel (Nat.beq s.ns8 (len s.eh0) && Nat.ble ((s.ns8 + 1) * 32) room)
  (sel (inB 1 (s.ns0 + 1))
  (.next ⟨1, (s.ns0 - 1), (fun k => s.gs0 (1 + k)), s.ns1, s.gs1, (s.ns8 + 1), (app s.eh0 [[(i (toI (hdA (s.gs0 0)))), (i (toI (hdA (tlA (s.gs0 0))))), (i (toI (hdA (tlA (tlA (s.gs0 0)))))), (i (toI (hdA (tlA (tlA (tlA (s.gs0 0)))))))]])⟩)
  .fail)
  .fail)
  .fail)
  .fail)
  (sel (decide ((↑s.ns0 : Int) > 0))
  (sel (inB 0 s.ns0)
  (sel ((Nat.ble 4 (len (s.gs0 0))) && (okCKs [(CK.int .i64), (CK.int .i64), (CK.int .i64), (CK.int .i64)] (s.gs0 0)))
  (sel (inB 0 s.ns1)
  (sel ((Nat.ble 4 (len (s.gs1 0))) && (okCKs [(CK.int .i64), (CK.int .i64), (CK.int .i64), (CK.int .i64)] (s.gs1 0)))
  (sel (decide (t1 < 0))
  (sel (inB 0 s.ns0)
  (sel ((Nat.ble 4 (len (s.gs0 0))) && (okCKs [(CK.int .i64), (CK.int .i64), (CK.int .i64), (CK.int .i64)] (s.gs0 0)))
  (sel (Nat.beq s.ns8 (len s.eh0) && Nat.ble ((s.ns8 + 1) * 32) room)
  (sel (inB 1 (s.ns0 + 1))
  (.next ⟨1, (s.ns0 - 1), (fun k => s.gs0 (1 + k)), s.ns1, s.gs1, (s.ns8 + 1), (app s.eh0 [[(i (toI (hdA (s.gs0 0)))), (i (toI (hdA (tlA (s.gs0 0))))), (i (toI (hdA (tlA (tlA (s.gs0 0)))))), (i (toI (hdA (tlA (tlA (tlA (s.gs0 0)))))))]])⟩)
  .fail)
  .fail)
  .fail)
  .fail)
  (sel ((↑s.ns0 : Int) == 0)
  (sel (inB 0 s.ns1)
  (sel ((Nat.ble 4 (len (s.gs1 0))) && (okCKs [(CK.int .i64), (CK.int .i64), (CK.int .i64), (CK.int .i64)] (s.gs1 0)))
  (sel (Nat.beq s.ns8 (len s.eh0) && Nat.ble ((s.ns8 + 1) * 32) room)
  (sel (inB 1 (s.ns1 + 1))
  (.next ⟨1, s.ns0, s.gs0, (s.ns1 - 1), (fun k => s.gs1 (1 + k)), (s.ns8 + 1), (app s.eh0 [[(i (toI (hdA (s.gs1 0)))), (i (toI (hdA (tlA (s.gs1 0))))), (i (toI (hdA (tlA (tlA (s.gs1 0)))))), (i (toI (hdA (tlA (tlA (tlA (s.gs1 0)))))))]])⟩)
  .fail)
  .fail)
  .fail)
  .fail)
  (sel (inB 0 s.ns0)
  (sel ((Nat.ble 4 (len (s.gs0 0))) && (okCKs [(CK.int .i64), (CK.int .i64), (CK.int .i64), (CK.int .i64)] (s.gs0 0)))
  (sel (inB 0 s.ns1)
  (sel ((Nat.ble 4 (len (s.gs1 0))) && (okCKs [(CK.int .i64), (CK.int .i64), (CK.int .i64), (CK.int .i64)] (s.gs1 0)))
  (sel (decide (t1 > 0))
  (sel (inB 0 s.ns1)
  (sel ((Nat.ble 4 (len (s.gs1 0))) && (okCKs [(CK.int .i64), (CK.int .i64), (CK.int .i64), (CK.int .i64)] (s.gs1 0)))
  (sel (Nat.beq s.ns8 (len s.eh0) && Nat.ble ((s.ns8 + 1) * 32) room)
  (sel (inB 1 (s.ns1 + 1))
  (.next ⟨1, s.ns0, s.gs0, (s.ns1 - 1), (fun k => s.gs1 (1 + k)), (s.ns8 + 1), (app s.eh0 [[(i (toI (hdA (s.gs1 0)))), (i (toI (hdA (tlA (s.gs1 0))))), (i (toI (hdA (tlA (tlA (s.gs1 0)))))), (i (toI (hdA (tlA (tlA (tlA (s.gs1 0)))))))]])⟩)
  .fail)
  .fail)
  .fail)
  .fail)
  (sel (inB 0 s.ns0)
  (sel ((Nat.ble 4 (len (s.gs0 0))) && (okCKs [(CK.int .i64), (CK.int .i64), (CK.int .i64), (CK.int .i64)] (s.gs0 0)))
  (sel (inB 0 s.ns1)
  (sel ((Nat.ble 1 (len (dropN (s.gs1 0) 2))) && (okCKs [(CK.int .i64)] (dropN (s.gs1 0) 2)))
  (sel (inB 0 s.ns1)
  (sel ((Nat.ble 1 (len (dropN (s.gs1 0) 3))) && (okCKs [(CK.int .i64)] (dropN (s.gs1 0) 3)))
  (sel (Nat.beq s.ns8 (len s.eh0) && Nat.ble ((s.ns8 + 1) * 32) room)
  (sel (inB 1 (s.ns0 + 1))
  (sel (inB 1 (s.ns1 + 1))
  (.next ⟨1, (s.ns0 - 1), (fun k => s.gs0 (1 + k)), (s.ns1 - 1), (fun k => s.gs1 (1 + k)), (s.ns8 + 1), (app s.eh0 [[(i (toI (hdA (s.gs0 0)))), (i (toI (hdA (tlA (s.gs0 0))))), (i (if (toI (hdA (dropN (s.gs1 0) 2))) > (toI (hdA (tlA (tlA (s.gs0 0))))) then (toI (hdA (dropN (s.gs1 0) 2))) else (toI (hdA (tlA (tlA (s.gs0 0))))))), (i (if (toI (hdA (dropN (s.gs1 0) 3))) < (toI (hdA (tlA (tlA (tlA (s.gs0 0)))))) then (toI (hdA (dropN (s.gs1 0) 3))) else (toI (hdA (tlA (tlA (tlA (s.gs0 0))))))))]])⟩)
  .fail)
  .fail)
  .fail)
  .fail)
  .fail)
  .fail)
  .fail)
  .fail)
  .fail))
  .fail)
  .fail)
  .fail)
  .fail)))
  .fail)
  .fail)
  .fail)
  .fail)
  (sel ((↑s.ns0 : Int) == 0)
  (sel (inB 0 s.ns1)
  (sel ((Nat.ble 4 (len (s.gs1 0))) && (okCKs [(CK.int .i64), (CK.int .i64), (CK.int .i64), (CK.int .i64)] (s.gs1 0)))
  (sel (Nat.beq s.ns8 (len s.eh0) && Nat.ble ((s.ns8 + 1) * 32) room)
  (sel (inB 1 (s.ns1 + 1))
  (.next ⟨1, s.ns0, s.gs0, (s.ns1 - 1), (fun k => s.gs1 (1 + k)), (s.ns8 + 1), (app s.eh0 [[(i (toI (hdA (s.gs1 0)))), (i (toI (hdA (tlA (s.gs1 0))))), (i (toI (hdA (tlA (tlA (s.gs1 0)))))), (i (toI (hdA (tlA (tlA (tlA (s.gs1 0)))))))]])⟩)
  .fail)
  .fail)
  .fail)
  .fail)
  (sel (inB 0 s.ns0)
  (sel ((Nat.ble 4 (len (s.gs0 0))) && (okCKs [(CK.int .i64), (CK.int .i64), (CK.int .i64), (CK.int .i64)] (s.gs0 0)))
  (sel (inB 0 s.ns1)
  (sel ((Nat.ble 4 (len (s.gs1 0))) && (okCKs [(CK.int .i64), (CK.int .i64), (CK.int .i64), (CK.int .i64)] (s.gs1 0)))
  (sel (decide (t1 > 0))
  (sel (inB 0 s.ns1)
  (sel ((Nat.ble 4 (len (s.gs1 0))) && (okCKs [(CK.int .i64), (CK.int .i64), (CK.int .i64), (CK.int .i64)] (s.gs1 0)))
  (sel (Nat.beq s.ns8 (len s.eh0) && Nat.ble ((s.ns8 + 1) * 32) room)
  (sel (inB 1 (s.ns1 + 1))
  (.next ⟨1, s.ns0, s.gs0, (s.ns1 - 1), (fun k => s.gs1 (1 + k)), (s.ns8 + 1), (app s.eh0 [[(i (toI (hdA (s.gs1 0)))), (i (toI (hdA (tlA (s.gs1 0))))), (i (toI (hdA (tlA (tlA (s.gs1 0)))))), (i (toI (hdA (tlA (tlA (tlA (s.gs1 0)))))))]])⟩)
  .fail)
  .fail)
  .fail)
  .fail)
  (sel (inB 0 s.ns0)
  (sel ((Nat.ble 4 (len (s.gs0 0))) && (okCKs [(CK.int .i64), (CK.int .i64), (CK.int .i64), (CK.int .i64)] (s.gs0 0)))
  (sel (inB 0 s.ns1)
  (sel ((Nat.ble 1 (len (dropN (s.gs1 0) 2))) && (okCKs [(CK.int .i64)] (dropN (s.gs1 0) 2)))
  (sel (inB 0 s.ns1)
  (sel ((Nat.ble 1 (len (dropN (s.gs1 0) 3))) && (okCKs [(CK.int .i64)] (dropN (s.gs1 0) 3)))
  (sel (Nat.beq s.ns8 (len s.eh0) && Nat.ble ((s.ns8 + 1) * 32) room)
  (sel (inB 1 (s.ns0 + 1))
  (sel (inB 1 (s.ns1 + 1))
  (.next ⟨1, (s.ns0 - 1), (fun k => s.gs0 (1 + k)), (s.ns1 - 1), (fun k => s.gs1 (1 + k)), (s.ns8 + 1), (app s.eh0 [[(i (toI (hdA (s.gs0 0)))), (i (toI (hdA (tlA (s.gs0 0))))), (i (if (toI (hdA (dropN (s.gs1 0) 2))) > (toI (hdA (tlA (tlA (s.gs0 0))))) then (toI (hdA (dropN (s.gs1 0) 2))) else (toI (hdA (tlA (tlA (s.gs0 0))))))), (i (if (toI (hdA (dropN (s.gs1 0) 3))) < (toI (hdA (tlA (tlA (tlA (s.gs0 0)))))) then (toI (hdA (dropN (s.gs1 0) 3))) else (toI (hdA (tlA (tlA (tlA (s.gs0 0))))))))]])⟩)
  .fail)
  .fail)
  .fail)
  .fail)
  .fail)
  .fail)
  .fail)
  .fail)
  .fail))
  .fail)
  .fail)
  .fail)
  .fail))))
 (sel (decide ((↑s.ns1 : Int) > 0))
  (sel ((↑s.ns1 : Int) == 0)
  (sel (inB 0 s.ns0)
  (sel ((Nat.ble 4 (len (s.gs0 0))) && (okCKs [(CK.int .i64), (CK.int .i64), (CK.int .i64), (CK.int .i64)] (s.gs0 0)))
  (sel (Nat.beq s.ns8 (len s.eh0) && Nat.ble ((s.ns8 + 1) * 32) room)
  (sel (inB 1 (s.ns0 + 1))
  (.next ⟨1, (s.ns0 - 1), (fun k => s.gs0 (1 + k)), s.ns1, s.gs1, (s.ns8 + 1), (app s.eh0 [[(i (toI (hdA (s.gs0 0)))), (i (toI (hdA (tlA (s.gs0 0))))), (i (toI (hdA (tlA (tlA (s.gs0 0)))))), (i (toI (hdA (tlA (tlA (tlA (s.gs0 0)))))))]])⟩)
  .fail)
  .fail)
  .fail)
  .fail)
  (sel (decide ((↑s.ns0 : Int) > 0))
  (sel (inB 0 s.ns0)
  (sel ((Nat.ble 4 (len (s.gs0 0))) && (okCKs [(CK.int .i64), (CK.int .i64), (CK.int .i64), (CK.int .i64)] (s.gs0 0)))
  (sel (inB 0 s.ns1)
  (sel ((Nat.ble 4 (len (s.gs1 0))) && (okCKs [(CK.int .i64), (CK.int .i64), (CK.int .i64), (CK.int .i64)] (s.gs1 0)))
  (sel (decide (t1 < 0))
  (sel (inB 0 s.ns0)
  (sel ((Nat.ble 4 (len (s.gs0 0))) && (okCKs [(CK.int .i64), (CK.int .i64), (CK.int .i64), (CK.int .i64)] (s.gs0 0)))
  (sel (Nat.beq s.ns8 (len s.eh0) && Nat.ble ((s.ns8 + 1) * 32) room)
  (sel (inB 1 (s.ns0 + 1))
  (.next ⟨1, (s.ns0 - 1), (fun k => s.gs0 (1 + k)), s.ns1, s.gs1, (s.ns8 + 1), (app s.eh0 [[(i (toI (hdA (s.gs0 0)))), (i (toI (hdA (tlA (s.gs0 0))))), (i (toI (hdA (tlA (tlA (s.gs0 0)))))), (i (toI (hdA (tlA (tlA (tlA (s.gs0 0)))))))]])⟩)
  .fail)
  .fail)
  .fail)
  .fail)
  (sel ((↑s.ns0 : Int) == 0)
  (sel (inB 0 s.ns1)
  (sel ((Nat.ble 4 (len (s.gs1 0))) && (okCKs [(CK.int .i64), (CK.int .i64), (CK.int .i64), (CK.int .i64)] (s.gs1 0)))
  (sel (Nat.beq s.ns8 (len s.eh0) && Nat.ble ((s.ns8 + 1) * 32) room)
  (sel (inB 1 (s.ns1 + 1))
  (.next ⟨1, s.ns0, s.gs0, (s.ns1 - 1), (fun k => s.gs1 (1 + k)), (s.ns8 + 1), (app s.eh0 [[(i (toI (hdA (s.gs1 0)))), (i (toI (hdA (tlA (s.gs1 0))))), (i (toI (hdA (tlA (tlA (s.gs1 0)))))), (i (toI (hdA (tlA (tlA (tlA (s.gs1 0)))))))]])⟩)
  .fail)
  .fail)
  .fail)
  .fail)
  (sel (inB 0 s.ns0)
  (sel ((Nat.ble 4 (len (s.gs0 0))) && (okCKs [(CK.int .i64), (CK.int .i64), (CK.int .i64), (CK.int .i64)] (s.gs0 0)))
  (sel (inB 0 s.ns1)
  (sel ((Nat.ble 4 (len (s.gs1 0))) && (okCKs [(CK.int .i64), (CK.int .i64), (CK.int .i64), (CK.int .i64)] (s.gs1 0)))
  (sel (decide (t1 > 0))
  (sel (inB 0 s.ns1)
  (sel ((Nat.ble 4 (len (s.gs1 0))) && (okCKs [(CK.int .i64), (CK.int .i64), (CK.int .i64), (CK.int .i64)] (s.gs1 0)))
  (sel (Nat.beq s.ns8 (len s.eh0) && Nat.ble ((s.ns8 + 1) * 32) room)
  (sel (inB 1 (s.ns1 + 1))
  (.next ⟨1, s.ns0, s.gs0, (s.ns1 - 1), (fun k => s.gs1 (1 + k)), (s.ns8 + 1), (app s.eh0 [[(i (toI (hdA (s.gs1 0)))), (i (toI (hdA (tlA (s.gs1 0))))), (i (toI (hdA (tlA (tlA (s.gs1 0)))))), (i (toI (hdA (tlA (tlA (tlA (s.gs1 0)))))))]])⟩)
  .fail)
  .fail)
  .fail)
  .fail)
  (sel (inB 0 s.ns0)
  (sel ((Nat.ble 4 (len (s.gs0 0))) && (okCKs [(CK.int .i64), (CK.int .i64), (CK.int .i64), (CK.int .i64)] (s.gs0 0)))
  (sel (inB 0 s.ns1)
  (sel ((Nat.ble 1 (len (dropN (s.gs1 0) 2))) && (okCKs [(CK.int .i64)] (dropN (s.gs1 0) 2)))
  (sel (inB 0 s.ns1)
  (sel ((Nat.ble 1 (len (dropN (s.gs1 0) 3))) && (okCKs [(CK.int .i64)] (dropN (s.gs1 0) 3)))
  (sel (Nat.beq s.ns8 (len s.eh0) && Nat.ble ((s.ns8 + 1) * 32) room)
  (sel (inB 1 (s.ns0 + 1))
  (sel (inB 1 (s.ns1 + 1))
  (.next ⟨1, (s.ns0 - 1), (fun k => s.gs0 (1 + k)), (s.ns1 - 1), (fun k => s.gs1 (1 + k)), (s.ns8 + 1), (app s.eh0 [[(i (toI (hdA (s.gs0 0)))), (i (toI (hdA (tlA (s.gs0 0))))), (i (if (toI (hdA (dropN (s.gs1 0) 2))) > (toI (hdA (tlA (tlA (s.gs0 0))))) then (toI (hdA (dropN (s.gs1 0) 2))) else (toI (hdA (tlA (tlA (s.gs0 0))))))), (i (if (toI (hdA (dropN (s.gs1 0) 3))) < (toI (hdA (tlA (tlA (tlA (s.gs0 0)))))) then (toI (hdA (dropN (s.gs1 0) 3))) else (toI (hdA (tlA (tlA (tlA (s.gs0 0))))))))]])⟩)
  .fail)
  .fail)
  .fail)
  .fail)
  .fail)
  .fail)
  .fail)
  .fail)
  .fail))
  .fail)
  .fail)
  .fail)
  .fail)))
  .fail)
  .fail)
  .fail)
  .fail)
  (sel ((↑s.ns0 : Int) == 0)
  (sel (inB 0 s.ns1)
  (sel ((Nat.ble 4 (len (s.gs1 0))) && (okCKs [(CK.int .i64), (CK.int .i64), (CK.int .i64), (CK.int .i64)] (s.gs1 0)))
  (sel (Nat.beq s.ns8 (len s.eh0) && Nat.ble ((s.ns8 + 1) * 32) room)
  (sel (inB 1 (s.ns1 + 1))
  (.next ⟨1, s.ns0, s.gs0, (s.ns1 - 1), (fun k => s.gs1 (1 + k)), (s.ns8 + 1), (app s.eh0 [[(i (toI (hdA (s.gs1 0)))), (i (toI (hdA (tlA (s.gs1 0))))), (i (toI (hdA (tlA (tlA (s.gs1 0)))))), (i (toI (hdA (tlA (tlA (tlA (s.gs1 0)))))))]])⟩)
  .fail)
  .fail)
  .fail)
  .fail)
  (sel (inB 0 s.ns0)
  (sel ((Nat.ble 4 (len (s.gs0 0))) && (okCKs [(CK.int .i64), (CK.int .i64), (CK.int .i64), (CK.int .i64)] (s.gs0 0)))
  (sel (inB 0 s.ns1)
  (sel ((Nat.ble 4 (len (s.gs1 0))) && (okCKs [(CK.int .i64), (CK.int .i64), (CK.int .i64), (CK.int .i64)] (s.gs1 0)))
  (sel (decide (t1 > 0))
  (sel (inB 0 s.ns1)
  (sel ((Nat.ble 4 (len (s.gs1 0))) && (okCKs [(CK.int .i64), (CK.int .i64), (CK.int .i64), (CK.int .i64)] (s.gs1 0)))
  (sel (Nat.beq s.ns8 (len s.eh0) && Nat.ble ((s.ns8 + 1) * 32) room)
  (sel (inB 1 (s.ns1 + 1))
  (.next ⟨1, s.ns0, s.gs0, (s.ns1 - 1), (fun k => s.gs1 (1 + k)), (s.ns8 + 1), (app s.eh0 [[(i (toI (hdA (s.gs1 0)))), (i (toI (hdA (tlA (s.gs1 0))))), (i (toI (hdA (tlA (tlA (s.gs1 0)))))), (i (toI (hdA (tlA (tlA (tlA (s.gs1 0)))))))]])⟩)
  .fail)
  .fail)
  .fail)
  .fail)
  (sel (inB 0 s.ns0)
  (sel ((Nat.ble 4 (len (s.gs0 0))) && (okCKs [(CK.int .i64), (CK.int .i64), (CK.int .i64), (CK.int .i64)] (s.gs0 0)))
  (sel (inB 0 s.ns1)
  (sel ((Nat.ble 1 (len (dropN (s.gs1 0) 2))) && (okCKs [(CK.int .i64)] (dropN (s.gs1 0) 2)))
  (sel (inB 0 s.ns1)
  (sel ((Nat.ble 1 (len (dropN (s.gs1 0) 3))) && (okCKs [(CK.int .i64)] (dropN (s.gs1 0) 3)))
  (sel (Nat.beq s.ns8 (len s.eh0) && Nat.ble ((s.ns8 + 1) * 32) room)
  (sel (inB 1 (s.ns0 + 1))
  (sel (inB 1 (s.ns1 + 1))
  (.next ⟨1, (s.ns0 - 1), (fun k => s.gs0 (1 + k)), (s.ns1 - 1), (fun k => s.gs1 (1 + k)), (s.ns8 + 1), (app s.eh0 [[(i (toI (hdA (s.gs0 0)))), (i (toI (hdA (tlA (s.gs0 0))))), (i (if (toI (hdA (dropN (s.gs1 0) 2))) > (toI (hdA (tlA (tlA (s.gs0 0))))) then (toI (hdA (dropN (s.gs1 0) 2))) else (toI (hdA (tlA (tlA (s.gs0 0))))))), (i (if (toI (hdA (dropN (s.gs1 0) 3))) < (toI (hdA (tlA (tlA (tlA (s.gs0 0)))))) then (toI (hdA (dropN (s.gs1 0) 3))) else (toI (hdA (tlA (tlA (tlA (s.gs0 0))))))))]])⟩)
  .fail)
  .fail)
  .fail)
  .fail)
  .fail)
  .fail)
  .fail)
  .fail)
  .fail))
  .fail)
  .fail)
  .fail)
  .fail))))
  (.exit 2)))
theorem q17_0_1 (p : Pg17_0) (s : Sg17_0) (c1 c2 c3 c4 c5 c6 c7 c8 c9 c10 c11 c12 c13 c14 c15 : Bool)  : (fo17_0 p s) (sel c1
 (sel c2
  (sel c3
  (sel c4
  (sel c5
  (sel c6
  (.next ⟨1, (s.ns0 - 1), (fun k => s.gs0 (1 + k)), s.ns1, s.gs1, (s.ns8 + 1), (app s.eh0 [[(i (toI (hdA (s.gs0 0)))), (i (toI (hdA (tlA (s.gs0 0))))), (i (toI (hdA (tlA (tlA (s.gs0 0)))))), (i (toI (hdA (tlA (tlA (tlA (s.gs0 0)))))))]])⟩)
  .fail)
  .fail)
  .fail)
  .fail)
  (sel c1
  (sel c3
  (sel c4
  (sel c7
  (sel c8
  (sel c9
  (sel c3
  (sel c4
  (sel c5
  (sel c6
  (.next ⟨1, (s.ns0 - 1), (fun k => s.gs0 (1 + k)), s.ns1, s.gs1, (s.ns8 + 1), (app s.eh0 [[(i (toI (hdA (s.gs0 0)))), (i (toI (hdA (tlA (s.gs0 0))))), (i (toI (hdA (tlA (tlA (s.gs0 0)))))), (i (toI (hdA (tlA (tlA (tlA (s.gs0 0)))))))]])⟩)
  .fail)
  .fail)
  .fail)
  .fail)
  (sel c10
  (sel c7
  (sel c8
  (sel c5
  (sel c11
  (.next ⟨1, s.ns0, s.gs0, (s.ns1 - 1), (fun k => s.gs1 (1 + k)), (s.ns8 + 1), (app s.eh0 [[(i (toI (hdA (s.gs1 0)))), (i (toI (hdA (tlA (s.gs1 0))))), (i (toI (hdA (tlA (tlA (s.gs1 0)))))), (i (toI (hdA (tlA (tlA (tlA (s.gs1 0)))))))]])⟩)
  .fail)
  .fail)
  .fail)
  .fail)
  (sel c3
  (sel c4
  (sel c7
  (sel c8
  (sel c12
  (sel c7
  (sel c8
  (sel c5
  (sel c11
  (.next ⟨1, s.ns0, s.gs0, (s.ns1 - 1), (fun k => s.gs1 (1 + k)), (s.ns8 + 1), (app s.eh0 [[(i (toI (hdA (s.gs1 0)))), (i (toI (hdA (tlA (s.gs1 0))))), (i (toI (hdA (tlA (tlA (s.gs1 0)))))), (i (toI (hdA (tlA (tlA (tlA (s.gs1 0)))))))]])⟩)
  .fail)
  .fail)
  .fail)
  .fail)
  (sel c3
  (sel c4
  (sel c7
  (sel c13
  (sel c7
  (sel c14
  (sel c5
  (sel c6
  (sel c11
  (.next ⟨1, (s.ns0 - 1), (fun k => s.gs0 (1 + k)), (s.ns1 - 1), (fun k => s.gs1 (1 + k)), (s.ns8 + 1), (app s.eh0 [[(i (toI (hdA (s.gs0 0)))), (i (toI (hdA (tlA (s.gs0 0))))), (i (if (toI (hdA (dropN (s.gs1 0) 2))) > (toI (hdA (tlA (tlA (s.gs0 0))))) then (toI (hdA (dropN (s.gs1 0) 2))) else (toI (hdA (tlA (tlA (s.gs0 0))))))), (i (if (toI (hdA (dropN (s.gs1 0) 3))) < (toI (hdA (tlA (tlA (tlA (s.gs0 0)))))) then (toI (hdA (dropN (s.gs1 0) 3))) else (toI (hdA (tlA (tlA (tlA (s.gs0 0))))))))]])⟩)
  .fail)
  .fail)
  .fail)
  .fail)
  .fail)
  .fail)
  .fail)
  .fail)
  .fail))
  .fail)
  .fail)
  .fail)
  .fail)))
  .fail)
  .fail)
  .fail)
  .fail)
  (sel c10
  (sel c7
  (sel c8
  (sel c5
  (sel c11
  (.next ⟨1, s.ns0, s.gs0, (s.ns1 - 1), (fun k => s.gs1 (1 + k)), (s.ns8 + 1), (app s.eh0 [[(i (toI (hdA (s.gs1 0)))), (i (toI (hdA (tlA (s.gs1 0))))), (i (toI (hdA (tlA (tlA (s.gs1 0)))))), (i (toI (hdA (tlA (tlA (tlA (s.gs1 0)))))))]])⟩)
  .fail)
  .fail)
  .fail)
  .fail)
  (sel c3
  (sel c4
  (sel c7
  (sel c8
  (sel c12
  (sel c7
  (sel c8
  (sel c5
  (sel c11
  (.next ⟨1, s.ns0, s.gs0, (s.ns1 - 1), (fun k => s.gs1 (1 + k)), (s.ns8 + 1), (app s.eh0 [[(i (toI (hdA (s.gs1 0)))), (i (toI (hdA (tlA (s.gs1 0))))), (i (toI (hdA (tlA (tlA (s.gs1 0)))))), (i (toI (hdA (tlA (tlA (tlA (s.gs1 0)))))))]])⟩)
  .fail)
  .fail)
  .fail)
  .fail)
  (sel c3
  (sel c4
  (sel c7
  (sel c13
  (sel c7
  (sel c14
  (sel c5
  (sel c6
  (sel c11
  (.next ⟨1, (s.ns0 - 1), (fun k => s.gs0 (1 + k)), (s.ns1 - 1), (fun k => s.gs1 (1 + k)), (s.ns8 + 1), (app s.eh0 [[(i (toI (hdA (s.gs0 0)))), (i (toI (hdA (tlA (s.gs0 0))))), (i (if (toI (hdA (dropN (s.gs1 0) 2))) > (toI (hdA (tlA (tlA (s.gs0 0))))) then (toI (hdA (dropN (s.gs1 0) 2))) else (toI (hdA (tlA (tlA (s.gs0 0))))))), (i (if (toI (hdA (dropN (s.gs1 0) 3))) < (toI (hdA (tlA (tlA (tlA (s.gs0 0)))))) then (toI (hdA (dropN (s.gs1 0) 3))) else (toI (hdA (tlA (tlA (tlA (s.gs0 0))))))))]])⟩)
  .fail)
  .fail)
  .fail)
  .fail)
  .fail)
  .fail)
  .fail)
  .fail)
  .fail))
  .fail)
  .fail)
  .fail)
  .fail))))
 (sel c15
  (sel c2
  (sel c3
  (sel c4
  (sel c5
  (sel c6
  (.next ⟨1, (s.ns0 - 1), (fun k => s.gs0 (1 + k)), s.ns1, s.gs1, (s.ns8 + 1), (app s.eh0 [[(i (toI (hdA (s.gs0 0)))), (i (toI (hdA (tlA (s.gs0 0))))), (i (toI (hdA (tlA (tlA (s.gs0 0)))))), (i (toI (hdA (tlA (tlA (tlA (s.gs0 0)))))))]])⟩)
  .fail)
  .fail)
  .fail)
  .fail)
  (sel c1
  (sel c3
  (sel c4
  (sel c7
  (sel c8
  (sel c9
  (sel c3
  (sel c4
  (sel c5
  (sel c6
  (.next ⟨1, (s.ns0 - 1), (fun k => s.gs0 (1 + k)), s.ns1, s.gs1, (s.ns8 + 1), (app s.eh0 [[(i (toI (hdA (s.gs0 0)))), (i (toI (hdA (tlA (s.gs0 0))))), (i (toI (hdA (tlA (tlA (s.gs0 0)))))), (i (toI (hdA (tlA (tlA (tlA (s.gs0 0)))))))]])⟩)
  .fail)
  .fail)
  .fail)
  .fail)
  (sel c10
  (sel c7
  (sel c8
  (sel c5
  (sel c11
  (.next ⟨1, s.ns0, s.gs0, (s.ns1 - 1), (fun k => s.gs1 (1 + k)), (s.ns8 + 1), (app s.eh0 [[(i (toI (hdA (s.gs1 0)))), (i (toI (hdA (tlA (s.gs1 0))))), (i (toI (hdA (tlA (tlA (s.gs1 0)))))), (i (toI (hdA (tlA (tlA (tlA (s.gs1 0)))))))]])⟩)
  .fail)
  .fail)
  .fail)
  .fail)
  (sel c3
  (sel c4
  (sel c7
  (sel c8
  (sel c12
  (sel c7
  (sel c8
  (sel c5
  (sel c11
  (.next ⟨1, s.ns0, s.gs0, (s.ns1 - 1), (fun k => s.gs1 (1 + k)), (s.ns8 + 1), (app s.eh0 [[(i (toI (hdA (s.gs1 0)))), (i (toI (hdA (tlA (s.gs1 0))))), (i (toI (hdA (tlA (tlA (s.gs1 0)))))), (i (toI (hdA (tlA (tlA (tlA (s.gs1 0)))))))]])⟩)
  .fail)
  .fail)
  .fail)
  .fail)
  (sel c3
  (sel c4
  (sel c7
  (sel c13
  (sel c7
  (sel c14
  (sel c5
  (sel c6
  (sel c11
  (.next ⟨1, (s.ns0 - 1), (fun k => s.gs0 (1 + k)), (s.ns1 - 1), (fun k => s.gs1 (1 + k)), (s.ns8 + 1), (app s.eh0 [[(i (toI (hdA (s.gs0 0)))), (i (toI (hdA (tlA (s.gs0 0))))), (i (if (toI (hdA (dropN (s.gs1 0) 2))) > (toI (hdA (tlA (tlA (s.gs0 0))))) then (toI (hdA (dropN (s.gs1 0) 2))) else (toI (hdA (tlA (tlA (s.gs0 0))))))), (i (if (toI (hdA (dropN (s.gs1 0) 3))) < (toI (hdA (tlA (tlA (tlA (s.gs0 0)))))) then (toI (hdA (dropN (s.gs1 0) 3))) else (toI (hdA (tlA (tlA (tlA (s.gs0 0))))))))]])⟩)
  .fail)
  .fail)
  .fail)
  .fail)
  .fail)
  .fail)
  .fail)
  .fail)
  .fail))
  .fail)
  .fail)
  .fail)
  .fail)))
  .fail)
  .fail)
  .fail)
  .fail)
  (sel c10
  (sel c7
  (sel c8
  (sel c5
  (sel c11
  (.next ⟨1, s.ns0, s.gs0, (s.ns1 - 1), (fun k => s.gs1 (1 + k)), (s.ns8 + 1), (app s.eh0 [[(i (toI (hdA (s.gs1 0)))), (i (toI (hdA (tlA (s.gs1 0))))), (i (toI (hdA (tlA (tlA (s.gs1 0)))))), (i (toI (hdA (tlA (tlA (tlA (s.gs1 0)))))))]])⟩)
  .fail)
  .fail)
  .fail)
  .fail)
  (sel c3
  (sel c4
  (sel c7
  (sel c8
  (sel c12
  (sel c7
  (sel c8
  (sel c5
  (sel c11
  (.next ⟨1, s.ns0, s.gs0, (s.ns1 - 1), (fun k => s.gs1 (1 + k)), (s.ns8 + 1), (app s.eh0 [[(i (toI (hdA (s.gs1 0)))), (i (toI (hdA (tlA (s.gs1 0))))), (i (toI (hdA (tlA (tlA (s.gs1 0)))))), (i (toI (hdA (tlA (tlA (tlA (s.gs1 0)))))))]])⟩)
  .fail)
  .fail)
  .fail)
  .fail)
  (sel c3
  (sel c4
  (sel c7
  (sel c13
  (sel c7
  (sel c14
  (sel c5
  (sel c6
  (sel c11
  (.next ⟨1, (s.ns0 - 1), (fun k => s.gs0 (1 + k)), (s.ns1 - 1), (fun k => s.gs1 (1 + k)), (s.ns8 + 1), (app s.eh0 [[(i (toI (hdA (s.gs0 0)))), (i (toI (hdA (tlA (s.gs0 0))))), (i (if (toI (hdA (dropN (s.gs1 0) 2))) > (toI (hdA (tlA (tlA (s.gs0 0))))) then (toI (hdA (dropN (s.gs1 0) 2))) else (toI (hdA (tlA (tlA (s.gs0 0))))))), (i (if (toI (hdA (dropN (s.gs1 0) 3))) < (toI (hdA (tlA (tlA (tlA (s.gs0 0)))))) then (toI (hdA (dropN (s.gs1 0) 3))) else (toI (hdA (tlA (tlA (tlA (s.gs0 0))))))))]])⟩)
  .fail)
  .fail)
  .fail)
  .fail)
  .fail)
  .fail)
  .fail)
  .fail)
  .fail))
  .fail)
  .fail)
  .fail)
  .fail))))
  (.exit 2))) = (sel c1
 (sel c2
  (sel c3
  (sel c4
  (sel c5
  (sel c6
  (some (.normal, h17_0_1 p ⟨1, (s.ns0 - 1), (fun k => s.gs0 (1 + k)), s.ns1, s.gs1, (s.ns8 + 1), (app s.eh0 [[(i (toI (hdA (s.gs0 0)))), (i (toI (hdA (tlA (s.gs0 0))))), (i (toI (hdA (tlA (tlA (s.gs0 0)))))), (i (toI (hdA (tlA (tlA (tlA (s.gs0 0)))))))]])⟩))
  none)
  none)
  none)
  none)
  (sel c1
  (sel c3
  (sel c4
  (sel c7
  (sel c8
  (sel c9
  (sel c3
  (sel c4
  (sel c5
  (sel c6
  (some (.normal, h17_0_1 p ⟨1, (s.ns0 - 1), (fun k => s.gs0 (1 + k)), s.ns1, s.gs1, (s.ns8 + 1), (app s.eh0 [[(i (toI (hdA (s.gs0 0)))), (i (toI (hdA (tlA (s.gs0 0))))), (i (toI (hdA (tlA (tlA (s.gs0 0)))))), (i (toI (hdA (tlA (tlA (tlA (s.gs0 0)))))))]])⟩))
  none)
  none)
  none)
  none)
  (sel c10
  (sel c7
  (sel c8
  (sel c5
  (sel c11
  (some (.normal, h17_0_1 p ⟨1, s.ns0, s.gs0, (s.ns1 - 1), (fun k => s.gs1 (1 + k)), (s.ns8 + 1), (app s.eh0 [[(i (toI (hdA (s.gs1 0)))), (i (toI (hdA (tlA (s.gs1 0))))), (i (toI (hdA (tlA (tlA (s.gs1 0)))))), (i (toI (hdA (tlA (tlA (tlA (s.gs1 0)))))))]])⟩))
  none)
  none)
  none)
  none)
  (sel c3
  (sel c4
  (sel c7
  (sel c8
  (sel c12
  (sel c7
  (sel c8
  (sel c5
  (sel c11
  (some (.normal, h17_0_1 p ⟨1, s.ns0, s.gs0, (s.ns1 - 1), (fun k => s.gs1 (1 + k)), (s.ns8 + 1), (app s.eh0 [[(i (toI (hdA (s.gs1 0)))), (i (toI (hdA (tlA (s.gs1 0))))), (i (toI (hdA (tlA (tlA (s.gs1 0)))))), (i (toI (hdA (tlA (tlA (tlA (s.gs1 0)))))))]])⟩))
  none)
  none)
  none)
  none)
  (sel c3
  (sel c4
  (sel c7
  (sel c13
  (sel c7
  (sel c14
  (sel c5
  (sel c6
  (sel c11
  (some (.normal, h17_0_1 p ⟨1, (s.ns0 - 1), (fun k => s.gs0 (1 + k)), (s.ns1 - 1), (fun k => s.gs1 (1 + k)), (s.ns8 + 1), (app s.eh0 [[(i (toI (hdA (s.gs0 0)))), (i (toI (hdA (tlA (s.gs0 0))))), (i (if (toI (hdA (dropN (s.gs1 0) 2))) > (toI (hdA (tlA (tlA (s.gs0 0))))) then (toI (hdA (dropN (s.gs1 0) 2))) else (toI (hdA (tlA (tlA (s.gs0 0))))))), (i (if (toI (hdA (dropN (s.gs1 0) 3))) < (toI (hdA (tlA (tlA (tlA (s.gs0 0)))))) then (toI (hdA (dropN (s.gs1 0) 3))) else (toI (hdA (tlA (tlA (tlA (s.gs0 0))))))))]])⟩))
  none)
  none)
  none)
  none)
  none)
  none)
  none)
  none)
  none))
  none)
  none)
  none)
  none)))
  none)
  none)
  none)
  none)
  (sel c10
  (sel c7
  (sel c8
  (sel c5
  (sel c11
  (some (.normal, h17_0_1 p ⟨1, s.ns0, s.gs0, (s.ns1 - 1), (fun k => s.gs1 (1 + k)), (s.ns8 + 1), (app s.eh0 [[(i (toI (hdA (s.gs1 0)))), (i (toI (hdA (tlA (s.gs1 0))))), (i (toI (hdA (tlA (tlA (s.gs1 0)))))), (i (toI (hdA (tlA (tlA (tlA (s.gs1 0)))))))]])⟩))
  none)
  none)
  none)
  none)
  (sel c3
  (sel c4
  (sel c7
  (sel c8
  (sel c12
  (sel c7
  (sel c8
  (sel c5
  (sel c11
  (some (.normal, h17_0_1 p ⟨1, s.ns0, s.gs0, (s.ns1 - 1), (fun k => s.gs1 (1 + k)), (s.ns8 + 1), (app s.eh0 [[(i (toI (hdA (s.gs1 0)))), (i (toI (hdA (tlA (s.gs1 0))))), (i (toI (hdA (tlA (tlA (s.gs1 0)))))), (i (toI (hdA (tlA (tlA (tlA (s.gs1 0)))))))]])⟩))
  none)
  none)
  none)
  none)
  (sel c3
  (sel c4
  (sel c7
  (sel c13
  (sel c7
  (sel c14
  (sel c5
  (sel c6
  (sel c11
  (some (.normal, h17_0_1 p ⟨1, (s.ns0 - 1), (fun k => s.gs0 (1 + k)), (s.ns1 - 1), (fun k => s.gs1 (1 + k)), (s.ns8 + 1), (app s.eh0 [[(i (toI (hdA (s.gs0 0)))), (i (toI (hdA (tlA (s.gs0 0))))), (i (if (toI (hdA (dropN (s.gs1 0) 2))) > (toI (hdA (tlA (tlA (s.gs0 0))))) then (toI (hdA (dropN (s.gs1 0) 2))) else (toI (hdA (tlA (tlA (s.gs0 0))))))), (i (if (toI (hdA (dropN (s.gs1 0) 3))) < (toI (hdA (tlA (tlA (tlA (s.gs0 0)))))) then (toI (hdA (dropN (s.gs1 0) 3))) else (toI (hdA (tlA (tlA (tlA (s.gs0 0))))))))]])⟩))
  none)
  none)
  none)
  none)
  none)
  none)
  none)
  none)
  none))
  none)
  none)
  none)
  none))))
 (sel c15
  (sel c2
  (sel c3
  (sel c4
  (sel c5
  (sel c6
  (some (.normal, h17_0_1 p ⟨1, (s.ns0 - 1), (fun k => s.gs0 (1 + k)), s.ns1, s.gs1, (s.ns8 + 1), (app s.eh0 [[(i (toI (hdA (s.gs0 0)))), (i (toI (hdA (tlA (s.gs0 0))))), (i (toI (hdA (tlA (tlA (s.gs0 0)))))), (i (toI (hdA (tlA (tlA (tlA (s.gs0 0)))))))]])⟩))
  none)
  none)
  none)
  none)
  (sel c1
  (sel c3
  (sel c4
  (sel c7
  (sel c8
  (sel c9
  (sel c3
  (sel c4
  (sel c5
  (sel c6
  (some (.normal, h17_0_1 p ⟨1, (s.ns0 - 1), (fun k => s.gs0 (1 + k)), s.ns1, s.gs1, (s.ns8 + 1), (app s.eh0 [[(i (toI (hdA (s.gs0 0)))), (i (toI (hdA (tlA (s.gs0 0))))), (i (toI (hdA (tlA (tlA (s.gs0 0)))))), (i (toI (hdA (tlA (tlA (tlA (s.gs0 0)))))))]])⟩))
  none)
  none)
  none)
  none)
  (sel c10
  (sel c7
  (sel c8
  (sel c5
  (sel c11
  (some (.normal, h17_0_1 p ⟨1, s.ns0, s.gs0, (s.ns1 - 1), (fun k => s.gs1 (1 + k)), (s.ns8 + 1), (app s.eh0 [[(i (toI (hdA (s.gs1 0)))), (i (toI (hdA (tlA (s.gs1 0))))), (i (toI (hdA (tlA (tlA (s.gs1 0)))))), (i (toI (hdA (tlA (tlA (tlA (s.gs1 0)))))))]])⟩))
  none)
  none)
  none)
  none)
  (sel c3
  (sel c4
  (sel c7
  (sel c8
  (sel c12
  (sel c7
  (sel c8
  (sel c5
  (sel c11
  (some (.normal, h17_0_1 p ⟨1, s.ns0, s.gs0, (s.ns1 - 1), (fun k => s.gs1 (1 + k)), (s.ns8 + 1), (app s.eh0 [[(i (toI (hdA (s.gs1 0)))), (i (toI (hdA (tlA (s.gs1 0))))), (i (toI (hdA (tlA (tlA (s.gs1 0)))))), (i (toI (hdA (tlA (tlA (tlA (s.gs1 0)))))))]])⟩))
  none)
  none)
  none)
  none)
  (sel c3
  (sel c4
  (sel c7
  (sel c13
  (sel c7
  (sel c14
  (sel c5
  (sel c6
  (sel c11
  (some (.normal, h17_0_1 p ⟨1, (s.ns0 - 1), (fun k => s.gs0 (1 + k)), (s.ns1 - 1), (fun k => s.gs1 (1 + k)), (s.ns8 + 1), (app s.eh0 [[(i (toI (hdA (s.gs0 0)))), (i (toI (hdA (tlA (s.gs0 0))))), (i (if (toI (hdA (dropN (s.gs1 0) 2))) > (toI (hdA (tlA (tlA (s.gs0 0))))) then (toI (hdA (dropN (s.gs1 0) 2))) else (toI (hdA (tlA (tlA (s.gs0 0))))))), (i (if (toI (hdA (dropN (s.gs1 0) 3))) < (toI (hdA (tlA (tlA (tlA (s.gs0 0)))))) then (toI (hdA (dropN (s.gs1 0) 3))) else (toI (hdA (tlA (tlA (tlA (s.gs0 0))))))))]])⟩))
  none)
  none)
  none)
  none)
  none)
  none)
  none)
  none)
  none))
  none)
  none)
  none)
  none)))
  none)
  none)
  none)
  none)
  (sel c10
  (sel c7
  (sel c8
  (sel c5
  (sel c11
  (some (.normal, h17_0_1 p ⟨1, s.ns0, s.gs0, (s.ns1 - 1), (fun k => s.gs1 (1 + k)), (s.ns8 + 1), (app s.eh0 [[(i (toI (hdA (s.gs1 0)))), (i (toI (hdA (tlA (s.gs1 0))))), (i (toI (hdA (tlA (tlA (s.gs1 0)))))), (i (toI (hdA (tlA (tlA (tlA (s.gs1 0)))))))]])⟩))
  none)
  none)
  none)
  none)
  (sel c3
  (sel c4
  (sel c7
  (sel c8
  (sel c12
  (sel c7
  (sel c8
  (sel c5
  (sel c11
  (some (.normal, h17_0_1 p ⟨1, s.ns0, s.gs0, (s.ns1 - 1), (fun k => s.gs1 (1 + k)), (s.ns8 + 1), (app s.eh0 [[(i (toI (hdA (s.gs1 0)))), (i (toI (hdA (tlA (s.gs1 0))))), (i (toI (hdA (tlA (tlA (s.gs1 0)))))), (i (toI (hdA (tlA (tlA (tlA (s.gs1 0)))))))]])⟩))
  none)
  none)
  none)
  none)
  (sel c3
  (sel c4
  (sel c7
  (sel c13
  (sel c7
  (sel c14
  (sel c5
  (sel c6
  (sel c11
  (some (.normal, h17_0_1 p ⟨1, (s.ns0 - 1), (fun k => s.gs0 (1 + k)), (s.ns1 - 1), (fun k => s.gs1 (1 + k)), (s.ns8 + 1), (app s.eh0 [[(i (toI (hdA (s.gs0 0)))), (i (toI (hdA (tlA (s.gs0 0))))), (i (if (toI (hdA (dropN (s.gs1 0) 2))) > (toI (hdA (tlA (tlA (s.gs0 0))))) then (toI (hdA (dropN (s.gs1 0) 2))) else (toI (hdA (tlA (tlA (s.gs0 0))))))), (i (if (toI (hdA (dropN (s.gs1 0) 3))) < (toI (hdA (tlA (tlA (tlA (s.gs0 0)))))) then (toI (hdA (dropN (s.gs1 0) 3))) else (toI (hdA (tlA (tlA (tlA (s.gs0 0))))))))]])⟩))
  none)
  none)
  none)
  none)
  none)
  none)
  none)
  none)
  none))
  none)
  none)
  none)
  none))))
  (some (x17_0_2 p s)))) := (stpSel (f := (fo17_0 p s)) (stpSel (f := (fo17_0 p s)) (stpSel (f := (fo17_0 p s)) (stpSel (f := (fo17_0 p s)) (stpSel (f := (fo17_0 p s)) (stpSel (f := (fo17_0 p s)) rfl rfl) rfl) rfl) rfl) (stpSel (f := (fo17_0 p s)) (stpSel (f := (fo17_0 p s)) (stpSel (f := (fo17_0 p s)) (stpSel (f := (fo17_0 p s)) (stpSel (f := (fo17_0 p s)) (stpSel (f := (fo17_0 p s)) (stpSel (f := (fo17_0 p s)) (stpSel (f := (fo17_0 p s)) (stpSel (f := (fo17_0 p s)) (stpSel (f := (fo17_0 p s)) rfl rfl) rfl) rfl) rfl) (stpSel (f := (fo17_0 p s)) (stpSel (f := (fo17_0 p s)) (stpSel (f := (fo17_0 p s)) (stpSel (f := (fo17_0 p s)) (stpSel (f := (fo17_0 p s)) rfl rfl) rfl) rfl) rfl) (stpSel (f := (fo17_0 p s)) (stpSel (f := (fo17_0 p s)) (stpSel (f := (fo17_0 p s)) (stpSel (f := (fo17_0 p s)) (stpSel (f := (fo17_0 p s)) (stpSel (f := (fo17_0 p s)) (stpSel (f := (fo17_0 p s)) (stpSel (f := (fo17_0 p s)) (stpSel (f := (fo17_0 p s)) rfl rfl) rfl) rfl) rfl) (stpSel (f := (fo17_0 p s)) (stpSel (f := (fo17_0 p s)) (stpSel (f := (fo17_0 p s)) (stpSel (f := (fo17_0 p s)) (stpSel (f := (fo17_0 p s)) (stpSel (f := (fo17_0 p s)) (stpSel (f := (fo17_0 p s)) (stpSel (f := (fo17_0 p s)) (stpSel (f := (fo17_0 p s)) rfl rfl) rfl) rfl) rfl) rfl) rfl) rfl) rfl) rfl)) rfl) rfl) rfl) rfl))) rfl) rfl) rfl) rfl) (stpSel (f := (fo17_0 p s)) (stpSel (f := (fo17_0 p s)) (stpSel (f := (fo17_0 p s)) (stpSel (f := (fo17_0 p s)) (stpSel (f := (fo17_0 p s)) rfl rfl) rfl) rfl) rfl) (stpSel (f := (fo17_0 p s)) (stpSel (f := (fo17_0 p s)) (stpSel (f := (fo17_0 p s)) (stpSel (f := (fo17_0 p s)) (stpSel (f := (fo17_0 p s)) (stpSel (f := (fo17_0 p s)) (stpSel (f := (fo17_0 p s)) (stpSel (f := (fo17_0 p s)) (stpSel (f := (fo17_0 p s)) rfl rfl) rfl) rfl) rfl) (stpSel (f := (fo17_0 p s)) (stpSel (f := (fo17_0 p s)) (stpSel (f := (fo17_0 p s)) (stpSel (f := (fo17_0 p s)) (stpSel (f := (fo17_0 p s)) (stpSel (f := (fo17_0 p s)) (stpSel (f := (fo17_0 p s)) (stpSel (f := (fo17_0 p s)) (stpSel (f := (fo17_0 p s)) rfl rfl) rfl) rfl) rfl) rfl) rfl) rfl) rfl) rfl)) rfl) rfl) rfl) rfl)))) (stpSel (f := (fo17_0 p s)) (stpSel (f := (fo17_0 p s)) (stpSel (f := (fo17_0 p s)) (stpSel (f := (fo17_0 p s)) (stpSel (f := (fo17_0 p s)) (stpSel (f := (fo17_0 p s)) rfl rfl) rfl) rfl) rfl) (stpSel (f := (fo17_0 p s)) (stpSel (f := (fo17_0 p s)) (stpSel (f := (fo17_0 p s)) (stpSel (f := (fo17_0 p s)) (stpSel (f := (fo17_0 p s)) (stpSel (f := (fo17_0 p s)) (stpSel (f := (fo17_0 p s)) (stpSel (f := (fo17_0 p s)) (stpSel (f := (fo17_0 p s)) (stpSel (f := (fo17_0 p s)) rfl rfl) rfl) rfl) rfl) (stpSel (f := (fo17_0 p s)) (stpSel (f := (fo17_0 p s)) (stpSel (f := (fo17_0 p s)) (stpSel (f := (fo17_0 p s)) (stpSel (f := (fo17_0 p s)) rfl rfl) rfl) rfl) rfl) (stpSel (f := (fo17_0 p s)) (stpSel (f := (fo17_0 p s)) (stpSel (f := (fo17_0 p s)) (stpSel (f := (fo17_0 p s)) (stpSel (f := (fo17_0 p s)) (stpSel (f := (fo17_0 p s)) (stpSel (f := (fo17_0 p s)) (stpSel (f := (fo17_0 p s)) (stpSel (f := (fo17_0 p s)) rfl rfl) rfl) rfl) rfl) (stpSel (f := (fo17_0 p s)) (stpSel (f := (fo17_0 p s)) (stpSel (f := (fo17_0 p s)) (stpSel (f := (fo17_0 p s)) (stpSel (f := (fo17_0 p s)) (stpSel (f := (fo17_0 p s)) (stpSel (f := (fo17_0 p s)) (stpSel (f := (fo17_0 p s)) (stpSel (f := (fo17_0 p s)) rfl rfl) rfl) rfl) rfl) rfl) rfl) rfl) rfl) rfl)) rfl) rfl) rfl) rfl))) rfl) rfl) rfl) rfl) (stpSel (f := (fo17_0 p s)) (stpSel (f := (fo17_0 p s)) (stpSel (f := (fo17_0 p s)) (stpSel (f := (fo17_0 p s)) (stpSel (f := (fo17_0 p s)) rfl rfl) rfl) rfl) rfl) (stpSel (f := (fo17_0 p s)) (stpSel (f := (fo17_0 p s)) (stpSel (f := (fo17_0 p s)) (stpSel (f := (fo17_0 p s)) (stpSel (f := (fo17_0 p s)) (stpSel (f := (fo17_0 p s)) (stpSel (f := (fo17_0 p s)) (stpSel (f := (fo17_0 p s)) (stpSel (f := (fo17_0 p s)) rfl rfl) rfl) rfl) rfl) (stpSel (f := (fo17_0 p s)) (stpSel (f := (fo17_0 p s)) (stpSel (f := (fo17_0 p s)) (stpSel (f := (fo17_0 p s)) (stpSel (f := (fo17_0 p s)) (stpSel (f := (fo17_0 p s)) (stpSel (f := (fo17_0 p s)) (stpSel (f := (fo17_0 p s)) (stpSel (f := (fo17_0 p s)) rfl rfl) rfl) rfl) rfl) rfl) rfl) rfl) rfl) rfl)) rfl) rfl) rfl) rfl)))) rfl))
theorem sp17_0_1 (p : Pg17_0) (s : Sg17_0) : (roundE (En tb17u) 0 [0, 1, 8] (.pc l17_0) (h17_0_1 p s)).run = fo17_0 p s (su17_0_1 p s) := (rd17_0_1 p s _ rfl).trans (q17_0_1 p s _ _ _ _ _ _ _ _ _ _ _ _ _ _ _).symm
noncomputable def st17_0 (p : Pg17_0) (s : Sg17_0) : Stp Sg17_0 := (sel (Nat.beq s.ph 1) (su17_0_1 p s) (su17_0_0 p s))
theorem sp17_0 (p : Pg17_0) (s : Sg17_0) : (roundE (En tb17u) 0 [0, 1, 8] (.pc l17_0) (en17_0 p s)).run = fo17_0 p s (st17_0 p s) := by
  show (roundE (En tb17u) 0 [0, 1, 8] (.pc l17_0) (sel (Nat.beq s.ph 1) (h17_0_1 p s) (h17_0_0 p s))).run = fo17_0 p s (sel (Nat.beq s.ph 1) (su17_0_1 p s) (su17_0_0 p s))
  cases Nat.beq s.ph 1 with
  | true => exact sp17_0_1 p s
  | false =>
  exact sp17_0_0 p s
noncomputable def al17_0_0 : Alt Pg17_0 Sg17_0 := ⟨[(.s (.tree 4)), (.s (.tree 4)), (.s .unk), (.s .unk), (.s .unk), (.s .unk), (.s .unk), (.s .unk), (.s .nil), (.s .unk), (.s .unk), (.s .unk), (.s .unk), (.s .unk), (.s .unk), (.s .unk), (.s .unk), (.s .unk), (.s .unk), (.s .unk), (.s .unk), (.s .unk), (.s .unk), (.s .unk), (.s .unk), (.s .unk), (.s .unk), (.s .unk), (.s .unk), (.s .unk), (.s .unk), (.s .unk), (.s .unk), (.s .unk), (.s .unk), (.s .unk), (.s .unk), (.s .unk), (.s .unk), (.s .unk), (.s .unk), (.s .unk), (.s .unk), (.s .unk), (.s .unk), (.s .unk), (.s .unk), (.s .unk), (.s .unk), (.s .unk), (.s .unk), (.s .unk), (.s .unk), (.s .unk), (.s .unk), (.s .unk), (.s .unk), (.s .unk), (.s .unk), (.s .unk), (.s .unk), (.s .unk), (.s .unk), (.s .unk), (.s .unk), (.s .unk), (.s .unk), (.s .unk), (.s .unk), (.s .unk), (.s .unk), (.s .unk), (.s .unk), (.s .unk), (.s .unk), (.s .unk), (.s .unk), (.s .unk), (.s .unk), (.s .unk), (.s .unk), (.s .unk), (.s .unk), (.s .unk), (.s .unk), (.s .unk), (.s .unk), (.s .unk), (.s .unk), (.s .unk), (.s .unk), (.s .unk), (.s .unk), (.s .unk), (.s .unk), (.s .unk), (.s .unk), (.s .unk), (.s .unk), (.s .unk), (.s .unk), (.s .unk), (.s .unk), (.s .unk), (.s .unk), (.s .unk), (.s .unk), (.s .unk), (.s .unk), (.s .unk), (.s .unk), (.s .unk)], [], fun a H => (⟨⟩, ⟨0, (toN (slotA a 0)), (toG (slotA a 0)), (toN (slotA a 1)), (toG (slotA a 1)), 0, []⟩)⟩
theorem la17_0_0 (a : List AVal) (H : List ABlk) : (⟨asSls al17_0_0.sh a, asBks al17_0_0.bl H⟩ : St) = en17_0 (al17_0_0.rd (asSls al17_0_0.sh a) (asBks al17_0_0.bl H)).1 (al17_0_0.rd (asSls al17_0_0.sh a) (asBks al17_0_0.bl H)).2 := by kernel_rfl
noncomputable def al17_0_1 : Alt Pg17_0 Sg17_0 := ⟨[(.s (.tree 4)), (.s (.tree 4)), (.s .unk), (.s .unk), (.s .unk), (.s .unk), (.s .unk), (.s .unk), (.s (.sl 0 0 (some 0) none)), (.s .unk), (.s .unk), (.s .unk), (.s .unk), (.s .unk), (.s .unk), (.s .unk), (.s .unk), (.s .unk), (.s .unk), (.s .unk), (.s .unk), (.s .unk), (.s .unk), (.s .unk), (.s .unk), (.s .unk), (.s .unk), (.s .unk), (.s .unk), (.s .unk), (.s .unk), (.s .unk), (.s .unk), (.s .unk), (.s .unk), (.s .unk), (.s .unk), (.s .unk), (.s .unk), (.s .unk), (.s .unk), (.s .unk), (.s .unk), (.s .unk), (.s .unk), (.s .unk), (.s .unk), (.s .unk), (.s .unk), (.s .unk), (.s .unk), (.s .unk), (.s .unk), (.s .unk), (.s .unk), (.s .unk), (.s .unk), (.s .unk), (.s .unk), (.s .unk), (.s .unk), (.s .unk), (.s .unk), (.s .unk), (.s .unk), (.s .unk), (.s .unk), (.s .unk), (.s .unk), (.s .unk), (.s .unk), (.s .unk), (.s .unk), (.s .unk), (.s .unk), (.s .unk), (.s .unk), (.s .unk), (.s .unk), (.s .unk), (.s .unk), (.s .unk), (.s .unk), (.s .unk), (.s .unk), (.s .unk), (.s .unk), (.s .unk), (.s .unk), (.s .unk), (.s .unk), (.s .unk), (.s .unk), (.s .unk), (.s .unk), (.s .unk), (.s .unk), (.s .unk), (.s .unk), (.s .unk), (.s .unk), (.s .unk), (.s .unk), (.s .unk), (.s .unk), (.s .unk), (.s .unk), (.s .unk), (.s .unk), (.s .unk), (.s .unk), (.s .unk)], [⟨27, 4, true, none⟩], fun a H => (⟨⟩, ⟨1, (toN (slotA a 0)), (toG (slotA a 0)), (toN (slotA a 1)), (toG (slotA a 1)), (slN (slotA a 8)), (elsA H 0)⟩)⟩
theorem la17_0_1 (a : List AVal) (H : List ABlk) : (⟨asSls al17_0_1.sh a, asBks al17_0_1.bl H⟩ : St) = en17_0 (al17_0_1.rd (asSls al17_0_1.sh a) (asBks al17_0_1.bl H)).1 (al17_0_1.rd (asSls al17_0_1.sh a) (asBks al17_0_1.bl H)).2 := by kernel_rfl
noncomputable def as17_0 : List (Alt Pg17_0 Sg17_0) := [al17_0_0, al17_0_1]
theorem lo17_0 (s : St) : Below ((loopL 0 [0, 1, 8] as17_0 st17_0 xs17_0) s) (exec (En tb17u) 0 (.loop [0, 1, 8] l17_0) s) :=
  loopL_below (E := En tb17u) (enc := en17_0) (body := (.pc l17_0)) (alts := as17_0) (xs := xs17_0) (.pc _) rfl (.cons la17_0_0 (.cons la17_0_1 .nil)) (.cons nx17_0_1 (.cons nx17_0_2 .nil)) (fun p s => sp17_0 p s) s
noncomputable def ps17 : PS := (.seq (.pc (.ops [(o 4 (.mv (.c (.v (.slice none 0 0))))), (o 5 (.mv (ci 0)))])) (.seq (.pc (.seq (.ops [(o 10 (.mv (.t 0))), (o 11 (.call 12 [(.t 10)])), (o 6 (.mv (.t 11)))]) (.seq (.ops [(o 12 (.mv (.t 6))), (o 13 (.bin .neq (.t 12) (ci 0)))]) (.cond (.t 13) (.seq (.ops [(o 14 (.mv (.t 6))), (o 4 (.mv (.c (.v (.slice none 0 0))))), (o 5 (.mv (.t 14)))]) .ret) .skip)))) (.seq (.pc (.seq (.ops [(o 15 (.mv (.t 1))), (o 16 (.call 12 [(.t 15)])), (o 7 (.mv (.t 16)))]) (.seq (.ops [(o 17 (.mv (.t 7))), (o 18 (.bin .neq (.t 17) (ci 0)))]) (.cond (.t 18) (.seq (.ops [(o 19 (.mv (.t 7))), (o 4 (.mv (.c (.v (.slice none 0 0))))), (o 5 (.mv (.t 19)))]) .ret) .skip)))) (.seq (.pc (.ops [(o 8 (.mv (.c (.v (.slice none 0 0)))))])) (.seq (.pc .skip) (.seq (.block 0 (.sum (loopL 0 [0, 1, 8] as17_0 st17_0 xs17_0))) (.pc (.seq (.block 3 (.seq (.ops [(o 105 (.mv (.t 8))), (o 106 (.len (.t 105))), (o 107 (.bin .gtr (.t 106) (ci 100))), (o 104 (.mv (.t 107)))]) (.cond (.t 104) (.seq (.ops [(o 4 (.mv (.c (.v (.slice none 0 0))))), (o 5 (.mv (ci 2)))]) .ret) (.seq (.ops [(o 109 (.mv (.t 8))), (o 110 (.call 29 [(.t 109), (.c (.fn 40 []))])), (o 108 (.mv (.t 110)))]) (.cond (.t 108) (.seq (.ops [(o 4 (.mv (.c (.v (.slice none 0 0))))), (o 5 (.mv (ci 21)))]) .ret) .skip))))) (.seq (.ops [(o 111 (.mv (.t 8))), (o 4 (.mv (.t 111))), (o 5 (.mv (ci 0)))]) .ret)))))))))
theorem sd17 : Stands (En tb17u) 0 ps17 pf17.body := (.seq (.pc _) (.seq (.pc _) (.seq (.pc _) (.seq (.pc _) (.seq (.pc _) (.seq (.block _ (.sum lo17_0)) (.pc _)))))))
structure Rg17 where
  alt : Nat
  is1 : Int
  ns0 : Nat
  eh0 : List (List AVal)
noncomputable def p17u (x : List Ent) (y : List Ent) : Rg17 := let t1 := (pC (lsE (List.length x) (fun k => rE (gE x k)))); let t2 := (pC (lsE (List.length y) (fun k => rE (gE y k)))); let t3 := (lp (st17_0 (⟨⟩ : Pg17_0)) (⟨0, (List.length x), (fun k => rE (gE x k)), (List.length y), (fun k => rE (gE y k)), 0, []⟩ : Sg17_0)); let t4 := (p29t [] ()); let t5 := (p29t (lsE t3.2.ns8 (fun k => getRow t3.2.eh0 (0 + k))) ()); (sel (okEs (List.length x) (fun k => rE (gE x k)))
 (sel (gC (lsE (List.length x) (fun k => rE (gE x k))))
  (sel (t1 != 0)
  (⟨1, t1, 0, []⟩ : Rg17)
  (sel (okEs (List.length y) (fun k => rE (gE y k)))
  (sel (gC (lsE (List.length y) (fun k => rE (gE y k))))
  (sel (t2 != 0)
  (⟨1, t2, 0, []⟩ : Rg17)
  (sel (Nat.beq t3.1 1)
  (sel (g29t [] ())
  (sel t4
  (⟨1, 21, 0, []⟩ : Rg17)
  (⟨1, 0, 0, []⟩ : Rg17))
  (⟨0, 0, 0, []⟩ : Rg17))
  (sel (Nat.beq t3.1 2)
  (sel (decide ((↑t3.2.ns8 : Int) > 100))
  (⟨1, 2, 0, []⟩ : Rg17)
  (sel (okEs t3.2.ns8 (fun k => getRow t3.2.eh0 (0 + k)))
  (sel (g29t (lsE t3.2.ns8 (fun k => getRow t3.2.eh0 (0 + k))) ())
  (sel t5
  (⟨1, 21, 0, []⟩ : Rg17)
  (⟨2, 0, t3.2.ns8, t3.2.eh0⟩ : Rg17))
  (⟨0, 0, 0, []⟩ : Rg17))
  (⟨0, 0, 0, []⟩ : Rg17)))
  (⟨0, 0, 0, []⟩ : Rg17))))
  (⟨0, 0, 0, []⟩ : Rg17))
  (⟨0, 0, 0, []⟩ : Rg17)))
  (⟨0, 0, 0, []⟩ : Rg17))
 (⟨0, 0, 0, []⟩ : Rg17))
noncomputable def ko17 (r : Rg17) : DT (AVal × List ABlk) := (.ite (Nat.beq r.alt 1) (.ret ((.tup [(.v (.slice none 0 0)), (i r.is1)]), [])) (.ite (Nat.beq r.alt 2) (.ret ((.tup [(.sl 0 0 r.ns0 0), (i 0)]), [⟨27, 4, r.eh0, true, false, 0⟩])) .fail))
noncomputable def S17u : Sum := sum2 cEL cEL (fun x y => ko17 (p17u x y))
theorem r17 (x : List Ent) (y : List Ent) (t1 : Int) (ht1 : t1 = (pC (lsE (List.length x) (fun k => rE (gE x k))))) (t2 : Int) (ht2 : t2 = (pC (lsE (List.length y) (fun k => rE (gE y k))))) (t3 : Nat × Sg17_0) (ht3 : t3 = (lp (st17_0 (⟨⟩ : Pg17_0)) (⟨0, (List.length x), (fun k => rE (gE x k)), (List.length y), (fun k => rE (gE y k)), 0, []⟩ : Sg17_0))) (t4 : Bool) (ht4 : t4 = (p29t [] ())) (t5 : Bool) (ht5 : t5 = (p29t (lsE t3.2.ns8 (fun k => getRow t3.2.eh0 (0 + k))) ())) : (runS (En tb17u) pf17 ps17 [cEL.enc x, cEL.enc y] []).run = (sel (okEs (List.length x) (fun k => rE (gE x k)))
 (sel (gC (lsE (List.length x) (fun k => rE (gE x k))))
  (sel (t1 != 0)
  (some ((.tup [(.v (.slice none 0 0)), (i t1)]), []))
  (sel (okEs (List.length y) (fun k => rE (gE y k)))
  (sel (gC (lsE (List.length y) (fun k => rE (gE y k))))
  (sel (t2 != 0)
  (some ((.tup [(.v (.slice none 0 0)), (i t2)]), []))
  (sel (Nat.beq t3.1 1)
  (sel (g29t [] ())
  (sel t4
  (some ((.tup [(.v (.slice none 0 0)), (i 21)]), []))
  (some ((.tup [(.v (.slice none 0 0)), (i 0)]), [])))
  none)
  (sel (Nat.beq t3.1 2)
  (sel (decide ((↑t3.2.ns8 : Int) > 100))
  (some ((.tup [(.v (.slice none 0 0)), (i 2)]), []))
  (sel (okEs t3.2.ns8 (fun k => getRow t3.2.eh0 (0 + k)))
  (sel (g29t (lsE t3.2.ns8 (fun k => getRow t3.2.eh0 (0 + k))) ())
  (sel t5
  (some ((.tup [(.v (.slice none 0 0)), (i 21)]), []))
  (some ((.tup [(.sl 0 0 t3.2.ns8 0), (i 0)]), [⟨27, 4, t3.2.eh0, true, false, 0⟩])))
  none)
  none))
  none)))
  none)
  none))
  none)
 none) := by subst ht1; subst ht2; subst ht3; subst ht4; subst ht5; kernel_rfl
noncomputable def fo17 : Rg17 → Option (AVal × List ABlk) := fun r => (ko17 r).run
theorem m17 (x : List Ent) (y : List Ent) (c1 c2 c3 c4 c5 c6 c7 c8 c9 c10 c11 c12 c13 c14 : Bool) (t1 : Int) (t2 : Int) (t3 : Nat × Sg17_0) : fo17 (sel c1
 (sel c2
  (sel c3
  (⟨1, t1, 0, []⟩ : Rg17)
  (sel c4
  (sel c5
  (sel c6
  (⟨1, t2, 0, []⟩ : Rg17)
  (sel c7
  (sel c8
  (sel c9
  (⟨1, 21, 0, []⟩ : Rg17)
  (⟨1, 0, 0, []⟩ : Rg17))
  (⟨0, 0, 0, []⟩ : Rg17))
  (sel c10
  (sel c11
  (⟨1, 2, 0, []⟩ : Rg17)
  (sel c12
  (sel c13
  (sel c14
  (⟨1, 21, 0, []⟩ : Rg17)
  (⟨2, 0, t3.2.ns8, t3.2.eh0⟩ : Rg17))
  (⟨0, 0, 0, []⟩ : Rg17))
  (⟨0, 0, 0, []⟩ : Rg17)))
  (⟨0, 0, 0, []⟩ : Rg17))))
  (⟨0, 0, 0, []⟩ : Rg17))
  (⟨0, 0, 0, []⟩ : Rg17)))
  (⟨0, 0, 0, []⟩ : Rg17))
 (⟨0, 0, 0, []⟩ : Rg17)) = (sel c1
 (sel c2
  (sel c3
  (some ((.tup [(.v (.slice none 0 0)), (i t1)]), []))
  (sel c4
  (sel c5
  (sel c6
  (some ((.tup [(.v (.slice none 0 0)), (i t2)]), []))
  (sel c7
  (sel c8
  (sel c9
  (some ((.tup [(.v (.slice none 0 0)), (i 21)]), []))
  (some ((.tup [(.v (.slice none 0 0)), (i 0)]), [])))
  none)
  (sel c10
  (sel c11
  (some ((.tup [(.v (.slice none 0 0)), (i 2)]), []))
  (sel c12
  (sel c13
  (sel c14
  (some ((.tup [(.v (.slice none 0 0)), (i 21)]), []))
  (some ((.tup [(.sl 0 0 t3.2.ns8 0), (i 0)]), [⟨27, 4, t3.2.eh0, true, false, 0⟩])))
  none)
  none))
  none)))
  none)
  none))
  none)
 none) := (stpSel (f := fo17) (stpSel (f := fo17) (stpSel (f := fo17) rfl (stpSel (f := fo17) (stpSel (f := fo17) (stpSel (f := fo17) rfl (stpSel (f := fo17) (stpSel (f := fo17) (stpSel (f := fo17) rfl rfl) rfl) (stpSel (f := fo17) (stpSel (f := fo17) rfl (stpSel (f := fo17) (stpSel (f := fo17) (stpSel (f := fo17) rfl rfl) rfl) rfl)) rfl))) rfl) rfl)) rfl) rfl)
theorem ok17u : FnOk Try.prog G 17 S17u := sum2_ok (b17 (E := En tb17u) rfl (tdeps tbo17u)) fun x y r h => runS_below sd17 _ (((r17 x y _ rfl _ rfl _ rfl _ rfl _ rfl).trans (m17 x y _ _ _ _ _ _ _ _ _ _ _ _ _ _ _ _ _).symm).trans h)
end Go.Ev.W.X

