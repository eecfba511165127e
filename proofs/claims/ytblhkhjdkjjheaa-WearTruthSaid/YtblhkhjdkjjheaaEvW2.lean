/- Printed: functions of the wear chapter, as plain ones (own work). -/
import Derived.Test.YtblhkhjdkjjheaaEvW1
set_option linter.unusedVariables false
set_option linter.unusedSimpArgs false
set_option linter.unnecessarySimpa false
set_option linter.unusedSectionVars false
namespace Go.Ev.W
open Go Go.Ev Go.Ev.Ab Go.Proofs
set_option maxRecDepth 100000
noncomputable def tb45 : List (Nat × Sum) := []
theorem tbo45 : TblOk Try.prog G tb45 := trivial
@[reducible] noncomputable def S45 : Sum := runFn (En tb45) pf45
theorem ok45 : FnOk Try.prog G 45 S45 := b45 (E := En tb45) rfl (tdeps tbo45)
noncomputable def tb30 : List (Nat × Sum) := [(45, S45)]
theorem tbo30 : TblOk Try.prog G tb30 := ⟨ok45, trivial⟩
@[reducible] noncomputable def S30 : Sum := runFn (En tb30) pf30
theorem ok30 : FnOk Try.prog G 30 S30 := b30 (E := En tb30) rfl (tdeps tbo30)
noncomputable def tb40 : List (Nat × Sum) := []
theorem tbo40 : TblOk Try.prog G tb40 := trivial
@[reducible] noncomputable def S40 : Sum := runFn (En tb40) pf40
theorem ok40 : FnOk Try.prog G 40 S40 := b40 (E := En tb40) rfl (tdeps tbo40)
noncomputable def tb46 : List (Nat × Sum) := [(30, S30), (40, S40)]
theorem tbo46 : TblOk Try.prog G tb46 := ⟨ok30, ok40, trivial⟩
@[reducible] noncomputable def S46 : Sum := runFn (En tb46) pf46
theorem ok46 : FnOk Try.prog G 46 S46 := b46 (E := En tb46) rfl (tdeps tbo46)
noncomputable def tb29 : List (Nat × Sum) := [(46, S46), (30, S30), (40, S40)]
theorem tbo29 : TblOk Try.prog G tb29 := ⟨ok46, ok30, ok40, trivial⟩
@[reducible] noncomputable def S29 : Sum := runFn (En tb29) pf29
theorem ok29 : FnOk Try.prog G 29 S29 := b29 (E := En tb29) rfl (tdeps tbo29)
noncomputable def tb51 : List (Nat × Sum) := []
theorem tbo51 : TblOk Try.prog G tb51 := trivial
@[reducible] noncomputable def S51 : Sum := runFn (En tb51) pf51
theorem ok51 : FnOk Try.prog G 51 S51 := b51 (E := En tb51) rfl (tdeps tbo51)
noncomputable def tb48 : List (Nat × Sum) := [(51, S51)]
theorem tbo48 : TblOk Try.prog G tb48 := ⟨ok51, trivial⟩
@[reducible] noncomputable def S48 : Sum := runFn (En tb48) pf48
theorem ok48 : FnOk Try.prog G 48 S48 := b48 (E := En tb48) rfl (tdeps tbo48)
noncomputable def tb47 : List (Nat × Sum) := []
theorem tbo47 : TblOk Try.prog G tb47 := trivial
@[reducible] noncomputable def S47 : Sum := runFn (En tb47) pf47
theorem ok47 : FnOk Try.prog G 47 S47 := b47 (E := En tb47) rfl (tdeps tbo47)
noncomputable def tb31 : List (Nat × Sum) := [(48, S48), (47, S47)]
theorem tbo31 : TblOk Try.prog G tb31 := ⟨ok48, ok47, trivial⟩
@[reducible] noncomputable def S31 : Sum := runFn (En tb31) pf31
theorem ok31 : FnOk Try.prog G 31 S31 := b31 (E := En tb31) rfl (tdeps tbo31)
noncomputable def tb12 : List (Nat × Sum) := [(29, S29), (31, S31)]
theorem tbo12 : TblOk Try.prog G tb12 := ⟨ok29, ok31, trivial⟩
@[reducible] noncomputable def S12 : Sum := runFn (En tb12) pf12
theorem ok12 : FnOk Try.prog G 12 S12 := b12 (E := En tb12) rfl (tdeps tbo12)
noncomputable def tb16 : List (Nat × Sum) := []
theorem tbo16 : TblOk Try.prog G tb16 := trivial
@[reducible] noncomputable def S16 : Sum := runFn (En tb16) pf16
theorem ok16 : FnOk Try.prog G 16 S16 := b16 (E := En tb16) rfl (tdeps tbo16)
noncomputable def tb41 : List (Nat × Sum) := []
theorem tbo41 : TblOk Try.prog G tb41 := trivial
@[reducible] noncomputable def S41 : Sum := runFn (En tb41) pf41
theorem ok41 : FnOk Try.prog G 41 S41 := b41 (E := En tb41) rfl (tdeps tbo41)
noncomputable def tb43 : List (Nat × Sum) := []
theorem tbo43 : TblOk Try.prog G tb43 := trivial
@[reducible] noncomputable def S43 : Sum := runFn (En tb43) pf43
theorem ok43 : FnOk Try.prog G 43 S43 := b43 (E := En tb43) rfl (tdeps tbo43)
noncomputable def tb44 : List (Nat × Sum) := []
theorem tbo44 : TblOk Try.prog G tb44 := trivial
@[reducible] noncomputable def S44 : Sum := runFn (En tb44) pf44
theorem ok44 : FnOk Try.prog G 44 S44 := b44 (E := En tb44) rfl (tdeps tbo44)
noncomputable def tb42 : List (Nat × Sum) := [(41, S41), (43, S43), (44, S44)]
theorem tbo42 : TblOk Try.prog G tb42 := ⟨ok41, ok43, ok44, trivial⟩
@[reducible] noncomputable def S42 : Sum := runFn (En tb42) pf42
theorem ok42 : FnOk Try.prog G 42 S42 := b42 (E := En tb42) rfl (tdeps tbo42)
noncomputable def tb20 : List (Nat × Sum) := [(12, S12), (41, S41), (42, S42)]
theorem tbo20 : TblOk Try.prog G tb20 := ⟨ok12, ok41, ok42, trivial⟩
@[reducible] noncomputable def S20 : Sum := runFn (En tb20) pf20
theorem ok20 : FnOk Try.prog G 20 S20 := b20 (E := En tb20) rfl (tdeps tbo20)
noncomputable def tb17 : List (Nat × Sum) := [(12, S12), (29, S29), (31, S31)]
theorem tbo17 : TblOk Try.prog G tb17 := ⟨ok12, ok29, ok31, trivial⟩
@[reducible] noncomputable def S17 : Sum := runFn (En tb17) pf17
theorem ok17 : FnOk Try.prog G 17 S17 := b17 (E := En tb17) rfl (tdeps tbo17)
noncomputable def tb34 : List (Nat × Sum) := [(31, S31)]
theorem tbo34 : TblOk Try.prog G tb34 := ⟨ok31, trivial⟩
@[reducible] noncomputable def S34 : Sum := runFn (En tb34) pf34
theorem ok34 : FnOk Try.prog G 34 S34 := b34 (E := En tb34) rfl (tdeps tbo34)
noncomputable def tb35 : List (Nat × Sum) := []
theorem tbo35 : TblOk Try.prog G tb35 := trivial
@[reducible] noncomputable def S35 : Sum := runFn (En tb35) pf35
theorem ok35 : FnOk Try.prog G 35 S35 := b35 (E := En tb35) rfl (tdeps tbo35)
noncomputable def tb14 : List (Nat × Sum) := [(12, S12), (36, S36), (30, S30), (34, S34), (35, S35)]
theorem tbo14 : TblOk Try.prog G tb14 := ⟨ok12, ok36, ok30, ok34, ok35, trivial⟩
@[reducible] noncomputable def S14 : Sum := runFn (En tb14) pf14
theorem ok14 : FnOk Try.prog G 14 S14 := b14 (E := En tb14) rfl (tdeps tbo14)
noncomputable def tb22 : List (Nat × Sum) := [(45, S45)]
theorem tbo22 : TblOk Try.prog G tb22 := ⟨ok45, trivial⟩
@[reducible] noncomputable def S22 : Sum := runFn (En tb22) pf22
theorem ok22 : FnOk Try.prog G 22 S22 := b22 (E := En tb22) rfl (tdeps tbo22)
noncomputable def tb27 : List (Nat × Sum) := []
theorem tbo27 : TblOk Try.prog G tb27 := trivial
@[reducible] noncomputable def S27 : Sum := runFn (En tb27) pf27
theorem ok27 : FnOk Try.prog G 27 S27 := b27 (E := En tb27) rfl (tdeps tbo27)

end Go.Ev.W

