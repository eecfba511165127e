/- Own work. -/
import Derived.Test.YtgphembaimondaaGreatDoorEvOkD0
set_option linter.all false
namespace Go.Ev.Ce
open Go Go.Ev Go.Ev.L Go.Proofs
set_option maxRecDepth 1000000
noncomputable def tlT:Tol:=⟨⟨#[99]⟩,cuL,[cuL],cuL,[5],0,[⟨0,0,-1⟩]⟩
noncomputable def eqI (a c:Int):Bool:=a==c
noncomputable def De9 (a c:UInt8):Bool:=Nat.beq a.toNat c.toNat
noncomputable def be5 (t:Tol):Bool:=eqZ De9 t.nm.data.toList [99]&&(eqZ qc1 t.ou cuL&&(eqZ (eqZ qc1) t.inn [cuL]&&(eqZ qc1 t.ho cuL&&(eqZ eqI t.li [5]&&(eqI t.ru 0&&eqZ qc1 t.fo [⟨0,0,-1⟩])))))
theorem Hd0 (t:Tol) (h:be5 t=true):t=tlT:=by
 obtain⟨nm,ou,inn,ho,li,ru,fo⟩:=t
 unfold be5 at h
 simp only[Bool.and_eq_true] at h
 obtain⟨h1,h2,h3,h4,h5,h6,h7⟩:=h
 have e1:=Ma7 (fun x y h=>UInt8.toNat_inj.1 (Nat.eq_of_beq_eq_true h)) h1
 have e2:=Ma7 gb1 h2
 have e3:=Ma7 (fun _ _ h=>Ma7 gb1 h) h3
 have e4:=Ma7 gb1 h4
 have e5:=Ma7 (fun x y h=>by simpa [eqI] using h) h5
 have e6:ru=0:=by simpa [eqI] using h6
 have e7:=Ma7 gb1 h7
 subst e2 e3 e4 e5 e6 e7
 obtain⟨d⟩:=nm
 have e1:d.toList=[99]:=e1
 have:d=#[99]:=by rw[← Array.toArray_toList (xs:=d),e1]
 rw[this];rfl
theorem Ee0:(se0 [cT.enc tlT] []).run=some (i 0,[]):=by kernel_rfl
noncomputable def sd5:Sum:=G9 cT fun t=>.guard (be5 t) (.ret (i 0,[]))
theorem Hd1:d6 prog G 33 sd5:=eb7 ae6 fun t r h=>by
 obtain⟨h1,h⟩:=DT.run_guard_some h
 rw[Hd0 t h1,Ee0];exact h
end Go.Ev.Ce
