/- Own work. -/
import Derived.Test.YtgphembaimondaaGreatDoorEvOkD0
set_option linter.all false
namespace Go.Ev.Ce
open Go Go.Ev Go.Ev.L Go.Proofs
set_option maxRecDepth 1000000
noncomputable def tlT:Tol:=⟨⟨#[99]⟩,cuL,[cuL],cuL,[5],0,[⟨0,0,-1⟩]⟩
noncomputable def eqI (a c:Int):Bool:=a==c
noncomputable def qe7 (a c:UInt8):Bool:=Nat.beq a.toNat c.toNat
noncomputable def Od4 (t:Tol):Bool:=eqZ qe7 t.nm.data.toList [99]&&(eqZ gc2 t.ou cuL&&(eqZ (eqZ gc2) t.inn [cuL]&&(eqZ gc2 t.ho cuL&&(eqZ eqI t.li [5]&&(eqI t.ru 0&&eqZ gc2 t.fo [⟨0,0,-1⟩])))))
theorem ud4 (t:Tol) (h:Od4 t=true):t=tlT:=by
 obtain⟨nm,ou,inn,ho,li,ru,fo⟩:=t
 unfold Od4 at h
 simp only[Bool.and_eq_true] at h
 obtain⟨h1,h2,h3,h4,h5,h6,h7⟩:=h
 have e1:=Ha6 (fun x y h=>UInt8.toNat_inj.1 (Nat.eq_of_beq_eq_true h)) h1
 have e2:=Ha6 Za9 h2
 have e3:=Ha6 (fun _ _ h=>Ha6 Za9 h) h3
 have e4:=Ha6 Za9 h4
 have e5:=Ha6 (fun x y h=>by simpa [eqI] using h) h5
 have e6:ru=0:=by simpa [eqI] using h6
 have e7:=Ha6 Za9 h7
 subst e2 e3 e4 e5 e6 e7
 obtain⟨d⟩:=nm
 have e1:d.toList=[99]:=e1
 have:d=#[99]:=by rw[← Array.toArray_toList (xs:=d),e1]
 rw[this];rfl
theorem qe8:(ee1 [cT.enc tlT] []).run=some (i 0,[]):=by kernel_rfl
noncomputable def fd1:Sum:=G7 cT fun t=>.guard (Od4 t) (.ret (i 0,[]))
theorem ud5:c8 prog G 33 fd1:=Ya4 Nd5 fun t r h=>by
 obtain⟨h1,h⟩:=DT.run_guard_some h
 rw[ud4 t h1,qe8];exact h
end Go.Ev.Ce
