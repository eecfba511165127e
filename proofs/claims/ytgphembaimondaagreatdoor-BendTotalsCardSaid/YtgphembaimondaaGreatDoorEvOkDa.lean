/- Own work. -/
import Derived.Test.YtgphembaimondaaGreatDoorEvOkD0
set_option linter.all false
namespace Go.Ev.Ce
open Go Go.Ev Go.Ev.L Go.Proofs
set_option maxRecDepth 1000000
noncomputable def tlT:Tol:=⟨⟨#[99]⟩,cuL,[cuL],cuL,[5],0,[⟨0,0,-1⟩]⟩
noncomputable def eqI (a c:Int):Bool:=a==c
noncomputable def Mf7 (a c:UInt8):Bool:=Nat.beq a.toNat c.toNat
noncomputable def ff8 (t:Tol):Bool:=eqZ Mf7 t.nm.data.toList [99]&&(eqZ id3 t.ou cuL&&(eqZ (eqZ id3) t.inn [cuL]&&(eqZ id3 t.ho cuL&&(eqZ eqI t.li [5]&&(eqI t.ru 0&&eqZ id3 t.fo [⟨0,0,-1⟩])))))
theorem Je7 (t:Tol) (h:ff8 t=true):t=tlT:=by
 obtain⟨nm,ou,inn,ho,li,ru,fo⟩:=t
 unfold ff8 at h
 simp only[Bool.and_eq_true] at h
 obtain⟨h1,h2,h3,h4,h5,h6,h7⟩:=h
 have e1:=jb4 (fun x y h=>UInt8.toNat_inj.1 (Nat.eq_of_beq_eq_true h)) h1
 have e2:=jb4 Ib4 h2
 have e3:=jb4 (fun _ _ h=>jb4 Ib4 h) h3
 have e4:=jb4 Ib4 h4
 have e5:=jb4 (fun x y h=>by simpa [eqI] using h) h5
 have e6:ru=0:=by simpa [eqI] using h6
 have e7:=jb4 Ib4 h7
 subst e2 e3 e4 e5 e6 e7
 obtain⟨d⟩:=nm
 have e1:d.toList=[99]:=e1
 have:d=#[99]:=by rw[← Array.toArray_toList (xs:=d),e1]
 rw[this];rfl
theorem Mf8:(yf8 [cT.enc tlT] []).run=some (i 0,[]):=by kernel_rfl
noncomputable def ue4:Sum:=B5 cT fun t=>.guard (ff8 t) (.ret (i 0,[]))
theorem Je8:e8 prog G 33 ue4:=Gb2 ef9 fun t r h=>by
 obtain⟨h1,h⟩:=DT.run_guard_some h
 rw[Je7 t h1,Mf8];exact h
end Go.Ev.Ce
