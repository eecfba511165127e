/- Own work. -/
import Derived.Test.YtekgjjgbdcgldaaGreatEvOX9
set_option linter.all false
def Qma:=@List.mem_append_left
def Qmb:=@Nat.lt_irrefl
def Qmc:=@List.mem_append
def Qmd:=@Nat.zero_le
def Qme:=@List.any_eq_true
def Qmf:=@List.getElem?_eq_getElem
def Qmg:=@Classical.axiomOfChoice
def Qmh:=@List.drop_zero
def Qmi:=@List.mem_append_right
def Qmj:=@Bool.and_self
def Qmk:=@List.length_append
namespace Go.Ev.Ce
open Go Go.Ev Go.Ev.L Go.Proofs
set_option maxRecDepth 100000
noncomputable def ia4:List (Nat×Sum):=[(37,oc6),(38,Xc4),(39,Lc7),(40,nb4),(26,Jc9),(58,qd3),(59,oc7)]
theorem ec9:i9 prog G ia4:=⟨cd6,Yd6,Dd5,Fb4,Cd0,le0,cd7,trivial⟩
structure ea1 where
 bs7:Bool
 xa8:List Pln
 (H4 da5:List (List Pln))
 X5:List V3
 (Tc8 rb5:Int)
 Mc2:List (List Pln)
 (Sf8 f0 b9 f7:Int)
structure F7 where
 Ed1:Bool
 Yd9:Int
noncomputable def gb3(p:ea1)(s:F7):St:=⟨ra 7 (b p.bs7::eL tP p.xa8::eL (tLs tP) p.H4::eL (tLs tP) p.da5::.unk::.unk::.ptr 0 0 0 0::b s.Ed1::b false::ra 24 (eL tV p.X5::i p.Tc8::i p.rb5::ra 3 (eL (tLs tP) p.Mc2::i p.Sf8::i s.Yd9::ra 62 []))),[⟨0,3,[[i p.f0,i p.b9,i p.f7]],true,false,0⟩]⟩
noncomputable def W4{α:Type}(k:F7->α)(e:Nat->α)(z:α)(p:ea1)(s:F7):α:=let t1:=(kb8 (rt tP (gL (tLs tP) p.Mc2 s.Yd9.toNat)) (⟨p.f0,p.b9,p.f7⟩:V3));(sl (decide (s.Yd9<p.Sf8)) (sl (inB s.Yd9 (List.length p.Mc2)) (sl s.Ed1 (k ⟨true,W (s.Yd9+1)⟩) (sl (okE tP (gL (tLs tP) p.Mc2 s.Yd9.toNat)) (sl (Ma2 (rt tP (gL (tLs tP) p.Mc2 s.Yd9.toNat)) (⟨p.f0,p.b9,p.f7⟩:V3)) (k ⟨t1,W (s.Yd9+1)⟩) z) z)) z) (e 1))
noncomputable def Q9(p:ea1)(s:F7):Stp F7:=W4 .next .exit .fail p s
noncomputable def Ha8:Lo ea1 F7:=⟨En ia4,0,bf3,[1,1,1,1,1,0,1,4,4,1,1,0,4,1,1,0,1,4,4],[7,8,9,10,13,14,15,40,41,42,46,47,48],.p,[⟨ru2 7 (sBq::sLq tP::.s (.c 1 (nL (tLs tP)))::.s (.c 1 (nL (tLs tP)))::sUq::sUq::sPq 0::sBq::.s (.o (.blit false))::ru2 24 (sLq tV::sIq::sIq::ru2 3 (.s (.c 1 (nL (tLs tP)))::sIq::sIq::ru2 62 []))),[⟨0,3,true,some [kLq 3]⟩],λa H=>(⟨aBq a 7,aLq tP a 8,rL (tLs tP) (slT a 9),rL (tLs tP) (slT a 10),aLq tV a 40,aIq a 41,aIq a 42,rL (tLs tP) (slT a 46),aIq a 47,hIq H 0 0 0,hIq H 0 0 1,hIq H 0 0 2⟩,⟨aBq a 14,aIq a 48⟩)⟩],Q9,[(some 2,λp s=>upq (gb3 p s) [(49,b (decide (s.Yd9<p.Sf8)))])],gb3⟩
theorem ac5:Ha8.Ok:=Lo.ok [] (by kernel_rfl) .nil rfl (.cons (λa H=>by kernel_rfl) .nil) λp s=>(.of @W4 (λF _ _ _ _ _=>by unfold W4;(repeat' apply l6 (f:=F))<;>rfl) (by kernel_rfl))
structure S8 where
 bs7:Bool
 xa8:List Pln
 (H4 da5:List (List Pln))
 (Ed1 Re9:Bool)
 Zd0:List Pln
 X5:List V3
 (Tc8 rb5:Int)
 wa2:List (List Pln)
 (Ae2 pc1:Int)
 Mc3:List (List Pln)
 (Sf9 f0 b9 f7:Int)
structure B5 where
 Zd1:Int
noncomputable def gb4(p:S8)(s:B5):St:=⟨ra 7 (b p.bs7::eL tP p.xa8::eL (tLs tP) p.H4::eL (tLs tP) p.da5::.unk::.unk::.ptr 0 0 0 0::b p.Ed1::b p.Re9::ra 3 (eL tP p.Zd0::ra 20 (eL tV p.X5::i p.Tc8::i p.rb5::ra 16 (eL (tLs tP) p.wa2::i p.Ae2::i p.pc1::ra 9 (eL (tLs tP) p.Mc3::i p.Sf9::i s.Zd1::ra 37 []))))),[⟨0,3,[[i p.f0,i p.b9,i p.f7]],true,false,0⟩]⟩
noncomputable def W5{α:Type}(k:B5->α)(e:Nat->α)(z:α)(p:S8)(s:B5):α:=let t1:=(Na5 (rt tP p.Zd0) (⟨p.f0,p.b9,p.f7⟩:V3));let t2:=(Na5 (rt tP (gL (tLs tP) p.Mc3 s.Zd1.toNat)) (⟨p.f0,p.b9,p.f7⟩:V3));(sl (decide (s.Zd1<p.Sf9)) (sl (inB s.Zd1 (List.length p.Mc3)) (sl (okE tP p.Zd0) (sl (Na6 (rt tP p.Zd0) (⟨p.f0,p.b9,p.f7⟩:V3)) (sl t1 (sl (okE tP (gL (tLs tP) p.Mc3 s.Zd1.toNat)) (sl (Na6 (rt tP (gL (tLs tP) p.Mc3 s.Zd1.toNat)) (⟨p.f0,p.b9,p.f7⟩:V3)) (sl t2 (e 1) (k ⟨W (s.Zd1+1)⟩)) z) z) (k ⟨W (s.Zd1+1)⟩)) z) z) z) (e 2))
noncomputable def J6(p:S8)(s:B5):Stp B5:=W5 .next .exit .fail p s
noncomputable def Ha9:Lo S8 B5:=⟨En ia4,0,bf3,[1,1,1,1,1,0,1,4,4,1,1,0,4,1,1,1,0,1,4,4,1,1,0,4,1,1,1,4,4],[7,8,9,10,13,14,15,19,40,41,42,59,60,61,71,72,73],.p,[⟨ru2 7 (sBq::sLq tP::.s (.c 1 (nL (tLs tP)))::.s (.c 1 (nL (tLs tP)))::sUq::sUq::sPq 0::sBq::sBq::ru2 3 (sLq tP::ru2 20 (sLq tV::sIq::sIq::ru2 16 (.s (.c 1 (nL (tLs tP)))::sIq::sIq::ru2 9 (.s (.c 1 (nL (tLs tP)))::sIq::sIq::ru2 37 []))))),[⟨0,3,true,some [kLq 3]⟩],λa H=>(⟨aBq a 7,aLq tP a 8,rL (tLs tP) (slT a 9),rL (tLs tP) (slT a 10),aBq a 14,aBq a 15,aLq tP a 19,aLq tV a 40,aIq a 41,aIq a 42,rL (tLs tP) (slT a 59),aIq a 60,aIq a 61,rL (tLs tP) (slT a 71),aIq a 72,hIq H 0 0 0,hIq H 0 0 1,hIq H 0 0 2⟩,⟨aIq a 73⟩)⟩],J6,[(none,λp s=>⟨[b false],[]⟩),(some 6,λp s=>upq (gb4 p s) [(74,b (decide (s.Zd1<p.Sf9)))])],gb4⟩
theorem ac6:Ha9.Ok:=Lo.ok [] (by kernel_rfl) .nil rfl (.cons (λa H=>by kernel_rfl) .nil) λp s=>(.of @W5 (λF _ _ _ _ _=>by unfold W5;(repeat' apply l6 (f:=F))<;>rfl) (by kernel_rfl))
structure ea2 where
 (bs7 Ed1:Bool)
 (Tc8 rb5 Ae2 f0 b9 f7:Int)
structure F8 where
 xa8:List Pln
 (H4 da5:List (List Pln))
 Re9:Bool
 X5:List V3
 wa2:List (List Pln)
 pc1:Int
noncomputable def gb5(p:ea2)(s:F8):St:=⟨ra 7 (b p.bs7::eL tP s.xa8::eL (tLs tP) s.H4::eL (tLs tP) s.da5::.unk::.unk::.ptr 0 0 0 0::b p.Ed1::b s.Re9::ra 24 (eL tV s.X5::i p.Tc8::i p.rb5::ra 16 (eL (tLs tP) s.wa2::i p.Ae2::i s.pc1::ra 49 []))),[⟨0,3,[[i p.f0,i p.b9,i p.f7]],true,false,0⟩]⟩
noncomputable def W6{α:Type}(k:F8->α)(e:Nat->α)(z:α)(p:ea2)(s:F8):α:=let t1:=(lp (J6 (⟨p.bs7,rt tP s.xa8,rt (tLs tP) s.H4,rt (tLs tP) s.da5,p.Ed1,true,rt tP (gL (tLs tP) s.wa2 s.pc1.toNat),rt tV s.X5,p.Tc8,p.rb5,rt (tLs tP) s.wa2,p.Ae2,s.pc1,rt (tLs tP) s.H4,(↑(List.length s.H4):Int),p.f0,p.b9,p.f7⟩:S8)) (⟨0⟩:B5));let t2:=(kb8 (rt tP (gL (tLs tP) s.wa2 s.pc1.toNat)) (⟨p.f0,p.b9,p.f7⟩:V3));let t3:=(lp (J6 (⟨p.bs7,rt tP s.xa8,rt (tLs tP) s.H4,rt (tLs tP) s.da5,p.Ed1,t2,rt tP (gL (tLs tP) s.wa2 s.pc1.toNat),rt tV s.X5,p.Tc8,p.rb5,rt (tLs tP) s.wa2,p.Ae2,s.pc1,rt (tLs tP) s.H4,(↑(List.length s.H4):Int),p.f0,p.b9,p.f7⟩:S8)) (⟨0⟩:B5));(sl (decide (s.pc1<p.Ae2)) (sl (inB s.pc1 (List.length s.wa2)) (sl s.Re9 (sl ((cnE tP s.xa8)&&((cnE (tLs tP) s.H4)&&((cnE (tLs tP) s.da5)&&((cnE tP (gL (tLs tP) s.wa2 s.pc1.toNat))&&((cnE tV s.X5)&&((cnE (tLs tP) s.wa2)&&((cnE (tLs tP) s.H4)&&true))))))) (sl (Nat.beq t1.1 1) (e 1) (sl (Nat.beq t1.1 2) (k ⟨rt tP s.xa8,rt (tLs tP) s.H4,rt (tLs tP) s.da5,true,rt tV s.X5,rt (tLs tP) s.wa2,W (s.pc1+1)⟩) z)) z) (sl (okE tP (gL (tLs tP) s.wa2 s.pc1.toNat)) (sl (Ma2 (rt tP (gL (tLs tP) s.wa2 s.pc1.toNat)) (⟨p.f0,p.b9,p.f7⟩:V3)) (sl ((cnE tP s.xa8)&&((cnE (tLs tP) s.H4)&&((cnE (tLs tP) s.da5)&&((cnE tP (gL (tLs tP) s.wa2 s.pc1.toNat))&&((cnE tV s.X5)&&((cnE (tLs tP) s.wa2)&&((cnE (tLs tP) s.H4)&&true))))))) (sl (Nat.beq t3.1 1) (e 1) (sl (Nat.beq t3.1 2) (k ⟨rt tP s.xa8,rt (tLs tP) s.H4,rt (tLs tP) s.da5,t2,rt tV s.X5,rt (tLs tP) s.wa2,W (s.pc1+1)⟩) z)) z) z) z)) z) (e 2))
noncomputable def R2(p:ea2)(s:F8):Stp F8:=W6 .next .exit .fail p s
noncomputable def Ia0:Lo ea2 F8:=⟨En ia4,0,bf3,[1,1,1,1,1,0,1,4,4,1,1,0,4,1,1,1,0,1,4,4],[7,8,9,10,13,14,15,40,41,42,59,60,61],.s .p (.s .p (.s (.b (.s .p (.s .p (.s .p (.b (.u Ha9.ls)))))) .p)),[⟨ru2 7 (sBq::sLq tP::.s (.c 1 (nL (tLs tP)))::.s (.c 1 (nL (tLs tP)))::sUq::sUq::sPq 0::sBq::sBq::ru2 24 (sLq tV::sIq::sIq::ru2 16 (.s (.c 1 (nL (tLs tP)))::sIq::sIq::ru2 49 []))),[⟨0,3,true,some [kLq 3]⟩],λa H=>(⟨aBq a 7,aBq a 14,aIq a 41,aIq a 42,aIq a 60,hIq H 0 0 0,hIq H 0 0 1,hIq H 0 0 2⟩,⟨aLq tP a 8,rL (tLs tP) (slT a 9),rL (tLs tP) (slT a 10),aBq a 15,aLq tV a 40,rL (tLs tP) (slT a 59),aIq a 61⟩)⟩],R2,[(none,λp s=>⟨[b false],[]⟩),(some 4,λp s=>upq (gb5 p s) [(62,b (decide (s.pc1<p.Ae2)))])],gb5⟩
theorem ac7:Ia0.Ok:=Lo.ok [Ha9.pr] (by kernel_rfl) (.cons ac6 .nil) rfl (.cons (λa H=>by kernel_rfl) .nil) λp s=>(.of @W6 (λF _ _ _ _ _=>by unfold W6;(repeat' apply l6 (f:=F))<;>rfl) (by kernel_rfl))
structure ea3 where
 bs7:Bool
 Tc8:Int
structure F9 where
 xa8:List Pln
 (H4 da5:List (List Pln))
 X5:List V3
 rb5:Int
noncomputable def gb6(p:ea3)(s:F9):St:=⟨ra 7 (b p.bs7::eL tP s.xa8::eL (tLs tP) s.H4::eL (tLs tP) s.da5::ra 29 (eL tV s.X5::i p.Tc8::i s.rb5::ra 68 [])),[]⟩
noncomputable def W7{α:Type}(k:F9->α)(e:Nat->α)(z:α)(p:ea3)(s:F9):α:=let t1:=(lp (Q9 (⟨p.bs7,rt tP s.xa8,rt (tLs tP) s.H4,rt (tLs tP) s.da5,rt tV s.X5,p.Tc8,s.rb5,rt (tLs tP) s.H4,(↑(List.length s.H4):Int),(gL tV s.X5 s.rb5.toNat).x,(gL tV s.X5 s.rb5.toNat).y,(gL tV s.X5 s.rb5.toNat).z⟩:ea1)) (⟨false,0⟩:F7));let t2:=(lp (R2 (⟨p.bs7,t1.2.Ed1,p.Tc8,s.rb5,(↑(List.length (rt (tLs tP) s.da5)):Int),(gL tV s.X5 s.rb5.toNat).x,(gL tV s.X5 s.rb5.toNat).y,(gL tV s.X5 s.rb5.toNat).z⟩:ea2)) (⟨rt tP (rt tP s.xa8),rt (tLs tP) (rt (tLs tP) s.H4),rt (tLs tP) (rt (tLs tP) s.da5),false,rt tV (rt tV s.X5),rt (tLs tP) (rt (tLs tP) s.da5),0⟩:F8));let t3:=(kb8 (rt tP t2.2.xa8) (gL tV s.X5 s.rb5.toNat));let w0:α:=(sl t2.2.Re9 (sl (okE tP t2.2.xa8) (sl (Ma2 (rt tP t2.2.xa8) (gL tV s.X5 s.rb5.toNat)) (sl (!t3) (e 1) (k ⟨t2.2.xa8,t2.2.H4,t2.2.da5,t2.2.X5,W (s.rb5+1)⟩)) z) z) (k ⟨t2.2.xa8,t2.2.H4,t2.2.da5,t2.2.X5,W (s.rb5+1)⟩));(sl (decide (s.rb5<p.Tc8)) (sl (inB s.rb5 (List.length s.X5)) (sl ((cnE tP s.xa8)&&((cnE (tLs tP) s.H4)&&((cnE (tLs tP) s.da5)&&((cnE tV s.X5)&&((cnE (tLs tP) s.H4)&&true))))) (sl (Nat.beq t1.1 1) (sl ((cnE tP (rt tP s.xa8))&&((cnE (tLs tP) (rt (tLs tP) s.H4))&&((cnE (tLs tP) (rt (tLs tP) s.da5))&&((cnE tV (rt tV s.X5))&&((cnE (tLs tP) (rt (tLs tP) s.da5))&&true))))) (sl (Nat.beq t2.1 1) (e 1) (sl (Nat.beq t2.1 2) (sl (okE tP t2.2.xa8) (sl (Ma2 (rt tP t2.2.xa8) (gL tV s.X5 s.rb5.toNat)) (sl (okE tP t2.2.xa8) (sl (Ma2 (rt tP t2.2.xa8) (gL tV s.X5 s.rb5.toNat)) (sl t3 (sl t1.2.Ed1 (sl (!(t3==true)) (e 1) w0) (sl (!(t3==t2.2.Re9)) (e 1) w0)) (sl (!(t3==false)) (e 1) w0)) z) z) z) z) z)) z) z) z) z) (e 2))
noncomputable def R3(p:ea3)(s:F9):Stp F9:=W7 .next .exit .fail p s
noncomputable def Ia1:Lo ea3 F9:=⟨En ia4,0,bf3,[1,1,1,1,1,0,1,4,4],[7,8,9,10,40,41,42],.s .p (.s .p (.s (.b (.s .p (.s .p (.s (.s .p (.b (.u Ha8.ls))) (.s (.s .p (.b (.u Ia0.ls))) .p))))) .p)),[⟨ru2 7 (sBq::sLq tP::.s (.c 1 (nL (tLs tP)))::.s (.c 1 (nL (tLs tP)))::ru2 29 (sLq tV::sIq::sIq::ru2 68 [])),[],λa H=>(⟨aBq a 7,aIq a 41⟩,⟨aLq tP a 8,rL (tLs tP) (slT a 9),rL (tLs tP) (slT a 10),aLq tV a 40,aIq a 42⟩)⟩],R3,[(none,λp s=>⟨[b false],[]⟩),(some 0,λp s=>upq (gb6 p s) [(43,b (decide (s.rb5<p.Tc8)))])],gb6⟩
theorem ac8:Ia1.Ok:=Lo.ok [Ha8.pr,Ia0.pr] (by kernel_rfl) (.cons ac5 (.cons ac7 .nil)) rfl (.cons (λa H=>by kernel_rfl) .nil) λp s=>(.of @W7 (λF _ _ _ _ _=>by unfold W7;(repeat' apply l6 (f:=F))<;>rfl) (by kernel_rfl))
noncomputable def ka7(x:List Int)(y:List (List Int))(z:List Int):Option (b7×List b8):=let t1:=gb1;let t2:=(Ma9 (rt tI x));let t3:=(Da3 (rt (tLs tI) y) 2);let t4:=(Va1 (rt tP t2) (rt (tLs tP) t3));let t5:=(xb6 (lsL tI ((if 40<(↑(List.length z):Int) then 40 else (↑(List.length z):Int)).toNat-0) (λk=>(λk=>(tI).row (gL tI z k)) (0+k))) 10);let t6:=(lp (R3 (⟨t1,(↑(List.length t5):Int)⟩:ea3)) (⟨rt tP t2,rt (tLs tP) t3,rt (tLs tP) t4.1,rt tV t5,0⟩:F9));(sl gb2 (sl (okE tI x) (sl (Kb7 (rt tI x)) (sl (okE (tLs tI) y) (sl (yb3 (rt (tLs tI) y) 2) (sl (okE tP t2) (sl (okE (tLs tP) t3) (sl (Va2 (rt tP t2) (rt (tLs tP) t3)) (sl (t4.2 != 0) (some (b false,[])) (sl (inB (if 40<(↑(List.length z):Int) then 40 else (↑(List.length z):Int)) ((List.length z)+1)) (sl (okL tI ((if 40<(↑(List.length z):Int) then 40 else (↑(List.length z):Int)).toNat-0) (λk=>(λk=>(tI).row (gL tI z k)) (0+k))) (sl (Zb6 (lsL tI ((if 40<(↑(List.length z):Int) then 40 else (↑(List.length z):Int)).toNat-0) (λk=>(λk=>(tI).row (gL tI z k)) (0+k))) 10) (sl ((cnE tP t2)&&((cnE (tLs tP) t3)&&((cnE (tLs tP) t4.1)&&((cnE tV t5)&&true)))) (sl (Nat.beq t6.1 1) (some (b false,[])) (sl (Nat.beq t6.1 2) (some (b t1,[])) none)) none) none) none) none)) none) none) none) none) none) none) none) none)
noncomputable def ya2(x:List Int)(y:List (List Int))(z:List Int):Bool:=J8 (one r1B) (ka7 x y z)
noncomputable def ya3(x:List Int)(y:List (List Int))(z:List Int):Bool:=okO (one r1B) (ka7 x y z)
noncomputable def tc1:Sum:=yc1 (O3 tI) (O3 (tLs tI)) (O3 tI) (λx y z=>.guard (ya3 x y z) (.ret ((one r1B).enc (ya2 x y z),[])))
theorem oc9:g9 prog G 11 tc1:=Le8 (bd b11 ec9) (one r1B) (o:=ka7) λx y z=>ta7 (.s .p (.s .p (.s .p (.s .p (.s .p (.s (.s .p (.b (.u Ia1.ls))) .p)))))) [Ia1.pr] (by kernel_rfl) (.cons ac8 .nil) (by kernel_rfl)
theorem Ie0(l:List Int)(n:Nat)(hn1:1<=n)(hn5:n<=100):Rd (one (r1L tV)) (eb7 l (n:Int)) (λr=>r.length=n):=by
 have key:∃t s,lp (Wa5 ⟨(n:Int)⟩) ⟨0,0,l,0,0,[]⟩=(t,s)/\(t=2/\∃O:List V3,O.length=n/\s.ns6=n/\s.eh1=bL tV O):=by
  refine S3 (step:=Wa5 ⟨(n:Int)⟩) (mk:=λj (a:List V3×Int)=>(⟨phV a.1,(j:Int),l,a.2,a.1.length,bL tV a.1⟩:y9)) n (λj a=>a.1.length=j/\0<=a.2/\a.2<=10*j/\j<=n)
   (λt s=>t=2/\∃O:List V3,O.length=n/\s.ns6=n/\s.eh1=bL tV O) (by omega) (λj a hj hi=>?_) (λj a hj hi=>?_) 0 ([],0) ⟨rfl,by simp,by simp,by omega⟩
  ·obtain⟨O,d⟩:=a;obtain⟨i1,i2,i3,i4⟩:=hi
   simp only at i1 i2 i3
   obtain⟨v,d1,n1,n2,n3,n4,n5⟩:=va1 4 l d i2 (by omega) (by omega) (by omega)
   obtain⟨w,hw⟩:∃w:Nat,v=(w:Int):=⟨v.toNat,by omega⟩
   subst hw;have hw4:w<4:=by omega
   have hrow:∃m:Int,l9 [[i 8],[i 8],[i 3],[i 24]] (0+w)=[i m]/\0<=m/\m<=24:=by
    match w,hw4 with
    |0,_=>exact⟨8,rfl,by omega,by omega⟩
    |1,_=>exact⟨8,rfl,by omega,by omega⟩
    |2,_=>exact⟨3,rfl,by omega,by omega⟩
    |3,_=>exact⟨24,rfl,by omega,by omega⟩
   obtain⟨m,hm,m1,m2⟩:=hrow;obtain⟨a1,a2,a3,d2,v1,_,_,_,v5,v6⟩:=mc2 m l d1 (by omega) (by omega) m1 (by omega)
   have e1:toI (hdA (j7 [i m] 0))=m:=rfl;have e2:ka1 [CK.int .i64] (j7 [i m] 0)=true:=rfl;have e3:Nat.ble (0+1) (len [i m])=true:=rfl;have e4:Nat.blt (0+w) (len [[i 8],[i 8],[i 3],[i 24]])=true:=by rw[Nat.zero_add,Nat.blt_eq];exact hw4
   have hn:=n8 hj (show n<=4611686018427387904 by omega)
   have fin : Nx (.next (⟨1, ((j + 1 : Nat) : Int), l, d2, O.length + 1, bL tV (O ++ [⟨a1, a2, a3⟩])⟩ : y9)) (fun t => t = 2 ∧ ∃ O' : List V3, O'.length = n ∧ (⟨phV O, (j : Int), l, d, O.length, bL tV O⟩ : y9).ns6 = n ∧ (⟨phV O, (j : Int), l, d, O.length, bL tV O⟩ : y9).eh1 = bL tV O')
     (λs=>∃a':List V3×Int,s=(⟨phV a'.1,((j+1:Nat):Int),l,a'.2,a'.1.length,bL tV a'.1⟩:y9)/\(a'.1.length=j+1/\0<=a'.2/\a'.2<=10*((j+1:Nat):Int)/\j+1<=n)) :=
    .nx ⟨(O++[⟨a1,a2,a3⟩],d2),by simp only[Ee9,Qmk,List.length_singleton],by simp only[Qmk,List.length_singleton];omega,by simp only;omega,by simp only;omega,by omega⟩
   cases O with
   |nil =>
    show Nx (Aa8 Stp.next Stp.exit Stp.fail _ _) _ _;simp only[Aa8,g8,i7,n1,Int.toNat_natCast,hm,e1,e2,e3,e4,v1,hn];rw[btD (show (j:Int)<(n:Int) by omega),bt (e8 hw4)]
    exact fin
   |cons o os =>
    show Nx (fa0 Stp.next Stp.exit Stp.fail _ _) _ _;have rr:=If4 (l:=o::os) rfl (by simp only[List.length_cons] at i1 ⊢;omega)
    simp only[fa0,g8,i7,n1,Int.toNat_natCast,hm,e1,e2,e3,e4,v1,hn,rr,qd1];rw[btD (show (j:Int)<(n:Int) by omega),bt (e8 hw4)]
    exact fin
  ·obtain⟨O,d⟩:=a;obtain⟨i1,i2,i3,i4⟩:=hi
   simp only at i1
   cases O with
   |nil=>simp at i1;omega
   |cons o os =>
    have:j=n:=by omega
    refine⟨2,?_,rfl,o::os,by omega,by show (o::os).length=n;omega,rfl⟩
    show fa0 Stp.next Stp.exit Stp.fail _ _=_;simp only[fa0];rw[bfD (by show ¬ ((j:Nat):Int)<(n:Int);omega)]
 obtain⟨t,s,h1,rfl,O,h2,h3,h4⟩:=key;unfold eb7;simp only[g8,i7];rw[h1];simp only[h3,h4];exact⟨_,O,rfl,by rw[<- h2];exact xe3 tV 27 O,h2⟩
theorem Mc1{c:List Pln}(hc:(chk c==0)=true)(v:V3):has c v=true↔inV v=true/\Inr (c++ws) (ipt v):=by
 unfold has;rw[hc,Bool.true_and,Bool.and_eq_true];constructor
 ·rintro⟨h1,h2⟩;have h2:inn c (ipt v)=true:=h2;rw[Ge7 (λp hp=>Nb8 (bb2 hc p (Qma _ hp))) (Wd7 h1)] at h2
  exact⟨h1,(Wd7 h1).w1,λp hp=>(Qmc.1 hp).elim (h2 p) (xe9 h1 p)⟩
 ·rintro⟨h1,h2⟩;refine⟨h1,?_⟩;show inn c (ipt v)=true;rw[Ge7 (λp hp=>Nb8 (bb2 hc p (Qma _ hp))) (Wd7 h1)]
  exact λp hp=>h2.h p (Qma _ hp)
noncomputable def ub9(c:List Pln)(v:V3):Bool:=!c.any λp=>decide (eb9 p v>=0)
theorem Md3(c:List Pln)(v:V3)(hc:c.length<=1000000000):Na4 c v=some (b (ub9 c v),[]):=by
 have h:=Xa3 (step:=wa0 ⟨c,(c.length:Int),v.x,v.y,v.z⟩) (mk:=λj=>(⟨(j:Int)⟩:Q8)) (c:=λp=>decide (eb9 p v>=0)) (u:=1) (fin:=2) tP c hc
  (λj hj=>by
   simp only[wa0,ra4,Int.toNat_natCast,Af7,Af8,n8 hj (show c.length<=4611686018427387904 by omega),g7]
   rw[btD (f9 hj),bt (e8 hj)])
  (by simp only[wa0,ra4];rw[bfD (l7 (Qmb _))]) 0 (Qmd _)
 rw[Qmh] at h;unfold Na4 ub9;simp only[g8,i7];rw[show (⟨0⟩:Q8)=⟨((0:Nat):Int)⟩ from rfl,h]
 cases c.any λp=>decide (eb9 p v>=0)<;>rfl
theorem vd0{c:List Pln}{v:V3}(hc:c.length<=1000000000):Na5 c v=ub9 c v:=by unfold Na5;rw[Md3 c v hc];rfl
theorem vd1{c:List Pln}{v:V3}(hc:c.length<=1000000000):Na6 c v=true:=by unfold Na6;rw[Md3 c v hc];rfl
theorem Jf5{c:List Pln}{v:V3}(hc:∀p∈c,okp p=true)(h:ub9 c v=true):(c=[]\/inV v=true)/\∀p∈c,0<rmZ p (ipt v):=by
 unfold ub9 at h;rw[Bool.not_eq_true',List.any_eq_false] at h;have key:∀p∈c,inV v=true/\0<rmZ p (ipt v):=λp hp=>by
  have h1:=h p hp;simp only[decide_eq_true_eq] at h1;cases hv:inV v with
  |false=>exact absurd (show eb9 p v>=0 by unfold eb9;rw[hv,Bool.and_false,if_neg (by decide)];exact Int.le_refl _) h1
  |true =>
   refine⟨rfl,?_⟩;have h2:¬ eb9 p v>0:=by omega
   have h3:¬ eb9 p v=0:=by omega
   rw[sd0 (hc p hp) hv] at h2;rw[Jd8 (hc p hp) hv] at h3;simp only[rmZ,ipt,dot] at *
   omega
 refine⟨?_,λp hp=>(key p hp).2⟩
 cases c with
 |nil=>exact .inl rfl
 |cons p c=>exact .inr (key p (by simp)).1
structure PtF(own:List Pln)(s r:List (List Pln)):Prop where
 m:Ra9 own s=(r,0)
 n:r.length<=144
 l:∀x∈r,x.length<=37
 a:∀v,has own v=true->s.any (λq=>has q v)=true\/r.any (λq=>has q v)=true
 b:∀v,r.any (λq=>has q v)=true->has own v=true
 c:∀x∈r,∀y∈s,∀v,(ub9 x v&&ub9 y v)=false
theorem ptF{own:List Pln}{s:List (List Pln)}(ho:Mc own)(hs:Ms 2 s):∃r,PtF own s r:=by
 obtain⟨r,hm,hb⟩:=Re7 (c:=own) (s:=s) (by have:=ho.l;omega) hs.n λq hq=>(hs.c q hq).l
 have hP:=ne8 ho.ful hm;have hrch:∀x∈r,(chk x==0)=true:=λx hx=>(na5.1 (hP.ful x hx)).1
 refine⟨r,(ze5 ho.chk (hs.schk (by omega)) hm).2,hb.n,hb.m,λv hv=>?_,λv hv=>?_,λx hx y hy v=>?_⟩
 ·obtain⟨h1,h2⟩:=(Mc1 ho.chk v).1 hv
  rcases hP.cov _ h2 with⟨x,hx,h3⟩|⟨q,hq,_,h3⟩
  ·exact .inr (Qme.2 ⟨x,hx,(Mc1 (hrch x hx) v).2 ⟨h1,h3⟩⟩)
  ·exact .inl (Qme.2 ⟨q,hq,(Mc1 (hs.c q hq).chk v).2 ⟨h1,h3⟩⟩)
 ·obtain⟨x,hx,h⟩:=Qme.1 hv;obtain⟨h1,h2⟩:=(Mc1 (hrch x hx) v).1 h;exact (Mc1 ho.chk v).2 ⟨h1,hP.sub x hx _ h2⟩
 ·cases h1:ub9 x v with
  |false=>rfl
  |true =>
   cases h2:ub9 y v with
   |false=>rfl
   |true =>
    exfalso;obtain⟨a1,a2⟩:=Jf5 (λp hp=>bb2 (hrch x hx) p (Qma _ hp)) h1
    obtain⟨c1,c2⟩:=Jf5 (λp hp=>bb2 (hs.c y hy).chk p (Qma _ hp)) h2
    obtain⟨_,x0,hx0⟩:=na5.1 (hP.ful x hx);have hnil:y=[]->False:=λe=>hP.off x hx y hy (hs.c y hy).ful x0 hx0 (by rw[e];exact hx0.inr.mono λp hp=>Qmi _ hp)
    have hv:inV v=true:=c1.resolve_left hnil;have hw:Inr ws (ipt v):=⟨(Wd7 hv).w1,xe9 hv⟩;obtain⟨u,hu⟩:=Af1 hw (hx0.mono λp hp=>Qmi _ hp) (x++y) λp hp=>(Qmc.1 hp).elim (a2 p) (c2 p)
    exact hP.off x hx y hy (hs.c y hy).ful u (hu.mono λp hp=>by simp only[Qmc] at hp ⊢;rcases hp with h | h<;>simp[h]) (hu.mono λp hp=>by simp only[Qmc] at hp ⊢;rcases hp with h | h<;>simp[h]).inr
theorem Md4{α:Type}(t:Ty α)(l:List α)(f:α->Bool){j:Nat}(hj:j<l.length):(l.take (j+1)).any f=((l.take j).any f||f (gL t l j)):=by
 rw[List.take_add_one,Qmf hj,List.any_append];simp[gL,List.getD_eq_getElem?_getD,Qmf hj]
theorem pt1 (c0 : Bool) (own : List Pln) (s r : List (List Pln)) (V : List V3) (n j0 : Int) (v : V3) (hs : s.length ≤ 1000000) (hsl : ∀ q ∈ s, q.length ≤ 1000000) :
  ∃m,lp (Q9 ⟨c0,own,s,r,V,n,j0,s,(s.length:Int),v.x,v.y,v.z⟩) ⟨false,0⟩=(1,⟨s.any λq=>has q v,m⟩):=by
 obtain⟨t,st,h,rfl,m,rfl⟩:=S3 (step:=Q9 ⟨c0,own,s,r,V,n,j0,s,(s.length:Int),v.x,v.y,v.z⟩) (mk:=λj (a:Bool)=>(⟨a,(j:Int)⟩:F7)) s.length
  (λj a=>j<=s.length/\a=(s.take j).any λq=>has q v) (λt st=>t=1/\∃m,st=⟨s.any λq=>has q v,m⟩) (by omega)
  (λj a hj hi=>by
   obtain⟨_,hi⟩:=hi;have hq:=hsl _ (ya6 (tLs tP) hj);have hT:=Md4 (tLs tP) s (λq=>has q v) hj
   rw[<- hi] at hT;simp only[Q9,W4,Int.toNat_natCast,g8,o5,show (⟨v.x,v.y,v.z⟩:V3)=v from rfl,ff5 (c:=gL (tLs tP) s j) (by omega),ff6 (c:=gL (tLs tP) s j) (by omega),n8 hj (show s.length<=4611686018427387904 by omega)]
   rw[btD (f9 hj),bt (e8 hj)];cases a with
   |true=>exact .nx ⟨true,rfl,by omega,by rw[hT];rfl⟩
   |false=>exact .nx ⟨_,rfl,by omega,by rw[hT];rfl⟩)
  (λj a hj hi=>by
   obtain⟨hje,hi⟩:=hi
   have:j=s.length:=by omega
   subst this;rw[List.take_length] at hi;refine⟨1,?_,rfl,_,by rw[hi]⟩
   simp only[Q9,W4];rw[bfD (l7 (Qmb _))]) 0 false ⟨Qmd _,by simp⟩
 exact⟨m,h⟩
theorem pt3 (c0 c1 c2 : Bool) (own x : List Pln) (s r a0 : List (List Pln)) (V : List V3) (n1 n2 n3 n4 : Int) (v : V3) (hs : s.length ≤ 1000000) (hsl : ∀ q ∈ s, q.length ≤ 1000000) (hx : x.length ≤ 1000000) (hc : ∀ y ∈ s, (ub9 x v && ub9 y v) = false) :
  (lp (J6 ⟨c0,own,s,r,c1,c2,x,V,n1,n2,a0,n3,n4,s,(s.length:Int),v.x,v.y,v.z⟩) ⟨0⟩).1=2:=by
 have h:=Xa3 (step:=J6 ⟨c0,own,s,r,c1,c2,x,V,n1,n2,a0,n3,n4,s,(s.length:Int),v.x,v.y,v.z⟩) (mk:=λj=>(⟨(j:Int)⟩:B5)) (c:=λ_=>false) (u:=1) (fin:=2) (tLs tP) s (by omega)
  (λj hj=>by
   have hm:gL (tLs tP) s j∈s:=ya6 (tLs tP) hj;have hq:=hsl _ hm;have hcy:=hc _ hm;simp only[J6,W5,Int.toNat_natCast,g8,o5,show (⟨v.x,v.y,v.z⟩:V3)=v from rfl,vd0 (c:=gL (tLs tP) s j) (v:=v) (by omega),vd1 (c:=gL (tLs tP) s j) (v:=v) (by omega),vd0 (c:=x) (v:=v) (by omega),vd1 (c:=x) (v:=v) (by omega),n8 hj (show s.length<=4611686018427387904 by omega),g7]
   rw[btD (f9 hj),bt (e8 hj)];cases h1:ub9 x v with
   |false=>rfl
   |true =>
    rw[h1,Bool.true_and] at hcy;rw[hcy]
    rfl)
  (by simp only[J6,W5];rw[bfD (l7 (Qmb _))]) 0 (Qmd _)
 rw[Qmh,show (s.any λ_=>false)=false by simp] at h
 exact h
theorem pt2 {own : List Pln} {s r : List (List Pln)} (hF : PtF own s r) (c0 c1 : Bool) (V : List V3) (n j0 : Int) (v : V3) (hs : s.length ≤ 1000000) (hsl : ∀ q ∈ s, q.length ≤ 1000000) :
  ∃m,lp (R2 ⟨c0,c1,n,j0,(r.length:Int),v.x,v.y,v.z⟩) ⟨own,s,r,false,V,r,0⟩=(2,⟨own,s,r,r.any λq=>has q v,V,r,m⟩):=by
 have hrn:=hF.n;obtain⟨t,st,h,rfl,m,rfl⟩:=S3 (step:=R2 ⟨c0,c1,n,j0,(r.length:Int),v.x,v.y,v.z⟩) (mk:=λj (a:Bool)=>(⟨own,s,r,a,V,r,(j:Int)⟩:F8)) r.length
  (λj a=>j<=r.length/\a=(r.take j).any λq=>has q v) (λt st=>t=2/\∃m,st=⟨own,s,r,r.any λq=>has q v,V,r,m⟩) (by omega)
  (λj a hj hi=>by
   obtain⟨_,hi⟩:=hi;have hm:gL (tLs tP) r j∈r:=ya6 (tLs tP) hj;have hq:=hF.l _ hm;have hT:=Md4 (tLs tP) r (λq=>has q v) hj
   rw[<- hi] at hT;have h3:=λc2=>pt3 c0 c1 c2 own (gL (tLs tP) r j) s r r V n j0 (r.length:Int) (j:Int) v hs hsl (by omega) λy hy=>hF.c _ hm y hy v
   simp only[R2,W6,Int.toNat_natCast,g8,o5,i7,show (⟨v.x,v.y,v.z⟩:V3)=v from rfl,ff5 (c:=gL (tLs tP) r j) (by omega),ff6 (c:=gL (tLs tP) r j) (by omega),h3,oe3,oe4,Qmj,n8 hj (show r.length<=4611686018427387904 by omega),g7,J7]
   rw[btD (f9 hj),bt (e8 hj)];cases a with
   |true=>exact .nx ⟨true,rfl,by omega,by rw[hT];rfl⟩
   |false=>exact .nx ⟨_,rfl,by omega,by rw[hT];rfl⟩)
  (λj a hj hi=>by
   obtain⟨hje,hi⟩:=hi
   have:j=r.length:=by omega
   subst this;rw[List.take_length] at hi;refine⟨2,?_,rfl,_,by rw[hi]⟩
   simp only[R2,W6];rw[bfD (l7 (Qmb _))]) 0 false ⟨Qmd _,by simp⟩
 exact⟨m,h⟩
theorem pt0 {own : List Pln} {s r : List (List Pln)} (hF : PtF own s r) (V : List V3) (hV : V.length ≤ 1000) (ho : own.length ≤ 1000) (hs : s.length ≤ 1000000) (hsl : ∀ q ∈ s, q.length ≤ 1000000) :
  (lp (R3 ⟨true,(V.length:Int)⟩) ⟨own,s,r,V,0⟩).1=2:=by
 have h:=Xa3 (step:=R3 ⟨true,(V.length:Int)⟩) (mk:=λj=>(⟨own,s,r,V,(j:Int)⟩:F9)) (c:=λ_=>false) (u:=1) (fin:=2) tV V (by omega)
  (λj hj=>by
   obtain⟨m1,h1⟩:=pt1 true own s r V (V.length:Int) (j:Int) (gL tV V j) hs hsl;obtain⟨m2,h2⟩:=pt2 hF true (s.any λq=>has q (gL tV V j)) V (V.length:Int) (j:Int) (gL tV V j) hs hsl
   have ha:=hF.a (gL tV V j);have hb:=hF.b (gL tV V j);simp only[R3,W7,Int.toNat_natCast,g8,o5,i7,h1,h2,oe3,oe4,show Nat.beq 1 1=true from rfl,Qmj,ff5 (c:=own) (show own.length<=1000000000 by omega),ff6 (c:=own) (show own.length<=1000000000 by omega),n8 hj (show V.length<=4611686018427387904 by omega),g7,J7]
   rw[btD (f9 hj),bt (e8 hj)];generalize (s.any λq=>has q (gL tV V j))=A at *
   generalize (r.any λq=>has q (gL tV V j))=B at *
   cases hO:has own (gL tV V j) with
   |true =>
    rcases ha hO with e|e
    ·subst e;cases B<;>rfl
    ·subst e;cases A<;>rfl
   |false =>
    cases B with
    |true=>exact absurd (hb rfl) (by rw[hO];decide)
    |false=>rfl)
  (by simp only[R3,W7];rw[bfD (l7 (Qmb _))]) 0 (Qmd _)
 rw[Qmh,show (V.any λ_=>false)=false by simp] at h
 exact h
theorem Md5(x:List Int)(y:List (List Int))(z:List Int):ka7 x y z=some (b true,[]):=by
 have ho:Mc (Ma9 x):=cg8 x;have hs:Ms 2 (Da3 y 2):=Cf4 y 2 (by omega)
 have gs:yb3 y 2=true:=Cf5 y 2 (by omega)
 have hol:=ho.l;have hsn:=hs.n;have hsl:∀q∈Da3 y 2,q.length<=1000000:=λq hq=>by have:=(hs.c q hq).l;omega
 obtain⟨r,hF⟩:=ptF ho hs;have hV:=λL=>(Ie0 L 10 (by omega) (by omega)).p
 have gV:=λL=>(Ie0 L 10 (by omega) (by omega)).g
 have pV:∀L,(xb6 L 10).length=10:=hV;have gV:∀L,Zb6 L 10=true:=gV;have hlp:=λL=>pt0 hF (xb6 L 10) (by rw[pV];omega) (by omega) (by omega) hsl
 unfold ka7;simp only[g8,o5,i7,ze6,ze7,cg9,gs,Sf0 z,jb2 tI (f:=λk=>gL tI z (0+k)) λ_ _=>rfl,gV,Xd8 (x:=Ma9 x) (y:=Da3 y 2) (by omega) (by omega) hsl,Xd9 (x:=Ma9 x) (y:=Da3 y 2) (by omega) (by omega) hsl,hF.m,hlp,g7,Qmj]
 rfl
theorem Df2(x:List Int)(y:List (List Int))(z:List Int):ya2 x y z=true:=by unfold ya2;rw[Md5];rfl
theorem Df3(x:List Int)(y:List (List Int))(z:List Int):ya3 x y z=true:=by unfold ya3;rw[Md5];rfl
end Go.Ev.Ce
namespace Go.Ev
open Go Go.ChangeShapes Go.RowKit
section
variable{D:Type}{enc:TypeId×Value->D}{P:Program}{w:World}{spare:Nat->Bool}{held:Bool}
theorem Sf3 {t e u : TypeId} {k : IntKind} {d : Nat} (ht : P.underlying t = some (.slice e)) (he : P.underlying e = some (.slice u)) (hf : ga6 P d u = some (Ja7 k 1)) (hes : P.cellsOf u = 1) (hce : P.cellsOf e = 1) {fuel : Nat} {cs : List Value} {x : DataW D × List MemPlace} (hx : DataW.trod enc P w 0 spare held fuel t cs = some x) :
  ∃(v:Value) (n:Nat) (m:Nat->Nat) (g:Nat->Nat->Int),cs=[v]/\ea6 (Sc9 w) w (.tree 1 n λj=>[.tree 1 (m j) λq=>[.v (.int k (g j q))]]) v:=by
 rcases pe0 ht hx with rfl|⟨a,n,cap,fuel',rfl,hn,hc,hel⟩
 ·exact⟨_,0,λ_=>0,λ_ _=>0,rfl,.nil _ _⟩
 ·rw[hce] at hel;have hcell:∀j,j<n->∃(m:Nat) (g:Nat->Int) (v:Value),w.cell? (a.add (j*1))=some v/\ea6 (Sc9 w) w (.tree 1 m λq=>[.v (.int k (g q))]) v:=λj hj=>by
   obtain⟨row,y,h1,h2⟩:=hel j hj;obtain⟨v',m,g,e1,_,e3⟩:=wc2 he hf hes (by omega) h2
   subst e1;refine⟨m,λq=>g q 0,v',?_,?_⟩
   ·unfold World.cells? at h1
    split at h1
    ·obtain⟨l1,l2⟩:=Tb8 h1;obtain⟨i,hi,hi2⟩:=l2 0 v' rfl
     have:i=0:=by
      have:=List.getElem?_eq_some_iff.1 hi
      obtain⟨h3,h4⟩:=this;simpa using h4.symm
     subst this;have e:(a.add (j*1)).add 0=a.add (j*1):=by
      unfold Addr.add;cases (a.spot)<;>simp
     rw[<- e];exact hi2
    ·cases h1
   ·exact e3.get λq _=>rfl
  have hg:∀j,∃p:Nat×(Nat->Int),j<n->∃v:Value,w.cell? (a.add (j*1))=some v/\ea6 (Sc9 w) w (.tree 1 p.1 λq=>[.v (.int k (p.2 q))]) v:=λj=>by
   by_cases hj:j<n
   ·obtain⟨m,g,v,h1,h2⟩:=hcell j hj;exact⟨(m,g),λ_=>⟨v,h1,h2⟩⟩
   ·exact⟨(0,λ_=>0),λh=>absurd h hj⟩
  obtain⟨p,hp⟩:=Qmg hg;have hv:∀j,∃v:Value,j<n->w.cell? (a.add (j*1))=some v/\ea6 (Sc9 w) w (.tree 1 (p j).1 λq=>[.v (.int k ((p j).2 q))]) v:=λj=>by
   by_cases hj:j<n
   ·obtain⟨v,h⟩:=hp j hj;exact⟨v,λ_=>h⟩
   ·exact⟨.bool true,λh=>absurd h hj⟩
  obtain⟨v,hv⟩:=Qmg hv;have hspot:0<n->a.spot=none:=λhn=>by
   have:=(hv 0 hn).1
   simpa [Addr.add] using World.cell?_spot this
  have hw:∀j c,j<n->c<1->w.cell? ⟨a.block,a.off+(j*1+c),none⟩=some (v j):=λj c hj hc=>by
   have:=(hv j hj).1
   rw[Y3 (hspot (by omega))] at this
   have:c=0:=by omega
   subst this;simpa using (hv j hj).1 |> λh=>by rw[Y3 (hspot (by omega))] at h;simpa using h
  refine⟨_,n,λj=>(p j).1,λj q=>(p j).2 q,rfl,.tree 1 n _ a cap (λj _=>v j) hspot hn (λi hi=>rfl) (λi c hi hc=>?_) hw λi c hi hc=>?_⟩
  ·unfold Sc9;rw[hw i c hi hc];rfl
  ·have:c=0:=by simpa using hc
   subst this;exact (hv i hi).2
theorem Df4 {ρ : Rho} {H : List b8} {t e u : TypeId} {k : IntKind} {d : Nat} {v : Value} {dd : DataW D} {pp : List MemPlace} {bs : Nat} {r : Reach} (ht : P.underlying t = some (.slice e)) (he : P.underlying e = some (.slice u)) (hf : ga6 P d u = some (Ja7 k 1)) (hes : P.cellsOf u = 1) (hce : P.cellsOf e = 1)
  (hok:Value.okWide P w r bs t v) (h:DataW.Trod enc P w 0 spare held t v dd pp):∃(n:Nat) (m:Nat->Nat) (g:Nat->Nat->Int),la1 ρ H (Sc9 w) w (.tree 1 n λj=>[.tree 1 (m j) λq=>[.v (.int k (g j q))]]) v:=by
 obtain⟨fuel,hx⟩:=h;obtain⟨v',n,m,g,h1,h3⟩:=Sf3 ht he hf hes hce hx;have hv:v.cells=#[v]:=by
  unfold Value.okWide at hok;rw[ht] at hok;cases v with
  |agg cs=>exfalso;simp[Cell.okWide,Cell.ok,ht] at hok
  |_=>rfl
 rw[hv] at h1
 have:v=v':=by simpa using h1
 subst this;exact⟨n,m,g,.cell (.mem h3)⟩
end
end Go.Ev
namespace Go.Ev.Ce
open Go Go.Ev Go.Ev.L Go.ChangeShapes Go.RowKit
theorem Df5(n:Nat)(m:Nat->Nat)(g:Nat->Nat->Int):∃l,Rdg (O3 (tLs tI)) (.tree 1 n λj=>[.tree 1 (m j) λq=>[.v (.int .i64 (g j q))]]) l:=by
 refine⟨lsL (tLs tI) n λj=>[.tree 1 (m j) λq=>[.v (.int .i64 (g j q))]],rfl,?_⟩
 show okL (tLs tI) n _=true;unfold okL;rw[List.all_eq_true];intro j _;show Bool.and (Nat.beq 1 1) (okL tI (m j) λq=>[.v (.int .i64 (g j q))])=true
 have h:okL tI (m j) (λq=>[.v (.int .i64 (g j q))])=true:=jb2 tI (f:=λq=>g j q) λ_ _=>rfl
 rw[h];rfl
end Go.Ev.Ce
