/- Own work. -/
import Derived.Test.YtgphembaimondaaGreatDoorEvOkDa
import Derived.Test.YtgphembaimondaaGreatDoorEvOkDc
import Derived.Test.YtgphembaimondaaGreatDoorEvOkDd
import Derived.Test.YtgphembaimondaaGreatDoorEvOkDe
set_option linter.all false
noncomputable section
namespace Go.Ev.Ce
open Go Go.Ev Go.Ev.L Go.Proofs
set_option maxRecDepth 1000000
def se7:List (List V3×Int):=[([⟨0,0,0⟩,⟨2,0,0⟩,⟨0,2,0⟩,⟨2,2,0⟩,⟨0,0,2⟩,⟨2,0,2⟩,⟨0,2,2⟩,⟨2,2,2⟩],48),([⟨0,0,0⟩,⟨0,0,2⟩,⟨0,2,0⟩,⟨0,2,2⟩,⟨3,0,0⟩,⟨3,0,2⟩,⟨3,2,0⟩,⟨3,2,2⟩],72),([⟨1,0,0⟩,⟨1,0,2⟩,⟨1,2,0⟩,⟨1,2,2⟩,⟨4,0,0⟩,⟨4,0,2⟩,⟨4,2,0⟩,⟨4,2,2⟩],72),([⟨2,0,0⟩,⟨2,0,2⟩,⟨2,2,0⟩,⟨2,2,2⟩,⟨5,0,0⟩,⟨5,0,2⟩,⟨5,2,0⟩,⟨5,2,2⟩],72),([⟨3,0,0⟩,⟨3,0,2⟩,⟨3,2,0⟩,⟨3,2,2⟩,⟨6,0,0⟩,⟨6,0,2⟩,⟨6,2,0⟩,⟨6,2,2⟩],72),([⟨4,0,0⟩,⟨4,0,2⟩,⟨4,2,0⟩,⟨4,2,2⟩,⟨7,0,0⟩,⟨7,0,2⟩,⟨7,2,0⟩,⟨7,2,2⟩],72),([⟨5,0,0⟩,⟨5,0,2⟩,⟨5,2,0⟩,⟨5,2,2⟩,⟨8,0,0⟩,⟨8,0,2⟩,⟨8,2,0⟩,⟨8,2,2⟩],72)]
theorem Hd2:X4 (λx=>(qc4 [(ga2 tV).enc x.1] []).run=some (.tup [i x.2,i 0],[])) se7:=.cons Ee7 <| .cons Ee8 <| .cons Ee9 <| .cons Fe0 <| .cons Fe1 <| .cons Fe2 <| .cons Fe3 <| .nil
def sd6:Sum:=G9 (ga2 tV) λl=>fZ fV l λl=>onT l (λn=>.ret (.tup [i n,i 0],[])) se7
theorem sd7:d6 prog G 35 sd6:=eb7 be1 λl r h=>by
 rw[ic0 hc9] at h;obtain⟨x,hx,h⟩:=wb6 Hd2 h;rw[hx];exact h
def Sa0:List (List V3×List V3):=[([⟨0,0,0⟩,⟨1,0,0⟩],[⟨0,0,0⟩,⟨0,0,2⟩,⟨0,2,0⟩,⟨0,2,2⟩,⟨3,0,0⟩,⟨3,0,2⟩,⟨3,2,0⟩,⟨3,2,2⟩]),([⟨1,0,0⟩,⟨2,0,0⟩],[⟨1,0,0⟩,⟨1,0,2⟩,⟨1,2,0⟩,⟨1,2,2⟩,⟨4,0,0⟩,⟨4,0,2⟩,⟨4,2,0⟩,⟨4,2,2⟩]),([⟨2,0,0⟩,⟨3,0,0⟩],[⟨2,0,0⟩,⟨2,0,2⟩,⟨2,2,0⟩,⟨2,2,2⟩,⟨5,0,0⟩,⟨5,0,2⟩,⟨5,2,0⟩,⟨5,2,2⟩]),([⟨3,0,0⟩,⟨4,0,0⟩],[⟨3,0,0⟩,⟨3,0,2⟩,⟨3,2,0⟩,⟨3,2,2⟩,⟨6,0,0⟩,⟨6,0,2⟩,⟨6,2,0⟩,⟨6,2,2⟩]),([⟨4,0,0⟩,⟨5,0,0⟩],[⟨4,0,0⟩,⟨4,0,2⟩,⟨4,2,0⟩,⟨4,2,2⟩,⟨7,0,0⟩,⟨7,0,2⟩,⟨7,2,0⟩,⟨7,2,2⟩]),([⟨5,0,0⟩,⟨6,0,0⟩],[⟨5,0,0⟩,⟨5,0,2⟩,⟨5,2,0⟩,⟨5,2,2⟩,⟨8,0,0⟩,⟨8,0,2⟩,⟨8,2,0⟩,⟨8,2,2⟩])]
theorem R4:X4 (λx=>Lc0 x.1=some ((two (r1L tV) r1I).enc (x.2,0),[])) Sa0:=.cons Ee1 <| .cons Ee2 <| .cons Ee3 <| .cons Ee4 <| .cons Ee5 <| .cons Ee6 <| .nil
def Pd2:Sum:=pa5 (ga2 tV) (ga2 tV) λa p=>.guard (eqZ qc1 a cuL) (fZ fV p λp=>onT p (λe=>.ret ((two (r1L tV) r1I).enc (e,0),[])) Sa0)
theorem Hd3{α β:Type}{f:Nat}{c:Cod α}{d:Cod β}{k k':α->β->DT (a7×List a8)}(h:d6 prog G f (pa5 c d k))(hk:∀a b r,(k' a b).run=some r->(k a b).run=some r):d6 prog G f (pa5 c d k'):=h.le λargs blks r hr=>by
 unfold pa5 at hr ⊢
 split at hr
 ·obtain⟨a,h1,hr⟩:=u9 hr;obtain⟨b,h2,hr⟩:=u9 hr;obtain⟨g1,hr⟩:=DT.run_guard_some hr;obtain⟨g2,hr⟩:=DT.run_guard_some hr;simp only[h1,h2,onO,g1,g2];exact hk a b r hr
 ·cases hr
theorem be6:d6 prog G 46 Pd2:=Hd3 (Sd4 be4 (two (r1L tV) r1I) (o:=λa p=>(be3 [(ga2 tV).enc a,(ga2 tV).enc p] []).run) λa p r h=>h) λa p r h=>by
 obtain⟨hg,h⟩:=DT.run_guard_some h;rw[ic0 hc9] at h;rw[Ma7 gb1 hg];obtain⟨x,hx,h⟩:=wb6 R4 h;exact Gd7 (R:=two (r1L tV) r1I) (F:=Gd8) Gd9 (hx.trans h)
def C_8:Sum:=j6 (En []) pf8
theorem Pd3:d6 prog G 8 C_8:=bd b8 trivial
def se8:Sum:=j6 (En []) ge9
theorem be7:d6 prog G 10 se8:=bd b10 trivial
def be8:Sum:=j6 (En []) he9
theorem sd8:d6 prog G 21 be8:=bd b21 trivial
def be9:Sum:=j6 (En [(35,sd6)]) ie4
theorem sd9:d6 prog G 36 be9:=bd b36 ⟨sd7,trivial⟩
def se9:Sum:=j6 (En []) ie6
theorem ce0:d6 prog G 38 se9:=bd b38 trivial
def te0:Sum:=j6 (En []) ie9
theorem ce1:d6 prog G 41 te0:=bd b41 trivial
def te1:Sum:=j6 (En []) je0
theorem ce2:d6 prog G 42 te1:=bd b42 trivial
def te2:Sum:=j6 (En [(21,be8),(41,te0),(42,te1)]) ie7
theorem ce3:d6 prog G 39 te2:=bd b39 ⟨sd8,ce1,ce2,trivial⟩
def te3:Sum:=j6 (En []) je1
theorem ce4:d6 prog G 43 te3:=bd b43 trivial
def ce5:Sum:=j6 (En [(20,rd2),(38,se9),(39,te2),(40,sd3),(43,te3)]) ie5
theorem td0:d6 prog G 37 ce5:=bd b37 ⟨qc2,ce0,ce3,qc3,ce4,trivial⟩
def te4:Sum:=j6 (En []) je6
theorem ce6:d6 prog G 48 te4:=bd b48 trivial
def ce7:Sum:=j6 (En [(36,be9),(37,ce5),(48,te4)]) ie0
theorem td1:d6 prog G 22 ce7:=bd b22 ⟨sd9,td0,ce6,trivial⟩
def te5:Sum:=j6 (En [(20,rd2),(21,be8),(22,ce7)]) he3
theorem ce8:d6 prog G 11 te5:=bd b11 ⟨qc2,sd8,td1,trivial⟩
def te6:Sum:=j6 (En [(8,C_8)]) he5
theorem ce9:d6 prog G 17 te6:=bd b17 ⟨Pd3,trivial⟩
def te7:Sum:=j6 (En []) he6
theorem de0:d6 prog G 18 te7:=bd b18 trivial
def Hd4:Sum:=j6 (En []) ke3
theorem Lc1:d6 prog G 67 Hd4:=bd b67 trivial
def Pd4:Sum:=j6 (En []) Ld9
theorem Hd5:d6 prog G 214 Pd4:=bd ze9 trivial
def td2:Sum:=j6 (En [(122,rd9)]) Ld8
theorem Sc1:d6 prog G 160 td2:=bd oe2 ⟨Rc9,trivial⟩
def td3:Sum:=j6 (En [(40,sd3),(160,td2)]) Md6
theorem Sc2:d6 prog G 224 td3:=bd Ae6 ⟨qc3,Sc1,trivial⟩
def Pd5:Sum:=j6 (En [(72,bd0)]) Md7
theorem Hd6:d6 prog G 225 Pd5:=bd Ae7 ⟨Xb8,trivial⟩
def Pd6:Sum:=j6 (En [(72,bd0),(224,td3),(225,Pd5)]) Md3
theorem Hd7:d6 prog G 220 Pd6:=bd Ae3 ⟨Xb8,Sc2,Hd6,trivial⟩
def de1:Sum:=j6 (En [(67,Hd4),(68,Fd7),(214,Pd4),(220,Pd6)]) ie2
theorem td4:d6 prog G 34 de1:=bd b34 ⟨Lc1,Kc9,Hd5,Hd7,trivial⟩
def td5:Sum:=j6 (En [(20,rd2)]) Md2
theorem Sc3:d6 prog G 219 td5:=bd Ae2 ⟨qc2,trivial⟩
def Pd7:Sum:=ka9 (En [(219,td5)]) Ld6
theorem Hd8:d6 prog G 148 Pd7:=bd ze4 ⟨Sc3,trivial⟩
def Pd8:Sum:=j6 (En [(148,Pd7)]) Ld1
theorem Hd9:d6 prog G 116 Pd8:=bd ye1 ⟨Hd8,trivial⟩
def Pd9:Sum:=j6 (En [(40,sd3),(160,td2)]) Md1
theorem Id0:d6 prog G 217 Pd9:=bd Ae1 ⟨qc3,Sc1,trivial⟩
def Qd0:Sum:=j6 (En [(219,td5),(224,td3)]) Md5
theorem Id1:d6 prog G 223 Qd0:=bd Ae5 ⟨Sc3,Sc2,trivial⟩
def de2:Sum:=j6 (En [(34,de1),(67,Hd4),(116,Pd8),(217,Pd9),(223,Qd0)]) le1
theorem td6:d6 prog G 77 de2:=bd b77 ⟨td4,Lc1,Hd9,Id0,Id1,trivial⟩
def te8:Sum:=j6 (En [(77,de2)]) je2
theorem de3:d6 prog G 44 te8:=bd b44 ⟨td6,trivial⟩
def te9:Sum:=j6 (En [(77,de2)]) le2
theorem de4:d6 prog G 78 te9:=bd b78 ⟨td6,trivial⟩
def Qd1:Sum:=j6 (En []) Md0
theorem Id2:d6 prog G 216 Qd1:=bd Ae0 trivial
def Qd2:Sum:=j6 (En []) Md4
theorem Id3:d6 prog G 222 Qd2:=bd Ae4 trivial
def ue0:Sum:=j6 (En [(67,Hd4),(78,te9),(216,Qd1),(222,Qd2)]) je3
theorem de5:d6 prog G 45 ue0:=bd b45 ⟨Lc1,de4,Id2,Id3,trivial⟩
def ue1:Sum:=j6 (En [(36,be9),(37,ce5)]) je5
theorem de6:d6 prog G 47 ue1:=bd b47 ⟨sd9,td0,trivial⟩
def ue2:Sum:=j6 (En [(22,ce7),(33,sd5),(34,de1),(35,sd6),(44,te8),(45,ue0),(46,Pd2),(47,ue1)]) he7
theorem de7:d6 prog G 19 ue2:=bd b19 ⟨td1,Hd1,td4,sd7,de3,de5,be6,de6,trivial⟩
def C_6:Sum:=j6 (En [(8,C_8),(10,se8),(11,te5),(17,te6),(18,te7),(19,ue2)]) pf6
theorem ue3:d6 prog G 6 C_6:=bd b6 ⟨Pd3,be7,ce8,ce9,de0,de7,trivial⟩
theorem Id4:(C_6 [] []).run=some (b true,[]):=by kernel_rfl
def Wa0:Sum:=Rd9 (.ret (b true,[]))
theorem Db2:d6 prog G 6 Wa0:=xd4 ue3 λr h=>by rw[Id4];exact h
def W8:List (Nat×Sum):=[(6,Wa0),(7,fc8),(8,Fb8),(9,Xb3),(10,Gb1),(11,wb1),(12,Fb9)]
theorem hb8:w7 prog G W8:=⟨Db2,Ic9,pc7,Bc6,pc9,ac4,pc8,trivial⟩
structure F6 where
 (f0 e8 g7 W9 X0 X1 ta5 gb2 Ba2 wb8 Ua4 qc6:Int)
structure s8 where
 Lc3:Int
def ua9(p:F6)(s:s8):St:=⟨ra 6 (.ptr 0 0 0 0::.ptr 1 0 0 0::.unk::b true::ra 29 (.sl 2 0 4 0::i 4::i s.Lc3::ra 102 [])),[bq 0 3 [[i p.f0,i p.e8,i p.g7]],bq 0 3 [[i p.W9,i p.X0,i p.X1]],bq 26 2 [[i p.ta5,i p.gb2],[i p.Ba2,i p.wb8],[i p.Ua4,i 1],[i 1073741824,i p.qc6]]]⟩
def O9{α:Type}(k:s8->α)(e:Nat->α)(z:α)(p:F6)(s:s8):α:=let y0:=(j8 [[i p.ta5,i p.gb2],[i p.Ba2,i p.wb8],[i p.Ua4,i 1],[i 1073741824,i p.qc6]] (0+s.Lc3.toNat));let y2:=(toI (hdA (i5 y0 0)));let y1:=(toI (hdA (tlA (i5 y0 0))));let t1:=(Ja3 y2 y1);let t2:=(Ua1 y2 y1);(sl (decide (s.Lc3<4)) (sl (inB s.Lc3 4) (sl (((Nat.blt (0+s.Lc3.toNat) (len [[i p.ta5,i p.gb2],[i p.Ba2,i p.wb8],[i p.Ua4,i 1],[i 1073741824,i p.qc6]]))&&(Nat.ble (0+2) (len y0)))&&(Ga5 [CK.int .i64,CK.int .i64] (i5 y0 0))) (sl (Ja4 y2 y1) (sl (Ua2 y2 y1) (sl (t1.1 != t2.1) (e 1) (sl (t1.2 != t2.2) (e 1) (k ⟨W (s.Lc3+1)⟩))) z) z) z) z) (e 2))
def da9(p:F6)(s:s8):Stp s8:=O9 .next .exit .fail p s
def ga4:Lo F6 s8:=⟨En W8,0,pf3,[1,1,0,1,4,4],[6,7,9,39,40,41],.p,[⟨ru2 6 (sPq 0::sPq 1::sUq::.s (.o (.blit true))::ru2 29 (.s (.o (.sl 2 0 (some 0) (some 4)))::.s (.o (.lit .i64 4))::sIq::ru2 102 [])),[⟨0,3,true,some [kLq 3]⟩,⟨0,3,true,some [kLq 3]⟩,⟨26,2,true,some [[.o (.int .i64),.o (.int .i64)],[.o (.int .i64),.o (.int .i64)],[.o (.int .i64),.o (.lit .i64 1)],[.o (.lit .i64 1073741824),.o (.int .i64)]]⟩],λa H=>(⟨hIq H 0 0 0,hIq H 0 0 1,hIq H 0 0 2,hIq H 1 0 0,hIq H 1 0 1,hIq H 1 0 2,hIq H 2 0 0,hIq H 2 0 1,hIq H 2 1 0,hIq H 2 1 1,hIq H 2 2 0,hIq H 2 3 1⟩,⟨aIq a 41⟩)⟩],da9,[(none,λp s=>⟨[b false],[]⟩),(some 0,λp s=>upq (ua9 p s) [(42,b (decide (s.Lc3<4)))])],ua9⟩
theorem db0:ga4.Ok:=Lo.okq [] .nil λp s=>(.ofq @O9)
structure F7 where
 (ac8 f0 e8 g7 W9 X0 X1 ta5 gb2 Sc5 Ba2 wb8 Id8 qc7 qc8 qc9 rc0 rc1 rc2 rc3 rc4:Int)
structure s9 where
 Xb9:Int
def va0(p:F7)(s:s9):St:=⟨ra 7 (.ptr 0 0 0 0::.unk::b true::ra 8 (.ptr 1 0 0 0::ra 63 (.sl 2 0 2 0::i 2::i p.ac8::ra 20 (.sl 3 0 4 0::i 4::i s.Xb9::ra 36 [])))),[bq 0 3 [[i p.f0,i p.e8,i p.g7]],bq 0 3 [[i p.W9,i p.X0,i p.X1]],bq 23 3 [[i p.ta5,i p.gb2,i p.Sc5],[i p.Ba2,i p.wb8,i p.Id8]],bq 24 3 [[i p.qc7,i p.qc8,i p.qc9],[i p.rc0,i p.rc1,i p.rc2],[i p.rc3,i 0,i 0],[i 0,i 0,i p.rc4]]]⟩
def P0{α:Type}(k:s9->α)(e:Nat->α)(z:α)(p:F7)(s:s9):α:=let y1:=(⟨p.W9,p.X0,p.X1⟩:V3);let y0:=(j8 [[i p.qc7,i p.qc8,i p.qc9],[i p.rc0,i p.rc1,i p.rc2],[i p.rc3,i 0,i 0],[i 0,i 0,i p.rc4]] (0+s.Xb9.toNat));let y3:=(toI (hdA (i5 y0 0)));let y2:=(tlA (i5 y0 0));let y4:=(toI (hdA (tlA y2)));let t1:=(Ba0 y1 y3 (toI (hdA y2)) y4);let t2:=(Ja5 y1 y3 (toI (hdA y2)) y4);(sl (decide (s.Xb9<4)) (sl (inB s.Xb9 4) (sl (((Nat.blt (0+s.Xb9.toNat) (len [[i p.qc7,i p.qc8,i p.qc9],[i p.rc0,i p.rc1,i p.rc2],[i p.rc3,i 0,i 0],[i 0,i 0,i p.rc4]]))&&(Nat.ble (0+3) (len y0)))&&(Ga5 [CK.int .i64,CK.int .i64,CK.int .i64] (i5 y0 0))) (sl (Ba1 y1 y3 (toI (hdA y2)) y4) (sl (Ja6 y1 y3 (toI (hdA y2)) y4) (sl (!((t1.1.x==t2.1.x)&&((t1.1.y==t2.1.y)&&((t1.1.z==t2.1.z)&&true)))) (e 1) (sl (t1.2 != t2.2) (e 1) (k ⟨W (s.Xb9+1)⟩))) z) z) z) z) (e 2))
def ea0(p:F7)(s:s9):Stp s9:=P0 .next .exit .fail p s
abbrev A8:List K:=[.o (.int .i64),.o (.int .i64),.o (.int .i64)]
def ga5:Lo F7 s9:=⟨En W8,0,pf3,[1,1,1,1,0,1,4,4,1,1,0,4,1,1,4,4],[7,9,18,82,83,84,105,106,107],.p,[⟨ru2 7 (sPq 0::sUq::.s (.o (.blit true))::ru2 8 (sPq 1::ru2 63 (.s (.o (.sl 2 0 (some 0) (some 2)))::.s (.o (.lit .i64 2))::sIq::ru2 20 (.s (.o (.sl 3 0 (some 0) (some 4)))::.s (.o (.lit .i64 4))::sIq::ru2 36 [])))),[⟨0,3,true,some [A8]⟩,⟨0,3,true,some [A8]⟩,⟨23,3,true,some [A8,A8]⟩,⟨24,3,true,some [A8,A8,[.o (.int .i64),.o (.lit .i64 0),.o (.lit .i64 0)],[.o (.lit .i64 0),.o (.lit .i64 0),.o (.int .i64)]]⟩],λa H=>(⟨aIq a 84,hIq H 0 0 0,hIq H 0 0 1,hIq H 0 0 2,hIq H 1 0 0,hIq H 1 0 1,hIq H 1 0 2,hIq H 2 0 0,hIq H 2 0 1,hIq H 2 0 2,hIq H 2 1 0,hIq H 2 1 1,hIq H 2 1 2,hIq H 3 0 0,hIq H 3 0 1,hIq H 3 0 2,hIq H 3 1 0,hIq H 3 1 1,hIq H 3 1 2,hIq H 3 2 0,hIq H 3 3 2⟩,⟨aIq a 107⟩)⟩],ea0,[(none,λp s=>⟨[b false],[]⟩),(some 4,λp s=>upq (va0 p s) [(108,b (decide (s.Xb9<4)))])],va0⟩
theorem db1:ga5.Ok:=Lo.okq [] .nil λp s=>(.ofq @P0)
structure F8 where
 (f0 e8 g7 W9 X0 X1 Nb0 Nb1 Nb2:Int)
structure u7 where
 ac8:Int
def va1(p:F8)(s:u7):St:=⟨ra 7 (.ptr 0 0 0 0::.unk::b true::ra 72 (.sl 1 0 2 0::i 2::i s.ac8::ra 59 [])),[bq 0 3 [[i p.f0,i p.e8,i p.g7]],bq 23 3 [[i p.W9,i p.X0,i p.X1],[i p.Nb0,i p.Nb1,i p.Nb2]]]⟩
def P1{α:Type}(k:u7->α)(e:Nat->α)(z:α)(p:F8)(s:u7):α:=let y0:=(rdR tV [[i p.W9,i p.X0,i p.X1],[i p.Nb0,i p.Nb1,i p.Nb2]] (0+s.ac8.toNat));let t1:=(ea7 p.f0 3);let t2:=(ea7 p.e8 4);let t3:=(ea7 p.g7 4);let t4:=(lp (ea0 (⟨s.ac8,p.f0,p.e8,p.g7,y0.x,y0.y,y0.z,p.W9,p.X0,p.X1,p.Nb0,p.Nb1,p.Nb2,p.f0,p.e8,p.g7,t1,t2,t3,p.f0,p.g7⟩:F7)) (⟨0⟩:s9));(sl (decide (s.ac8<2)) (sl (inB s.ac8 2) (sl (ldR tV [[i p.W9,i p.X0,i p.X1],[i p.Nb0,i p.Nb1,i p.Nb2]] (0+s.ac8.toNat)) (sl (T3 p.f0 3) (sl (T3 p.e8 4) (sl (T3 p.g7 4) (sl (Nat.beq t4.1 1) (e 1) (sl (Nat.beq t4.1 2) (k ⟨W (s.ac8+1)⟩) z)) z) z) z) z) z) (e 2))
def ea1(p:F8)(s:u7):Stp u7:=P1 .next .exit .fail p s
def ga6:Lo F8 u7:=⟨En W8,0,pf3,[1,1,1,1,0,1,4,4],[7,9,82,83,84],.s .p (.s .p (.s (.b (.s .p (.s .p (.b (.u ga5.ls))))) .p)),[⟨ru2 7 (sPq 0::sUq::.s (.o (.blit true))::ru2 72 (.s (.o (.sl 1 0 (some 0) (some 2)))::.s (.o (.lit .i64 2))::sIq::ru2 59 [])),[⟨0,3,true,some [kLq 3]⟩,⟨23,3,true,some [kLq 3,kLq 3]⟩],λa H=>(⟨hIq H 0 0 0,hIq H 0 0 1,hIq H 0 0 2,hIq H 1 0 0,hIq H 1 0 1,hIq H 1 0 2,hIq H 1 1 0,hIq H 1 1 1,hIq H 1 1 2⟩,⟨aIq a 84⟩)⟩],ea1,[(none,λp s=>⟨[b false],[]⟩),(some 2,λp s=>upq (va1 p s) [(85,b (decide (s.ac8<2)))])],va1⟩
theorem db2:ga6.Ok:=Lo.okq [ga5.pr] (.cons db1 .nil) λp s=>(.ofq @P1)
def R8(x:Int)(y:Int)(z:V3)(w:I3):ROq:=let t1:=(ea7 x 1000);let t2:=(ea7 y 50);let t3:=(lp (da9 (⟨z.x,z.y,z.z,w.j0,w.j1,w.j2,x,y,t1,W (1+t2),x,y⟩:F6)) (⟨0⟩:s8));let t4:=(ea7 z.x 8);let t5:=(ea7 z.y 8);let t6:=(ea7 z.z 8);let t7:=(Gb0 t4 t5 t6);let t8:=(lp (ea1 (⟨w.j0,w.j1,w.j2,z.x,z.y,z.z,t7.x,t7.y,t7.z⟩:F8)) (⟨0⟩:u7));(sl (T3 x 1000) (sl (T3 y 50) (sl (Nat.beq t3.1 1) (some (b false,[])) (sl (Nat.beq t3.1 2) (sl (T3 z.x 8) (sl (T3 z.y 8) (sl (T3 z.z 8) (sl (Nat.beq t8.1 1) (some (b false,[])) (sl (Nat.beq t8.1 2) (some (b true,[])) none)) none) none) none) none)) none) none)
def aa8(x:Int)(y:Int)(z:V3)(w:I3):Bool:=N4 (one r1B) (R8 x y z w)
def aa9(x:Int)(y:Int)(z:V3)(w:I3):Bool:=okO (one r1B) (R8 x y z w)
def wb7:Sum:=Qb6 cI cI (ha1 tV) (ha1 tN) (λx y z w=>.guard (aa9 x y z w) (.ret ((one r1B).enc (aa8 x y z w),[])))
theorem nb9:d6 prog G 3 wb7:=Sd5 (bd b3 hb8) (one r1B) (o:=R8) λx y z w=>Ha8 (.s .p (.s .p (.s (.s .p (.b (.u ga4.ls))) (.s .p (.s (.s .p (.b (.u ga6.ls))) .p))))) [ga4.pr,ga6.pr] (.cons db0 (.cons db2 .nil))
theorem de8{σ:Type}{step:σ->Stp σ}{mk:Nat->σ}(n:Nat)(hn:n<=1000000000)(h:∀j,j<n->step (mk j)=.next (mk (j+1)))(hf:step (mk n)=.exit 2):(lp step (mk 0)).1=2:=by
 obtain⟨k,hk⟩:=oc2 (step:=step) (mk:=mk) n (λ_=>false) 1 2 hn (λj hj=>by rw[h j hj];rfl) hf
 rw[hk];show (if (List.range n).any (λ_=>false)=true then 1 else 2)=2
 rw[if_neg];simp
theorem de9(p:F6):(lp (da9 p) ⟨0⟩).1=2 :=
 de8 (mk:=λj=>(⟨(j:Int)⟩:s8)) 4 (by omega)
  (λj hj=>by
   show O9 Stp.next Stp.exit Stp.fail _ _=_;simp only[O9,Yd5,Yd6,Ed4,Ed5,bne_self_eq_false,s6,Qb8];have hj4:j=0\/j=1\/j=2\/j=3:=by omega
   rcases hj4 with rfl|rfl|rfl|rfl<;>rfl)
  rfl
theorem ee0(p:F7):(lp (ea0 p) ⟨0⟩).1=2 :=
 de8 (mk:=λj=>(⟨(j:Int)⟩:s9)) 4 (by omega)
  (λj hj=>by
   show P0 Stp.next Stp.exit Stp.fail _ _=_;simp only[P0,Ed6,Ed7,qd2,qd3,bne_self_eq_false,beq_self_eq_true,Qih,Bool.not_true,s6,Qb8];have hj4:j=0\/j=1\/j=2\/j=3:=by omega
   rcases hj4 with rfl|rfl|rfl|rfl<;>rfl)
  rfl
theorem ee1(p:F8):(lp (ea1 p) ⟨0⟩).1=2 :=
 de8 (mk:=λj=>(⟨(j:Int)⟩:u7)) 2 (by omega)
  (λj hj=>by
   show P1 Stp.next Stp.exit Stp.fail _ _=_;simp only[P1,ee0,zc3 _ (show (0:Int)<3 by omega) (by omega),zc3 _ (show (0:Int)<4 by omega) (by omega),s6]
   have hj4:j=0\/j=1:=by omega
   rcases hj4 with rfl|rfl<;>rfl)
  rfl
theorem ic1(x y:Int)(z:V3)(w:I3):R8 x y z w=some (b true,[]):=by
 unfold R8;simp only[de9,ee1,zc3 _ (show (0:Int)<1000 by omega) (by omega),zc3 _ (show (0:Int)<50 by omega) (by omega),zc3 _ (show (0:Int)<8 by omega) (by omega),s6]
 rfl
theorem bd1(x y:Int)(z:V3)(w:I3):aa8 x y z w=true:=by unfold aa8;rw[ic1];rfl
theorem bd2(x y:Int)(z:V3)(w:I3):aa9 x y z w=true:=by unfold aa9;rw[ic1];rfl
end Go.Ev.Ce
namespace Go.Ev.Ce
open Go Go.Ev Go.Ev.L Go.ChangeShapes Go.RowKit
theorem Sc4{P:Program}{w:World}{ρ:Rho}{H:List a8}{F:Fz}{t:TypeId}{v:Value}{bs:Nat}{r:Reach}(ht:P.underlying t=some (.int .i64))
  (hok:Value.okWide P w r bs t v):∃n:Int,L1 ρ H F w (i n) v:=by
 unfold Value.okWide at hok;rw[ht] at hok;cases v with
 |int k' n =>
  simp only[Cell.okWide,ht,Cell.ok] at hok;obtain⟨rfl,h⟩:=hok;exact⟨n,.cell (.v _)⟩
 |_=>simp[Cell.okWide,ht,Cell.ok] at hok
end Go.Ev.Ce
