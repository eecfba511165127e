/- Own work. -/
import Derived.Test.YtgphembaimondaaGreatDoorEvOkDa
import Derived.Test.YtgphembaimondaaGreatDoorEvOkDc
import Derived.Test.YtgphembaimondaaGreatDoorEvOkDd
import Derived.Test.YtgphembaimondaaGreatDoorEvOkDe
set_option linter.all false
noncomputable section
namespace Go.Ev.Ce
open Go Go.Ev Go.Ev.L Go.Proofs
set_option maxRecDepth 1000000
def zf5:List (List V3×Int):=[([⟨0,0,0⟩,⟨2,0,0⟩,⟨0,2,0⟩,⟨2,2,0⟩,⟨0,0,2⟩,⟨2,0,2⟩,⟨0,2,2⟩,⟨2,2,2⟩],48),([⟨0,0,0⟩,⟨0,0,2⟩,⟨0,2,0⟩,⟨0,2,2⟩,⟨3,0,0⟩,⟨3,0,2⟩,⟨3,2,0⟩,⟨3,2,2⟩],72),([⟨1,0,0⟩,⟨1,0,2⟩,⟨1,2,0⟩,⟨1,2,2⟩,⟨4,0,0⟩,⟨4,0,2⟩,⟨4,2,0⟩,⟨4,2,2⟩],72),([⟨2,0,0⟩,⟨2,0,2⟩,⟨2,2,0⟩,⟨2,2,2⟩,⟨5,0,0⟩,⟨5,0,2⟩,⟨5,2,0⟩,⟨5,2,2⟩],72),([⟨3,0,0⟩,⟨3,0,2⟩,⟨3,2,0⟩,⟨3,2,2⟩,⟨6,0,0⟩,⟨6,0,2⟩,⟨6,2,0⟩,⟨6,2,2⟩],72),([⟨4,0,0⟩,⟨4,0,2⟩,⟨4,2,0⟩,⟨4,2,2⟩,⟨7,0,0⟩,⟨7,0,2⟩,⟨7,2,0⟩,⟨7,2,2⟩],72),([⟨5,0,0⟩,⟨5,0,2⟩,⟨5,2,0⟩,⟨5,2,2⟩,⟨8,0,0⟩,⟨8,0,2⟩,⟨8,2,0⟩,⟨8,2,2⟩],72)]
theorem Je9:ia2 (λx=>(id6 [(N0 tV).enc x.1] []).run=some (.tup [i x.2,i 0],[])) zf5:=.cons Nf5 <| .cons Nf6 <| .cons Nf7 <| .cons Nf8 <| .cons Nf9 <| .cons Of0 <| .cons Of1 <| .nil
def ue5:Sum:=B5 (N0 tV) λl=>fZ fV l λl=>onT l (λn=>.ret (.tup [i n,i 0],[])) zf5
theorem ue6:e8 prog G 35 ue5:=Gb2 ff4 λl r h=>by
 rw[Xc4 Xc3] at h;obtain⟨x,hx,h⟩:=cc2 Je9 h;rw[hx];exact h
def Za4:List (List V3×List V3):=[([⟨0,0,0⟩,⟨1,0,0⟩],[⟨0,0,0⟩,⟨0,0,2⟩,⟨0,2,0⟩,⟨0,2,2⟩,⟨3,0,0⟩,⟨3,0,2⟩,⟨3,2,0⟩,⟨3,2,2⟩]),([⟨1,0,0⟩,⟨2,0,0⟩],[⟨1,0,0⟩,⟨1,0,2⟩,⟨1,2,0⟩,⟨1,2,2⟩,⟨4,0,0⟩,⟨4,0,2⟩,⟨4,2,0⟩,⟨4,2,2⟩]),([⟨2,0,0⟩,⟨3,0,0⟩],[⟨2,0,0⟩,⟨2,0,2⟩,⟨2,2,0⟩,⟨2,2,2⟩,⟨5,0,0⟩,⟨5,0,2⟩,⟨5,2,0⟩,⟨5,2,2⟩]),([⟨3,0,0⟩,⟨4,0,0⟩],[⟨3,0,0⟩,⟨3,0,2⟩,⟨3,2,0⟩,⟨3,2,2⟩,⟨6,0,0⟩,⟨6,0,2⟩,⟨6,2,0⟩,⟨6,2,2⟩]),([⟨4,0,0⟩,⟨5,0,0⟩],[⟨4,0,0⟩,⟨4,0,2⟩,⟨4,2,0⟩,⟨4,2,2⟩,⟨7,0,0⟩,⟨7,0,2⟩,⟨7,2,0⟩,⟨7,2,2⟩]),([⟨5,0,0⟩,⟨6,0,0⟩],[⟨5,0,0⟩,⟨5,0,2⟩,⟨5,2,0⟩,⟨5,2,2⟩,⟨8,0,0⟩,⟨8,0,2⟩,⟨8,2,0⟩,⟨8,2,2⟩])]
theorem Q0:ia2 (λx=>Hd3 x.1=some ((two (r1L tV) r1I).enc (x.2,0),[])) Za4:=.cons Mf9 <| .cons Nf0 <| .cons Nf1 <| .cons Nf2 <| .cons Nf3 <| .cons Nf4 <| .nil
def Se6:Sum:=ba0 (N0 tV) (N0 tV) λa p=>.guard (eqZ id3 a cuL) (fZ fV p λp=>onT p (λe=>.ret ((two (r1L tV) r1I).enc (e,0),[])) Za4)
theorem Ke0{α β:Type}{f:Nat}{c:Cod α}{d:Cod β}{k k':α->β->DT (b9×List c7)}(h:e8 prog G f (ba0 c d k))(hk:∀a b r,(k' a b).run=some r->(k a b).run=some r):e8 prog G f (ba0 c d k'):=h.le λargs blks r hr=>by
 unfold ba0 at hr ⊢
 split at hr
 ·obtain⟨a,h1,hr⟩:=B4 hr;obtain⟨b,h2,hr⟩:=B4 hr;obtain⟨g1,hr⟩:=DT.run_guard_some hr;obtain⟨g2,hr⟩:=DT.run_guard_some hr;simp only[h1,h2,onO,g1,g2];exact hk a b r hr
 ·cases hr
theorem ff9:e8 prog G 46 Se6:=Ke0 (Lc7 ff7 (two (r1L tV) r1I) (o:=λa p=>(ff6 [(N0 tV).enc a,(N0 tV).enc p] []).run) λa p r h=>h) λa p r h=>by
 obtain⟨hg,h⟩:=DT.run_guard_some h;rw[Xc4 Xc3] at h;rw[jb4 Ib4 hg];obtain⟨x,hx,h⟩:=cc2 Q0 h;exact Je4 (R:=two (r1L tV) r1I) (F:=Je5) Je6 (hx.trans h)
def C_8:Sum:=m9 (En []) pf8
theorem Se7:e8 prog G 8 C_8:=bd b8 trivial
def zf6:Sum:=m9 (En []) lf2
theorem gf0:e8 prog G 10 zf6:=bd b10 trivial
def gf1:Sum:=m9 (En []) lf9
theorem ue7:e8 prog G 21 gf1:=bd b21 trivial
def gf2:Sum:=m9 (En [(35,ue5)]) mf6
theorem ue8:e8 prog G 36 gf2:=bd b36 ⟨ue6,trivial⟩
def zf7:Sum:=m9 (En []) mf8
theorem gf3:e8 prog G 38 zf7:=bd b38 trivial
def zf8:Sum:=m9 (En []) nf4
theorem gf4:e8 prog G 41 zf8:=bd b41 trivial
def zf9:Sum:=m9 (En []) nf5
theorem gf5:e8 prog G 42 zf9:=bd b42 trivial
def Af0:Sum:=m9 (En [(21,gf1),(41,zf8),(42,zf9)]) mf9
theorem gf6:e8 prog G 39 Af0:=bd b39 ⟨ue7,gf4,gf5,trivial⟩
def Af1:Sum:=m9 (En []) nf6
theorem gf7:e8 prog G 43 Af1:=bd b43 trivial
def gf8:Sum:=m9 (En [(20,te1),(38,zf7),(39,Af0),(40,ue2),(43,Af1)]) mf7
theorem ue9:e8 prog G 37 gf8:=bd b37 ⟨id4,gf3,gf6,id5,gf7,trivial⟩
def Af2:Sum:=m9 (En []) of1
theorem gf9:e8 prog G 48 Af2:=bd b48 trivial
def hf0:Sum:=m9 (En [(36,gf2),(37,gf8),(48,Af2)]) mf0
theorem ve0:e8 prog G 22 hf0:=bd b22 ⟨ue8,ue9,gf9,trivial⟩
def Af3:Sum:=m9 (En [(20,te1),(21,gf1),(22,hf0)]) lf3
theorem hf3:e8 prog G 11 Af3:=bd b11 ⟨id4,ue7,ve0,trivial⟩
def Af4:Sum:=m9 (En [(8,C_8)]) lf5
theorem hf4:e8 prog G 17 Af4:=bd b17 ⟨Se7,trivial⟩
def Af5:Sum:=m9 (En []) lf6
theorem hf5:e8 prog G 18 Af5:=bd b18 trivial
def Ke1:Sum:=m9 (En []) pf9
theorem Hd4:e8 prog G 67 Ke1:=bd b67 trivial
def Se8:Sum:=m9 (En []) Pe1
theorem Ke2:e8 prog G 214 Se8:=bd If8 trivial
def ve1:Sum:=m9 (En [(122,te8)]) Pe0
theorem Qd6:e8 prog G 160 ve1:=bd uf2 ⟨Qd4,trivial⟩
def ve2:Sum:=m9 (En [(40,ue2),(160,ve1)]) Pe8
theorem Qd7:e8 prog G 224 ve2:=bd Jf5 ⟨id5,Qd6,trivial⟩
def Se9:Sum:=m9 (En [(72,ae3)]) Pe9
theorem Ke3:e8 prog G 225 Se9:=bd Jf6 ⟨Kc7,trivial⟩
def Te0:Sum:=m9 (En [(72,ae3),(224,ve2),(225,Se9)]) Pe5
theorem Ke4:e8 prog G 220 Te0:=bd Jf2 ⟨Kc7,Qd7,Ke3,trivial⟩
def hf6:Sum:=m9 (En [(67,Ke1),(68,Ie4),(214,Se8),(220,Te0)]) mf4
theorem ve3:e8 prog G 34 hf6:=bd b34 ⟨Hd4,Hd2,Ke2,Ke4,trivial⟩
def ve4:Sum:=m9 (En [(20,te1)]) Pe4
theorem Qd8:e8 prog G 219 ve4:=bd Jf1 ⟨id4,trivial⟩
def Te1:Sum:=xa3 (En [(219,ve4)]) Oe7
theorem Ke5:e8 prog G 148 Te1:=bd If1 ⟨Qd8,trivial⟩
def Te2:Sum:=m9 (En [(148,Te1)]) Ne9
theorem Ke6:e8 prog G 116 Te2:=bd Gf3 ⟨Ke5,trivial⟩
def Te3:Sum:=m9 (En [(40,ue2),(160,ve1)]) Pe3
theorem Ke7:e8 prog G 217 Te3:=bd Jf0 ⟨id5,Qd6,trivial⟩
def Te4:Sum:=m9 (En [(219,ve4),(224,ve2)]) Pe7
theorem Ke8:e8 prog G 223 Te4:=bd Jf4 ⟨Qd8,Qd7,trivial⟩
def hf7:Sum:=m9 (En [(34,hf6),(67,Ke1),(116,Te2),(217,Te3),(223,Te4)]) qf7
theorem ve5:e8 prog G 77 hf7:=bd b77 ⟨ve3,Hd4,Ke6,Ke7,Ke8,trivial⟩
def Af6:Sum:=m9 (En [(77,hf7)]) nf7
theorem hf8:e8 prog G 44 Af6:=bd b44 ⟨ve5,trivial⟩
def Af7:Sum:=m9 (En [(77,hf7)]) qf8
theorem hf9:e8 prog G 78 Af7:=bd b78 ⟨ve5,trivial⟩
def Te5:Sum:=m9 (En []) Pe2
theorem Ke9:e8 prog G 216 Te5:=bd If9 trivial
def Te6:Sum:=m9 (En []) Pe6
theorem Le0:e8 prog G 222 Te6:=bd Jf3 trivial
def Af8:Sum:=m9 (En [(67,Ke1),(78,Af7),(216,Te5),(222,Te6)]) nf8
theorem if0:e8 prog G 45 Af8:=bd b45 ⟨Hd4,hf9,Ke9,Le0,trivial⟩
def Af9:Sum:=m9 (En [(36,gf2),(37,gf8)]) of0
theorem if1:e8 prog G 47 Af9:=bd b47 ⟨ue8,ue9,trivial⟩
def Bf0:Sum:=m9 (En [(22,hf0),(33,ue4),(34,hf6),(35,ue5),(44,Af6),(45,Af8),(46,Se6),(47,Af9)]) lf7
theorem if2:e8 prog G 19 Bf0:=bd b19 ⟨ve0,Je8,ve3,ue6,hf8,if0,ff9,if1,trivial⟩
def C_6:Sum:=m9 (En [(8,C_8),(10,zf6),(11,Af3),(17,Af4),(18,Af5),(19,Bf0)]) pf6
theorem Bf1:e8 prog G 6 C_6:=bd b6 ⟨Se7,gf0,hf3,hf4,hf5,if2,trivial⟩
theorem Le1:(C_6 [] []).run=some (b true,[]):=by kernel_rfl
def vb1:Sum:=Ve3 (.ret (b true,[]))
theorem kc6:e8 prog G 6 vb1:=ye0 Bf1 λr h=>by rw[Le1];exact h
def Ra1:List (Nat×Sum):=[(6,vb1),(13,Ec7),(10,oc3),(11,bc8),(14,nc9),(15,Hc2),(16,Ec8)]
theorem Eb6:o4 prog G Ra1:=⟨kc6,sd1,hd6,Pc2,ed6,sd5,sd2,trivial⟩
structure P8 where
 if7:PLq
 (g8 d7 i5 sb5 id7 id8 sb6 id9 jd0 jd1 jd2 jd3:Int)
structure A2 where
 Sb3:PLq
 Hd8:Int
def Fa5(p:P8)(s:A2):St:=⟨ra 7 (b true::ra 7 (eL tP p.if7::.unk::eL tP s.Sb3::ra 65 (.sl 0 0 4 0::i 4::i s.Hd8::ra 18 []))),[bq 23 3 [[i p.g8,i p.d7,i p.i5],[i p.sb5,i p.id7,i p.id8],[i p.sb6,i p.id9,i p.jd0],[i p.jd1,i p.jd2,i p.jd3]]]⟩
def U8{α:Type}(k:A2->α)(e:Nat->α)(z:α)(p:P8)(s:A2):α:=let y0:=(rdR tV [[i p.g8,i p.d7,i p.i5],[i p.sb5,i p.id7,i p.id8],[i p.sb6,i p.id9,i p.jd0],[i p.jd1,i p.jd2,i p.jd3]] (0+s.Hd8.toNat));let t1:=(Ya7 (rt tP s.Sb3) y0);(sl (decide (s.Hd8<4)) (sl (inB s.Hd8 4) (sl (ldR tV [[i p.g8,i p.d7,i p.i5],[i p.sb5,i p.id7,i p.id8],[i p.sb6,i p.id9,i p.jd0],[i p.jd1,i p.jd2,i p.jd3]] (0+s.Hd8.toNat)) (sl (okE tP s.Sb3) (sl (Ya8 (rt tP s.Sb3) y0) (sl (!t1.2) (e 1) (k ⟨t1.1,W (s.Hd8+1)⟩)) z) z) z) z) (e 2))
def ka8(p:P8)(s:A2):Stp A2:=U8 .next .exit .fail p s
abbrev S3:List K:=[.o (.int .i64),.o (.int .i64),.o (.int .i64)]
def pa8:Lo P8 A2:=⟨En Ra1,0,pf5,[1,1,1,1,1,1,1,1,1,1,0,1,4,4],[7,15,17,83,84,85],.p,[⟨ru2 7 (.s (.o (.blit true))::ru2 7 (sLq tP::sUq::sLq tP::ru2 65 (.s (.o (.sl 0 0 (some 0) (some 4)))::.s (.o (.lit .i64 4))::sIq::ru2 18 []))),[⟨23,3,true,some [S3,S3,S3,S3]⟩],λa H=>(⟨aLq tP a 15,hIq H 0 0 0,hIq H 0 0 1,hIq H 0 0 2,hIq H 0 1 0,hIq H 0 1 1,hIq H 0 1 2,hIq H 0 2 0,hIq H 0 2 1,hIq H 0 2 2,hIq H 0 3 0,hIq H 0 3 1,hIq H 0 3 2⟩,⟨aLq tP a 17,aIq a 85⟩)⟩],ka8,[(none,λp s=>⟨[b false],[]⟩),(some 0,λp s=>upq (Fa5 p s) [(86,b (decide (s.Hd8<4)))])],Fa5⟩
theorem vb8:pa8.Ok:=Qim [] .nil λp s=>(.ofq @U8)
def Y5(x:List Int)(y:B3)(z:B3):ROq:=let y2:=(W (Int.tmod z.b1 3));let y1:=(W (Int.tmod z.b2 3));let y0:=(W (Int.tmod z.b0 3));let t1:=(Ia0 (rt tI x));let t2:=(za9 (W (Int.tmod y.b0 4)) (W (Int.tmod y.b1 4)) (W (Int.tmod y.b2 4)));let t3:=(Ta4 t2 y0 y2 y1);let t4:=(eb0 t3.1);let t5:=(Ya7 (rt tP t1) t3.1);let t6:=(za9 y0 y0 y0);let t7:=(za9 y1 y1 y1);let t8:=(za9 0 0 y2);let t9:=(lp (ka8 (⟨rt tP t5.1,t2.x,t2.y,t2.z,t6.x,t6.y,t6.z,t7.x,t7.y,t7.z,t8.x,t8.y,t8.z⟩:P8)) (⟨rt tP t1,0⟩:A2));let t10:=(rb6 (rt tP t9.2.Sb3) (rt tP (rt tP t5.1)));(sl (okE tI x) (sl (Rb0 (rt tI x)) (sl (Ta5 t2 y0 y2 y1) (sl (t3.2 != 0) (some (b false,[])) (sl (eb1 t3.1) (sl (!t4) (some (b false,[])) (sl (okE tP t1) (sl (Ya8 (rt tP t1) t3.1) (sl (!t5.2) (some (b false,[])) (sl ((cnE tP t5.1)&&((cnE tP t1)&&true)) (sl (Nat.beq t9.1 1) (some (b false,[])) (sl (Nat.beq t9.1 2) (sl (okE tP t9.2.Sb3) (sl (okE tP (rt tP t5.1)) (sl (rb7 (rt tP t9.2.Sb3) (rt tP (rt tP t5.1))) (some (b t10,[])) none) none) none) none)) none)) none) none)) none)) none) none) none)
def ha8(x:List Int)(y:B3)(z:B3):Bool:=F6 (one r1B) (Y5 x y z)
def ha9(x:List Int)(y:B3)(z:B3):Bool:=okO (one r1B) (Y5 x y z)
def Sb1:Sum:=yb3 (N0 tI) (F5 tW) (F5 tW) (λx y z=>.guard (ha9 x y z) (.ret ((one r1B).enc (ha8 x y z),[])))
theorem Jb7:e8 prog G 5 Sb1:=jf9 (bd b5 Eb6) (one r1B) (o:=Y5) λx y z=>Z0 (.s .p (.s .p (.s .p (.s .p (.s .p (.s .p (.s .p (.s .p (.s .p (.s .p (.s (.s .p (.b (.u pa8.ls))) .p))))))))))) [pa8.pr] (.cons vb8 .nil)
theorem Le2{σ:Type}{step:σ->Stp σ}{mk:Nat->σ}{t:Nat}(n:Nat)(hn:n<=1000000000)(h:∀j,j<n->step (mk j)=.next (mk (j+1)))(hf:step (mk n)=.exit t):lp step (mk 0)=(t,mk n):=by
 obtain⟨t',s',h1,h2,h3⟩:=L7 (step:=step) (mk:=λj (_:Unit)=>mk j) n (λj _=>j<=n) (λt' s'=>t'=t/\s'=mk n) hn
  (λj _ hj _=>by rw[h j hj];exact .nx ⟨(),rfl,hj⟩)
  (λj _ hj hi=>by
   have e:j=n:=by omega
   subst e;exact⟨t,hf,rfl,rfl⟩) 0 () (by omega)
 rw[h1,h2,h3]
structure GB(k:Int)(c:PLq):Prop where
 l:c.length<=47
 v:∀p∈c,okp ⟨p.n,0⟩=true
 b:∀p∈c,Sm (331776+165888*k) p.b
theorem Te7{p:Pln}{x:Int}(h:okp p=true)(hx:Sm 2097152 x):okp ⟨p.n,x⟩=true:=by
 unfold okp at h ⊢;simp only[Qbd,List.all_cons,List.all_nil,Qia,wa7] at h ⊢;exact⟨h.1,h.2.1,hx⟩
theorem Eb7{k:Int}{c:PLq}{e:V3}(h:GB k c)(he:P7 e=true)(h0:0<=k)(h1:k<=9):wd7 c e 1=(c.map (pq e 1),true)/\GB (k+1) (c.map (pq e 1)):=by
 have hB:=(kc5 e).1 he;have hr:∀p∈c,0<=rch p.n e/\rch p.n e<=165888:=λp hp=>qe1 (h.v p hp) hB
 constructor
 ·unfold wd7;rw[if_pos];rw[Qbd,Qcf];refine⟨he,λp hp=>?_⟩
  have h2:=h.b p hp;have h3:=hr p hp;obtain⟨b1,b2⟩:=h2;unfold okq;rw[show okp p=true from Te7 (p:=⟨p.n,0⟩) (h.v p hp) ⟨by omega,by omega⟩,Qik,wa7]
  exact⟨by omega,by omega⟩
 ·refine⟨by rw[List.length_map];exact h.l,λp hp=>?_,λp hp=>?_⟩
  ·obtain⟨q,hq,rfl⟩:=Qbz.1 hp;exact h.v q hq
  ·obtain⟨q,hq,rfl⟩:=Qbz.1 hp;obtain⟨b1,b2⟩:=h.b q hq;have h3:=hr q hq;show Sm _ (q.b+1*rch q.n e);exact⟨by omega,by omega⟩
theorem Le3(x:List Int):GB 0 (Ia0 x):=by
 refine⟨(oc5 x).l,λp hp=>Te7 ((oc5 x).v p hp) ⟨by omega,by omega⟩,λp hp=>?_⟩
 obtain⟨b1,b2⟩:=He3 x p hp;exact⟨by omega,by omega⟩
theorem if3(e f:V3)(p:Pln):pq e 1 (pq f 1 p)=pq ⟨f.x+e.x,f.y+e.y,f.z+e.z⟩ 1 p:=by
 unfold pq rch
 simp only
 congr 1;simp only[Int.mul_add];omega
def cjs(m:PLq)(e0 e1 e2 e3:V3):Nat->PLq
 |0=>m
 |1=>m.map (pq e0 1)
 |2=>(m.map (pq e0 1)).map (pq e1 1)
 |3=>((m.map (pq e0 1)).map (pq e1 1)).map (pq e2 1)
 |_=>(((m.map (pq e0 1)).map (pq e1 1)).map (pq e2 1)).map (pq e3 1)
theorem if4{m:PLq}{e0 e1 e2 e3:V3}(h:GB 0 m)(h0:P7 e0=true)(h1:P7 e1=true)(h2:P7 e2=true)(h3:P7 e3=true)(j:Nat)(hj:j<4):GB (j:Int) (cjs m e0 e1 e2 e3 j):=by
 have g1:=(Eb7 h h0 (by omega) (by omega)).2
 have g2:=(Eb7 g1 h1 (by omega) (by omega)).2
 have g3:=(Eb7 g2 h2 (by omega) (by omega)).2
 have hj4:j=0\/j=1\/j=2\/j=3:=by omega
 rcases hj4 with rfl|rfl|rfl|rfl
 ·exact h
 ·exact g1
 ·exact g2
 ·exact g3
theorem ve6{q m:PLq}{e0 e1 e2 e3:V3}(h:GB 0 m)(h0:P7 e0=true)(h1:P7 e1=true)(h2:P7 e2=true)(h3:P7 e3=true) :
  lp (ka8 ⟨q,e0.x,e0.y,e0.z,e1.x,e1.y,e1.z,e2.x,e2.y,e2.z,e3.x,e3.y,e3.z⟩) ⟨m,0⟩=(2,⟨cjs m e0 e1 e2 e3 4,4⟩):=by
 refine Le2 (mk:=λj=>(⟨cjs m e0 e1 e2 e3 j,(j:Int)⟩:A2)) 4 (by omega) (λj hj=>?_) rfl
 have hG:=if4 h h0 h1 h2 h3 j hj;have hw:W ((j:Int)+1)=((j+1:Nat):Int):=n7 hj (by omega)
 have h4:inB (j:Int) 4=true:=g7 hj;have hl:(cjs m e0 e1 e2 e3 j).length<=1000000:=by have:=hG.l;omega
 show U8 Stp.next Stp.exit Stp.fail _ _=_;simp only[U8,Int.toNat_natCast,j9,O7,re6 _ _ hl,re7 _ _ hl,hw,h4,l0];rw[btD (show ((j:Int))<4 by omega)]
 have hj4:j=0\/j=1\/j=2\/j=3:=by omega
 rcases hj4 with rfl|rfl|rfl|rfl
 ·rw[show (rdR tV _ _:V3)=e0 from rfl,(Eb7 hG h0 (by omega) (by omega)).1];rfl
 ·rw[show (rdR tV _ _:V3)=e1 from rfl,(Eb7 hG h1 (by omega) (by omega)).1];rfl
 ·rw[show (rdR tV _ _:V3)=e2 from rfl,(Eb7 hG h2 (by omega) (by omega)).1];rfl
 ·rw[show (rdR tV _ _:V3)=e3 from rfl,(Eb7 hG h3 (by omega) (by omega)).1];rfl
theorem md(n:Int)(k:Int)(hn:0<=n/\n<=255)(hk:0<k)(hk2:k<=4):∃v,W (Int.tmod n k)=v/\0<=v/\v<k:=by
 have h:=Int.tmod_nonneg k hn.1;have h2:=Int.tmod_lt_of_pos n hk;exact⟨_,E7 (by omega) (by omega),h,h2⟩
theorem Sb2{a c d:Int}(h:(0<=a/\a<=12)/\(0<=c/\c<=12)/\0<=d/\d<=12):P7 ⟨a,c,d⟩=true:=(kc5 _).2 ⟨h.1.1,h.1.2,h.2.1.1,h.2.1.2,h.2.2.1,h.2.2.2⟩
theorem Kc8(x:List Int){y z:B3}(y0:0<=y.b0/\y.b0<=255)(y1:0<=y.b1/\y.b1<=255)(y2:0<=y.b2/\y.b2<=255)(z0:0<=z.b0/\z.b0<=255)(z1:0<=z.b1/\z.b1<=255)(z2:0<=z.b2/\z.b2<=255):Y5 x y z=some (b true,[]):=by
 obtain⟨a,ha,a1,a2⟩:=md y.b0 4 y0 (by omega) (by omega)
 obtain⟨c,hc,c1,c2⟩:=md y.b1 4 y1 (by omega) (by omega)
 obtain⟨d,hd,d1,d2⟩:=md y.b2 4 y2 (by omega) (by omega)
 obtain⟨r,hr,r1,r2⟩:=md z.b0 3 z0 (by omega) (by omega)
 obtain⟨g,hg,g1,g2⟩:=md z.b1 3 z1 (by omega) (by omega)
 obtain⟨k,hk,k1,k2⟩:=md z.b2 3 z2 (by omega) (by omega)
 have hG:=Le3 x;have gm:Rb0 x=true:=(xd4 x).g;have hT:P7 (ttV ⟨a,c,d⟩ r g k)=true:=Sb2 (a:=a+(r+k)) (c:=c+(r+k)) (d:=d+(r+k+g)) ⟨⟨by omega,by omega⟩,⟨by omega,by omega⟩,by omega,by omega⟩
 have ht:xd1 ⟨a,c,d⟩ r g k=(ttV ⟨a,c,d⟩ r g k,0):=by
  unfold xd1;rw[if_pos];rw[Qbd,Qbd];exact⟨Sb2 ⟨⟨by omega,by omega⟩,⟨by omega,by omega⟩,by omega,by omega⟩,Sb2 ⟨⟨by omega,by omega⟩,⟨by omega,by omega⟩,by omega,by omega⟩,hT⟩
 generalize hm:Ia0 x=m at *
 have hl:m.length<=1000000:=by have:=hG.l;omega
 have hP:=Eb7 hG hT (by omega) (by omega)
 have hL:=λq=>ve6 (q:=q) (e0:=⟨a,c,d⟩) (e1:=⟨r,r,r⟩) (e2:=⟨k,k,k⟩) (e3:=⟨0,0,g⟩) hG (Sb2 ⟨⟨by omega,by omega⟩,⟨by omega,by omega⟩,by omega,by omega⟩) (Sb2 ⟨⟨by omega,by omega⟩,⟨by omega,by omega⟩,by omega,by omega⟩) (Sb2 ⟨⟨by omega,by omega⟩,⟨by omega,by omega⟩,by omega,by omega⟩) (Sb2 ⟨⟨by omega,by omega⟩,⟨by omega,by omega⟩,by omega,by omega⟩)
 have he:cjs m ⟨a,c,d⟩ ⟨r,r,r⟩ ⟨k,k,k⟩ ⟨0,0,g⟩ 4=m.map (pq (ttV ⟨a,c,d⟩ r g k) 1):=by
  show (((m.map (pq _ 1)).map (pq _ 1)).map (pq _ 1)).map (pq _ 1)=_;simp only[List.map_map];apply Qci;intro p _;simp only[Function.comp,if3];congr 2
  ·show a+r+k+0=a+(r+k);omega
  ·show c+r+k+0=c+(r+k);omega
  ·show d+r+k+g=d+(r+k+g);omega
 rw[he] at hL;have hs:(m.map (pq (ttV ⟨a,c,d⟩ r g k) 1)).length<=1000000000:=by have:=hP.2.l;omega
 unfold Y5;simp only[ha,hc,hd,hr,hg,hk,j9,O7,i8,hm,gm,cf6,Ge2,Ge3,ht,qe8,qe9,hT,re6 _ _ hl,re7 _ _ hl,hP.1,l0];simp only[hL,Ze8 _ hs,Ze9 _ hs,l0];rfl
theorem Hd5(x:List Int)(y z:B3)(hy:(0<=y.b0/\y.b0<=255)/\(0<=y.b1/\y.b1<=255)/\0<=y.b2/\y.b2<=255)(hz:(0<=z.b0/\z.b0<=255)/\(0<=z.b1/\z.b1<=255)/\0<=z.b2/\z.b2<=255):ha8 x y z=true:=by
 unfold ha8;rw[Kc8 x hy.1 hy.2.1 hy.2.2 hz.1 hz.2.1 hz.2.2];rfl
theorem Hd6(x:List Int)(y z:B3)(hy:(0<=y.b0/\y.b0<=255)/\(0<=y.b1/\y.b1<=255)/\0<=y.b2/\y.b2<=255)(hz:(0<=z.b0/\z.b0<=255)/\(0<=z.b1/\z.b1<=255)/\0<=z.b2/\z.b2<=255):ha9 x y z=true:=by
 unfold ha9;rw[Kc8 x hy.1 hy.2.1 hy.2.2 hz.1 hz.2.1 hz.2.2];rfl
end Go.Ev.Ce
namespace Go.Ev.Ce
open Go Go.Ev Go.Ev.L Go.ChangeShapes Go.RowKit
theorem Xc5(g:Nat->Int)(h:∀c,c<3->0<=g c/\g c<=255):∃a,Rdg (F5 tW) (.agg (ga1 .u8 3 g)) a/\(0<=a.b0/\a.b0<=255)/\(0<=a.b1/\a.b1<=255)/\0<=a.b2/\a.b2<=255 :=
 ⟨⟨g 0,g 1,g 2⟩,⟨rfl,rfl⟩,h 0 (by omega),h 1 (by omega),h 2 (by omega)⟩
theorem Qd9{D:Type}{enc:TypeId×Value->D}{P:Program}{w:World}{base:Nat}{spare:Nat->Bool}{held:Bool}{ρ:Rho}{H:List c7}{F:Fz}{t e:TypeId}{d:Nat}{v:Value}{dd:DataW D}{pp:List MemPlace}{bs:Nat}{r:Reach}
  (ht:P.underlying t=some (.array 3 e)) (he:P.underlying e=some (.int .u8)) (hts:P.cellTypes P.depth t=some [e,e,e]) (hf:O5 P d t=some (ra8 .u8 3)) (hes:P.cellsOf t=3)
  (hok:Value.okWide P w r bs t v) (h:DataW.Trod enc P w base spare held t v dd pp):∃g:Nat->Int,(∀c,c<3->0<=g c/\g c<=255)/\S5 ρ H F w (.agg (ga1 .u8 3 g)) v:=by
 obtain⟨g,hv⟩:=He6 (ρ:=ρ) (H:=H) (F:=F) (by simp[agT,ht]) hf hes hok h
 refine⟨g,λc hc=>?_,hv⟩
 obtain⟨vs,e0,hl,hr⟩:=ga4 (.val hv);subst e0;have hlen:vs.size=3:=by rw[<- hl];simp[ga1]
 have hc':c<vs.size:=by omega
 have hg:(ga1 .u8 3 g)[c]?=some (.v (.int .u8 (g c))):=by
  unfold ga1;rw[Qbm,Qke hc];rfl
 have hx:=K5 (.val (.cell (hr c _ _ hg (Qai hc'))));unfold Value.okWide at hok;rw[ht] at hok;obtain⟨cs,e1,hsz,ts,h1,h2,h3⟩:=hok;injection e1 with e1;subst e1;rw[hts] at h1;injection h1 with h1;subst h1;obtain⟨u,hu,hcell⟩:=h3 c _ (Qai hc');rw[hx] at hcell;have hue:u=e:=by
  have:c=0\/c=1\/c=2:=by omega
  rcases this with rfl|rfl|rfl<;>simpa using hu.symm
 subst hue;simp only[Cell.okWide,Cell.ok,he] at hcell
 have:=hcell.2
 simp only[IntKind.has,IntKind.min,IntKind.max,IntKind.bits,IntKind.signed] at this
 simp at this
 omega
end Go.Ev.Ce
