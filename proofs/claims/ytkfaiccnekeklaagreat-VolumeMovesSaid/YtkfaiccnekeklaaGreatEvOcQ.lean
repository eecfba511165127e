/- Own work. -/
import Derived.Test.YtkfaiccnekeklaaGreatEvOcI
set_option linter.all false
noncomputable section
def Qla:=@Array.getElem?_eq_getElem
def Qlb:=@Nat.lt_succ_self
def Qlc:=@List.length_map
def Qld:=@List.length_append
def Qle:=@List.length_eq_zero_iff
def Qlf:=@List.getElem?_range
namespace Go.Ev.Ce
open Go Go.Ev Go.Ev.L Go.Proofs
set_option maxRecDepth 100000
section
variable{l:List V3}{K:I4}{sh:V3}{T U:V3->V3}(hT:∀v∈l,R6 (N1 v K) sh=T v/\pa6 v K=true)(hU:∀v∈l,R6 v v=U v)(hl:l.length<=1000)
include hT hU hl
theorem md2 (P : r7) (h1 : P.Da9 = l) (h2 : P.md5 = (l.length : Int)) (h3 : P.e7 = sh.x ∧ P.d9 = sh.y ∧ P.f7 = sh.z) (h4 : P.n9 = K.o0 ∧ P.q8 = K.o1 ∧ P.q9 = K.o2 ∧ P.U3 = K.o3) (hne : l ≠ []) :
  ∃j,lp (N2 P) ⟨0,true,true,0,0,0,[],[]⟩=(2,⟨1,(l.map T).all inV,(l.map U).all inV,j,l.length,l.length,bL tV (l.map T),bL tV (l.map U)⟩):=by
 suffices key:∃t s,lp (N2 P) ⟨0,true,true,0,0,0,[],[]⟩=(t,s)/\(t=2/\∃j,s=⟨1,(l.map T).all inV,(l.map U).all inV,j,l.length,l.length,bL tV (l.map T),bL tV (l.map U)⟩) by
  obtain⟨t,s,h,rfl,j,rfl⟩:=key;exact⟨j,h⟩
 refine R2 (step:=N2 P) (mk:=λj (a:List V3×List V3)=>(⟨phV a.1,a.1.all inV,a.2.all inV,(j:Int),a.1.length,a.2.length,bL tV a.1,bL tV a.2⟩:i8)) l.length (λj a=>j<=l.length/\a.1=(l.take j).map T/\a.2=(l.take j).map U) (λt s=>t=2/\∃j,s=⟨1,(l.map T).all inV,(l.map U).all inV,j,l.length,l.length,bL tV (l.map T),bL tV (l.map U)⟩) (by omega)
  (λj a hj ha=>?_) (λj a hj ha=>?_) 0 ([],[]) ⟨Nat.zero_le _,by simp,by simp⟩
 ·obtain⟨A,B⟩:=a;obtain⟨hj',hA,hB⟩:=ha
  simp only at hA hB
  have hN:=C4 hj (show l.length<=4611686018427387904 by omega)
  have mv:gL tV l j∈l:=Ra9 tV hj;obtain⟨t1,t2⟩:=hT _ mv;have t3:=hU _ mv;have e3:(⟨P.e7,P.d9,P.f7⟩:V3)=sh:=by rw[h3.1,h3.2.1,h3.2.2]
  have e4:(⟨P.n9,P.q8,P.q9,P.U3⟩:I4)=K:=by rw[h4.1,h4.2.1,h4.2.2.1,h4.2.2.2]
  have lA:A.length=j:=by rw[hA,Qlc,List.length_take];omega
  have lB:B.length=j:=by rw[hB,Qlc,List.length_take];omega
  have nA:A++[T (gL tV l j)]=(l.take (j+1)).map T:=by rw[Ma5 tV hj,List.map_append,hA];rfl
  have nB:B++[U (gL tV l j)]=(l.take (j+1)).map U:=by rw[Ma5 tV hj,List.map_append,hB];rfl
  have aA:(A++[T (gL tV l j)]).all inV=(A.all inV&&inV (T (gL tV l j))):=by simp
  have aB:(B++[U (gL tV l j)]).all inV=(B.all inV&&inV (U (gL tV l j))):=by simp
  have ve:∀w:V3,(⟨w.x,w.y,w.z⟩:V3)=w:=λ_=>rfl
  have pin:∀v,P1 v=inV v:=λv=>(rb4 v).1
  have gin:∀v,J5 v=true:=λv=>(rb4 v).2
  have fin:∃a':List V3×List V3,(⟨1,(A++[T (gL tV l j)]).all inV,(B++[U (gL tV l j)]).all inV,((j+1:Nat):Int),A.length+1,B.length+1,bL tV (A++[T (gL tV l j)]),bL tV (B++[U (gL tV l j)])⟩:i8)=(⟨phV a'.1,a'.1.all inV,a'.2.all inV,((j+1:Nat):Int),a'.1.length,a'.2.length,bL tV a'.1,bL tV a'.2⟩:i8)/\(j+1<=l.length/\a'.1=(l.take (j+1)).map T/\a'.2=(l.take (j+1)).map U) :=
   ⟨(A++[T (gL tV l j)],B++[U (gL tV l j)]),by simp only[ic0,Qld,List.length_singleton],by omega,nA,nB⟩
  rw[aA,aB] at fin;cases A with
  |nil =>
   have hj0:j=0:=by rw[<- lA];rfl
   have hB0:B=[]:=Qle.1 (by omega)
   subst hB0;show Nx (K6 Stp.next Stp.exit Stp.fail _ _) _ _;simp only[K6,h1,h2,e3,e4,t1,t2,t3,pin,gin,Int.toNat_natCast,hN,i6 hj];rw[btD (o9 hj)];exact Nx.nx (N:=λs=>∃a':List V3×List V3,s=(⟨phV a'.1,a'.1.all inV,a'.2.all inV,((j+1:Nat):Int),a'.1.length,a'.2.length,bL tV a'.1,bL tV a'.2⟩:i8)/\(j+1<=l.length/\a'.1=(l.take (j+1)).map T/\a'.2=(l.take (j+1)).map U)) fin
  |cons q A =>
   cases B with
   |nil=>simp only[List.length_cons,List.length_nil] at lA lB;omega
   |cons r B =>
    have rA:(Nat.beq (q::A).length (len (bL tV (q::A)))&&Nat.ble (((q::A).length+1)*24) room)=true:=Yc6 rfl (by omega)
    have rB:(Nat.beq (r::B).length (len (bL tV (r::B)))&&Nat.ble (((r::B).length+1)*24) room)=true:=Yc6 rfl (by omega)
    have iA:W (((((q::A).length+1:Nat):Int))-1)=((q::A).length:Int):=by rw[J9 (by omega) (by omega)];omega
    have iB:W (((((r::B).length+1:Nat):Int))-1)=((r::B).length:Int):=by rw[J9 (by omega) (by omega)];omega
    have bA:inB ((q::A).length:Int) ((q::A).length+1)=true:=i6 (Qlb _);have bB:inB ((r::B).length:Int) ((r::B).length+1)=true:=i6 (Qlb _);have gA:gL tV ((q::A)++[T (gL tV l j)]) (q::A).length=T (gL tV l j):=by simp[gL]
    have gB:gL tV ((r::B)++[U (gL tV l j)]) (r::B).length=U (gL tV l j):=by simp[gL]
    have pA:rdR tV (bL tV ((q::A)++[T (gL tV l j)])) (0+(q::A).length)=T (gL tV l j):=by rw[sb0 (by rw[Qld];exact Qlb _),gA]
    have pB:rdR tV (bL tV ((r::B)++[U (gL tV l j)])) (0+(r::B).length)=U (gL tV l j):=by rw[sb0 (by rw[Qld];exact Qlb _),gB]
    have qA:ldR tV (bL tV ((q::A)++[T (gL tV l j)])) (0+(q::A).length)=true:=Eb8 (by rw[Qld];exact Qlb _)
    have qB:ldR tV (bL tV ((r::B)++[U (gL tV l j)])) (0+(r::B).length)=true:=Eb8 (by rw[Qld];exact Qlb _)
    have xA:app (bL tV (q::A)) [[i (T (gL tV l j)).x,i (T (gL tV l j)).y,i (T (gL tV l j)).z]]=bL tV ((q::A)++[T (gL tV l j)]):=db6 (q::A) _ _ _;have xB:app (bL tV (r::B)) [[i (U (gL tV l j)).x,i (U (gL tV l j)).y,i (U (gL tV l j)).z]]=bL tV ((r::B)++[U (gL tV l j)]):=db6 (r::B) _ _ _;show Nx (A4 Stp.next Stp.exit Stp.fail P ⟨1,(q::A).all inV,(r::B).all inV,(j:Int),(q::A).length,(r::B).length,bL tV (q::A),bL tV (r::B)⟩) _ _;generalize (q::A).all inV=cA at *
    generalize (r::B).all inV=cB at *
    generalize hq:q::A=A' at *
    generalize hr:r::B=B' at *
    simp only[A4,h1,h2,e3,e4,t1,t2,t3,Int.toNat_natCast,hN,i6 hj,rA,rB,iA,iB,bA,bB,xA,xB,pA,pB,qA,qB,pin,gin];rw[btD (o9 hj)];cases cA<;>cases cB<;>exact Nx.nx (N:=λs=>∃a':List V3×List V3,s=(⟨phV a'.1,a'.1.all inV,a'.2.all inV,((j+1:Nat):Int),a'.1.length,a'.2.length,bL tV a'.1,bL tV a'.2⟩:i8)/\(j+1<=l.length/\a'.1=(l.take (j+1)).map T/\a'.2=(l.take (j+1)).map U)) fin
 ·obtain⟨A,B⟩:=a;obtain⟨hj',hA,hB⟩:=ha
  simp only at hA hB
  have e:j=l.length:=by omega
  subst e;rw[List.take_length] at hA hB;have lA:A.length=l.length:=by rw[hA,Qlc]
  have lB:B.length=l.length:=by rw[hB,Qlc]
  cases A with
  |nil=>exact absurd (Qle.1 lA.symm) hne
  |cons q A =>
   refine⟨2,?_,rfl,(l.length:Int),?_⟩
   ·show A4 Stp.next Stp.exit Stp.fail _ _=_;simp only[A4,h2];rw[bfD (A1 (Nat.lt_irrefl _))]
   ·simp only[hA.symm,hB.symm,lA,lB];rfl
end
theorem Gc4(x:List Int)(y:B3)(z:B4)(hy:(0<=y.b0/\y.b0<=255)/\(0<=y.b1/\y.b1<=255)/\0<=y.b2/\y.b2<=255)(hz:(0<=z.e0/\z.e0<=255)/\(0<=z.e1/\z.e1<=255)/\(0<=z.e2/\z.e2<=255)/\0<=z.e3/\z.e3<=255):W0 x y z=some (b true,[]):=by
 have hm:=bd5 (x.take 40);have hp:=md0 x;have hgp:=md1 x;generalize o7 (x.take 40)=l at hm hp;have hl4:=hm.l4;have hl8:=hm.l8;have hc:=hm.chk;have tm:∀n k:Int,0<=n->0<k->0<=Int.tmod n k/\Int.tmod n k<k:=λn k h0 h1=>⟨Int.tmod_nonneg k h0,Int.tmod_lt_of_pos n h1⟩
 have sm:∀n:Int,0<=n/\n<=255->Sm 4 (W (W (Int.tmod n 9)-4)):=λn hn=>by
  obtain⟨h1,h2⟩:=tm n 9 hn.1 (by omega)
  rw[J9 (n:=Int.tmod n 9) (by omega) (by omega),J9 (by omega) (by omega)]
  exact⟨by omega,by omega⟩
 obtain⟨sh,hsh⟩:∃sh,u9 (W (W (Int.tmod y.b0 9)-4)) (W (W (Int.tmod y.b1 9)-4)) (W (W (Int.tmod y.b2 9)-4))=sh:=⟨_,rfl⟩;have hss:Sm 4 sh.x/\Sm 4 sh.y/\Sm 4 sh.z:=by rw[<- hsh];exact⟨sm _ hy.1,sm _ hy.2.1,sm _ hy.2.2⟩
 obtain⟨K,hK⟩:∃K:I4,K=⟨Int.tmod (W z.e0) 3,Int.tmod (W z.e1) 2,W (Int.tmod (W z.e2) 3-1),W (Int.tmod (W z.e3) 3-1)⟩:=⟨_,rfl⟩;have w:∀n:Int,0<=n/\n<=255->W n=n:=λn hn=>J9 (by omega) (by omega)
 have tri:∀n:Int,0<=n/\n<=255->W (Int.tmod (W n) 3-1)=-1\/W (Int.tmod (W n) 3-1)=0\/W (Int.tmod (W n) 3-1)=1:=λn hn=>by
  obtain⟨h1,h2⟩:=tm n 3 hn.1 (by omega)
  rw[w n hn,J9 (by omega) (by omega)]
  omega
 obtain⟨m,hm0,hm2⟩:∃m:Nat,K.o0=(m:Int)/\m<=2:=by
  obtain⟨h1,h2⟩:=tm z.e0 3 hz.1.1 (by omega)
  refine⟨(Int.tmod z.e0 3).toNat,?_,by omega⟩
  rw[hK,w _ hz.1];show Int.tmod z.e0 3=_;omega
 have h1:K.o1=0\/K.o1=1:=by
  obtain⟨h1,h2⟩:=tm z.e1 2 hz.2.1.1 (by omega)
  rw[hK,w _ hz.2.1];show Int.tmod z.e1 2=0\/Int.tmod z.e1 2=1;omega
 have h2:K.o2=-1\/K.o2=0\/K.o2=1:=by rw[hK];exact tri _ hz.2.2.1
 have h3:K.o3=-1\/K.o3=0\/K.o3=1:=by rw[hK];exact tri _ hz.2.2.2
 have hT:∀v∈l,R6 (N1 v K) sh=Fb3 (Wb6 (1-2*K.o1) K.o2 K.o3 (Da8 m v)) sh/\pa6 v K=true:=λv hv=>by
  have hr:=Cd2 K v m hm0 (by omega) h1 h2 h3 (hm.bd v hv)
  have e:=hr.p;have e:N1 v K=Wb6 (1-2*K.o1) K.o2 K.o3 (Da8 m v)/\Sm 33 (N1 v K).x/\Sm 33 (N1 v K).y/\Sm 33 (N1 v K).z:=e;refine⟨?_,hr.g⟩;rw[td2 ⟨e.2.1.mono (by omega),e.2.2.1.mono (by omega),e.2.2.2.mono (by omega)⟩ ⟨hss.1.mono (by omega),hss.2.1.mono (by omega),hss.2.2.mono (by omega)⟩,e.1]
 have hU:∀v∈l,R6 v v=Fb3 v v:=λv hv=>by
  obtain⟨a,c,d⟩:=hm.bd v hv;exact td2 ⟨a.mono (by omega),c.mono (by omega),d.mono (by omega)⟩ ⟨a.mono (by omega),c.mono (by omega),d.mono (by omega)⟩
 obtain⟨r0,r1,r2,hlin,hdet⟩:=Sd9 m hm2 (1-2*K.o1) K.o2 K.o3 (by omega) sh
 obtain⟨hlin2,hdet2⟩:=Cd3;obtain⟨T,hTe⟩:∃T:V3->V3,T=λv=>Fb3 (Wb6 (1-2*K.o1) K.o2 K.o3 (Da8 m v)) sh:=⟨_,rfl⟩
 obtain⟨U,hUe⟩:∃U:V3->V3,U=λv=>Fb3 v v:=⟨_,rfl⟩
 rw[<- hTe] at hlin;rw[<- hUe] at hlin2;have hne:l≠[]:=by intro e;rw[e] at hl4;simp at hl4
 obtain⟨jj,hlp⟩:=md2 (l:=l) (K:=K) (sh:=sh) (T:=T) (U:=U) (by rw[hTe];exact hT) (by rw[hUe];exact hU) (by omega) ⟨true,(aa9 l).1,(aa9 l).2,l,(l.length:Int),sh.x,sh.y,sh.z,K.o0,K.o1,K.o2,K.o3⟩ rfl rfl ⟨rfl,rfl,rfl⟩ ⟨rfl,rfl,rfl,rfl⟩ hne
 have e0:(aa9 l).2=0:=by unfold aa9;rw[if_pos hc]
 have u3:M9 l=aa9 l:=cd1 _ (by omega)
 have u4:N0 l=true:=cd2 _ (by omega)
 have lT:(l.map T).length=l.length:=Qlc ..;have lU:(l.map U).length=l.length:=Qlc ..;have sT:slR tV (bL tV (l.map T)) 0 l.length=l.map T:=by rw[<- lT];exact ob6 tV _
 have sU:slR tV (bL tV (l.map U)) 0 l.length=l.map U:=by rw[<- lU];exact ob6 tV _
 have oT:okS tV (bL tV (l.map T)) 0 l.length=true:=by rw[<- lT];exact Db2 tV _
 have oU:okS tV (bL tV (l.map U)) 0 l.length=true:=by rw[<- lU];exact Db2 tV _
 obtain⟨bd1,bd2⟩:=te3 hc;have w8:W (8*(aa9 l).1)=8*(aa9 l).1:=J9 (by omega) (by omega)
 have gT:∀n,K5 (l.map T) n=true:=λn=>Pc8 _ _ (by omega)
 have gU:∀n,K5 (l.map U) n=true:=λn=>Pc8 _ _ (by omega)
 have pT:(l.map T).all inV=true->K4 (l.map T) (aa9 l).1=true:=λh=>by
  rw[Pc7 _ _ (by omega),hlin.six hc h,hdet]
  refine decide_eq_true ⟨rfl,?_⟩;show sgn (1-2*K.o1)*(1-2*K.o1)*(aa9 l).1=(aa9 l).1
  rcases h1 with e|e
  ·rw[e,show sgn (1-2*0)*(1-2*0)=1 from rfl,Int.one_mul]
  ·rw[e,show sgn (1-2*1)*(1-2*1)=1 from rfl,Int.one_mul]
 have pU:(l.map U).all inV=true->K4 (l.map U) (8*(aa9 l).1)=true:=λh=>by
  rw[Pc7 _ _ (by omega),hlin2.six hc h,hdet2]
  refine decide_eq_true ⟨rfl,?_⟩;show sgn 8*8*(aa9 l).1=8*(aa9 l).1;rw[show sgn 8*8=8 from rfl]
 have z0:((aa9 l).2==0)=true:=by rw[e0];rfl
 have k0:Int.tmod (W z.e0) 3=K.o0:=by rw[hK]
 have k1:Int.tmod (W z.e1) 2=K.o1:=by rw[hK]
 have k2:W (Int.tmod (W z.e2) 3-1)=K.o2:=by rw[hK]
 have k3:W (Int.tmod (W z.e3) 3-1)=K.o3:=by rw[hK]
 unfold W0;simp only[ld8,ld9,r5,ra6,m9,hp,hgp,u3,u4,hsh,k0,k1,k2,k3,hlp,sT,sU,oT,oU,w8,gT,gU,z0];cases cT:(l.map T).all inV<;>cases cU:(l.map U).all inV
 ·rfl
 ·rw[pU cU];rfl
 ·rw[pT cT];rfl
 ·rw[pT cT,pU cU];rfl
theorem fe5(x:List Int)(y:B3)(z:B4)(hy:(0<=y.b0/\y.b0<=255)/\(0<=y.b1/\y.b1<=255)/\0<=y.b2/\y.b2<=255)(hz:(0<=z.e0/\z.e0<=255)/\(0<=z.e1/\z.e1<=255)/\(0<=z.e2/\z.e2<=255)/\0<=z.e3/\z.e3<=255):ea7 x y z=true:=by unfold ea7;rw[Gc4 x y z hy hz];rfl
theorem fe6(x:List Int)(y:B3)(z:B4)(hy:(0<=y.b0/\y.b0<=255)/\(0<=y.b1/\y.b1<=255)/\0<=y.b2/\y.b2<=255)(hz:(0<=z.e0/\z.e0<=255)/\(0<=z.e1/\z.e1<=255)/\(0<=z.e2/\z.e2<=255)/\0<=z.e3/\z.e3<=255):ea8 x y z=true:=by unfold ea8;rw[Gc4 x y z hy hz];rfl
end Go.Ev.Ce
namespace Go.Ev.Ce
open Go Go.Ev Go.Ev.L Go.ChangeShapes Go.RowKit
theorem Cd4(g:Nat->Int)(h:∀c,c<3->0<=g c/\g c<=255):∃a,Rdg (U7 tW) (.agg (V4 .u8 3 g)) a/\(0<=a.b0/\a.b0<=255)/\(0<=a.b1/\a.b1<=255)/\0<=a.b2/\a.b2<=255 :=
 ⟨⟨g 0,g 1,g 2⟩,⟨rfl,rfl⟩,h 0 (by omega),h 1 (by omega),h 2 (by omega)⟩
theorem fe7 {D : Type} {enc : TypeId × Value → D} {P : Program} {w : World} {base : Nat} {spare : Nat → Bool} {held : Bool} {ρ : Rho} {H : List c8} {F : Fz} {t e : TypeId} {d : Nat} {v : Value} {dd : DataW D} {pp : List MemPlace} {bs : Nat} {r : Reach}
  (ht:P.underlying t=some (.array 3 e)) (he:P.underlying e=some (.int .u8)) (hts:P.cellTypes P.depth t=some [e,e,e]) (hf:Q7 P d t=some (ra7 .u8 3)) (hes:P.cellsOf t=3)
  (hok:Value.okWide P w r bs t v) (h:DataW.Trod enc P w base spare held t v dd pp):∃g:Nat->Int,(∀c,c<3->0<=g c/\g c<=255)/\U6 ρ H F w (.agg (V4 .u8 3 g)) v:=by
 obtain⟨g,hv⟩:=sd7 (ρ:=ρ) (H:=H) (F:=F) (by simp[agT,ht]) hf hes hok h
 refine⟨g,λc hc=>?_,hv⟩
 obtain⟨vs,e0,hl,hr⟩:=ga8 (.val hv);subst e0;have hlen:vs.size=3:=by rw[<- hl];simp[V4]
 have hc':c<vs.size:=by omega
 have hg:(V4 .u8 3 g)[c]?=some (.v (.int .u8 (g c))):=by
  unfold V4;rw[List.getElem?_map,Qlf hc];rfl
 have hx:=V5 (.val (.cell (hr c _ _ hg (Qla hc'))));unfold Value.okWide at hok;rw[ht] at hok;obtain⟨cs,e1,hsz,ts,h1,h2,h3⟩:=hok;injection e1 with e1;subst e1;rw[hts] at h1;injection h1 with h1;subst h1;obtain⟨u,hu,hcell⟩:=h3 c _ (Qla hc');rw[hx] at hcell;have hue:u=e:=by
  have:c=0\/c=1\/c=2:=by omega
  rcases this with rfl|rfl|rfl<;>simpa using hu.symm
 subst hue;simp only[Cell.okWide,Cell.ok,he] at hcell
 have:=hcell.2
 simp only[IntKind.has,IntKind.min,IntKind.max,IntKind.bits,IntKind.signed] at this
 simp at this
 omega
theorem Cd5(g:Nat->Int)(h:∀c,c<4->0<=g c/\g c<=255):∃a,Rdg (U7 tE) (.agg (V4 .u8 4 g)) a/\(0<=a.e0/\a.e0<=255)/\(0<=a.e1/\a.e1<=255)/\(0<=a.e2/\a.e2<=255)/\0<=a.e3/\a.e3<=255 :=
 ⟨⟨g 0,g 1,g 2,g 3⟩,⟨rfl,rfl⟩,h 0 (by omega),h 1 (by omega),h 2 (by omega),h 3 (by omega)⟩
theorem te4 {D : Type} {enc : TypeId × Value → D} {P : Program} {w : World} {base : Nat} {spare : Nat → Bool} {held : Bool} {ρ : Rho} {H : List c8} {F : Fz} {t e : TypeId} {d : Nat} {v : Value} {dd : DataW D} {pp : List MemPlace} {bs : Nat} {r : Reach}
  (ht:P.underlying t=some (.array 4 e)) (he:P.underlying e=some (.int .u8)) (hts:P.cellTypes P.depth t=some [e,e,e,e]) (hf:Q7 P d t=some (ra7 .u8 4)) (hes:P.cellsOf t=4)
  (hok:Value.okWide P w r bs t v) (h:DataW.Trod enc P w base spare held t v dd pp):∃g:Nat->Int,(∀c,c<4->0<=g c/\g c<=255)/\U6 ρ H F w (.agg (V4 .u8 4 g)) v:=by
 obtain⟨g,hv⟩:=sd7 (ρ:=ρ) (H:=H) (F:=F) (by simp[agT,ht]) hf hes hok h
 refine⟨g,λc hc=>?_,hv⟩
 obtain⟨vs,e0,hl,hr⟩:=ga8 (.val hv);subst e0;have hlen:vs.size=4:=by rw[<- hl];simp[V4]
 have hc':c<vs.size:=by omega
 have hg:(V4 .u8 4 g)[c]?=some (.v (.int .u8 (g c))):=by
  unfold V4;rw[List.getElem?_map,Qlf hc];rfl
 have hx:=V5 (.val (.cell (hr c _ _ hg (Qla hc'))));unfold Value.okWide at hok;rw[ht] at hok;obtain⟨cs,e1,hsz,ts,h1,h2,h3⟩:=hok;injection e1 with e1;subst e1;rw[hts] at h1;injection h1 with h1;subst h1;obtain⟨u,hu,hcell⟩:=h3 c _ (Qla hc');rw[hx] at hcell;have hue:u=e:=by
  have:c=0\/c=1\/c=2\/c=3:=by omega
  rcases this with rfl|rfl|rfl|rfl<;>simpa using hu.symm
 subst hue;simp only[Cell.okWide,Cell.ok,he] at hcell
 have:=hcell.2
 simp only[IntKind.has,IntKind.min,IntKind.max,IntKind.bits,IntKind.signed] at this
 simp at this
 omega
end Go.Ev.Ce
