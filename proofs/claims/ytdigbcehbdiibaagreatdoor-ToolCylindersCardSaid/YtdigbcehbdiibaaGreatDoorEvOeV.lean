/- Own work. -/
import Derived.Test.YtdigbcehbdiibaaGreatDoorEvOeW
set_option linter.all false
noncomputable section
namespace Go.Ev.Ce
open Go Go.Ev Go.Ev.L Go.Proofs
set_option maxRecDepth 100000
theorem lb4{x n:Int}(h1:-n<=x)(h2:x<=n):0<=x*x/\x*x<=n*n:=by
 refine⟨sqn x,?_⟩
 have:=Qic (a:=n-x) (b:=n+x) (by omega) (by omega)
 grind
theorem Ie8{σ:Type}{step:σ->Stp σ}{mk:Nat->σ}{fin:Nat}(n:Nat)(hn:n<=1000000)(h:∀j,j<n->step (mk j)=.next (mk (j+1)))(hf:step (mk n)=.exit fin):lp step (mk 0)=(fin,mk n):=by
 have key:=Zb9 (step:=step) (I:=λm s=>∃j,j+m=n/\s=mk j) (Q:=λt s=>t=fin/\s=mk n) (λm s ⟨j,h1,h2⟩=>by
  subst h2;cases m with
  |zero =>
   have e:j=n:=by omega
   subst e;exact .inl ⟨fin,hf,rfl,rfl⟩
  |succ m=>exact .inr ⟨_,m,rfl,h j (by omega),j+1,by omega,rfl⟩) n (mk 0) (by omega) ⟨0,by omega,rfl⟩
 exact Prod.ext key.1 key.2
section
variable{r h:Int}(h1:1<=r)(h8:r<=8)(k1:1<=h)(k2:h<=12)
include h1 h8 k1 k2
theorem Ze7{v:V3}(hv:inV v=true):(-24<=v.x/\v.x<=24)/\(-24<=v.y/\v.y<=24)/\(-24<=v.z/\v.z<=24):=by
 simp[inV,smb] at hv;omega
theorem Bf4{P:J2}(e1:P.is8=r)(e2:P.is9=h)(e3:P.Ed3=(E0 (inA r h)).1)(e4:P.We3=((E0 (inA r h)).1.length:Int)) :
  lp (Y4 P) ⟨0⟩=(2,⟨((E0 (inA r h)).1.length:Int)⟩):=by
 have hl:=(md3 h1 h8 k1 k2).1;refine wb6 (step:=Y4 P) (mk:=λj=>(⟨(j:Int)⟩:B6)) _ (by omega) (λj hj=>?_) ?_
 ·have hm:=Qa8 tV (l:=(E0 (inA r h)).1) hj;have hv:=((Ga7 _).2.2 _ hm).2;obtain⟨b1,b2,b3⟩:=Ze7 h1 h8 k1 k2 (Qcb.1 (Ge7 h1 h8 k1 k2) _ hv);have hc:=Ie6 h1 h8 k1 k2 hv;have x1:=lb4 b1.1 b1.2;have x2:=lb4 b2.1 b2.2;have x3:=lb4 (x:=r) (n:=8) (by omega) h8
  show E4 Stp.next Stp.exit Stp.fail _ _=_;simp only[E4,e1,e2,e3,e4,Int.toNat_natCast];generalize gL tV (E0 (inA r h)).1 j=v at *
  rw[bt (show decide ((j:Int)<((E0 (inA r h)).1.length:Int))=true from decide_eq_true (by omega)),bt (i9 hj),ia6 (n:=v.x*v.x) (by omega) (by omega),ia6 (n:=v.y*v.y) (by omega) (by omega),ia6 (n:=v.x*v.x+v.y*v.y) (by omega) (by omega),ia6 (n:=r*r) (by omega) (by omega),D2 hj (by omega),decide_eq_false (by omega)]
  rcases hc.2 with hz|hz
  ·simp only[hz,bne_self_eq_false];rfl
  ·simp only[hz,bne_self_eq_false];cases (h != 0)<;>rfl
 ·show E4 Stp.next Stp.exit Stp.fail _ _=_;simp only[E4,e4];rw[decide_eq_false (by omega)];rfl
theorem Bf5{P:J3}(e2:P.is9=h)(e3:P.Ed4=(E0 (da8 r h)).1)(e4:P.We4=((E0 (da8 r h)).1.length:Int)) :
  lp (Y5 P) ⟨0,0⟩=(2,⟨r*r+bR r*bR r,((E0 (da8 r h)).1.length:Int)⟩):=by
 obtain⟨hl,hl8,-⟩:=pb6 h1 h8 k1 k2;have hb:=abR h1 h8;have y1:=lb4 (x:=r) (n:=8) (by omega) h8
 have y2:=lb4 (x:=bR r) (n:=4) (by omega) (by omega)
 have:=wb6 (step:=Y5 P) (mk:=λj=>(⟨if j=0 then 0 else r*r+bR r*bR r,(j:Int)⟩:B7)) (fin:=2) (E0 (da8 r h)).1.length (by omega) (λj hj=>?_) ?_
 ·rw[if_pos rfl,if_neg (show ¬ (E0 (da8 r h)).1.length=0 by omega)] at this
  exact this
 ·have hm:=Qa8 tV (l:=(E0 (da8 r h)).1) hj;have hv:=((Ga7 _).2.2 _ hm).2;obtain⟨b1,b2,b3⟩:=Ze7 h1 h8 k1 k2 (Qcb.1 (Bc0 h1 h8 k1 k2) _ hv);have hc:=Ve3 h1 h8 k1 k2 hm;have x1:=lb4 b1.1 b1.2;have x2:=lb4 b2.1 b2.2;show E5 Stp.next Stp.exit Stp.fail _ _=_;simp only[E5,e2,e3,e4,Int.toNat_natCast];generalize gL tV (E0 (da8 r h)).1 j=v at *
  rw[bt (show decide ((j:Int)<((E0 (da8 r h)).1.length:Int))=true from decide_eq_true (by omega)),bt (i9 hj),ia6 (n:=v.x*v.x) (by omega) (by omega),ia6 (n:=v.y*v.y) (by omega) (by omega),ia6 (n:=v.x*v.x+v.y*v.y) (by omega) (by omega),D2 hj (by omega),hc.1]
  have e:(if r*r+bR r*bR r>(if j=0 then 0 else r*r+bR r*bR r) then r*r+bR r*bR r else (if j=0 then 0 else r*r+bR r*bR r))=if j+1=0 then 0 else r*r+bR r*bR r:=by
   rw[if_neg (show ¬ j+1=0 by omega)]
   by_cases hj0:j=0
   ·rw[if_pos hj0];split<;>omega
   ·rw[if_neg hj0];split<;>omega
  rw[e]
  rcases hc.2 with hz|hz
  ·simp only[hz,bne_self_eq_false];rfl
  ·simp only[hz,bne_self_eq_false];cases (h != 0)<;>rfl
 ·show E5 Stp.next Stp.exit Stp.fail _ _=_;simp only[E5,e4];rw[decide_eq_false (by omega)];rfl
theorem Bf6{P:J4}(e1:P.is8=r)(e2:P.is9=h)(e3:P.Zc4=F0 (E0 (da8 r h)).1)(e4:P.ie3=((F0 (E0 (da8 r h)).1).length:Int)) :
  lp (Y6 P) ⟨0⟩=(2,⟨((F0 (E0 (da8 r h)).1).length:Int)⟩):=by
 obtain⟨hl,hl8,hc,hF⟩:=pb6 h1 h8 k1 k2;obtain⟨_,hi,_⟩:=U0 hc;have hF48:=zc5 (l:=(E0 (da8 r h)).1) (by omega) hi
 have y1:=lb4 (x:=r) (n:=8) (by omega) h8
 refine Ie8 (step:=Y6 P) (mk:=λj=>(⟨(j:Int)⟩:B9)) _ hF48 (λj hj=>?_) ?_
 ·have hm:=Qa8 tP (l:=F0 (E0 (da8 r h)).1) hj;have hs:=Ie7 h1 h8 k1 k2 hm;have hB:=Ic4 ((E9 hi _).1 hm).ok;show E6 Stp.next Stp.exit Stp.fail _ _=_;simp only[E6,e1,e2,e3,e4,Int.toNat_natCast];generalize gL tP (F0 (E0 (da8 r h)).1) j=p at *
  have x1:=lb4 hB.x1 hB.x2;have x2:=lb4 hB.y1 hB.y2;have x3:=lb4 hB.b1 hB.b2;have x4:0<=r*r*(p.n.x*p.n.x+p.n.y*p.n.y)/\r*r*(p.n.x*p.n.x+p.n.y*p.n.y)<=64*50000000:=⟨Qic y1.1 (by omega),Int.mul_le_mul (by omega) (by omega) (by omega) (by omega)⟩
  rw[bt (show decide ((j:Int)<((F0 (E0 (da8 r h)).1).length:Int))=true from decide_eq_true (by omega)),bt (i9 hj),ia6 (n:=p.b*p.b) (by omega) (by omega),ia6 (n:=p.n.x*p.n.x) (by omega) (by omega),ia6 (n:=p.n.y*p.n.y) (by omega) (by omega),ia6 (n:=r*r) (by omega) (by omega),ia6 (n:=p.n.x*p.n.x+p.n.y*p.n.y) (by omega) (by omega),ia6 (n:=r*r*(p.n.x*p.n.x+p.n.y*p.n.y)) (by omega) (by omega),D2 hj (by omega)]
  rcases hs with⟨hz,hb,hq⟩|⟨hx,hy,⟨hz,hb⟩|⟨hz,hb⟩⟩
  ·rw[decide_eq_true (show p.b*p.b>=r*r*(p.n.x*p.n.x+p.n.y*p.n.y) from hq),decide_eq_true (show p.b>=0 from hb),hz]
   simp[g7,Jb0]
  ·rw[hx,hy,hz,hb];simp[g7,Jb0]
  ·rw[hx,hy,hz,hb];simp[g7,Jb0]
 ·show E6 Stp.next Stp.exit Stp.fail _ _=_;simp only[E6,e4];rw[decide_eq_false (by omega)];rfl
end
theorem Mb8{x n:Int}(h0:0<=x)(h1:x<=255)(hn:0<n):Int.tmod (W x) n=x % n/\0<=x % n/\x % n<n:=by
 rw[ia6 (by omega) (by omega),Int.tmod_eq_emod_of_nonneg h0]
 exact⟨rfl,Int.emod_nonneg _ (by omega),Int.emod_lt_of_pos _ hn⟩
theorem Ze8{x y:Int}{z:B3}(hx:0<=x/\x<=255)(hy:0<=y/\y<=255)(z0:0<=z.b0/\z.b0<=255)(z1:0<=z.b1/\z.b1<=255)(z2:0<=z.b2/\z.b2<=255) :
  W7 x y z=some (b true,[]):=by
 obtain⟨a1,a2,a3⟩:=Mb8 (n:=8) hx.1 hx.2 (by omega)
 obtain⟨b1,b2,b3⟩:=Mb8 (n:=12) hy.1 hy.2 (by omega)
 obtain⟨c1,c2,c3⟩:=Mb8 (n:=17) z0.1 z0.2 (by omega)
 obtain⟨d1,d2,d3⟩:=Mb8 (n:=17) z1.1 z1.2 (by omega)
 obtain⟨e1,e2,e3⟩:=Mb8 (n:=13) z2.1 z2.2 (by omega)
 unfold W7;simp only[a1,b1,c1,d1,e1];rw[ia6 (n:=1+x % 8) (by omega) (by omega),ia6 (n:=1+y % 12) (by omega) (by omega),ia6 (n:=z.b0 % 17-8) (by omega) (by omega),ia6 (n:=z.b1 % 17-8) (by omega) (by omega)]
 have r1:1<=1+x % 8:=by omega
 have r8:1+x % 8<=8:=by omega
 have k1:1<=1+y % 12:=by omega
 have k2:1+y % 12<=12:=by omega
 generalize 1+x % 8=r at *
 generalize 1+y % 12=h at *
 have hX:-8<=z.b0 % 17-8/\z.b0 % 17-8<=8:=by omega
 have hY:-8<=z.b1 % 17-8/\z.b1 % 17-8<=8:=by omega
 generalize z.b0 % 17-8=X at *
 generalize z.b1 % 17-8=Y at *
 generalize z.b2 % 13=Z at *
 obtain⟨l1,l2,l3,l4⟩:=pb6 r1 r8 k1 k2;obtain⟨m1,m2,m3,m4⟩:=md3 r1 r8 k1 k2;obtain⟨q1,q2⟩:=Dd6 r1 r8 k1 k2;have hb:=abR r1 r8;have y1:=lb4 (x:=r) (n:=8) (by omega) r8
 have y2:=lb4 (x:=bR r) (n:=4) (by omega) (by omega)
 have y3:=lb4 (x:=r+1) (n:=9) (by omega) (by omega)
 have y4:=lb4 hX.1 hX.2;have y5:=lb4 hY.1 hY.2;have iv:inV ⟨X,Y,Z⟩=true:=by simp[inV,smb];omega
 have hF:db0 (E0 (da8 r h)).1=(F0 (E0 (da8 r h)).1,0):=by unfold db0 Ea9;rw[if_pos l3]
 have hG:Gb8 (E0 (da8 r h)).1=true:=decide_eq_true (by omega)
 have h6:=Ve4 r1 r8 k1 k2;have p1:=Zd3 m3 iv;have p2:=Zd4 m3 iv;have p3:=Zd3 l3 iv;have p4:=Zd4 l3 iv;have t1:X*X+Y*Y<=r*r->Z<=h->ec1 (E0 (da8 r h)).1 ⟨X,Y,Z⟩=true:=λg1 g2=>Ve5 r1 r8 k1 k2 g1 e2 g2
 have t2:¬ (X*X+Y*Y<=r*r/\Z<=h)->ec1 (E0 (inA r h)).1 ⟨X,Y,Z⟩=false:=λhn=>by
  cases hh:ec1 (E0 (inA r h)).1 ⟨X,Y,Z⟩ with
  |false=>rfl
  |true=>exact absurd (ae0 r1 r8 k1 k2 iv hh) hn
 have w0:=λt a c d u v w=>Bf4 r1 r8 k1 k2 (P:=⟨t,r,h,a,c,d,(E0 (inA r h)).1,((E0 (inA r h)).1.length:Int),u,v,w⟩) rfl rfl rfl rfl
 have w1:=λt a c d u v w=>Bf5 r1 r8 k1 k2 (P:=⟨t,r,h,a,c,d,(E0 (da8 r h)).1,((E0 (da8 r h)).1.length:Int),u,v,w⟩) rfl rfl rfl
 have w2:=λt a c d e u v w=>Bf6 r1 r8 k1 k2 (P:=⟨t,r,h,a,c,d,e,F0 (E0 (da8 r h)).1,((F0 (E0 (da8 r h)).1).length:Int),u,v,w⟩) rfl rfl rfl rfl
 simp only[q1,q2,i8,G3,j6,hF,hG,w0,w1,w2,p1,p2,p3,p4,Zd8,Zd9,Qii,g7,Jb0,Qij];have v1:W (r+1)=r+1:=ia6 (by omega) (by omega)
 have v2:W (r+1-1)=r:=by rw[show r+1-1=r by omega];exact ia6 (by omega) (by omega)
 simp only[v1,v2,ia6 (n:=(r+1)*(r+1)) (by omega) (by omega),ia6 (n:=r*r) (by omega) (by omega),ia6 (n:=X*X) (by omega) (by omega),ia6 (n:=Y*Y) (by omega) (by omega),ia6 (n:=X*X+Y*Y) (by omega) (by omega)]
 have f1:decide ((((E0 (inA r h)).1.length:Nat):Int)<8)=false:=decide_eq_false (by omega)
 have f2:decide ((((E0 (da8 r h)).1.length:Nat):Int)<8)=false:=decide_eq_false (by omega)
 have f3:decide (r*r+bR r*bR r>(r+1)*(r+1))=false:=decide_eq_false (by omega)
 have f5:1<=bR r*bR r:=Int.mul_le_mul (a:=1) (b:=1) (by omega) (by omega) (by omega) (by omega)
 have f4:decide (r*r+bR r*bR r<=r*r)=false:=decide_eq_false (by omega)
 have f6:decide ((((F0 (E0 (da8 r h)).1).length:Nat):Int)>=6)=true:=decide_eq_true (by omega)
 rw[f1,f2,f3,f4,f6];by_cases g1:X*X+Y*Y<=r*r
 ·rw[decide_eq_true g1];by_cases g2:Z<=h
  ·rw[decide_eq_true g2,t1 g1 g2];rfl
  ·rw[decide_eq_false g2,t2 λe=>g2 e.2];rfl
 ·rw[decide_eq_false g1,t2 λe=>g1 e.1];rfl
theorem Ve6(x y:Int)(z:B3)(hx:0<=x/\x<=255)(hy:0<=y/\y<=255)(hz:(0<=z.b0/\z.b0<=255)/\(0<=z.b1/\z.b1<=255)/\0<=z.b2/\z.b2<=255):ka7 x y z=true:=by
 unfold ka7;rw[Ze8 hx hy hz.1 hz.2.1 hz.2.2];rfl
theorem Ve7(x y:Int)(z:B3)(hx:0<=x/\x<=255)(hy:0<=y/\y<=255)(hz:(0<=z.b0/\z.b0<=255)/\(0<=z.b1/\z.b1<=255)/\0<=z.b2/\z.b2<=255):ka8 x y z=true:=by
 unfold ka8;rw[Ze8 hx hy hz.1 hz.2.1 hz.2.2];rfl
end Go.Ev.Ce
namespace Go.Ev.Ce
open Go Go.Ev Go.Ev.L Go.ChangeShapes Go.RowKit
theorem Qd4{P:Program}{w:World}{ρ:Rho}{H:List b7}{F:Fz}{t:TypeId}{v:Value}{bs:Nat}{r:Reach}(ht:P.underlying t=some (.int .u8))
  (hok:Value.okWide P w r bs t v):∃n:Int,(0<=n/\n<=255)/\da6 ρ H F w (.v (.int .u8 n)) v:=by
 unfold Value.okWide at hok;rw[ht] at hok;cases v with
 |int k' n =>
  simp only[Cell.okWide,ht,Cell.ok] at hok;obtain⟨rfl,h⟩:=hok;refine⟨n,?_,.cell (.v _)⟩;simp only[IntKind.has,IntKind.min,IntKind.max,IntKind.bits,IntKind.signed] at h
  simp at h
  omega
 |_=>simp[Cell.okWide,ht,Cell.ok] at hok
theorem Qd5(n:Int)(h:0<=n/\n<=255):∃a,Rdg cU (.v (.int .u8 n)) a/\(0<=a/\a<=255):=⟨n,⟨rfl,rfl⟩,h⟩
theorem re6(g:Nat->Int)(h:∀c,c<3->0<=g c/\g c<=255):∃a,Rdg (Za5 tW) (.agg (Qb4 .u8 3 g)) a/\(0<=a.b0/\a.b0<=255)/\(0<=a.b1/\a.b1<=255)/\0<=a.b2/\a.b2<=255 :=
 ⟨⟨g 0,g 1,g 2⟩,⟨rfl,rfl⟩,h 0 (by omega),h 1 (by omega),h 2 (by omega)⟩
theorem Ve8{D:Type}{enc:TypeId×Value->D}{P:Program}{w:World}{base:Nat}{spare:Nat->Bool}{held:Bool}{ρ:Rho}{H:List b7}{F:Fz}{t e:TypeId}{d:Nat}{v:Value}{dd:DataW D}{pp:List MemPlace}{bs:Nat}{r:Reach}
  (ht:P.underlying t=some (.array 3 e)) (he:P.underlying e=some (.int .u8)) (hts:P.cellTypes P.depth t=some [e,e,e]) (hf:da7 P d t=some (Za6 .u8 3)) (hes:P.cellsOf t=3)
  (hok:Value.okWide P w r bs t v) (h:DataW.Trod enc P w base spare held t v dd pp):∃g:Nat->Int,(∀c,c<3->0<=g c/\g c<=255)/\da6 ρ H F w (.agg (Qb4 .u8 3 g)) v:=by
 obtain⟨g,hv⟩:=Te0 (ρ:=ρ) (H:=H) (F:=F) (by simp[agT,ht]) hf hes hok h
 refine⟨g,λc hc=>?_,hv⟩
 obtain⟨vs,e0,hl,hr⟩:=qa3 (.val hv);subst e0;have hlen:vs.size=3:=by rw[<- hl];simp[Qb4]
 have hc':c<vs.size:=by omega
 have hg:(Qb4 .u8 3 g)[c]?=some (.v (.int .u8 (g c))):=by
  unfold Qb4;rw[Qbe,List.getElem?_range hc];rfl
 have hx:=V8 (.val (.cell (hr c _ _ hg (Qac hc'))));unfold Value.okWide at hok;rw[ht] at hok;obtain⟨cs,e1,hsz,ts,h1,h2,h3⟩:=hok;injection e1 with e1;subst e1;rw[hts] at h1;injection h1 with h1;subst h1;obtain⟨u,hu,hcell⟩:=h3 c _ (Qac hc');rw[hx] at hcell;have hue:u=e:=by
  have:c=0\/c=1\/c=2:=by omega
  rcases this with rfl|rfl|rfl<;>simpa using hu.symm
 subst hue;simp only[Cell.okWide,Cell.ok,he] at hcell
 have:=hcell.2
 simp only[IntKind.has,IntKind.min,IntKind.max,IntKind.bits,IntKind.signed] at this
 simp at this
 omega
end Go.Ev.Ce
