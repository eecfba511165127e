/- Own work. -/
import Derived.Test.YtdigbcehbdiibaaGreatDoorEvOgJ4
import Derived.ChangeStays
import Derived.ChangeSame
import Derived.OpenShut
import Derived.RowKit
import Derived.Shelf.Strings.SlTrimAscii
set_option linter.all false
noncomputable section
def Qja:=@List.filter_append
def Qjb:=@List.filter_cons
def Qjc:=@List.findIdx_getElem
def Qjd:=@Option.bind_eq_some_iff
def Qje:=@Array.size_push
def Qjf:=@List.length_filter_le
def Qjg:=@Bool.not_eq_false'
def Qjh:=@Go.Ev.L.Lo.okq
namespace Go.Ev.Ce
open Go Go.Ev Go.Ev.L Go.Proofs
theorem Yd5{F:PLq}(h:∀p∈F,okp p=true){k:Nat}(hk:k<F.length):Bd (gL tP F k):=Ic4 (h _ (Qa8 tP hk))
theorem Re9{n:V3}{r:Pln}(hn:Sm 42467328 n.x/\Sm 42467328 n.y/\Sm 42467328 n.z)(hr:Bd r):U4 n r.n=dot n r.n:=by
 obtain⟨⟨a1,a2⟩,⟨a3,a4⟩,a5,a6⟩:=hn;have r1:=mb a1 a2 hr.x1 hr.x2;have r2:=mb a3 a4 hr.y1 hr.y2;have r3:=mb a5 a6 hr.z1 hr.z2;unfold U4;simp only[gd8,Ad4];rw[ia6 (by omega) (by omega)]
 rfl
theorem Se0(l:PLq)(n:V3)(hn:Sm 42467328 n.x/\Sm 42467328 n.y/\Sm 42467328 n.z)(hF:∀p∈l,okp p=true)(hl:l.length<=1000000000) :
  V4 ⟨l,n.x,n.y,n.z⟩=⟨1,if l.any (λr=>dot n r.n != 0) then ((l.findIdx (λr=>dot n r.n != 0):Nat):Int) else -1⟩:=by
 have h:=qa7 (step:=F5 ⟨l,(l.length:Int),n.x,n.y,n.z⟩) (mk:=λj=>(⟨(j:Int)⟩:m9)) (c:=λr=>dot n r.n != 0) (u:=1) (fin:=2) tP l hl
  (λj hj=>by
   have e:=Re9 hn (Yd5 hF hj);simp only[F5,N5,Int.toNat_natCast,ib5,ib4,e,D2 hj (show l.length<=4611686018427387904 by omega)]
   rw[btD (Q6 hj),bt (i9 hj)])
  (by simp only[F5,N5];rw[bfD (Z3 (Qid _))]) 0 (Qbw _)
 rw[Qim] at h;unfold V4 la4;simp only[i8,j6];rw[show (⟨0⟩:m9)=⟨((0:Nat):Int)⟩ from rfl,h]
 split
 ·simp only[Qar];rfl
 ·rfl
theorem Se1(l:PLq)(n:V3)(hn:Sm 42467328 n.x/\Sm 42467328 n.y/\Sm 42467328 n.z)(hF:∀p∈l,okp p=true)(hl:l.length<=1000000000) :
  O3 ⟨l,n.x,n.y,n.z⟩=⟨1,l.any λr=>dot n r.n != 0⟩:=by
 unfold O3 da0;simp only[i8,j6,Se0 l n hn hF hl];split
 ·rename_i h;rw[h,show decide (((l.findIdx (λr=>dot n r.n != 0):Nat):Int)>=0)=true from decide_eq_true (by omega)];rfl
 ·rename_i h;rw[Qix] at h;rw[h];rfl
def pe7(l:PLq)(a c:Nat):Bool:=l.any λr=>dot (d7 (gL tP l a).n (gL tP l c).n) r.n != 0
def vtx(l:PLq):Bool:=(List.range l.length).any λa=>(List.range a).any (pe7 l a)
theorem pe8{p q:Pln}(hp:Bd p)(hq:Bd q):fa6 p.n q.n=d7 p.n q.n/\Sm 42467328 (d7 p.n q.n).x/\Sm 42467328 (d7 p.n q.n).y/\Sm 42467328 (d7 p.n q.n).z:=by
 obtain⟨k1,k2,k3⟩:=ac8 hp.n hq.n;refine⟨?_,k1,k2,k3⟩;rw[Pe3,Ic1 (k1.mono (by omega)),Ic1 (k2.mono (by omega)),Ic1 (k3.mono (by omega))]
theorem Yd6(l:PLq)(hF:∀p∈l,okp p=true)(hl:l.length<=1000000)(a:Nat)(ha:a<l.length)(x9 x10:Int) :
  ∃j,lp (ga8 ⟨l,l,x9,x10,a,(λk=>(λk=>tP.row (gL tP l k)) (0+k)),(a:Int),(gL tP l a).n.x,(gL tP l a).n.y,(gL tP l a).n.z,(gL tP l a).b⟩) ⟨0⟩=(if (List.range a).any (pe7 l a) then 1 else 2,⟨((j:Nat):Int)⟩) :=
 Jc0 (step:=ga8 ⟨l,l,x9,x10,a,(λk=>(λk=>tP.row (gL tP l k)) (0+k)),(a:Int),(gL tP l a).n.x,(gL tP l a).n.y,(gL tP l a).n.z,(gL tP l a).b⟩) (mk:=λj=>(⟨(j:Int)⟩:U6)) a (pe7 l a) 1 2 (by omega)
  (λj hj=>by
   obtain⟨e,k1,k2,k3⟩:=pe8 (Yd5 hF ha) (Yd5 hF (show j<l.length by omega))
   have rr:(⟨toI (hdA (tP.row (gL tP l j))),toI (hdA (tlA (tP.row (gL tP l j)))),toI (hdA (tlA (tlA (tP.row (gL tP l j)))))⟩:V3)=(gL tP l j).n:=rfl;have e':fa6 ⟨(gL tP l a).n.x,(gL tP l a).n.y,(gL tP l a).n.z⟩ (gL tP l j).n=d7 (gL tP l a).n (gL tP l j).n:=e;simp only[ga8,Aa9,Int.toNat_natCast,Qar,rr,e',ff7,i8,j6,Se1 l _ ⟨k1,k2,k3⟩ hF (show l.length<=1000000000 by omega),D2 hj (show a<=4611686018427387904 by omega)]
   rw[btD (Q6 hj),bt (i9 hj)];unfold pe7;cases hz:((d7 (gL tP l a).n (gL tP l j).n).x==0&&((d7 (gL tP l a).n (gL tP l j).n).y==0&&((d7 (gL tP l a).n (gL tP l j).n).z==0&&true))) with
   |false=>rfl
   |true =>
    simp only[Qii,Qas,beq_iff_eq] at hz
    have:(l.any λr=>dot (d7 (gL tP l a).n (gL tP l j).n) r.n != 0)=false:=by
     rw[Qbq];intro r _
     have:dot (d7 (gL tP l a).n (gL tP l j).n) r.n=0:=by unfold dot;rw[hz.1,hz.2.1,hz.2.2];simp only[Qip,Int.add_zero]
     rw[this]
     decide
    rw[this]
    rfl)
  (by simp only[ga8,Aa9];rw[bfD (Z3 (Qid _))])
theorem ud9(l:PLq)(hF:∀p∈l,okp p=true)(hl:l.length<=1000000):Ma2 l=some (b (vtx l),[]):=by
 obtain⟨j,h⟩:=Jc0 (step:=ga9 ⟨(l.length:Int)⟩) (mk:=λj=>(⟨l,l,(j:Int)⟩:U7)) l.length (λa=>(List.range a).any (pe7 l a)) 1 2 (by omega)
  (λj hj=>by
   obtain⟨j',h1⟩:=Yd6 l hF hl j hj (l.length:Int) (j:Int);simp only[ga9,Ba0,i8,j6,Int.toNat_natCast,Nat.sub_zero,D2 hj (show l.length<=4611686018427387904 by omega)]
   rw[btD (Q6 hj),bt (i9 hj),bt (i9 (show j<l.length+1 by omega)),h1]
   cases (List.range j).any (pe7 l j)<;>rfl)
  (by simp only[ga9,Ba0];rw[bfD (Z3 (Qid _))])
 have h:lp (ga9 ⟨(l.length:Int)⟩) ⟨l,l,0⟩=(if vtx l then 1 else 2,⟨l,l,((j:Nat):Int)⟩):=h
 unfold Ma2;simp only[i8,j6];rw[h];cases vtx l<;>rfl
theorem Od5(l:PLq)(hF:∀p∈l,okp p=true)(hl:l.length<=1000000):za2 l=vtx l:=by unfold za2;rw[ud9 l hF hl];rfl
theorem Od6(l:PLq)(hF:∀p∈l,okp p=true)(hl:l.length<=1000000):za3 l=true:=by unfold za3;rw[ud9 l hF hl];rfl
theorem Se2(l:PLq):vtx l=true↔∃p q s,p∈l/\q∈l/\s∈l/\mw p q s≠0:=by
 unfold vtx;rw[Qil];constructor
 ·rintro⟨a,ha,h⟩;obtain⟨c,hc,h⟩:=Qil.1 h;rw[Qca] at ha hc;obtain⟨r,hr,h⟩:=Qil.1 h;have h:dot (d7 (gL tP l a).n (gL tP l c).n) r.n≠0:=bne_iff_ne.1 h;exact⟨_,_,r,Qa8 tP ha,Qa8 tP (show c<l.length by omega),hr,λe=>h (by rw[<- e];simp only[mw,dot,d7];grind)⟩
 ·rintro⟨p,q,s,hp,hq,hs,hw⟩;obtain⟨i',hi,rfl⟩:=Qef.1 hp;obtain⟨j',hj,rfl⟩:=Qef.1 hq;have hne:i'≠j':=λe=>hw (by subst e;simp only[mw,dot,d7];grind)
  rw[<- ac0 tP hi,<- ac0 tP hj] at hw
  rcases Qiaa hne with h|h
  ·refine⟨j',Qca.2 hj,Qil.2 ⟨i',Qca.2 h,Qil.2 ⟨s,hs,?_⟩⟩⟩
   have:dot (d7 (gL tP l j').n (gL tP l i').n) s.n≠0:=λe=>hw (by
    rw[show mw (gL tP l i') (gL tP l j') s=-dot (d7 (gL tP l j').n (gL tP l i').n) s.n from by simp only[mw,dot,d7];grind,e]
    rfl)
   exact bne_iff_ne.2 this
  ·refine⟨i',Qca.2 hi,Qil.2 ⟨j',Qca.2 h,Qil.2 ⟨s,hs,?_⟩⟩⟩
   have:dot (d7 (gL tP l i').n (gL tP l j').n) s.n≠0:=λe=>hw (by rw[<- e];simp only[mw,dot,d7];grind)
   exact bne_iff_ne.2 this
structure OkF(F:PLq):Prop where
 l:F.length<=1000000
 v:∀p∈F,okp p=true
def own(F:PLq)(v:V3):PLq:=F.filter λp=>la7 p v==0
def kv(F:PLq)(v:V3):Bool:=vtx (own F v)
theorem pe9(F:PLq)(v:V3)(hF:F.length<=1000000):∃j,lp (qa8 ⟨F,(F.length:Int),F,v.x,v.y,v.z⟩) ⟨0,0,0,[]⟩=(phP (own F v)+1,⟨phP (own F v),((j:Nat):Int),(own F v).length,bL tP (own F v)⟩):=by
 have key:=Qa2 (step:=qa8 ⟨F,(F.length:Int),F,v.x,v.y,v.z⟩) (mk:=λj (o:PLq)=>(⟨phP o,(j:Int),o.length,bL tP o⟩:k9)) F.length (λj o=>j<=F.length/\o=(F.take j).filter λp=>la7 p v==0) (λt s=>t=phP (own F v)+1/\∃j:Nat,s=⟨phP (own F v),(j:Int),(own F v).length,bL tP (own F v)⟩) (by omega)
  (λj o hj hi=>by
   obtain⟨_,hi⟩:=hi;have hlen:o.length<=1000000:=by
    rw[hi];have h1:=Qjf (λp=>la7 p v==0) (F.take j)
    have h2:=List.length_take_le j F;omega
   have hn:=D2 hj (show F.length<=4611686018427387904 by omega)
   have hb:=i9 hj;have hT:(F.take (j+1)).filter (λp=>la7 p v==0)=o++(if (la7 (gL tP F j) v==0)=true then [gL tP F j] else []):=by
    rw[Wc0 tP hj,Qja,<- hi,Qjb,List.filter_nil]
   have hnext : ∀ {s : k9} {o' : PLq}, o' = (F.take (j + 1)).filter (fun p => la7 p v == 0) → s = ⟨phP o', ((j + 1 : Nat) : Int), o'.length, bL tP o'⟩ → Nx (.next s) (fun t => t = phP (own F v) + 1 ∧ ∃ j' : Nat, (⟨phP o, (j : Int), o.length, bL tP o⟩ : k9) = ⟨phP (own F v), (j' : Int), (own F v).length, bL tP (own F v)⟩)
     (λs=>∃o',s=(⟨phP o',((j+1:Nat):Int),o'.length,bL tP o'⟩:k9)/\(j+1<=F.length/\o'=(F.take (j+1)).filter λp=>la7 p v==0)):=λ{s o'} ho' hs=>.nx ⟨o',hs,by omega,ho'⟩
   clear hi
   cases o with
   |nil =>
    show Nx (P1 Stp.next Stp.exit Stp.fail _ _) _ _;simp only[P1,Int.toNat_natCast,zc1,zc2,hn,hb];rw[btD (Q6 hj)];cases hs:la7 (gL tP F j) v==0 with
    |true=>exact hnext (o':=[gL tP F j]) (by rw[hT,hs];rfl) rfl
    |false=>exact hnext (o':=[]) (by rw[hT,hs];rfl) rfl
   |cons q o =>
    have rr:(Nat.beq (q::o).length (len (bL tP (q::o)))&&Nat.ble (((q::o).length+1)*32) room)=true:=Jc5 rfl (by omega)
    have ap:∀(O:PLq) (p:Pln),app (bL tP O) [[i p.n.x,i p.n.y,i p.n.z,i p.b]]=bL tP (O++[p]):=λO p=>Xb7 tP O [p]
    show Nx (P2 Stp.next Stp.exit Stp.fail _ _) _ _;simp only[P2,Int.toNat_natCast,zc1,zc2,hn,hb,rr,ap];rw[btD (Q6 hj)];cases hs:la7 (gL tP F j) v==0 with
    |true=>exact hnext (o':=q::o++[gL tP F j]) (by rw[hT,hs];rfl) (by rw[Qdc];rfl)
    |false=>exact hnext (o':=q::o) (by rw[hT,hs,if_neg (by simp),Qbv]) rfl)
  (λj o hj hi=>by
   obtain⟨h1,hi⟩:=hi;have e:j=F.length:=by omega
   subst e;have hO:o=own F v:=by rw[hi,List.take_length];rfl
   rw[<- hO];cases o with
   |nil =>
    refine⟨1,?_,rfl,F.length,rfl⟩;show P1 Stp.next Stp.exit Stp.fail _ _=_;simp only[P1];rw[bfD (Z3 (Qid _))]
   |cons q o =>
    refine⟨2,?_,rfl,F.length,rfl⟩;show P2 Stp.next Stp.exit Stp.fail _ _=_;simp only[P2];rw[bfD (Z3 (Qid _))]) 0 [] ⟨Qbw _,by simp⟩
 obtain⟨t,s,h1,rfl,j,rfl⟩:=key;exact⟨j,h1⟩
theorem Cd3(v:V3)(F:PLq)(hF:OkF F):X2 ⟨v.x,v.y,v.z,F⟩=⟨1,!kv F v,F⟩:=by
 obtain⟨j,h⟩:=pe9 F v hF.l;have hv:∀p∈own F v,okp p=true:=λp hp=>hF.v p (Qff.1 hp).1
 have hl:(own F v).length<=1000000:=Qai (Qjf _ _) hF.l;unfold X2 ab8 kv;simp only[i8,j6];rw[h];cases ho:own F v with
 |nil =>
  have e:za2 []=vtx []:=Od5 [] (λp hp=>by cases hp) (by simp)
  have e':za3 []=true:=Od6 [] (λp hp=>by cases hp) (by simp)
  rw[e,e'];rfl
 |cons q o =>
  rw[ho] at hv hl;simp only[yd6,Ud5,Od5 _ hv hl,Od6 _ hv hl];rfl
theorem Ye5{α:Type}{l:List α}{n:Nat}{c:α->Bool}(h:(l.take n).any c=true):(l.take n).findIdx c<(l.take n).length:=by
 rw[Qil] at h;obtain⟨p,hp,hc⟩:=h;exact List.findIdx_lt_length_of_exists ⟨p,hp,hc⟩
theorem Se3(l:List V3)(n:Nat)(X:PLq)(hn:n<=l.length)(hl:l.length<=1000000000)(hX:OkF X):aa7 ⟨n,bL tV l,X⟩=⟨1,if (l.take n).any (λp=>!kv X p) then (((l.take n).findIdx (λp=>!kv X p):Nat):Int) else -1,X⟩:=by
 have hlen:(l.take n).length=n:=by rw[Qie];omega
 have h:=qa7 (step:=K1 ⟨n,(n:Int),bL tV l⟩) (mk:=λj=>(⟨(j:Int),X⟩:n7)) (c:=λp=>!kv X p) (u:=1) (fin:=2) tV (l.take n) (by omega)
  (λj hj=>by
   rw[hlen] at hj;have hj':j<l.length:=by omega
   simp only[K1,Q4,Int.toNat_natCast,i8,j6,Bd6 hj',jd2 hj',Cd3 _ _ hX,ud4 tV l hj,D2 hj (show n<=4611686018427387904 by omega)]
   rw[btD (Q6 hj),bt (i9 hj)]
   rfl)
  (by rw[hlen];simp only[K1,Q4];rw[bfD (Z3 (Qid _))]) 0 (Qbw _)
 rw[Qim,hlen] at h;unfold aa7 sa9;simp only[i8,j6];rw[show (⟨0,X⟩:n7)=⟨((0:Nat):Int),X⟩ from rfl,h]
 cases ha:(l.take n).any λp=>!kv X p with
 |false=>rfl
 |true =>
  have hf:=Ye5 ha;rw[hlen] at hf;simp only[if_true,Qar,Int.toNat_natCast,jd2 (show (l.take n).findIdx (λp=>!kv X p)<l.length by omega),Cd3 _ _ hX,i8]
  rfl
structure Se4(l:List V3)(n:Nat)(f:V3->Bool)(cur:List V3)(m j:Nat):Prop where
 len:cur.length=l.length
 t:cur.take m=(l.take j).filter f
 d:cur.drop j=l.drop j
 le:m<=j
 lm:m<=n
theorem Cd4(l:List V3)(n:Nat)(hnl:n<=l.length)(X:PLq)(hl:l.length<=1000000000)(hX:OkF X)(m j:Nat)(cur:List V3)(hd:Se4 l n (kv X) cur m j)(hjn:j<=n) :
  ∃t s,lp (D5 ⟨n⟩) ⟨(m:Int),(j:Int),bL tV cur,X⟩=(t,s)/\(t=1/\∃m' cur',s=⟨((m':Nat):Int),((n:Nat):Int),bL tV cur',X⟩/\Se4 l n (kv X) cur' m' n):=by
 refine Qa2 (step:=D5 ⟨n⟩) (mk:=λj (x:Nat×List V3)=>(⟨(x.1:Int),(j:Int),bL tV x.2,X⟩:q8)) n (λj x=>Se4 l n (kv X) x.2 x.1 j/\j<=n) (λt s=>t=1/\∃m' cur',s=⟨((m':Nat):Int),((n:Nat):Int),bL tV cur',X⟩/\Se4 l n (kv X) cur' m' n) (by omega) (λj x hj hx=>?_) (λj x hj hx=>?_) j (m,cur) ⟨hd,hjn⟩
 ·obtain⟨m,cur⟩:=x;obtain⟨⟨h1,h2,h3,h4,h5⟩,_⟩:=hx
  simp only at h1 h2 h3 h4 h5
  have hjc:j<cur.length:=by omega
  have hmc:m<cur.length:=by omega
  have hg:gL tV cur j=gL tV l j:=Ic6 tV h3;have hWm:W ((m:Int)+1)=((m+1:Nat):Int):=by rw[ia6 (by omega) (by omega)];omega
  have hb:Nat.blt m cur.length=true:=by rw[Qcf];exact hmc
  have hrow:j9 (bL tV cur) m=tV.row (gL tV cur m):=za1 tV hmc;have sp:∀(v:V3) (x1 x2 x3:Int),qa9 (tV.row v) 0 [i x1,i x2,i x3]=tV.row ⟨x1,x2,x3⟩:=λ_ _ _ _=>rfl
  have rl:∀v:V3,Nat.ble (0+3) (len (tV.row v))=true:=λ_=>rfl
  simp only[D5,Q5,Int.toNat_natCast,i8,j6,Bd6 hjc,jd2 hjc,Cd3 _ _ hX,D2 hj (show n<=4611686018427387904 by omega),hWm]
  rw[btD (Q6 hj),bt (i9 hj)];simp only[Qar,hrow,Ob2,hb,sp,Id8,i9 (show m<n by omega),hg]
  have ht:=Wc0 tV (show j<l.length by omega)
  have hd1:cur.drop (j+1)=l.drop (j+1):=xc6 h3 1;cases hk:kv X (gL tV l j) with
  |true =>
   refine .nx ⟨(m+1,cur.set m (gL tV l j)),rfl,⟨by rw[List.length_set];exact h1,?_,?_,by omega,by show m+1<=n;omega⟩,by omega⟩
   ·show (cur.set m (gL tV l j)).take (m+1)=_;rw[ht,Qja,Qiw (by rw[List.length_set];exact hmc),List.getElem_set_self,List.take_set_of_le (Qaf _),h2,Qjb,hk,if_pos rfl,List.filter_nil]
   ·show (cur.set m (gL tV l j)).drop (j+1)=_;rw[List.drop_set_of_lt (by omega),hd1]
  |false =>
   refine .nx ⟨(m,cur),rfl,⟨h1,?_,hd1,by omega,h5⟩,by omega⟩
   show cur.take m=_;rw[ht,Qja,h2,Qjb,hk,if_neg (by simp),List.filter_nil,Qbv]
 ·obtain⟨m,cur⟩:=x;obtain⟨hx,hjn⟩:=hx;have e:j=n:=by omega
  subst e;refine⟨1,?_,rfl,m,cur,rfl,hx⟩;simp only[D5,Q5];rw[bfD (by omega)]
theorem Yd7(l:List V3)(n:Nat)(hnl:n<=l.length)(X:PLq)(hl:l.length<=1000000000)(hX:OkF X) :
  ∃m r,aa8 ⟨n,bL tV l,X⟩=⟨1,m,bL tV r,X⟩/\m<=r.length/\r.take m=(l.take n).filter (kv X):=by
 have hlen:(l.take n).length=n:=by rw[Qie];omega
 unfold aa8 ta2;simp only[i8,j6,Se3 l n X hnl hl hX];cases ha:(l.take n).any λp=>!kv X p with
 |false =>
  refine⟨n,l,rfl,hnl,?_⟩
  symm
  rw[List.filter_eq_self];intro p hp
  have:=Qbq.1 ha p hp
  simpa using this
 |true =>
  have hf:=Ye5 ha;have hk:kv X (gL tV (l.take n) ((l.take n).findIdx λp=>!kv X p))=false:=by
   have:=Qjc (xs:=l.take n) (p:=λp=>!kv X p) (w:=hf)
   rw[ac0 tV hf];simpa using this
  have ht:=xc5 (λp=>!kv X p) (l.take n)
  simp only[Bool.not_not] at ht;generalize hF:(l.take n).findIdx (λp=>!kv X p)=F at *
  rw[hlen] at hf;rw[ud4 tV l hf] at hk;rw[List.take_take,Nat.min_eq_left (by omega)] at ht
  have hW:W ((F:Int)+1)=((F+1:Nat):Int):=D2 hf (by omega)
  have hne:((F:Int)==-1)=false:=by rw[beq_eq_false_iff_ne];omega
  obtain⟨t,s,e1,rfl,m,cur,e2,e3⟩:=Cd4 l n hnl X hl hX F (F+1) l ⟨rfl,by rw[Wc0 tV (show F<l.length by omega),Qja,ht,Qjb,hk,if_neg (by simp),List.filter_nil,Qbv],rfl,by omega,by omega⟩ (by omega)
  have hm:m<=n:=e3.lm;have hin:inB (m:Int) (n+1)=true:=i9 (by omega)
  simp only[if_true,hW,hne,e1,e2,Int.toNat_natCast,hin,Qar,Nat.sub_zero];refine⟨m,cur.take m++(List.replicate (n-m) ⟨0,0,0⟩++cur.drop (m+(n-m))),?_,?_,?_⟩
  ·rw[Nd7,Nd8,jd3,Xb7,Xb7];rfl
  ·rw[Qdc,Qdc,Qie,Qbm,e3.len];omega
  ·rw[Qiz (by rw[Qie,e3.len];omega),List.take_take,Nat.min_self,e3.t]
def Ea8(F:PLq)(l:List V3):List V3:=(dis l).filter (kv F)
theorem Cd5(a:V3)(l:List V3)(hl:l.length<=1000000):∃m r,Ia4 (a,l)=⟨1,m,bL tV r⟩/\m<=r.length/\r.take m=dis (a::l)/\r.length<=1000000000:=by
 obtain⟨m,r,k1,k2,k3,k4⟩:=zc0 a l hl;have hok:okL tV (l.length+1) (λk=>tV.row (gL tV (a::l) k))=true:=Ob1 tV (f:=λk=>gL tV (a::l) k) λ_ _=>rfl
 have hr:=Od0 (a::l) (by simp only[List.length_cons];omega) []
 rw[Qbv] at hr;unfold Ia4 bb1;simp only[ce4,ce5,ud2 a l hl,hok,k1,g7,Qiad,hr];exact⟨m,r,rfl,k2,k3,by omega⟩
end Go.Ev.Ce
namespace Go.Ev.Ce
open Go Go.Ev Go.Ev.L Go.Proofs Go.Sort
theorem qe0(l:List V3)(a c k:Nat)(s:PLq)(p:Pln):p∈lc6 l a c s k↔p∈s\/((I6 (gL tV l k) (gL tV l c) (gL tV l a)).2=true/\(p=(I6 (gL tV l k) (gL tV l c) (gL tV l a)).1\/p=ha0 (I6 (gL tV l k) (gL tV l c) (gL tV l a)).1)):=by
 unfold lc6;generalize I6 (gL tV l k) (gL tV l c) (gL tV l a)=T;cases h2:T.2 with
 |false=>simp
 |true=>simp only[if_true,Ee1,true_and,or_assoc]
theorem if3(l:List V3)(p:Pln):p∈G0 l↔∃a,a<l.length/\∃c,c<a/\∃k,k<c/\((I6 (gL tV l k) (gL tV l c) (gL tV l a)).2=true/\(p=(I6 (gL tV l k) (gL tV l c) (gL tV l a)).1\/p=ha0 (I6 (gL tV l k) (gL tV l c) (gL tV l a)).1)):=by
 have h:p∈G0 l↔p∈[]\/_:=tb4 (λo a p=>tb4 (λo c p=>tb4 (λo k p=>qe0 l a c k o p) o p c) o p a) [] p l.length
 rw[h];simp only[Qis,false_or]
theorem Cd6{f:PLq->Nat->PLq}(h:∀o k,o.Nodup->(f o k).Nodup){o:PLq}(ho:o.Nodup):∀n,((List.range n).foldl f o).Nodup
 |0=>ho
 |n+1=>by rw[L4];exact h _ _ (Cd6 h ho n)
theorem Ee3(l:List V3):(G0 l).Nodup:=Cd6 (λo a ho=>Cd6 (λo c ho=>Cd6 (λo k ho=>by
 show (lc6 l a c o k).Nodup;unfold lc6;split
 ·exact jd5 (jd5 ho)
 ·exact ho) ho c) ho a) List.nodup_nil l.length
theorem Se5{l:List V3}(hl:l.all inV=true)(p:Pln):p∈fil l (G0 l)↔Ub7 l p:=by
 have hin:=Qcb.1 hl;have hb:(!bey l p)=hold p l:=rfl;unfold fil;rw[Qff,if3,hb];constructor
 ·rintro⟨⟨a,ha,c,hc,k,hk,h1,h2⟩,h3⟩;have ma:=gLm ha;have mc:=gLm (show c<l.length by omega)
  have mk:=gLm (show k<l.length by omega)
  have ht:=(xa3 h1).2
  rcases h2 with rfl|rfl
  ·exact Wc3 mk mc ma ht ((Lb5 ht.ok hl).1 h3)
  ·exact yc8 mk mc ma ht ((Lb5 (yc3 ht.ok) hl).1 h3)
 ·intro h;obtain⟨u,w,x,hu,hw,hx,h3,t1,t2,t3⟩:=h.on;obtain⟨a,ha,c,hc,k,hk,hn,hall⟩:=hf6 hu hw hx h3;obtain⟨i1,i2,i3⟩:=hall (λv=>inV v=true) (hin u hu) (hin w hw) (hin x hx)
  obtain⟨e1,e2,e3⟩:=hall (λv=>dot p.n v=p.b) t1 t2 t3
  have h2:=Wa5 i3 i2 i1 (Ce9 hn).2.2.1;exact⟨⟨a,ha,c,hc,k,hk,h2,bc6 (xa3 h2).2 h.ok e3 e2 e1⟩,(Lb5 h.ok hl).2 h.hd⟩
theorem hc6{l r:List V3}(h:∀v,v∈r↔v∈l){p:Pln}(hp:Ub7 l p):Ub7 r p:=by
 obtain⟨⟨hd,u,w,x,hu,hw,hx,e⟩,ok⟩:=hp;exact⟨⟨λv hv=>hd v ((h v).1 hv),u,w,x,(h u).2 hu,(h w).2 hw,(h x).2 hx,e⟩,ok⟩
theorem Yd8{l:PLq}(h:l.Nodup):eb2 (kc4 l):=by
 have h1:=Ad8 l;have h2:(kc4 l).Nodup:=(id7 l).nodup_iff.2 h;have h3:=h1.and h2;refine h3.imp λ{x y} ⟨k1,k2⟩=>?_
 rw[ab4] at k1;have k1:¬ LtP y x:=by simpa using k1
 rcases fe1 x y with h|h|h
 ·exact h
 ·exact absurd h k2
 ·exact absurd h k1
theorem Se6{l:List V3}(hl:l.all inV=true):(dis l).all inV=true:=Qcb.2 λv hv=>Qcb.1 hl v ((hc3 l v).1 hv)
theorem Od7{l:List V3}(hl:l.all inV=true):kc4 (fil (dis l) (G0 (dis l)))=F0 l:=by
 refine gc8 (Yd8 ((Ee3 (dis l)).filter _)) (qc5 l) λp=>?_
 rw[(id7 _).mem_iff,Se5 (Se6 hl),E9 hl];exact⟨hc6 λv=>(hc3 l v).symm,hc6 (hc3 l)⟩
theorem rf9{l:List V3}(hl:l.all inV=true)(h4:Sol l):F0 l≠[]:=λe=>by
 have h:=gc9 h4 (Bd4 hl (c:=[]) λp hp=>by rw[<- E9 hl,e] at hp;exact hp) (x:=⟨100,0,0,1⟩) ⟨by show (0:Int)<1;omega,λp hp=>by cases hp⟩ (h:=⟨⟨1,0,0⟩,24⟩) λv hv=>by
  obtain⟨⟨a1,a2⟩,_,_⟩:=(Bb3 v).1 (Qcb.1 hl v hv);simp only[dot];omega
 simp only[rmZ] at h;omega
theorem hc7{l:List V3}(h48:l.length<=48)(hl:l.all inV=true)(h4:Sol l):X3 l=0:=by
 have hin:=Qcb.1 hl;unfold X3;rw[if_neg (by omega),if_neg (by rw[<- List.not_all_eq_any_not,hl];simp)]
 have h1:(ixs l.length).any (sp1 l)=true:=by
  obtain⟨a,c,k,v,ha,hc,hk,hv,hd⟩:=h4;obtain⟨i',hi,j',hj,k',hk',hn,hall⟩:=hf6 ha hc hk (Xd9 hd);obtain⟨i1,i2,i3⟩:=hall (λv=>inV v=true) (hin _ ha) (hin _ hc) (hin _ hk)
  have ht:=Wa5 i3 i2 i1 (Ce9 hn).2.2.1;have mem:∀{n m:Nat},m<n->((m:Nat):Int)∈ixs n:=λ{n m} h=>Qbr.2 ⟨m,Qca.2 h,rfl⟩
  refine Qil.2 ⟨_,mem hi,?_⟩;unfold sp1;rw[Int.toNat_natCast];refine Qil.2 ⟨_,mem hj,?_⟩;unfold sp2;rw[Int.toNat_natCast];refine Qil.2 ⟨gL tV l k',?_,ht⟩;rw[<- ud4 tV l hk'];exact Qa8 tV (by rw[Qie];omega)
 have h2:lc5 l=false:=by
  unfold lc5;rw[if_pos h1];obtain⟨hi,k1⟩:=hc5 h1;have k1:(ixs (iF l)).any (sp2 l (iF l))=true:=k1;obtain⟨hj,k2⟩:=hc5 k1;have k2:(l.take (jF l)).any (λv=>(I6 v (gL tV l (jF l)) (gL tV l (iF l))).2)=true:=k2
  have hj:jF l<iF l:=hj;have hi:iF l<l.length:=hi;have hk:=Bd8 k2;have hk2:=Qjc (xs:=l.take (jF l)) (p:=λv=>(I6 v (gL tV l (jF l)) (gL tV l (iF l))).2) (w:=hk)
  rw[<- ac0 tV hk,ud4 tV l (by rw[Qie] at hk;omega)] at hk2
  have hok:okp (plF l)=true:=(xa3 hk2).2.ok;obtain⟨v,hv,hne⟩:=h4.off (yc5 hok) (plF l).b;rw[Qjg,Qil];refine⟨v,hv,?_⟩
  have:la7 (plF l) v≠0:=λe=>hne ((Ic9 hok (hin v hv)).1 e)
  simpa using this
 rw[h2];rfl
theorem Se7(l r:PLq)(n:Nat)(hn:n=l.length):(two (r1L tP) r1I).rd (.tup [.sl 0 0 n 0,i 0],[⟨57,4,bL tP (l++r),true,false,0⟩])=some (l,0):=by
 subst hn;have h:(r1L tP).rd [⟨57,4,bL tP (l++r),true,false,0⟩] (.sl 0 0 l.length 0)=some l:=by
  show Bool.rec (motive:=λ_=>Option PLq) none (some (slR tP (bL tP (l++r)) 0 l.length)) (Bool.and true (okS tP (bL tP (l++r)) 0 l.length))=_
  rw[Be3 _ _ (by rw[Qdc];omega),Be4 _ _ (by rw[Qdc];omega),List.take_left']
  ·rfl
  ·rfl
 simp only[two,h];rfl
theorem qe1(a:V3)(l:List V3)(h48:(a::l).length<=48)(hl:(a::l).all inV=true)(h4:Sol (a::l)):Rd (two (r1L tP) r1I) (xa2 (a,l)) (λr=>r=(F0 (a::l),0)):=by
 have hc:=hc7 h48 hl h4;have hdl:=ge0 (a::l);have hll:l.length<=1000000:=by simp only[List.length_cons] at h48;omega
 obtain⟨j,e⟩:=if2 (dis (a::l)) (by omega)
 have hf:=Od7 hl;have hne:fil (dis (a::l)) (G0 (dis (a::l)))≠[]:=λe=>by
  rw[e] at hf;have h0:kc4 []=[]:=oe9;rw[h0] at hf;exact rf9 hl h4 hf.symm
 have hok:okL tV (l.length+1) (λk=>tV.row (gL tV (a::l) k))=true:=Ob1 tV (f:=λk=>gL tV (a::l) k) λ_ _=>rfl
 have hlen:(fil (dis (a::l)) (G0 (dis (a::l)))).length<=1000000:=by
  have h1:=Cd0 (dis (a::l)) (G0 (dis (a::l)));have h2:(G0 (dis (a::l))).length<=_:=Cd1 (dis (a::l)) (by omega) _ (Qaf _)
  omega
 unfold xa2;simp only[i8,G3,j6,ce4,ce5,hok,zc4 (a::l) (by omega),zc3 (a::l) (by omega),hc,Yd1 a l hll,Yd2 a l hll,e]
 generalize fil (dis (a::l)) (G0 (dis (a::l)))=O at *
 cases O with
 |nil=>exact absurd rfl hne
 |cons q o =>
  have hr:(Bool.and (Nat.ble (q::o).length room) (Bool.and (Nat.ble (q::o).length (len (bL tP (q::o)))) (okS tP (bL tP (q::o)) 0 (q::o).length)))=true:=by
   rw[Ud5,Ob2,Qas,Qas,Nat.ble_eq,Nat.ble_eq];refine⟨by unfold room;omega,Qaf _,rfl⟩
  simp only[phP,hr,yd6,Qe1,Xb7,hf];exact⟨_,(F0 (a::l),0),rfl,Se7 _ _ _ (by rw[<- hf,gc5]),rfl⟩
theorem Ee4{l:List V3}(hl:l.all inV=true){v:V3}(hv:v∈l):kv (F0 l) v=true↔Spn (F0 l) v:=by
 have hin:=Qcb.1 hl;have hs:∀p∈F0 l,(la7 p v==0)=true↔dot p.n v=p.b:=λp hp=>by rw[beq_iff_eq];exact Ic9 (Ce8 hp).ok (hin v hv)
 unfold kv own;rw[Se2];constructor
 ·rintro⟨p,q,s,hp,hq,hs',hw⟩;rw[Qff] at hp hq hs';exact⟨p,q,s,hp.1,hq.1,hs'.1,hw,(hs p hp.1).1 hp.2,(hs q hq.1).1 hq.2,(hs s hs'.1).1 hs'.2⟩
 ·rintro⟨p,q,s,hp,hq,hs',hw,e1,e2,e3⟩;exact⟨p,q,s,Qff.2 ⟨hp,(hs p hp).2 e1⟩,Qff.2 ⟨hq,(hs q hq).2 e2⟩,Qff.2 ⟨hs',(hs s hs').2 e3⟩,hw⟩
end Go.Ev.Ce
namespace Go.Ev.Ce
open Go Go.Ev Go.Ev.L Go.Proofs
structure B8(v:V3):Prop where
 x:Sm 8 v.x
 y:Sm 8 v.y
 z:Sm 8 v.z
structure Mp(l:List V3):Prop where
 l4:4<=l.length
 l8:l.length<=8
 bd:∀v∈l,Sm 11 v.x/\Sm 11 v.y/\Sm 11 v.z
 nf:nf0 l=true
theorem Mp.inV{l:List V3}(h:Mp l):l.all inV=true:=Qcb.2 λv hv=>by
 obtain⟨h1,h2,h3⟩:=h.bd v hv;exact (Bb3 v).2 ⟨h1.mono (by omega),h2.mono (by omega),h3.mono (by omega)⟩
theorem U0{l:List V3}(h:X3 l=0):l.length<=48/\l.all inV=true/\Sol l:=by
 unfold X3 at h
 split at h
 ·cases h
 rename_i h48
 split at h
 ·cases h
 rename_i hin
 split at h
 ·cases h
 rename_i hf;have hl:l.all inV=true:=by
  rw[Qcb];intro v hv;cases hi:inV v with
  |true=>rfl
  |false=>exact absurd (Qil.2 ⟨v,hv,by rw[hi];rfl⟩) hin
 have hin2:=Qcb.1 hl;refine⟨by omega,hl,?_⟩
 have hf:lc5 l=false:=Bool.eq_false_iff.2 hf;unfold lc5 at hf
 split at hf
 ·rename_i h1;obtain⟨hi,k1⟩:=hc5 h1;have k1:(ixs (iF l)).any (sp2 l (iF l))=true:=k1;obtain⟨hj,k2⟩:=hc5 k1;have k2:(l.take (jF l)).any (λv=>(I6 v (gL tV l (jF l)) (gL tV l (iF l))).2)=true:=k2
  have hj:jF l<iF l:=hj;have hi:iF l<l.length:=hi;have hk:=Bd8 k2;have hk2:=Qjc (xs:=l.take (jF l)) (p:=λv=>(I6 v (gL tV l (jF l)) (gL tV l (iF l))).2) (w:=hk)
  rw[Qie] at hk;rw[<- ac0 tV (by rw[Qie];exact hk),ud4 tV l (by omega)] at hk2
  have ht:=(xa3 hk2).2;rw[Qjg,Qil] at hf;obtain⟨v,hv,hne⟩:=hf;have hne:la7 (plF l) v≠0:=bne_iff_ne.1 hne;have ht:Thr (gL tV l (kF l)) (gL tV l (jF l)) (gL tV l (iF l)) (plF l):=ht;have hkl:kF l<l.length:=by
   have:kF l<min (jF l) l.length:=hk
   omega
  have hoff:dot (plF l).n v≠(plF l).b:=λe=>hne ((Ic9 ht.ok (hin2 v hv)).2 e)
  refine⟨_,_,_,v,gLm hkl,gLm (show jF l<l.length by omega),gLm hi,hv,λh0=>hoff ?_⟩
  obtain⟨ok,⟨g,hg,e1,e2,e3⟩,o⟩:=ht;have e:g*(dot (plF l).n v-(plF l).b)=dot (N3 (gL tV l (kF l)) (gL tV l (jF l)) (gL tV l (iF l))) (p6 v (gL tV l (kF l))):=by
   have e1:g*(plF l).n.x=(N3 (gL tV l (kF l)) (gL tV l (jF l)) (gL tV l (iF l))).x:=e1;have e2:g*(plF l).n.y=(N3 (gL tV l (kF l)) (gL tV l (jF l)) (gL tV l (iF l))).y:=e2;have e3:g*(plF l).n.z=(N3 (gL tV l (kF l)) (gL tV l (jF l)) (gL tV l (iF l))).z:=e3;rw[o];simp only[dot];rw[<- e1,<- e2,<- e3];simp only[p6]
   grind
  rw[h0] at e
  have:=(Qia.1 e).resolve_left (by omega)
  omega
 ·cases hf
def Ea9(l:List V3):PLq×Int:=if X3 l=0 then (F0 l,0) else ([],X3 l)
def E0(l:List V3):List V3×Int:=if X3 l=0 then (Ea8 (F0 l) l,0) else ([],X3 l)
theorem zc5{l:List V3}(h48:l.length<=48)(hl:l.all inV=true):(F0 l).length<=1000000:=by
 have h1:=Cd0 (dis l) (G0 (dis l));have hd:=ge0 l;have h2:(G0 (dis l)).length<=_:=Cd1 (dis l) (by omega) _ (Qaf _)
 rw[<- Od7 hl,gc5];omega
theorem Qb0(a:V3)(l:List V3)(hl:l.length<=900000):Rd (two (r1L tP) r1I) (xa2 (a,l)) (λr=>r=Ea9 (a::l)):=by
 by_cases h:X3 (a::l)=0
 ·obtain⟨h1,h2,h3⟩:=U0 h;unfold Ea9;rw[if_pos h];exact qe1 a l h1 h2 h3
 ·have hll:(a::l).length<=1000000:=by simp only[List.length_cons];omega
  have hne:(X3 (a::l) != 0)=true:=bne_iff_ne.2 h;unfold Ea9 xa2;rw[if_neg h];simp only[i8,G3,j6,zc4 (a::l) hll,zc3 (a::l) hll,hne,g7];exact⟨_,([],X3 (a::l)),rfl,rfl,rfl⟩
theorem zc6:X3 []=11:=by
 unfold X3 lc5;rfl
def za4(l:List V3):PLq×Int:=Ea9 l
def Ma8(l:List V3):Bool:=decide (1<=l.length/\l.length<=900000)
def lc7:Sum:=L6 (db5 tV) λl=>.guard (Ma8 l) (.ret ((two (r1L tP) r1I).enc (za4 l),[]))
def lc8:Sum:=λargs blks=>match args,blks with
 |[.v (.slice none 0 0)],[]=>Eb7 args blks
 |_,_=>lc7 args blks
theorem if4{f:Nat}{A B:Sum}(hA:d9 prog G f A)(hB:d9 prog G f B):d9 prog G f (λargs blks=>match args,blks with
 |[.v (.slice none 0 0)],[]=>A args blks
 |_,_=>B args blks):=by
 intro args blks r out he
 simp only at he
 split at he
 ·exact hA _ _ r out he
 ·exact hB _ _ r out he
theorem bc7:d9 prog G 24 lc7:=by
 refine Ae6 (gc6 kc7 λa r hr=>?_) (gc6 tb2 λa r hr=>?_) (gc6 ac6 λa r hr=>?_)
 ·obtain⟨p,c⟩:=a;obtain⟨hg,hr⟩:=DT.run_guard_some hr;have hl:c.length<=900000:=by
   have:=(of_decide_eq_true hg).2
   simp only[List.length_cons] at this;omega
  have hp:mb9 (p,c)=Ea9 (p::c):=(Qb0 p c hl).p;have hq:nb0 (p,c)=true:=(Qb0 p c hl).g;rw[hp,hq];exact hr
 ·obtain⟨hg,hr⟩:=DT.run_guard_some hr;exact absurd (of_decide_eq_true hg).1 (by simp)
 ·obtain⟨hg,hr⟩:=DT.run_guard_some hr;exact absurd (of_decide_eq_true hg).1 (by simp)
theorem jd7:d9 prog G 24 lc8:=if4 tb2 bc7
theorem zc7(a:V3)(l:List V3)(hl:l.length<=900000):Rd (two (r1L tV) r1I) (Ea7 (a,l)) (λr=>r=E0 (a::l)):=by
 have hok:okL tV (l.length+1) (λk=>tV.row (gL tV (a::l) k))=true:=Ob1 tV (f:=λk=>gL tV (a::l) k) λ_ _=>rfl
 have hp:mb9 (a,l)=Ea9 (a::l):=(Qb0 a l hl).p;have hq:nb0 (a,l)=true:=(Qb0 a l hl).g;unfold E0;unfold Ea7;simp only[i8,G3,j6,ce4,ce5,hok,hp,hq,g7];unfold Ea9;by_cases h:X3 (a::l)=0
 ·obtain⟨h1,h2,h3⟩:=U0 h;have hF:OkF (F0 (a::l)):=⟨zc5 h1 h2,λp hp=>(Ce8 hp).ok⟩
  obtain⟨m,r,e1,e2,e3,e4⟩:=Cd5 a l (by omega)
  obtain⟨m',r',k1,k2,k3⟩:=Yd7 r m e2 (F0 (a::l)) e4 hF;rw[if_pos h,if_pos h];simp only[e1,k1];refine⟨_,(r'.take m',0),rfl,?_,by rw[k3,e3];rfl⟩
  have h:(r1L tV).rd [⟨52,3,bL tV r',true,false,0⟩] (.sl 0 0 m' 0)=some (r'.take m'):=by
   show Bool.rec (motive:=λ_=>Option (List V3)) none (some (slR tV (bL tV r') 0 m')) (Bool.and true (okS tV (bL tV r') 0 m'))=_
   rw[ud1 _ _ k2,Jc4 _ _ k2];rfl
  simp only[two,h];rfl
 ·have hne:(X3 (a::l) != 0)=true:=bne_iff_ne.2 h;rw[if_neg h,if_neg h];simp only[hne,g7];exact⟨_,([],X3 (a::l)),rfl,rfl,rfl⟩
def Sc8(l:List V3):List V3×Int:=E0 l
def Sb7(l:List V3):Bool:=decide (1<=l.length/\l.length<=900000)
def Sc9:Sum:=L6 (db5 tV) λl=>.guard (Sb7 l) (.ret ((two (r1L tV) r1I).enc (Sc8 l),[]))
theorem Jc6:d9 prog G 53 Sc9:=by
 refine Ae6 (gc6 Rc7 λa r hr=>?_) (gc6 Hc6 λa r hr=>?_) (gc6 Hc8 λa r hr=>?_)
 ·obtain⟨p,c⟩:=a;obtain⟨hg,hr⟩:=DT.run_guard_some hr;have hl:c.length<=900000:=by
   have:=(of_decide_eq_true hg).2
   simp only[List.length_cons] at this;omega
  have hp:ac4 (p,c)=E0 (p::c):=(zc7 p c hl).p;have hq:ac5 (p,c)=true:=(zc7 p c hl).g;rw[hp,hq];exact hr
 ·obtain⟨hg,hr⟩:=DT.run_guard_some hr;exact absurd (of_decide_eq_true hg).1 (by simp)
 ·obtain⟨hg,hr⟩:=DT.run_guard_some hr;exact absurd (of_decide_eq_true hg).1 (by simp)
set_option maxRecDepth 100000
def od4:List (Nat×Sum):=[(65,Va6)]
theorem jd8:l6 prog G od4:=⟨cb3,trivial⟩
def Qb3{α:Type}(kk:Db5->α)(x:ib2):α:=let y1:=(⟨x.c9,x.e7,x.e8⟩:V3);let y0:=(⟨(⟨x.fb3,x.fb4,x.fb5⟩:V3),x.ie2⟩:Pln);let t1:=(na9 y0 y1);(sl (oa0 y0 y1) (kk ⟨1,decide (t1>0)⟩) (kk ⟨0,false⟩))
def nb3(x:ib2):Db5:=Qb3 (λr=>r) x
def lc9(x:ib2)(r:Db5):DT (a7×List b7):=(xa6 r.alt 1 (b r.bs0,[bq 0 3 [[i x.c9,i x.e7,i x.e8]]]) .fail)
def zc8:Sum:=va9 ⟨[.agg (kLq 4),sPq 0],[⟨0,3,true,some [kLq 3]⟩],λa H=>(⟨cIq a 0 0,cIq a 0 1,cIq a 0 2,cIq a 0 3,hIq H 0 0 0,hIq H 0 0 1,hIq H 0 0 2⟩,())⟩ (λx=>lc9 x (nb3 x))
theorem od5:d9 prog G 64 zc8:=r5 (enc:=λx=>⟨[.agg [i x.fb3,i x.fb4,i x.fb5,i x.ie2],.ptr 0 0 0 0],[bq 0 3 [[i x.c9,i x.e7,i x.e8]]]⟩) (λa H=>by kernel_rfl) (bd b64 jd8) λx=>ha4 (mEq @Qb3 (λr=>(lc9 x r).run) x)
def Fa0:List (Nat×Sum):=[(64,zc8)]
theorem nb4:l6 prog G Fa0:=⟨od5,trivial⟩
def ya7(p:I5)(s:m9):St:=⟨eL tP p.V1::.fn 64 [.ptr 0 0 0 0]::ra 5 (i p.is7::i s.is8::ra 10 []),[bq 0 3 [[i p.c9,i p.e7,i p.e8]]]⟩
def N6{α:Type}(k:m9->α)(e:Nat->α)(z:α)(p:I5)(s:m9):α:=let y0:=(gL tP p.V1 s.is8.toNat);let t1:=(nb3 ⟨y0.n.x,y0.n.y,y0.n.z,y0.b,p.c9,p.e7,p.e8⟩);(sl (decide (s.is8<p.is7)) (sl (inB s.is8 (List.length p.V1)) (sl (Nat.beq t1.alt 1) (sl t1.bs0 (e 1) (k ⟨W (s.is8+1)⟩)) z) z) (e 2))
def F6(p:I5)(s:m9):Stp m9:=N6 .next .exit .fail p s
def ea2:Lo I5 m9:=⟨En Fa0,1,ef5,[1,0,1,4,4],[0,1,7,8],.p,[⟨sLq tP::.fn 64 [.o (.ptr 0 0 0 0)]::ru2 5 (sIq::sIq::ru2 10 []),[⟨0,3,true,some [kLq 3]⟩],λa H=>(⟨aLq tP a 0,aIq a 7,hIq H 0 0 0,hIq H 0 0 1,hIq H 0 0 2⟩,⟨aIq a 8⟩)⟩],F6,[(none,λp s=>⟨[i s.is8],[bq 0 3 [[i p.c9,i p.e7,i p.e8]]]⟩),(some 0,λp s=>upq (ya7 p s) [(9,b (decide (s.is8<p.is7)))])],ya7⟩
theorem jb3:ea2.Ok:=Qjh [] .nil λp s=>(.ofq @N6)
def ma0{α:Type}(kk:ra7->α)(x:la2):α:=let t1:=(lp (F6 (⟨rt tP x.V1,(↑(List.length x.V1):Int),x.c9,x.e7,x.e8⟩:I5)) (⟨0⟩:m9));(sl ((cnE tP x.V1)&&true) (sl (Nat.beq t1.1 1) (kk ⟨1,t1.2.is8⟩) (sl (Nat.beq t1.1 2) (kk ⟨1,-1⟩) (kk ⟨0,0⟩))) (kk ⟨0,0⟩))
def V5(x:la2):ra7:=ma0 (λr=>r) x
def Fa1(x:la2)(r:ra7):DT (a7×List b7):=(xa6 r.alt 1 (i r.is0,[bq 0 3 [[i x.c9,i x.e7,i x.e8]]]) .fail)
def Ja5:Sum:=va9 ⟨[sLq tP,.fn 64 [.o (.ptr 0 0 0 0)]],[⟨0,3,true,some [kLq 3]⟩],λa H=>(⟨aLq tP a 0,hIq H 0 0 0,hIq H 0 0 1,hIq H 0 0 2⟩,())⟩ (λx=>Fa1 x (V5 x))
theorem tb5:d9 prog G 98 Ja5:=r5 (enc:=λx=>⟨[eL tP x.V1,.fn 64 [.ptr 0 0 0 0]],[bq 0 3 [[i x.c9,i x.e7,i x.e8]]]⟩) (λa H=>by kernel_rfl) (bd b98 nb4) λx=>ha5 (.s .p (.s (.s .p (.b (.u ea2.ls))) .p)) [ea2.pr] (.cons jb3 .nil) (mEq @ma0 (λr=>(Fa1 x r).run) x)
def eb3:List (Nat×Sum):=[(98,Ja5)]
theorem bb3:l6 prog G eb3:=⟨tb5,trivial⟩
def da3{α:Type}(kk:Db5->α)(x:la2):α:=let t1:=(V5 ⟨rt tP x.V1,x.c9,x.e7,x.e8⟩);(sl ((cnE tP x.V1)&&true) (sl (Nat.beq t1.alt 1) (kk ⟨1,decide (t1.is0>=0)⟩) (kk ⟨0,false⟩)) (kk ⟨0,false⟩))
def O4(x:la2):Db5:=da3 (λr=>r) x
def wa1(x:la2)(r:Db5):DT (a7×List b7):=(xa6 r.alt 1 (b r.bs0,[bq 0 3 [[i x.c9,i x.e7,i x.e8]]]) .fail)
def ya8:Sum:=va9 ⟨[sLq tP,.fn 64 [.o (.ptr 0 0 0 0)]],[⟨0,3,true,some [kLq 3]⟩],λa H=>(⟨aLq tP a 0,hIq H 0 0 0,hIq H 0 0 1,hIq H 0 0 2⟩,())⟩ (λx=>wa1 x (O4 x))
theorem eb4:d9 prog G 63 ya8:=r5 (enc:=λx=>⟨[eL tP x.V1,.fn 64 [.ptr 0 0 0 0]],[bq 0 3 [[i x.c9,i x.e7,i x.e8]]]⟩) (λa H=>by kernel_rfl) (bd b63 bb3) λx=>ha4 (mEq @da3 (λr=>(wa1 x r).run) x)
def Od8:List (Nat×Sum):=[(24,lc8),(62,rb5),(63,ya8)]
theorem Cd7:l6 prog G Od8:=⟨jd7,Ab5,eb4,trivial⟩
def Ra3(x:List V3)(y:V3):ROq:=let t1:=(za4 (rt tV x));let t2:=(wa6 y);let t3:=(O4 ⟨rt tP t1.1,y.x,y.y,y.z⟩);(sl (okE tV x) (sl (Ma8 (rt tV x)) (sl (t1.2==0) (sl (wa7 y) (sl t2 (sl ((cnE tP t1.1)&&true) (sl (Nat.beq t3.alt 1) (some (b (!t3.bs0),[])) none) none) (some (b false,[]))) none) (some (b false,[]))) none) none)
def bb4(x:List V3)(y:V3):Bool:=O8 (one r1B) (Ra3 x y)
def bb5(x:List V3)(y:V3):Bool:=okO (one r1B) (Ra3 x y)
def qc8:Sum:=Ha5 (db5 tV) (Za5 tV) (λx y=>.guard (bb5 x y) (.ret ((one r1B).enc (bb4 x y),[])))
theorem Oc7:d9 prog G 25 qc8:=Yb9 (bd b25 Cd7) (one r1B) (o:=Ra3)
structure Ye6 where
 f8:List V3
 (c9 e7 e8:Int)
structure Ye7 where
 is5:Int
structure Ee6 where
 ph:Nat
 is6:Int
 ns5:Nat
 eh1:List (List a7)
structure Ee7 where
 ns5:Nat
 (is7 is8:Int)
 eh0:List (List a7)
structure Ee8 where
 ph:Nat
 is9:Int
structure Fe0 where
 (ph ns5:Nat)
 is8:Int
 eh0:List (List a7)
structure Fe1 where
structure Fe2 where
 ph:Nat
 is7:Int
 ns5:Nat
 eh0:List (List a7)
structure se3 where
 f8:List V3
 Bf9:PLq
structure se4 where
 ph:Nat
 is7:Int
 Cf0:List V3
structure ta4 where
 (f8 ie1:List V3)
def Bb5(p:ta4)(s:Ye7):St:=⟨eL tV p.f8::eL tV p.ie1::ra 3 (i s.is5::ra 20 []),[]⟩
def xa4{α:Type}(k:Ye7->α)(e:Nat->α)(z:α)(p:ta4)(s:Ye7):α:=let y1:=(gL tV p.ie1 s.is5.toNat);let y0:=(gL tV p.f8 s.is5.toNat);(sl (decide (s.is5<(↑(List.length p.f8):Int))) (sl (inB s.is5 (List.length p.f8)) (sl (inB s.is5 (List.length p.ie1)) (sl (!((y0.x==y1.x)&&((y0.y==y1.y)&&((y0.z==y1.z)&&true)))) (e 1) (k ⟨W (s.is5+1)⟩)) z) z) (e 2))
def oa4(p:ta4)(s:Ye7):Stp Ye7:=xa4 .next .exit .fail p s
def bb6:Lo ta4 Ye7:=⟨En tbN,0,nf6,[1,1,0,1,4,4],[0,1,5],.p,[⟨sLq tV::sLq tV::ru2 3 (sIq::ru2 20 []),[],λa H=>(⟨aLq tV a 0,aLq tV a 1⟩,⟨aIq a 5⟩)⟩],oa4,[(none,λp s=>⟨[b false],[]⟩),(some 0,λp s=>upq (Bb5 p s) [(11,i s.is5),(12,eL tV p.f8),(13,i (↑(List.length p.f8):Int)),(14,b (decide (s.is5<(↑(List.length p.f8):Int))))])],Bb5⟩
theorem zc9:bb6.Ok:=Qjh [] .nil λp s=>(.ofq @xa4)
def Fa2(x:List V3)(y:List V3):ROq:=let t1:=(lp (oa4 (⟨rt tV x,rt tV y⟩:ta4)) (⟨0⟩:Ye7));(sl ((↑(List.length x):Int) != (↑(List.length y):Int)) (some (b false,[])) (sl ((cnE tV x)&&((cnE tV y)&&true)) (sl (Nat.beq t1.1 1) (some (b false,[])) (sl (Nat.beq t1.1 2) (some (b true,[])) none)) none))
def S5(x:List V3)(y:List V3):Bool:=O8 (one r1B) (Fa2 x y)
def S6(x:List V3)(y:List V3):Bool:=okO (one r1B) (Fa2 x y)
def bc8:Sum:=Ha5 (db5 tV) (db5 tV) (λx y=>.guard (S6 x y) (.ret ((one r1B).enc (S5 x y),[])))
theorem Sb8:d9 prog G 23 bc8:=ve1 (bd b23 gb5) (one r1B) (o:=Fa2) λx y=>ha5 (.s .p (.s .p (.s (.s .p (.b (.u bb6.ls))) .p))) [bb6.pr] (.cons zc9 .nil)
end Go.Ev.Ce
namespace Go.Ev
open Go Go.ChangeShapes Go.RowKit
structure jd9(w w':World):Prop where
 os:w'.os=w.os
 output:w'.output=w.output
 size:w.heap.size<=w'.heap.size
 block:∀k,k<w.heap.size->w'.heap[k]?=w.heap[k]?
theorem jd9.kept{w w':World}(h:jd9 w w')(may:MemPlace->Prop):w.keptBut w' may:=by
 refine⟨h.os,h.output,λi hi=>?_⟩
 rw[h.block i hi]
 grind
theorem jd9.frozen{w w':World}(h:jd9 w w')(b off:Nat)(hb:b<w.heap.size):w'.frozen? ⟨b,off,none⟩=w.frozen? ⟨b,off,none⟩:=by
 simp only[World.frozen?,h.block b hb]
theorem jd9.cell{w w':World}(h:jd9 w w')(b off:Nat)(hb:b<w.heap.size):w'.cell? ⟨b,off,none⟩=w.cell? ⟨b,off,none⟩:=by
 simp only[World.cell?,h.block b hb]
theorem jd9.same{w w':World}(h:jd9 w w')(p:MemPlace)(hp:p.block<w.heap.size):w.sameAt w' p:=by
 cases p with
 |cell b off=>exact h.cell b off hp
 |map b=>exact h.block b hp
theorem kd0{α β:Type}{f:α->Option β}:∀{l:List α} {r:List β},l.mapM f=some r->r.length=l.length/\∀(j:Nat) y,r[j]?=some y->∃x,l[j]?=some x/\f x=some y
 |[],r,h=>by
  simp_all
 |x::l,r,h=>by
  rw[List.mapM_cons] at h;obtain⟨y,h1,h2⟩:=Qjd.1 h;obtain⟨r',h3,h4⟩:=Qjd.1 h2
  have:r=y::r':=by simpa using h4.symm
  subst this;obtain⟨g1,g2⟩:=kd0 h3
  grind
section
variable{D:Type}{enc:TypeId×Value->D}{P:Program}
theorem mc0{T:TypeId->Prop}(K:Kids P T)(hsz:∀{t e:TypeId},T t->P.underlying t=some (.slice e)->0<P.cellsOf e){w w':World}{sp:Nat->Bool}(hs:jd9 w w') :
  ∀{ts:List TypeId} {vs:List Value} {ds:List (DataW D)} {ps:List MemPlace},(∀t∈ts,T t)->DataW.TrodAll enc P w 0 (λ_=>true) true ts vs ds ps->(∀p∈ps,p.block<w.heap.size)->(∀p∈ps,sp p.block=true)->DataW.TrodAll enc P w' 0 sp true ts vs ds ps
 |[],[],[],_,_,h,_,_=>h
 |t::ts,v::vs,d::ds,ps,ht,h,hlt,hsp=>by
  obtain⟨p,q,⟨fuel,h1⟩,h2,rfl⟩:=h;refine⟨p,q,⟨fuel,?_⟩,mc0 K hsz hs (λt h=>ht t (by simp[h])) h2 (λx hx=>hlt x (by simp[hx])) (λx hx=>hsp x (by simp[hx])),rfl⟩
  exact DataW.trod_stays K hsz (λh=>by cases h) (ht t (by simp)) h1 (λx hx=>hs.same x (hlt x (by simp at hx ⊢;exact .inl hx))) (λx hx=>hsp x (by simp at hx ⊢;exact .inl hx))
 |[],_::_,_,_,_,h,_,_=>h.elim
 |[],[],_::_,_,_,h,_,_=>h.elim
 |_::_,[],_,_,_,h,_,_=>h.elim
 |_::_,_::_,[],_,_,h,_,_=>h.elim
theorem Fe3{T:TypeId->Prop}(K:Kids P T)(hsz:∀{t e:TypeId},T t->P.underlying t=some (.slice e)->0<P.cellsOf e){f:Func}{s:ChangeSpec}{apart fresh handsOn again:Bool}{W W':World}{args:Array Value}{ds gs:List (DataW D)}{before:List MemPlace}{tb:TypeId}
  (hT:∀t∈f.params.toList,T t) (hW:DataW.Whole enc P f.params.toList s.vars apart W args.toList ds gs before) (hv:s.vars=[]) (hr:f.resultTypes=#[tb]) (hb:P.underlying tb=some .bool)
  (h1:(s.fn D ds).results=[.lit (.bool true)]) (h2:(s.fn D ds).args=ds) (h3:(s.fn D ds).vars=[]) (hs:jd9 W W') :
  s.post enc P f apart fresh handsOn again W args (.bool true) W':=by
 have hlt:=hW.lt;obtain⟨pa,pv,hA,hV,hps,hz,hn⟩:=id hW;rw[hv] at hV;have hpv:gs=[]/\pv=[]:=by
  cases gs with
  |nil=>exact⟨rfl,hV⟩
  |cons=>exact hV.elim
 obtain⟨rfl,rfl⟩:=hpv;rw[<- Qbv ds] at h1 h3;have h2:(s.fn D (ds++[])).args=ds:=by rw[Qbv];exact h2
 have hpa:before=pa:=by rw[hps];simp
 subst hpa;have hagain:∀sp:Nat->Bool,(∀p∈before,sp p.block=true)->DataW.TrodAll enc P W' 0 sp true f.params.toList args.toList ds before:=λsp h=>mc0 K hsz hs hT hA hlt h
 have hres:∀(b:Nat) (sp:Nat->Bool) (hd:Bool),DataW.TrodAll enc P W' b sp hd f.resultTypes.toList ((Value.bool true).resultList f.resultTypes.size) [.lit (.bool true)] []:=λb sp hd=>by
  rw[hr];exact⟨[],[],⟨1,by simp[DataW.trod,hb,Value.cells,Value.resultList]⟩,rfl,rfl⟩
 have hvars:∀sp:Nat->Bool,DataW.TrodVars enc P W' sp s.vars ([]:List (DataW D)) []:=λsp=>by rw[hv];exact rfl
 have hok:∀(j:Nat) (t:TypeId) (r:Value),f.resultTypes[j]?=some t->((Value.bool true).resultList f.resultTypes.size)[j]?=some r->Value.okWide P W' .any 0 t r:=by
  rw[hr];intro j t r h4 h5;cases j with
  |zero =>
   simp at h4
   subst h4
   have:r=.bool true:=by simpa [Value.resultList] using h5.symm
   subst this;exact okWide_bool_mk hb _
  |succ j=>simp at h4
 have hag:DataW.TrodAll enc P W' 0 (λ_=>true) true (f.resultTypes.toList++f.params.toList) ((Value.bool true).resultList f.resultTypes.size++args.toList) (.lit (.bool true)::ds) before:=by
  have:=hagain (λ_=>true) (λ_ _=>rfl)
  rw[hr];exact⟨[],before,⟨1,by simp[DataW.trod,hb,Value.cells,Value.resultList]⟩,this,rfl⟩
 refine⟨ds,[],before,[],before,[],hW,?_,?_,?_,hs.kept _,λ_=>?_⟩
 ·rw[h1];exact hres _ _ _
 ·grind
 ·rw[h3];exact hvars _
 ·refine⟨hok,.lit (.bool true)::ds,[],before,⟨before,[],hag,hvars _,by simp,?_,?_⟩,?_⟩
  ·intro b off hp;rw[hs.frozen b off (hlt _ hp)];exact hz b off (by simpa using hp)
  ·omega
  ·intro p hp _;exact hp
variable{w:World}{base:Nat}{spare:Nat->Bool}{held:Bool}
def Yd9(w:World):Fz:=λb o=>(w.cell? ⟨b,o,none⟩).isSome
theorem if5{fuel:Nat}{t:TypeId}{k:IntKind}{cs:List Value}{x:DataW D×List MemPlace}(ht:P.underlying t=some (.int k))(h:DataW.trod enc P w base spare held fuel t cs=some x) :
  ∃n,cs=[.int k n]/\(Lit.int k n).wf=true/\x.1=.lit (.int k n):=by
 cases fuel with
 |zero=>cases h
 |succ fuel =>
  match cs,h with
  |[],h=>simp[DataW.trod,ht] at h
  |[v],h =>
   cases v with
   |int k' n =>
    simp only[DataW.trod,ht] at h
    grind
   |_=>simp[DataW.trod,ht] at h
  |a::b::r,h=>simp[DataW.trod,ht] at h
theorem Se8{fuel:Nat}{t:TypeId}{cs:List Value}{x:DataW D×List MemPlace}(ht:P.underlying t=some .bool)(h:DataW.trod enc P w base spare held fuel t cs=some x) :
  ∃n,cs=[.bool n]/\x.1=.lit (.bool n):=by
 cases fuel with
 |zero=>cases h
 |succ fuel =>
  match cs,h with
  |[],h=>simp[DataW.trod,ht] at h
  |[v],h =>
   cases v with
   |bool n =>
    simp only[DataW.trod,ht] at h
    grind
   |_=>simp[DataW.trod,ht] at h
  |a::b::r,h=>simp[DataW.trod,ht] at h
theorem Fe4{fuel:Nat}{t e:TypeId}{n:Nat}{cs:List Value}{x:DataW D×List MemPlace}(ht:P.underlying t=some (.array n e))(h:DataW.trod enc P w base spare held fuel t cs=some x) :
  cs.length=P.cellsOf t/\∃(fuel':Nat) (xs:List (DataW D×List MemPlace)),xs.length=n/\x.1=.agg (xs.map (·.1))/\∀(j:Nat) y,xs[j]?=some y->DataW.trod enc P w base spare held fuel' e ((cs.drop (j*P.cellsOf e)).take (P.cellsOf e))=some y:=by
 cases fuel with
 |zero=>cases h
 |succ fuel =>
  unfold DataW.trod at h;rw[ht] at h
  simp only at h
  split at h
  ·rename_i hl;obtain⟨xs,h1,h2⟩:=Qbl.1 h;have hx:=kd0 h1;exact⟨hl,fuel,xs,by simpa using hx.1,by rw[<- h2],λj y hy=>by
    obtain⟨a,ha,hb⟩:=hx.2 j y hy
    have:j<n:=by
     have:=(Qab.1 hy).1
     rw[hx.1] at this;simpa using this
    rw[List.getElem?_range this] at ha;injection ha with ha;subst ha;exact hb⟩
  ·cases h
theorem qe2{fuel:Nat}{t:TypeId}{fs:Array Field}{cs:List Value}{x:DataW D×List MemPlace}(ht:P.underlying t=some (.struct fs))(h:DataW.trod enc P w base spare held fuel t cs=some x) :
  cs.length=P.cellsOf t/\∃(fuel':Nat) (xs:List (DataW D×List MemPlace)),xs.length=fs.size/\x.1=.agg (xs.map (·.1))/\∀(j:Nat) f,fs[j]?=some f->∃y,xs[j]?=some y/\DataW.trod enc P w base spare held fuel' f.type ((cs.drop f.offset).take (P.cellsOf f.type))=some y:=by
 cases fuel with
 |zero=>cases h
 |succ fuel =>
  unfold DataW.trod at h;rw[ht] at h
  simp only at h
  split at h
  ·rename_i hl;obtain⟨xs,h1,h2⟩:=Qbl.1 h;have hx:=kd0 h1;refine⟨hl,fuel,xs,by simpa using hx.1,by rw[<- h2],λj f hf=>?_⟩
   grind
  ·cases h
theorem ge4:∀(d:Nat) (t:TypeId) (l:List (Nat×CK)),da7 P d t=some l->∀(fuel:Nat) (cs:List Value) (x:DataW D×List MemPlace),DataW.trod enc P w base spare held fuel t cs=some x->∀p∈l,Ha3 cs.toArray p
 |0,_,_,h,_,_,_,_=>by cases h
 |d+1,t,l,h,fuel,cs,x,hx=>by
  have hpart:∀{off n:Nat} {e:TypeId} {l':List (Nat×CK)} {fuel':Nat} {y:DataW D×List MemPlace},Wb0 off n (da7 P d e)=some l'->DataW.trod enc P w base spare held fuel' e ((cs.drop off).take n)=some y->∀p∈l',Ha3 cs.toArray p:=λ{off n e l' fuel' y} h1 h2 p hp=>by
   obtain⟨l2,g1,g2,rfl⟩:=Ra5 h1;obtain⟨q,hq,rfl⟩:=Qbr.1 hp
   have:=ge4 d e l2 g1 fuel' _ y h2 q hq
   have hlt:=g2 q hq;unfold Ha3 at this ⊢;simp only[List.getElem?_toArray,Qap,hlt,if_true,Qbf] at this ⊢;exact this
  have hcat:∀{α:Type} (f:α->Option (List (Nat×CK))) (xs:List α) (l:List (Nat×CK)),pa3 (xs.map f)=some l->∀p∈l,∃a∈xs,∃l',f a=some l'/\p∈l':=λ{α} f xs=>by
   induction xs with
   |nil=>intro l h;simp only[List.map_nil,pa3] at h;injection h with h;subst h;simp
   |cons a xs ih =>
    intro l h p hp;simp only[Qbo,pa3] at h;cases h1:f a with
    |none=>simp[h1] at h
    |some l1 =>
    cases h2:pa3 (xs.map f) with
    |none=>simp[h1,h2] at h
    |some l2 =>
    simp only[h1,h2] at h;injection h with h;subst h
    rcases Qiai.1 hp with hp|hp
    ·exact⟨a,by simp,l1,h1,hp⟩
    ·obtain⟨b,hb,r⟩:=ih l2 h2 p hp;exact⟨b,by simp[hb],r⟩
  unfold da7 at h;cases hu:P.underlying t with
  |none=>simp[hu] at h
  |some u =>
  cases u with
  |int k =>
   simp only[hu] at h;injection h with h;subst h
   obtain⟨n,rfl,_,_⟩:=if5 hu hx;intro p hp;simp at hp;subst hp;exact⟨n,rfl⟩
  |bool =>
   simp only[hu] at h;injection h with h;subst h
   obtain⟨n,rfl,_⟩:=Se8 hu hx;intro p hp;simp at hp;subst hp;exact⟨n,rfl⟩
  |struct fs =>
   simp only[hu] at h
   split at h
   ·cases h
   obtain⟨_,fuel',xs,_,_,hxs⟩:=qe2 hu hx;intro p hp;obtain⟨f,hf,l',h1,h2⟩:=hcat _ _ _ h p hp
   split at h1
   ·cases h1
   obtain⟨j,hj⟩:=List.getElem?_of_mem hf;obtain⟨y,_,hy⟩:=hxs j f (by simpa using hj)
   have hc:P.cellsOf f.type=szT P f.type:=by
    unfold Program.cellsOf szT
    grind
   grind
  |array n e =>
   simp only[hu] at h
   split at h
   case isFalse=>cases h
   obtain⟨_,fuel',xs,hn,_,hxs⟩:=Fe4 hu hx;intro p hp;obtain⟨j,hj,l',h1,h2⟩:=hcat _ _ _ h p hp;have hj':j<xs.length:=by rw[hn];simpa using hj
   have hy:=hxs j _ (Qaa hj');have hc:P.cellsOf e=szT P e:=by
    unfold Program.cellsOf szT;cases P.info? e<;>rfl
   grind
  |_=>simp[hu] at h
def Qb4(k:IntKind)(es:Nat)(g:Nat->Int):List a7:=(List.range es).map λc=>.v (.int k (g c))
def Za6(k:IntKind)(es:Nat):List (Nat×CK):=(List.range es).map λc=>(c,.int k)
theorem Se9{d:Nat}{t:TypeId}{k:IntKind}{es:Nat}(hf:da7 P d t=some (Za6 k es)){fuel:Nat}{cs:List Value}{x:DataW D×List MemPlace}(hx:DataW.trod enc P w base spare held fuel t cs=some x)(hl:cs.length=es) :
  ∃g:Nat->Int,∀c,c<es->cs[c]?=some (.int k (g c)):=by
 have h:=ge4 d t _ hf fuel cs x hx;have h':∀c,∃n:Int,c<es->cs[c]?=some (.int k n):=λc=>by
  by_cases hc:c<es
  ·have:=h (c,.int k) (Qbr.2 ⟨c,by simpa using hc,rfl⟩)
   obtain⟨n,hn⟩:=this;exact⟨n,λ_=>by simpa using hn⟩
  ·exact⟨0,λh=>absurd h hc⟩
 exact⟨λc=>Classical.choose (h' c),λc hc=>Classical.choose_spec (h' c) hc⟩
theorem Zd0{k:IntKind}{es:Nat}{g:Nat->Int}{c:Nat}{x:a7}(h:(Qb4 k es g)[c]?=some x):c<es/\x=.v (.int k (g c)):=by
 unfold Qb4 at h
 grind
theorem qe3(w:World):C1 (λk=>w.heap.size<=k) (λ_=>⟨0,0,0⟩) [] (Yd9 w) w :=
 ⟨λid b h=>by simp at h,λid id' b b' h=>by simp at h,λ_ _ h=>h,λ_ h=>h⟩
theorem qe4{G:Nat->List Value}{f:FuncId}{S:Sum}(hS:d9 P G f S){aargs:List a7}{args:List Value}(hrun:∃out,(S aargs []).run=some (b true,out))(hl:aargs.length=args.length)
  (ha:∀(i:Nat) x x',aargs[i]?=some x->args[i]?=some x'->da6 (λ_=>⟨0,0,0⟩) [] (Yd9 w) w x x') (hG:∀g (c:Nat) x,(G g)[c]?=some x->x.oneCell'=true/\w.cell? ⟨g,c,none⟩=some x) :
  Calls P f args.toArray w λe w'=>e=.returned (.bool true)/\jd9 w w':=by
 obtain⟨out,hrun⟩:=hrun;obtain⟨_,hc⟩:=hS aargs [] (b true) out hrun (λk=>w.heap.size<=k) (λ_=>⟨0,0,0⟩) (Yd9 w) w args (qe3 w) hl (λi x x' h1 h2=>.val (ha i x x' h1 h2)) (λg c x hx=>by
  obtain⟨h1,h2⟩:=hG g c x hx;exact⟨h1,by unfold Yd9;rw[h2];rfl,h2⟩)
 refine hc.mono λe w' ⟨r',he,ρ',F',hA,hH,hW⟩=>?_
 have:=V8 hW
 subst this;exact⟨he,hA.ext.os,hA.ext.output,hA.ext.size,λk hk=>hA.ext.block k hk (by omega)⟩
theorem Te0{ρ:Rho}{H:List b7}{F:Fz}{t:TypeId}{k:IntKind}{es d:Nat}{v:Value}{dd:DataW D}{pp:List MemPlace}{bs:Nat}{r:Reach}(hag:agT P t=true)(hf:da7 P d t=some (Za6 k es))(hes:P.cellsOf t=es)
  (hok:Value.okWide P w r bs t v) (h:DataW.Trod enc P w base spare held t v dd pp):∃g:Nat->Int,da6 ρ H F w (.agg (Qb4 k es g)) v:=by
 have hv:∃cs:Array Value,v=.agg cs/\cs.size=P.cellsOf t:=by
  unfold agT at hag;unfold Value.okWide at hok
  grind
 obtain⟨cs,rfl,hsz⟩:=hv;obtain⟨fuel,hx⟩:=h;have hx:DataW.trod enc P w base spare held fuel t cs.toList=some (dd,pp):=hx;obtain⟨g,hg⟩:=Se9 hf hx (by simpa [hes] using hsz)
 refine⟨g,.agg _ _ (by simp[Qb4,hsz,hes]) λc x x' h1 h2=>?_⟩
 obtain⟨hc,rfl⟩:=Zd0 h1
 have:=hg c hc
 have h3:some x'=some (.int k (g c)):=by rw[<- h2];simpa using this
 injection h3 with h3;subst h3;exact .v _
end
end Go.Ev
namespace Go.Ev.L
open Go Go.Ev
def Rdg{α:Type}(c:Cod α)(x:a7)(a:α):Prop:=c.dec x=some a/\c.grd x=true
section
variable{α β γ δ ε:Type}{c:Cod α}{d:Cod β}{e:Cod γ}{f:Cod δ}{c5:Cod ε}{x y z w v:a7}{a:α}{b':β}{g:γ}{j:δ}{m:ε}{r:a7×List b7}
theorem Af7{k:α->β->γ->DT (a7×List b7)}(h1:Rdg c x a)(h2:Rdg d y b')(h3:Rdg e z g)(h:(k a b' g).run=some r):(Ub4 c d e k [x,y,z] []).run=some r:=by
 unfold Ub4;simp only[h1.1,h1.2,h2.1,h2.2,h3.1,h3.2];exact h
end
theorem if6{g p:Bool}(hg:g=true)(hp:p=true):(DT.guard g (.ret ((one r1B).enc p,([]:List b7)))).run=some (b true,([]:List b7)):=by subst hg;subst hp;rfl
def sf0:Value->ByteArray
 |.string s=>s
 |_=>⟨#[]⟩
def eb5(H H':List b7):Prop:=∀id g,(blkAt H id g).map (λb=>(b.es,b.elems))=(blkAt H' id g).map (λb=>(b.es,b.elems))
theorem eb5.refl(H:List b7):eb5 H H:=λ_ _=>rfl
theorem eb5.disown(H:List b7)(id:Nat):eb5 (disown H id) H:=λj g=>by
 rw[uc1];cases blkAt H j g with
 |none=>rfl
 |some b =>
  grind
theorem eb5.trans{H1 H2 H3:List b7}(h:eb5 H1 H2)(k:eb5 H2 H3):eb5 H1 H3:=λid g=>(h id g).trans (k id g)
theorem eb5.symm{H1 H2:List b7}(h:eb5 H1 H2):eb5 H2 H1:=λid g=>(h id g).symm
theorem Tc0{H H':List b7}(h:eb5 H H')(x:a7):(freezeCell H x).map (·.1)=(freezeCell H' x).map (·.1)/\∀y H1 H1',freezeCell H x=some (y,H1)->freezeCell H' x=some (y,H1')->eb5 H1 H1':=by
 cases x with
 |v u =>
  simp only[freezeCell]
  grind
 |tree es n get =>
  refine⟨rfl,λy H1 H1' e e'=>?_⟩
  injection e with e;injection e with _ e;injection e' with e';injection e' with _ e'
  subst e e';exact h
 |fn f caps =>
  simp only[freezeCell]
  grind
 |sl id off n g =>
  simp only[freezeCell];have hb:=h id g;cases h1:blkAt H id g with
  |none =>
   grind
  |some b =>
   cases h2:blkAt H' id g with
   |none=>rw[h1,h2] at hb;cases hb
   |some b' =>
    rw[h1,h2] at hb;simp only[Option.map_some] at hb;injection hb with hb;injection hb with e1 e2
    refine⟨by simp only[Option.map_some,Nb1,e1,e2],λy H1 H1' e e'=>?_⟩
    injection e with e;injection e with _ e;injection e' with e';injection e' with _ e'
    subst e e';exact (eb5.disown H id).trans (h.trans (eb5.disown H' id).symm)
 |_=>exact⟨rfl,λy H1 H1' e=>by cases e⟩
theorem Lb6:∀(cs:List a7) {H H':List b7},eb5 H H'->(freezeCells H cs).map (·.1)=(freezeCells H' cs).map (·.1)
 |[],H,H',h=>rfl
 |x::r,H,H',h=>by
  obtain⟨h1,h2⟩:=Tc0 h x;simp only[freezeCells];cases e1:freezeCell H x with
  |none =>
   grind
  |some p =>
   cases e2:freezeCell H' x with
   |none=>rw[e1,e2] at h1;cases h1
   |some q =>
    rw[e1,e2] at h1;obtain⟨y,H1⟩:=p;obtain⟨y',H1'⟩:=q;simp only[Option.map_some] at h1;injection h1 with h1;subst h1
    have:=Lb6 r (h2 _ _ _ e1 e2)
    grind
theorem kd1{H H':List b7}{x y:a7}(h:freezeCell H x=some (y,H')):Dis H H':=by
 cases x with
 |v u =>
  simp only[freezeCell] at h;cases hu:Pc2 u with
  |true=>rw[hu] at h;injection h with h;injection h with _ h;subst h;exact .refl
  |false=>rw[hu] at h;cases h
 |tree es n get=>injection h with h;injection h with _ h;subst h;exact .refl
 |fn f caps =>
  simp only[freezeCell] at h;cases hu:Ga9 rc3 caps with
  |true=>rw[hu] at h;injection h with h;injection h with _ h;subst h;exact .refl
  |false=>rw[hu] at h;cases h
 |sl id off n g =>
  simp only[freezeCell] at h;cases h1:blkAt H id g with
  |none=>rw[h1] at h;cases h
  |some b=>rw[h1] at h;injection h with h;injection h with _ h;subst h;exact .step id .refl
 |_=>cases h
theorem Dis.app{H H1 H2:List b7}(h:Dis H H1)(k:Dis H1 H2):Dis H H2:=by
 induction k with
 |refl=>exact h
 |step id _ ih=>exact .step id ih
theorem Sb9:∀{cs l:List a7} {H H':List b7},freezeCells H cs=some (l,H')->Dis H H'
 |[],l,H,H',h=>by
  injection h with h;injection h with _ h;subst h;exact .refl
 |x::r,l,H,H',h=>by
  simp only[freezeCells] at h;cases e1:freezeCell H x with
  |none=>rw[e1] at h;cases h
  |some p =>
   obtain⟨y,H1⟩:=p;rw[e1] at h
   simp only at h
   cases e2:freezeCells H1 r with
   |none=>rw[e2] at h;cases h
   |some q =>
    obtain⟨l2,H2⟩:=q;rw[e2] at h
    simp only at h
    injection h with h;injection h with _ h;subst h
    exact (kd1 e1).app (Sb9 e2)
section
variable{α:Type}(t:Ty α)
def r1S:R1 α where
 enc x:=.agg (t.row x)
 rd H x:=match x with
  |.agg cs=>Option.rec (motive:=λ_=>Option α) none (λp=>Bool.rec (motive:=λ_=>Option α) none (some (t.rd p)) (t.ok p)) ((freezeCells H cs).map (·.1))
  |_=>none
 d:=t.d
 le H x r h:=by
  split at h
  ·rename_i cs;cases hf:freezeCells H cs with
   |none=>rw[hf] at h;cases h
   |some q =>
    obtain⟨l,H'⟩:=q;rw[hf] at h;simp only[Option.map_some] at h;cases hb:t.ok l with
    |false=>rw[hb] at h;cases h
    |true =>
     rw[hb] at h;have h:some (t.rd l)=some r:=h;injection h with h;subst h;have h3:=t.h3 l hb;refine⟨.agg l,H',by simp only[wa2,hf],Sb9 hf,λρ' H2 F w v hv=>?_⟩
     obtain⟨vs,rfl,hl,hr⟩:=qa3 (.val hv);refine .agg _ _ (by rw[<- h3.length];exact hl) λi y v' hy hv'=>?_
     obtain⟨x,hx,hle⟩:=h3.get i y hy;exact hle.c _ _ _ _ _ (hr i x v' hx hv')
  ·cases h
 dis H id x:=by
  cases x with
  |agg cs=>simp only[Lb6 cs (eb5.disown H id)]
  |_=>rfl
def Fe5(es:Nat):a7->Bool
 |.tree e _ _=>Nat.beq e es
 |.v (.slice none 0 0)=>true
 |_=>false
def Af8(sh:List a7->Bool):Cod α where
 enc x:=.agg (t.row x)
 dec x:=match x with
  |.agg cs=>Bool.rec (motive:=λ_=>Option α) none (some (t.rd cs)) (sh cs)
  |_=>none
 grd x:=match x with
  |.agg cs=>t.ok cs
  |_=>false
 ok x a hx hg:=by
  split at hx
  ·rename_i cs;cases hb:sh cs with
   |false=>rw[hb] at hx;cases hx
   |true =>
    rw[hb] at hx;have hx:some (t.rd cs)=some a:=hx;injection hx with hx;subst hx;have h3:=t.h3 cs hg;intro ρ H F w v hv;obtain⟨vs,rfl,hl,hr⟩:=qa3 hv;refine .val (.agg _ _ (by rw[<- h3.length];exact hl) λi y v' hy hv'=>?_)
    obtain⟨x,hx,hle⟩:=h3.get i y hy;exact hle.c _ _ _ _ _ (hr i x v' hx hv')
  ·cases hx
end
end Go.Ev.L
namespace Go.Ev.Ce
open Go Go.Ev Go.Ev.L Go.Proofs
theorem hd1{x y:a7}(h:Xb6 [x] [y]):CLe x y:=by cases h with | cons h _=>exact h
structure Tol where
 nm:ByteArray
 ou:List V3
 inn:List (List V3)
 ho:List V3
 li:List Int
 ru:Int
 fo:List V3
def Ye8:List a7->Bool
 |[.v (.string _),x1,x2,x3,x4,.v (.int .i64 _),x6]=>Bool.and ((tLs tV).ok [x1]) (Bool.and ((tLs (tLs tV)).ok [x2]) (Bool.and ((tLs tV).ok [x3]) (Bool.and ((tLs tI).ok [x4]) (Bool.and ((tLs tV).ok [x6]) (true)))))
 |_=>false
def tT:Ty Tol where
 es:=7
 row x:=[.v (.string x.nm),eL tV x.ou,eL (tLs tV) x.inn,eL tV x.ho,eL tI x.li,i x.ru,eL tV x.fo]
 rd r:=⟨sf0 (toV (hdA r)),rL tV (hdA (tlA r)),rL (tLs tV) (hdA (tlA (tlA r))),rL tV (hdA (tlA (tlA (tlA r)))),rL tI (hdA (tlA (tlA (tlA (tlA r))))),toI (hdA (tlA (tlA (tlA (tlA (tlA r)))))),rL tV (hdA (tlA (tlA (tlA (tlA (tlA (tlA r)))))))⟩
 ok:=Ye8
 cks:=[.any,.sl 3,.sl 1,.sl 3,.sl 1,.int .i64,.sl 3]
 d:=⟨⟨#[]⟩,[],[],[],[],0,[]⟩
 h0 _:=rfl
 h1 x:=by
  show Tol.mk x.nm (rL tV (eL tV x.ou)) (rL (tLs tV) (eL (tLs tV) x.inn)) (rL tV (eL tV x.ho)) (rL tI (eL tI x.li)) x.ru (rL tV (eL tV x.fo))=x;rw[show rL tV (eL tV x.ou)=x.ou from i8 tV x.ou,show rL (tLs tV) (eL (tLs tV) x.inn)=x.inn from i8 (tLs tV) x.inn,show rL tV (eL tV x.ho)=x.ho from i8 tV x.ho,show rL tI (eL tI x.li)=x.li from i8 tI x.li,show rL tV (eL tV x.fo)=x.fo from i8 tV x.fo]
 h2 x:=by
  show Bool.and ((tLs tV).ok ((tLs tV).row x.ou)) (Bool.and ((tLs (tLs tV)).ok ((tLs (tLs tV)).row x.inn)) (Bool.and ((tLs tV).ok ((tLs tV).row x.ho)) (Bool.and ((tLs tI).ok ((tLs tI).row x.li)) (Bool.and ((tLs tV).ok ((tLs tV).row x.fo)) (true)))))=true;rw[(tLs tV).h2 x.ou,(tLs (tLs tV)).h2 x.inn,(tLs tV).h2 x.ho,(tLs tI).h2 x.li,(tLs tV).h2 x.fo];rfl
 h3 r h:=by
  unfold Ye8 at h
  split at h
  ·rename_i _ x1 x2 x3 x4 _ x6;simp only[Qas] at h;obtain⟨h1,h2,h3,h4,h6,_⟩:=h;have c1:=(tLs tV).h3 _ h1;have c2:=(tLs (tLs tV)).h3 _ h2;have c3:=(tLs tV).h3 _ h3;have c4:=(tLs tI).h3 _ h4;have c6:=(tLs tV).h3 _ h6;exact .cons (.refl _) (.cons (hd1 c1) (.cons (hd1 c2) (.cons (hd1 c3) (.cons (hd1 c4) (.cons (.refl _) (.cons (hd1 c6) (.nil)))))))
  ·cases h
 h4 _:=rfl
 h5 _:=rfl
def r1T:R1 Tol:=r1S tT
def sf1:List a7->Bool
 |[.v (.string _),x1,x2,x3,x4,.v (.int .i64 _),x6]=>Bool.and (Fe5 3 x1) (Bool.and (Fe5 1 x2) (Bool.and (Fe5 3 x3) (Bool.and (Fe5 1 x4) (Bool.and (Fe5 3 x6) (true)))))
 |_=>false
def cT:Cod Tol:=Af8 tT sf1
def bc9{ρ σ τ υ:Type}(a:R1 ρ)(c:R1 σ)(e:R1 τ)(f:R1 υ):RR (ρ×σ×τ×υ) where
 enc r:=.tup [a.enc r.1,c.enc r.2.1,e.enc r.2.2.1,f.enc r.2.2.2]
 rd r:=match r.1 with
  |.tup [x,y,z,o]=>Option.rec (motive:=λ_=>Option (ρ×σ×τ×υ)) none (λu=>Option.rec (motive:=λ_=>Option (ρ×σ×τ×υ)) none (λv=>Option.rec (motive:=λ_=>Option (ρ×σ×τ×υ)) none (λw=>Option.rec (motive:=λ_=>Option (ρ×σ×τ×υ)) none (λq=>some (u,v,w,q)) (f.rd r.2 o)) (e.rd r.2 z)) (c.rd r.2 y)) (a.rd r.2 x)
  |_=>none
 d:=(a.d,c.d,e.d,f.d)
 le q o r h:=by
  split at h
  ·rename_i x y z s e0
   simp only at e0
   subst e0;cases hu:a.rd o x with
   |none=>rw[hu] at h;cases h
   |some u =>
   cases hv:c.rd o y with
   |none=>rw[hu,hv] at h;cases h
   |some v =>
   cases hw:e.rd o z with
   |none=>rw[hu,hv,hw] at h;cases h
   |some w =>
   cases hs:f.rd o s with
   |none=>rw[hu,hv,hw,hs] at h;cases h
   |some t =>
   rw[hu,hv,hw,hs] at h;have h:some (u,v,w,t)=some r:=h;injection h with h;subst h;obtain⟨z1,H1,h1,d1,l1⟩:=a.le o x u hu;obtain⟨z2,H2,h2,d2,l2⟩:=c.le H1 y v (by rw[c.diss d1];exact hv)
   obtain⟨z3,H3,h3,d3,l3⟩:=e.le H2 z w (by rw[e.diss d2,e.diss d1];exact hw)
   obtain⟨z4,H4,h4,d4,l4⟩:=f.le H3 s t (by rw[f.diss d3,f.diss d2,f.diss d1];exact hs)
   refine⟨.tup [z1,z2,z3,z4],by simp only[Xb5,Ua7,h1,h2,h3,h4],ALe.tup rfl λk p q hp hq=>?_⟩
   match k,hp,hq with
   |0,hp,hq=>cases hp;cases hq;exact l1
   |1,hp,hq=>cases hp;cases hq;exact l2
   |2,hp,hq=>cases hp;cases hq;exact l3
   |3,hp,hq=>cases hp;cases hq;exact l4
  ·cases h
end Go.Ev.Ce
namespace Go.Proofs
open Go.Shelf
def Ce.trimP_ren:Go.Shelf.Ren:=⟨fun | 160=>66 | 232=>102 | 231=>101 | 227=>103 | 234=>105 | 233=>104 | 236=>107 | 235=>106 | 228=>135 | 271=>138 | 151=>137 | 197=>136 | 120=>165 | 152=>164 | 260=>163 | 137=>172 | 119=>173 | 224=>174 | 225=>175 | 217=>177 | 266=>178 | n=>n,fun | 9=>9 | 4=>4 | 3=>3 | 5=>5 | 117=>125 | 116=>124 | 0=>0 | 124=>128 | 21=>21 | 105=>151 | 46=>119 | 119=>174 | 139=>177 | 138=>176 | n=>n,fun | 3=>0 | 4=>1 | n=>n⟩
theorem Ce.trimP:Go.Proofs.Lays.n160 Tryz.prog Ce.trimP_ren:={
 mixed:=by kernel_rfl
 f119:=Tryz.func173.trans (congrArg some (by kernel_rfl))
 f120:=Tryz.func165.trans (congrArg some (by kernel_rfl))
 f137:=Tryz.func172.trans (congrArg some (by kernel_rfl))
 f151:=Tryz.func137.trans (congrArg some (by kernel_rfl))
 f152:=Tryz.func164.trans (congrArg some (by kernel_rfl))
 f160:=Tryz.func66.trans (congrArg some (by kernel_rfl))
 f197:=Tryz.func136.trans (congrArg some (by kernel_rfl))
 f217:=Tryz.func177.trans (congrArg some (by kernel_rfl))
 f224:=Tryz.func174.trans (congrArg some (by kernel_rfl))
 f225:=Tryz.func175.trans (congrArg some (by kernel_rfl))
 f227:=Tryz.func103.trans (congrArg some (by kernel_rfl))
 f228:=Tryz.func135.trans (congrArg some (by kernel_rfl))
 f231:=Tryz.func101.trans (congrArg some (by kernel_rfl))
 f232:=Tryz.func102.trans (congrArg some (by kernel_rfl))
 f233:=Tryz.func104.trans (congrArg some (by kernel_rfl))
 f234:=Tryz.func105.trans (congrArg some (by kernel_rfl))
 f235:=Tryz.func106.trans (congrArg some (by kernel_rfl))
 f236:=Tryz.func107.trans (congrArg some (by kernel_rfl))
 f260:=Tryz.func163.trans (congrArg some (by kernel_rfl))
 f266:=Tryz.func178.trans (congrArg some (by kernel_rfl))
 f271:=Tryz.func138.trans (congrArg some (by kernel_rfl))
 t0:=Tryz.underlying0
 a0:=Tryz.isAgg0
 z0:=Tryz.sizeOf0
 v0:=Tryz.zeroValue0
 t3:=Tryz.underlying3
 a3:=Tryz.isAgg3
 z3:=Tryz.sizeOf3
 v3:=Tryz.zeroValue3
 t4:=Tryz.underlying4
 a4:=Tryz.isAgg4
 z4:=Tryz.sizeOf4
 v4:=Tryz.zeroValue4
 t5:=Tryz.underlying5
 a5:=Tryz.isAgg5
 z5:=Tryz.sizeOf5
 v5:=Tryz.zeroValue5
 t9:=Tryz.underlying9
 a9:=Tryz.isAgg9
 z9:=Tryz.sizeOf9
 v9:=Tryz.zeroValue9
 t21:=Tryz.underlying21
 a21:=Tryz.isAgg21
 z21:=Tryz.sizeOf21
 v21:=Tryz.zeroValue21
 t46:=Tryz.underlying119
 a46:=Tryz.isAgg119
 z46:=Tryz.sizeOf119
 v46:=Tryz.zeroValue119
 t105:=Tryz.underlying151
 a105:=Tryz.isAgg151
 z105:=Tryz.sizeOf151
 v105:=Tryz.zeroValue151
 t116:=Tryz.underlying124
 a116:=Tryz.isAgg124
 z116:=Tryz.sizeOf124
 t117:=Tryz.underlying125
 a117:=Tryz.isAgg125
 z117:=Tryz.sizeOf125
 v117:=Tryz.zeroValue125
 t119:=Tryz.underlying174
 a119:=Tryz.isAgg174
 z119:=Tryz.sizeOf174
 t124:=Tryz.underlying128
 a124:=Tryz.isAgg128
 z124:=Tryz.sizeOf128
 v124:=Tryz.zeroValue128
 t138:=Tryz.underlying176
 a138:=Tryz.isAgg176
 z138:=Tryz.sizeOf176
 v138:=Tryz.zeroValue176
 t139:=Tryz.underlying177
 a139:=Tryz.isAgg177
 z139:=Tryz.sizeOf177
 v139:=Tryz.zeroValue177
 g3:=by kernel_rfl
 g4:=by kernel_rfl }
end Go.Proofs
namespace Go.Ev.Ce
open Go Go.Ev Go.Proofs
theorem qe5{w':World}(w:World)(A B:Obj)(q:Nat)(h:w'=((w.alloc A).alloc B).drewN q):w'.os=w.os/\w'.tape=w.tape/\w'.output=w.output/\w.heap.size<=w'.heap.size/\(∀k,k<w.heap.size->w'.heap[k]?=w.heap[k]?)/\w.drawn<=w'.drawn:=by
 have e:w'.heap=(w.heap.push A).push B:=by rw[h];rfl
 refine⟨by rw[h];rfl,by rw[h];rfl,by rw[h];rfl,?_,λk hk=>?_,?_⟩
 ·rw[e,Qje,Qje];omega
 ·rw[e,Qau,if_neg (by rw[Qje];omega),Qau,if_neg (by omega)]
 ·rw[h];exact Nat.le_add_right _ _
def ge5(s c:ByteArray):ByteArray:=⟨(Go.Lib.trimS s.data.toList c.data.toList).toArray⟩
def Od9(s c:ByteArray):Bool:=Bool.and (Bool.and (Nat.blt 0 s.size) (Nat.ble s.size 9223372036854775807)) (Bool.and (Bool.and (Nat.blt 1 c.size) (Nat.blt c.size 4294967281)) (c.data.toList.all λb=>decide (b.toNat<128)))
def tb6:Sum:=λargs blks=>match args,blks with
 |[.v (.string s),.v (.string c)],[]=>.guard (Od9 s c) (.ret (.v (.string (ge5 s c)),[]))
 |_,_=>.fail
theorem f160:Ce.trimP_ren.f 160=66:=by kernel_rfl
set_option maxRecDepth 100000 in
theorem Tc1:d9 prog G 66 tb6:=by
 intro args blks r out he W ρ F w args' hH hlen hargs hG;refine⟨⟨_,Tryz.func66,by kernel_rfl,of_decide_eq_true (by kernel_rfl)⟩,?_⟩
 unfold tb6 at he
 split at he
 case h_2=>cases he
 rename_i s c
 match args',hlen with
 |[v0,v1],_ =>
 have e0:=V8 (hargs 0 _ _ rfl rfl);have e1:=V8 (hargs 1 _ _ rfl rfl);subst e0 e1;obtain⟨hg,he⟩:=DT.run_guard_some he;unfold Od9 at hg;simp only[Qas] at hg;obtain⟨⟨g1,g2⟩,⟨g3,g4⟩,g5⟩:=hg;have he:some (a7.v (.string (ge5 s c)),([]:List b7))=some (r,out):=he;injection he with he;injection he with q1 q2;subst q1 q2
 have h116:(Tryz.prog.info? (Ce.trimP_ren.t 116)).map (λi=>(i.zero,i.size))=some (some (.agg (Array.replicate 256 (.bool false))),256):=by kernel_rfl
 have:=Any.strings_Trim_set Ce.trimP (zero_of_info h116).1 (zero_of_info h116).2 s c w (Qae g3) (Qae g1) (Qae g2) (Qae g4) (ascii_of_all g5)
 rw[f160] at this;refine this.mono λe w' ⟨h1,q,hb⟩=>?_
 subst h1;obtain⟨k1,k2,k3,hws,hold,k6⟩:=qe5 w _ _ q hb;have hcell:∀b o,F b o->w'.cell? ⟨b,o,none⟩=w.cell? ⟨b,o,none⟩:=λb o hf=>by
  have:=hold b (zb0 (hH.frz b o hf))
  simp[World.cell?,this]
 refine⟨_,rfl,ρ,F,⟨⟨k1,k2,k3,hws,λk hk _=>hold k hk,hcell,k6⟩,.refl,λ_ _ h=>h,λ_ _ h=>.inl h,λ_ b h hn=>absurd rfl (hn b h)⟩,?_,.ofv _⟩
 exact⟨λid b hb hd=>(hH.blk id b hb hd).elim λcc h=>h.elim λt h=>h.elim λfr hB=>⟨cc,t,fr,hB.keep (hold _ hB.lt) hcell⟩,hH.apart,λb o hf=>by rw[hcell b o hf];exact hH.frz b o hf,λk hk=>hH.new k (by omega)⟩
end Go.Ev.Ce
namespace Go.Ev.Ce
open Go Go.Ev Go.Ev.L Go.Proofs
set_option maxRecDepth 100000
def Ma9(x:V3)(y:Int):ROq:=(sl (decide ((if x.z>(if x.y>x.x then x.y else x.x) then x.z else (if x.y>x.x then x.y else x.x))>y)) (some (b true,[])) (some ((b (decide ((if x.z<(if x.y<x.x then x.y else x.x) then x.z else (if x.y<x.x then x.y else x.x))<(W (0-y))))),[])))
def Na0(x:V3)(y:Int):Bool:=O8 (one r1B) (Ma9 x y)
def Na1(x:V3)(y:Int):Bool:=okO (one r1B) (Ma9 x y)
def Fb1:Sum:=Ha5 (Za5 tV) cI (λx y=>.guard (Na1 x y) (.ret ((one r1B).enc (Na0 x y),[])))
theorem cc2:d9 prog G 71 Fb1:=Yb9 (bd b71 gb5) (one r1B) (o:=Ma9)
def O1(x:List V3):ROq:=(sl (decide ((↑(List.length x):Int)<4)) (some (b true,[])) (some (b (decide ((↑(List.length x):Int)>16)),[])))
def X8(x:List V3):Bool:=O8 (one r1B) (O1 x)
def X9(x:List V3):Bool:=okO (one r1B) (O1 x)
def Na2:Sum:=L6 (db5 tV) (λx=>.guard (X9 x) (.ret ((one r1B).enc (X8 x),[])))
theorem xb6:d9 prog G 67 Na2:=Ra7 (bd b67 gb5) (one r1B) (o:=O1)
def Fb2:List (Nat×Sum):=[(71,Fb1)]
theorem xb7:l6 prog G Fb2:=⟨cc2,trivial⟩
def P4(x:V3):ROq:=let t1:=(Na0 x 12);(sl (Na1 x 12) (some (b t1,[])) none)
def aa9(x:V3):Bool:=O8 (one r1B) (P4 x)
def ba0(x:V3):Bool:=okO (one r1B) (P4 x)
def Sa7:Sum:=L6 (Za5 tV) (λx=>.guard (ba0 x) (.ret ((one r1B).enc (aa9 x),[])))
theorem Fb3:d9 prog G 70 Sa7:=Ra7 (bd b70 xb7) (one r1B) (o:=P4)
def Fb4:List (Nat×Sum):=[(71,Fb1)]
theorem xb8:l6 prog G Fb4:=⟨cc2,trivial⟩
def P5(x:V3):ROq:=let t1:=(Na0 x 1000);(sl (Na1 x 1000) (some (b t1,[])) none)
def ba1(x:V3):Bool:=O8 (one r1B) (P5 x)
def ba2(x:V3):Bool:=okO (one r1B) (P5 x)
def Sa8:Sum:=L6 (Za5 tV) (λx=>.guard (ba2 x) (.ret ((one r1B).enc (ba1 x),[])))
theorem Fb5:d9 prog G 72 Sa8:=Ra7 (bd b72 xb8) (one r1B) (o:=P5)
def P6(x:Int):ROq:=(sl (decide (x<1)) (some (b true,[])) (some (b (decide (x>1048576)),[])))
def ba3(x:Int):Bool:=O8 (one r1B) (P6 x)
def ba4(x:Int):Bool:=okO (one r1B) (P6 x)
def Sa9:Sum:=L6 cI (λx=>.guard (ba4 x) (.ret ((one r1B).enc (ba3 x),[])))
theorem Fb6:d9 prog G 73 Sa9:=Ra7 (bd b73 gb5) (one r1B) (o:=P6)
def Lb7:List (Nat×Sum):=[(56,Wa0)]
theorem Fb7:l6 prog G Lb7:=⟨cb5,trivial⟩
def S7(x:List V3):ROq:=let t1:=(wa8 (rt tV x));(sl (okE tV x) (sl (wa9 (rt tV x)) (some (b (t1 != 0),[])) none) none)
def ea3(x:List V3):Bool:=O8 (one r1B) (S7 x)
def ea4(x:List V3):Bool:=okO (one r1B) (S7 x)
def Wa6:Sum:=L6 (db5 tV) (λx=>.guard (ea4 x) (.ret ((one r1B).enc (ea3 x),[])))
theorem Lb8:d9 prog G 76 Wa6:=Ra7 (bd b76 Fb7) (one r1B) (o:=S7)
structure ta5 where
 (fb3 fb4 fb5:Int)
 a8:List V3
def Fb8:List (Nat×Sum):=[(25,qc8)]
theorem xb9:l6 prog G Fb8:=⟨Oc7,trivial⟩
def ta7{α:Type}(kk:Db5->α)(x:ta5):α:=let y0:=(⟨x.fb3,x.fb4,x.fb5⟩:V3);let t1:=(bb4 (rt tV x.a8) y0);(sl (okE tV x.a8) (sl (bb5 (rt tV x.a8) y0) (kk ⟨1,!t1⟩) (kk ⟨0,false⟩)) (kk ⟨0,false⟩))
def ba5(x:ta5):Db5:=ta7 (λr=>r) x
def Na3(x:ta5)(r:Db5):DT (a7×List b7):=(xa6 r.alt 1 (b r.bs0,[bq 0 1 [[eL tV x.a8]]]) .fail)
def Ta0:Sum:=va9 ⟨[.agg (kLq 3),sPq 0],[⟨0,1,true,some [[.c 3 (nL tV)]]⟩],λa H=>(⟨cIq a 0 0,cIq a 0 1,cIq a 0 2,hLq tV H 0 0 0⟩,())⟩ (λx=>Na3 x (ba5 x))
theorem Fb9:d9 prog G 77 Ta0:=r5 (enc:=λx=>⟨[.agg [i x.fb3,i x.fb4,i x.fb5],.ptr 0 0 0 0],[bq 0 1 [[eL tV x.a8]]]⟩) (λa H=>by kernel_rfl) (bd b77 xb9) λx=>ha4 (mEq @ta7 (λr=>(Na3 x r).run) x)
def P7(x:Tol):ROq:=let y0:=(List.range (List.length x.inn));(sl (Nat.beq 2 2&&Nat.ble ((2+(len (m8 (λk=>(tLs tV).row (gL (tLs tV) x.inn k)) y0)))*24) room) (some ((.sl 0 0 (2+(len (m8 (λk=>(tLs tV).row (gL (tLs tV) x.inn k)) y0))) 0),[(bq 25 1 (app [[eL tV x.ou],[eL tV x.ho]] (m8 (λk=>(tLs tV).row (gL (tLs tV) x.inn k)) y0)))])) none)
def Z4(x:Tol):List (List V3):=O8 (one (r1L (tLs tV))) (P7 x)
def Z5(x:Tol):Bool:=okO (one (r1L (tLs tV))) (P7 x)
def oa5:Sum:=L6 cT (λx=>.guard (Z5 x) (.ret ((one (r1L (tLs tV))).enc (Z4 x),[])))
theorem Aa4:d9 prog G 69 oa5:=Ra7 (bd b69 gb5) (one (r1L (tLs tV))) (o:=P7)
def Ub8:List (Nat×Sum):=[(66,tb6)]
theorem Qb5:l6 prog G Ub8:=⟨Tc1,trivial⟩
def Z6(x:Tol):ROq:=(sl (decide ((↑(ByteArray.size x.nm):Int)>0)) (sl (decide ((↑(ByteArray.size x.nm):Int)<=12)) (sl (Od9 x.nm ⟨#[97,98,99,100,101,102,103,104,105,106,107,108,109,110,111,112,113,114,115,116,117,118,119,120,121,122,48,49,50,51,52,53,54,55,56,57]⟩) (some ((b (ByteArray.toList (ge5 x.nm ⟨#[97,98,99,100,101,102,103,104,105,106,107,108,109,110,111,112,113,114,115,116,117,118,119,120,121,122,48,49,50,51,52,53,54,55,56,57]⟩)==ByteArray.toList ⟨#[]⟩)),[])) none) (some (b false,[]))) (some (b false,[])))
def Z7(x:Tol):Bool:=O8 (one r1B) (Z6 x)
def oa6(x:Tol):Bool:=okO (one r1B) (Z6 x)
def eb6:Sum:=L6 cT (λx=>.guard (oa6 x) (.ret ((one r1B).enc (Z7 x),[])))
theorem Ub9:d9 prog G 34 eb6:=Ra7 (bd b34 Qb5) (one r1B) (o:=Z6)
structure pa6 where
 da4:List (List V3)
def Ja6:List (Nat×Sum):=[(67,Na2)]
theorem tb7:l6 prog G Ja6:=⟨xb6,trivial⟩
structure K2 where
 da4:List (List V3)
 is7:Int
def Ba2(p:K2)(s:m9):St:=⟨eL (tLs tV) p.da4::.fn 67 []::ra 5 (i p.is7::i s.is8::ra 10 []),[]⟩
def O5{α:Type}(k:m9->α)(e:Nat->α)(z:α)(p:K2)(s:m9):α:=let y0:=(gL (tLs tV) p.da4 s.is8.toNat);let t1:=(X8 (rt tV y0));(sl (decide (s.is8<p.is7)) (sl (inB s.is8 (List.length p.da4)) (sl (okE tV y0) (sl (X9 (rt tV y0)) (sl t1 (e 1) (k ⟨W (s.is8+1)⟩)) z) z) z) (e 2))
def I8(p:K2)(s:m9):Stp m9:=O5 .next .exit .fail p s
def ia8:Lo K2 m9:=⟨En Ja6,0,ze6,[1,0,1,4,4],[0,1,7,8],.p,[⟨.s (.c 1 (nL (tLs tV)))::.s (.o (.fn 67))::ru2 5 (sIq::sIq::ru2 10 []),[],λa H=>(⟨aLq (tLs tV) a 0,aIq a 7⟩,⟨aIq a 8⟩)⟩],I8,[(none,λp s=>⟨[i s.is8],[]⟩),(some 0,λp s=>upq (Ba2 p s) [(9,b (decide (s.is8<p.is7)))])],Ba2⟩
theorem nb5:ia8.Ok:=Qjh [] .nil λp s=>(.ofq @O5)
def pa8{α:Type}(kk:ra7->α)(x:pa6):α:=let t1:=(lp (I8 (⟨rt (tLs tV) x.da4,(↑(List.length x.da4):Int)⟩:K2)) (⟨0⟩:m9));(sl ((cnE (tLs tV) x.da4)&&true) (sl (Nat.beq t1.1 1) (kk ⟨1,t1.2.is8⟩) (sl (Nat.beq t1.1 2) (kk ⟨1,-1⟩) (kk ⟨0,0⟩))) (kk ⟨0,0⟩))
def Y1(x:pa6):ra7:=pa8 (λr=>r) x
def Ja7(x:pa6)(r:ra7):DT (a7×List b7):=(xa6 r.alt 1 (i r.is0,[]) .fail)
def Na4:Sum:=va9 ⟨[.s (.c 1 (nL (tLs tV))),.s (.o (.fn 67))],[],λa H=>(⟨aLq (tLs tV) a 0⟩,())⟩ (λx=>Ja7 x (Y1 x))
theorem yb0:d9 prog G 108 Na4:=r5 (enc:=λx=>⟨[eL (tLs tV) x.da4,.fn 67 []],[]⟩) (λa H=>by kernel_rfl) (bd pf7 tb7) λx=>ha5 (.s .p (.s (.s .p (.b (.u ia8.ls))) .p)) [ia8.pr] (.cons nb5 .nil) (mEq @pa8 (λr=>(Ja7 x r).run) x)
def jb4:List (Nat×Sum):=[(108,Na4)]
theorem eb7:l6 prog G jb4:=⟨yb0,trivial⟩
def ea7{α:Type}(kk:Db5->α)(x:pa6):α:=let t1:=(Y1 ⟨rt (tLs tV) x.da4⟩);(sl ((cnE (tLs tV) x.da4)&&true) (sl (Nat.beq t1.alt 1) (kk ⟨1,decide (t1.is0>=0)⟩) (kk ⟨0,false⟩)) (kk ⟨0,false⟩))
def Q7(x:pa6):Db5:=ea7 (λr=>r) x
def ya9(x:pa6)(r:Db5):DT (a7×List b7):=(xa6 r.alt 1 (b r.bs0,[]) .fail)
def Ba3:Sum:=va9 ⟨[.s (.c 1 (nL (tLs tV))),.s (.o (.fn 67))],[],λa H=>(⟨aLq (tLs tV) a 0⟩,())⟩ (λx=>ya9 x (Q7 x))
theorem jb5:d9 prog G 68 Ba3:=r5 (enc:=λx=>⟨[eL (tLs tV) x.da4,.fn 67 []],[]⟩) (λa H=>by kernel_rfl) (bd b68 eb7) λx=>ha4 (mEq @ea7 (λr=>(ya9 x r).run) x)
def Lb9:List (Nat×Sum):=[(69,oa5),(68,Ba3)]
theorem Gb0:l6 prog G Lb9:=⟨Aa4,jb5,trivial⟩
def S8(x:Tol):ROq:=let y1:=(↑(List.length x.inn):Int);let y0:=(⟨x.nm,rt tV x.ou,rt (tLs tV) x.inn,rt tV x.ho,rt tI x.li,x.ru,rt tV x.fo⟩:Tol);let t1:=(Z4 y0);let t2:=(Q7 ⟨rt (tLs tV) t1⟩);(sl (decide (y1>0)) (sl (decide (y1<=3)) (sl ((↑(List.length x.li):Int)==y1) (sl (decide ((↑(List.length x.fo):Int)>0)) (sl (decide ((↑(List.length x.fo):Int)<=4)) (sl ((okE tV x.ou)&&((okE (tLs tV) x.inn)&&((okE tV x.ho)&&((okE tI x.li)&&((okE tV x.fo)&&true))))) (sl (Z5 y0) (sl ((cnE (tLs tV) t1)&&true) (sl (Nat.beq t2.alt 1) (some (b (!t2.bs0),[])) none) none) none) none) (some (b false,[]))) (some (b false,[]))) (some (b false,[]))) (some (b false,[]))) (some (b false,[])))
def S9(x:Tol):Bool:=O8 (one r1B) (S8 x)
def ea8(x:Tol):Bool:=okO (one r1B) (S8 x)
def Wa7:Sum:=L6 cT (λx=>.guard (ea8 x) (.ret ((one r1B).enc (S9 x),[])))
theorem Mb0:d9 prog G 35 Wa7:=Ra7 (bd b35 Gb0) (one r1B) (o:=S8)
def Na5:List (Nat×Sum):=[(70,Sa7)]
theorem yb1:l6 prog G Na5:=⟨Fb3,trivial⟩
def Fa3(p:L9)(s:m9):St:=⟨eL tV p.f8::.fn 70 []::ra 5 (i p.is7::i s.is8::ra 10 []),[]⟩
def Q8{α:Type}(k:m9->α)(e:Nat->α)(z:α)(p:L9)(s:m9):α:=let t1:=(aa9 (gL tV p.f8 s.is8.toNat));(sl (decide (s.is8<p.is7)) (sl (inB s.is8 (List.length p.f8)) (sl (ba0 (gL tV p.f8 s.is8.toNat)) (sl t1 (e 1) (k ⟨W (s.is8+1)⟩)) z) z) (e 2))
def K3(p:L9)(s:m9):Stp m9:=Q8 .next .exit .fail p s
def ma1:Lo L9 m9:=⟨En Na5,0,Nc8,[1,0,1,4,4],[0,1,7,8],.p,[⟨sLq tV::.s (.o (.fn 70))::ru2 5 (sIq::sIq::ru2 10 []),[],λa H=>(⟨aLq tV a 0,aIq a 7⟩,⟨aIq a 8⟩)⟩],K3,[(none,λp s=>⟨[i s.is8],[]⟩),(some 0,λp s=>upq (Fa3 p s) [(9,b (decide (s.is8<p.is7)))])],Fa3⟩
theorem tb8:ma1.Ok:=Qjh [] .nil λp s=>(.ofq @Q8)
def ua0{α:Type}(kk:ra7->α)(x:sa4):α:=let t1:=(lp (K3 (⟨rt tV x.f8,(↑(List.length x.f8):Int)⟩:L9)) (⟨0⟩:m9));(sl ((cnE tV x.f8)&&true) (sl (Nat.beq t1.1 1) (kk ⟨1,t1.2.is8⟩) (sl (Nat.beq t1.1 2) (kk ⟨1,-1⟩) (kk ⟨0,0⟩))) (kk ⟨0,0⟩))
def ba6(x:sa4):ra7:=ua0 (λr=>r) x
def Na6(x:sa4)(r:ra7):DT (a7×List b7):=(xa6 r.alt 1 (i r.is0,[]) .fail)
def Ta1:Sum:=va9 ⟨[sLq tV,.s (.o (.fn 70))],[],λa H=>(⟨aLq tV a 0⟩,())⟩ (λx=>Na6 x (ba6 x))
theorem Gb1:d9 prog G 109 Ta1:=r5 (enc:=λx=>⟨[eL tV x.f8,.fn 70 []],[]⟩) (λa H=>by kernel_rfl) (bd Wd8 yb1) λx=>ha5 (.s .p (.s (.s .p (.b (.u ma1.ls))) .p)) [ma1.pr] (.cons tb8 .nil) (mEq @ua0 (λr=>(Na6 x r).run) x)
def nb6:List (Nat×Sum):=[(109,Ta1)]
theorem jb6:l6 prog G nb6:=⟨Gb1,trivial⟩
def ja1{α:Type}(kk:Db5->α)(x:sa4):α:=let t1:=(ba6 ⟨rt tV x.f8⟩);(sl ((cnE tV x.f8)&&true) (sl (Nat.beq t1.alt 1) (kk ⟨1,decide (t1.is0>=0)⟩) (kk ⟨0,false⟩)) (kk ⟨0,false⟩))
def T0(x:sa4):Db5:=ja1 (λr=>r) x
def Ba4(x:sa4)(r:Db5):DT (a7×List b7):=(xa6 r.alt 1 (b r.bs0,[]) .fail)
def Fa4:Sum:=va9 ⟨[sLq tV,.s (.o (.fn 70))],[],λa H=>(⟨aLq tV a 0⟩,())⟩ (λx=>Ba4 x (T0 x))
theorem nb7:d9 prog G 74 Fa4:=r5 (enc:=λx=>⟨[eL tV x.f8,.fn 70 []],[]⟩) (λa H=>by kernel_rfl) (bd b74 jb6) λx=>ha4 (mEq @ja1 (λr=>(Ba4 x r).run) x)
def Na7:List (Nat×Sum):=[(72,Sa8)]
theorem yb2:l6 prog G Na7:=⟨Fb5,trivial⟩
def Fa5(p:L9)(s:m9):St:=⟨eL tV p.f8::.fn 72 []::ra 5 (i p.is7::i s.is8::ra 10 []),[]⟩
def Q9{α:Type}(k:m9->α)(e:Nat->α)(z:α)(p:L9)(s:m9):α:=let t1:=(ba1 (gL tV p.f8 s.is8.toNat));(sl (decide (s.is8<p.is7)) (sl (inB s.is8 (List.length p.f8)) (sl (ba2 (gL tV p.f8 s.is8.toNat)) (sl t1 (e 1) (k ⟨W (s.is8+1)⟩)) z) z) (e 2))
def K4(p:L9)(s:m9):Stp m9:=Q9 .next .exit .fail p s
def ma2:Lo L9 m9:=⟨En Na7,0,Nc8,[1,0,1,4,4],[0,1,7,8],.p,[⟨sLq tV::.s (.o (.fn 72))::ru2 5 (sIq::sIq::ru2 10 []),[],λa H=>(⟨aLq tV a 0,aIq a 7⟩,⟨aIq a 8⟩)⟩],K4,[(none,λp s=>⟨[i s.is8],[]⟩),(some 0,λp s=>upq (Fa5 p s) [(9,b (decide (s.is8<p.is7)))])],Fa5⟩
theorem tb9:ma2.Ok:=Qjh [] .nil λp s=>(.ofq @Q9)
def ua3{α:Type}(kk:ra7->α)(x:sa4):α:=let t1:=(lp (K4 (⟨rt tV x.f8,(↑(List.length x.f8):Int)⟩:L9)) (⟨0⟩:m9));(sl ((cnE tV x.f8)&&true) (sl (Nat.beq t1.1 1) (kk ⟨1,t1.2.is8⟩) (sl (Nat.beq t1.1 2) (kk ⟨1,-1⟩) (kk ⟨0,0⟩))) (kk ⟨0,0⟩))
def ba7(x:sa4):ra7:=ua3 (λr=>r) x
def Na8(x:sa4)(r:ra7):DT (a7×List b7):=(xa6 r.alt 1 (i r.is0,[]) .fail)
def Ta2:Sum:=va9 ⟨[sLq tV,.s (.o (.fn 72))],[],λa H=>(⟨aLq tV a 0⟩,())⟩ (λx=>Na8 x (ba7 x))
theorem Gb2:d9 prog G 109 Ta2:=r5 (enc:=λx=>⟨[eL tV x.f8,.fn 72 []],[]⟩) (λa H=>by kernel_rfl) (bd Wd8 yb2) λx=>ha5 (.s .p (.s (.s .p (.b (.u ma2.ls))) .p)) [ma2.pr] (.cons tb9 .nil) (mEq @ua3 (λr=>(Na8 x r).run) x)
def nb8:List (Nat×Sum):=[(109,Ta2)]
theorem jb7:l6 prog G nb8:=⟨Gb2,trivial⟩
def ja4{α:Type}(kk:Db5->α)(x:sa4):α:=let t1:=(ba7 ⟨rt tV x.f8⟩);(sl ((cnE tV x.f8)&&true) (sl (Nat.beq t1.alt 1) (kk ⟨1,decide (t1.is0>=0)⟩) (kk ⟨0,false⟩)) (kk ⟨0,false⟩))
def T1(x:sa4):Db5:=ja4 (λr=>r) x
def Ba5(x:sa4)(r:Db5):DT (a7×List b7):=(xa6 r.alt 1 (b r.bs0,[]) .fail)
def Fa6:Sum:=va9 ⟨[sLq tV,.s (.o (.fn 72))],[],λa H=>(⟨aLq tV a 0⟩,())⟩ (λx=>Ba5 x (T1 x))
theorem nb9:d9 prog G 74 Fa6:=r5 (enc:=λx=>⟨[eL tV x.f8,.fn 72 []],[]⟩) (λa H=>by kernel_rfl) (bd b74 jb7) λx=>ha4 (mEq @ja4 (λr=>(Ba5 x r).run) x)
def Fa7:Sum:=ue4 (λl=>match l with | [_,.fn n _]=>Nat.beq n 70 | _=>false) Fa4 Fa6
theorem ob0:d9 prog G 74 Fa7:=yd5 nb7 nb9
structure ua4 where
 Ga8:List Int
def Na9:List (Nat×Sum):=[(73,Sa9)]
theorem yb3:l6 prog G Na9:=⟨Fb6,trivial⟩
structure M4 where
 Ga8:List Int
 is7:Int
def Fa8(p:M4)(s:m9):St:=⟨eL tI p.Ga8::.fn 73 []::ra 5 (i p.is7::i s.is8::ra 10 []),[]⟩
def R2{α:Type}(k:m9->α)(e:Nat->α)(z:α)(p:M4)(s:m9):α:=let t1:=(ba3 (gL tI p.Ga8 s.is8.toNat));(sl (decide (s.is8<p.is7)) (sl (inB s.is8 (List.length p.Ga8)) (sl (ba4 (gL tI p.Ga8 s.is8.toNat)) (sl t1 (e 1) (k ⟨W (s.is8+1)⟩)) z) z) (e 2))
def K5(p:M4)(s:m9):Stp m9:=R2 .next .exit .fail p s
def ma3:Lo M4 m9:=⟨En Na9,0,ef2,[1,0,1,4,4],[0,1,7,8],.p,[⟨sLq tI::.s (.o (.fn 73))::ru2 5 (sIq::sIq::ru2 10 []),[],λa H=>(⟨aLq tI a 0,aIq a 7⟩,⟨aIq a 8⟩)⟩],K5,[(none,λp s=>⟨[i s.is8],[]⟩),(some 0,λp s=>upq (Fa8 p s) [(9,b (decide (s.is8<p.is7)))])],Fa8⟩
theorem ub0:ma3.Ok:=Qjh [] .nil λp s=>(.ofq @R2)
def ua6{α:Type}(kk:ra7->α)(x:ua4):α:=let t1:=(lp (K5 (⟨rt tI x.Ga8,(↑(List.length x.Ga8):Int)⟩:M4)) (⟨0⟩:m9));(sl ((cnE tI x.Ga8)&&true) (sl (Nat.beq t1.1 1) (kk ⟨1,t1.2.is8⟩) (sl (Nat.beq t1.1 2) (kk ⟨1,-1⟩) (kk ⟨0,0⟩))) (kk ⟨0,0⟩))
def ba8(x:ua4):ra7:=ua6 (λr=>r) x
def Oa0(x:ua4)(r:ra7):DT (a7×List b7):=(xa6 r.alt 1 (i r.is0,[]) .fail)
def Ta3:Sum:=va9 ⟨[sLq tI,.s (.o (.fn 73))],[],λa H=>(⟨aLq tI a 0⟩,())⟩ (λx=>Oa0 x (ba8 x))
theorem Gb3:d9 prog G 45 Ta3:=r5 (enc:=λx=>⟨[eL tI x.Ga8,.fn 73 []],[]⟩) (λa H=>by kernel_rfl) (bd b45 yb3) λx=>ha5 (.s .p (.s (.s .p (.b (.u ma3.ls))) .p)) [ma3.pr] (.cons ub0 .nil) (mEq @ua6 (λr=>(Oa0 x r).run) x)
def ob1:List (Nat×Sum):=[(45,Ta3)]
theorem jb8:l6 prog G ob1:=⟨Gb3,trivial⟩
def ja7{α:Type}(kk:Db5->α)(x:ua4):α:=let t1:=(ba8 ⟨rt tI x.Ga8⟩);(sl ((cnE tI x.Ga8)&&true) (sl (Nat.beq t1.alt 1) (kk ⟨1,decide (t1.is0>=0)⟩) (kk ⟨0,false⟩)) (kk ⟨0,false⟩))
def T2(x:ua4):Db5:=ja7 (λr=>r) x
def Ba6(x:ua4)(r:Db5):DT (a7×List b7):=(xa6 r.alt 1 (b r.bs0,[]) .fail)
def Fa9:Sum:=va9 ⟨[sLq tI,.s (.o (.fn 73))],[],λa H=>(⟨aLq tI a 0⟩,())⟩ (λx=>Ba6 x (T2 x))
theorem ob2:d9 prog G 75 Fa9:=r5 (enc:=λx=>⟨[eL tI x.Ga8,.fn 73 []],[]⟩) (λa H=>by kernel_rfl) (bd b75 jb8) λx=>ha4 (mEq @ja7 (λr=>(Ba6 x r).run) x)
def Wa8:List (Nat×Sum):=[(69,oa5),(74,Fa7),(75,Fa9)]
theorem Mb1:l6 prog G Wa8:=⟨Aa4,ob0,ob2,trivial⟩
structure D6 where
 Ed0:List (List V3)
 C8:Int
 db2:ByteArray
 za7:List V3
 M9:List (List V3)
 za8:List V3
 J5:List Int
 db3:Int
 za9:List V3
structure B4 where
 re7:Int
def Oa1(p:D6)(s:B4):St:=⟨.unk::.ptr 0 0 0 0::.unk::.fn 70 []::.fn 72 []::.fn 73 []::ra 3 (eL (tLs tV) p.Ed0::i p.C8::i s.re7::ra 33 []),[bq 0 7 [[.v (.string p.db2),eL tV p.za7,eL (tLs tV) p.M9,eL tV p.za8,eL tI p.J5,i p.db3,eL tV p.za9]]]⟩
def V6{α:Type}(k:B4->α)(e:Nat->α)(z:α)(p:D6)(s:B4):α:=let y0:=(gL (tLs tV) p.Ed0 s.re7.toNat);let t1:=(T0 ⟨rt tV y0⟩);(sl (decide (s.re7<p.C8)) (sl (inB s.re7 (List.length p.Ed0)) (sl ((cnE tV y0)&&true) (sl (Nat.beq t1.alt 1) (sl t1.bs0 (e 1) (k ⟨W (s.re7+1)⟩)) z) z) z) (e 2))
def F8(p:D6)(s:B4):Stp B4:=V6 .next .exit .fail p s
def ua7:Lo D6 B4:=⟨En Wa8,0,nf7,[1,1,1,1,0,1,4,4],[1,3,4,5,9,10,11],.p,[⟨sUq::sPq 0::sUq::.s (.o (.fn 70))::.s (.o (.fn 72))::.s (.o (.fn 73))::ru2 3 (.s (.c 1 (nL (tLs tV)))::sIq::sIq::ru2 33 []),[⟨0,7,true,some [[.o .val,.c 3 (nL tV),.c 1 (nL (tLs tV)),.c 3 (nL tV),.c 1 (nL tI),.o (.int .i64),.c 3 (nL tV)]]⟩],λa H=>(⟨aLq (tLs tV) a 9,aIq a 10,Y8 (slT (rwT (elT H 0) 0) 0),hLq tV H 0 0 1,hLq (tLs tV) H 0 0 2,hLq tV H 0 0 3,hLq tI H 0 0 4,hIq H 0 0 5,hLq tV H 0 0 6⟩,⟨aIq a 11⟩)⟩],F8,[(none,λp s=>⟨[b false],[]⟩),(some 0,λp s=>upq (Oa1 p s) [(12,b (decide (s.re7<p.C8)))])],Oa1⟩
theorem Gb4:ua7.Ok:=Qjh [] .nil λp s=>(.ofq @V6)
def W0(x:Tol):ROq:=let y0:=(⟨x.nm,rt tV x.ou,rt (tLs tV) x.inn,rt tV x.ho,rt tI x.li,x.ru,rt tV x.fo⟩:Tol);let t1:=(Z4 y0);let t2:=(lp (F8 (⟨rt (tLs tV) t1,(↑(List.length t1):Int),x.nm,rt tV x.ou,rt (tLs tV) x.inn,rt tV x.ho,rt tI x.li,x.ru,rt tV x.fo⟩:D6)) (⟨0⟩:B4));let t3:=(T2 ⟨rt tI (rt tI x.li)⟩);let t4:=(T1 ⟨rt tV (rt tV x.fo)⟩);(sl ((okE tV x.ou)&&((okE (tLs tV) x.inn)&&((okE tV x.ho)&&((okE tI x.li)&&((okE tV x.fo)&&true))))) (sl (Z5 y0) (sl ((cnE (tLs tV) t1)&&((cnE tV x.ou)&&((cnE (tLs tV) x.inn)&&((cnE tV x.ho)&&((cnE tI x.li)&&((cnE tV x.fo)&&true)))))) (sl (Nat.beq t2.1 1) (some (b false,[])) (sl (Nat.beq t2.1 2) (sl ((cnE tI (rt tI x.li))&&true) (sl (Nat.beq t3.alt 1) (sl (!t3.bs0) (sl (decide (x.ru>=0)) (sl (decide (x.ru<=2)) (sl ((cnE tV (rt tV x.fo))&&true) (sl (Nat.beq t4.alt 1) (some (b (!t4.bs0),[])) none) none) (some (b false,[]))) (some (b false,[]))) (some (b false,[]))) none) none) none)) none) none) none)
def W4(x:Tol):Bool:=O8 (one r1B) (W0 x)
def ka5(x:Tol):Bool:=okO (one r1B) (W0 x)
def Ya7:Sum:=L6 cT (λx=>.guard (ka5 x) (.ret ((one r1B).enc (W4 x),[])))
theorem Qb6:d9 prog G 36 Ya7:=Ec5 (bd b36 Mb1) (one r1B) (o:=W0) λx=>ha5 (.s .p (.s .p (.s .p (.s .p (.s (.s .p (.b (.u ua7.ls))) .p))))) [ua7.pr] (.cons Gb4 .nil)
def Ja8:List (Nat×Sum):=[(76,Wa6)]
theorem ub1:l6 prog G Ja8:=⟨Lb8,trivial⟩
def Ba7(p:K2)(s:m9):St:=⟨eL (tLs tV) p.da4::.fn 76 []::ra 5 (i p.is7::i s.is8::ra 10 []),[]⟩
def O6{α:Type}(k:m9->α)(e:Nat->α)(z:α)(p:K2)(s:m9):α:=let y0:=(gL (tLs tV) p.da4 s.is8.toNat);let t1:=(ea3 (rt tV y0));(sl (decide (s.is8<p.is7)) (sl (inB s.is8 (List.length p.da4)) (sl (okE tV y0) (sl (ea4 (rt tV y0)) (sl t1 (e 1) (k ⟨W (s.is8+1)⟩)) z) z) z) (e 2))
def I9(p:K2)(s:m9):Stp m9:=O6 .next .exit .fail p s
def ja8:Lo K2 m9:=⟨En Ja8,0,ze6,[1,0,1,4,4],[0,1,7,8],.p,[⟨.s (.c 1 (nL (tLs tV)))::.s (.o (.fn 76))::ru2 5 (sIq::sIq::ru2 10 []),[],λa H=>(⟨aLq (tLs tV) a 0,aIq a 7⟩,⟨aIq a 8⟩)⟩],I9,[(none,λp s=>⟨[i s.is8],[]⟩),(some 0,λp s=>upq (Ba7 p s) [(9,b (decide (s.is8<p.is7)))])],Ba7⟩
theorem ob3:ja8.Ok:=Qjh [] .nil λp s=>(.ofq @O6)
def qa1{α:Type}(kk:ra7->α)(x:pa6):α:=let t1:=(lp (I9 (⟨rt (tLs tV) x.da4,(↑(List.length x.da4):Int)⟩:K2)) (⟨0⟩:m9));(sl ((cnE (tLs tV) x.da4)&&true) (sl (Nat.beq t1.1 1) (kk ⟨1,t1.2.is8⟩) (sl (Nat.beq t1.1 2) (kk ⟨1,-1⟩) (kk ⟨0,0⟩))) (kk ⟨0,0⟩))
def Y2(x:pa6):ra7:=qa1 (λr=>r) x
def Ja9(x:pa6)(r:ra7):DT (a7×List b7):=(xa6 r.alt 1 (i r.is0,[]) .fail)
def Oa2:Sum:=va9 ⟨[.s (.c 1 (nL (tLs tV))),.s (.o (.fn 76))],[],λa H=>(⟨aLq (tLs tV) a 0⟩,())⟩ (λx=>Ja9 x (Y2 x))
theorem yb4:d9 prog G 108 Oa2:=r5 (enc:=λx=>⟨[eL (tLs tV) x.da4,.fn 76 []],[]⟩) (λa H=>by kernel_rfl) (bd pf7 ub1) λx=>ha5 (.s .p (.s (.s .p (.b (.u ja8.ls))) .p)) [ja8.pr] (.cons ob3 .nil) (mEq @qa1 (λr=>(Ja9 x r).run) x)
def jb9:List (Nat×Sum):=[(108,Oa2)]
theorem eb8:l6 prog G jb9:=⟨yb4,trivial⟩
def fa1{α:Type}(kk:Db5->α)(x:pa6):α:=let t1:=(Y2 ⟨rt (tLs tV) x.da4⟩);(sl ((cnE (tLs tV) x.da4)&&true) (sl (Nat.beq t1.alt 1) (kk ⟨1,decide (t1.is0>=0)⟩) (kk ⟨0,false⟩)) (kk ⟨0,false⟩))
def R3(x:pa6):Db5:=fa1 (λr=>r) x
def za0(x:pa6)(r:Db5):DT (a7×List b7):=(xa6 r.alt 1 (b r.bs0,[]) .fail)
def Ba8:Sum:=va9 ⟨[.s (.c 1 (nL (tLs tV))),.s (.o (.fn 76))],[],λa H=>(⟨aLq (tLs tV) a 0⟩,())⟩ (λx=>za0 x (R3 x))
theorem kb0:d9 prog G 68 Ba8:=r5 (enc:=λx=>⟨[eL (tLs tV) x.da4,.fn 76 []],[]⟩) (λa H=>by kernel_rfl) (bd b68 eb8) λx=>ha4 (mEq @fa1 (λr=>(za0 x r).run) x)
def Vb0:List (Nat×Sum):=[(69,oa5),(68,Ba8)]
theorem Qb7:l6 prog G Vb0:=⟨Aa4,kb0,trivial⟩
def Z8(x:Tol):ROq:=let y0:=(⟨x.nm,rt tV x.ou,rt (tLs tV) x.inn,rt tV x.ho,rt tI x.li,x.ru,rt tV x.fo⟩:Tol);let t1:=(Z4 y0);let t2:=(R3 ⟨rt (tLs tV) t1⟩);(sl ((okE tV x.ou)&&((okE (tLs tV) x.inn)&&((okE tV x.ho)&&((okE tI x.li)&&((okE tV x.fo)&&true))))) (sl (Z5 y0) (sl ((cnE (tLs tV) t1)&&true) (sl (Nat.beq t2.alt 1) (some (b (!t2.bs0),[])) none) none) none) none)
def Z9(x:Tol):Bool:=O8 (one r1B) (Z8 x)
def oa7(x:Tol):Bool:=okO (one r1B) (Z8 x)
def eb9:Sum:=L6 cT (λx=>.guard (oa7 x) (.ret ((one r1B).enc (Z9 x),[])))
theorem Vb1:d9 prog G 37 eb9:=Ra7 (bd b37 Qb7) (one r1B) (o:=Z8)
structure O2 where
 is8:Int
 db2:ByteArray
 za7:List V3
 M9:List (List V3)
 za8:List V3
 J5:List Int
 db3:Int
 za9:List V3
def Ka0(p:O2)(s:L3):St:=⟨.unk::.ptr 0 0 0 0::ra 6 (i p.is8::i s.is9::ra 17 []),[bq 0 7 [[.v (.string p.db2),eL tV p.za7,eL (tLs tV) p.M9,eL tV p.za8,eL tI p.J5,i p.db3,eL tV p.za9]]]⟩
def T3{α:Type}(k:L3->α)(e:Nat->α)(z:α)(p:O2)(s:L3):α:=(sl (decide (s.is9<p.is8)) (sl (inB s.is9 (List.length p.J5)) (sl (inB (W (s.is9+1)) (List.length p.J5)) (sl (decide ((gL tI p.J5 s.is9.toNat)>=(gL tI p.J5 (W (s.is9+1)).toNat))) (e 1) (k ⟨W (s.is9+1)⟩)) z) z) (e 2))
def E3(p:O2)(s:L3):Stp L3:=T3 .next .exit .fail p s
def qa2:Lo O2 L3:=⟨En tbN,0,nf8,[1,0,1,4,4],[1,8,9],.p,[⟨sUq::sPq 0::ru2 6 (sIq::sIq::ru2 17 []),[⟨0,7,true,some [[.o .val,.c 3 (nL tV),.c 1 (nL (tLs tV)),.c 3 (nL tV),.c 1 (nL tI),.o (.int .i64),.c 3 (nL tV)]]⟩],λa H=>(⟨aIq a 8,Y8 (slT (rwT (elT H 0) 0) 0),hLq tV H 0 0 1,hLq (tLs tV) H 0 0 2,hLq tV H 0 0 3,hLq tI H 0 0 4,hIq H 0 0 5,hLq tV H 0 0 6⟩,⟨aIq a 9⟩)⟩],E3,[(none,λp s=>⟨[b false],[]⟩),(some 0,λp s=>upq (Ka0 p s) [(10,b (decide (s.is9<p.is8)))])],Ka0⟩
theorem yb5:qa2.Ok:=Qjh [] .nil λp s=>(.ofq @T3)
def T4(x:Tol):ROq:=let t1:=(lp (E3 (⟨(↑((List.length x.li)-1):Int),x.nm,rt tV x.ou,rt (tLs tV) x.inn,rt tV x.ho,rt tI x.li,x.ru,rt tV x.fo⟩:O2)) (⟨0⟩:L3));(sl (inB 1 ((List.length x.li)+1)) (sl ((cnE tV x.ou)&&((cnE (tLs tV) x.inn)&&((cnE tV x.ho)&&((cnE tI x.li)&&((cnE tV x.fo)&&true))))) (sl (Nat.beq t1.1 1) (some (b false,[])) (sl (Nat.beq t1.1 2) (some (b true,[])) none)) none) none)
def T5(x:Tol):Bool:=O8 (one r1B) (T4 x)
def fa2(x:Tol):Bool:=okO (one r1B) (T4 x)
def Wa9:Sum:=L6 cT (λx=>.guard (fa2 x) (.ret ((one r1B).enc (T5 x),[])))
theorem Mb2:d9 prog G 38 Wa9:=Ec5 (bd b38 gb5) (one r1B) (o:=T4) λx=>ha5 (.s .p (.s (.s .p (.b (.u qa2.ls))) .p)) [qa2.pr] (.cons yb5 .nil)
structure ua8 where
 (f8 a8:List V3)
def Oa3:List (Nat×Sum):=[(77,Ta0)]
theorem yb6:l6 prog G Oa3:=⟨Fb9,trivial⟩
structure q9 where
 is8:Int
 a8:List V3
def Ga0(p:L9)(s:q9):St:=⟨eL tV p.f8::.fn 77 [.ptr 0 0 0 0]::ra 5 (i p.is7::i s.is8::ra 10 []),[bq 0 1 [[eL tV s.a8]]]⟩
def R4{α:Type}(k:q9->α)(e:Nat->α)(z:α)(p:L9)(s:q9):α:=let y0:=(gL tV p.f8 s.is8.toNat);let t1:=(ba5 ⟨y0.x,y0.y,y0.z,rt tV s.a8⟩);(sl (decide (s.is8<p.is7)) (sl (inB s.is8 (List.length p.f8)) (sl ((cnE tV s.a8)&&true) (sl (Nat.beq t1.alt 1) (sl t1.bs0 (e 1) (k ⟨W (s.is8+1),rt tV s.a8⟩)) z) z) z) (e 2))
def D7(p:L9)(s:q9):Stp q9:=R4 .next .exit .fail p s
def ma4:Lo L9 q9:=⟨En Oa3,1,Nc8,[1,0,1,4,4],[0,1,7,8],.p,[⟨sLq tV::.fn 77 [.o (.ptr 0 0 0 0)]::ru2 5 (sIq::sIq::ru2 10 []),[⟨0,1,true,some [[.c 3 (nL tV)]]⟩],λa H=>(⟨aLq tV a 0,aIq a 7⟩,⟨aIq a 8,hLq tV H 0 0 0⟩)⟩],D7,[(none,λp s=>⟨[i s.is8],[bq 0 1 [[eL tV (rt tV s.a8)]]]⟩),(some 0,λp s=>upq (Ga0 p s) [(9,b (decide (s.is8<p.is7)))])],Ga0⟩
theorem ub2:ma4.Ok:=Qjh [] .nil λp s=>(.ofq @R4)
structure ua9 where
 alt:Nat
 is0:Int
 a8:List V3
def va0{α:Type}(kk:ua9->α)(x:ua8):α:=let t1:=(lp (D7 (⟨rt tV x.f8,(↑(List.length x.f8):Int)⟩:L9)) (⟨0,rt tV x.a8⟩:q9));(sl ((cnE tV x.f8)&&((cnE tV x.a8)&&true)) (sl (Nat.beq t1.1 1) (kk ⟨1,t1.2.is8,rt tV t1.2.a8⟩) (sl (Nat.beq t1.1 2) (kk ⟨1,-1,t1.2.a8⟩) (kk ⟨0,0,[]⟩))) (kk ⟨0,0,[]⟩))
def ba9(x:ua8):ua9:=va0 (λr=>r) x
def Oa4(x:ua8)(r:ua9):DT (a7×List b7):=(xa6 r.alt 1 (i r.is0,[bq 0 1 [[eL tV r.a8]]]) .fail)
def Ta4:Sum:=va9 ⟨[sLq tV,.fn 77 [.o (.ptr 0 0 0 0)]],[⟨0,1,true,some [[.c 3 (nL tV)]]⟩],λa H=>(⟨aLq tV a 0,hLq tV H 0 0 0⟩,())⟩ (λx=>Oa4 x (ba9 x))
theorem Gb5:d9 prog G 109 Ta4:=r5 (enc:=λx=>⟨[eL tV x.f8,.fn 77 [.ptr 0 0 0 0]],[bq 0 1 [[eL tV x.a8]]]⟩) (λa H=>by kernel_rfl) (bd Wd8 yb6) λx=>ha5 (.s .p (.s (.s .p (.b (.u ma4.ls))) .p)) [ma4.pr] (.cons ub2 .nil) (mEq @va0 (λr=>(Oa4 x r).run) x)
def ob4:List (Nat×Sum):=[(109,Ta4)]
theorem kb1:l6 prog G ob4:=⟨Gb5,trivial⟩
structure ka0 where
 alt:Nat
 bs0:Bool
 a8:List V3
def ka1{α:Type}(kk:ka0->α)(x:ua8):α:=let t1:=(ba9 ⟨rt tV x.f8,rt tV x.a8⟩);(sl ((cnE tV x.f8)&&((cnE tV x.a8)&&true)) (sl (Nat.beq t1.alt 1) (kk ⟨1,decide (t1.is0>=0),t1.a8⟩) (kk ⟨0,false,[]⟩)) (kk ⟨0,false,[]⟩))
def T6(x:ua8):ka0:=ka1 (λr=>r) x
def Ba9(x:ua8)(r:ka0):DT (a7×List b7):=(xa6 r.alt 1 (b r.bs0,[bq 0 1 [[eL tV r.a8]]]) .fail)
def Ga1:Sum:=va9 ⟨[sLq tV,.fn 77 [.o (.ptr 0 0 0 0)]],[⟨0,1,true,some [[.c 3 (nL tV)]]⟩],λa H=>(⟨aLq tV a 0,hLq tV H 0 0 0⟩,())⟩ (λx=>Ba9 x (T6 x))
theorem ob5:d9 prog G 74 Ga1:=r5 (enc:=λx=>⟨[eL tV x.f8,.fn 77 [.ptr 0 0 0 0]],[bq 0 1 [[eL tV x.a8]]]⟩) (λa H=>by kernel_rfl) (bd b74 kb1) λx=>ha4 (mEq @ka1 (λr=>(Ba9 x r).run) x)
def Xa0:List (Nat×Sum):=[(74,Ga1)]
theorem Mb3:l6 prog G Xa0:=⟨ob5,trivial⟩
structure P8 where
 Ed1:List (List V3)
 ae2:Int
structure B5 where
 re8:Int
 a8:List V3
def Oa5(p:P8)(s:B5):St:=⟨ra 3 (.ptr 0 0 0 0::ra 7 (eL (tLs tV) p.Ed1::i p.ae2::i s.re8::ra 8 [])),[bq 0 1 [[eL tV s.a8]]]⟩
def V7{α:Type}(k:B5->α)(e:Nat->α)(z:α)(p:P8)(s:B5):α:=let y0:=(gL (tLs tV) p.Ed1 s.re8.toNat);let t1:=(T6 ⟨rt tV y0,rt tV s.a8⟩);(sl (decide (s.re8<p.ae2)) (sl (inB s.re8 (List.length p.Ed1)) (sl ((cnE tV y0)&&((cnE tV s.a8)&&true)) (sl (Nat.beq t1.alt 1) (sl t1.bs0 (e 1) (k ⟨W (s.re8+1),y0⟩)) z) z) z) (e 2))
def F9(p:P8)(s:B5):Stp B5:=V7 .next .exit .fail p s
def va1:Lo P8 B5:=⟨En Xa0,0,nf9,[1,1,0,1,4,4],[3,11,12,13],.p,[⟨ru2 3 (sPq 0::ru2 7 (.s (.c 1 (nL (tLs tV)))::sIq::sIq::ru2 8 [])),[⟨0,1,true,some [[.c 3 (nL tV)]]⟩],λa H=>(⟨aLq (tLs tV) a 11,aIq a 12⟩,⟨aIq a 13,hLq tV H 0 0 0⟩)⟩],F9,[(none,λp s=>⟨[b false],[]⟩),(some 0,λp s=>upq (Oa5 p s) [(14,b (decide (s.re8<p.ae2)))])],Oa5⟩
theorem Gb6:va1.Ok:=Qjh [] .nil λp s=>(.ofq @V7)
def W5(x:Tol):ROq:=let t1:=(lp (F9 (⟨rt (tLs tV) x.inn,(↑(List.length x.inn):Int)⟩:P8)) (⟨0,rt tV x.ou⟩:B5));(sl ((cnE (tLs tV) x.inn)&&((cnE tV x.ou)&&true)) (sl (Nat.beq t1.1 1) (some (b false,[])) (sl (Nat.beq t1.1 2) (some (b true,[])) none)) none)
def W6(x:Tol):Bool:=O8 (one r1B) (W5 x)
def ka6(x:Tol):Bool:=okO (one r1B) (W5 x)
def Ya8:Sum:=L6 cT (λx=>.guard (ka6 x) (.ret ((one r1B).enc (W6 x),[])))
theorem Qb8:d9 prog G 39 Ya8:=Ec5 (bd b39 Mb3) (one r1B) (o:=W5) λx=>ha5 (.s .p (.s .p (.s (.s .p (.b (.u va1.ls))) .p))) [va1.pr] (.cons Gb6 .nil)
def mc1:List (Nat×Sum):=[(34,eb6),(35,Wa7),(36,Ya7),(37,eb9),(38,Wa9),(39,Ya8)]
theorem kd2:l6 prog G mc1:=⟨Ub9,Mb0,Qb6,Vb1,Mb2,Qb8,trivial⟩
structure m0 where
 G4:ByteArray
 r7:List V3
 o4:List (List V3)
 r9:List V3
 s6:List Int
 G5:Int
 s7:List V3
 G6:ByteArray
 s8:List V3
 o5:List (List V3)
 s9:List V3
 u7:List Int
 G7:Int
 u9:List V3
 G8:ByteArray
 v7:List V3
 o6:List (List V3)
 v8:List V3
 w6:List Int
 G9:Int
 w7:List V3
 H5:ByteArray
 w8:List V3
 o7:List (List V3)
 w9:List V3
 z6:List Int
 H6:Int
 z7:List V3
 H7:ByteArray
 z8:List V3
 o8:List (List V3)
 A0:List V3
 A1:List Int
 H8:Int
 A2:List V3
 H9:ByteArray
 A3:List V3
 o9:List (List V3)
 A4:List V3
 A5:List Int
 I0:Int
 A6:List V3
structure i5 where
 ph:Nat
def Jc7(p:m0)(s:i5):St:=⟨ra 4 (i 0::ra 22 (.sl 0 0 6 0::i 6::i 0::ra 11 [])),[bq 77 2 [[.fn 100034 [.v (.string p.G4),eL tV p.r7,eL (tLs tV) p.o4,eL tV p.r9,eL tI p.s6,i p.G5,eL tV p.s7],i 10],[.fn 100035 [.v (.string p.G6),eL tV p.s8,eL (tLs tV) p.o5,eL tV p.s9,eL tI p.u7,i p.G7,eL tV p.u9],i 2],[.fn 100036 [.v (.string p.G8),eL tV p.v7,eL (tLs tV) p.o6,eL tV p.v8,eL tI p.w6,i p.G9,eL tV p.w7],i 3],[.fn 100037 [.v (.string p.H5),eL tV p.w8,eL (tLs tV) p.o7,eL tV p.w9,eL tI p.z6,i p.H6,eL tV p.z7],i 11],[.fn 100038 [.v (.string p.H7),eL tV p.z8,eL (tLs tV) p.o8,eL tV p.A0,eL tI p.A1,i p.H8,eL tV p.A2],i 7],[.fn 100039 [.v (.string p.H9),eL tV p.A3,eL (tLs tV) p.o9,eL tV p.A4,eL tI p.A5,i p.I0,eL tV p.A6],i 15]]]⟩
def Jc8(p:m0)(s:i5):St:=⟨ra 4 (i 0::ra 22 (.sl 0 0 6 0::i 6::i 1::ra 11 [])),[bq 77 2 [[.fn 100034 [.v (.string p.G4),eL tV p.r7,eL (tLs tV) p.o4,eL tV p.r9,eL tI p.s6,i p.G5,eL tV p.s7],i 10],[.fn 100035 [.v (.string p.G6),eL tV p.s8,eL (tLs tV) p.o5,eL tV p.s9,eL tI p.u7,i p.G7,eL tV p.u9],i 2],[.fn 100036 [.v (.string p.G8),eL tV p.v7,eL (tLs tV) p.o6,eL tV p.v8,eL tI p.w6,i p.G9,eL tV p.w7],i 3],[.fn 100037 [.v (.string p.H5),eL tV p.w8,eL (tLs tV) p.o7,eL tV p.w9,eL tI p.z6,i p.H6,eL tV p.z7],i 11],[.fn 100038 [.v (.string p.H7),eL tV p.z8,eL (tLs tV) p.o8,eL tV p.A0,eL tI p.A1,i p.H8,eL tV p.A2],i 7],[.fn 100039 [.v (.string p.H9),eL tV p.A3,eL (tLs tV) p.o9,eL tV p.A4,eL tI p.A5,i p.I0,eL tV p.A6],i 15]]]⟩
def Jc9(p:m0)(s:i5):St:=⟨ra 4 (i 0::ra 22 (.sl 0 0 6 0::i 6::i 2::ra 11 [])),[bq 77 2 [[.fn 100034 [.v (.string p.G4),eL tV p.r7,eL (tLs tV) p.o4,eL tV p.r9,eL tI p.s6,i p.G5,eL tV p.s7],i 10],[.fn 100035 [.v (.string p.G6),eL tV p.s8,eL (tLs tV) p.o5,eL tV p.s9,eL tI p.u7,i p.G7,eL tV p.u9],i 2],[.fn 100036 [.v (.string p.G8),eL tV p.v7,eL (tLs tV) p.o6,eL tV p.v8,eL tI p.w6,i p.G9,eL tV p.w7],i 3],[.fn 100037 [.v (.string p.H5),eL tV p.w8,eL (tLs tV) p.o7,eL tV p.w9,eL tI p.z6,i p.H6,eL tV p.z7],i 11],[.fn 100038 [.v (.string p.H7),eL tV p.z8,eL (tLs tV) p.o8,eL tV p.A0,eL tI p.A1,i p.H8,eL tV p.A2],i 7],[.fn 100039 [.v (.string p.H9),eL tV p.A3,eL (tLs tV) p.o9,eL tV p.A4,eL tI p.A5,i p.I0,eL tV p.A6],i 15]]]⟩
def Kc0(p:m0)(s:i5):St:=⟨ra 4 (i 0::ra 22 (.sl 0 0 6 0::i 6::i 3::ra 11 [])),[bq 77 2 [[.fn 100034 [.v (.string p.G4),eL tV p.r7,eL (tLs tV) p.o4,eL tV p.r9,eL tI p.s6,i p.G5,eL tV p.s7],i 10],[.fn 100035 [.v (.string p.G6),eL tV p.s8,eL (tLs tV) p.o5,eL tV p.s9,eL tI p.u7,i p.G7,eL tV p.u9],i 2],[.fn 100036 [.v (.string p.G8),eL tV p.v7,eL (tLs tV) p.o6,eL tV p.v8,eL tI p.w6,i p.G9,eL tV p.w7],i 3],[.fn 100037 [.v (.string p.H5),eL tV p.w8,eL (tLs tV) p.o7,eL tV p.w9,eL tI p.z6,i p.H6,eL tV p.z7],i 11],[.fn 100038 [.v (.string p.H7),eL tV p.z8,eL (tLs tV) p.o8,eL tV p.A0,eL tI p.A1,i p.H8,eL tV p.A2],i 7],[.fn 100039 [.v (.string p.H9),eL tV p.A3,eL (tLs tV) p.o9,eL tV p.A4,eL tI p.A5,i p.I0,eL tV p.A6],i 15]]]⟩
def Kc1(p:m0)(s:i5):St:=⟨ra 4 (i 0::ra 22 (.sl 0 0 6 0::i 6::i 4::ra 11 [])),[bq 77 2 [[.fn 100034 [.v (.string p.G4),eL tV p.r7,eL (tLs tV) p.o4,eL tV p.r9,eL tI p.s6,i p.G5,eL tV p.s7],i 10],[.fn 100035 [.v (.string p.G6),eL tV p.s8,eL (tLs tV) p.o5,eL tV p.s9,eL tI p.u7,i p.G7,eL tV p.u9],i 2],[.fn 100036 [.v (.string p.G8),eL tV p.v7,eL (tLs tV) p.o6,eL tV p.v8,eL tI p.w6,i p.G9,eL tV p.w7],i 3],[.fn 100037 [.v (.string p.H5),eL tV p.w8,eL (tLs tV) p.o7,eL tV p.w9,eL tI p.z6,i p.H6,eL tV p.z7],i 11],[.fn 100038 [.v (.string p.H7),eL tV p.z8,eL (tLs tV) p.o8,eL tV p.A0,eL tI p.A1,i p.H8,eL tV p.A2],i 7],[.fn 100039 [.v (.string p.H9),eL tV p.A3,eL (tLs tV) p.o9,eL tV p.A4,eL tI p.A5,i p.I0,eL tV p.A6],i 15]]]⟩
def Kc2(p:m0)(s:i5):St:=⟨ra 4 (i 0::ra 22 (.sl 0 0 6 0::i 6::i 5::ra 11 [])),[bq 77 2 [[.fn 100034 [.v (.string p.G4),eL tV p.r7,eL (tLs tV) p.o4,eL tV p.r9,eL tI p.s6,i p.G5,eL tV p.s7],i 10],[.fn 100035 [.v (.string p.G6),eL tV p.s8,eL (tLs tV) p.o5,eL tV p.s9,eL tI p.u7,i p.G7,eL tV p.u9],i 2],[.fn 100036 [.v (.string p.G8),eL tV p.v7,eL (tLs tV) p.o6,eL tV p.v8,eL tI p.w6,i p.G9,eL tV p.w7],i 3],[.fn 100037 [.v (.string p.H5),eL tV p.w8,eL (tLs tV) p.o7,eL tV p.w9,eL tI p.z6,i p.H6,eL tV p.z7],i 11],[.fn 100038 [.v (.string p.H7),eL tV p.z8,eL (tLs tV) p.o8,eL tV p.A0,eL tI p.A1,i p.H8,eL tV p.A2],i 7],[.fn 100039 [.v (.string p.H9),eL tV p.A3,eL (tLs tV) p.o9,eL tV p.A4,eL tI p.A5,i p.I0,eL tV p.A6],i 15]]]⟩
def Mb4(p:m0)(s:i5):St:=⟨ra 4 (i 0::ra 22 (.sl 0 0 6 0::i 6::i 6::ra 11 [])),[bq 77 2 [[.fn 100034 [.v (.string p.G4),eL tV p.r7,eL (tLs tV) p.o4,eL tV p.r9,eL tI p.s6,i p.G5,eL tV p.s7],i 10],[.fn 100035 [.v (.string p.G6),eL tV p.s8,eL (tLs tV) p.o5,eL tV p.s9,eL tI p.u7,i p.G7,eL tV p.u9],i 2],[.fn 100036 [.v (.string p.G8),eL tV p.v7,eL (tLs tV) p.o6,eL tV p.v8,eL tI p.w6,i p.G9,eL tV p.w7],i 3],[.fn 100037 [.v (.string p.H5),eL tV p.w8,eL (tLs tV) p.o7,eL tV p.w9,eL tI p.z6,i p.H6,eL tV p.z7],i 11],[.fn 100038 [.v (.string p.H7),eL tV p.z8,eL (tLs tV) p.o8,eL tV p.A0,eL tI p.A1,i p.H8,eL tV p.A2],i 7],[.fn 100039 [.v (.string p.H9),eL tV p.A3,eL (tLs tV) p.o9,eL tV p.A4,eL tI p.A5,i p.I0,eL tV p.A6],i 15]]]⟩
def Tc2(p:m0)(s:i5):St:=(sel (Nat.beq s.ph 6) (Mb4 p s) (sel (Nat.beq s.ph 5) (Kc2 p s) (sel (Nat.beq s.ph 4) (Kc1 p s) (sel (Nat.beq s.ph 3) (Kc0 p s) (sel (Nat.beq s.ph 2) (Jc9 p s) (sel (Nat.beq s.ph 1) (Jc8 p s) (Jc7 p s)))))))
def Ia5{α:Type}(k:i5->α)(e:Nat->α)(z:α)(p:m0)(s:i5):α:=let y0:=(⟨p.G4,rt tV p.r7,rt (tLs tV) p.o4,rt tV p.r9,rt tI p.s6,p.G5,rt tV p.s7⟩:Tol);let t1:=(Z7 y0);(sl ((okE tV p.r7)&&((okE (tLs tV) p.o4)&&((okE tV p.r9)&&((okE tI p.s6)&&((okE tV p.s7)&&true))))) (sl (oa6 y0) (sl (!t1) (e 1) (k ⟨1⟩)) z) z)
def Ia6{α:Type}(k:i5->α)(e:Nat->α)(z:α)(p:m0)(s:i5):α:=let y0:=(⟨p.G6,rt tV p.s8,rt (tLs tV) p.o5,rt tV p.s9,rt tI p.u7,p.G7,rt tV p.u9⟩:Tol);let t1:=(S9 y0);(sl ((okE tV p.s8)&&((okE (tLs tV) p.o5)&&((okE tV p.s9)&&((okE tI p.u7)&&((okE tV p.u9)&&true))))) (sl (ea8 y0) (sl (!t1) (e 2) (k ⟨2⟩)) z) z)
def Ia7{α:Type}(k:i5->α)(e:Nat->α)(z:α)(p:m0)(s:i5):α:=let y0:=(⟨p.G8,rt tV p.v7,rt (tLs tV) p.o6,rt tV p.v8,rt tI p.w6,p.G9,rt tV p.w7⟩:Tol);let t1:=(W4 y0);(sl ((okE tV p.v7)&&((okE (tLs tV) p.o6)&&((okE tV p.v8)&&((okE tI p.w6)&&((okE tV p.w7)&&true))))) (sl (ka5 y0) (sl (!t1) (e 3) (k ⟨3⟩)) z) z)
def Ia8{α:Type}(k:i5->α)(e:Nat->α)(z:α)(p:m0)(s:i5):α:=let y0:=(⟨p.H5,rt tV p.w8,rt (tLs tV) p.o7,rt tV p.w9,rt tI p.z6,p.H6,rt tV p.z7⟩:Tol);let t1:=(Z9 y0);(sl ((okE tV p.w8)&&((okE (tLs tV) p.o7)&&((okE tV p.w9)&&((okE tI p.z6)&&((okE tV p.z7)&&true))))) (sl (oa7 y0) (sl (!t1) (e 4) (k ⟨4⟩)) z) z)
def Ia9{α:Type}(k:i5->α)(e:Nat->α)(z:α)(p:m0)(s:i5):α:=let y0:=(⟨p.H7,rt tV p.z8,rt (tLs tV) p.o8,rt tV p.A0,rt tI p.A1,p.H8,rt tV p.A2⟩:Tol);let t1:=(T5 y0);(sl ((okE tV p.z8)&&((okE (tLs tV) p.o8)&&((okE tV p.A0)&&((okE tI p.A1)&&((okE tV p.A2)&&true))))) (sl (fa2 y0) (sl (!t1) (e 5) (k ⟨5⟩)) z) z)
def Ja0{α:Type}(k:i5->α)(e:Nat->α)(z:α)(p:m0)(s:i5):α:=let y0:=(⟨p.H9,rt tV p.A3,rt (tLs tV) p.o9,rt tV p.A4,rt tI p.A5,p.I0,rt tV p.A6⟩:Tol);let t1:=(W6 y0);(sl ((okE tV p.A3)&&((okE (tLs tV) p.o9)&&((okE tV p.A4)&&((okE tI p.A5)&&((okE tV p.A6)&&true))))) (sl (ka6 y0) (sl (!t1) (e 6) (k ⟨6⟩)) z) z)
def Mb5{α:Type}(k:i5->α)(e:Nat->α)(z:α)(p:m0)(s:i5):α:=(e 7)
def q7(p:m0)(s:i5):Stp i5:=(sel (Nat.beq s.ph 6) (Mb5 .next .exit .fail p s) (sel (Nat.beq s.ph 5) (Ja0 .next .exit .fail p s) (sel (Nat.beq s.ph 4) (Ia9 .next .exit .fail p s) (sel (Nat.beq s.ph 3) (Ia8 .next .exit .fail p s) (sel (Nat.beq s.ph 2) (Ia7 .next .exit .fail p s) (sel (Nat.beq s.ph 1) (Ia6 .next .exit .fail p s) (Ia5 .next .exit .fail p s)))))))
def ub3:Lo m0 i5:=⟨En mc1,0,nf4,[1,1,1,1,0,1,4,4],[4,27,28,29],.p,[⟨ru2 4 (.s (.o (.lit .i64 0))::ru2 22 (.s (.o (.sl 0 0 (some 0) (some 6)))::.s (.o (.lit .i64 6))::.s (.o (.lit .i64 0))::ru2 11 [])),[⟨77,2,true,some [[.fn 100034 [.o .val,.c 3 (nL tV),.c 1 (nL (tLs tV)),.c 3 (nL tV),.c 1 (nL tI),.o (.int .i64),.c 3 (nL tV)],.o (.lit .i64 10)],[.fn 100035 [.o .val,.c 3 (nL tV),.c 1 (nL (tLs tV)),.c 3 (nL tV),.c 1 (nL tI),.o (.int .i64),.c 3 (nL tV)],.o (.lit .i64 2)],[.fn 100036 [.o .val,.c 3 (nL tV),.c 1 (nL (tLs tV)),.c 3 (nL tV),.c 1 (nL tI),.o (.int .i64),.c 3 (nL tV)],.o (.lit .i64 3)],[.fn 100037 [.o .val,.c 3 (nL tV),.c 1 (nL (tLs tV)),.c 3 (nL tV),.c 1 (nL tI),.o (.int .i64),.c 3 (nL tV)],.o (.lit .i64 11)],[.fn 100038 [.o .val,.c 3 (nL tV),.c 1 (nL (tLs tV)),.c 3 (nL tV),.c 1 (nL tI),.o (.int .i64),.c 3 (nL tV)],.o (.lit .i64 7)],[.fn 100039 [.o .val,.c 3 (nL tV),.c 1 (nL (tLs tV)),.c 3 (nL tV),.c 1 (nL tI),.o (.int .i64),.c 3 (nL tV)],.o (.lit .i64 15)]]⟩],λa H=>(⟨Y8 (slT (cellsOf (slT (rwT (elT H 0) 0) 0)) 0),wLq tV H 0 0 0 1,wLq (tLs tV) H 0 0 0 2,wLq tV H 0 0 0 3,wLq tI H 0 0 0 4,wIq H 0 0 0 5,wLq tV H 0 0 0 6,Y8 (slT (cellsOf (slT (rwT (elT H 0) 1) 0)) 0),wLq tV H 0 1 0 1,wLq (tLs tV) H 0 1 0 2,wLq tV H 0 1 0 3,wLq tI H 0 1 0 4,wIq H 0 1 0 5,wLq tV H 0 1 0 6,Y8 (slT (cellsOf (slT (rwT (elT H 0) 2) 0)) 0),wLq tV H 0 2 0 1,wLq (tLs tV) H 0 2 0 2,wLq tV H 0 2 0 3,wLq tI H 0 2 0 4,wIq H 0 2 0 5,wLq tV H 0 2 0 6,Y8 (slT (cellsOf (slT (rwT (elT H 0) 3) 0)) 0),wLq tV H 0 3 0 1,wLq (tLs tV) H 0 3 0 2,wLq tV H 0 3 0 3,wLq tI H 0 3 0 4,wIq H 0 3 0 5,wLq tV H 0 3 0 6,Y8 (slT (cellsOf (slT (rwT (elT H 0) 4) 0)) 0),wLq tV H 0 4 0 1,wLq (tLs tV) H 0 4 0 2,wLq tV H 0 4 0 3,wLq tI H 0 4 0 4,wIq H 0 4 0 5,wLq tV H 0 4 0 6,Y8 (slT (cellsOf (slT (rwT (elT H 0) 5) 0)) 0),wLq tV H 0 5 0 1,wLq (tLs tV) H 0 5 0 2,wLq tV H 0 5 0 3,wLq tI H 0 5 0 4,wIq H 0 5 0 5,wLq tV H 0 5 0 6⟩,⟨0⟩)⟩,⟨ru2 4 (.s (.o (.lit .i64 0))::ru2 22 (.s (.o (.sl 0 0 (some 0) (some 6)))::.s (.o (.lit .i64 6))::.s (.o (.lit .i64 1))::ru2 11 [])),[⟨77,2,true,some [[.fn 100034 [.o .val,.c 3 (nL tV),.c 1 (nL (tLs tV)),.c 3 (nL tV),.c 1 (nL tI),.o (.int .i64),.c 3 (nL tV)],.o (.lit .i64 10)],[.fn 100035 [.o .val,.c 3 (nL tV),.c 1 (nL (tLs tV)),.c 3 (nL tV),.c 1 (nL tI),.o (.int .i64),.c 3 (nL tV)],.o (.lit .i64 2)],[.fn 100036 [.o .val,.c 3 (nL tV),.c 1 (nL (tLs tV)),.c 3 (nL tV),.c 1 (nL tI),.o (.int .i64),.c 3 (nL tV)],.o (.lit .i64 3)],[.fn 100037 [.o .val,.c 3 (nL tV),.c 1 (nL (tLs tV)),.c 3 (nL tV),.c 1 (nL tI),.o (.int .i64),.c 3 (nL tV)],.o (.lit .i64 11)],[.fn 100038 [.o .val,.c 3 (nL tV),.c 1 (nL (tLs tV)),.c 3 (nL tV),.c 1 (nL tI),.o (.int .i64),.c 3 (nL tV)],.o (.lit .i64 7)],[.fn 100039 [.o .val,.c 3 (nL tV),.c 1 (nL (tLs tV)),.c 3 (nL tV),.c 1 (nL tI),.o (.int .i64),.c 3 (nL tV)],.o (.lit .i64 15)]]⟩],λa H=>(⟨Y8 (slT (cellsOf (slT (rwT (elT H 0) 0) 0)) 0),wLq tV H 0 0 0 1,wLq (tLs tV) H 0 0 0 2,wLq tV H 0 0 0 3,wLq tI H 0 0 0 4,wIq H 0 0 0 5,wLq tV H 0 0 0 6,Y8 (slT (cellsOf (slT (rwT (elT H 0) 1) 0)) 0),wLq tV H 0 1 0 1,wLq (tLs tV) H 0 1 0 2,wLq tV H 0 1 0 3,wLq tI H 0 1 0 4,wIq H 0 1 0 5,wLq tV H 0 1 0 6,Y8 (slT (cellsOf (slT (rwT (elT H 0) 2) 0)) 0),wLq tV H 0 2 0 1,wLq (tLs tV) H 0 2 0 2,wLq tV H 0 2 0 3,wLq tI H 0 2 0 4,wIq H 0 2 0 5,wLq tV H 0 2 0 6,Y8 (slT (cellsOf (slT (rwT (elT H 0) 3) 0)) 0),wLq tV H 0 3 0 1,wLq (tLs tV) H 0 3 0 2,wLq tV H 0 3 0 3,wLq tI H 0 3 0 4,wIq H 0 3 0 5,wLq tV H 0 3 0 6,Y8 (slT (cellsOf (slT (rwT (elT H 0) 4) 0)) 0),wLq tV H 0 4 0 1,wLq (tLs tV) H 0 4 0 2,wLq tV H 0 4 0 3,wLq tI H 0 4 0 4,wIq H 0 4 0 5,wLq tV H 0 4 0 6,Y8 (slT (cellsOf (slT (rwT (elT H 0) 5) 0)) 0),wLq tV H 0 5 0 1,wLq (tLs tV) H 0 5 0 2,wLq tV H 0 5 0 3,wLq tI H 0 5 0 4,wIq H 0 5 0 5,wLq tV H 0 5 0 6⟩,⟨1⟩)⟩,⟨ru2 4 (.s (.o (.lit .i64 0))::ru2 22 (.s (.o (.sl 0 0 (some 0) (some 6)))::.s (.o (.lit .i64 6))::.s (.o (.lit .i64 2))::ru2 11 [])),[⟨77,2,true,some [[.fn 100034 [.o .val,.c 3 (nL tV),.c 1 (nL (tLs tV)),.c 3 (nL tV),.c 1 (nL tI),.o (.int .i64),.c 3 (nL tV)],.o (.lit .i64 10)],[.fn 100035 [.o .val,.c 3 (nL tV),.c 1 (nL (tLs tV)),.c 3 (nL tV),.c 1 (nL tI),.o (.int .i64),.c 3 (nL tV)],.o (.lit .i64 2)],[.fn 100036 [.o .val,.c 3 (nL tV),.c 1 (nL (tLs tV)),.c 3 (nL tV),.c 1 (nL tI),.o (.int .i64),.c 3 (nL tV)],.o (.lit .i64 3)],[.fn 100037 [.o .val,.c 3 (nL tV),.c 1 (nL (tLs tV)),.c 3 (nL tV),.c 1 (nL tI),.o (.int .i64),.c 3 (nL tV)],.o (.lit .i64 11)],[.fn 100038 [.o .val,.c 3 (nL tV),.c 1 (nL (tLs tV)),.c 3 (nL tV),.c 1 (nL tI),.o (.int .i64),.c 3 (nL tV)],.o (.lit .i64 7)],[.fn 100039 [.o .val,.c 3 (nL tV),.c 1 (nL (tLs tV)),.c 3 (nL tV),.c 1 (nL tI),.o (.int .i64),.c 3 (nL tV)],.o (.lit .i64 15)]]⟩],λa H=>(⟨Y8 (slT (cellsOf (slT (rwT (elT H 0) 0) 0)) 0),wLq tV H 0 0 0 1,wLq (tLs tV) H 0 0 0 2,wLq tV H 0 0 0 3,wLq tI H 0 0 0 4,wIq H 0 0 0 5,wLq tV H 0 0 0 6,Y8 (slT (cellsOf (slT (rwT (elT H 0) 1) 0)) 0),wLq tV H 0 1 0 1,wLq (tLs tV) H 0 1 0 2,wLq tV H 0 1 0 3,wLq tI H 0 1 0 4,wIq H 0 1 0 5,wLq tV H 0 1 0 6,Y8 (slT (cellsOf (slT (rwT (elT H 0) 2) 0)) 0),wLq tV H 0 2 0 1,wLq (tLs tV) H 0 2 0 2,wLq tV H 0 2 0 3,wLq tI H 0 2 0 4,wIq H 0 2 0 5,wLq tV H 0 2 0 6,Y8 (slT (cellsOf (slT (rwT (elT H 0) 3) 0)) 0),wLq tV H 0 3 0 1,wLq (tLs tV) H 0 3 0 2,wLq tV H 0 3 0 3,wLq tI H 0 3 0 4,wIq H 0 3 0 5,wLq tV H 0 3 0 6,Y8 (slT (cellsOf (slT (rwT (elT H 0) 4) 0)) 0),wLq tV H 0 4 0 1,wLq (tLs tV) H 0 4 0 2,wLq tV H 0 4 0 3,wLq tI H 0 4 0 4,wIq H 0 4 0 5,wLq tV H 0 4 0 6,Y8 (slT (cellsOf (slT (rwT (elT H 0) 5) 0)) 0),wLq tV H 0 5 0 1,wLq (tLs tV) H 0 5 0 2,wLq tV H 0 5 0 3,wLq tI H 0 5 0 4,wIq H 0 5 0 5,wLq tV H 0 5 0 6⟩,⟨2⟩)⟩,⟨ru2 4 (.s (.o (.lit .i64 0))::ru2 22 (.s (.o (.sl 0 0 (some 0) (some 6)))::.s (.o (.lit .i64 6))::.s (.o (.lit .i64 3))::ru2 11 [])),[⟨77,2,true,some [[.fn 100034 [.o .val,.c 3 (nL tV),.c 1 (nL (tLs tV)),.c 3 (nL tV),.c 1 (nL tI),.o (.int .i64),.c 3 (nL tV)],.o (.lit .i64 10)],[.fn 100035 [.o .val,.c 3 (nL tV),.c 1 (nL (tLs tV)),.c 3 (nL tV),.c 1 (nL tI),.o (.int .i64),.c 3 (nL tV)],.o (.lit .i64 2)],[.fn 100036 [.o .val,.c 3 (nL tV),.c 1 (nL (tLs tV)),.c 3 (nL tV),.c 1 (nL tI),.o (.int .i64),.c 3 (nL tV)],.o (.lit .i64 3)],[.fn 100037 [.o .val,.c 3 (nL tV),.c 1 (nL (tLs tV)),.c 3 (nL tV),.c 1 (nL tI),.o (.int .i64),.c 3 (nL tV)],.o (.lit .i64 11)],[.fn 100038 [.o .val,.c 3 (nL tV),.c 1 (nL (tLs tV)),.c 3 (nL tV),.c 1 (nL tI),.o (.int .i64),.c 3 (nL tV)],.o (.lit .i64 7)],[.fn 100039 [.o .val,.c 3 (nL tV),.c 1 (nL (tLs tV)),.c 3 (nL tV),.c 1 (nL tI),.o (.int .i64),.c 3 (nL tV)],.o (.lit .i64 15)]]⟩],λa H=>(⟨Y8 (slT (cellsOf (slT (rwT (elT H 0) 0) 0)) 0),wLq tV H 0 0 0 1,wLq (tLs tV) H 0 0 0 2,wLq tV H 0 0 0 3,wLq tI H 0 0 0 4,wIq H 0 0 0 5,wLq tV H 0 0 0 6,Y8 (slT (cellsOf (slT (rwT (elT H 0) 1) 0)) 0),wLq tV H 0 1 0 1,wLq (tLs tV) H 0 1 0 2,wLq tV H 0 1 0 3,wLq tI H 0 1 0 4,wIq H 0 1 0 5,wLq tV H 0 1 0 6,Y8 (slT (cellsOf (slT (rwT (elT H 0) 2) 0)) 0),wLq tV H 0 2 0 1,wLq (tLs tV) H 0 2 0 2,wLq tV H 0 2 0 3,wLq tI H 0 2 0 4,wIq H 0 2 0 5,wLq tV H 0 2 0 6,Y8 (slT (cellsOf (slT (rwT (elT H 0) 3) 0)) 0),wLq tV H 0 3 0 1,wLq (tLs tV) H 0 3 0 2,wLq tV H 0 3 0 3,wLq tI H 0 3 0 4,wIq H 0 3 0 5,wLq tV H 0 3 0 6,Y8 (slT (cellsOf (slT (rwT (elT H 0) 4) 0)) 0),wLq tV H 0 4 0 1,wLq (tLs tV) H 0 4 0 2,wLq tV H 0 4 0 3,wLq tI H 0 4 0 4,wIq H 0 4 0 5,wLq tV H 0 4 0 6,Y8 (slT (cellsOf (slT (rwT (elT H 0) 5) 0)) 0),wLq tV H 0 5 0 1,wLq (tLs tV) H 0 5 0 2,wLq tV H 0 5 0 3,wLq tI H 0 5 0 4,wIq H 0 5 0 5,wLq tV H 0 5 0 6⟩,⟨3⟩)⟩,⟨ru2 4 (.s (.o (.lit .i64 0))::ru2 22 (.s (.o (.sl 0 0 (some 0) (some 6)))::.s (.o (.lit .i64 6))::.s (.o (.lit .i64 4))::ru2 11 [])),[⟨77,2,true,some [[.fn 100034 [.o .val,.c 3 (nL tV),.c 1 (nL (tLs tV)),.c 3 (nL tV),.c 1 (nL tI),.o (.int .i64),.c 3 (nL tV)],.o (.lit .i64 10)],[.fn 100035 [.o .val,.c 3 (nL tV),.c 1 (nL (tLs tV)),.c 3 (nL tV),.c 1 (nL tI),.o (.int .i64),.c 3 (nL tV)],.o (.lit .i64 2)],[.fn 100036 [.o .val,.c 3 (nL tV),.c 1 (nL (tLs tV)),.c 3 (nL tV),.c 1 (nL tI),.o (.int .i64),.c 3 (nL tV)],.o (.lit .i64 3)],[.fn 100037 [.o .val,.c 3 (nL tV),.c 1 (nL (tLs tV)),.c 3 (nL tV),.c 1 (nL tI),.o (.int .i64),.c 3 (nL tV)],.o (.lit .i64 11)],[.fn 100038 [.o .val,.c 3 (nL tV),.c 1 (nL (tLs tV)),.c 3 (nL tV),.c 1 (nL tI),.o (.int .i64),.c 3 (nL tV)],.o (.lit .i64 7)],[.fn 100039 [.o .val,.c 3 (nL tV),.c 1 (nL (tLs tV)),.c 3 (nL tV),.c 1 (nL tI),.o (.int .i64),.c 3 (nL tV)],.o (.lit .i64 15)]]⟩],λa H=>(⟨Y8 (slT (cellsOf (slT (rwT (elT H 0) 0) 0)) 0),wLq tV H 0 0 0 1,wLq (tLs tV) H 0 0 0 2,wLq tV H 0 0 0 3,wLq tI H 0 0 0 4,wIq H 0 0 0 5,wLq tV H 0 0 0 6,Y8 (slT (cellsOf (slT (rwT (elT H 0) 1) 0)) 0),wLq tV H 0 1 0 1,wLq (tLs tV) H 0 1 0 2,wLq tV H 0 1 0 3,wLq tI H 0 1 0 4,wIq H 0 1 0 5,wLq tV H 0 1 0 6,Y8 (slT (cellsOf (slT (rwT (elT H 0) 2) 0)) 0),wLq tV H 0 2 0 1,wLq (tLs tV) H 0 2 0 2,wLq tV H 0 2 0 3,wLq tI H 0 2 0 4,wIq H 0 2 0 5,wLq tV H 0 2 0 6,Y8 (slT (cellsOf (slT (rwT (elT H 0) 3) 0)) 0),wLq tV H 0 3 0 1,wLq (tLs tV) H 0 3 0 2,wLq tV H 0 3 0 3,wLq tI H 0 3 0 4,wIq H 0 3 0 5,wLq tV H 0 3 0 6,Y8 (slT (cellsOf (slT (rwT (elT H 0) 4) 0)) 0),wLq tV H 0 4 0 1,wLq (tLs tV) H 0 4 0 2,wLq tV H 0 4 0 3,wLq tI H 0 4 0 4,wIq H 0 4 0 5,wLq tV H 0 4 0 6,Y8 (slT (cellsOf (slT (rwT (elT H 0) 5) 0)) 0),wLq tV H 0 5 0 1,wLq (tLs tV) H 0 5 0 2,wLq tV H 0 5 0 3,wLq tI H 0 5 0 4,wIq H 0 5 0 5,wLq tV H 0 5 0 6⟩,⟨4⟩)⟩,⟨ru2 4 (.s (.o (.lit .i64 0))::ru2 22 (.s (.o (.sl 0 0 (some 0) (some 6)))::.s (.o (.lit .i64 6))::.s (.o (.lit .i64 5))::ru2 11 [])),[⟨77,2,true,some [[.fn 100034 [.o .val,.c 3 (nL tV),.c 1 (nL (tLs tV)),.c 3 (nL tV),.c 1 (nL tI),.o (.int .i64),.c 3 (nL tV)],.o (.lit .i64 10)],[.fn 100035 [.o .val,.c 3 (nL tV),.c 1 (nL (tLs tV)),.c 3 (nL tV),.c 1 (nL tI),.o (.int .i64),.c 3 (nL tV)],.o (.lit .i64 2)],[.fn 100036 [.o .val,.c 3 (nL tV),.c 1 (nL (tLs tV)),.c 3 (nL tV),.c 1 (nL tI),.o (.int .i64),.c 3 (nL tV)],.o (.lit .i64 3)],[.fn 100037 [.o .val,.c 3 (nL tV),.c 1 (nL (tLs tV)),.c 3 (nL tV),.c 1 (nL tI),.o (.int .i64),.c 3 (nL tV)],.o (.lit .i64 11)],[.fn 100038 [.o .val,.c 3 (nL tV),.c 1 (nL (tLs tV)),.c 3 (nL tV),.c 1 (nL tI),.o (.int .i64),.c 3 (nL tV)],.o (.lit .i64 7)],[.fn 100039 [.o .val,.c 3 (nL tV),.c 1 (nL (tLs tV)),.c 3 (nL tV),.c 1 (nL tI),.o (.int .i64),.c 3 (nL tV)],.o (.lit .i64 15)]]⟩],λa H=>(⟨Y8 (slT (cellsOf (slT (rwT (elT H 0) 0) 0)) 0),wLq tV H 0 0 0 1,wLq (tLs tV) H 0 0 0 2,wLq tV H 0 0 0 3,wLq tI H 0 0 0 4,wIq H 0 0 0 5,wLq tV H 0 0 0 6,Y8 (slT (cellsOf (slT (rwT (elT H 0) 1) 0)) 0),wLq tV H 0 1 0 1,wLq (tLs tV) H 0 1 0 2,wLq tV H 0 1 0 3,wLq tI H 0 1 0 4,wIq H 0 1 0 5,wLq tV H 0 1 0 6,Y8 (slT (cellsOf (slT (rwT (elT H 0) 2) 0)) 0),wLq tV H 0 2 0 1,wLq (tLs tV) H 0 2 0 2,wLq tV H 0 2 0 3,wLq tI H 0 2 0 4,wIq H 0 2 0 5,wLq tV H 0 2 0 6,Y8 (slT (cellsOf (slT (rwT (elT H 0) 3) 0)) 0),wLq tV H 0 3 0 1,wLq (tLs tV) H 0 3 0 2,wLq tV H 0 3 0 3,wLq tI H 0 3 0 4,wIq H 0 3 0 5,wLq tV H 0 3 0 6,Y8 (slT (cellsOf (slT (rwT (elT H 0) 4) 0)) 0),wLq tV H 0 4 0 1,wLq (tLs tV) H 0 4 0 2,wLq tV H 0 4 0 3,wLq tI H 0 4 0 4,wIq H 0 4 0 5,wLq tV H 0 4 0 6,Y8 (slT (cellsOf (slT (rwT (elT H 0) 5) 0)) 0),wLq tV H 0 5 0 1,wLq (tLs tV) H 0 5 0 2,wLq tV H 0 5 0 3,wLq tI H 0 5 0 4,wIq H 0 5 0 5,wLq tV H 0 5 0 6⟩,⟨5⟩)⟩,⟨ru2 4 (.s (.o (.lit .i64 0))::ru2 22 (.s (.o (.sl 0 0 (some 0) (some 6)))::.s (.o (.lit .i64 6))::.s (.o (.lit .i64 6))::ru2 11 [])),[⟨77,2,true,some [[.fn 100034 [.o .val,.c 3 (nL tV),.c 1 (nL (tLs tV)),.c 3 (nL tV),.c 1 (nL tI),.o (.int .i64),.c 3 (nL tV)],.o (.lit .i64 10)],[.fn 100035 [.o .val,.c 3 (nL tV),.c 1 (nL (tLs tV)),.c 3 (nL tV),.c 1 (nL tI),.o (.int .i64),.c 3 (nL tV)],.o (.lit .i64 2)],[.fn 100036 [.o .val,.c 3 (nL tV),.c 1 (nL (tLs tV)),.c 3 (nL tV),.c 1 (nL tI),.o (.int .i64),.c 3 (nL tV)],.o (.lit .i64 3)],[.fn 100037 [.o .val,.c 3 (nL tV),.c 1 (nL (tLs tV)),.c 3 (nL tV),.c 1 (nL tI),.o (.int .i64),.c 3 (nL tV)],.o (.lit .i64 11)],[.fn 100038 [.o .val,.c 3 (nL tV),.c 1 (nL (tLs tV)),.c 3 (nL tV),.c 1 (nL tI),.o (.int .i64),.c 3 (nL tV)],.o (.lit .i64 7)],[.fn 100039 [.o .val,.c 3 (nL tV),.c 1 (nL (tLs tV)),.c 3 (nL tV),.c 1 (nL tI),.o (.int .i64),.c 3 (nL tV)],.o (.lit .i64 15)]]⟩],λa H=>(⟨Y8 (slT (cellsOf (slT (rwT (elT H 0) 0) 0)) 0),wLq tV H 0 0 0 1,wLq (tLs tV) H 0 0 0 2,wLq tV H 0 0 0 3,wLq tI H 0 0 0 4,wIq H 0 0 0 5,wLq tV H 0 0 0 6,Y8 (slT (cellsOf (slT (rwT (elT H 0) 1) 0)) 0),wLq tV H 0 1 0 1,wLq (tLs tV) H 0 1 0 2,wLq tV H 0 1 0 3,wLq tI H 0 1 0 4,wIq H 0 1 0 5,wLq tV H 0 1 0 6,Y8 (slT (cellsOf (slT (rwT (elT H 0) 2) 0)) 0),wLq tV H 0 2 0 1,wLq (tLs tV) H 0 2 0 2,wLq tV H 0 2 0 3,wLq tI H 0 2 0 4,wIq H 0 2 0 5,wLq tV H 0 2 0 6,Y8 (slT (cellsOf (slT (rwT (elT H 0) 3) 0)) 0),wLq tV H 0 3 0 1,wLq (tLs tV) H 0 3 0 2,wLq tV H 0 3 0 3,wLq tI H 0 3 0 4,wIq H 0 3 0 5,wLq tV H 0 3 0 6,Y8 (slT (cellsOf (slT (rwT (elT H 0) 4) 0)) 0),wLq tV H 0 4 0 1,wLq (tLs tV) H 0 4 0 2,wLq tV H 0 4 0 3,wLq tI H 0 4 0 4,wIq H 0 4 0 5,wLq tV H 0 4 0 6,Y8 (slT (cellsOf (slT (rwT (elT H 0) 5) 0)) 0),wLq tV H 0 5 0 1,wLq (tLs tV) H 0 5 0 2,wLq tV H 0 5 0 3,wLq tI H 0 5 0 4,wIq H 0 5 0 5,wLq tV H 0 5 0 6⟩,⟨6⟩)⟩],q7,[(some 0,λp s=>let t1:=(Z7 (⟨p.G4,rt tV p.r7,rt (tLs tV) p.o4,rt tV p.r9,rt tI p.s6,p.G5,rt tV p.s7⟩:Tol));⟨ra 4 (i 10::.unk::.ptr 1 0 0 0::ra 20 (.sl 0 0 6 0::i 6::i 0::b true::.ptr 0 0 0 0::.agg [.fn 100034 [.v (.string p.G4),eL tV p.r7,eL (tLs tV) p.o4,eL tV p.r9,eL tI p.s6,i p.G5,eL tV p.s7],i 10]::.ptr 1 0 0 0::.fn 100034 [.v (.string p.G4),eL tV p.r7,eL (tLs tV) p.o4,eL tV p.r9,eL tI p.s6,i p.G5,eL tV p.s7]::b t1::b (!t1)::.ptr 1 0 1 0::i 10::.unk::.unk::[])),[bq 77 2 [[.fn 100034 [.v (.string p.G4),eL tV p.r7,eL (tLs tV) p.o4,eL tV p.r9,eL tI p.s6,i p.G5,eL tV p.s7],i 10],[.fn 100035 [.v (.string p.G6),eL tV p.s8,eL (tLs tV) p.o5,eL tV p.s9,eL tI p.u7,i p.G7,eL tV p.u9],i 2],[.fn 100036 [.v (.string p.G8),eL tV p.v7,eL (tLs tV) p.o6,eL tV p.v8,eL tI p.w6,i p.G9,eL tV p.w7],i 3],[.fn 100037 [.v (.string p.H5),eL tV p.w8,eL (tLs tV) p.o7,eL tV p.w9,eL tI p.z6,i p.H6,eL tV p.z7],i 11],[.fn 100038 [.v (.string p.H7),eL tV p.z8,eL (tLs tV) p.o8,eL tV p.A0,eL tI p.A1,i p.H8,eL tV p.A2],i 7],[.fn 100039 [.v (.string p.H9),eL tV p.A3,eL (tLs tV) p.o9,eL tV p.A4,eL tI p.A5,i p.I0,eL tV p.A6],i 15]],bq 0 2 [[.fn 100034 [.v (.string p.G4),eL tV p.r7,eL (tLs tV) p.o4,eL tV p.r9,eL tI p.s6,i p.G5,eL tV p.s7],i 10]]]⟩),(some 0,λp s=>let t1:=(S9 (⟨p.G6,rt tV p.s8,rt (tLs tV) p.o5,rt tV p.s9,rt tI p.u7,p.G7,rt tV p.u9⟩:Tol));⟨ra 4 (i 2::.unk::.ptr 1 0 0 0::ra 20 (.sl 0 0 6 0::i 6::i 1::b true::.ptr 0 1 0 0::.agg [.fn 100035 [.v (.string p.G6),eL tV p.s8,eL (tLs tV) p.o5,eL tV p.s9,eL tI p.u7,i p.G7,eL tV p.u9],i 2]::.ptr 1 0 0 0::.fn 100035 [.v (.string p.G6),eL tV p.s8,eL (tLs tV) p.o5,eL tV p.s9,eL tI p.u7,i p.G7,eL tV p.u9]::b t1::b (!t1)::.ptr 1 0 1 0::i 2::.unk::.unk::[])),[bq 77 2 [[.fn 100034 [.v (.string p.G4),eL tV p.r7,eL (tLs tV) p.o4,eL tV p.r9,eL tI p.s6,i p.G5,eL tV p.s7],i 10],[.fn 100035 [.v (.string p.G6),eL tV p.s8,eL (tLs tV) p.o5,eL tV p.s9,eL tI p.u7,i p.G7,eL tV p.u9],i 2],[.fn 100036 [.v (.string p.G8),eL tV p.v7,eL (tLs tV) p.o6,eL tV p.v8,eL tI p.w6,i p.G9,eL tV p.w7],i 3],[.fn 100037 [.v (.string p.H5),eL tV p.w8,eL (tLs tV) p.o7,eL tV p.w9,eL tI p.z6,i p.H6,eL tV p.z7],i 11],[.fn 100038 [.v (.string p.H7),eL tV p.z8,eL (tLs tV) p.o8,eL tV p.A0,eL tI p.A1,i p.H8,eL tV p.A2],i 7],[.fn 100039 [.v (.string p.H9),eL tV p.A3,eL (tLs tV) p.o9,eL tV p.A4,eL tI p.A5,i p.I0,eL tV p.A6],i 15]],bq 0 2 [[.fn 100035 [.v (.string p.G6),eL tV p.s8,eL (tLs tV) p.o5,eL tV p.s9,eL tI p.u7,i p.G7,eL tV p.u9],i 2]]]⟩),(some 0,λp s=>let t1:=(W4 (⟨p.G8,rt tV p.v7,rt (tLs tV) p.o6,rt tV p.v8,rt tI p.w6,p.G9,rt tV p.w7⟩:Tol));⟨ra 4 (i 3::.unk::.ptr 1 0 0 0::ra 20 (.sl 0 0 6 0::i 6::i 2::b true::.ptr 0 2 0 0::.agg [.fn 100036 [.v (.string p.G8),eL tV p.v7,eL (tLs tV) p.o6,eL tV p.v8,eL tI p.w6,i p.G9,eL tV p.w7],i 3]::.ptr 1 0 0 0::.fn 100036 [.v (.string p.G8),eL tV p.v7,eL (tLs tV) p.o6,eL tV p.v8,eL tI p.w6,i p.G9,eL tV p.w7]::b t1::b (!t1)::.ptr 1 0 1 0::i 3::.unk::.unk::[])),[bq 77 2 [[.fn 100034 [.v (.string p.G4),eL tV p.r7,eL (tLs tV) p.o4,eL tV p.r9,eL tI p.s6,i p.G5,eL tV p.s7],i 10],[.fn 100035 [.v (.string p.G6),eL tV p.s8,eL (tLs tV) p.o5,eL tV p.s9,eL tI p.u7,i p.G7,eL tV p.u9],i 2],[.fn 100036 [.v (.string p.G8),eL tV p.v7,eL (tLs tV) p.o6,eL tV p.v8,eL tI p.w6,i p.G9,eL tV p.w7],i 3],[.fn 100037 [.v (.string p.H5),eL tV p.w8,eL (tLs tV) p.o7,eL tV p.w9,eL tI p.z6,i p.H6,eL tV p.z7],i 11],[.fn 100038 [.v (.string p.H7),eL tV p.z8,eL (tLs tV) p.o8,eL tV p.A0,eL tI p.A1,i p.H8,eL tV p.A2],i 7],[.fn 100039 [.v (.string p.H9),eL tV p.A3,eL (tLs tV) p.o9,eL tV p.A4,eL tI p.A5,i p.I0,eL tV p.A6],i 15]],bq 0 2 [[.fn 100036 [.v (.string p.G8),eL tV p.v7,eL (tLs tV) p.o6,eL tV p.v8,eL tI p.w6,i p.G9,eL tV p.w7],i 3]]]⟩),(some 0,λp s=>let t1:=(Z9 (⟨p.H5,rt tV p.w8,rt (tLs tV) p.o7,rt tV p.w9,rt tI p.z6,p.H6,rt tV p.z7⟩:Tol));⟨ra 4 (i 11::.unk::.ptr 1 0 0 0::ra 20 (.sl 0 0 6 0::i 6::i 3::b true::.ptr 0 3 0 0::.agg [.fn 100037 [.v (.string p.H5),eL tV p.w8,eL (tLs tV) p.o7,eL tV p.w9,eL tI p.z6,i p.H6,eL tV p.z7],i 11]::.ptr 1 0 0 0::.fn 100037 [.v (.string p.H5),eL tV p.w8,eL (tLs tV) p.o7,eL tV p.w9,eL tI p.z6,i p.H6,eL tV p.z7]::b t1::b (!t1)::.ptr 1 0 1 0::i 11::.unk::.unk::[])),[bq 77 2 [[.fn 100034 [.v (.string p.G4),eL tV p.r7,eL (tLs tV) p.o4,eL tV p.r9,eL tI p.s6,i p.G5,eL tV p.s7],i 10],[.fn 100035 [.v (.string p.G6),eL tV p.s8,eL (tLs tV) p.o5,eL tV p.s9,eL tI p.u7,i p.G7,eL tV p.u9],i 2],[.fn 100036 [.v (.string p.G8),eL tV p.v7,eL (tLs tV) p.o6,eL tV p.v8,eL tI p.w6,i p.G9,eL tV p.w7],i 3],[.fn 100037 [.v (.string p.H5),eL tV p.w8,eL (tLs tV) p.o7,eL tV p.w9,eL tI p.z6,i p.H6,eL tV p.z7],i 11],[.fn 100038 [.v (.string p.H7),eL tV p.z8,eL (tLs tV) p.o8,eL tV p.A0,eL tI p.A1,i p.H8,eL tV p.A2],i 7],[.fn 100039 [.v (.string p.H9),eL tV p.A3,eL (tLs tV) p.o9,eL tV p.A4,eL tI p.A5,i p.I0,eL tV p.A6],i 15]],bq 0 2 [[.fn 100037 [.v (.string p.H5),eL tV p.w8,eL (tLs tV) p.o7,eL tV p.w9,eL tI p.z6,i p.H6,eL tV p.z7],i 11]]]⟩),(some 0,λp s=>let t1:=(T5 (⟨p.H7,rt tV p.z8,rt (tLs tV) p.o8,rt tV p.A0,rt tI p.A1,p.H8,rt tV p.A2⟩:Tol));⟨ra 4 (i 7::.unk::.ptr 1 0 0 0::ra 20 (.sl 0 0 6 0::i 6::i 4::b true::.ptr 0 4 0 0::.agg [.fn 100038 [.v (.string p.H7),eL tV p.z8,eL (tLs tV) p.o8,eL tV p.A0,eL tI p.A1,i p.H8,eL tV p.A2],i 7]::.ptr 1 0 0 0::.fn 100038 [.v (.string p.H7),eL tV p.z8,eL (tLs tV) p.o8,eL tV p.A0,eL tI p.A1,i p.H8,eL tV p.A2]::b t1::b (!t1)::.ptr 1 0 1 0::i 7::.unk::.unk::[])),[bq 77 2 [[.fn 100034 [.v (.string p.G4),eL tV p.r7,eL (tLs tV) p.o4,eL tV p.r9,eL tI p.s6,i p.G5,eL tV p.s7],i 10],[.fn 100035 [.v (.string p.G6),eL tV p.s8,eL (tLs tV) p.o5,eL tV p.s9,eL tI p.u7,i p.G7,eL tV p.u9],i 2],[.fn 100036 [.v (.string p.G8),eL tV p.v7,eL (tLs tV) p.o6,eL tV p.v8,eL tI p.w6,i p.G9,eL tV p.w7],i 3],[.fn 100037 [.v (.string p.H5),eL tV p.w8,eL (tLs tV) p.o7,eL tV p.w9,eL tI p.z6,i p.H6,eL tV p.z7],i 11],[.fn 100038 [.v (.string p.H7),eL tV p.z8,eL (tLs tV) p.o8,eL tV p.A0,eL tI p.A1,i p.H8,eL tV p.A2],i 7],[.fn 100039 [.v (.string p.H9),eL tV p.A3,eL (tLs tV) p.o9,eL tV p.A4,eL tI p.A5,i p.I0,eL tV p.A6],i 15]],bq 0 2 [[.fn 100038 [.v (.string p.H7),eL tV p.z8,eL (tLs tV) p.o8,eL tV p.A0,eL tI p.A1,i p.H8,eL tV p.A2],i 7]]]⟩),(some 0,λp s=>let t1:=(W6 (⟨p.H9,rt tV p.A3,rt (tLs tV) p.o9,rt tV p.A4,rt tI p.A5,p.I0,rt tV p.A6⟩:Tol));⟨ra 4 (i 15::.unk::.ptr 1 0 0 0::ra 20 (.sl 0 0 6 0::i 6::i 5::b true::.ptr 0 5 0 0::.agg [.fn 100039 [.v (.string p.H9),eL tV p.A3,eL (tLs tV) p.o9,eL tV p.A4,eL tI p.A5,i p.I0,eL tV p.A6],i 15]::.ptr 1 0 0 0::.fn 100039 [.v (.string p.H9),eL tV p.A3,eL (tLs tV) p.o9,eL tV p.A4,eL tI p.A5,i p.I0,eL tV p.A6]::b t1::b (!t1)::.ptr 1 0 1 0::i 15::.unk::.unk::[])),[bq 77 2 [[.fn 100034 [.v (.string p.G4),eL tV p.r7,eL (tLs tV) p.o4,eL tV p.r9,eL tI p.s6,i p.G5,eL tV p.s7],i 10],[.fn 100035 [.v (.string p.G6),eL tV p.s8,eL (tLs tV) p.o5,eL tV p.s9,eL tI p.u7,i p.G7,eL tV p.u9],i 2],[.fn 100036 [.v (.string p.G8),eL tV p.v7,eL (tLs tV) p.o6,eL tV p.v8,eL tI p.w6,i p.G9,eL tV p.w7],i 3],[.fn 100037 [.v (.string p.H5),eL tV p.w8,eL (tLs tV) p.o7,eL tV p.w9,eL tI p.z6,i p.H6,eL tV p.z7],i 11],[.fn 100038 [.v (.string p.H7),eL tV p.z8,eL (tLs tV) p.o8,eL tV p.A0,eL tI p.A1,i p.H8,eL tV p.A2],i 7],[.fn 100039 [.v (.string p.H9),eL tV p.A3,eL (tLs tV) p.o9,eL tV p.A4,eL tI p.A5,i p.I0,eL tV p.A6],i 15]],bq 0 2 [[.fn 100039 [.v (.string p.H9),eL tV p.A3,eL (tLs tV) p.o9,eL tV p.A4,eL tI p.A5,i p.I0,eL tV p.A6],i 15]]]⟩),(some 0,λp s=>upq (Mb4 p s) [(30,b false)])],Tc2⟩
theorem Tc3:ub3.Ok:=Qjh [] .nil λp s=>(.sel (Nat.beq s.ph 6) (.ofq @Mb5) (.sel (Nat.beq s.ph 5) (.ofq @Ja0) (.sel (Nat.beq s.ph 4) (.ofq @Ia9) (.sel (Nat.beq s.ph 3) (.ofq @Ia8) (.sel (Nat.beq s.ph 2) (.ofq @Ia7) (.sel (Nat.beq s.ph 1) (.ofq @Ia6) (.ofq @Ia5)))))))
def Xa1(x:Tol):ROq:=let y1:=(rt (tLs tV) x.inn);let y0:=(cnE (tLs tV) x.inn);let t1:=(lp (q7 (⟨x.nm,rt tV x.ou,y1,rt tV x.ho,rt tI x.li,x.ru,rt tV x.fo,x.nm,rt tV x.ou,y1,rt tV x.ho,rt tI x.li,x.ru,rt tV x.fo,x.nm,rt tV x.ou,y1,rt tV x.ho,rt tI x.li,x.ru,rt tV x.fo,x.nm,rt tV x.ou,y1,rt tV x.ho,rt tI x.li,x.ru,rt tV x.fo,x.nm,rt tV x.ou,y1,rt tV x.ho,rt tI x.li,x.ru,rt tV x.fo,x.nm,rt tV x.ou,y1,rt tV x.ho,rt tI x.li,x.ru,rt tV x.fo⟩:m0)) (⟨0⟩:i5));(sl ((cnE tV x.ou)&&(y0&&((cnE tV x.ho)&&((cnE tI x.li)&&((cnE tV x.fo)&&((cnE tV x.ou)&&(y0&&((cnE tV x.ho)&&((cnE tI x.li)&&((cnE tV x.fo)&&((cnE tV x.ou)&&(y0&&((cnE tV x.ho)&&((cnE tI x.li)&&((cnE tV x.fo)&&((cnE tV x.ou)&&(y0&&((cnE tV x.ho)&&((cnE tI x.li)&&((cnE tV x.fo)&&((cnE tV x.ou)&&(y0&&((cnE tV x.ho)&&((cnE tI x.li)&&((cnE tV x.fo)&&((cnE tV x.ou)&&(y0&&((cnE tV x.ho)&&((cnE tI x.li)&&((cnE tV x.fo)&&true)))))))))))))))))))))))))))))) (sl (Nat.beq t1.1 1) (some (i 10,[])) (sl (Nat.beq t1.1 2) (some (i 2,[])) (sl (Nat.beq t1.1 3) (some (i 3,[])) (sl (Nat.beq t1.1 4) (some (i 11,[])) (sl (Nat.beq t1.1 5) (some (i 7,[])) (sl (Nat.beq t1.1 6) (some (i 15,[])) (sl (Nat.beq t1.1 7) (some (i 0,[])) none))))))) none)
def Xa2(x:Tol):Int:=O8 (one r1I) (Xa1 x)
def Xa3(x:Tol):Bool:=okO (one r1I) (Xa1 x)
def Ac0:Sum:=L6 cT (λx=>.guard (Xa3 x) (.ret ((one r1I).enc (Xa2 x),[])))
theorem mc2:d9 prog G 13 Ac0:=Ec5 (bd b13 kd2) (one r1I) (o:=Xa1) λx=>ha5 (.s .p (.s .p (.s .p (.s .p (.s (.s .p (.b (.u ub3.ls))) .p))))) [ub3.pr] (.cons Tc3 .nil)
structure ub4 where
 (is0 c9:Int)
def ub6{α:Type}(kk:ib3->α)(x:ub4):α:=(kk ⟨decide (x.c9<x.is0)⟩)
def ub7(x:ub4):ib3:=ub6 (λr=>r) x
def Tb0(x:ub4)(r:ib3):DT (a7×List b7):=.ret (b r.bs0,[bq 0 1 [[i x.c9]]])
def cc3:Sum:=va9 ⟨[sIq,sPq 0],[⟨0,1,true,some [[.o (.int .i64)]]⟩],λa H=>(⟨aIq a 0,hIq H 0 0 0⟩,())⟩ (λx=>Tb0 x (ub7 x))
theorem Tc4:d9 prog G 46 cc3:=r5 (enc:=λx=>⟨[i x.is0,.ptr 0 0 0 0],[bq 0 1 [[i x.c9]]]⟩) (λa H=>by kernel_rfl) (bd b46 gb5) λx=>ha4 (mEq @ub6 (λr=>(Tb0 x r).run) x)
structure va2 where
 Ga8:List Int
 c9:Int
def Oa6:List (Nat×Sum):=[(46,cc3)]
theorem yb7:l6 prog G Oa6:=⟨Tc4,trivial⟩
structure M6 where
 Ga8:List Int
 (is7 c9:Int)
def Ga2(p:M6)(s:m9):St:=⟨eL tI p.Ga8::.fn 46 [.ptr 0 0 0 0]::ra 5 (i p.is7::i s.is8::ra 10 []),[bq 0 1 [[i p.c9]]]⟩
def R5{α:Type}(k:m9->α)(e:Nat->α)(z:α)(p:M6)(s:m9):α:=let t1:=(ub7 ⟨gL tI p.Ga8 s.is8.toNat,p.c9⟩);(sl (decide (s.is8<p.is7)) (sl (inB s.is8 (List.length p.Ga8)) (sl t1.bs0 (e 1) (k ⟨W (s.is8+1)⟩)) z) (e 2))
def K7(p:M6)(s:m9):Stp m9:=R5 .next .exit .fail p s
def ma5:Lo M6 m9:=⟨En Oa6,1,ef2,[1,0,1,4,4],[0,1,7,8],.p,[⟨sLq tI::.fn 46 [.o (.ptr 0 0 0 0)]::ru2 5 (sIq::sIq::ru2 10 []),[⟨0,1,true,some [[.o (.int .i64)]]⟩],λa H=>(⟨aLq tI a 0,aIq a 7,hIq H 0 0 0⟩,⟨aIq a 8⟩)⟩],K7,[(none,λp s=>⟨[i s.is8],[bq 0 1 [[i p.c9]]]⟩),(some 0,λp s=>upq (Ga2 p s) [(9,b (decide (s.is8<p.is7)))])],Ga2⟩
theorem ub8:ma5.Ok:=Qjh [] .nil λp s=>(.ofq @R5)
def va4{α:Type}(kk:ra7->α)(x:va2):α:=let t1:=(lp (K7 (⟨rt tI x.Ga8,(↑(List.length x.Ga8):Int),x.c9⟩:M6)) (⟨0⟩:m9));(sl ((cnE tI x.Ga8)&&true) (sl (Nat.beq t1.1 1) (kk ⟨1,t1.2.is8⟩) (sl (Nat.beq t1.1 2) (kk ⟨1,-1⟩) (kk ⟨0,0⟩))) (kk ⟨0,0⟩))
def ca0(x:va2):ra7:=va4 (λr=>r) x
def Oa7(x:va2)(r:ra7):DT (a7×List b7):=(xa6 r.alt 1 (i r.is0,[bq 0 1 [[i x.c9]]]) .fail)
def Ta5:Sum:=va9 ⟨[sLq tI,.fn 46 [.o (.ptr 0 0 0 0)]],[⟨0,1,true,some [[.o (.int .i64)]]⟩],λa H=>(⟨aLq tI a 0,hIq H 0 0 0⟩,())⟩ (λx=>Oa7 x (ca0 x))
theorem Gb7:d9 prog G 45 Ta5:=r5 (enc:=λx=>⟨[eL tI x.Ga8,.fn 46 [.ptr 0 0 0 0]],[bq 0 1 [[i x.c9]]]⟩) (λa H=>by kernel_rfl) (bd b45 yb7) λx=>ha5 (.s .p (.s (.s .p (.b (.u ma5.ls))) .p)) [ma5.pr] (.cons ub8 .nil) (mEq @va4 (λr=>(Oa7 x r).run) x)
def od6:List (Nat×Sum):=[(13,Ac0),(45,Ta5)]
theorem kd5:l6 prog G od6:=⟨mc2,Gb7,trivial⟩
def Xa4(x:Tol)(y:Int):ROq:=let y0:=(⟨x.nm,rt tV x.ou,rt (tLs tV) x.inn,rt tV x.ho,rt tI x.li,x.ru,rt tV x.fo⟩:Tol);let t1:=(Xa2 y0);let t2:=(ca0 ⟨rt tI x.li,y⟩);(sl ((okE tV x.ou)&&((okE (tLs tV) x.inn)&&((okE tV x.ho)&&((okE tI x.li)&&((okE tV x.fo)&&true))))) (sl (Xa3 y0) (sl (t1 != 0) (some (.tup [i 0,b false],[])) (sl (decide (y<0)) (some (.tup [i 0,b false],[])) (sl ((cnE tI x.li)&&true) (sl (Nat.beq t2.alt 1) (some ((.tup [(i (if 0>t2.is0 then 0 else t2.is0)),b (decide (t2.is0>=0))]),[])) none) none))) none) none)
def Ja1(x:Tol)(y:Int):Int×Bool:=O8 (two r1I r1B) (Xa4 x y)
def Ja2(x:Tol)(y:Int):Bool:=okO (two r1I r1B) (Xa4 x y)
def Qb9:Sum:=Ha5 cT cI (λx y=>.guard (Ja2 x y) (.ret ((two r1I r1B).enc (Ja1 x y),[])))
theorem mc3:d9 prog G 16 Qb9:=Yb9 (bd b16 kd5) (two r1I r1B) (o:=Xa4)
theorem Cd8:cb7 []=Ea9 []/\cb8 []=true:=by
 have h:Ma7 []=some (.tup [.v (.slice none 0 0),i 11],[]):=by
  unfold Ma7;simp only[i8,G3,j6,zc4 [] (by simp),zc3 [] (by simp),zc6]
  rfl
 unfold cb7 cb8 Ea9;rw[h,zc6];exact⟨rfl,rfl⟩
theorem sf2:jb1 []=E0 []/\jb2 []=true:=by
 have h:ya6 []=some (.tup [.v (.slice none 0 0),i 11],[]):=by
  unfold ya6;simp only[i8,G3,j6,Cd8.1,Cd8.2,Ea9,zc6];rfl
 unfold jb1 jb2 E0;rw[h,zc6];exact⟨rfl,rfl⟩
theorem Cd9{α:Type}{f:Nat}{c:Cod α}{k kA kB:α->DT (a7×List b7)}(hA:d9 prog G f (L6 c kA))(hB:d9 prog G f (L6 c kB))
  (h:∀a r,(k a).run=some r->(kA a).run=some r\/(kB a).run=some r):d9 prog G f (L6 c k):=λargs blks r out he=>by
 unfold L6 at he
 split at he
 ·rename_i x;cases hd:c.dec x with
  |none=>rw[hd] at he;cases he
  |some a =>
   rw[hd] at he;obtain⟨h1,h2⟩:=DT.run_guard_some (show (DT.guard (c.grd x) (k a)).run=some (r,out) from he)
   rcases h a _ h2 with q|q
   ·refine hA [x] [] r out ?_;show (onO (c.dec x) λa=>DT.guard (c.grd x) (kA a)).run=_
    rw[hd];show (DT.guard (c.grd x) (kA a)).run=_;rw[h1];exact q
   ·refine hB [x] [] r out ?_;show (onO (c.dec x) λa=>DT.guard (c.grd x) (kB a)).run=_
    rw[hd];show (DT.guard (c.grd x) (kB a)).run=_;rw[h1];exact q
 ·cases he
def db0(l:List V3):PLq×Int:=Ea9 l
def Gb8(l:List V3):Bool:=decide (l.length<=900000)
def mc4:Sum:=L6 (db5 tV) λl=>.guard (Gb8 l) (.ret ((two (r1L tP) r1I).enc (db0 l),[]))
theorem kd6:d9 prog G 24 mc4:=Cd9 bc7 ac7 λl r hr=>by
 obtain⟨hg,hr⟩:=DT.run_guard_some hr;cases l with
 |nil=>right;rw[Cd8.1,Cd8.2];exact hr
 |cons a c =>
  left
  have:=of_decide_eq_true hg
  rw[show Ma8 (a::c)=true from decide_eq_true ⟨by simp,this⟩]
  exact hr
def kb2(l:List V3):List V3×Int:=E0 l
def kb3(l:List V3):Bool:=decide (l.length<=900000)
def Tb1:Sum:=L6 (db5 tV) λl=>.guard (kb3 l) (.ret ((two (r1L tV) r1I).enc (kb2 l),[]))
theorem Kc3:d9 prog G 53 Tb1:=Cd9 Jc6 Ic0 λl r hr=>by
 obtain⟨hg,hr⟩:=DT.run_guard_some hr;cases l with
 |nil=>right;rw[sf2.1,sf2.2];exact hr
 |cons a c =>
  left
  have:=of_decide_eq_true hg
  rw[show Sb7 (a::c)=true from decide_eq_true ⟨by simp,this⟩]
  exact hr
end Go.Ev.Ce
