/- Own work. -/
import Derived.Test.YtgphembaimondaaGreatDoorEvOjJ4
import Derived.ChangeStays
import Derived.ChangeSame
import Derived.OpenShut
import Derived.RowKit
import Derived.Shelf.Strings.SlTrimAscii
set_option linter.all false
noncomputable section
def Qka:=@Option.bind_eq_some_iff
def Qkb:=@List.filter_append
def Qkc:=@List.filter_cons
def Qkd:=@List.findIdx_getElem
def Qke:=@List.getElem?_range
def Qkf:=@Array.size_push
def Qkg:=@List.length_filter_le
def Qkh:=@List.length_take_le
def Qki:=@Bool.not_eq_false'
def Qkj:=@List.mem_singleton
def Qkk:=@Go.Ev.Ce.Rd.sl
namespace Go.Ev.Ce
open Go Go.Ev Go.Ev.L Go.Proofs
theorem Gd4{F:PLq}(h:∀p∈F,okp p=true){k:Nat}(hk:k<F.length):Bd (gL tP F k):=Ya9 (h _ (Gc0 tP hk))
theorem Fe4{n:V3}{r:Pln}(hn:Sm 42467328 n.x/\Sm 42467328 n.y/\Sm 42467328 n.z)(hr:Bd r):M4 n r.n=dot n r.n:=by
 obtain⟨⟨a1,a2⟩,⟨a3,a4⟩,a5,a6⟩:=hn;have r1:=mb a1 a2 hr.x1 hr.x2;have r2:=mb a3 a4 hr.y1 hr.y2;have r3:=mb a5 a6 hr.z1 hr.z2;unfold M4;simp only[ib2,Cb4];rw[E7 (by omega) (by omega)]
 rfl
theorem Fe5(l:PLq)(n:V3)(hn:Sm 42467328 n.x/\Sm 42467328 n.y/\Sm 42467328 n.z)(hF:∀p∈l,okp p=true)(hl:l.length<=1000000000) :
  M8 ⟨l,n.x,n.y,n.z⟩=⟨1,if l.any (λr=>dot n r.n != 0) then ((l.findIdx (λr=>dot n r.n != 0):Nat):Int) else -1⟩:=by
 have h:=Ja5 (step:=A9 ⟨l,(l.length:Int),n.x,n.y,n.z⟩) (mk:=λj=>(⟨(j:Int)⟩:U2)) (c:=λr=>dot n r.n != 0) (u:=1) (fin:=2) tP l hl
  (λj hj=>by
   have e:=Fe4 hn (Gd4 hF hj);simp only[A9,G3,Int.toNat_natCast,Pa8,Pa7,e,n7 hj (show l.length<=4611686018427387904 by omega)]
   rw[btD (k8 hj),bt (g7 hj)])
  (by simp only[A9,G3];rw[bfD (n9 (Qed _))]) 0 (Qee _)
 rw[Qic] at h;unfold M8 Z6;simp only[j9,i8];rw[show (⟨0⟩:U2)=⟨((0:Nat):Int)⟩ from rfl,h]
 split
 ·simp only[Qbh];rfl
 ·rfl
theorem Fe6(l:PLq)(n:V3)(hn:Sm 42467328 n.x/\Sm 42467328 n.y/\Sm 42467328 n.z)(hF:∀p∈l,okp p=true)(hl:l.length<=1000000000) :
  I0 ⟨l,n.x,n.y,n.z⟩=⟨1,l.any λr=>dot n r.n != 0⟩:=by
 unfold I0 T5;simp only[j9,i8,Fe5 l n hn hF hl];split
 ·rename_i h;rw[h,show decide (((l.findIdx (λr=>dot n r.n != 0):Nat):Int)>=0)=true from decide_eq_true (by omega)];rfl
 ·rename_i h;rw[Qjt] at h;rw[h];rfl
def Yd8(l:PLq)(a c:Nat):Bool:=l.any λr=>dot (d9 (gL tP l a).n (gL tP l c).n) r.n != 0
def vtx(l:PLq):Bool:=(List.range l.length).any λa=>(List.range a).any (Yd8 l a)
theorem Yd9{p q:Pln}(hp:Bd p)(hq:Bd q):V1 p.n q.n=d9 p.n q.n/\Sm 42467328 (d9 p.n q.n).x/\Sm 42467328 (d9 p.n q.n).y/\Sm 42467328 (d9 p.n q.n).z:=by
 obtain⟨k1,k2,k3⟩:=Db7 hp.n hq.n;refine⟨?_,k1,k2,k3⟩;rw[Be5,Aa1 (k1.mono (by omega)),Aa1 (k2.mono (by omega)),Aa1 (k3.mono (by omega))]
theorem Gd5(l:PLq)(hF:∀p∈l,okp p=true)(hl:l.length<=1000000)(a:Nat)(ha:a<l.length)(x9 x10:Int) :
  ∃j,lp (X0 ⟨l,l,x9,x10,a,(λk=>(λk=>tP.row (gL tP l k)) (0+k)),(a:Int),(gL tP l a).n.x,(gL tP l a).n.y,(gL tP l a).n.z,(gL tP l a).b⟩) ⟨0⟩=(if (List.range a).any (Yd8 l a) then 1 else 2,⟨((j:Nat):Int)⟩) :=
 Ic9 (step:=X0 ⟨l,l,x9,x10,a,(λk=>(λk=>tP.row (gL tP l k)) (0+k)),(a:Int),(gL tP l a).n.x,(gL tP l a).n.y,(gL tP l a).n.z,(gL tP l a).b⟩) (mk:=λj=>(⟨(j:Int)⟩:M6)) a (Yd8 l a) 1 2 (by omega)
  (λj hj=>by
   obtain⟨e,k1,k2,k3⟩:=Yd9 (Gd4 hF ha) (Gd4 hF (show j<l.length by omega))
   have rr:(⟨toI (hdA (tP.row (gL tP l j))),toI (hdA (tlA (tP.row (gL tP l j)))),toI (hdA (tlA (tlA (tP.row (gL tP l j)))))⟩:V3)=(gL tP l j).n:=rfl;have e':V1 ⟨(gL tP l a).n.x,(gL tP l a).n.y,(gL tP l a).n.z⟩ (gL tP l j).n=d9 (gL tP l a).n (gL tP l j).n:=e;simp only[X0,la8,Int.toNat_natCast,Qbh,rr,e',Ze6,j9,i8,Fe6 l _ ⟨k1,k2,k3⟩ hF (show l.length<=1000000000 by omega),n7 hj (show a<=4611686018427387904 by omega)]
   rw[btD (k8 hj),bt (g7 hj)];unfold Yd8;cases hz:((d9 (gL tP l a).n (gL tP l j).n).x==0&&((d9 (gL tP l a).n (gL tP l j).n).y==0&&((d9 (gL tP l a).n (gL tP l j).n).z==0&&true))) with
   |false=>rfl
   |true =>
    simp only[Qia,Qbd,beq_iff_eq] at hz
    have:(l.any λr=>dot (d9 (gL tP l a).n (gL tP l j).n) r.n != 0)=false:=by
     rw[Qcl];intro r _
     have:dot (d9 (gL tP l a).n (gL tP l j).n) r.n=0:=by unfold dot;rw[hz.1,hz.2.1,hz.2.2];simp only[Qjm,Int.add_zero]
     rw[this]
     decide
    rw[this]
    rfl)
  (by simp only[X0,la8];rw[bfD (n9 (Qed _))])
theorem Xc0(l:PLq)(hF:∀p∈l,okp p=true)(hl:l.length<=1000000):ua5 l=some (b (vtx l),[]):=by
 obtain⟨j,h⟩:=Ic9 (step:=X1 ⟨(l.length:Int)⟩) (mk:=λj=>(⟨l,l,(j:Int)⟩:M7)) l.length (λa=>(List.range a).any (Yd8 l a)) 1 2 (by omega)
  (λj hj=>by
   obtain⟨j',h1⟩:=Gd5 l hF hl j hj (l.length:Int) (j:Int);simp only[X1,la9,j9,i8,Int.toNat_natCast,Nat.sub_zero,n7 hj (show l.length<=4611686018427387904 by omega)]
   rw[btD (k8 hj),bt (g7 hj),bt (g7 (show j<l.length+1 by omega)),h1]
   cases (List.range j).any (Yd8 l j)<;>rfl)
  (by simp only[X1,la9];rw[bfD (n9 (Qed _))])
 have h:lp (X1 ⟨(l.length:Int)⟩) ⟨l,l,0⟩=(if vtx l then 1 else 2,⟨l,l,((j:Nat):Int)⟩):=h
 unfold ua5;simp only[j9,i8];rw[h];cases vtx l<;>rfl
theorem wd3(l:PLq)(hF:∀p∈l,okp p=true)(hl:l.length<=1000000):ka0 l=vtx l:=by unfold ka0;rw[Xc0 l hF hl];rfl
theorem wd4(l:PLq)(hF:∀p∈l,okp p=true)(hl:l.length<=1000000):ka1 l=true:=by unfold ka1;rw[Xc0 l hF hl];rfl
structure OkF(F:PLq):Prop where
 l:F.length<=1000000
 v:∀p∈F,okp p=true
def own(F:PLq)(v:V3):PLq:=F.filter λp=>Y9 p v==0
def kv(F:PLq)(v:V3):Bool:=vtx (own F v)
theorem Zd0(F:PLq)(v:V3)(hF:F.length<=1000000):∃j,lp (da1 ⟨F,(F.length:Int),F,v.x,v.y,v.z⟩) ⟨0,0,0,[]⟩=(phP (own F v)+1,⟨phP (own F v),((j:Nat):Int),(own F v).length,bL tP (own F v)⟩):=by
 have key:=L7 (step:=da1 ⟨F,(F.length:Int),F,v.x,v.y,v.z⟩) (mk:=λj (o:PLq)=>(⟨phP o,(j:Int),o.length,bL tP o⟩:m8)) F.length (λj o=>j<=F.length/\o=(F.take j).filter λp=>Y9 p v==0) (λt s=>t=phP (own F v)+1/\∃j:Nat,s=⟨phP (own F v),(j:Int),(own F v).length,bL tP (own F v)⟩) (by omega)
  (λj o hj hi=>by
   obtain⟨_,hi⟩:=hi;have hlen:o.length<=1000000:=by
    rw[hi];have h1:=Qkg (λp=>Y9 p v==0) (F.take j)
    have h2:=Qkh j F;omega
   have hn:=n7 hj (show F.length<=4611686018427387904 by omega)
   have hb:=g7 hj;have hT:(F.take (j+1)).filter (λp=>Y9 p v==0)=o++(if (Y9 (gL tP F j) v==0)=true then [gL tP F j] else []):=by
    rw[Hb7 tP hj,Qkb,<- hi,Qkc,List.filter_nil]
   have hnext : ∀ {s : m8} {o' : PLq}, o' = (F.take (j + 1)).filter (fun p => Y9 p v == 0) → s = ⟨phP o', ((j + 1 : Nat) : Int), o'.length, bL tP o'⟩ → Nx (.next s) (fun t => t = phP (own F v) + 1 ∧ ∃ j' : Nat, (⟨phP o, (j : Int), o.length, bL tP o⟩ : m8) = ⟨phP (own F v), (j' : Int), (own F v).length, bL tP (own F v)⟩)
     (λs=>∃o',s=(⟨phP o',((j+1:Nat):Int),o'.length,bL tP o'⟩:m8)/\(j+1<=F.length/\o'=(F.take (j+1)).filter λp=>Y9 p v==0)):=λ{s o'} ho' hs=>.nx ⟨o',hs,by omega,ho'⟩
   clear hi
   cases o with
   |nil =>
    show Nx (J1 Stp.next Stp.exit Stp.fail _ _) _ _;simp only[J1,Int.toNat_natCast,vc9,wc0,hn,hb];rw[btD (k8 hj)];cases hs:Y9 (gL tP F j) v==0 with
    |true=>exact hnext (o':=[gL tP F j]) (by rw[hT,hs];rfl) rfl
    |false=>exact hnext (o':=[]) (by rw[hT,hs];rfl) rfl
   |cons q o =>
    have rr:(Nat.beq (q::o).length (len (bL tP (q::o)))&&Nat.ble (((q::o).length+1)*32) room)=true:=Ib2 rfl (by omega)
    have ap:∀(O:PLq) (p:Pln),app (bL tP O) [[i p.n.x,i p.n.y,i p.n.z,i p.b]]=bL tP (O++[p]):=λO p=>xa2 tP O [p]
    show Nx (J2 Stp.next Stp.exit Stp.fail _ _) _ _;simp only[J2,Int.toNat_natCast,vc9,wc0,hn,hb,rr,ap];rw[btD (k8 hj)];cases hs:Y9 (gL tP F j) v==0 with
    |true=>exact hnext (o':=q::o++[gL tP F j]) (by rw[hT,hs];rfl) (by rw[Qea];rfl)
    |false=>exact hnext (o':=q::o) (by rw[hT,hs,if_neg (by simp),Qbad]) rfl)
  (λj o hj hi=>by
   obtain⟨h1,hi⟩:=hi;have e:j=F.length:=by omega
   subst e;have hO:o=own F v:=by rw[hi,List.take_length];rfl
   rw[<- hO];cases o with
   |nil =>
    refine⟨1,?_,rfl,F.length,rfl⟩;show J1 Stp.next Stp.exit Stp.fail _ _=_;simp only[J1];rw[bfD (n9 (Qed _))]
   |cons q o =>
    refine⟨2,?_,rfl,F.length,rfl⟩;show J2 Stp.next Stp.exit Stp.fail _ _=_;simp only[J2];rw[bfD (n9 (Qed _))]) 0 [] ⟨Qee _,by simp⟩
 obtain⟨t,s,h1,rfl,j,rfl⟩:=key;exact⟨j,h1⟩
theorem gd8(v:V3)(F:PLq)(hF:OkF F):N5 ⟨v.x,v.y,v.z,F⟩=⟨1,!kv F v,F⟩:=by
 obtain⟨j,h⟩:=Zd0 F v hF.l;have hv:∀p∈own F v,okp p=true:=λp hp=>hF.v p (Qfh.1 hp).1
 have hl:(own F v).length<=1000000:=Qad (Qkg _ _) hF.l;unfold N5 Ia4 kv;simp only[j9,i8];rw[h];cases ho:own F v with
 |nil =>
  have e:ka0 []=vtx []:=wd3 [] (λp hp=>by cases hp) (by simp)
  have e':ka1 []=true:=wd4 [] (λp hp=>by cases hp) (by simp)
  rw[e,e'];rfl
 |cons q o =>
  rw[ho] at hv hl;simp only[Va3,fb3,wd3 _ hv hl,wd4 _ hv hl];rfl
theorem Qe9{α:Type}{l:List α}{n:Nat}{c:α->Bool}(h:(l.take n).any c=true):(l.take n).findIdx c<(l.take n).length:=by
 rw[Qjd] at h;obtain⟨p,hp,hc⟩:=h;exact List.findIdx_lt_length_of_exists ⟨p,hp,hc⟩
theorem Fe7(l:List V3)(n:Nat)(X:PLq)(hn:n<=l.length)(hl:l.length<=1000000000)(hX:OkF X):R7 ⟨n,bL tV l,X⟩=⟨1,if (l.take n).any (λp=>!kv X p) then (((l.take n).findIdx (λp=>!kv X p):Nat):Int) else -1,X⟩:=by
 have hlen:(l.take n).length=n:=by rw[Qif];omega
 have h:=Ja5 (step:=C8 ⟨n,(n:Int),bL tV l⟩) (mk:=λj=>(⟨(j:Int),X⟩:o3)) (c:=λp=>!kv X p) (u:=1) (fin:=2) tV (l.take n) (by omega)
  (λj hj=>by
   rw[hlen] at hj;have hj':j<l.length:=by omega
   simp only[C8,J6,Int.toNat_natCast,j9,i8,gd1 hj',Jc4 hj',gd8 _ _ hX,Wc5 tV l hj,n7 hj (show n<=4611686018427387904 by omega)]
   rw[btD (k8 hj),bt (g7 hj)]
   rfl)
  (by rw[hlen];simp only[C8,J6];rw[bfD (n9 (Qed _))]) 0 (Qee _)
 rw[Qic,hlen] at h;unfold R7 fa6;simp only[j9,i8];rw[show (⟨0,X⟩:o3)=⟨((0:Nat):Int),X⟩ from rfl,h]
 cases ha:(l.take n).any λp=>!kv X p with
 |false=>rfl
 |true =>
  have hf:=Qe9 ha;rw[hlen] at hf;simp only[if_true,Qbh,Int.toNat_natCast,Jc4 (show (l.take n).findIdx (λp=>!kv X p)<l.length by omega),gd8 _ _ hX,j9]
  rfl
structure Fe8(l:List V3)(n:Nat)(f:V3->Bool)(cur:List V3)(m j:Nat):Prop where
 len:cur.length=l.length
 t:cur.take m=(l.take j).filter f
 d:cur.drop j=l.drop j
 le:m<=j
 lm:m<=n
theorem gd9(l:List V3)(n:Nat)(hnl:n<=l.length)(X:PLq)(hl:l.length<=1000000000)(hX:OkF X)(m j:Nat)(cur:List V3)(hd:Fe8 l n (kv X) cur m j)(hjn:j<=n) :
  ∃t s,lp (z7 ⟨n⟩) ⟨(m:Int),(j:Int),bL tV cur,X⟩=(t,s)/\(t=1/\∃m' cur',s=⟨((m':Nat):Int),((n:Nat):Int),bL tV cur',X⟩/\Fe8 l n (kv X) cur' m' n):=by
 refine L7 (step:=z7 ⟨n⟩) (mk:=λj (x:Nat×List V3)=>(⟨(x.1:Int),(j:Int),bL tV x.2,X⟩:p7)) n (λj x=>Fe8 l n (kv X) x.2 x.1 j/\j<=n) (λt s=>t=1/\∃m' cur',s=⟨((m':Nat):Int),((n:Nat):Int),bL tV cur',X⟩/\Fe8 l n (kv X) cur' m' n) (by omega) (λj x hj hx=>?_) (λj x hj hx=>?_) j (m,cur) ⟨hd,hjn⟩
 ·obtain⟨m,cur⟩:=x;obtain⟨⟨h1,h2,h3,h4,h5⟩,_⟩:=hx
  simp only at h1 h2 h3 h4 h5
  have hjc:j<cur.length:=by omega
  have hmc:m<cur.length:=by omega
  have hg:gL tV cur j=gL tV l j:=jc8 tV h3;have hWm:W ((m:Int)+1)=((m+1:Nat):Int):=by rw[E7 (by omega) (by omega)];omega
  have hb:Nat.blt m cur.length=true:=by rw[Qch];exact hmc
  have hrow:j6 (bL tV cur) m=tV.row (gL tV cur m):=W0 tV hmc;have sp:∀(v:V3) (x1 x2 x3:Int),T8 (tV.row v) 0 [i x1,i x2,i x3]=tV.row ⟨x1,x2,x3⟩:=λ_ _ _ _=>rfl
  have rl:∀v:V3,Nat.ble (0+3) (len (tV.row v))=true:=λ_=>rfl
  simp only[z7,J7,Int.toNat_natCast,j9,i8,gd1 hjc,Jc4 hjc,gd8 _ _ hX,n7 hj (show n<=4611686018427387904 by omega),hWm]
  rw[btD (k8 hj),bt (g7 hj)];simp only[Qbh,hrow,S7,hb,sp,yb7,g7 (show m<n by omega),hg]
  have ht:=Hb7 tV (show j<l.length by omega)
  have hd1:cur.drop (j+1)=l.drop (j+1):=Zb9 h3 1;cases hk:kv X (gL tV l j) with
  |true =>
   refine .nx ⟨(m+1,cur.set m (gL tV l j)),rfl,⟨by rw[Qij];exact h1,?_,?_,by omega,by show m+1<=n;omega⟩,by omega⟩
   ·show (cur.set m (gL tV l j)).take (m+1)=_;rw[ht,Qkb,Qjr (by rw[Qij];exact hmc),List.getElem_set_self,List.take_set_of_le (Qac _),h2,Qkc,hk,if_pos rfl,List.filter_nil]
   ·show (cur.set m (gL tV l j)).drop (j+1)=_;rw[List.drop_set_of_lt (by omega),hd1]
  |false =>
   refine .nx ⟨(m,cur),rfl,⟨h1,?_,hd1,by omega,h5⟩,by omega⟩
   show cur.take m=_;rw[ht,Qkb,h2,Qkc,hk,if_neg (by simp),List.filter_nil,Qbad]
 ·obtain⟨m,cur⟩:=x;obtain⟨hx,hjn⟩:=hx;have e:j=n:=by omega
  subst e;refine⟨1,?_,rfl,m,cur,rfl,hx⟩;simp only[z7,J7];rw[bfD (by omega)]
theorem Gd6(l:List V3)(n:Nat)(hnl:n<=l.length)(X:PLq)(hl:l.length<=1000000000)(hX:OkF X) :
  ∃m r,R8 ⟨n,bL tV l,X⟩=⟨1,m,bL tV r,X⟩/\m<=r.length/\r.take m=(l.take n).filter (kv X):=by
 have hlen:(l.take n).length=n:=by rw[Qif];omega
 unfold R8 fa9;simp only[j9,i8,Fe7 l n X hnl hl hX];cases ha:(l.take n).any λp=>!kv X p with
 |false =>
  refine⟨n,l,rfl,hnl,?_⟩
  symm
  rw[List.filter_eq_self];intro p hp
  have:=Qcl.1 ha p hp
  simpa using this
 |true =>
  have hf:=Qe9 ha;have hk:kv X (gL tV (l.take n) ((l.take n).findIdx λp=>!kv X p))=false:=by
   have:=Qkd (xs:=l.take n) (p:=λp=>!kv X p) (w:=hf)
   rw[La6 tV hf];simpa using this
  have ht:=Zb8 (λp=>!kv X p) (l.take n)
  simp only[Bool.not_not] at ht;generalize hF:(l.take n).findIdx (λp=>!kv X p)=F at *
  rw[hlen] at hf;rw[Wc5 tV l hf] at hk;rw[List.take_take,Nat.min_eq_left (by omega)] at ht
  have hW:W ((F:Int)+1)=((F+1:Nat):Int):=n7 hf (by omega)
  have hne:((F:Int)==-1)=false:=by rw[beq_eq_false_iff_ne];omega
  obtain⟨t,s,e1,rfl,m,cur,e2,e3⟩:=gd9 l n hnl X hl hX F (F+1) l ⟨rfl,by rw[Hb7 tV (show F<l.length by omega),Qkb,ht,Qkc,hk,if_neg (by simp),List.filter_nil,Qbad],rfl,by omega,by omega⟩ (by omega)
  have hm:m<=n:=e3.lm;have hin:inB (m:Int) (n+1)=true:=g7 (by omega)
  simp only[if_true,hW,hne,e1,e2,Int.toNat_natCast,hin,Qbh,Nat.sub_zero];refine⟨m,cur.take m++(List.replicate (n-m) ⟨0,0,0⟩++cur.drop (m+(n-m))),?_,?_,?_⟩
  ·rw[vd5,vd6,Jc5,xa2,xa2];rfl
  ·rw[Qea,Qea,Qif,Qbt,e3.len];omega
  ·rw[Qjw (by rw[Qif,e3.len];omega),List.take_take,Nat.min_self,e3.t]
def wf8(F:PLq)(l:List V3):List V3:=(dis l).filter (kv F)
theorem hd4(a:V3)(l:List V3)(hl:l.length<=1000000):∃m r,ra2 (a,l)=⟨1,m,bL tV r⟩/\m<=r.length/\r.take m=dis (a::l)/\r.length<=1000000000:=by
 obtain⟨m,r,k1,k2,k3,k4⟩:=bc3 a l hl;have hok:okL tV (l.length+1) (λk=>tV.row (gL tV (a::l) k))=true:=Na4 tV (f:=λk=>gL tV (a::l) k) λ_ _=>rfl
 have hr:=vd8 (a::l) (by simp only[List.length_cons];omega) []
 rw[Qbad] at hr;unfold ra2 Ia7;simp only[Jd7,Jd8,Wc3 a l hl,hok,k1,l0,Qib,hr];exact⟨m,r,rfl,k2,k3,by omega⟩
end Go.Ev.Ce
namespace Go.Ev.Ce
open Go Go.Ev Go.Ev.L Go.Proofs Go.Sort
theorem Zd1(l:List V3)(a c k:Nat)(s:PLq)(p:Pln):p∈Nb5 l a c s k↔p∈s\/((u9 (gL tV l k) (gL tV l c) (gL tV l a)).2=true/\(p=(u9 (gL tV l k) (gL tV l c) (gL tV l a)).1\/p=Y4 (u9 (gL tV l k) (gL tV l c) (gL tV l a)).1)):=by
 unfold Nb5;generalize u9 (gL tV l k) (gL tV l c) (gL tV l a)=T;cases h2:T.2 with
 |false=>simp
 |true=>simp only[if_true,pe7,true_and,or_assoc]
theorem cf2(l:List V3)(p:Pln):p∈G0 l↔∃a,a<l.length/\∃c,c<a/\∃k,k<c/\((u9 (gL tV l k) (gL tV l c) (gL tV l a)).2=true/\(p=(u9 (gL tV l k) (gL tV l c) (gL tV l a)).1\/p=Y4 (u9 (gL tV l k) (gL tV l c) (gL tV l a)).1)):=by
 have h:p∈G0 l↔p∈[]\/_:=Za1 (λo a p=>Za1 (λo c p=>Za1 (λo k p=>Zd1 l a c k o p) o p c) o p a) [] p l.length
 rw[h];simp only[Qjs,false_or]
theorem hd5{f:PLq->Nat->PLq}(h:∀o k,o.Nodup->(f o k).Nodup){o:PLq}(ho:o.Nodup):∀n,((List.range n).foldl f o).Nodup
 |0=>ho
 |n+1=>by rw[n4];exact h _ _ (hd5 h ho n)
theorem pe9(l:List V3):(G0 l).Nodup:=hd5 (λo a ho=>hd5 (λo c ho=>hd5 (λo k ho=>by
 show (Nb5 l a c o k).Nodup;unfold Nb5;split
 ·exact Jc6 (Jc6 ho)
 ·exact ho) ho c) ho a) List.nodup_nil l.length
theorem Fe9{l:List V3}(hl:l.all inV=true)(p:Pln):p∈fil l (G0 l)↔vd4 l p:=by
 have hin:=Qcf.1 hl;have hb:(!bey l p)=hold p l:=rfl;unfold fil;rw[Qfh,cf2,hb];constructor
 ·rintro⟨⟨a,ha,c,hc,k,hk,h1,h2⟩,h3⟩;have ma:=gLm ha;have mc:=gLm (show c<l.length by omega)
  have mk:=gLm (show k<l.length by omega)
  have ht:=(ba9 h1).2
  rcases h2 with rfl|rfl
  ·exact fd8 mk mc ma ht ((Ea6 ht.ok hl).1 h3)
  ·exact Jc3 mk mc ma ht ((Ea6 (Eb1 ht.ok) hl).1 h3)
 ·intro h;obtain⟨u,w,x,hu,hw,hx,h3,t1,t2,t3⟩:=h.on;obtain⟨a,ha,c,hc,k,hk,hn,hall⟩:=bf5 hu hw hx h3;obtain⟨i1,i2,i3⟩:=hall (λv=>inV v=true) (hin u hu) (hin w hw) (hin x hx)
  obtain⟨e1,e2,e3⟩:=hall (λv=>dot p.n v=p.b) t1 t2 t3
  have h2:=bc0 i3 i2 i1 (oe4 hn).2.2.1;exact⟨⟨a,ha,c,hc,k,hk,h2,vd3 (ba9 h2).2 h.ok e3 e2 e1⟩,(Ea6 h.ok hl).2 h.hd⟩
theorem Xc1{l r:List V3}(h:∀v,v∈r↔v∈l){p:Pln}(hp:vd4 l p):vd4 r p:=by
 obtain⟨⟨hd,u,w,x,hu,hw,hx,e⟩,ok⟩:=hp;exact⟨⟨λv hv=>hd v ((h v).1 hv),u,w,x,(h u).2 hu,(h w).2 hw,(h x).2 hx,e⟩,ok⟩
theorem Gd7{l:PLq}(h:l.Nodup):Ea5 (Lb4 l):=by
 have h1:=fd5 l;have h2:(Lb4 l).Nodup:=(Ic6 l).nodup_iff.2 h;have h3:=h1.and h2;refine h3.imp λ{x y} ⟨k1,k2⟩=>?_
 rw[Ha4] at k1;have k1:¬ LtP y x:=by simpa using k1
 rcases Nd8 x y with h|h|h
 ·exact h
 ·exact absurd h k2
 ·exact absurd h k1
theorem Ge0{l:List V3}(hl:l.all inV=true):(dis l).all inV=true:=Qcf.2 λv hv=>Qcf.1 hl v ((bc2 l v).1 hv)
theorem wd5{l:List V3}(hl:l.all inV=true):Lb4 (fil (dis l) (G0 (dis l)))=F0 l:=by
 refine Vc6 (Gd7 ((pe9 (dis l)).filter _)) (bf2 l) λp=>?_
 rw[(Ic6 _).mem_iff,Fe9 (Ge0 hl),fd9 hl];exact⟨Xc1 λv=>(bc2 l v).symm,Xc1 (bc2 l)⟩
theorem wf9{l:List V3}(hl:l.all inV=true)(h4:Sol l):F0 l≠[]:=λe=>by
 have h:=Yd4 h4 (Ee4 hl (c:=[]) λp hp=>by rw[<- fd9 hl,e] at hp;exact hp) (x:=⟨100,0,0,1⟩) ⟨by show (0:Int)<1;omega,λp hp=>by cases hp⟩ (h:=⟨⟨1,0,0⟩,24⟩) λv hv=>by
  obtain⟨⟨a1,a2⟩,_,_⟩:=(eb3 v).1 (Qcf.1 hl v hv);simp only[dot];omega
 simp only[rmZ] at h;omega
theorem Zd2{l:List V3}(h48:l.length<=48)(hl:l.all inV=true)(h4:Sol l):Ma3 l=0:=by
 have hin:=Qcf.1 hl;unfold Ma3;rw[if_neg (by omega),if_neg (by rw[<- Qih,hl];simp)]
 have h1:(ixs l.length).any (sp1 l)=true:=by
  obtain⟨a,c,k,v,ha,hc,hk,hv,hd⟩:=h4;obtain⟨i',hi,j',hj,k',hk',hn,hall⟩:=bf5 ha hc hk (Fd8 hd);obtain⟨i1,i2,i3⟩:=hall (λv=>inV v=true) (hin _ ha) (hin _ hc) (hin _ hk)
  have ht:=bc0 i3 i2 i1 (oe4 hn).2.2.1;have mem:∀{n m:Nat},m<n->((m:Nat):Int)∈ixs n:=λ{n m} h=>Qbz.2 ⟨m,Qcj.2 h,rfl⟩
  refine Qjd.2 ⟨_,mem hi,?_⟩;unfold sp1;rw[Int.toNat_natCast];refine Qjd.2 ⟨_,mem hj,?_⟩;unfold sp2;rw[Int.toNat_natCast];refine Qjd.2 ⟨gL tV l k',?_,ht⟩;rw[<- Wc5 tV l hk'];exact Gc0 tV (by rw[Qif];omega)
 have h2:Nb4 l=false:=by
  unfold Nb4;rw[if_pos h1];obtain⟨hi,k1⟩:=Ib1 h1;have k1:(ixs (iF l)).any (sp2 l (iF l))=true:=k1;obtain⟨hj,k2⟩:=Ib1 k1;have k2:(l.take (jF l)).any (λv=>(u9 v (gL tV l (jF l)) (gL tV l (iF l))).2)=true:=k2
  have hj:jF l<iF l:=hj;have hi:iF l<l.length:=hi;have hk:=gd3 k2;have hk2:=Qkd (xs:=l.take (jF l)) (p:=λv=>(u9 v (gL tV l (jF l)) (gL tV l (iF l))).2) (w:=hk)
  rw[<- La6 tV hk,Wc5 tV l (by rw[Qif] at hk;omega)] at hk2
  have hok:okp (plF l)=true:=(ba9 hk2).2.ok;obtain⟨v,hv,hne⟩:=h4.off (Vc8 hok) (plF l).b;rw[Qki,Qjd];refine⟨v,hv,?_⟩
  have:Y9 (plF l) v≠0:=λe=>hne ((jc9 hok (hin v hv)).1 e)
  simpa using this
 rw[h2];rfl
theorem Ge1(l r:PLq)(n:Nat)(hn:n=l.length):(two (r1L tP) r1I).rd (.tup [.sl 0 0 n 0,i 0],[⟨66,4,bL tP (l++r),true,false,0⟩])=some (l,0):=by
 subst hn;have h:(r1L tP).rd [⟨66,4,bL tP (l++r),true,false,0⟩] (.sl 0 0 l.length 0)=some l:=by
  show Bool.rec (motive:=λ_=>Option PLq) none (some (slR tP (bL tP (l++r)) 0 l.length)) (Bool.and true (okS tP (bL tP (l++r)) 0 l.length))=_
  rw[le3 _ _ (by rw[Qea];omega),le4 _ _ (by rw[Qea];omega),List.take_left']
  ·rfl
  ·rfl
 simp only[two,h];rfl
theorem Zd3(a:V3)(l:List V3)(h48:(a::l).length<=48)(hl:(a::l).all inV=true)(h4:Sol (a::l)):Rd (two (r1L tP) r1I) (ha7 (a,l)) (λr=>r=(F0 (a::l),0)):=by
 have hc:=Zd2 h48 hl h4;have hdl:=Pd0 (a::l);have hll:l.length<=1000000:=by simp only[List.length_cons] at h48;omega
 obtain⟨j,e⟩:=cf1 (dis (a::l)) (by omega)
 have hf:=wd5 hl;have hne:fil (dis (a::l)) (G0 (dis (a::l)))≠[]:=λe=>by
  rw[e] at hf;have h0:Lb4 []=[]:=Xd5;rw[h0] at hf;exact wf9 hl h4 hf.symm
 have hok:okL tV (l.length+1) (λk=>tV.row (gL tV (a::l) k))=true:=Na4 tV (f:=λk=>gL tV (a::l) k) λ_ _=>rfl
 have hlen:(fil (dis (a::l)) (G0 (dis (a::l)))).length<=1000000:=by
  have h1:=gd5 (dis (a::l)) (G0 (dis (a::l)));have h2:(G0 (dis (a::l))).length<=_:=gd6 (dis (a::l)) (by omega) _ (Qac _)
  omega
 unfold ha7;simp only[j9,O7,i8,Jd7,Jd8,hok,bc5 (a::l) (by omega),bc4 (a::l) (by omega),hc,Gd0 a l hll,Gd1 a l hll,e]
 generalize fil (dis (a::l)) (G0 (dis (a::l)))=O at *
 cases O with
 |nil=>exact absurd rfl hne
 |cons q o =>
  have hr:(Bool.and (Nat.ble (q::o).length room) (Bool.and (Nat.ble (q::o).length (len (bL tP (q::o)))) (okS tP (bL tP (q::o)) 0 (q::o).length)))=true:=by
   rw[fb3,S7,Qbd,Qbd,Nat.ble_eq,Nat.ble_eq];refine⟨by unfold room;omega,Qac _,rfl⟩
  simp only[phP,hr,Va3,Ce9,xa2,hf];exact⟨_,(F0 (a::l),0),rfl,Ge1 _ _ _ (by rw[<- hf,Hb2]),rfl⟩
end Go.Ev.Ce
namespace Go.Ev.Ce
open Go Go.Ev Go.Ev.L Go.Proofs
structure B8(v:V3):Prop where
 x:Sm 8 v.x
 y:Sm 8 v.y
 z:Sm 8 v.z
structure Mp(l:List V3):Prop where
 l4:4<=l.length
 l8:l.length<=8
 bd:∀v∈l,Sm 11 v.x/\Sm 11 v.y/\Sm 11 v.z
 nf:nf0 l=true
theorem Mp.inV{l:List V3}(h:Mp l):l.all inV=true:=Qcf.2 λv hv=>by
 obtain⟨h1,h2,h3⟩:=h.bd v hv;exact (eb3 v).2 ⟨h1.mono (by omega),h2.mono (by omega),h3.mono (by omega)⟩
theorem Ib3{l:List V3}(h:Ma3 l=0):l.length<=48/\l.all inV=true/\Sol l:=by
 unfold Ma3 at h
 split at h
 ·cases h
 rename_i h48
 split at h
 ·cases h
 rename_i hin
 split at h
 ·cases h
 rename_i hf;have hl:l.all inV=true:=by
  rw[Qcf];intro v hv;cases hi:inV v with
  |true=>rfl
  |false=>exact absurd (Qjd.2 ⟨v,hv,by rw[hi];rfl⟩) hin
 have hin2:=Qcf.1 hl;refine⟨by omega,hl,?_⟩
 have hf:Nb4 l=false:=Bool.eq_false_iff.2 hf;unfold Nb4 at hf
 split at hf
 ·rename_i h1;obtain⟨hi,k1⟩:=Ib1 h1;have k1:(ixs (iF l)).any (sp2 l (iF l))=true:=k1;obtain⟨hj,k2⟩:=Ib1 k1;have k2:(l.take (jF l)).any (λv=>(u9 v (gL tV l (jF l)) (gL tV l (iF l))).2)=true:=k2
  have hj:jF l<iF l:=hj;have hi:iF l<l.length:=hi;have hk:=gd3 k2;have hk2:=Qkd (xs:=l.take (jF l)) (p:=λv=>(u9 v (gL tV l (jF l)) (gL tV l (iF l))).2) (w:=hk)
  rw[Qif] at hk;rw[<- La6 tV (by rw[Qif];exact hk),Wc5 tV l (by omega)] at hk2
  have ht:=(ba9 hk2).2;rw[Qki,Qjd] at hf;obtain⟨v,hv,hne⟩:=hf;have hne:Y9 (plF l) v≠0:=bne_iff_ne.1 hne;have ht:Thr (gL tV l (kF l)) (gL tV l (jF l)) (gL tV l (iF l)) (plF l):=ht;have hkl:kF l<l.length:=by
   have:kF l<min (jF l) l.length:=hk
   omega
  have hoff:dot (plF l).n v≠(plF l).b:=λe=>hne ((jc9 ht.ok (hin2 v hv)).2 e)
  refine⟨_,_,_,v,gLm hkl,gLm (show jF l<l.length by omega),gLm hi,hv,λh0=>hoff ?_⟩
  obtain⟨ok,⟨g,hg,e1,e2,e3⟩,o⟩:=ht;have e:g*(dot (plF l).n v-(plF l).b)=dot (N3 (gL tV l (kF l)) (gL tV l (jF l)) (gL tV l (iF l))) (P9 v (gL tV l (kF l))):=by
   have e1:g*(plF l).n.x=(N3 (gL tV l (kF l)) (gL tV l (jF l)) (gL tV l (iF l))).x:=e1;have e2:g*(plF l).n.y=(N3 (gL tV l (kF l)) (gL tV l (jF l)) (gL tV l (iF l))).y:=e2;have e3:g*(plF l).n.z=(N3 (gL tV l (kF l)) (gL tV l (jF l)) (gL tV l (iF l))).z:=e3;rw[o];simp only[dot];rw[<- e1,<- e2,<- e3];simp only[P9]
   grind
  rw[h0] at e
  have:=(Qja.1 e).resolve_left (by omega)
  omega
 ·cases hf
def Z9(l:List V3):PLq×Int:=if Ma3 l=0 then (F0 l,0) else ([],Ma3 l)
def Oc8(l:List V3):List V3×Int:=if Ma3 l=0 then (wf8 (F0 l) l,0) else ([],Ma3 l)
theorem qe0{l:List V3}(h48:l.length<=48)(hl:l.all inV=true):(F0 l).length<=1000000:=by
 have h1:=gd5 (dis l) (G0 (dis l));have hd:=Pd0 l;have h2:(G0 (dis l)).length<=_:=gd6 (dis l) (by omega) _ (Qac _)
 rw[<- wd5 hl,Hb2];omega
theorem sb0(a:V3)(l:List V3)(hl:l.length<=900000):Rd (two (r1L tP) r1I) (ha7 (a,l)) (λr=>r=Z9 (a::l)):=by
 by_cases h:Ma3 (a::l)=0
 ·obtain⟨h1,h2,h3⟩:=Ib3 h;unfold Z9;rw[if_pos h];exact Zd3 a l h1 h2 h3
 ·have hll:(a::l).length<=1000000:=by simp only[List.length_cons];omega
  have hne:(Ma3 (a::l) != 0)=true:=bne_iff_ne.2 h;unfold Z9 ha7;rw[if_neg h];simp only[j9,O7,i8,bc5 (a::l) hll,bc4 (a::l) hll,hne,l0];exact⟨_,([],Ma3 (a::l)),rfl,rfl,rfl⟩
theorem bc6:Ma3 []=11:=by
 unfold Ma3 Nb4;rfl
def Oc9(l:List V3):PLq×Int:=Z9 l
def Nb6(l:List V3):Bool:=decide (1<=l.length/\l.length<=900000)
def Pc0:Sum:=B5 (N0 tV) λl=>.guard (Nb6 l) (.ret ((two (r1L tP) r1I).enc (Oc9 l),[]))
theorem Jc8:e8 prog G 70 Pc0:=by
 refine je0 (Hb5 Mb3 λa r hr=>?_) (Hb5 Cb9 λa r hr=>?_) (Hb5 Db0 λa r hr=>?_)
 ·obtain⟨p,c⟩:=a;obtain⟨hg,hr⟩:=DT.run_guard_some hr;have hl:c.length<=900000:=by
   have:=(of_decide_eq_true hg).2
   simp only[List.length_cons] at this;omega
  have hp:Ta0 (p,c)=Z9 (p::c):=(sb0 p c hl).p;have hq:Ta1 (p,c)=true:=(sb0 p c hl).g;rw[hp,hq];exact hr
 ·obtain⟨hg,hr⟩:=DT.run_guard_some hr;exact absurd (of_decide_eq_true hg).1 (by simp)
 ·obtain⟨hg,hr⟩:=DT.run_guard_some hr;exact absurd (of_decide_eq_true hg).1 (by simp)
theorem bc7(a:V3)(l:List V3)(hl:l.length<=900000):Rd (two (r1L tV) r1I) (pa7 (a,l)) (λr=>r=Oc8 (a::l)):=by
 have hok:okL tV (l.length+1) (λk=>tV.row (gL tV (a::l) k))=true:=Na4 tV (f:=λk=>gL tV (a::l) k) λ_ _=>rfl
 have hp:Ta0 (a,l)=Z9 (a::l):=(sb0 a l hl).p;have hq:Ta1 (a,l)=true:=(sb0 a l hl).g;unfold Oc8;unfold pa7;simp only[j9,O7,i8,Jd7,Jd8,hok,hp,hq,l0];unfold Z9;by_cases h:Ma3 (a::l)=0
 ·obtain⟨h1,h2,h3⟩:=Ib3 h;have hF:OkF (F0 (a::l)):=⟨qe0 h1 h2,λp hp=>(Fd7 hp).ok⟩
  obtain⟨m,r,e1,e2,e3,e4⟩:=hd4 a l (by omega)
  obtain⟨m',r',k1,k2,k3⟩:=Gd6 r m e2 (F0 (a::l)) e4 hF;rw[if_pos h,if_pos h];simp only[e1,k1];refine⟨_,(r'.take m',0),rfl,?_,by rw[k3,e3];rfl⟩
  have h:(r1L tV).rd [⟨23,3,bL tV r',true,false,0⟩] (.sl 0 0 m' 0)=some (r'.take m'):=by
   show Bool.rec (motive:=λ_=>Option (List V3)) none (some (slR tV (bL tV r') 0 m')) (Bool.and true (okS tV (bL tV r') 0 m'))=_
   rw[Wc2 _ _ k2,kc2 _ _ k2];rfl
  simp only[two,h];rfl
 ·have hne:(Ma3 (a::l) != 0)=true:=bne_iff_ne.2 h;rw[if_neg h,if_neg h];simp only[hne,l0];exact⟨_,([],Ma3 (a::l)),rfl,rfl,rfl⟩
def tc6(l:List V3):List V3×Int:=Oc8 l
def ub8(l:List V3):Bool:=decide (1<=l.length/\l.length<=900000)
def tc7:Sum:=B5 (N0 tV) λl=>.guard (ub8 l) (.ret ((two (r1L tV) r1I).enc (tc6 l),[]))
theorem kc3:e8 prog G 69 tc7:=by
 refine je0 (Hb5 sc3 λa r hr=>?_) (Hb5 ic4 λa r hr=>?_) (Hb5 ic6 λa r hr=>?_)
 ·obtain⟨p,c⟩:=a;obtain⟨hg,hr⟩:=DT.run_guard_some hr;have hl:c.length<=900000:=by
   have:=(of_decide_eq_true hg).2
   simp only[List.length_cons] at this;omega
  have hp:Cb7 (p,c)=Oc8 (p::c):=(bc7 p c hl).p;have hq:Cb8 (p,c)=true:=(bc7 p c hl).g;rw[hp,hq];exact hr
 ·obtain⟨hg,hr⟩:=DT.run_guard_some hr;exact absurd (of_decide_eq_true hg).1 (by simp)
 ·obtain⟨hg,hr⟩:=DT.run_guard_some hr;exact absurd (of_decide_eq_true hg).1 (by simp)
set_option maxRecDepth 100000
def sb1(x:Int)(y:Int)(z:Int):V3:=(⟨x,y,z⟩:V3)
def Jc9:Sum:=yb3 cI cI cI (λx y z=>.ret ((one r1V).enc (sb1 x y z),[]))
theorem wd6:e8 prog G 21 Jc9:=Qe0 (bd b21 xa5)
def ja6(x:Int):ROq:=(sl (decide (x>=0)) (some (b (decide (x<=12)),[])) (some (b false,[])))
def aa6(x:Int):Bool:=F6 (one r1B) (ja6 x)
def aa7(x:Int):Bool:=okO (one r1B) (ja6 x)
def ub9:Sum:=B5 cI (λx=>.guard (aa7 x) (.ret ((one r1B).enc (aa6 x),[])))
theorem kc4:e8 prog G 48 ub9:=ya7 (bd b48 xa5) (one r1B) (o:=ja6)
def Kc0:List (Nat×Sum):=[(48,ub9)]
theorem tc8:o4 prog G Kc0:=⟨kc4,trivial⟩
def va1(x:V3):ROq:=let t1:=(aa6 x.x);let t2:=(aa6 x.y);let t3:=(aa6 x.z);(sl (aa7 x.x) (sl t1 (sl (aa7 x.y) (sl t2 (sl (aa7 x.z) (some (b t3,[])) none) (some (b false,[]))) none) (some (b false,[]))) none)
def ka2(x:V3):Bool:=F6 (one r1B) (va1 x)
def ka3(x:V3):Bool:=okO (one r1B) (va1 x)
def Nb7:Sum:=B5 (F5 tV) (λx=>.guard (ka3 x) (.ret ((one r1B).enc (ka2 x),[])))
theorem Kc1:e8 prog G 22 Nb7:=ya7 (bd b22 tc8) (one r1B) (o:=va1)
def Pc1:List (Nat×Sum):=[(21,Jc9),(20,nc0),(22,Nb7)]
theorem Kc2:o4 prog G Pc1:=⟨wd6,dd0,Kc1,trivial⟩
def Ea7(x:V3)(y:Int)(z:Int)(w:Int):ROq:=let y0:=(.tup [.agg [i 0,i 0,i 0],i 3],[]);let t1:=(sb1 (W (y+w)) (W (y+w)) (W ((W (y+w))+z)));let t2:=(Ab7 x t1);let t3:=(ka2 x);let t4:=(sb1 y z w);let t5:=(ka2 t4);let t6:=(ka2 t2);(sl (ka3 x) (sl (!t3) (some y0) (sl (ka3 t4) (sl (!t5) (some y0) (sl (ka3 t2) (sl (!t6) (some y0) (some (.tup [.agg [i t2.x,i t2.y,i t2.z],i 0],[]))) none)) none)) none)
def Ta4(x:V3)(y:Int)(z:Int)(w:Int):V3×Int:=F6 (two r1V r1I) (Ea7 x y z w)
def Ta5(x:V3)(y:Int)(z:Int)(w:Int):Bool:=okO (two r1V r1I) (Ea7 x y z w)
def bc8:Sum:=Bd3 (F5 tV) cI cI cI (λx y z w=>.guard (Ta5 x y z w) (.ret ((two r1V r1I).enc (Ta4 x y z w),[])))
theorem Pc2:e8 prog G 11 bc8:=uf4 (bd b11 Kc2) (two r1V r1I) (o:=Ea7)
structure ve9 where
 (is1 is2 is3 g8 d7 i5 Rd0 Cf1 Cf2:Int)
structure we0 where
 Of3:Int
def za9(x:Int)(y:Int)(z:Int):V3:=(⟨x,y,z⟩:V3)
def oc3:Sum:=yb3 cI cI cI (λx y z=>.ret ((one r1V).enc (za9 x y z),[]))
theorem hd6:e8 prog G 10 oc3:=Qe0 (bd b10 xa5)
def rch(n e:V3):Int:=(n.x.natAbs:Int)*e.x+(n.y.natAbs:Int)*e.y+(n.z.natAbs:Int)*e.z
def P7(e:V3):Bool:=(decide (0<=e.x)&&decide (e.x<=12))&&((decide (0<=e.y)&&decide (e.y<=12))&&(decide (0<=e.z)&&decide (e.z<=12)))
def pq(e:V3)(s:Int)(p:Pln):Pln:=⟨p.n,p.b+s*rch p.n e⟩
def okq(e:V3)(s:Int)(p:Pln):Bool:=okp p&&smb 2097152 (p.b+s*rch p.n e)
def wd7(c:PLq)(e:V3)(s:Int):PLq×Bool:=if (P7 e&&c.all (okq e s))=true then (c.map (pq e s),true) else ([],false)
structure B12(e:V3):Prop where
 x1:0<=e.x
 x2:e.x<=12
 y1:0<=e.y
 y2:e.y<=12
 z1:0<=e.z
 z2:e.z<=12
theorem kc5(e:V3):P7 e=true↔B12 e:=by
 unfold P7;simp only[Qbd,decide_eq_true_eq];exact⟨λ⟨⟨a,b⟩,⟨c,d⟩,f,g⟩=>⟨a,b,c,d,f,g⟩,λ⟨a,b,c,d,f,g⟩=>⟨⟨a,b⟩,⟨c,d⟩,f,g⟩⟩
theorem Xc2{n e:Int}(hn:Sm 4608 n)(h0:0<=e)(h1:e<=12):0<=(n.natAbs:Int)*e/\(n.natAbs:Int)*e<=55296:=by
 have a:(n.natAbs:Int)<=4608:=by have:=hn.1;have:=hn.2;omega
 refine⟨Qjb (by omega) h0,?_⟩
 have:=Int.mul_le_mul a h1 h0 (by omega)
 omega
theorem qe1{p:Pln}(hp:okp p=true){e:V3}(he:B12 e):0<=rch p.n e/\rch p.n e<=165888:=by
 have hb:=Ya9 hp;have h1:=Xc2 ⟨hb.x1,hb.x2⟩ he.x1 he.x2;have h2:=Xc2 ⟨hb.y1,hb.y2⟩ he.y1 he.y2;have h3:=Xc2 ⟨hb.z1,hb.z2⟩ he.z1 he.z2;unfold rch;omega
theorem smL{n x:Int}(h1:-n<=x)(h2:x<=n)(hn:n<=1000000000000000000):Sm 1000000000000000000 x:=⟨by omega,by omega⟩
theorem qe2{p:Pln}(hp:okp p=true){e:V3}(he:B12 e):Ja9 p.n e=rch p.n e:=by
 have hb:=Ya9 hp;have h1:=Xc2 ⟨hb.x1,hb.x2⟩ he.x1 he.x2;have h2:=Xc2 ⟨hb.y1,hb.y2⟩ he.y1 he.y2;have h3:=Xc2 ⟨hb.z1,hb.z2⟩ he.z1 he.z2;unfold Ja9;rw[eb2 (smL hb.x1 hb.x2 (by omega)),eb2 (smL hb.y1 hb.y2 (by omega)),eb2 (smL hb.z1 hb.z2 (by omega))]
 simp only
 rw[E7 (n:=(p.n.x.natAbs:Int)*e.x) (by omega) (by omega),E7 (n:=(p.n.y.natAbs:Int)*e.y) (by omega) (by omega),E7 (n:=(p.n.z.natAbs:Int)*e.z) (by omega) (by omega),
  E7 (n:=(p.n.x.natAbs:Int)*e.x+(p.n.y.natAbs:Int)*e.y) (by omega) (by omega),E7 (by omega) (by omega)]
 rfl
def Zd4(p:Pln)(y:Int):Pln×Bool:=if (okp p&&(smb 4194304 y&&smb 2097152 (W (p.b+y))))=true then (⟨p.n,W (p.b+y)⟩,true) else (⟨⟨0,0,0⟩,0⟩,false)
theorem qe3(p:Pln)(y:Int):∃x,Ea2 p y=some x/\(two r1P r1B).rd x=some (Zd4 p y):=by
 have e1:G6 4194304 [y]=smb 4194304 y:=by rw[nb5 _ _ (by omega) (by simp)];simp
 have e2:G7 4194304 [y]=true:=nb6 _ _ (by omega) (by simp)
 have e3:G6 2097152 [W (p.b+y)]=smb 2097152 (W (p.b+y)):=by rw[nb5 _ _ (by omega) (by simp)];simp
 have e4:G7 2097152 [W (p.b+y)]=true:=nb6 _ _ (by omega) (by simp)
 unfold Ea2 Zd4;simp only[Md7,Md8,e1,e2,e3,e4];cases okp p
 ·exact⟨_,rfl,rfl⟩
 ·cases smb 4194304 y
  ·exact⟨_,rfl,rfl⟩
  ·cases smb 2097152 (W (p.b+y))<;>exact⟨_,rfl,rfl⟩
theorem qe4(p:Pln)(y:Int):Ea3 p y=Zd4 p y:=by
 obtain⟨x,h,k⟩:=qe3 p y;unfold Ea3;rw[h];exact Ta9 _ k
theorem qe5(p:Pln)(y:Int):Ea4 p y=true:=by
 obtain⟨x,h,k⟩:=qe3 p y;unfold Ea4;rw[h];exact nb7 _ k
theorem cf3{e:V3}(he:B12 e){s y:Int}(hs:s=1\/s=-1){p:Pln}(hy:okp p=true->y=s*rch p.n e):Zd4 p y=if okq e s p=true then (pq e s p,true) else (⟨⟨0,0,0⟩,0⟩,false):=by
 unfold Zd4 okq pq;cases hp:okp p
 ·rfl
 ·have hr:=qe1 hp he;have hb:=Ya9 hp;have e1:=hy hp;subst e1;have hm:-165888<=s*rch p.n e/\s*rch p.n e<=165888:=by
   rcases hs with rfl|rfl<;>omega
  have h1:smb 4194304 (s*rch p.n e)=true:=(wa7 _ _).2 ⟨by omega,by omega⟩
  have hb1:=hb.b1;have hb2:=hb.b2;rw[h1,E7 (by omega) (by omega)]
  rfl
theorem wd8(e:V3):ba8 e=some (b (P7 e),[]):=by
 have hs:lp (C9 ⟨e.x,e.y,e.z⟩) ⟨0⟩=(if P7 e then 2 else 1,(lp (C9 ⟨e.x,e.y,e.z⟩) ⟨0⟩).2):=by
  refine Prod.ext ?_ rfl;have h:=Pa2 (step:=C9 ⟨e.x,e.y,e.z⟩) (mk:=λj=>(⟨(j:Int)⟩:w7)) (c:=λn=>decide (n<0)||decide (n>12)) (u:=1) (fin:=2) tI [e.x,e.y,e.z] (by simp)
   (λj hj=>by
    have hj:j<3:=hj;have hc:j=0\/j=1\/j=2:=by omega
    have hw:W ((j:Int)+1)=((j+1:Nat):Int):=n7 hj (by omega)
    simp only[C9,Y8,Int.toNat_natCast,hw];rw[btD (show (j:Int)<3 by omega),bt (g7 hj)]
    rcases hc with rfl|rfl|rfl
    ·show sl true (sl (decide (e.x<0)) _ (sl (decide (e.x>12)) _ _)) _=sl (decide (e.x<0)||decide (e.x>12)) _ _
     cases decide (e.x<0)<;>cases decide (e.x>12)<;>rfl
    ·show sl true (sl (decide (e.y<0)) _ (sl (decide (e.y>12)) _ _)) _=sl (decide (e.y<0)||decide (e.y>12)) _ _
     cases decide (e.y<0)<;>cases decide (e.y>12)<;>rfl
    ·show sl true (sl (decide (e.z<0)) _ (sl (decide (e.z>12)) _ _)) _=sl (decide (e.z<0)||decide (e.z>12)) _ _
     cases decide (e.z<0)<;>cases decide (e.z>12)<;>rfl)
   (by simp only[C9,Y8];rw[bfD (by show ¬ ((3:Nat):Int)<3;omega)]) 0 (Qee _)
  rw[Qic] at h;rw[show (⟨0⟩:w7)=⟨((0:Nat):Int)⟩ from rfl,h]
  have hq:∀n:Int,(decide (n<0)||decide (n>12))=!(decide (0<=n)&&decide (n<=12)):=λn=>by
   by_cases h1:n<0<;>by_cases h2:n>12<;>simp[h1,h2]<;>omega
  simp only[List.any_cons,List.any_nil,Bool.or_false,hq];unfold P7;cases (decide (0<=e.x)&&decide (e.x<=12))<;>cases (decide (0<=e.y)&&decide (e.y<=12))<;>cases (decide (0<=e.z)&&decide (e.z<=12))<;>rfl
 unfold ba8;rw[hs];cases P7 e<;>rfl
theorem qe6(e:V3):ma1 e=P7 e:=by unfold ma1;rw[wd8];rfl
theorem qe7(e:V3):ma2 e=true:=by unfold ma2;rw[wd8];rfl
theorem wd9(e:V3):Ma2 e=some (b (P7 e),[]):=by
 unfold Ma2 P7;show sl (decide (0<=e.x)) (sl (decide (e.x<=12)) (sl (decide (0<=e.y)) (sl (decide (e.y<=12)) (sl (decide (0<=e.z)) _ _) _) _) _) _=_;cases decide (0<=e.x)<;>cases decide (e.x<=12)<;>cases decide (0<=e.y)<;>cases decide (e.y<=12)<;>cases decide (0<=e.z)<;>cases decide (e.z<=12)<;>rfl
theorem qe8(e:V3):eb0 e=P7 e:=by unfold eb0;rw[wd9];rfl
theorem qe9(e:V3):eb1 e=true:=by unfold eb1;rw[wd9];rfl
def Pc3(n:Int):Bool:=decide (0<=n)&&decide (n<=12)
theorem ob2{n:Int}:Pc3 n=true↔0<=n/\n<=12:=by unfold Pc3;simp only[Qbd,decide_eq_true_eq]
theorem Kc3(e:V3):P7 e=(Pc3 e.x&&(Pc3 e.y&&Pc3 e.z)):=rfl
theorem cf4(n:Int):ja6 n=some (b (Pc3 n),[]):=by
 unfold ja6 Pc3;by_cases h:n>=0
 ·rw[btD h,decide_eq_true (show 0<=n from h)];rfl
 ·rw[bfD h,decide_eq_false (show ¬ 0<=n from h)];rfl
theorem xd0(e:V3):va1 e=some (b (P7 e),[]):=by
 have h:∀n,aa6 n=Pc3 n/\aa7 n=true:=λn=>by unfold aa6 aa7;rw[cf4];exact⟨rfl,rfl⟩
 unfold va1;rw[Kc3];simp only[(h _).1,(h _).2,l0];cases Pc3 e.x<;>cases Pc3 e.y<;>rfl
theorem re0(e:V3):ka2 e=P7 e:=by unfold ka2;rw[xd0];rfl
theorem re1(e:V3):ka3 e=true:=by unfold ka3;rw[xd0];rfl
theorem cf5(x y z:Int):sb1 x y z=⟨x,y,z⟩:=rfl
theorem cf6(x y z:Int):za9 x y z=⟨x,y,z⟩:=rfl
def ttV(p:V3)(r g c:Int):V3:=⟨p.x+(r+c),p.y+(r+c),p.z+(r+c+g)⟩
def xd1(p:V3)(r g c:Int):V3×Int:=if (P7 p&&(P7 ⟨r,g,c⟩&&P7 (ttV p r g c)))=true then (ttV p r g c,0) else (⟨0,0,0⟩,3)
theorem cf7{p q:V3}(hp:P7 p=true)(hq:(0<=q.x/\q.x<=100)/\(0<=q.y/\q.y<=100)/\0<=q.z/\q.z<=100):Ab7 p q=⟨p.x+q.x,p.y+q.y,p.z+q.z⟩/\Ga8 p q=⟨p.x+q.x,p.y+q.y,p.z+q.z⟩:=by
 rw[Kc3,Qbd,Qbd] at hp;obtain⟨a,c,d⟩:=hp;have a:=ob2.1 a;have c:=ob2.1 c;have d:=ob2.1 d;have e1:W (p.x+q.x)=p.x+q.x:=E7 (by omega) (by omega)
 have e2:W (p.y+q.y)=p.y+q.y:=E7 (by omega) (by omega)
 have e3:W (p.z+q.z)=p.z+q.z:=E7 (by omega) (by omega)
 constructor
 ·show (⟨W (p.x+q.x),W (p.y+q.y),W (p.z+q.z)⟩:V3)=_;rw[e1,e2,e3]
 ·show (⟨W (p.x+q.x),W (p.y+q.y),W (p.z+q.z)⟩:V3)=_;rw[e1,e2,e3]
theorem xf0{r g c:Int}(h:P7 ⟨r,g,c⟩=true):(W (r+c)=r+c/\W (W (r+c)+g)=r+c+g)/\(0<=r+c/\r+c<=100)/\0<=r+c+g/\r+c+g<=100:=by
 rw[Kc3,Qbd,Qbd] at h;obtain⟨a,d,e⟩:=h;have a:=ob2.1 a;have d:=ob2.1 d;have e:=ob2.1 e
 simp only at a d e
 have h1:W (r+c)=r+c:=E7 (by omega) (by omega)
 refine⟨⟨h1,?_⟩,by omega,by omega⟩
 rw[h1];exact E7 (by omega) (by omega)
theorem Pd4(p:V3)(r g c:Int):Ea7 p r g c=some (.tup [.agg [i (xd1 p r g c).1.x,i (xd1 p r g c).1.y,i (xd1 p r g c).1.z],i (xd1 p r g c).2],[]):=by
 unfold Ea7 xd1;simp only[re0,re1,cf5,l0];cases h1:P7 p with
 |false=>rfl
 |true =>
  cases h2:P7 ⟨r,g,c⟩ with
  |false=>rfl
  |true =>
   obtain⟨⟨w1,w2⟩,k1,k2⟩:=xf0 h2;rw[w2,w1,(cf7 (q:=⟨r+c,r+c,r+c+g⟩) h1 ⟨k1,k1,k2⟩).1];show (sl (!true) _ (sl (!true) _ (sl (!P7 (ttV p r g c)) _ _)))=_;cases h3:P7 (ttV p r g c)<;>rfl
theorem Ge2(p:V3)(r g c:Int):Ta4 p r g c=xd1 p r g c:=by unfold Ta4;rw[Pd4];rfl
theorem Ge3(p:V3)(r g c:Int):Ta5 p r g c=true:=by unfold Ta5;rw[Pd4];rfl
theorem xd2{p q r:Pln}(hp:Bd p)(hq:Bd q)(hr:Bd r):Va8 p q r=some (.tup [.agg (tX.row (mpt p q r).1),b (mpt p q r).2],[]):=by
 have hw:=Qe2 hp hq hr;obtain⟨v1,v2,v3⟩:=Qe3 hp hq hr;have e1:ja7 p.n (M2 q.n r.n)=mw p q r:=by
  rw[Zb5];unfold ja7;simp only[ib2,Cb4,Ye2];show W (dot p.n (d9 q.n r.n))=_;rw[show dot p.n (d9 q.n r.n)=mw p q r from rfl,Aa1 (hw.mono (by omega))]
 have e2:Ga8 (Ga8 (K6 (M2 q.n r.n) p.b) (K6 (M2 r.n p.n) q.b)) (K6 (M2 p.n q.n) r.b)=mv p q r:=by
  rw[Zb5,Zb5,Zb5];unfold Ga8 K6;simp only[ib2,Cb4,ie6];show (⟨W (mv p q r).x,W (mv p q r).y,W (mv p q r).z⟩:V3)=_;rw[Aa1 (v1.mono (by omega)),Aa1 (v2.mono (by omega)),Aa1 (v3.mono (by omega))]
 have neg:∀{n x:Int},Sm n x->Sm n (-x):=λh=>⟨by have:=h.2;omega,by have:=h.1;omega⟩
 have e3:K6 (mv p q r) (-1)=⟨-(mv p q r).x,-(mv p q r).y,-(mv p q r).z⟩:=by
  unfold K6
  have:∀x:Int,x*-1=-x:=λx=>by omega
  simp only[this];rw[Aa1 ((neg v1).mono (by omega)),Aa1 ((neg v2).mono (by omega)),Aa1 ((neg v3).mono (by omega))]
 have ab:∀{x:Int},Sm 300000000000000 x->(if W (0-x)>x then W (0-x) else x)=(x.natAbs:Int):=λ{x} h=>by
  have:W (0-x)=-x:=by rw[show 0-x=-x by omega];exact Aa1 ((neg h).mono (by omega))
  rw[this]
  split<;>omega
 unfold Va8;simp only[e1,e2,e3];rw[ab v1,ab v2,ab v3,ab (neg v1),ab (neg v2),ab (neg v3)];simp only[Int.natAbs_neg];unfold mpt;by_cases h0:mw p q r=0
 ·rw[bt (by rw[h0];rfl),if_pos h0]
  rfl
 ·have hz:(mw p q r==0)=false:=by simpa using h0
  rw[bf hz,if_neg h0];have hgp:=ed7 (v:=mv p q r) h0;have hgl:=Qe4 (v:=mv p q r) h0;have hw0:=hw;unfold Sm at hw0;have q1:((mv p q r).y.natAbs:Int)<=9223372036854775807:=by unfold Sm at v2;omega
  have k1:=Hc3 ((mv p q r).x.natAbs:Int) ((mv p q r).y.natAbs:Int) (by omega) (by omega) q1
  have k2:=Hc4 ((mv p q r).x.natAbs:Int) ((mv p q r).y.natAbs:Int) (by omega) (by omega) q1
  have c1:Int.gcd ((mv p q r).x.natAbs:Int) ((mv p q r).y.natAbs:Int)=Nat.gcd (mv p q r).x.natAbs (mv p q r).y.natAbs:=by simp[Int.gcd]
  have fin : ∀ w : Int, 0 < w → w.natAbs = (mw p q r).natAbs → K7 ((mv p q r).z.natAbs : Int) w = (Nat.gcd (mv p q r).z.natAbs (mw p q r).natAbs : Nat) ∧ K8 ((mv p q r).z.natAbs : Int) w = true ∧
    K7 (Nat.gcd (mv p q r).x.natAbs (mv p q r).y.natAbs:Nat) (Nat.gcd (mv p q r).z.natAbs (mw p q r).natAbs:Nat)=gc (mv p q r) (mw p q r)/\K8 (Nat.gcd (mv p q r).x.natAbs (mv p q r).y.natAbs:Nat) (Nat.gcd (mv p q r).z.natAbs (mw p q r).natAbs:Nat)=true:=by
   intro w hw1 hw2;have l1:Nat.gcd (mv p q r).z.natAbs (mw p q r).natAbs<=(mw p q r).natAbs:=Nat.gcd_le_right _ (by omega)
   refine⟨?_,Hc4 _ _ (by omega) (by omega) (by omega),?_,Hc4 _ _ (by omega) (by omega) (by omega)⟩
   ·rw[Hc3 _ _ (by omega) (by omega) (by omega)]
    have:Int.gcd ((mv p q r).z.natAbs:Int) w=Nat.gcd (mv p q r).z.natAbs (mw p q r).natAbs:=by unfold Int.gcd;rw[hw2];simp
    rw[this]
   ·rw[Hc3 _ _ (by omega) (by omega) (by omega)]
    rfl
  by_cases h1:mw p q r<0
  ·rw[bt (decide_eq_true h1),if_pos h1];have hWw:W (0-mw p q r)=-mw p q r:=by rw[E7 (by omega) (by omega)];omega
   rw[hWw];obtain⟨f1,f2,f3,f4⟩:=fin (-mw p q r) (by omega) (by omega)
   simp only[k1,k2,c1,f1,f2,f3,f4];generalize gc (mv p q r) (mw p q r)=G at *
   have hGp:(G==0)=false:=by simp;omega
   simp only[hGp];rw[Aa1 ((I4 (neg v1) hgp).mono (by omega)),Aa1 ((I4 (neg v2) hgp).mono (by omega)),Aa1 ((I4 (neg v3) hgp).mono (by omega)),Aa1 ((I4 (neg hw) hgp).mono (by omega))]
   rfl
  ·rw[bf (decide_eq_false h1),if_neg h1];obtain⟨f1,f2,f3,f4⟩:=fin (mw p q r) (by omega) rfl
   simp only[k1,k2,c1,f1,f2,f3,f4];generalize gc (mv p q r) (mw p q r)=G at *
   have hGp:(G==0)=false:=by simp;omega
   simp only[hGp];rw[Aa1 ((I4 v1 hgp).mono (by omega)),Aa1 ((I4 v2 hgp).mono (by omega)),Aa1 ((I4 v3 hgp).mono (by omega)),Aa1 ((I4 hw hgp).mono (by omega))]
   rfl
theorem Ge4{p q r:Pln}(hp:Bd p)(hq:Bd q)(hr:Bd r):Va9 p q r=mpt p q r:=by unfold Va9;rw[xd2 hp hq hr];rfl
theorem Ge5{p q r:Pln}(hp:Bd p)(hq:Bd q)(hr:Bd r):Wa0 p q r=true:=by unfold Wa0;rw[xd2 hp hq hr];rfl
theorem Ge6(r:PLq)(hb:Bds r)(hr:r.length<=200)(a c k:Nat)(ha:a<r.length)(hc:c<r.length)(out:List Pt)(ho:out.length<=1000000000)(hk:k<r.length) :
  I6 ⟨r,a,c⟩ (Jb4 k out)=.next (Jb4 (k+1) (Fa4 r r[a] r[c] out r[k])):=by
 have hin:∀x,kb8 r x=inn r x:=λx=>Kf2 r x (by omega)
 have hig:∀x,kb9 r x=true:=λx=>Kf3 r x (by omega)
 have hth:∀x,ya8 out x=Hc5 out x:=λx=>Be7 out x ho
 have htg:∀x,ya9 out x=true:=λx=>Be8 out x ho
 have hme:=Ge4 (hb _ (Qby ha)) (hb _ (Qby hc)) (hb _ (Qby hk));have hmg:=Ge5 (hb _ (Qby ha)) (hb _ (Qby hc)) (hb _ (Qby hk));unfold I6;cases out with
 |nil =>
  show Q1 Stp.next Stp.exit Stp.fail _ (Jb4 k [])=_;simp only[Q1,Jb4,Int.toNat_natCast,j9,O7,La6 tP ha,La6 tP hc,La6 tP hk,hme,hmg,hin,hig,hth,htg,n7 hk (by omega)]
  rw[btD (k8 hk),bt (g7 ha),bt (g7 hc),bt (g7 hk),l0];unfold Fa4;rw[je6];cases (mpt r[a] r[c] r[k]).2 with
  |false=>rfl
  |true =>
   cases inn r (mpt r[a] r[c] r[k]).1 with
   |false=>rfl
   |true=>rfl
 |cons o os =>
  have e1:lsL tX (o::os).length (λk=>j6 (bL tX (o::os)) (0+k))=o::os:=Va3 tX _
  have e2:okL tX (o::os).length (λk=>j6 (bL tX (o::os)) (0+k))=true:=fb3 tX _
  show Q3 Stp.next Stp.exit Stp.fail _ (Jb4 k (o::os))=_;simp only[Q3,Jb4,Int.toNat_natCast,j9,O7,La6 tP ha,La6 tP hc,La6 tP hk,hme,hmg,hin,hig,e1,e2,hth,htg,n7 hk (by omega)]
  rw[btD (k8 hk),bt (g7 ha),bt (g7 hc),bt (g7 hk),l0,je7 rfl ho,Ce0];unfold Fa4;cases (mpt r[a] r[c] r[k]).2 with
  |false=>rfl
  |true =>
   cases inn r (mpt r[a] r[c] r[k]).1 with
   |false=>cases Hc5 (o::os) (mpt r[a] r[c] r[k]).1<;>rfl
   |true =>
    cases Hc5 (o::os) (mpt r[a] r[c] r[k]).1 with
    |true=>rfl
    |false =>
     show Stp.next (⟨1,((k+1:Nat):Int),(o::os).length+1,bL tX (o::os++[(mpt r[a] r[c] r[k]).1])⟩:o6)=_;simp[ph]
theorem Ge7(r:PLq)(hb:Bds r)(hr:r.length<=200)(a c:Nat)(ha:a<r.length)(hc:c<r.length)(k:Nat)(out:List Pt)(ho:out.length<=100000000) :
  ∃m,lp (I6 ⟨r,a,c⟩) (Jb4 k out)=(ph (Eb0 r r[a] r[c] (r.drop k) out)+1,Jb4 m (Eb0 r r[a] r[c] (r.drop k) out)) :=
 ⟨_,(Ic0 (mk:=Jb4) (f:=λs _ out=>Fa4 r r[a] r[c] out s) (g:=λl out=>Eb0 r r[a] r[c] l out) (fin:=λout=>ph out+1) r (λj o=>o.length+k<=out.length+j) (by omega)
  (λ_=>rfl) (λ_ _ _=>rfl) (λj o hj hi=>⟨Ge6 r hb hr a c j ha hc o (by omega) hj,by have:=Vc2 r r[a] r[c] o r[j];show (Fa4 r r[a] r[c] o r[j]).length+k<=out.length+(j+1);omega⟩)
  (λj o hj _=>Ze3 r a c j o hj) k out (by omega)).1⟩
theorem Ge8(r:PLq)(hb:Bds r)(hr:r.length<=200)(a j:Nat)(ha:a<r.length)(out:List Pt)(ho:out.length<=100000000)(hj:j<r.length) :
  E2 ⟨a⟩ (Jb5 r j out)=.next (Jb5 r (j+1) (Eb0 r r[a] r[j] (r.drop (j+1)) out)):=by
 obtain⟨m,hm⟩:=Ge7 r hb hr a j ha hj (j+1) out ho;unfold E2;generalize Eb0 r r[a] r[j] (r.drop (j+1)) out=res at *
 cases out with
 |nil =>
  show Q4 Stp.next Stp.exit Stp.fail _ (Jb5 r j [])=_;simp only[Q4,Jb5,j9,i8,n7 hj (by omega)]
  rw[show (⟨0,((j+1:Nat):Int),0,[]⟩:o6)=Jb4 (j+1) [] from rfl,hm,btD (k8 hj)]
  cases res<;>rfl
 |cons o os =>
  show Q5 Stp.next Stp.exit Stp.fail _ (Jb5 r j (o::os))=_;simp only[Q5,Jb5,j9,i8,n7 hj (by omega)]
  rw[show (⟨1,((j+1:Nat):Int),(o::os).length,bL tX (o::os)⟩:o6)=Jb4 (j+1) (o::os) from rfl,hm,btD (k8 hj)]
  cases res<;>rfl
theorem Ge9(r:PLq)(hb:Bds r)(hr:r.length<=200)(a:Nat)(ha:a<r.length)(j:Nat)(out:List Pt)(ho:out.length<=40000*a) :
  ∃m,lp (E2 ⟨a⟩) (Jb5 r j out)=(ph (jb2 r r[a] (r.drop j) out)+1,Jb5 r m (jb2 r r[a] (r.drop j) out))/\(jb2 r r[a] (r.drop j) out).length<=40000*(a+1):=by
 have hk:=Ic0 (step:=E2 ⟨a⟩) (mk:=Jb5 r) (f:=λq l out=>Eb0 r r[a] q l out) (g:=λl out=>jb2 r r[a] l out) (fin:=λout=>ph out+1) r (λk o=>o.length<=40000*a+200*(k-j)/\j<=k/\k<=j+r.length) (by omega)
  (λ_=>rfl) (λ_ _ _=>rfl) (λk o hj hi=>⟨Ge8 r hb hr a k ha o (by omega) hj,by
   have:=Ic1 r r[a] r[k] (r.drop (k+1)) o
   rw[Qbr] at this;show (Eb0 r r[a] r[k] (r.drop (k+1)) o).length<=40000*a+200*(k+1-j)/\j<=k+1/\k+1<=j+r.length
   omega⟩)
  (λk o hj _=>Ze4 r a k o hj) j out (by omega)
 exact⟨_,hk.1,by have:=hk.2;omega⟩
theorem Pd5(r:PLq)(hb:Bds r)(hr:r.length<=200)(a:Nat)(ha:a<r.length)(out:List Pt)(ho:out.length<=40000*a) :
  I7 ⟨⟩ (Rb6 r a out)=.next (Rb6 r (a+1) (jb2 r r[a] (r.drop (a+1)) out))/\(jb2 r r[a] (r.drop (a+1)) out).length<=40000*(a+1):=by
 obtain⟨m,hm,hl⟩:=Ge9 r hb hr a ha (a+1) out ho;refine⟨?_,hl⟩
 clear hl
 unfold I7;generalize jb2 r r[a] (r.drop (a+1)) out=res at *
 cases out with
 |nil =>
  show Q6 Stp.next Stp.exit Stp.fail _ (Rb6 r a [])=_;simp only[Q6,Rb6,j9,i8,n7 ha (by omega)]
  rw[show (⟨0,r,((a+1:Nat):Int),0,[]⟩:p6)=Jb5 r (a+1) [] from rfl,hm,btD (k8 ha)]
  cases res<;>rfl
 |cons o os =>
  show Q7 Stp.next Stp.exit Stp.fail _ (Rb6 r a (o::os))=_;simp only[Q7,Rb6,j9,i8,n7 ha (by omega)]
  rw[show (⟨1,r,((a+1:Nat):Int),(o::os).length,bL tX (o::os)⟩:p6)=Jb5 r (a+1) (o::os) from rfl,hm,btD (k8 ha)]
  cases res<;>rfl
theorem He0(r:PLq)(hb:Bds r)(hr:r.length<=200):∃m,lp (I7 ⟨⟩) (Rb6 r 0 [])=(ph (cor r)+1,Rb6 r m (cor r))/\(cor r).length<=8000000:=by
 have hk:=Ic0 (step:=I7 ⟨⟩) (mk:=Rb6 r) (f:=λq l out=>jb2 r q l out) (g:=λl out=>jc6 r l out) (fin:=λout=>ph out+1) r (λk o=>o.length<=40000*k/\k<=r.length) (by omega)
  (λ_=>rfl) (λ_ _ _=>rfl) (λk o hj hi=>⟨(Pd5 r hb hr k hj o hi.1).1,(Pd5 r hb hr k hj o hi.1).2,hj⟩)
  (λk o hj _=>Ze5 r k o hj) 0 [] (by simp)
 exact⟨_,hk.1,by have:=hk.2;rw[show max 0 r.length=r.length by omega] at this;have h1:=this.1;show (jc6 r r []).length<=_;rw[Qic] at h1;omega⟩
def xf1(l:List Pt):b9×List c7:=match l with
 |[]=>(.v (.slice none 0 0),[])
 |_::_=>(.sl 0 0 l.length 0,[⟨125,4,bL tX l,true,false,0⟩])
theorem Pd6(l:List Pt):(one (r1L tX)).rd (xf1 l)=some l:=by
 cases l with
 |nil=>rfl
 |cons x l =>
  show Bool.rec (motive:=λ_=>Option (List Pt)) none (some (slR tX (bL tX (x::l)) 0 (x::l).length)) (Bool.and true (okS tX (bL tX (x::l)) 0 (x::l).length))=_
  rw[Va3,fb3];rfl
theorem oc4(r:PLq)(hb:Bds r)(hr:r.length<=200):sa5 r=some (xf1 (cor r)):=by
 obtain⟨m,hm,_⟩:=He0 r hb hr;unfold sa5;simp only[j9,i8];rw[show (⟨0,r,0,0,[]⟩:s6)=Rb6 r 0 [] from rfl,hm]
 cases cor r<;>rfl
theorem Gd8(r:PLq)(hb:Bds r)(hr:r.length<=200):Ja1 r=cor r:=by unfold Ja1;rw[oc4 r hb hr];exact Ta9 _ (Pd6 _)
theorem Gd9(r:PLq)(hb:Bds r)(hr:r.length<=200):Ja2 r=true:=by unfold Ja2;rw[oc4 r hb hr];exact nb7 _ (Pd6 _)
theorem Pd7(r:PLq)(hb:Bds r)(hr:r.length<=200):Wa4 r=some (b (Ed8 r),[]):=by
 have hX:(cor r).length<=1000000000:=Qad (Be9 r hb hr) (by omega)
 have h:=Pa2 (step:=sa7 ⟨⟩) (mk:=λj=>(⟨r,cor r,(j:Int)⟩:Ca0)) (c:=λp=>!pos (cor r) p) (u:=1) (fin:=2) tP r (by omega)
  (λj hj=>by
   obtain⟨m,hm⟩:=Ed9 r (cor r) hr hX j hj;simp only[sa7,Ca3,j9,i8,hm,n7 hj (by omega),La6 tP hj]
   rw[btD (k8 hj)]
   rfl)
  (by simp only[sa7,Ca3];rw[bfD (n9 (Qed _))]) 0 (Qee _)
 rw[Qic] at h;have e:(r.any λp=>!pos (cor r) p)=!r.all (pos (cor r)):=by rw[Qih]
 unfold Wa4 Ed8;simp only[j9,i8,O7,Gd8 r hb hr,Gd9 r hb hr];rw[show (⟨r,cor r,0⟩:Ca0)=⟨r,cor r,((0:Nat):Int)⟩ from rfl,h,e]
 cases r.all (pos (cor r))<;>rfl
theorem cf8(r:PLq)(hb:Bds r)(hr:r.length<=200):qb5 r=Ed8 r:=by unfold qb5;rw[Pd7 r hb hr];rfl
theorem cf9(r:PLq)(hb:Bds r)(hr:r.length<=200):qb6 r=true:=by unfold qb6;rw[Pd7 r hb hr];rfl
theorem xd3{c:PLq}(hc:c.length<=1000000000):Wa5 c=some (b (ful c),[]):=by
 unfold Wa5 ful;simp only[j9,O7,je4 c hc,je5 c hc,vf2 c hc,vf3 c hc];cases h:chk c==0 with
 |false=>rfl
 |true =>
  obtain⟨h1,h2⟩:=fd0 h;rw[cf8 _ h1 h2,cf9 _ h1 h2];rfl
theorem Pd8{c:PLq}(hc:c.length<=1000000000):Ga9 c=ful c:=by unfold Ga9;rw[xd3 hc];rfl
theorem Pd9{c:PLq}(hc:c.length<=1000000000):Ha0 c=true:=by unfold Ha0;rw[xd3 hc];rfl
theorem Zd5(x:List Int):Rd (one (r1L tP)) (ya0 x) ac8:=by
 obtain⟨v1,j1,e1,a1,b1,c1,d1⟩:=M9 4 x 0 (by omega) (by omega) (by omega) (by omega)
 obtain⟨w1,w2,w3,j2,e2,p1,p2,p3,c2,d2⟩:=Za0 6 x j1 (by omega) (by omega) (by omega) (by omega)
 obtain⟨v3,j3,e3,a3,b3,c3,d3⟩:=M9 6 x j2 (by omega) (by omega) (by omega) (by omega)
 obtain⟨v4,j4,e4,a4,b4,c4,d4⟩:=M9 6 x j3 (by omega) (by omega) (by omega) (by omega)
 obtain⟨v5,j5,e5,a5,b5,c5,d5⟩:=M9 6 x j4 (by omega) (by omega) (by omega) (by omega)
 have hin:inB (if 7<(x.length:Int) then 7 else (x.length:Int)) (x.length+1)=true:=by
  rw[ed4];apply decide_eq_true
  split<;>omega
 have hok:∀n m,okL tI n (λk=>(λk=>tI.row (gL tI x k)) (m+k))=true:=λn m=>Na4 tI (f:=λk=>gL tI x (m+k)) λ_ _=>rfl
 unfold ya0;simp only[j9,i8,O7,e1,e2,e3,e4,e5,ke0,ke1,hin,hok,kb1,Nd4,td7,Qib,Qia,l0];generalize hL:lsL tI _ _=L;have hg:ac8 (Rb7 ⟨w1,w2,w3⟩ ⟨W (W (w1+1)+v3),W (W (w2+1)+v4),W (W (w3+1)+v5)⟩):=by
  obtain⟨q1,q2⟩:=p1;obtain⟨q3,q4⟩:=p2;obtain⟨q5,q6⟩:=p3;have i1:W (W (w1+1)+v3)=w1+1+v3:=by rw[E7 (n:=w1+1) (by omega) (by omega),E7 (by omega) (by omega)]
  have i2:W (W (w2+1)+v4)=w2+1+v4:=by rw[E7 (n:=w2+1) (by omega) (by omega),E7 (by omega) (by omega)]
  have i3:W (W (w3+1)+v5)=w3+1+v5:=by rw[E7 (n:=w3+1) (by omega) (by omega),E7 (by omega) (by omega)]
  rw[i1,i2,i3];refine oe3 ⟨⟨?_,?_⟩,⟨?_,?_⟩,?_,?_⟩ ⟨⟨?_,?_⟩,⟨?_,?_⟩,?_,?_⟩ ⟨?_,?_,?_⟩<;>simp only<;>omega
 have hB6:(Rb7 ⟨w1,w2,w3⟩ ⟨W (W (w1+1)+v3),W (W (w2+1)+v4),W (W (w3+1)+v5)⟩).length=6:=rfl;generalize hB:Rb7 _ _=B at *
 have hl6:len (bL tP B)=6:=by rw[S7,hB6]
 have ea:app [] (bL tP B)=bL tP B:=rfl;have es:∀q:Pln,slR tP (bL tP (B++[q])) 0 (0+6+1)=B++[q]:=λq=>by
  have:=Va3 tP (B++[q])
  rw[Qea,hB6] at this;exact this
 have eo:∀q:Pln,okS tP (bL tP (B++[q])) 0 (0+6+1)=true:=λq=>by
  have:=fb3 tP (B++[q])
  rw[Qea,hB6] at this;exact this
 have hlen:∀q:Pln,(B++[q]).length<=1000000000:=λq=>by rw[Qea,hB6];exact (by decide:6+1<=1000000000)
 have gF:∀q:Pln,Ha0 (B++[q])=true:=λq=>Pd9 (hlen q)
 have pF:∀q:Pln,Ga9 (B++[q])=ful (B++[q]):=λq=>Pd8 (hlen q)
 have q1:Nat.ble ((0+6)*32) room=true:=da0 (by omega)
 have q2:Nat.ble (((0+6)+1)*32) room=true:=da0 (by omega)
 have q3:Nat.beq (0+6) 6=true:=rfl;have hp:=td8 L;have gf:La4 (B9 L)=true:=Nd7 _ (by omega)
 simp only[hl6,ea,Zb7,es,eo,gF,pF,q1,q2,q3,Qjg,gf,ud6 (B9 L) (by omega),l0,show Nat.beq 6 0=false from rfl,Va2]
 have box:Rd (one (r1L tP)) (some (eL tP B,[])) ac8:=fd4 hg;have fcs:(rb8 (B9 L)).2==0->Rd (one (r1L tP)) (some (eL tP (rb8 (B9 L)).1,[])) ac8:=λh=>fd4 (by
  unfold rb8 at h ⊢;by_cases h0:Rb8 (B9 L)=0
  ·rw[if_pos h0];exact Yd2 h0 hp.2
  ·rw[if_neg h0] at h;exact absurd (by simpa using h) h0)
 have hcut:ful (B++[na5 L])=true->ac8 (B++[na5 L]):=λhf =>
  ⟨by rw[Qea,hB6];exact (by decide:6+1<=47),λp h=>by
   rcases Qii.1 h with h|h
   ·exact hg.v p h
   ·rw[Qkj.1 h];exact De9 L,(ne6 hf).2.2⟩
 exact Qkk (λ_=>Qkk (λhf=>fd3 (by rw[Qea,hB6];rfl) rfl (hcut hf)) λ_=>Qkk (λ_=>Qkk (λh=>fcs h) λ_=>box) λ_=>box) λ_=>Qkk (λ_=>Qkk (λh=>fcs h) λ_=>box) λ_=>box
theorem oc5(x:List Int):ac8 (Ia0 x):=(Zd5 x).p
theorem xf2{a c k:V3}{p:Pln}(h:Thr a c k p)(ha:inV a=true):Sm 331776 p.b:=by
 rw[<- (Jc2 h).1];exact fd7 (Ya9 h.ok) ha
theorem He1{a c k:V3}(h:(u9 a c k).2=true):inV a=true:=by
 unfold u9 at h
 split at h
 ·rename_i hh;rw[Qbd] at hh;exact hh.1
 ·cases h
theorem Zd6(l:List Int):Rd (one r1P) (ga9 l) (λp=>Sm 331776 p.b):=by
 unfold ga9;simp only[j9,i8];obtain⟨v1,j1,e1,a1,b1,c1,d1⟩:=M9 8 l 0 (by omega) (by omega) (by omega) (by omega)
 rw[e1]
 simp only
 obtain⟨v2,j2,e2,a2,b2,c2,d2⟩:=M9 17 l j1 (by omega) (by omega) (by omega) (by omega)
 rw[e2]
 simp only
 obtain⟨x1,x2,x3,j3,e3,_,_,_,c3,d3⟩:=Za0 8 l j2 (by omega) (by omega) (by omega) (by omega)
 rw[e3]
 simp only
 obtain⟨y1,y2,y3,j4,e4,_,_,_,c4,d4⟩:=Za0 8 l j3 (by omega) (by omega) (by omega) (by omega)
 rw[e4]
 simp only
 obtain⟨z1,z2,z3,j5,e5,_,_,_,c5,d5⟩:=Za0 8 l j4 (by omega) (by omega) (by omega) (by omega)
 rw[e5];simp only[Ua0,ra4,Nd0 _ (show (0:Int)<3 by omega) (by omega),i8]
 simp only[Qib,Qia,l0];have w2:W (v2-8)=v2-8:=E7 (by omega) (by omega)
 have w1:W (1-W (2*Int.tmod v1 2))=1\/W (1-W (2*Int.tmod v1 2))=-1:=by
  have h:=Int.tmod_nonneg 2 a1;have h2:=Int.tmod_lt_of_pos v1 (show (0:Int)<2 by omega)
  rw[E7 (n:=2*Int.tmod v1 2) (by omega) (by omega),E7 (by omega) (by omega)]
  omega
 rw[w2];generalize W (1-W (2*Int.tmod v1 2))=s at *
 have ax:∀{n:V3},Sm 331776 (⟨n,v2-8⟩:Pln).b:=λ{n}=>⟨by simp only;omega,by simp only;omega⟩
 have r1:Rd (one r1P) (some (.agg [i 0,i s,i 0,i (v2-8)],[])) (λp=>Sm 331776 p.b):=⟨_,⟨⟨0,s,0⟩,v2-8⟩,rfl,rfl,ax⟩
 have r2:Rd (one r1P) (some (.agg [i 0,i 0,i s,i (v2-8)],[])) (λp=>Sm 331776 p.b):=⟨_,⟨⟨0,0,s⟩,v2-8⟩,rfl,rfl,ax⟩
 have r3:Rd (one r1P) (some (.agg [i s,i 0,i 0,i (v2-8)],[])) (λp=>Sm 331776 p.b):=⟨_,⟨⟨s,0,0⟩,v2-8⟩,rfl,rfl,ax⟩
 refine Qkk (λ_=>Qkk (λh=>?_) λ_=>?_) (λ_=>?_)
 ·exact⟨_,(u9 ⟨x1,x2,x3⟩ ⟨y1,y2,y3⟩ ⟨z1,z2,z3⟩).1,rfl,rfl,xf2 (ba9 h).2 (He1 h)⟩
 ·exact Qkk (λ_=>r1) λ_=>Qkk (λ_=>r2) λ_=>r3
 ·exact Qkk (λ_=>r1) λ_=>Qkk (λ_=>r2) λ_=>r3
theorem re2(l:List Int):Sm 331776 (na5 l).b:=(Zd6 l).p
def MB(c:PLq):Prop:=∀p∈c,Sm 331776 p.b
theorem df0{lo hi:V3}(h1:Sm 20 lo.x/\Sm 20 lo.y/\Sm 20 lo.z)(h2:Sm 20 hi.x/\Sm 20 hi.y/\Sm 20 hi.z):MB (Rb7 lo hi):=by
 obtain⟨⟨a1,a2⟩,⟨a3,a4⟩,a5,a6⟩:=h1;obtain⟨⟨b1,b2⟩,⟨b3,b4⟩,b5,b6⟩:=h2;have w:∀{x:Int},-20<=x->x<=20->W (0-x)=-x:=λh h'=>by rw[E7 (by omega) (by omega)];omega
 intro p hp;unfold Rb7 at hp;rw[w a1 a2,w a3 a4,w a5 a6] at hp;simp only[Qbp,Qjs,or_false] at hp
 rcases hp with rfl|rfl|rfl|rfl|rfl|rfl<;>exact⟨by simp only;omega,by simp only;omega⟩
theorem He2{l:List V3}(h:Rb8 l=0):MB (F0 l):=λp hp=>by
 obtain⟨h1,h2⟩:=Wc0 h;have hF:=(fd9 h1 p).1 hp;obtain⟨u,w,x,hu,hw,hx,h3,t1,t2,t3⟩:=hF.on;rw[<- t1];exact fd7 (Ya9 hF.ok) (Qcf.1 h1 u hu)
theorem xd4(x:List Int):Rd (one (r1L tP)) (ya0 x) MB:=by
 obtain⟨v1,j1,e1,a1,b1,c1,d1⟩:=M9 4 x 0 (by omega) (by omega) (by omega) (by omega)
 obtain⟨w1,w2,w3,j2,e2,p1,p2,p3,c2,d2⟩:=Za0 6 x j1 (by omega) (by omega) (by omega) (by omega)
 obtain⟨v3,j3,e3,a3,b3,c3,d3⟩:=M9 6 x j2 (by omega) (by omega) (by omega) (by omega)
 obtain⟨v4,j4,e4,a4,b4,c4,d4⟩:=M9 6 x j3 (by omega) (by omega) (by omega) (by omega)
 obtain⟨v5,j5,e5,a5,b5,c5,d5⟩:=M9 6 x j4 (by omega) (by omega) (by omega) (by omega)
 have hin:inB (if 7<(x.length:Int) then 7 else (x.length:Int)) (x.length+1)=true:=by
  rw[ed4];apply decide_eq_true
  split<;>omega
 have hok:∀n m,okL tI n (λk=>(λk=>tI.row (gL tI x k)) (m+k))=true:=λn m=>Na4 tI (f:=λk=>gL tI x (m+k)) λ_ _=>rfl
 unfold ya0;simp only[j9,i8,O7,e1,e2,e3,e4,e5,ke0,ke1,hin,hok,kb1,Nd4,td7,Qib,Qia,l0];generalize hL:lsL tI _ _=L;have hg:MB (Rb7 ⟨w1,w2,w3⟩ ⟨W (W (w1+1)+v3),W (W (w2+1)+v4),W (W (w3+1)+v5)⟩):=by
  obtain⟨q1,q2⟩:=p1;obtain⟨q3,q4⟩:=p2;obtain⟨q5,q6⟩:=p3;have i1:W (W (w1+1)+v3)=w1+1+v3:=by rw[E7 (n:=w1+1) (by omega) (by omega),E7 (by omega) (by omega)]
  have i2:W (W (w2+1)+v4)=w2+1+v4:=by rw[E7 (n:=w2+1) (by omega) (by omega),E7 (by omega) (by omega)]
  have i3:W (W (w3+1)+v5)=w3+1+v5:=by rw[E7 (n:=w3+1) (by omega) (by omega),E7 (by omega) (by omega)]
  rw[i1,i2,i3];refine df0 ⟨⟨?_,?_⟩,⟨?_,?_⟩,?_,?_⟩ ⟨⟨?_,?_⟩,⟨?_,?_⟩,?_,?_⟩<;>simp only<;>omega
 have hB6:(Rb7 ⟨w1,w2,w3⟩ ⟨W (W (w1+1)+v3),W (W (w2+1)+v4),W (W (w3+1)+v5)⟩).length=6:=rfl;generalize hB:Rb7 _ _=B at *
 have hl6:len (bL tP B)=6:=by rw[S7,hB6]
 have ea:app [] (bL tP B)=bL tP B:=rfl;have es:∀q:Pln,slR tP (bL tP (B++[q])) 0 (0+6+1)=B++[q]:=λq=>by
  have:=Va3 tP (B++[q])
  rw[Qea,hB6] at this;exact this
 have eo:∀q:Pln,okS tP (bL tP (B++[q])) 0 (0+6+1)=true:=λq=>by
  have:=fb3 tP (B++[q])
  rw[Qea,hB6] at this;exact this
 have hlen:∀q:Pln,(B++[q]).length<=1000000000:=λq=>by rw[Qea,hB6];exact (by decide:6+1<=1000000000)
 have gF:∀q:Pln,Ha0 (B++[q])=true:=λq=>Pd9 (hlen q)
 have pF:∀q:Pln,Ga9 (B++[q])=ful (B++[q]):=λq=>Pd8 (hlen q)
 have q1:Nat.ble ((0+6)*32) room=true:=da0 (by omega)
 have q2:Nat.ble (((0+6)+1)*32) room=true:=da0 (by omega)
 have q3:Nat.beq (0+6) 6=true:=rfl;have hp:=td8 L;have gf:La4 (B9 L)=true:=Nd7 _ (by omega)
 simp only[hl6,ea,Zb7,es,eo,gF,pF,q1,q2,q3,Qjg,gf,ud6 (B9 L) (by omega),l0,show Nat.beq 6 0=false from rfl,Va2]
 have box:Rd (one (r1L tP)) (some (eL tP B,[])) MB:=fd4 hg;have fcs:(rb8 (B9 L)).2==0->Rd (one (r1L tP)) (some (eL tP (rb8 (B9 L)).1,[])) MB:=λh=>fd4 (by
  unfold rb8 at h ⊢;by_cases h0:Rb8 (B9 L)=0
  ·rw[if_pos h0];exact He2 h0
  ·rw[if_neg h0] at h;exact absurd (by simpa using h) h0)
 have hcut : ful (B ++ [na5 L]) = true → MB (B ++ [na5 L]) := fun _ p h => by
   rcases Qii.1 h with h|h
   ·exact hg p h
   ·rw[Qkj.1 h];exact re2 L
 exact Qkk (λ_=>Qkk (λhf=>fd3 (by rw[Qea,hB6];rfl) rfl (hcut hf)) λ_=>Qkk (λ_=>Qkk (λh=>fcs h) λ_=>box) λ_=>box) λ_=>Qkk (λ_=>Qkk (λh=>fcs h) λ_=>box) λ_=>box
theorem He3(x:List Int):MB (Ia0 x):=(xd4 x).p
theorem re3{α:Type}(t:Ty α){l:List α}{j:Nat}{c:α->Bool}(h:j<l.length):(l.take (j+1)).all c=((l.take j).all c&&c (gL t l j)):=by
 rw[Hb7 t h,List.all_append,List.all_cons,List.all_nil,Qia]
theorem df1{α:Type}(t:Ty α){l:List α}{j:Nat}{c:α->Bool}(h:j<l.length)(hc:c (gL t l j)=false):l.all c=false:=by
 rw[List.all_eq_false];exact⟨_,Gc0 t h,by rw[hc];simp⟩
section
variable(c:PLq)(e:V3)(s:Int)
structure PI(j:Nat)(o:PLq):Prop where
 le:j<=c.length
 o:o=(c.take j).map (pq e s)
 a:(c.take j).all (okq e s)=true
def PE{σ:Type}(mk:Nat->PLq->σ)(t:Nat)(st:σ):Prop:=(t=1/\c.all (okq e s)=false)\/(c.all (okq e s)=true/\t=phP (c.map (pq e s))+2/\∃j,st=mk j (c.map (pq e s)))
theorem Zd7{σ:Type}{step:σ->Stp σ}{mk:Nat->PLq->σ}(hc:c.length<=1000000)
  (h:∀j o,j<c.length->o.length<=1000000->step (mk j o)=if okq e s (gL tP c j)=true then .next (mk (j+1) (o++[pq e s (gL tP c j)])) else .exit 1)
  (hf:∀o,step (mk c.length o)=.exit (phP o+2)):∃t st,lp step (mk 0 [])=(t,st)/\PE c e s mk t st :=
 L7 (step:=step) (mk:=mk) c.length (PI c e s) (PE c e s mk) (by omega)
  (λj o hj hi=>by
   have hlen:o.length<=1000000:=by
    rw[hi.o,List.length_map]
    have:=Qkh j c
    omega
   rw[h j o hj hlen];cases hk:okq e s (gL tP c j) with
   |true=>exact .nx ⟨_,rfl,by omega,by rw[Hb7 tP hj,List.map_append,<- hi.o];rfl,by rw[re3 tP hj,hi.a,hk];rfl⟩
   |false=>exact .ex (.inl ⟨rfl,df1 tP hj hk⟩))
  (λj o hj hi=>by
   have hje:j=c.length:=by have:=hi.le;omega
   subst hje;have ho:=hi.o;have ha:=hi.a;rw[List.take_length] at ho ha;subst ho;exact⟨_,hf _,.inr ⟨ha,rfl,_,rfl⟩⟩) 0 [] ⟨Qee _,by simp,by simp⟩
end
theorem Kf6(O:PLq)(p:Pln):app (bL tP O) [[i p.n.x,i p.n.y,i p.n.z,i p.b]]=bL tP (O++[p]):=xa2 tP O [p]
theorem re4{σ:Type}{e:V3}{s:Int}{p:Pln}(k:Pln->Stp σ) :
  sl (!(if okq e s p=true then (pq e s p,true) else ((⟨⟨0,0,0⟩,0⟩:Pln),false)).2) (.exit 1) (k (if okq e s p=true then (pq e s p,true) else ((⟨⟨0,0,0⟩,0⟩:Pln),false)).1)=if okq e s p=true then k (pq e s p) else .exit 1:=by
 cases okq e s p<;>rfl
theorem hd7(c:PLq){e:V3}(he:B12 e)(hc:c.length<=1000000):∃t st,lp (ra3 ⟨e.x,e.y,e.z,c,(c.length:Int)⟩) ⟨0,0,0,[]⟩=(t,st)/\PE c e 1 (λj o=>(⟨phP o,(j:Int),o.length,bL tP o⟩:n8)) t st:=by
 refine Zd7 c e 1 (step:=ra3 ⟨e.x,e.y,e.z,c,(c.length:Int)⟩) (mk:=λj o=>(⟨phP o,(j:Int),o.length,bL tP o⟩:n8)) hc (λj o hj ho=>?_) (λo=>?_)
 ·have hn:=n7 hj (show c.length<=4611686018427387904 by omega)
  have hb:=g7 hj;have hp:Zd4 (gL tP c j) (wa6 ⟨e.x,e.y,e.z⟩ (gL tP c j))=if okq e 1 (gL tP c j)=true then (pq e 1 (gL tP c j),true) else (⟨⟨0,0,0⟩,0⟩,false):=cf3 he (.inl rfl) λhp=>by
   rw[Int.one_mul];exact qe2 hp he
  cases o with
  |nil =>
   show R9 Stp.next Stp.exit Stp.fail _ _=_;simp only[R9,Int.toNat_natCast,qe4,qe5,hp,hn,hb];rw[btD (k8 hj)];exact re4 (λp=>Stp.next (⟨1,((j+1:Nat):Int),1,[[i p.n.x,i p.n.y,i p.n.z,i p.b]]⟩:n8))
  |cons q o =>
   have rr:(Nat.beq (q::o).length (len (bL tP (q::o)))&&Nat.ble (((q::o).length+1)*32) room)=true:=Ib2 rfl (by omega)
   show S1 Stp.next Stp.exit Stp.fail _ _=_;simp only[S1,Int.toNat_natCast,qe4,qe5,hp,hn,hb,rr,Kf6];rw[btD (k8 hj)];refine (re4 (λp=>Stp.next (⟨1,((j+1:Nat):Int),(q::o).length+1,bL tP (q::o++[p])⟩:n8))).trans ?_
   cases okq e 1 (gL tP c j)
   ·rfl
   ·show Stp.next (⟨1,_,(q::o).length+1,_⟩:n8)=Stp.next (⟨1,_,(q::o++[_]).length,_⟩:n8);rw[Qea];rfl
 ·cases o with
  |nil =>
   show R9 Stp.next Stp.exit Stp.fail _ _=_;simp only[R9];rw[bfD (n9 (Qed _))];rfl
  |cons q o =>
   show S1 Stp.next Stp.exit Stp.fail _ _=_;simp only[S1];rw[bfD (n9 (Qed _))];rfl
theorem He4(l:PLq):(two (r1L tP) r1B).rd (.tup [.sl 0 0 l.length 0,b true],[⟨66,4,bL tP l,true,false,0⟩])=some (l,true):=by
 have h:(r1L tP).rd [⟨66,4,bL tP l,true,false,0⟩] (.sl 0 0 l.length 0)=some l:=by
  show Bool.rec (motive:=λ_=>Option PLq) none (some (slR tP (bL tP l) 0 l.length)) (Bool.and true (okS tP (bL tP l) 0 l.length))=_
  rw[Va3,fb3];rfl
 simp only[two,h];rfl
theorem re5(c:PLq)(e:V3)(hc:c.length<=1000000):∃x,Ya6 c e=some x/\(two (r1L tP) r1B).rd x=some (wd7 c e 1):=by
 unfold Ya6 jb1 jb0 wd7;simp only[j9,i8,qe6,qe7];cases hb:P7 e with
 |false=>exact⟨_,rfl,rfl⟩
 |true =>
  obtain⟨t,st,h,hE⟩:=hd7 c ((kc5 e).1 hb) hc;rw[h]
  rcases hE with⟨rfl,ha⟩|⟨ha,rfl,j,rfl⟩
  ·rw[ha];exact⟨_,rfl,rfl⟩
  ·rw[ha];cases hm:c.map (pq e 1) with
   |nil=>exact⟨_,rfl,rfl⟩
   |cons q o=>exact⟨_,rfl,He4 (q::o)⟩
section
variable(c:PLq)(e:V3)(hc:c.length<=1000000)
include hc
theorem re6:Ya7 c e=wd7 c e 1:=by obtain⟨x,h,k⟩:=re5 c e hc;unfold Ya7;rw[h];exact Ta9 _ k
theorem re7:Ya8 c e=true:=by obtain⟨x,h,k⟩:=re5 c e hc;unfold Ya8;rw[h];exact nb7 _ k
end
end Go.Ev.Ce
namespace Go.Ev
open Go Go.ChangeShapes Go.RowKit
structure Kc4(w w':World):Prop where
 os:w'.os=w.os
 output:w'.output=w.output
 size:w.heap.size<=w'.heap.size
 block:∀k,k<w.heap.size->w'.heap[k]?=w.heap[k]?
theorem Kc4.kept{w w':World}(h:Kc4 w w')(may:MemPlace->Prop):w.keptBut w' may:=by
 refine⟨h.os,h.output,λi hi=>?_⟩
 rw[h.block i hi]
 grind
theorem Kc4.frozen{w w':World}(h:Kc4 w w')(b off:Nat)(hb:b<w.heap.size):w'.frozen? ⟨b,off,none⟩=w.frozen? ⟨b,off,none⟩:=by
 simp only[World.frozen?,h.block b hb]
theorem Kc4.cell{w w':World}(h:Kc4 w w')(b off:Nat)(hb:b<w.heap.size):w'.cell? ⟨b,off,none⟩=w.cell? ⟨b,off,none⟩:=by
 simp only[World.cell?,h.block b hb]
theorem Kc4.same{w w':World}(h:Kc4 w w')(p:MemPlace)(hp:p.block<w.heap.size):w.sameAt w' p:=by
 cases p with
 |cell b off=>exact h.cell b off hp
 |map b=>exact h.block b hp
theorem Eb2{α β:Type}{f:α->Option β}:∀{l:List α} {r:List β},l.mapM f=some r->r.length=l.length/\∀(j:Nat) y,r[j]?=some y->∃x,l[j]?=some x/\f x=some y
 |[],r,h=>by
  simp_all
 |x::l,r,h=>by
  rw[List.mapM_cons] at h;obtain⟨y,h1,h2⟩:=Qka.1 h;obtain⟨r',h3,h4⟩:=Qka.1 h2
  have:r=y::r':=by simpa using h4.symm
  subst this;obtain⟨g1,g2⟩:=Eb2 h3
  grind
section
variable{D:Type}{enc:TypeId×Value->D}{P:Program}
theorem Nb8{T:TypeId->Prop}(K:Kids P T)(hsz:∀{t e:TypeId},T t->P.underlying t=some (.slice e)->0<P.cellsOf e){w w':World}{sp:Nat->Bool}(hs:Kc4 w w') :
  ∀{ts:List TypeId} {vs:List Value} {ds:List (DataW D)} {ps:List MemPlace},(∀t∈ts,T t)->DataW.TrodAll enc P w 0 (λ_=>true) true ts vs ds ps->(∀p∈ps,p.block<w.heap.size)->(∀p∈ps,sp p.block=true)->DataW.TrodAll enc P w' 0 sp true ts vs ds ps
 |[],[],[],_,_,h,_,_=>h
 |t::ts,v::vs,d::ds,ps,ht,h,hlt,hsp=>by
  obtain⟨p,q,⟨fuel,h1⟩,h2,rfl⟩:=h;refine⟨p,q,⟨fuel,?_⟩,Nb8 K hsz hs (λt h=>ht t (by simp[h])) h2 (λx hx=>hlt x (by simp[hx])) (λx hx=>hsp x (by simp[hx])),rfl⟩
  exact DataW.trod_stays K hsz (λh=>by cases h) (ht t (by simp)) h1 (λx hx=>hs.same x (hlt x (by simp at hx ⊢;exact .inl hx))) (λx hx=>hsp x (by simp at hx ⊢;exact .inl hx))
 |[],_::_,_,_,_,h,_,_=>h.elim
 |[],[],_::_,_,_,h,_,_=>h.elim
 |_::_,[],_,_,_,h,_,_=>h.elim
 |_::_,_::_,[],_,_,h,_,_=>h.elim
theorem re8{T:TypeId->Prop}(K:Kids P T)(hsz:∀{t e:TypeId},T t->P.underlying t=some (.slice e)->0<P.cellsOf e){f:Func}{s:ChangeSpec}{apart fresh handsOn again:Bool}{W W':World}{args:Array Value}{ds gs:List (DataW D)}{before:List MemPlace}{tb:TypeId}
  (hT:∀t∈f.params.toList,T t) (hW:DataW.Whole enc P f.params.toList s.vars apart W args.toList ds gs before) (hv:s.vars=[]) (hr:f.resultTypes=#[tb]) (hb:P.underlying tb=some .bool)
  (h1:(s.fn D ds).results=[.lit (.bool true)]) (h2:(s.fn D ds).args=ds) (h3:(s.fn D ds).vars=[]) (hs:Kc4 W W') :
  s.post enc P f apart fresh handsOn again W args (.bool true) W':=by
 have hlt:=hW.lt;obtain⟨pa,pv,hA,hV,hps,hz,hn⟩:=id hW;rw[hv] at hV;have hpv:gs=[]/\pv=[]:=by
  cases gs with
  |nil=>exact⟨rfl,hV⟩
  |cons=>exact hV.elim
 obtain⟨rfl,rfl⟩:=hpv;rw[<- Qbad ds] at h1 h3;have h2:(s.fn D (ds++[])).args=ds:=by rw[Qbad];exact h2
 have hpa:before=pa:=by rw[hps];simp
 subst hpa;have hagain:∀sp:Nat->Bool,(∀p∈before,sp p.block=true)->DataW.TrodAll enc P W' 0 sp true f.params.toList args.toList ds before:=λsp h=>Nb8 K hsz hs hT hA hlt h
 have hres:∀(b:Nat) (sp:Nat->Bool) (hd:Bool),DataW.TrodAll enc P W' b sp hd f.resultTypes.toList ((Value.bool true).resultList f.resultTypes.size) [.lit (.bool true)] []:=λb sp hd=>by
  rw[hr];exact⟨[],[],⟨1,by simp[DataW.trod,hb,Value.cells,Value.resultList]⟩,rfl,rfl⟩
 have hvars:∀sp:Nat->Bool,DataW.TrodVars enc P W' sp s.vars ([]:List (DataW D)) []:=λsp=>by rw[hv];exact rfl
 have hok:∀(j:Nat) (t:TypeId) (r:Value),f.resultTypes[j]?=some t->((Value.bool true).resultList f.resultTypes.size)[j]?=some r->Value.okWide P W' .any 0 t r:=by
  rw[hr];intro j t r h4 h5;cases j with
  |zero =>
   simp at h4
   subst h4
   have:r=.bool true:=by simpa [Value.resultList] using h5.symm
   subst this;exact okWide_bool_mk hb _
  |succ j=>simp at h4
 have hag:DataW.TrodAll enc P W' 0 (λ_=>true) true (f.resultTypes.toList++f.params.toList) ((Value.bool true).resultList f.resultTypes.size++args.toList) (.lit (.bool true)::ds) before:=by
  have:=hagain (λ_=>true) (λ_ _=>rfl)
  rw[hr];exact⟨[],before,⟨1,by simp[DataW.trod,hb,Value.cells,Value.resultList]⟩,this,rfl⟩
 refine⟨ds,[],before,[],before,[],hW,?_,?_,?_,hs.kept _,λ_=>?_⟩
 ·rw[h1];exact hres _ _ _
 ·grind
 ·rw[h3];exact hvars _
 ·refine⟨hok,.lit (.bool true)::ds,[],before,⟨before,[],hag,hvars _,by simp,?_,?_⟩,?_⟩
  ·intro b off hp;rw[hs.frozen b off (hlt _ hp)];exact hz b off (by simpa using hp)
  ·omega
  ·intro p hp _;exact hp
variable{w:World}{base:Nat}{spare:Nat->Bool}{held:Bool}
def hd8(w:World):Fz:=λb o=>(w.cell? ⟨b,o,none⟩).isSome
theorem df2{fuel:Nat}{t:TypeId}{k:IntKind}{cs:List Value}{x:DataW D×List MemPlace}(ht:P.underlying t=some (.int k))(h:DataW.trod enc P w base spare held fuel t cs=some x) :
  ∃n,cs=[.int k n]/\(Lit.int k n).wf=true/\x.1=.lit (.int k n):=by
 cases fuel with
 |zero=>cases h
 |succ fuel =>
  match cs,h with
  |[],h=>simp[DataW.trod,ht] at h
  |[v],h =>
   cases v with
   |int k' n =>
    simp only[DataW.trod,ht] at h
    grind
   |_=>simp[DataW.trod,ht] at h
  |a::b::r,h=>simp[DataW.trod,ht] at h
theorem He5{fuel:Nat}{t:TypeId}{cs:List Value}{x:DataW D×List MemPlace}(ht:P.underlying t=some .bool)(h:DataW.trod enc P w base spare held fuel t cs=some x) :
  ∃n,cs=[.bool n]/\x.1=.lit (.bool n):=by
 cases fuel with
 |zero=>cases h
 |succ fuel =>
  match cs,h with
  |[],h=>simp[DataW.trod,ht] at h
  |[v],h =>
   cases v with
   |bool n =>
    simp only[DataW.trod,ht] at h
    grind
   |_=>simp[DataW.trod,ht] at h
  |a::b::r,h=>simp[DataW.trod,ht] at h
theorem re9{fuel:Nat}{t e:TypeId}{n:Nat}{cs:List Value}{x:DataW D×List MemPlace}(ht:P.underlying t=some (.array n e))(h:DataW.trod enc P w base spare held fuel t cs=some x) :
  cs.length=P.cellsOf t/\∃(fuel':Nat) (xs:List (DataW D×List MemPlace)),xs.length=n/\x.1=.agg (xs.map (·.1))/\∀(j:Nat) y,xs[j]?=some y->DataW.trod enc P w base spare held fuel' e ((cs.drop (j*P.cellsOf e)).take (P.cellsOf e))=some y:=by
 cases fuel with
 |zero=>cases h
 |succ fuel =>
  unfold DataW.trod at h;rw[ht] at h
  simp only at h
  split at h
  ·rename_i hl;obtain⟨xs,h1,h2⟩:=Qce.1 h;have hx:=Eb2 h1;exact⟨hl,fuel,xs,by simpa using hx.1,by rw[<- h2],λj y hy=>by
    obtain⟨a,ha,hb⟩:=hx.2 j y hy
    have:j<n:=by
     have:=(Qab.1 hy).1
     rw[hx.1] at this;simpa using this
    rw[Qke this] at ha;injection ha with ha;subst ha;exact hb⟩
  ·cases h
theorem Zd8{fuel:Nat}{t:TypeId}{fs:Array Field}{cs:List Value}{x:DataW D×List MemPlace}(ht:P.underlying t=some (.struct fs))(h:DataW.trod enc P w base spare held fuel t cs=some x) :
  cs.length=P.cellsOf t/\∃(fuel':Nat) (xs:List (DataW D×List MemPlace)),xs.length=fs.size/\x.1=.agg (xs.map (·.1))/\∀(j:Nat) f,fs[j]?=some f->∃y,xs[j]?=some y/\DataW.trod enc P w base spare held fuel' f.type ((cs.drop f.offset).take (P.cellsOf f.type))=some y:=by
 cases fuel with
 |zero=>cases h
 |succ fuel =>
  unfold DataW.trod at h;rw[ht] at h
  simp only at h
  split at h
  ·rename_i hl;obtain⟨xs,h1,h2⟩:=Qce.1 h;have hx:=Eb2 h1;refine⟨hl,fuel,xs,by simpa using hx.1,by rw[<- h2],λj f hf=>?_⟩
   grind
  ·cases h
theorem se0{fuel:Nat}{t e:TypeId}{cs:List Value}{x:DataW D×List MemPlace}(ht:P.underlying t=some (.slice e))(h:DataW.trod enc P w base spare held fuel t cs=some x) :
  cs=[.slice none 0 0]\/∃(a:Addr) (n cap fuel':Nat),cs=[.slice (some a) n cap]/\n<=cap/\cap<=maxLen/\∀j,j<n->∃row y,w.cells? base (a.add (j*P.cellsOf e)) (P.cellsOf e)=some row/\DataW.trod enc P w base spare held fuel' e row=some y:=by
 cases fuel with
 |zero=>cases h
 |succ fuel =>
  match cs,h with
  |[],h=>simp[DataW.trod,ht] at h
  |[v],h =>
   cases v with
   |slice a len cap =>
    cases a with
    |none =>
     simp only[DataW.trod,ht] at h
     grind
    |some a =>
     refine .inr ?_;simp only[DataW.trod,ht] at h
     split at h
     ·rename_i hc;obtain⟨elems,h1,h2⟩:=Qka.1 h;have hx:=Eb2 h1;refine⟨a,len,cap,fuel,rfl,hc.2.1,hc.2.2,λj hj=>?_⟩
      have hj':j<elems.length:=by rw[hx.1];simpa using hj
      obtain⟨i,hi,hb⟩:=hx.2 j _ (Qaa hj');rw[Qke hj] at hi;injection hi with hi;subst hi;obtain⟨row,r1,r2⟩:=Qka.1 hb;exact⟨row,_,r1,r2⟩
     ·cases h
   |_=>simp[DataW.trod,ht] at h
  |a::b::r,h=>simp[DataW.trod,ht] at h
theorem Qd0:∀(d:Nat) (t:TypeId) (l:List (Nat×CK)),O5 P d t=some l->∀(fuel:Nat) (cs:List Value) (x:DataW D×List MemPlace),DataW.trod enc P w base spare held fuel t cs=some x->∀p∈l,qa1 cs.toArray p
 |0,_,_,h,_,_,_,_=>by cases h
 |d+1,t,l,h,fuel,cs,x,hx=>by
  have hpart:∀{off n:Nat} {e:TypeId} {l':List (Nat×CK)} {fuel':Nat} {y:DataW D×List MemPlace},wb9 off n (O5 P d e)=some l'->DataW.trod enc P w base spare held fuel' e ((cs.drop off).take n)=some y->∀p∈l',qa1 cs.toArray p:=λ{off n e l' fuel' y} h1 h2 p hp=>by
   obtain⟨l2,g1,g2,rfl⟩:=ya5 h1;obtain⟨q,hq,rfl⟩:=Qbz.1 hp
   have:=Qd0 d e l2 g1 fuel' _ y h2 q hq
   have hlt:=g2 q hq;unfold qa1 at this ⊢;simp only[List.getElem?_toArray,Qbe,hlt,if_true,Qbj] at this ⊢;exact this
  have hcat:∀{α:Type} (f:α->Option (List (Nat×CK))) (xs:List α) (l:List (Nat×CK)),ca0 (xs.map f)=some l->∀p∈l,∃a∈xs,∃l',f a=some l'/\p∈l':=λ{α} f xs=>by
   induction xs with
   |nil=>intro l h;simp only[List.map_nil,ca0] at h;injection h with h;subst h;simp
   |cons a xs ih =>
    intro l h p hp;simp only[Qbw,ca0] at h;cases h1:f a with
    |none=>simp[h1] at h
    |some l1 =>
    cases h2:ca0 (xs.map f) with
    |none=>simp[h1,h2] at h
    |some l2 =>
    simp only[h1,h2] at h;injection h with h;subst h
    rcases Qii.1 hp with hp|hp
    ·exact⟨a,by simp,l1,h1,hp⟩
    ·obtain⟨b,hb,r⟩:=ih l2 h2 p hp;exact⟨b,by simp[hb],r⟩
  unfold O5 at h;cases hu:P.underlying t with
  |none=>simp[hu] at h
  |some u =>
  cases u with
  |int k =>
   simp only[hu] at h;injection h with h;subst h
   obtain⟨n,rfl,_,_⟩:=df2 hu hx;intro p hp;simp at hp;subst hp;exact⟨n,rfl⟩
  |bool =>
   simp only[hu] at h;injection h with h;subst h
   obtain⟨n,rfl,_⟩:=He5 hu hx;intro p hp;simp at hp;subst hp;exact⟨n,rfl⟩
  |struct fs =>
   simp only[hu] at h
   split at h
   ·cases h
   obtain⟨_,fuel',xs,_,_,hxs⟩:=Zd8 hu hx;intro p hp;obtain⟨f,hf,l',h1,h2⟩:=hcat _ _ _ h p hp
   split at h1
   ·cases h1
   obtain⟨j,hj⟩:=List.getElem?_of_mem hf;obtain⟨y,_,hy⟩:=hxs j f (by simpa using hj)
   have hc:P.cellsOf f.type=szT P f.type:=by
    unfold Program.cellsOf szT
    grind
   grind
  |array n e =>
   simp only[hu] at h
   split at h
   case isFalse=>cases h
   obtain⟨_,fuel',xs,hn,_,hxs⟩:=re9 hu hx;intro p hp;obtain⟨j,hj,l',h1,h2⟩:=hcat _ _ _ h p hp;have hj':j<xs.length:=by rw[hn];simpa using hj
   have hy:=hxs j _ (Qaa hj');have hc:P.cellsOf e=szT P e:=by
    unfold Program.cellsOf szT;cases P.info? e<;>rfl
   grind
  |_=>simp[hu] at h
def ga1(k:IntKind)(es:Nat)(g:Nat->Int):List b9:=(List.range es).map λc=>.v (.int k (g c))
def ra8(k:IntKind)(es:Nat):List (Nat×CK):=(List.range es).map λc=>(c,.int k)
theorem Qd1{d:Nat}{t:TypeId}{k:IntKind}{es:Nat}(hf:O5 P d t=some (ra8 k es)){fuel:Nat}{cs:List Value}{x:DataW D×List MemPlace}(hx:DataW.trod enc P w base spare held fuel t cs=some x)(hl:cs.length=es) :
  ∃g:Nat->Int,∀c,c<es->cs[c]?=some (.int k (g c)):=by
 have h:=Qd0 d t _ hf fuel cs x hx;have h':∀c,∃n:Int,c<es->cs[c]?=some (.int k n):=λc=>by
  by_cases hc:c<es
  ·have:=h (c,.int k) (Qbz.2 ⟨c,by simpa using hc,rfl⟩)
   obtain⟨n,hn⟩:=this;exact⟨n,λ_=>by simpa using hn⟩
  ·exact⟨0,λh=>absurd h hc⟩
 exact⟨λc=>Classical.choose (h' c),λc hc=>Classical.choose_spec (h' c) hc⟩
theorem se1{F:Fz}{w:World}(k:IntKind)(n:Int):J8 F w (.v (.int k n)) (.int k n):=.v _ rfl
theorem Kc5{k:IntKind}{es:Nat}{g:Nat->Int}{c:Nat}{x:b9}(h:(ga1 k es g)[c]?=some x):c<es/\x=.v (.int k (g c)):=by
 unfold ga1 at h
 grind
theorem Pc4{t e:TypeId}{k:IntKind}{es d:Nat}(ht:P.underlying t=some (.slice e))(hf:O5 P d e=some (ra8 k es))(hes:P.cellsOf e=es)(h0:0<es){fuel:Nat}{cs:List Value}{x:DataW D×List MemPlace}(hx:DataW.trod enc P w 0 spare held fuel t cs=some x) :
  ∃(v:Value) (n:Nat) (g:Nat->Nat->Int),cs=[v]/\n<=maxLen/\J8 (hd8 w) w (.tree es n λj=>ga1 k es (g j)) v:=by
 rcases se0 ht hx with rfl|⟨a,n,cap,fuel',rfl,hn,hc,hel⟩
 ·exact⟨_,0,λ_ _=>0,rfl,Qee _,.nil _ _⟩
 ·rw[hes] at hel;have hcell:∀j,j<n->∃g:Nat->Int,∀c,c<es->w.cell? ((a.add (j*es)).add c)=some (.int k (g c)):=λj hj=>by
   obtain⟨row,y,h1,h2⟩:=hel j hj;unfold World.cells? at h1
   split at h1
   ·obtain⟨l1,l2⟩:=Eb2 h1;have hl:row.length=es:=by simpa using l1
    obtain⟨g,hg⟩:=Qd1 hf h2 hl;refine⟨g,λc hc=>?_⟩
    obtain⟨i,hi,hi2⟩:=l2 c _ (hg c hc);rw[Qke hc] at hi;injection hi with hi;subst hi;exact hi2
   ·cases h1
  have hg:∀j,∃g:Nat->Int,j<n->∀c,c<es->w.cell? ((a.add (j*es)).add c)=some (.int k (g c)):=λj=>by
   by_cases hj:j<n
   ·obtain⟨g,hg⟩:=hcell j hj;exact⟨g,λ_=>hg⟩
   ·exact⟨λ_=>0,λh=>absurd h hj⟩
  obtain⟨g,hg⟩:=Classical.axiomOfChoice hg;have hspot:0<n->a.spot=none:=λhn=>by
   have:=hg 0 hn 0 h0
   simpa [Addr.add] using World.cell?_spot this
  have hw:∀j c,j<n->c<es->w.cell? ⟨a.block,a.off+(j*es+c),none⟩=some (.int k (g j c)):=λj c hj hc=>by
   have:=hg j hj c hc
   rw[I5 (hspot (by omega)),I5 rfl] at this
   simpa [Qag] using this
  refine⟨_,n,g,rfl,Qad hn hc,.tree es n _ a cap (λj c=>.int k (g j c)) hspot hn (λi hi=>by simp[ga1]) (λi c hi hc=>?_) hw λi c hi hc=>?_⟩
  ·unfold hd8;rw[hw i c hi hc];rfl
  ·have:=(Kc5 (Qaa hc)).2
   rw[this];exact se1 _ _
theorem Zd9(w:World):r4 (λk=>w.heap.size<=k) (λ_=>⟨0,0,0⟩) [] (hd8 w) w :=
 ⟨λid b h=>by simp at h,λid id' b b' h=>by simp at h,λ_ _ h=>h,λ_ h=>h⟩
theorem ae0{G:Nat->List Value}{f:FuncId}{S:Sum}(hS:e8 P G f S){aargs:List b9}{args:List Value}(hrun:∃out,(S aargs []).run=some (b true,out))(hl:aargs.length=args.length)
  (ha:∀(i:Nat) x x',aargs[i]?=some x->args[i]?=some x'->S5 (λ_=>⟨0,0,0⟩) [] (hd8 w) w x x') (hG:∀g (c:Nat) x,(G g)[c]?=some x->x.oneCell'=true/\w.cell? ⟨g,c,none⟩=some x) :
  Calls P f args.toArray w λe w'=>e=.returned (.bool true)/\Kc4 w w':=by
 obtain⟨out,hrun⟩:=hrun;obtain⟨_,hc⟩:=hS aargs [] (b true) out hrun (λk=>w.heap.size<=k) (λ_=>⟨0,0,0⟩) (hd8 w) w args (Zd9 w) hl (λi x x' h1 h2=>.val (ha i x x' h1 h2)) (λg c x hx=>by
  obtain⟨h1,h2⟩:=hG g c x hx;exact⟨h1,by unfold hd8;rw[h2];rfl,h2⟩)
 refine hc.mono λe w' ⟨r',he,ρ',F',hA,hH,hW⟩=>?_
 have:=K5 hW
 subst this;exact⟨he,hA.ext.os,hA.ext.output,hA.ext.size,λk hk=>hA.ext.block k hk (by omega)⟩
theorem He6{ρ:Rho}{H:List c7}{F:Fz}{t:TypeId}{k:IntKind}{es d:Nat}{v:Value}{dd:DataW D}{pp:List MemPlace}{bs:Nat}{r:Reach}(hag:agT P t=true)(hf:O5 P d t=some (ra8 k es))(hes:P.cellsOf t=es)
  (hok:Value.okWide P w r bs t v) (h:DataW.Trod enc P w base spare held t v dd pp):∃g:Nat->Int,S5 ρ H F w (.agg (ga1 k es g)) v:=by
 have hv:∃cs:Array Value,v=.agg cs/\cs.size=P.cellsOf t:=by
  unfold agT at hag;unfold Value.okWide at hok
  grind
 obtain⟨cs,rfl,hsz⟩:=hv;obtain⟨fuel,hx⟩:=h;have hx:DataW.trod enc P w base spare held fuel t cs.toList=some (dd,pp):=hx;obtain⟨g,hg⟩:=Qd1 hf hx (by simpa [hes] using hsz)
 refine⟨g,.agg _ _ (by simp[ga1,hsz,hes]) λc x x' h1 h2=>?_⟩
 obtain⟨hc,rfl⟩:=Kc5 h1
 have:=hg c hc
 have h3:some x'=some (.int k (g c)):=by rw[<- h2];simpa using this
 injection h3 with h3;subst h3;exact .v _
theorem ae1{ρ:Rho}{H:List c7}{t e:TypeId}{k:IntKind}{es d:Nat}{v:Value}{dd:DataW D}{pp:List MemPlace}{bs:Nat}{r:Reach}(ht:P.underlying t=some (.slice e))(hf:O5 P d e=some (ra8 k es))(hes:P.cellsOf e=es)(h0:0<es)
  (hok:Value.okWide P w r bs t v) (h:DataW.Trod enc P w 0 spare held t v dd pp):∃(n:Nat) (g:Nat->Nat->Int),n<=maxLen/\S5 ρ H (hd8 w) w (.tree es n λj=>ga1 k es (g j)) v:=by
 obtain⟨fuel,hx⟩:=h;obtain⟨v',n,g,h1,h2,h3⟩:=Pc4 ht hf hes h0 hx;have hv:v.cells=#[v]:=by
  unfold Value.okWide at hok;rw[ht] at hok;cases v with
  |agg cs=>exfalso;simp[Cell.okWide,Cell.ok,ht] at hok
  |_=>rfl
 rw[hv] at h1
 have:v=v':=by simpa using h1
 subst this;exact⟨n,g,h2,.cell (.mem h3)⟩
end
end Go.Ev
namespace Go.Ev.L
open Go Go.Ev
theorem se2{α:Type}(t:Ty α)(n:Nat)(g:Nat->Nat->Int)(f:(Nat->Int)->α)(h:∀j,ga1 .i64 t.es (g j)=t.row (f (g j))) :
  ∃l,(N0 t).dec (.tree t.es n λj=>ga1 .i64 t.es (g j))=some l/\(N0 t).grd (.tree t.es n λj=>ga1 .i64 t.es (g j))=true:=by
 refine⟨lsL t n λj=>ga1 .i64 t.es (g j),?_,Na4 t (f:=λk=>f (g k)) λk _=>h k⟩
 show Bool.rec (motive:=λ_=>Option (List α)) none (some (lsL t n λj=>ga1 .i64 t.es (g j))) (Nat.beq t.es t.es)=_
 rw[Qib]
def Rdg{α:Type}(c:Cod α)(x:b9)(a:α):Prop:=c.dec x=some a/\c.grd x=true
theorem se3{α:Type}(t:Ty α)(n:Nat)(g:Nat->Nat->Int)(f:(Nat->Int)->α)(h:∀j,ga1 .i64 t.es (g j)=t.row (f (g j))):∃l,Rdg (N0 t) (.tree t.es n λj=>ga1 .i64 t.es (g j)) l:=se2 t n g f h
theorem se4(n:Nat)(g:Nat->Nat->Int):∃l,Rdg (N0 tI) (.tree 1 n λj=>ga1 .i64 1 (g j)) l:=se3 tI n g (λg=>g 0) λ_=>rfl
section
variable{α β γ δ ε:Type}{c:Cod α}{d:Cod β}{e:Cod γ}{f:Cod δ}{c5:Cod ε}{x y z w v:b9}{a:α}{b':β}{g:γ}{j:δ}{m:ε}{r:b9×List c7}
theorem Kf7{k:α->β->γ->DT (b9×List c7)}(h1:Rdg c x a)(h2:Rdg d y b')(h3:Rdg e z g)(h:(k a b' g).run=some r):(yb3 c d e k [x,y,z] []).run=some r:=by
 unfold yb3;simp only[h1.1,h1.2,h2.1,h2.2,h3.1,h3.2];exact h
end
theorem df3{g p:Bool}(hg:g=true)(hp:p=true):(DT.guard g (.ret ((one r1B).enc p,([]:List c7)))).run=some (b true,([]:List c7)):=by subst hg;subst hp;rfl
end Go.Ev.L
namespace Go.Ev.Ce
open Go Go.Ev Go.Ev.L Go.Proofs
structure B3 where
 b0:Int
 b1:Int
 b2:Int
def okB:List b9->Bool
 |[.v (.int .u8 _),.v (.int .u8 _),.v (.int .u8 _)]=>true
 |_=>false
def rdB:List b9->B3
 |[.v (.int .u8 x),.v (.int .u8 y),.v (.int .u8 z)]=>⟨x,y,z⟩
 |_=>⟨0,0,0⟩
def tW:Ty B3 where
 es:=3
 row x:=[.v (.int .u8 x.b0),.v (.int .u8 x.b1),.v (.int .u8 x.b2)]
 rd:=rdB
 ok:=okB
 cks:=List.replicate 3 (.int .u8)
 d:=⟨0,0,0⟩
 h0 _:=rfl
 h1 _:=rfl
 h2 _:=rfl
 h3 r h:=by
  unfold okB at h
  split at h
  ·exact .refl _
  ·cases h
 h4 _:=rfl
 h5 _:=rfl
structure B2 where
 d0:Int
 d1:Int
structure LL where
 u:List Int
 v:List Int
structure I3 where
 j0:Int
 j1:Int
 j2:Int
theorem hd9:Ja7 []=Z9 []/\Ja8 []=true:=by
 have h:va0 []=some (.tup [.v (.slice none 0 0),i 11],[]):=by
  unfold va0;simp only[j9,O7,i8,bc5 [] (by simp),bc4 [] (by simp),bc6]
  rfl
 unfold Ja7 Ja8 Z9;rw[h,bc6];exact⟨rfl,rfl⟩
theorem xf3:Qa4 []=Oc8 []/\Qa5 []=true:=by
 have h:ja5 []=some (.tup [.v (.slice none 0 0),i 11],[]):=by
  unfold ja5;simp only[j9,O7,i8,hd9.1,hd9.2,Z9,bc6];rfl
 unfold Qa4 Qa5 Oc8;rw[h,bc6];exact⟨rfl,rfl⟩
theorem bc9{α:Type}{f:Nat}{c:Cod α}{k kA kB:α->DT (b9×List c7)}(hA:e8 prog G f (B5 c kA))(hB:e8 prog G f (B5 c kB))
  (h:∀a r,(k a).run=some r->(kA a).run=some r\/(kB a).run=some r):e8 prog G f (B5 c k):=λargs blks r out he=>by
 unfold B5 at he
 split at he
 ·rename_i x;cases hd:c.dec x with
  |none=>rw[hd] at he;cases he
  |some a =>
   rw[hd] at he;obtain⟨h1,h2⟩:=DT.run_guard_some (show (DT.guard (c.grd x) (k a)).run=some (r,out) from he)
   rcases h a _ h2 with q|q
   ·refine hA [x] [] r out ?_;show (onO (c.dec x) λa=>DT.guard (c.grd x) (kA a)).run=_
    rw[hd];show (DT.guard (c.grd x) (kA a)).run=_;rw[h1];exact q
   ·refine hB [x] [] r out ?_;show (onO (c.dec x) λa=>DT.guard (c.grd x) (kB a)).run=_
    rw[hd];show (DT.guard (c.grd x) (kB a)).run=_;rw[h1];exact q
 ·cases he
def Pc5(l:List V3):PLq×Int:=Z9 l
def Nb9(l:List V3):Bool:=decide (l.length<=900000)
def Pc6:Sum:=B5 (N0 tV) λl=>.guard (Nb9 l) (.ret ((two (r1L tP) r1I).enc (Pc5 l),[]))
theorem Eb3:e8 prog G 70 Pc6:=bc9 Jc8 Db1 λl r hr=>by
 obtain⟨hg,hr⟩:=DT.run_guard_some hr;cases l with
 |nil=>right;rw[hd9.1,hd9.2];exact hr
 |cons a c =>
  left
  have:=of_decide_eq_true hg
  rw[show Nb6 (a::c)=true from decide_eq_true ⟨by simp,this⟩]
  exact hr
def tc9(l:List V3):List V3×Int:=Oc8 l
def vb0(l:List V3):Bool:=decide (l.length<=900000)
def uc0:Sum:=B5 (N0 tV) λl=>.guard (vb0 l) (.ret ((two (r1L tV) r1I).enc (tc9 l),[]))
theorem ob3:e8 prog G 69 uc0:=bc9 kc3 ic8 λl r hr=>by
 obtain⟨hg,hr⟩:=DT.run_guard_some hr;cases l with
 |nil=>right;rw[xf3.1,xf3.2];exact hr
 |cons a c =>
  left
  have:=of_decide_eq_true hg
  rw[show ub8 (a::c)=true from decide_eq_true ⟨by simp,this⟩]
  exact hr
end Go.Ev.Ce
namespace Go.Proofs
open Go.Shelf
def Ce.trimP_ren:Go.Shelf.Ren:=⟨fun | 160=>93 | 232=>124 | 231=>123 | 227=>125 | 234=>127 | 233=>126 | 236=>129 | 235=>128 | 228=>151 | 271=>154 | 151=>153 | 197=>152 | 120=>173 | 152=>172 | 260=>171 | 137=>188 | 119=>189 | 224=>190 | 225=>191 | 217=>196 | 266=>198 | n=>n,fun | 9=>9 | 4=>4 | 3=>3 | 5=>5 | 117=>161 | 116=>160 | 0=>0 | 124=>164 | 21=>21 | 105=>176 | 46=>172 | 119=>205 | 139=>208 | 138=>207 | n=>n,fun | 3=>0 | 4=>1 | n=>n⟩
theorem Ce.trimP:Go.Proofs.Lays.n160 Tryz.prog Ce.trimP_ren:={
 mixed:=by kernel_rfl
 f119:=Tryz.func189.trans (congrArg some (by kernel_rfl))
 f120:=Tryz.func173.trans (congrArg some (by kernel_rfl))
 f137:=Tryz.func188.trans (congrArg some (by kernel_rfl))
 f151:=Tryz.func153.trans (congrArg some (by kernel_rfl))
 f152:=Tryz.func172.trans (congrArg some (by kernel_rfl))
 f160:=Tryz.func93.trans (congrArg some (by kernel_rfl))
 f197:=Tryz.func152.trans (congrArg some (by kernel_rfl))
 f217:=Tryz.func196.trans (congrArg some (by kernel_rfl))
 f224:=Tryz.func190.trans (congrArg some (by kernel_rfl))
 f225:=Tryz.func191.trans (congrArg some (by kernel_rfl))
 f227:=Tryz.func125.trans (congrArg some (by kernel_rfl))
 f228:=Tryz.func151.trans (congrArg some (by kernel_rfl))
 f231:=Tryz.func123.trans (congrArg some (by kernel_rfl))
 f232:=Tryz.func124.trans (congrArg some (by kernel_rfl))
 f233:=Tryz.func126.trans (congrArg some (by kernel_rfl))
 f234:=Tryz.func127.trans (congrArg some (by kernel_rfl))
 f235:=Tryz.func128.trans (congrArg some (by kernel_rfl))
 f236:=Tryz.func129.trans (congrArg some (by kernel_rfl))
 f260:=Tryz.func171.trans (congrArg some (by kernel_rfl))
 f266:=Tryz.func198.trans (congrArg some (by kernel_rfl))
 f271:=Tryz.func154.trans (congrArg some (by kernel_rfl))
 t0:=Tryz.underlying0
 a0:=Tryz.isAgg0
 z0:=Tryz.sizeOf0
 v0:=Tryz.zeroValue0
 t3:=Tryz.underlying3
 a3:=Tryz.isAgg3
 z3:=Tryz.sizeOf3
 v3:=Tryz.zeroValue3
 t4:=Tryz.underlying4
 a4:=Tryz.isAgg4
 z4:=Tryz.sizeOf4
 v4:=Tryz.zeroValue4
 t5:=Tryz.underlying5
 a5:=Tryz.isAgg5
 z5:=Tryz.sizeOf5
 v5:=Tryz.zeroValue5
 t9:=Tryz.underlying9
 a9:=Tryz.isAgg9
 z9:=Tryz.sizeOf9
 v9:=Tryz.zeroValue9
 t21:=Tryz.underlying21
 a21:=Tryz.isAgg21
 z21:=Tryz.sizeOf21
 v21:=Tryz.zeroValue21
 t46:=Tryz.underlying172
 a46:=Tryz.isAgg172
 z46:=Tryz.sizeOf172
 v46:=Tryz.zeroValue172
 t105:=Tryz.underlying176
 a105:=Tryz.isAgg176
 z105:=Tryz.sizeOf176
 v105:=Tryz.zeroValue176
 t116:=Tryz.underlying160
 a116:=Tryz.isAgg160
 z116:=Tryz.sizeOf160
 t117:=Tryz.underlying161
 a117:=Tryz.isAgg161
 z117:=Tryz.sizeOf161
 v117:=Tryz.zeroValue161
 t119:=Tryz.underlying205
 a119:=Tryz.isAgg205
 z119:=Tryz.sizeOf205
 t124:=Tryz.underlying164
 a124:=Tryz.isAgg164
 z124:=Tryz.sizeOf164
 v124:=Tryz.zeroValue164
 t138:=Tryz.underlying207
 a138:=Tryz.isAgg207
 z138:=Tryz.sizeOf207
 v138:=Tryz.zeroValue207
 t139:=Tryz.underlying208
 a139:=Tryz.isAgg208
 z139:=Tryz.sizeOf208
 v139:=Tryz.zeroValue208
 g3:=by kernel_rfl
 g4:=by kernel_rfl }
end Go.Proofs
namespace Go.Ev.Ce
open Go Go.Ev Go.Proofs
theorem ae2{w':World}(w:World)(A B:Obj)(q:Nat)(h:w'=((w.alloc A).alloc B).drewN q):w'.os=w.os/\w'.tape=w.tape/\w'.output=w.output/\w.heap.size<=w'.heap.size/\(∀k,k<w.heap.size->w'.heap[k]?=w.heap[k]?)/\w.drawn<=w'.drawn:=by
 have e:w'.heap=(w.heap.push A).push B:=by rw[h];rfl
 refine⟨by rw[h];rfl,by rw[h];rfl,by rw[h];rfl,?_,λk hk=>?_,?_⟩
 ·rw[e,Qkf,Qkf];omega
 ·rw[e,Qam,if_neg (by rw[Qkf];omega),Qam,if_neg (by omega)]
 ·rw[h];exact Nat.le_add_right _ _
def Re0(s c:ByteArray):ByteArray:=⟨(Go.Lib.trimS s.data.toList c.data.toList).toArray⟩
def Re1(s c:ByteArray):Bool:=Bool.and (Bool.and (Nat.blt 0 s.size) (Nat.ble s.size 9223372036854775807)) (Bool.and (Bool.and (Nat.blt 1 c.size) (Nat.blt c.size 4294967281)) (c.data.toList.all λb=>decide (b.toNat<128)))
def Za2:Sum:=λargs blks=>match args,blks with
 |[.v (.string s),.v (.string c)],[]=>.guard (Re1 s c) (.ret (.v (.string (Re0 s c)),[]))
 |_,_=>.fail
theorem f160:Ce.trimP_ren.f 160=93:=by kernel_rfl
set_option maxRecDepth 100000 in
theorem uc1:e8 prog G 93 Za2:=by
 intro args blks r out he W ρ F w args' hH hlen hargs hG;refine⟨⟨_,Tryz.func93,by kernel_rfl,of_decide_eq_true (by kernel_rfl)⟩,?_⟩
 unfold Za2 at he
 split at he
 case h_2=>cases he
 rename_i s c
 match args',hlen with
 |[v0,v1],_ =>
 have e0:=K5 (hargs 0 _ _ rfl rfl);have e1:=K5 (hargs 1 _ _ rfl rfl);subst e0 e1;obtain⟨hg,he⟩:=DT.run_guard_some he;unfold Re1 at hg;simp only[Qbd] at hg;obtain⟨⟨g1,g2⟩,⟨g3,g4⟩,g5⟩:=hg;have he:some (b9.v (.string (Re0 s c)),([]:List c7))=some (r,out):=he;injection he with he;injection he with q1 q2;subst q1 q2
 have h116:(Tryz.prog.info? (Ce.trimP_ren.t 116)).map (λi=>(i.zero,i.size))=some (some (.agg (Array.replicate 256 (.bool false))),256):=by kernel_rfl
 have:=Any.strings_Trim_set Ce.trimP (zero_of_info h116).1 (zero_of_info h116).2 s c w (Qbb g3) (Qbb g1) (Qbb g2) (Qbb g4) (ascii_of_all g5)
 rw[f160] at this;refine this.mono λe w' ⟨h1,q,hb⟩=>?_
 subst h1;obtain⟨k1,k2,k3,hws,hold,k6⟩:=ae2 w _ _ q hb;have hcell:∀b o,F b o->w'.cell? ⟨b,o,none⟩=w.cell? ⟨b,o,none⟩:=λb o hf=>by
  have:=hold b (ab5 (hH.frz b o hf))
  simp[World.cell?,this]
 refine⟨_,rfl,ρ,F,⟨⟨k1,k2,k3,hws,λk hk _=>hold k hk,hcell,k6⟩,.refl,λ_ _ h=>h,λ_ _ h=>.inl h,λ_ b h hn=>absurd rfl (hn b h)⟩,?_,.ofv _⟩
 exact⟨λid b hb hd=>(hH.blk id b hb hd).elim λcc h=>h.elim λt h=>h.elim λfr hB=>⟨cc,t,fr,hB.keep (hold _ hB.lt) hcell⟩,hH.apart,λb o hf=>by rw[hcell b o hf];exact hH.frz b o hf,λk hk=>hH.new k (by omega)⟩
end Go.Ev.Ce
namespace Go.Ev.Ce
open Go Go.Ev Go.Ev.L Go.Proofs
theorem oc6:∀(l r:List V3),l.Pairwise LtV->r.Pairwise LtV->(∀v,v∈l↔v∈r)->l=r
 |[],[],_,_,_=>rfl
 |[],y::r,_,_,h=>absurd ((h y).2 (Qck ..)) (by simp)
 |x::l,[],_,_,h=>absurd ((h x).1 (Qck ..)) (by simp)
 |x::l,y::r,h1,h2,h=>by
  obtain⟨a1,a2⟩:=Qje.1 h1;obtain⟨b1,b2⟩:=Qje.1 h2;have e:x=y:=by
   rcases Qbp.1 ((h x).1 (Qck ..)) with e|hx
   ·exact e
   ·rcases Qbp.1 ((h y).2 (Qck ..)) with e|hy
    ·exact e.symm
    ·exact absurd (Ib0 (b1 x hx) (a1 y hy)) (bc1 y)
  subst e
  have:l=r:=oc6 l r a2 b2 λv=>by
   have hv:=h v;simp only[Qbp] at hv;constructor
   ·intro hm
    rcases hv.1 (.inr hm) with e|h'
    ·subst e;exact absurd (a1 v hm) (bc1 v)
    ·exact h'
   ·intro hm
    rcases hv.2 (.inr hm) with e|h'
    ·subst e;exact absurd (b1 v hm) (bc1 v)
    ·exact h'
  rw[this]
set_option maxRecDepth 1000000
def fN{α:Type}(n:Nat)(f:Nat->α):α:=Nat.rec (motive:=λ_=>α) (f 0) (λk _=>f (Nat.succ k)) n
theorem Re2{α:Type}(n:Nat)(f:Nat->α):fN n f=f n:=by cases n<;>rfl
def fI{α:Type}(x:Int)(f:Int->α):α:=Int.rec (motive:=λ_=>α) (λn=>fN n λn=>f (.ofNat n)) (λn=>fN n λn=>f (.negSucc n)) x
theorem Re3{α:Type}(x:Int)(f:Int->α):fI x f=f x:=by
 cases x with
 |ofNat n=>exact Re2 n λn=>f (.ofNat n)
 |negSucc n=>exact Re2 n λn=>f (.negSucc n)
def fV{α:Type}(p:V3)(f:V3->α):α:=fI p.x λx=>fI p.y λy=>fI p.z λz=>f ⟨x,y,z⟩
theorem Xc3{α:Type}(p:V3)(f:V3->α):fV p f=f p:=by unfold fV;simp only[Re3]
def fZ{α β:Type}(h:β->(β->α)->α)(l:List β):(List β->α)->α:=List.rec (motive:=λ_=>(List β->α)->α) (λf=>f []) (λp _ ih f=>h p λp=>ih λl=>f (p::l)) l
theorem Xc4{α β:Type}{h:β->(β->α)->α}(hh:∀x f,h x f=f x)(l:List β)(f:List β->α):fZ h l f=f l:=by
 induction l generalizing f with
 |nil=>rfl
 |cons p l ih=>exact (hh p λp=>fZ h l λl=>f (p::l)).trans (ih λl=>f (p::l))
def Hd0(v:V3)(l:List V3):List V3:=List.rec (motive:=λ_=>List V3) [v] (λw r ih=>Bool.rec (motive:=λ_=>List V3) (Bool.rec (motive:=λ_=>List V3) (w::r) (w::ih) (decide (LtV w v))) (v::w::r) (decide (LtV v w))) l
theorem Kc6{v u:V3}:∀{l:List V3},u∈Hd0 v l↔u=v\/u∈l
 |[]=>by show u∈[v]↔_;simp
 |w::r=>by
  show u∈(Bool.rec (motive:=λ_=>List V3) (Bool.rec (motive:=λ_=>List V3) (w::r) (w::Hd0 v r) (decide (LtV w v))) (v::w::r) (decide (LtV v w)))↔_
  by_cases h1:LtV v w
  ·rw[decide_eq_true h1];simp
  ·rw[decide_eq_false h1];by_cases h2:LtV w v
   ·rw[decide_eq_true h2];show u∈w::Hd0 v r↔_;rw[Qbp,Kc6,Qbp];constructor
    ·rintro (h|h|h)<;>simp[h]
    ·rintro (h|h|h)<;>simp[h]
   ·rw[decide_eq_false h2]
    have:v=w:=(Od7 v w).elim (λh=>absurd h h1) λh=>h.elim id λh=>absurd h h2
    subst this;show u∈v::r↔_;simp
theorem xd5{v:V3}:∀{l:List V3},l.Pairwise LtV->(Hd0 v l).Pairwise LtV
 |[],_=>by show [v].Pairwise LtV;simp
 |w::r,h=>by
  show (Bool.rec (motive:=λ_=>List V3) (Bool.rec (motive:=λ_=>List V3) (w::r) (w::Hd0 v r) (decide (LtV w v))) (v::w::r) (decide (LtV v w)):List V3).Pairwise LtV
  obtain⟨h3,h4⟩:=Qje.1 h;by_cases h1:LtV v w
  ·rw[decide_eq_true h1];refine Qje.2 ⟨λu hu=>?_,h⟩
   rcases Qbp.1 hu with rfl|hu
   ·exact h1
   ·exact Ib0 h1 (h3 u hu)
  ·rw[decide_eq_false h1];by_cases h2:LtV w v
   ·rw[decide_eq_true h2];refine Qje.2 ⟨λu hu=>?_,xd5 h4⟩
    rcases Kc6.1 hu with rfl|hu
    ·exact h2
    ·exact h3 u hu
   ·rw[decide_eq_false h2];exact h
def se5(l:List V3):List V3:=List.rec (motive:=λ_=>List V3) [] (λv _ ih=>Hd0 v ih) l
theorem xd6{u:V3}:∀{l:List V3},u∈se5 l↔u∈l
 |[]=>Iff.rfl
 |v::r=>by show u∈Hd0 v (se5 r)↔_;rw[Kc6,xd6,Qbp]
theorem xd7:∀l:List V3,(se5 l).Pairwise LtV
 |[]=>.nil
 |v::r=>xd5 (xd7 r)
theorem He7(l:List V3):dis l=se5 l:=oc6 _ _ (oe7 _) (xd7 l) λv=>by rw[bc2,xd6]
def Eb4(l:List V3):List V3×Int:=if Ma3 l=0 then ((se5 l).filter (kv (F0 l)),0) else ([],Ma3 l)
theorem He8(l:List V3):Oc8 l=Eb4 l:=by unfold Oc8 Eb4 wf8;rw[He7]
def Qd2:Sum:=B5 (N0 tV) λl=>fZ fV l λl=>.guard (Nat.ble l.length 900000) (.ret ((one r1I).enc (Ma3 l),[]))
theorem se6:e8 prog G 104 Qd2:=bc9 ua4 ua4 λl r h=>by
 rw[Xc4 Xc3] at h;obtain⟨hg,h⟩:=DT.run_guard_some h;have hl:=Qbb hg;left;rw[bc4 l (by omega),bc5 l (by omega)];exact h
def id3(p q:V3):Bool:=p.x==q.x&&(p.y==q.y&&p.z==q.z)
theorem Ib4(p q:V3)(h:id3 p q=true):p=q:=by
 obtain⟨x,y,z⟩:=p;obtain⟨x',y',z'⟩:=q;unfold id3 at h;simp only[Qbd,beq_iff_eq] at h;obtain⟨rfl,rfl,rfl⟩:=h;rfl
def eqZ{β:Type}(h:β->β->Bool)(l:List β):List β->Bool :=
 List.rec (motive:=λ_=>List β->Bool) (λm=>List.rec (motive:=λ_=>Bool) true (λ_ _ _=>false) m) (λx _ ih m=>List.rec (motive:=λ_=>Bool) false (λy t _=>Bool.rec (motive:=λ_=>Bool) false (ih t) (h x y)) m) l
theorem jb4{β:Type}{h:β->β->Bool}(hh:∀x y,h x y=true->x=y):∀{l m:List β},eqZ h l m=true->l=m
 |[],[],_=>rfl
 |[],_::_,e=>by cases e
 |_::_,[],e=>by cases e
 |x::l,y::m,e=>by
  have e:Bool.rec (motive:=λ_=>Bool) false (eqZ h l m) (h x y)=true:=e
  cases hx:h x y with
  |false=>rw[hx] at e;cases e
  |true=>rw[hx] at e;rw[hh x y hx,jb4 hh e]
def onT{β:Type}(l:List V3)(k:β->DT (b9×List c7))(T:List (List V3×β)):DT (b9×List c7) :=
 List.rec (motive:=λ_=>DT (b9×List c7)) .fail (λx _ ih=>.ite (eqZ id3 l x.1) (k x.2) ih) T
theorem cc2{β:Type}{l:List V3}{k:β->DT (b9×List c7)}{r:b9×List c7}{Q:List V3×β->Prop}:∀{T:List (List V3×β)},ia2 Q T->(onT l k T).run=some r->∃x,Q (l,x)/\(k x).run=some r
 |[],_,h=>by cases h
 |(m,x)::T,.cons hq ht,h=>by
  have h:(DT.ite (eqZ id3 l m) (k x) (onT l k T)).run=some r:=h;rw[DT.run_ite] at h
  split at h
  ·rename_i e;exact⟨x,by rw[jb4 Ib4 e];exact hq,h⟩
  ·exact cc2 ht h
theorem Kf8:Z9 [⟨0,0,0⟩,⟨2,0,0⟩,⟨0,2,0⟩,⟨2,2,0⟩,⟨0,0,2⟩,⟨2,0,2⟩,⟨0,2,2⟩,⟨2,2,2⟩]=([⟨⟨-1,0,0⟩,0⟩,⟨⟨0,-1,0⟩,0⟩,⟨⟨0,0,-1⟩,0⟩,⟨⟨0,0,1⟩,2⟩,⟨⟨0,1,0⟩,2⟩,⟨⟨1,0,0⟩,2⟩],0):=by kernel_rfl
theorem Kf9:Z9 [⟨0,0,0⟩,⟨0,0,2⟩,⟨0,2,0⟩,⟨0,2,2⟩,⟨2,0,0⟩,⟨2,0,2⟩,⟨2,2,0⟩,⟨2,2,2⟩]=([⟨⟨-1,0,0⟩,0⟩,⟨⟨0,-1,0⟩,0⟩,⟨⟨0,0,-1⟩,0⟩,⟨⟨0,0,1⟩,2⟩,⟨⟨0,1,0⟩,2⟩,⟨⟨1,0,0⟩,2⟩],0):=by kernel_rfl
theorem Lf0:Z9 [⟨0,0,0⟩,⟨0,0,2⟩,⟨0,2,0⟩,⟨0,2,2⟩,⟨3,0,0⟩,⟨3,0,2⟩,⟨3,2,0⟩,⟨3,2,2⟩]=([⟨⟨-1,0,0⟩,0⟩,⟨⟨0,-1,0⟩,0⟩,⟨⟨0,0,-1⟩,0⟩,⟨⟨0,0,1⟩,2⟩,⟨⟨0,1,0⟩,2⟩,⟨⟨1,0,0⟩,3⟩],0):=by kernel_rfl
theorem Lf1:Z9 [⟨1,0,0⟩,⟨1,0,2⟩,⟨1,2,0⟩,⟨1,2,2⟩,⟨4,0,0⟩,⟨4,0,2⟩,⟨4,2,0⟩,⟨4,2,2⟩]=([⟨⟨-1,0,0⟩,-1⟩,⟨⟨0,-1,0⟩,0⟩,⟨⟨0,0,-1⟩,0⟩,⟨⟨0,0,1⟩,2⟩,⟨⟨0,1,0⟩,2⟩,⟨⟨1,0,0⟩,4⟩],0):=by kernel_rfl
theorem Lf2:Z9 [⟨2,0,0⟩,⟨2,0,2⟩,⟨2,2,0⟩,⟨2,2,2⟩,⟨5,0,0⟩,⟨5,0,2⟩,⟨5,2,0⟩,⟨5,2,2⟩]=([⟨⟨-1,0,0⟩,-2⟩,⟨⟨0,-1,0⟩,0⟩,⟨⟨0,0,-1⟩,0⟩,⟨⟨0,0,1⟩,2⟩,⟨⟨0,1,0⟩,2⟩,⟨⟨1,0,0⟩,5⟩],0):=by kernel_rfl
theorem Lf3:Z9 [⟨3,0,0⟩,⟨3,0,2⟩,⟨3,2,0⟩,⟨3,2,2⟩,⟨6,0,0⟩,⟨6,0,2⟩,⟨6,2,0⟩,⟨6,2,2⟩]=([⟨⟨-1,0,0⟩,-3⟩,⟨⟨0,-1,0⟩,0⟩,⟨⟨0,0,-1⟩,0⟩,⟨⟨0,0,1⟩,2⟩,⟨⟨0,1,0⟩,2⟩,⟨⟨1,0,0⟩,6⟩],0):=by kernel_rfl
theorem Lf4:Z9 [⟨4,0,0⟩,⟨4,0,2⟩,⟨4,2,0⟩,⟨4,2,2⟩,⟨7,0,0⟩,⟨7,0,2⟩,⟨7,2,0⟩,⟨7,2,2⟩]=([⟨⟨-1,0,0⟩,-4⟩,⟨⟨0,-1,0⟩,0⟩,⟨⟨0,0,-1⟩,0⟩,⟨⟨0,0,1⟩,2⟩,⟨⟨0,1,0⟩,2⟩,⟨⟨1,0,0⟩,7⟩],0):=by kernel_rfl
theorem Lf5:Z9 [⟨5,0,0⟩,⟨5,0,2⟩,⟨5,2,0⟩,⟨5,2,2⟩,⟨8,0,0⟩,⟨8,0,2⟩,⟨8,2,0⟩,⟨8,2,2⟩]=([⟨⟨-1,0,0⟩,-5⟩,⟨⟨0,-1,0⟩,0⟩,⟨⟨0,0,-1⟩,0⟩,⟨⟨0,0,1⟩,2⟩,⟨⟨0,1,0⟩,2⟩,⟨⟨1,0,0⟩,8⟩],0):=by kernel_rfl
theorem Lf6:Eb4 [⟨0,0,0⟩,⟨2,0,0⟩,⟨0,2,0⟩,⟨2,2,0⟩,⟨0,0,2⟩,⟨2,0,2⟩,⟨0,2,2⟩,⟨2,2,2⟩]=([⟨0,0,0⟩,⟨0,0,2⟩,⟨0,2,0⟩,⟨0,2,2⟩,⟨2,0,0⟩,⟨2,0,2⟩,⟨2,2,0⟩,⟨2,2,2⟩],0):=by kernel_rfl
theorem Lf7:Eb4 [⟨0,0,0⟩,⟨1,0,0⟩,⟨2,0,0⟩,⟨3,0,0⟩,⟨0,2,0⟩,⟨1,2,0⟩,⟨2,2,0⟩,⟨3,2,0⟩,⟨0,0,2⟩,⟨1,0,2⟩,⟨2,0,2⟩,⟨3,0,2⟩,⟨0,2,2⟩,⟨1,2,2⟩,⟨2,2,2⟩,⟨3,2,2⟩]=([⟨0,0,0⟩,⟨0,0,2⟩,⟨0,2,0⟩,⟨0,2,2⟩,⟨3,0,0⟩,⟨3,0,2⟩,⟨3,2,0⟩,⟨3,2,2⟩],0):=by kernel_rfl
theorem Lf8:Eb4 [⟨0,0,0⟩,⟨0,0,2⟩,⟨0,2,0⟩,⟨0,2,2⟩,⟨3,0,0⟩,⟨3,0,2⟩,⟨3,2,0⟩,⟨3,2,2⟩]=([⟨0,0,0⟩,⟨0,0,2⟩,⟨0,2,0⟩,⟨0,2,2⟩,⟨3,0,0⟩,⟨3,0,2⟩,⟨3,2,0⟩,⟨3,2,2⟩],0):=by kernel_rfl
theorem Lf9:Eb4 [⟨1,0,0⟩,⟨2,0,0⟩,⟨3,0,0⟩,⟨4,0,0⟩,⟨1,2,0⟩,⟨2,2,0⟩,⟨3,2,0⟩,⟨4,2,0⟩,⟨1,0,2⟩,⟨2,0,2⟩,⟨3,0,2⟩,⟨4,0,2⟩,⟨1,2,2⟩,⟨2,2,2⟩,⟨3,2,2⟩,⟨4,2,2⟩]=([⟨1,0,0⟩,⟨1,0,2⟩,⟨1,2,0⟩,⟨1,2,2⟩,⟨4,0,0⟩,⟨4,0,2⟩,⟨4,2,0⟩,⟨4,2,2⟩],0):=by kernel_rfl
theorem Mf0:Eb4 [⟨1,0,0⟩,⟨1,0,2⟩,⟨1,2,0⟩,⟨1,2,2⟩,⟨4,0,0⟩,⟨4,0,2⟩,⟨4,2,0⟩,⟨4,2,2⟩]=([⟨1,0,0⟩,⟨1,0,2⟩,⟨1,2,0⟩,⟨1,2,2⟩,⟨4,0,0⟩,⟨4,0,2⟩,⟨4,2,0⟩,⟨4,2,2⟩],0):=by kernel_rfl
theorem Mf1:Eb4 [⟨2,0,0⟩,⟨3,0,0⟩,⟨4,0,0⟩,⟨5,0,0⟩,⟨2,2,0⟩,⟨3,2,0⟩,⟨4,2,0⟩,⟨5,2,0⟩,⟨2,0,2⟩,⟨3,0,2⟩,⟨4,0,2⟩,⟨5,0,2⟩,⟨2,2,2⟩,⟨3,2,2⟩,⟨4,2,2⟩,⟨5,2,2⟩]=([⟨2,0,0⟩,⟨2,0,2⟩,⟨2,2,0⟩,⟨2,2,2⟩,⟨5,0,0⟩,⟨5,0,2⟩,⟨5,2,0⟩,⟨5,2,2⟩],0):=by kernel_rfl
theorem Mf2:Eb4 [⟨2,0,0⟩,⟨2,0,2⟩,⟨2,2,0⟩,⟨2,2,2⟩,⟨5,0,0⟩,⟨5,0,2⟩,⟨5,2,0⟩,⟨5,2,2⟩]=([⟨2,0,0⟩,⟨2,0,2⟩,⟨2,2,0⟩,⟨2,2,2⟩,⟨5,0,0⟩,⟨5,0,2⟩,⟨5,2,0⟩,⟨5,2,2⟩],0):=by kernel_rfl
theorem Mf3:Eb4 [⟨3,0,0⟩,⟨4,0,0⟩,⟨5,0,0⟩,⟨6,0,0⟩,⟨3,2,0⟩,⟨4,2,0⟩,⟨5,2,0⟩,⟨6,2,0⟩,⟨3,0,2⟩,⟨4,0,2⟩,⟨5,0,2⟩,⟨6,0,2⟩,⟨3,2,2⟩,⟨4,2,2⟩,⟨5,2,2⟩,⟨6,2,2⟩]=([⟨3,0,0⟩,⟨3,0,2⟩,⟨3,2,0⟩,⟨3,2,2⟩,⟨6,0,0⟩,⟨6,0,2⟩,⟨6,2,0⟩,⟨6,2,2⟩],0):=by kernel_rfl
theorem Mf4:Eb4 [⟨3,0,0⟩,⟨3,0,2⟩,⟨3,2,0⟩,⟨3,2,2⟩,⟨6,0,0⟩,⟨6,0,2⟩,⟨6,2,0⟩,⟨6,2,2⟩]=([⟨3,0,0⟩,⟨3,0,2⟩,⟨3,2,0⟩,⟨3,2,2⟩,⟨6,0,0⟩,⟨6,0,2⟩,⟨6,2,0⟩,⟨6,2,2⟩],0):=by kernel_rfl
theorem Mf5:Eb4 [⟨4,0,0⟩,⟨5,0,0⟩,⟨6,0,0⟩,⟨7,0,0⟩,⟨4,2,0⟩,⟨5,2,0⟩,⟨6,2,0⟩,⟨7,2,0⟩,⟨4,0,2⟩,⟨5,0,2⟩,⟨6,0,2⟩,⟨7,0,2⟩,⟨4,2,2⟩,⟨5,2,2⟩,⟨6,2,2⟩,⟨7,2,2⟩]=([⟨4,0,0⟩,⟨4,0,2⟩,⟨4,2,0⟩,⟨4,2,2⟩,⟨7,0,0⟩,⟨7,0,2⟩,⟨7,2,0⟩,⟨7,2,2⟩],0):=by kernel_rfl
theorem xf4:Eb4 [⟨4,0,0⟩,⟨4,0,2⟩,⟨4,2,0⟩,⟨4,2,2⟩,⟨7,0,0⟩,⟨7,0,2⟩,⟨7,2,0⟩,⟨7,2,2⟩]=([⟨4,0,0⟩,⟨4,0,2⟩,⟨4,2,0⟩,⟨4,2,2⟩,⟨7,0,0⟩,⟨7,0,2⟩,⟨7,2,0⟩,⟨7,2,2⟩],0):=by kernel_rfl
theorem xf5:Eb4 [⟨5,0,0⟩,⟨6,0,0⟩,⟨7,0,0⟩,⟨8,0,0⟩,⟨5,2,0⟩,⟨6,2,0⟩,⟨7,2,0⟩,⟨8,2,0⟩,⟨5,0,2⟩,⟨6,0,2⟩,⟨7,0,2⟩,⟨8,0,2⟩,⟨5,2,2⟩,⟨6,2,2⟩,⟨7,2,2⟩,⟨8,2,2⟩]=([⟨5,0,0⟩,⟨5,0,2⟩,⟨5,2,0⟩,⟨5,2,2⟩,⟨8,0,0⟩,⟨8,0,2⟩,⟨8,2,0⟩,⟨8,2,2⟩],0):=by kernel_rfl
theorem xf6:Eb4 [⟨5,0,0⟩,⟨5,0,2⟩,⟨5,2,0⟩,⟨5,2,2⟩,⟨8,0,0⟩,⟨8,0,2⟩,⟨8,2,0⟩,⟨8,2,2⟩]=([⟨5,0,0⟩,⟨5,0,2⟩,⟨5,2,0⟩,⟨5,2,2⟩,⟨8,0,0⟩,⟨8,0,2⟩,⟨8,2,0⟩,⟨8,2,2⟩],0):=by kernel_rfl
def xf7:List (List V3×PLq):=[([⟨0,0,0⟩,⟨2,0,0⟩,⟨0,2,0⟩,⟨2,2,0⟩,⟨0,0,2⟩,⟨2,0,2⟩,⟨0,2,2⟩,⟨2,2,2⟩],[⟨⟨-1,0,0⟩,0⟩,⟨⟨0,-1,0⟩,0⟩,⟨⟨0,0,-1⟩,0⟩,⟨⟨0,0,1⟩,2⟩,⟨⟨0,1,0⟩,2⟩,⟨⟨1,0,0⟩,2⟩]),([⟨0,0,0⟩,⟨0,0,2⟩,⟨0,2,0⟩,⟨0,2,2⟩,⟨2,0,0⟩,⟨2,0,2⟩,⟨2,2,0⟩,⟨2,2,2⟩],[⟨⟨-1,0,0⟩,0⟩,⟨⟨0,-1,0⟩,0⟩,⟨⟨0,0,-1⟩,0⟩,⟨⟨0,0,1⟩,2⟩,⟨⟨0,1,0⟩,2⟩,⟨⟨1,0,0⟩,2⟩]),([⟨0,0,0⟩,⟨0,0,2⟩,⟨0,2,0⟩,⟨0,2,2⟩,⟨3,0,0⟩,⟨3,0,2⟩,⟨3,2,0⟩,⟨3,2,2⟩],[⟨⟨-1,0,0⟩,0⟩,⟨⟨0,-1,0⟩,0⟩,⟨⟨0,0,-1⟩,0⟩,⟨⟨0,0,1⟩,2⟩,⟨⟨0,1,0⟩,2⟩,⟨⟨1,0,0⟩,3⟩]),([⟨1,0,0⟩,⟨1,0,2⟩,⟨1,2,0⟩,⟨1,2,2⟩,⟨4,0,0⟩,⟨4,0,2⟩,⟨4,2,0⟩,⟨4,2,2⟩],[⟨⟨-1,0,0⟩,-1⟩,⟨⟨0,-1,0⟩,0⟩,⟨⟨0,0,-1⟩,0⟩,⟨⟨0,0,1⟩,2⟩,⟨⟨0,1,0⟩,2⟩,⟨⟨1,0,0⟩,4⟩]),([⟨2,0,0⟩,⟨2,0,2⟩,⟨2,2,0⟩,⟨2,2,2⟩,⟨5,0,0⟩,⟨5,0,2⟩,⟨5,2,0⟩,⟨5,2,2⟩],[⟨⟨-1,0,0⟩,-2⟩,⟨⟨0,-1,0⟩,0⟩,⟨⟨0,0,-1⟩,0⟩,⟨⟨0,0,1⟩,2⟩,⟨⟨0,1,0⟩,2⟩,⟨⟨1,0,0⟩,5⟩]),([⟨3,0,0⟩,⟨3,0,2⟩,⟨3,2,0⟩,⟨3,2,2⟩,⟨6,0,0⟩,⟨6,0,2⟩,⟨6,2,0⟩,⟨6,2,2⟩],[⟨⟨-1,0,0⟩,-3⟩,⟨⟨0,-1,0⟩,0⟩,⟨⟨0,0,-1⟩,0⟩,⟨⟨0,0,1⟩,2⟩,⟨⟨0,1,0⟩,2⟩,⟨⟨1,0,0⟩,6⟩]),([⟨4,0,0⟩,⟨4,0,2⟩,⟨4,2,0⟩,⟨4,2,2⟩,⟨7,0,0⟩,⟨7,0,2⟩,⟨7,2,0⟩,⟨7,2,2⟩],[⟨⟨-1,0,0⟩,-4⟩,⟨⟨0,-1,0⟩,0⟩,⟨⟨0,0,-1⟩,0⟩,⟨⟨0,0,1⟩,2⟩,⟨⟨0,1,0⟩,2⟩,⟨⟨1,0,0⟩,7⟩]),([⟨5,0,0⟩,⟨5,0,2⟩,⟨5,2,0⟩,⟨5,2,2⟩,⟨8,0,0⟩,⟨8,0,2⟩,⟨8,2,0⟩,⟨8,2,2⟩],[⟨⟨-1,0,0⟩,-5⟩,⟨⟨0,-1,0⟩,0⟩,⟨⟨0,0,-1⟩,0⟩,⟨⟨0,0,1⟩,2⟩,⟨⟨0,1,0⟩,2⟩,⟨⟨1,0,0⟩,8⟩])]
theorem He9:ia2 (λx=>Z9 x.1=(x.2,0)) xf7:=.cons Kf8 <| .cons Kf9 <| .cons Lf0 <| .cons Lf1 <| .cons Lf2 <| .cons Lf3 <| .cons Lf4 <| .cons Lf5 <| .nil
def xf8:List (List V3×List V3):=[([⟨0,0,0⟩,⟨2,0,0⟩,⟨0,2,0⟩,⟨2,2,0⟩,⟨0,0,2⟩,⟨2,0,2⟩,⟨0,2,2⟩,⟨2,2,2⟩],[⟨0,0,0⟩,⟨0,0,2⟩,⟨0,2,0⟩,⟨0,2,2⟩,⟨2,0,0⟩,⟨2,0,2⟩,⟨2,2,0⟩,⟨2,2,2⟩]),([⟨0,0,0⟩,⟨1,0,0⟩,⟨2,0,0⟩,⟨3,0,0⟩,⟨0,2,0⟩,⟨1,2,0⟩,⟨2,2,0⟩,⟨3,2,0⟩,⟨0,0,2⟩,⟨1,0,2⟩,⟨2,0,2⟩,⟨3,0,2⟩,⟨0,2,2⟩,⟨1,2,2⟩,⟨2,2,2⟩,⟨3,2,2⟩],[⟨0,0,0⟩,⟨0,0,2⟩,⟨0,2,0⟩,⟨0,2,2⟩,⟨3,0,0⟩,⟨3,0,2⟩,⟨3,2,0⟩,⟨3,2,2⟩]),([⟨0,0,0⟩,⟨0,0,2⟩,⟨0,2,0⟩,⟨0,2,2⟩,⟨3,0,0⟩,⟨3,0,2⟩,⟨3,2,0⟩,⟨3,2,2⟩],[⟨0,0,0⟩,⟨0,0,2⟩,⟨0,2,0⟩,⟨0,2,2⟩,⟨3,0,0⟩,⟨3,0,2⟩,⟨3,2,0⟩,⟨3,2,2⟩]),([⟨1,0,0⟩,⟨2,0,0⟩,⟨3,0,0⟩,⟨4,0,0⟩,⟨1,2,0⟩,⟨2,2,0⟩,⟨3,2,0⟩,⟨4,2,0⟩,⟨1,0,2⟩,⟨2,0,2⟩,⟨3,0,2⟩,⟨4,0,2⟩,⟨1,2,2⟩,⟨2,2,2⟩,⟨3,2,2⟩,⟨4,2,2⟩],[⟨1,0,0⟩,⟨1,0,2⟩,⟨1,2,0⟩,⟨1,2,2⟩,⟨4,0,0⟩,⟨4,0,2⟩,⟨4,2,0⟩,⟨4,2,2⟩]),([⟨1,0,0⟩,⟨1,0,2⟩,⟨1,2,0⟩,⟨1,2,2⟩,⟨4,0,0⟩,⟨4,0,2⟩,⟨4,2,0⟩,⟨4,2,2⟩],[⟨1,0,0⟩,⟨1,0,2⟩,⟨1,2,0⟩,⟨1,2,2⟩,⟨4,0,0⟩,⟨4,0,2⟩,⟨4,2,0⟩,⟨4,2,2⟩]),([⟨2,0,0⟩,⟨3,0,0⟩,⟨4,0,0⟩,⟨5,0,0⟩,⟨2,2,0⟩,⟨3,2,0⟩,⟨4,2,0⟩,⟨5,2,0⟩,⟨2,0,2⟩,⟨3,0,2⟩,⟨4,0,2⟩,⟨5,0,2⟩,⟨2,2,2⟩,⟨3,2,2⟩,⟨4,2,2⟩,⟨5,2,2⟩],[⟨2,0,0⟩,⟨2,0,2⟩,⟨2,2,0⟩,⟨2,2,2⟩,⟨5,0,0⟩,⟨5,0,2⟩,⟨5,2,0⟩,⟨5,2,2⟩]),([⟨2,0,0⟩,⟨2,0,2⟩,⟨2,2,0⟩,⟨2,2,2⟩,⟨5,0,0⟩,⟨5,0,2⟩,⟨5,2,0⟩,⟨5,2,2⟩],[⟨2,0,0⟩,⟨2,0,2⟩,⟨2,2,0⟩,⟨2,2,2⟩,⟨5,0,0⟩,⟨5,0,2⟩,⟨5,2,0⟩,⟨5,2,2⟩]),([⟨3,0,0⟩,⟨4,0,0⟩,⟨5,0,0⟩,⟨6,0,0⟩,⟨3,2,0⟩,⟨4,2,0⟩,⟨5,2,0⟩,⟨6,2,0⟩,⟨3,0,2⟩,⟨4,0,2⟩,⟨5,0,2⟩,⟨6,0,2⟩,⟨3,2,2⟩,⟨4,2,2⟩,⟨5,2,2⟩,⟨6,2,2⟩],[⟨3,0,0⟩,⟨3,0,2⟩,⟨3,2,0⟩,⟨3,2,2⟩,⟨6,0,0⟩,⟨6,0,2⟩,⟨6,2,0⟩,⟨6,2,2⟩]),([⟨3,0,0⟩,⟨3,0,2⟩,⟨3,2,0⟩,⟨3,2,2⟩,⟨6,0,0⟩,⟨6,0,2⟩,⟨6,2,0⟩,⟨6,2,2⟩],[⟨3,0,0⟩,⟨3,0,2⟩,⟨3,2,0⟩,⟨3,2,2⟩,⟨6,0,0⟩,⟨6,0,2⟩,⟨6,2,0⟩,⟨6,2,2⟩]),([⟨4,0,0⟩,⟨5,0,0⟩,⟨6,0,0⟩,⟨7,0,0⟩,⟨4,2,0⟩,⟨5,2,0⟩,⟨6,2,0⟩,⟨7,2,0⟩,⟨4,0,2⟩,⟨5,0,2⟩,⟨6,0,2⟩,⟨7,0,2⟩,⟨4,2,2⟩,⟨5,2,2⟩,⟨6,2,2⟩,⟨7,2,2⟩],[⟨4,0,0⟩,⟨4,0,2⟩,⟨4,2,0⟩,⟨4,2,2⟩,⟨7,0,0⟩,⟨7,0,2⟩,⟨7,2,0⟩,⟨7,2,2⟩]),([⟨4,0,0⟩,⟨4,0,2⟩,⟨4,2,0⟩,⟨4,2,2⟩,⟨7,0,0⟩,⟨7,0,2⟩,⟨7,2,0⟩,⟨7,2,2⟩],[⟨4,0,0⟩,⟨4,0,2⟩,⟨4,2,0⟩,⟨4,2,2⟩,⟨7,0,0⟩,⟨7,0,2⟩,⟨7,2,0⟩,⟨7,2,2⟩]),([⟨5,0,0⟩,⟨6,0,0⟩,⟨7,0,0⟩,⟨8,0,0⟩,⟨5,2,0⟩,⟨6,2,0⟩,⟨7,2,0⟩,⟨8,2,0⟩,⟨5,0,2⟩,⟨6,0,2⟩,⟨7,0,2⟩,⟨8,0,2⟩,⟨5,2,2⟩,⟨6,2,2⟩,⟨7,2,2⟩,⟨8,2,2⟩],[⟨5,0,0⟩,⟨5,0,2⟩,⟨5,2,0⟩,⟨5,2,2⟩,⟨8,0,0⟩,⟨8,0,2⟩,⟨8,2,0⟩,⟨8,2,2⟩]),([⟨5,0,0⟩,⟨5,0,2⟩,⟨5,2,0⟩,⟨5,2,2⟩,⟨8,0,0⟩,⟨8,0,2⟩,⟨8,2,0⟩,⟨8,2,2⟩],[⟨5,0,0⟩,⟨5,0,2⟩,⟨5,2,0⟩,⟨5,2,2⟩,⟨8,0,0⟩,⟨8,0,2⟩,⟨8,2,0⟩,⟨8,2,2⟩])]
theorem Ie0:ia2 (λx=>Eb4 x.1=(x.2,0)) xf8:=.cons Lf6 <| .cons Lf7 <| .cons Lf8 <| .cons Lf9 <| .cons Mf0 <| .cons Mf1 <| .cons Mf2 <| .cons Mf3 <| .cons Mf4 <| .cons Mf5 <| .cons xf4 <| .cons xf5 <| .cons xf6 <| .nil
def se7:Sum:=B5 (N0 tV) λl=>fZ fV l λl=>onT l (λa=>.ret ((two (r1L tP) r1I).enc (a,0),[])) xf7
theorem se8:e8 prog G 70 se7:=bc9 Eb3 Eb3 λl r h=>by
 rw[Xc4 Xc3] at h;obtain⟨x,hx,h⟩:=cc2 He9 h;left;have hg:Nb9 l=true:=decide_eq_true (by
  have:Ma3 l=0:=by
   unfold Z9 at hx
   split at hx
   ·assumption
   ·have:=congrArg Prod.snd hx
    exact this
  have:=(Ib3 this).1
  omega)
 rw[hg];show some ((two (r1L tP) r1I).enc (Z9 l),([]:List c7))=some r;rw[hx];exact h
def se9:Sum:=B5 (N0 tV) λl=>fZ fV l λl=>onT l (λa=>.ret ((two (r1L tV) r1I).enc (a,0),[])) xf8
theorem te0:e8 prog G 69 se9:=bc9 ob3 ob3 λl r h=>by
 rw[Xc4 Xc3] at h;obtain⟨x,hx,h⟩:=cc2 Ie0 h;left;have hg:vb0 l=true:=decide_eq_true (by
  have:Ma3 l=0:=by
   unfold Eb4 at hx
   split at hx
   ·assumption
   ·have:=congrArg Prod.snd hx
    exact this
  have:=(Ib3 this).1
  omega)
 rw[hg];show some ((two (r1L tV) r1I).enc (Oc8 l),([]:List c7))=some r;rw[He8,hx];exact h
def te1:Sum:=m9 (En []) lf8
theorem id4:e8 prog G 20 te1:=bd b20 trivial
def xf9:Sum:=m9 (En [(93,Za2)]) of7
theorem df4:e8 prog G 61 xf9:=bd b61 ⟨uc1,trivial⟩
def yf0:Sum:=m9 (En []) rf4
theorem df5:e8 prog G 94 yf0:=bd b94 trivial
def Re4:Sum:=m9 (En [(104,Qd2)]) Ne2
theorem Ie1:e8 prog G 103 Re4:=bd Ff3 ⟨se6,trivial⟩
def Re5:Sum:=m9 (En [(94,yf0),(103,Re4)]) Oe3
theorem Ie2:e8 prog G 130 Re5:=bd Gf9 ⟨df5,Ie1,trivial⟩
def df6:Sum:=m9 (En [(130,Re5)]) rf5
theorem te2:e8 prog G 95 df6:=bd b95 ⟨Ie2,trivial⟩
def Ie3:Sum:=m9 (En []) rf6
theorem Hd1:e8 prog G 96 Ie3:=bd b96 trivial
def yf1:Sum:=m9 (En [(95,df6),(96,Ie3)]) of8
theorem df7:e8 prog G 62 yf1:=bd b62 ⟨te2,Hd1,trivial⟩
def df8:Sum:=m9 (En []) rf8
theorem te3:e8 prog G 98 df8:=bd b98 trivial
def df9:Sum:=m9 (En [(98,df8)]) rf7
theorem te4:e8 prog G 97 df9:=bd b97 ⟨te3,trivial⟩
def ef0:Sum:=m9 (En [(98,df8)]) rf9
theorem te5:e8 prog G 99 ef0:=bd b99 ⟨te3,trivial⟩
def te6:Sum:=m9 (En []) Me9
theorem Qd3:e8 prog G 100 te6:=bd Ff1 trivial
def ef1:Sum:=m9 (En []) Ye0
theorem te7:e8 prog G 91 ef1:=bd b91 trivial
def Ie4:Sum:=m9 (En [(91,ef1)]) qf0
theorem Hd2:e8 prog G 68 Ie4:=bd b68 ⟨te7,trivial⟩
def ae3:Sum:=m9 (En []) qf2
theorem Kc7:e8 prog G 72 ae3:=bd b72 trivial
def yf2:Sum:=m9 (En []) rf3
theorem ef2:e8 prog G 92 yf2:=bd b92 trivial
def te8:Sum:=m9 (En [(92,yf2)]) Ld7
theorem Qd4:e8 prog G 122 te8:=bd tf9 ⟨ef2,trivial⟩
def yf3:Sum:=m9 (En [(91,ef1),(122,te8)]) rf2
theorem ef3:e8 prog G 90 yf3:=bd b90 ⟨te7,Qd4,trivial⟩
def Re6:Sum:=m9 (En []) Ne8
theorem Ie5:e8 prog G 115 Re6:=bd tf8 trivial
def ef4:Sum:=m9 (En [(68,Ie4),(72,ae3),(90,yf3),(115,Re6)]) qf4
theorem te9:e8 prog G 74 ef4:=bd b74 ⟨Hd2,Kc7,ef3,Ie5,trivial⟩
def Re7:Sum:=m9 (En [(74,ef4)]) Oe6
theorem Ie6:e8 prog G 136 Re7:=bd Hf3 ⟨te9,trivial⟩
def Re8:Sum:=m9 (En [(136,Re7)]) ie1
theorem Ie7:e8 prog G 156 Re8:=bd uf1 ⟨Ie6,trivial⟩
def Re9:Sum:=m9 (En [(156,Re8)]) Oe5
theorem Ie8:e8 prog G 135 Re9:=bd uf0 ⟨Ie7,trivial⟩
def Se0:Sum:=m9 (En [(68,Ie4),(70,se7),(135,Re9)]) Ne4
theorem Ie9:e8 prog G 106 Se0:=bd Ff6 ⟨Hd2,se8,Ie8,trivial⟩
def Se1:Sum:=m9 (En [(106,Se0)]) Ne3
theorem Je0:e8 prog G 105 Se1:=bd Ff5 ⟨Ie9,trivial⟩
def Se2:Sum:=m9 (En [(97,df9),(99,ef0),(100,te6),(105,Se1)]) Uc2
theorem Je1:e8 prog G 131 Se2:=bd ie2 ⟨te4,te5,Qd3,Je0,trivial⟩
def ue0:Sum:=m9 (En [(131,Se2)]) Ne0
theorem Qd5:e8 prog G 101 ue0:=bd Be1 ⟨Je1,trivial⟩
def Se3:Sum:=m9 (En [(97,df9),(99,ef0),(100,te6)]) Oe4
theorem Je2:e8 prog G 132 Se3:=bd Hf0 ⟨te4,te5,Qd3,trivial⟩
def Se4:Sum:=m9 (En [(132,Se3)]) Ne1
theorem Je3:e8 prog G 102 Se4:=bd Ff2 ⟨Je2,trivial⟩
def yf4:Sum:=m9 (En [(96,Ie3),(101,ue0),(102,Se4)]) of9
theorem ef5:e8 prog G 63 yf4:=bd b63 ⟨Hd1,Qd5,Je3,trivial⟩
def yf5:Sum:=m9 (En [(95,df6),(96,Ie3)]) pf0
theorem ef6:e8 prog G 64 yf5:=bd b64 ⟨te2,Hd1,trivial⟩
def yf6:Sum:=m9 (En []) pf1
theorem ef7:e8 prog G 65 yf6:=bd b65 trivial
def yf7:Sum:=m9 (En [(101,ue0)]) pf2
theorem ef8:e8 prog G 66 yf7:=bd b66 ⟨Qd5,trivial⟩
def yf8:Sum:=m9 (En [(61,xf9),(62,yf1),(63,yf4),(64,yf5),(65,yf6),(66,yf7)]) mf3
theorem ef9:e8 prog G 33 yf8:=bd b33 ⟨df4,df7,ef5,ef6,ef7,ef8,trivial⟩
def ff0:Sum:=m9 (En []) qf3
theorem ue1:e8 prog G 73 ff0:=bd b73 trivial
def yf9:Sum:=m9 (En [(72,ae3),(73,ff0)]) qf1
theorem ff1:e8 prog G 71 yf9:=bd b71 ⟨Kc7,ue1,trivial⟩
def ue2:Sum:=m9 (En []) nf3
theorem id5:e8 prog G 40 ue2:=bd b40 trivial
def zf0:Sum:=m9 (En [(40,ue2),(72,ae3),(73,ff0)]) qf6
theorem ff2:e8 prog G 76 zf0:=bd b76 ⟨id5,Kc7,ue1,trivial⟩
def zf1:Sum:=m9 (En [(71,yf9),(76,zf0)]) qf5
theorem ff3:e8 prog G 75 zf1:=bd b75 ⟨ff1,ff2,trivial⟩
def id6:Sum:=xa3 (En [(69,se9),(70,se7),(74,ef4),(75,zf1)]) mf5
theorem ff4:e8 prog G 35 id6:=bd b35 ⟨te0,se8,te9,ff3,trivial⟩
def zf2:Sum:=xa3 (En [(20,te1)]) qf9
theorem ff5:e8 prog G 79 zf2:=bd b79 ⟨id4,trivial⟩
def ff6:Sum:=m9 (En [(69,se9),(79,zf2)]) nf9
theorem ff7:e8 prog G 46 ff6:=bd b46 ⟨te0,ff5,trivial⟩
end Go.Ev.Ce
namespace Go.Ev.L
open Go Go.Ev
def zf3:Value->ByteArray
 |.string s=>s
 |_=>⟨#[]⟩
def Eb5(H H':List c7):Prop:=∀id g,(blkAt H id g).map (λb=>(b.es,b.elems))=(blkAt H' id g).map (λb=>(b.es,b.elems))
theorem Eb5.refl(H:List c7):Eb5 H H:=λ_ _=>rfl
theorem Eb5.disown(H:List c7)(id:Nat):Eb5 (disown H id) H:=λj g=>by
 rw[Vb1];cases blkAt H j g with
 |none=>rfl
 |some b =>
  grind
theorem Eb5.trans{H1 H2 H3:List c7}(h:Eb5 H1 H2)(k:Eb5 H2 H3):Eb5 H1 H3:=λid g=>(h id g).trans (k id g)
theorem Eb5.symm{H1 H2:List c7}(h:Eb5 H1 H2):Eb5 H2 H1:=λid g=>(h id g).symm
theorem Dis.app{H H1 H2:List c7}(h:Dis H H1)(k:Dis H1 H2):Dis H H2:=by
 induction k with
 |refl=>exact h
 |step id _ ih=>exact .step id ih
section
variable{α:Type}(t:Ty α)
def ue3(es:Nat):b9->Bool
 |.tree e _ _=>Nat.beq e es
 |.v (.slice none 0 0)=>true
 |_=>false
def Mf6(sh:List b9->Bool):Cod α where
 enc x:=.agg (t.row x)
 dec x:=match x with
  |.agg cs=>Bool.rec (motive:=λ_=>Option α) none (some (t.rd cs)) (sh cs)
  |_=>none
 grd x:=match x with
  |.agg cs=>t.ok cs
  |_=>false
 ok x a hx hg:=by
  split at hx
  ·rename_i cs;cases hb:sh cs with
   |false=>rw[hb] at hx;cases hx
   |true =>
    rw[hb] at hx;have hx:some (t.rd cs)=some a:=hx;injection hx with hx;subst hx;have h3:=t.h3 cs hg;intro ρ H F w v hv;obtain⟨vs,rfl,hl,hr⟩:=ga4 hv;refine .val (.agg _ _ (by rw[<- h3.length];exact hl) λi y v' hy hv'=>?_)
    obtain⟨x,hx,hle⟩:=h3.get i y hy;exact hle.c _ _ _ _ _ (hr i x v' hx hv')
  ·cases hx
end
end Go.Ev.L
namespace Go.Ev.Ce
open Go Go.Ev Go.Ev.L Go.Proofs
theorem hd1{x y:b9}(h:yb6 [x] [y]):CLe x y:=by cases h with | cons h _=>exact h
structure Tol where
 nm:ByteArray
 ou:List V3
 inn:List (List V3)
 ho:List V3
 li:List Int
 ru:Int
 fo:List V3
def Se5:List b9->Bool
 |[.v (.string _),x1,x2,x3,x4,.v (.int .i64 _),x6]=>Bool.and ((tLs tV).ok [x1]) (Bool.and ((tLs (tLs tV)).ok [x2]) (Bool.and ((tLs tV).ok [x3]) (Bool.and ((tLs tI).ok [x4]) (Bool.and ((tLs tV).ok [x6]) (true)))))
 |_=>false
def tT:Ty Tol where
 es:=7
 row x:=[.v (.string x.nm),eL tV x.ou,eL (tLs tV) x.inn,eL tV x.ho,eL tI x.li,i x.ru,eL tV x.fo]
 rd r:=⟨zf3 (toV (hdA r)),rL tV (hdA (tlA r)),rL (tLs tV) (hdA (tlA (tlA r))),rL tV (hdA (tlA (tlA (tlA r)))),rL tI (hdA (tlA (tlA (tlA (tlA r))))),toI (hdA (tlA (tlA (tlA (tlA (tlA r)))))),rL tV (hdA (tlA (tlA (tlA (tlA (tlA (tlA r)))))))⟩
 ok:=Se5
 cks:=[.any,.sl 3,.sl 1,.sl 3,.sl 1,.int .i64,.sl 3]
 d:=⟨⟨#[]⟩,[],[],[],[],0,[]⟩
 h0 _:=rfl
 h1 x:=by
  show Tol.mk x.nm (rL tV (eL tV x.ou)) (rL (tLs tV) (eL (tLs tV) x.inn)) (rL tV (eL tV x.ho)) (rL tI (eL tI x.li)) x.ru (rL tV (eL tV x.fo))=x;rw[show rL tV (eL tV x.ou)=x.ou from j9 tV x.ou,show rL (tLs tV) (eL (tLs tV) x.inn)=x.inn from j9 (tLs tV) x.inn,show rL tV (eL tV x.ho)=x.ho from j9 tV x.ho,show rL tI (eL tI x.li)=x.li from j9 tI x.li,show rL tV (eL tV x.fo)=x.fo from j9 tV x.fo]
 h2 x:=by
  show Bool.and ((tLs tV).ok ((tLs tV).row x.ou)) (Bool.and ((tLs (tLs tV)).ok ((tLs (tLs tV)).row x.inn)) (Bool.and ((tLs tV).ok ((tLs tV).row x.ho)) (Bool.and ((tLs tI).ok ((tLs tI).row x.li)) (Bool.and ((tLs tV).ok ((tLs tV).row x.fo)) (true)))))=true;rw[(tLs tV).h2 x.ou,(tLs (tLs tV)).h2 x.inn,(tLs tV).h2 x.ho,(tLs tI).h2 x.li,(tLs tV).h2 x.fo];rfl
 h3 r h:=by
  unfold Se5 at h
  split at h
  ·rename_i _ x1 x2 x3 x4 _ x6;simp only[Qbd] at h;obtain⟨h1,h2,h3,h4,h6,_⟩:=h;have c1:=(tLs tV).h3 _ h1;have c2:=(tLs (tLs tV)).h3 _ h2;have c3:=(tLs tV).h3 _ h3;have c4:=(tLs tI).h3 _ h4;have c6:=(tLs tV).h3 _ h6;exact .cons (.refl _) (.cons (hd1 c1) (.cons (hd1 c2) (.cons (hd1 c3) (.cons (hd1 c4) (.cons (.refl _) (.cons (hd1 c6) (.nil)))))))
  ·cases h
 h4 _:=rfl
 h5 _:=rfl
def zf4:List b9->Bool
 |[.v (.string _),x1,x2,x3,x4,.v (.int .i64 _),x6]=>Bool.and (ue3 3 x1) (Bool.and (ue3 1 x2) (Bool.and (ue3 3 x3) (Bool.and (ue3 1 x4) (Bool.and (ue3 3 x6) (true)))))
 |_=>false
def cT:Cod Tol:=Mf6 tT zf4
set_option maxRecDepth 1000000
def cuL:List V3:=[⟨0,0,0⟩,⟨2,0,0⟩,⟨0,2,0⟩,⟨2,2,0⟩,⟨0,0,2⟩,⟨2,0,2⟩,⟨0,2,2⟩,⟨2,2,2⟩]
def frc{ρ:Type}(R:RR ρ)(F:ρ->(ρ->DT (b9×List c7))->DT (b9×List c7))(o:ROq):DT (b9×List c7) :=
 Option.rec (motive:=λ_=>DT (b9×List c7)) .fail (λr=>Option.rec (motive:=λ_=>DT (b9×List c7)) .fail (λq=>F q λq=>.ret (R.enc q,[])) (R.rd r)) o
theorem Je4{ρ:Type}{R:RR ρ}{F:ρ->(ρ->DT (b9×List c7))->DT (b9×List c7)}(hF:∀x f,F x f=f x){o:ROq}{r:b9×List c7}(h:(frc R F o).run=some r):(rdO R o).run=some r:=by
 cases o with
 |none=>cases h
 |some a =>
  unfold frc at h;unfold rdO okO F6;cases hr:R.rd a with
  |none=>simp only[hr] at h;cases h
  |some q=>simp only[hr,hF] at h ⊢;exact h
def Je5(q:List V3×Int)(f:List V3×Int->DT (b9×List c7)):DT (b9×List c7):=fZ fV q.1 λa=>fI q.2 λb=>f (a,b)
theorem Je6(q:List V3×Int)(f:List V3×Int->DT (b9×List c7)):Je5 q f=f q:=by unfold Je5;rw[Xc4 Xc3,Re3]
def Hd3(p:List V3):ROq:=(frc (two (r1L tV) r1I) Je5 (ff6 [(N0 tV).enc cuL,(N0 tV).enc p] []).run).run
end Go.Ev.Ce
