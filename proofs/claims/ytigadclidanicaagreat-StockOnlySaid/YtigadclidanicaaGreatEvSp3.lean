/- Own work. -/
import Derived.Test.YtigadclidanicaaGreatEvDraw2
import Derived.Shelf.SlSortCmp.WholeK
import Derived.CallsIn
import Derived.RangeFuncIn
import Derived.RangeFuncRecord
import Derived.RangeFuncLeaves
import Derived.ControlIn
import Derived.LoopNIn
import Derived.TacticsIn
set_option linter.all false
noncomputable section
def Qda:=@Nat.eq_of_beq_eq_true
def Qdb:=@Bool.and_eq_true
def Qdc:=@List.getElem?_eq_getElem
def Qdd:=@List.getElem?_eq_some_iff
def Qde:=@List.getElem?_map
def Qdf:=@Nat.zero_add
def Qdg:=@List.getD_eq_getElem?_getD
def Qdh:=@List.getElem?_append_left
def Qdi:=@List.getElem?_eq_none
def Qdj:=@Option.some.inj
def Qdk:=@Nat.lt_or_ge
def Qdl:=@Array.getElem?_append_left
def Qdm:=@List.getElem?_append_right
def Qdn:=@Nat.le_refl
def Qdo:=@Nat.lt_of_lt_of_le
def Qdp:=@Array.all_eq_true_iff_forall_mem
def Qdq:=@Array.getElem?_setIfInBounds_ne
def Qdr:=@Nat.mul_le_mul_right
def Qds:=@List.mem_range
def Qdt:=@List.length_append
def Qdu:=@Array.getElem?_eq_some_iff
def Qdv:=@Bool.not_eq_true'
def Qdw:=@Nat.le_trans
def Qdx:=@List.all_eq_true
def Qdy:=@List.getElem?_set_self
def Qdz:=@Array.getElem?_eq_none
def Qdaa:=@Nat.le_of_ble_eq_true
def Qdab:=@Array.getElem?_modify
def Qdac:=@List.mem_cons
def Qdad:=@Go.Ev.Agr.arg
namespace Go.Ev
open Go
structure td9(E:Env)(ops:Array Oper)(ks:List (Nat×PI))(s:St)(U T:Nat->St):Prop where
 u0:U 0=s
 u:∀j,j<ops.size->bc1 E (Ob5 ks) U j
 t0:T 0=U ops.size
 t:∀j,j<ops.size->bc1 E (Dc7 ks) T j
def Vd2(z:List c7):c8:={ et:=0,es:=z.length,elems:=[z],own:=true,dead:=false,g:=0 }
def kd5:PO->Nat->c7
 |.alloc _,n=>.ptr n 0 0 0
 |_,n=>.sl n 0 0 0
def Fd5:PO->c8
 |.alloc z=>Vd2 z
 |.bslice et es _ _ _=>{ et,es,elems:=[],own:=true,dead:=false,g:=0 }
 |_=>Vd2 []
theorem Qe7(o:PO):(Fd5 o).dead=false:=by cases o<;>rfl
theorem Mf0(o:PO):(Fd5 o).g=0:=by cases o<;>rfl
theorem af5{tr:Nat}{P:Program}{ops:Array Oper}{j:Nat}(ha:rb5 (Pa0 ops j)=true){E:Env}{a:List c7}{H:List c8}{r:c7×List c8}(he:(evalOp E a H (ba7 tr P ops j)).run=some r) :
  (Pa0 ops j).guard=none/\∀a H,(evalOp E a H (ba7 tr P ops j)).run=some (kd5 (ba7 tr P ops j) H.length,H++[Fd5 (ba7 tr P ops j)]):=by
 unfold rb5 at ha;cases hop:(Pa0 ops j).op with
 |alloc t =>
  simp only[hop] at ha;have hg:(Pa0 ops j).guard=none:=by simpa using ha
  cases hz:zeT P t with
  |none =>
   exfalso;have hbad:ba7 tr P ops j=.bad:=by simp[ba7,Gb0,Wb1,cOp,hop,hz]
   rw[hbad] at he;cases he
  |some z =>
   have hpo:ba7 tr P ops j=.alloc z:=by simp[ba7,Gb0,Wb1,cOp,hop,hz]
   refine⟨hg,λa H=>?_⟩
   rw[hpo];simp only[evalOp,DT.run_ret,n9,Ca7,I5,kd5,Fd5,Vd2]
 |buildSlice t n ps =>
  simp only[hop] at ha
  split at ha
  ·rename_i hps;have hg:(Pa0 ops j).guard=none:=by simpa using ha
   have hpo:ba7 tr P ops j=.bad\/∃e es,ba7 tr P ops j=.bslice e es 0 [] []:=by
    simp only[ba7,Wb1,cOp,hop];cases P.underlying t with
    |none=>exact .inl rfl
    |some u =>
     cases u with
     |slice e =>
      simp only[hps];cases zeT P e with
      |none=>exact .inl rfl
      |some z =>
       simp only[nb8];split
       ·exact .inr ⟨e,szT P e,by simp[Gb0]⟩
       ·exact .inl rfl
     |_=>exact .inl rfl
   rcases hpo with hpo|⟨e,es,hpo⟩
   ·rw[hpo] at he;cases he
   ·refine⟨hg,λa H=>?_⟩
    rw[hpo];simp only[evalOp,l9,List.map_nil,ic8,freezeCells,DT.run_ret,n9,Ca7,I5,kd5,Fd5,Pa3]
  ·cases ha
 |_=>simp[hop] at ha
theorem Oc8(a:List c7)(dst:Option Nat)(x:c7):(putA a dst x).length=a.length:=by
 rw[yc6];cases dst<;>simp
theorem Oc9{a:List c7}{dst:Option Nat}{x:c7}{t:Nat}(h:dst≠some t):(putA a dst x)[t]?=a[t]?:=by
 rw[yc6];cases dst with
 |none=>rfl
 |some d=>simp only;rw[List.getElem?_set_ne (λe=>h (by rw[e]))]
theorem pd4{a:List c7}{d:Nat}{x:c7}(h:d<a.length):(putA a (some d) x)[d]?=some x:=by
 rw[yc6];exact Qdy h
section
variable{tr:Nat}{E:Env}{ops:Array Oper}{M:List Nat}{ks:List (Nat×PI)}{s:St}{U T:Nat->St}
variable(hD:DC tr E.P ops M ks)(hT:td9 E ops ks s U T)
include hD
theorem Wb4{i j:Nat}(hj:j<ops.size)(hi:i<ops.size)(hb:C9 M i j=true):i<j:=by
 refine fd2 hD.rows (· < j) (λm o ho hm i hi=>?_) j _ (xa4 hj) (λi hi=>yc8 hD.rows (xa4 hj) hi) i hi hb
 have:=yc8 hD.rows ho hi
 omega
theorem Vd3{j:Nat}(hj:j<ops.size)(h:R9 tr E.P ops j=0):Ob5 ks j=some (Bc5 tr E.P ops M j)/\Dc7 ks j=none:=by
 unfold Ob5 Dc7;rw[hD.at' j hj,h];exact⟨rfl,rfl⟩
theorem af6{j:Nat}(hj:j<ops.size)(h:R9 tr E.P ops j≠0):Ob5 ks j=none/\Dc7 ks j=some (Bc5 tr E.P ops M j):=by
 unfold Ob5 Dc7;rw[hD.at' j hj]
 rcases Wb3 (tr:=tr) (P:=E.P) (ops:=ops) j with h'|h'|h'
 ·exact absurd h' h
 ·rw[h'];exact⟨rfl,rfl⟩
 ·rw[h'];exact⟨rfl,rfl⟩
include hT
theorem Vd4{j:Nat}(hj:j<ops.size)(h:R9 tr E.P ops j≠0):U (j+1)=U j:=by
 have:=hT.u j hj
 unfold bc1 at this;rw[(af6 hD hj h).1] at this;exact this
theorem Pc0{j:Nat}(hj:j<ops.size)(h:R9 tr E.P ops j=0):T (j+1)=T j:=by
 have:=hT.t j hj
 unfold bc1 at this;rw[(Vd3 hD hj h).2] at this;exact this
theorem Ob8{j:Nat}(hj:j<ops.size)(h:R9 tr E.P ops j=0):∃d,(Pa0 ops j).guard=none/\qa7 ops j=some d/\(∀a H,(evalOp E a H (ba7 tr E.P ops j)).run=some (kd5 (ba7 tr E.P ops j) H.length,H++[Fd5 (ba7 tr E.P ops j)])) /\
  U (j+1)=⟨putA (U j).a (some d) (kd5 (ba7 tr E.P ops j) (U j).H.length),(U j).H++[Fd5 (ba7 tr E.P ops j)]⟩:=by
 have hst:=hT.u j hj;unfold bc1 at hst;rw[(Vd3 hD hj h).1] at hst;obtain⟨d,hd⟩:=hD.allocDst hj h;have ha:=td8 h;have hg:(Pa0 ops j).guard=none:=by
  unfold rb5 at ha
  split at ha
  ·simpa using ha
  ·split at ha
   ·simpa using ha
   ·cases ha
  ·cases ha
 have hgd:Ic1 ops j=none:=by simp[Ic1,ja6,hg]
 have hhide:(Bc5 tr E.P ops M j).hide=[]:=by simp[Bc5,h]
 obtain⟨b,h1,h2,h3⟩:=Oc6 hst;have hb:b=true:=by
  have:kd4 E (U j).a (Ic1 ops j)=some b:=h1
  rw[hgd] at this;injection this with this;exact this.symm
 obtain⟨x,H',h4,h5⟩:=je1 (h2 hb);rw[hhide] at h4 h5;have h4':(evalOp E (U j).a (U j).H (ba7 tr E.P ops j)).run=some (x,H'):=h4;obtain⟨_,hev⟩:=af5 ha h4';refine⟨d,hg,hd,hev,?_⟩;rw[hev] at h4';injection h4' with h4';injection h4' with e1 e2;subst e1 e2;rw[h5];show (⟨putA (U j).a (qa7 ops j) _,_⟩:St)=_;rw[hd];rfl
theorem Vd5{j:Nat}(hj:j<ops.size)(h:R9 tr E.P ops j≠0):∃b,kd4 E (T j).a (Ic1 ops j)=some b /\
  (b=true->∃x H',(evalOp E (T j).a (Gc6 (T j).H (wb8 (T j).a (Bc5 tr E.P ops M j).hide)) (ba7 tr E.P ops j)).run=some (x,H') /\
   T (j+1)=⟨putA (T j).a (qa7 ops j) x,wb9 (T j).H H' (wb8 (T j).a (Bc5 tr E.P ops M j).hide)⟩) /\
  (b=false->T (j+1)=⟨putA (T j).a (qa7 ops j) (.v (.tuple #[])),(T j).H⟩):=by
 have hst:=hT.t j hj;unfold bc1 at hst;rw[(af6 hD hj h).2] at hst;obtain⟨b,h1,h2,h3⟩:=Oc6 hst;exact⟨b,h1,λhb=>je1 (h2 hb),h3⟩
theorem Vd6{t:Nat}:∀(d u:Nat),u+d<=ops.size->(∀j,u<=j->j<u+d->R9 tr E.P ops j=0->qa7 ops j≠some t)->(U (u+d)).a[t]?=(U u).a[t]?
 |0,u,_,_=>rfl
 |d+1,u,hb,hn=>by
  have ih:=Vd6 d u (by omega) λj h1 h2=>hn j h1 (by omega)
  rw[<- ih];show (U (u+d+1)).a[t]?=_;by_cases hk:R9 tr E.P ops (u+d)=0
  ·obtain⟨d',_,hd',_,hU⟩:=Ob8 hD hT (j:=u+d) (by omega) hk
   rw[hU];exact Oc9 (hd' ▸ hn (u+d) (by omega) (by omega) hk)
  ·rw[Vd4 hD hT (by omega) hk]
theorem Ic2{t:Nat}:∀(d u:Nat),u+d<=ops.size->(∀j,u<=j->j<u+d->R9 tr E.P ops j≠0->qa7 ops j≠some t)->(T (u+d)).a[t]?=(T u).a[t]?
 |0,u,_,_=>rfl
 |d+1,u,hb,hn=>by
  have ih:=Ic2 d u (by omega) λj h1 h2=>hn j h1 (by omega)
  rw[<- ih];show (T (u+d+1)).a[t]?=_;by_cases hk:R9 tr E.P ops (u+d)=0
  ·rw[Pc0 hD hT (by omega) hk]
  ·obtain⟨b,h1,h2,h3⟩:=Vd5 hD hT (j:=u+d) (by omega) hk
   have hne:=hn (u+d) (by omega) (by omega) hk
   cases b with
   |true =>
    obtain⟨x,H',_,h5⟩:=h2 rfl;rw[h5];exact Oc9 hne
   |false=>rw[h3 rfl];exact Oc9 hne
theorem jc0:∀j,j<=ops.size->(U j).a.length=s.a.length/\(T j).a.length=s.a.length:=by
 have hu:∀j,j<=ops.size->(U j).a.length=s.a.length:=by
  intro j
  induction j with
  |zero=>intro _;rw[hT.u0]
  |succ j ih =>
   intro hj;by_cases hk:R9 tr E.P ops j=0
   ·obtain⟨d',_,hd',_,hU⟩:=Ob8 hD hT (j:=j) (by omega) hk
    rw[hU];simp only[Oc8];exact ih (by omega)
   ·rw[Vd4 hD hT (by omega) hk];exact ih (by omega)
 intro j
 induction j with
 |zero=>intro _;exact⟨hu 0 (by omega),by rw[hT.t0];exact hu _ (Qdn _)⟩
 |succ j ih =>
  intro hj;refine⟨hu _ hj,?_⟩;by_cases hk:R9 tr E.P ops j=0
  ·rw[Pc0 hD hT (by omega) hk];exact (ih (by omega)).2
  ·obtain⟨b,h1,h2,h3⟩:=Vd5 hD hT (j:=j) (by omega) hk
   cases b with
   |true =>
    obtain⟨x,H',_,h5⟩:=h2 rfl;rw[h5];simp only[Oc8];exact (ih (by omega)).2
   |false=>rw[h3 rfl];simp only[Oc8];exact (ih (by omega)).2
theorem af7{j:Nat}(hj:j<ops.size)(hl:ac7 (ba7 tr E.P ops j)=false):Agr (T j).a (T ops.size).a (Hc1 (Ic1 ops j)++Ob4 (ba7 tr E.P ops j)):=λt ht=>by
 have:=Ic2 hD hT (t:=t) (ops.size-j) j (by omega) λi h1 h2 hk he=>by
  have hi:i<ops.size:=by omega
  rcases (hD.slots hi hj he).1 ht with hb|hb
  ·have:=Wb4 hD hj hi hb
   omega
  ·rw[hl] at hb;cases hb.1
 rw[show j+(ops.size-j)=ops.size by omega] at this
 exact this.symm
theorem Ff8{j d:Nat}(hj:j<ops.size)(hd:qa7 ops j=some d):(T ops.size).a[d]?=(T (j+1)).a[d]?:=by
 have:=Ic2 hD hT (t:=d) (ops.size-(j+1)) (j+1) (by omega) λi h1 h2 hk he=>by
  have hi:i<ops.size:=by omega
  rcases (hD.slots hi hj he).2 with h|h
  ·omega
  ·exact h hd
 rw[show j+1+(ops.size-(j+1))=ops.size by omega] at this
 exact this
theorem Vd7{j d v:Nat}(hj:j<ops.size)(h:R9 tr E.P ops j=0)(hd:qa7 ops j=some d)(hlt:d<s.a.length)(hv:v<=ops.size):(T v).a[d]?=some (kd5 (ba7 tr E.P ops j) (U j).H.length):=by
 have hne:∀i,i<ops.size->i≠j->qa7 ops i≠some d:=λi hi hij he=>by
  rcases (hD.slots hi hj he).2 with h|h
  ·exact hij h
  ·exact h hd
 have h1:=Ic2 hD hT (t:=d) v 0 (by omega) λi _ h2 hk=>hne i (by omega) λe=>hk (e ▸ h)
 rw[Qdf] at h1;rw[h1,hT.t0];have h2:=Vd6 hD hT (t:=d) (ops.size-(j+1)) (j+1) (by omega) λi h3 h4 _=>hne i (by omega) (by omega)
 rw[show j+1+(ops.size-(j+1))=ops.size by omega] at h2
 rw[h2];obtain⟨d',_,hd',_,hU⟩:=Ob8 hD hT hj h
 have:d'=d:=Qdj (hd'.symm.trans hd)
 subst this;rw[hU];exact pd4 (by rw[(jc0 hD hT j (by omega)).1];exact hlt)
theorem Vd8:∀(d u:Nat),u+d<=ops.size->∃l,(U (u+d)).H=(U u).H++l
 |0,u,_=>⟨[],by simp⟩
 |d+1,u,hb=>by
  obtain⟨l,hl⟩:=Vd8 d u (by omega)
  show ∃l,(U (u+d+1)).H=_;by_cases hk:R9 tr E.P ops (u+d)=0
  ·obtain⟨d',_,hd',_,hU⟩:=Ob8 hD hT (j:=u+d) (by omega) hk
   exact⟨l++[Fd5 (ba7 tr E.P ops (u+d))],by rw[hU,hl,List.append_assoc]⟩
  ·exact⟨l,by rw[Vd4 hD hT (by omega) hk,hl]⟩
theorem Vf7{i j:Nat}(hij:i<j)(hj:j<=ops.size)(hk:R9 tr E.P ops i=0):(U i).H.length<(U j).H.length:=by
 obtain⟨d',_,hd',_,hU⟩:=Ob8 hD hT (j:=i) (by omega) hk
 obtain⟨l,hl⟩:=Vd8 hD hT (j-(i+1)) (i+1) (by omega)
 rw[show i+1+(j-(i+1))=j by omega] at hl
 rw[hl,hU];simp
theorem ye4{j:Nat}(hj:j<=ops.size):s.H.length<=(U j).H.length/\∀i,i<s.H.length->(U j).H[i]?=s.H[i]?:=by
 obtain⟨l,hl⟩:=Vd8 hD hT j 0 (by omega)
 rw[Qdf,hT.u0] at hl;rw[hl];exact⟨by simp,λi hi=>Qdh hi⟩
theorem ye5{j:Nat}(hj:j<ops.size)(hk:R9 tr E.P ops j=0):(T 0).H[(U j).H.length]?=some (Fd5 (ba7 tr E.P ops j)):=by
 obtain⟨d',_,hd',_,hU⟩:=Ob8 hD hT hj hk;obtain⟨l,hl⟩:=Vd8 hD hT (ops.size-(j+1)) (j+1) (by omega)
 rw[show j+1+(ops.size-(j+1))=ops.size by omega,hU] at hl
 rw[hT.t0,hl];simp
theorem af8:∀(v:Nat),v<=ops.size->∀id,s.H.length<=id->id<(U v).H.length->∃j,j<v/\R9 tr E.P ops j=0/\id=(U j).H.length
 |0,_,id,h1,h2=>by rw[hT.u0] at h2;omega
 |v+1,hv,id,h1,h2=>by
  by_cases hk:R9 tr E.P ops v=0
  ·obtain⟨d',_,hd',_,hU⟩:=Ob8 hD hT (j:=v) (by omega) hk
   rw[hU] at h2
   simp at h2
   by_cases he:id<(U v).H.length
   ·obtain⟨j,h3,h4,h5⟩:=af8 v (by omega) id h1 he
    exact⟨j,by omega,h4,h5⟩
   ·exact⟨v,by omega,hk,by omega⟩
  ·rw[Vd4 hD hT (by omega) hk] at h2
   obtain⟨j,h3,h4,h5⟩:=af8 v (by omega) id h1 h2
   exact⟨j,by omega,h4,h5⟩
end
section
variable{E:Env}{a a':List c7}
theorem Pc1{o:PO}(h:Agr a a' (Ob4 o)):db3 E a o=db3 E a' o:=by
 cases o with
 |load ks n agg x=>simp only[db3,Qdad (E:=E) (x:=x) h]
 |idxS es x i=>simp only[db3,Qdad (E:=E) h.left]
 |slice es x lo hi=>simp only[db3,Qdad (E:=E) h.left.left]
 |_=>rfl
theorem Fd6{o:PO}(h:Agr a a' (Ob4 o)):ba2 E a o=ba2 E a' o:=by
 cases o with
 |store n x y=>simp only[ba2,Qdad (E:=E) h.left]
 |append et es by' x y=>simp only[ba2,Qdad (E:=E) h.left]
 |copy es x y=>simp only[ba2,Qdad (E:=E) h.left]
 |apre es x y=>simp only[ba2,Qdad (E:=E) h.left]
 |clr es z x=>simp only[ba2,Qdad (E:=E) h]
 |call f xs=>simp only[ba2,Agr.args (E:=E) h]
 |calld x xs=>simp only[ba2,Agr.args (E:=E) h.right,Qdad (E:=E) h.left]
 |_=>rfl
theorem Pc2{o:PO}(h:ac7 o=true):db3 E a o=[]:=by cases o<;>first | rfl | cases h
theorem Ec2{o:PO}(h:ac7 o=true):ba2 E a o=[]:=by cases o<;>first | rfl | cases h
theorem ud0:∀{l:List (PO×PO)},Va0 E a l=true->∀{p:PO×PO},p∈l->∀id∈db3 E a p.1,id∉ba2 E a p.2
 |[],_,p,hp=>by cases hp
 |q::l,h,p,hp=>by
  have e:Va0 E a (q::l)=Bool.rec false (Va0 E a l) (Fb8 (db3 E a q.1) (ba2 E a q.2)):=rfl;rw[e] at h;cases hq:Fb8 (db3 E a q.1) (ba2 E a q.2) with
  |false=>rw[hq] at h;cases h
  |true =>
   rw[hq] at h
   rcases Qdac.1 hp with rfl|hp
   ·exact Xc0 hq
   ·exact ud0 h hp
theorem Ic3:∀{l:List PI},Ob2 a l=true->∀p∈l,∀d,p.dst=some d->d<a.length
 |[],_,p,hp=>by cases hp
 |q::l,h,p,hp=>λd hd=>by
  have e:Ob2 a (q::l)=(match q.dst with
   |some d=>match nth a d with
    |some _=>Ob2 a l
    |none=>false
   |none=>false):=rfl
  rw[e] at h;cases hq:q.dst with
  |none=>simp[hq] at h
  |some d' =>
  simp only[hq,E2] at h;cases hn:a[d']? with
  |none=>simp[hn] at h
  |some x =>
  simp only[hn] at h
  rcases Qdac.1 hp with rfl|hp
  ·have:d'=d:=Qdj (hq.symm.trans hd)
   subst this;exact (Qdd.1 hn).1
  ·exact Ic3 h p hp d hd
theorem ud1{tr:Nat}{P:Program}{ops:Array Oper}{j:Nat}:R9 tr P ops j=0↔rb5 (Pa0 ops j)=true:=by
 refine⟨td8,λh=>?_⟩
 unfold R9 Dc6;rw[if_pos h]
end
section
variable{tr:Nat}{E:Env}{ops:Array Oper}{M:List Nat}{ks:List (Nat×PI)}{s:St}{U T:Nat->St}
variable(hD:DC tr E.P ops M ks)(hT:td9 E ops ks s U T)(hin:∀j,j<ops.size->R9 tr E.P ops j=0->∀d,qa7 ops j=some d->d<s.a.length)
include hD hT
theorem af9{j:Nat}(hj:j<ops.size):db3 E (T j).a (ba7 tr E.P ops j)=db3 E (T ops.size).a (ba7 tr E.P ops j):=by
 cases hl:ac7 (ba7 tr E.P ops j) with
 |true=>rw[Pc2 hl,Pc2 hl]
 |false=>exact Pc1 (af7 hD hT hj hl).right
theorem Qe8{j:Nat}(hj:j<ops.size):ba2 E (T j).a (ba7 tr E.P ops j)=ba2 E (T ops.size).a (ba7 tr E.P ops j):=by
 cases hl:ac7 (ba7 tr E.P ops j) with
 |true=>rw[Ec2 hl,Ec2 hl]
 |false=>exact Fd6 (af7 hD hT hj hl).right
theorem pd5{j:Nat}(hj:j<ops.size)(h:R9 tr E.P ops j=1):∃b x,kd4 E (T j).a (Ic1 ops j)=some b/\T (j+1)=⟨putA (T j).a (qa7 ops j) x,(T j).H⟩ /\
  (b=true->(evalOp E (T j).a (T j).H (ba7 tr E.P ops j)).run=some (x,(T j).H))/\(b=false->x=.v (.tuple #[])):=by
 obtain⟨b,h1,h2,h3⟩:=Vd5 hD hT hj (by omega)
 have hh:(Bc5 tr E.P ops M j).hide=[]:=by simp[Bc5,h]
 cases b with
 |true =>
  obtain⟨x,H',h4,h5⟩:=h2 rfl;rw[hh] at h4 h5;have h4':(evalOp E (T j).a (T j).H (ba7 tr E.P ops j)).run=some (x,H'):=h4;have he:=(Oc2 (je3 h) h4').1;subst he;exact⟨true,x,h1,h5,λ_=>h4',λh=>by cases h⟩
 |false=>exact⟨false,_,h1,h3 rfl,λh=>(by cases h),λ_=>rfl⟩
theorem ye6:∀(d u:Nat),u+d<=ops.size->(∀j,u<=j->j<u+d->R9 tr E.P ops j≠2)->(T (u+d)).H=(T u).H
 |0,u,_,_=>rfl
 |d+1,u,hb,hn=>by
  have ih:=ye6 d u (by omega) λj h1 h2=>hn j h1 (by omega)
  rw[<- ih];show (T (u+d+1)).H=_
  rcases Wb3 (tr:=tr) (P:=E.P) (ops:=ops) (u+d) with hk|hk|hk
  ·rw[Pc0 hD hT (by omega) hk]
  ·obtain⟨b,x,_,h2,_⟩:=pd5 hD hT (j:=u+d) (by omega) hk
   rw[h2]
  ·exact absurd hk (hn (u+d) (by omega) (by omega))
include hin
theorem tf8{j:Nat}(hj:j<ops.size)(h:R9 tr E.P ops j=2)(id:Nat):id∈wb8 (T j).a (Bc5 tr E.P ops M j).hide↔∃b,b<ops.size/\R9 tr E.P ops b=0/\C9 M b j=false/\id=(U b).H.length:=by
 have hh:(Bc5 tr E.P ops M j).hide=Wc5 ops M j:=by simp[Bc5,h]
 rw[hh];unfold wb8;rw[l9,List.mem_map];constructor
 ·rintro⟨d,hd,he⟩;unfold Wc5 at hd;rw[List.mem_filterMap] at hd;obtain⟨b,hb,hb2⟩:=hd;have hb1:=Qds.1 hb;simp only[xa4 hb1] at hb2
  split at hb2
  ·rename_i hc;rw[Qdb,Qdv] at hc;have hk:R9 tr E.P ops b=0:=ud1.2 hc.1;have ha:=Vd7 hD hT hb1 hk hb2 (hin b hb1 hk d hb2) (v:=j) (by omega)
   rw[E2,ha] at he;exact⟨b,hb1,hk,hc.2,by rw[<- he];cases ba7 tr E.P ops b<;>rfl⟩
  ·cases hb2
 ·rintro⟨b,hb1,hk,hc,rfl⟩;obtain⟨d,hd⟩:=hD.allocDst hb1 hk;refine⟨d,?_,?_⟩
  ·unfold Wc5;rw[List.mem_filterMap];refine⟨b,Qds.2 hb1,?_⟩;have h2:(rb5 (Pa0 ops b)&&!C9 M b j)=true:=by rw[ud1.1 hk,hc];rfl
   simp only[xa4 hb1,h2,if_true];exact hd
  ·rw[E2,Vd7 hD hT hb1 hk hd (hin b hb1 hk d hd) (v:=j) (by omega)]
   cases ba7 tr E.P ops b<;>rfl
theorem Vd9{j:Nat}(hj:j<ops.size)(h:R9 tr E.P ops j=2):∃b x,kd4 E (T j).a (Ic1 ops j)=some b/\(T (j+1)).a=putA (T j).a (qa7 ops j) x /\
  (b=true->∃hid H',(∀id,id∈hid↔∃b,b<ops.size/\R9 tr E.P ops b=0/\C9 M b j=false/\id=(U b).H.length) /\
   (evalOp E (T j).a (sa9 (T j).H (·∈hid)) (ba7 tr E.P ops j)).run=some (x,H')/\(T (j+1)).H=wb9 (T j).H H' hid) /\
  (b=false->x=.v (.tuple #[])/\(T (j+1)).H=(T j).H):=by
 obtain⟨b,h1,h2,h3⟩:=Vd5 hD hT hj (by omega)
 cases b with
 |true =>
  obtain⟨x,H',h4,h5⟩:=h2 rfl;rw[Qe6] at h4;exact⟨true,x,h1,by rw[h5],λ_=>⟨_,H',tf8 hD hT hin hj h,h4,by rw[h5]⟩,λh=>by cases h⟩
 |false=>exact⟨false,_,h1,by rw[h3 rfl],λh=>(by cases h),λ_=>⟨rfl,by rw[h3 rfl]⟩⟩
omit hD hT hin in
theorem Md9{H:List c8}{l:List Nat}(hb:∀id∈l,id<H.length):N6 (·∈l) (sa9 H (·∈l)) (sa9 H (·∈l)) (sa9 H (·∈l)) (sa9 H (·∈l)) :=
 ⟨rfl,λ_ _=>rfl,λid b hD hb=>by
  rw[Da0 hD] at hb;simp only[Option.map_eq_some_iff] at hb;obtain⟨c,_,rfl⟩:=hb
  rfl,λ_ _=>rfl,λ_ _=>rfl,λid h=>by rw[Fb2];exact hb id h⟩
theorem Wd0{b:Nat}(hb:b<ops.size)(hk:R9 tr E.P ops b=0):∀(v:Nat),v<=ops.size->(∀h,h<v->R9 tr E.P ops h=2->C9 M b h=false)->(T v).H[(U b).H.length]?=(T 0).H[(U b).H.length]?
 |0,_,_=>rfl
 |v+1,hv,hn=>by
  have ih:=Wd0 hb hk v (by omega) λh h1=>hn h (by omega)
  rw[<- ih]
  rcases Wb3 (tr:=tr) (P:=E.P) (ops:=ops) v with h0|h0|h0
  ·rw[Pc0 hD hT (by omega) h0]
  ·obtain⟨b,x,_,h2,_⟩:=pd5 hD hT (j:=v) (by omega) h0
   rw[h2]
  ·obtain⟨bb,x,h1,_,h3,h4⟩:=Vd9 hD hT hin (j:=v) (by omega) h0
   cases bb with
   |false=>rw[(h4 rfl).2]
   |true =>
    obtain⟨hid,H',h5,h6,h7⟩:=h3 rfl;rw[h7]
    -- every wb8 block stands in the heap
    have hall:∀id∈hid,id<(T v).H.length:=λid hid'=>by
     obtain⟨b',k1,k2,k3,rfl⟩:=(h5 id).1 hid'
     have:=Wd0 k1 k2 v (by omega) λh h1 h2=>by
      cases hc:C9 M b' h with
      |false=>rfl
      |true =>
       rw[(hD.chain h1 (by omega) h2 h0).2 b' hc] at k3
       cases k3
     have hz:=ye5 hD hT k1 k2;rw[hz] at this;exact (Qdd.1 this).1
    have hm:(U b).H.length∈hid:=(h5 _).2 ⟨b,hb,hk,hn v (by omega) h0,rfl⟩
    obtain⟨H2',_,hM⟩:=(Md9 hall).evalOp (E:=E) (a:=(T v).a) (Oc7 h0) h6;refine Xc2 hm (hall _ hm) ?_;exact hM.bound _ hm
theorem bf0{j:Nat}(hj:j<ops.size)(h0:R9 tr E.P ops j=2){b:Nat}(k1:b<ops.size)(k2:R9 tr E.P ops b=0)(k3:C9 M b j=false):(U b).H.length<(T j).H.length:=by
 have:=Wd0 hD hT hin k1 k2 j (by omega) λh h1 h2=>by
  cases hc:C9 M b h with
  |false=>rfl
  |true =>
   rw[(hD.chain h1 hj h2 h0).2 b hc] at k3;cases k3
 have hz:=ye5 hD hT k1 k2;rw[hz] at this;exact (Qdd.1 this).1
theorem tf9{j:Nat}(hj:j<ops.size){id:Nat}(hn:R9 tr E.P ops j=2->id∉ba2 E (T ops.size).a (ba7 tr E.P ops j)):Z3 (T j).H (T (j+1)).H id:=by
 rcases Wb3 (tr:=tr) (P:=E.P) (ops:=ops) j with h0|h0|h0
 ·rw[Pc0 hD hT hj h0];exact .refl _ _
 ·obtain⟨b,x,_,h2,_⟩:=pd5 hD hT hj h0;rw[h2];exact .refl _ _
 ·obtain⟨bb,x,h1,_,h3,h4⟩:=Vd9 hD hT hin hj h0;cases bb with
  |false=>rw[(h4 rfl).2];exact .refl _ _
  |true =>
   obtain⟨hid,H',h5,h6,h7⟩:=h3 rfl;rw[h7];have hall:∀id∈hid,id<(T j).H.length:=λid hid'=>by
    obtain⟨b',k1,k2,k3,rfl⟩:=(h5 id).1 hid';exact bf0 hD hT hin hj h0 k1 k2 k3
   obtain⟨H2',_,hM⟩:=(Md9 hall).evalOp (E:=E) (a:=(T j).a) (Oc7 h0) h6;intro b hb;by_cases hm:id∈hid
   ·refine⟨b,?_,.refl b⟩;rw[Xc2 hm (hall _ hm) (hM.bound _ hm)];exact hb
   ·rw[td6 hm];have hslots:ba2 E (T j).a (ba7 tr E.P ops j)=ba2 E (T ops.size).a (ba7 tr E.P ops j):=Qe8 hD hT hj;exact Vd1 (Oc7 h0) h6 (by rw[hslots];exact hn h0) b (by rw[Z9 (D:=(·∈hid)) hm];exact hb)
theorem ye7{id:Nat}:∀(d u:Nat),u+d<=ops.size->(∀j,u<=j->j<u+d->R9 tr E.P ops j=2->id∉ba2 E (T ops.size).a (ba7 tr E.P ops j))->Z3 (T u).H (T (u+d)).H id
 |0,u,_,_=>.refl _ _
 |d+1,u,hb,hn =>
  (ye7 d u (by omega) λj h1 h2=>hn j h1 (by omega)).trans (tf9 hD hT hin (j:=u+d) (by omega) (hn (u+d) (by omega) (by omega)))
end
section
variable{W:Nat->Prop}{ρ ρ':Rho}{H H':List c8}{F F':Fz}{w w':World}
def Nd0(ρ:Rho)(H:List c8)(ρ':Rho)(H':List c8):Prop:=∀(id:Nat) b,H[id]?=some b->b.dead=false->∃b',H'[id]?=some b'/\b'.dead=false/\b.g<=b'.g/\(b'.g=b.g->ρ' id=ρ id/\b'.es=b.es/\b.elems.length<=b'.elems.length)
section
variable(hk:Nd0 ρ H ρ' H')(hm:∀b o,F b o->F' b o)(hc:∀b o,F b o->w'.cell? ⟨b,o,none⟩=w.cell? ⟨b,o,none⟩)
include hk hm hc
theorem ga3.carry{x:c7}{x':Value}(h:ga3 ρ H F w x x'):ga3 ρ' H' F' w' x x':=by
 cases h with
 |mem h=>exact .mem (h.adv hm hc)
 |v=>exact .v _
 |ptr id i c g a b hb hd hg h =>
  obtain⟨b',hb',hd',hg',e⟩:=hk id b hb hd;refine .ptr id i c g a b' hb' hd' (Qdw hg hg') λhge=>?_
  have hbg:b'.g=b.g:=by omega
  obtain⟨e1,e2,e3⟩:=e hbg;rw[e1,e2];exact h (by omega)
 |sl id off n g a cap b hb hd hg hn hs hm h =>
  obtain⟨b',hb',hd',hg',e⟩:=hk id b hb hd;refine .sl id off n g a cap b' hb' hd' (Qdw hg hg') hn hs hm λhge=>?_
  have hbg:b'.g=b.g:=by omega
  obtain⟨e1,e2,e3⟩:=e hbg;obtain⟨h1,h2,h3⟩:=h (by omega)
  rw[e1,e2];exact⟨h1,h2,Qdw h3 e3⟩
 |tptr cs a vs hs hF hw hr=>exact .tptr cs a vs hs (λc hlt=>hm _ _ (hF c hlt)) (λc hlt=>(hc _ _ (hF c hlt)).trans (hw c hlt)) (λc hlt=>(hr c hlt).adv hm hc)
 |unk x'=>exact .unk x'
theorem qa6.carry{x:c7}{x':Value}(h:qa6 ρ H F w x x'):qa6 ρ' H' F' w' x x':=by
 cases h with
 |cell h=>exact .cell (h.carry hk hm hc)
 |agg cs vs hl h=>exact .agg cs vs hl λi x x' hx hx'=>(h i x x' hx hx').carry hk hm hc
 |fn f caps vs hl h=>exact .fn f caps vs hl λi x x' hx hx'=>(h i x x' hx hx').carry hk hm hc
theorem J7.carry{x:c7}{x':Value}(h:J7 ρ H F w x x'):J7 ρ' H' F' w' x x':=by
 cases h with
 |val h=>exact .val (h.carry hk hm hc)
 |tup xs vs hl h=>exact .tup xs vs hl λi x x' hx hx'=>(h i x x' hx hx').carry hk hm hc
theorem Fa4.carry{a:List c7}{vs:Array Value}(h:Fa4 ρ H F w a vs):Fa4 ρ' H' F' w' a vs :=
 ⟨h.1,λi x x' hx hx'=>(h.2 i x x' hx hx').carry hk hm hc⟩
end
end
section
variable{W:Nat->Prop}{ρ0:Rho}{H0:List c8}{F0:Fz}{w0 w:World}
variable{tr:Nat}{E:Env}{ops:Array Oper}{M:List Nat}{ks:List (Nat×PI)}{s:St}{U T:Nat->St}
def F8(listed:Array Bool)(j:Nat):Prop:=listed.getD j true=true
def V7(tr:Nat)(P:Program)(ops:Array Oper)(U:Nat->St)(listed:Array Bool)(id:Nat):Prop:=∃b,b<ops.size/\R9 tr P ops b=0/\¬ F8 listed b/\id=(U b).H.length
def fa8(ops:Array Oper)(listed:Array Bool)(t:Nat):Prop:=∃i,i<ops.size/\qa7 ops i=some t/\¬ F8 listed i
theorem X0{listed:Array Bool}{i j:Nat}(hi:i<listed.size):F8 (listed.setIfInBounds i true) j↔F8 listed j\/j=i:=by
 unfold F8;by_cases e:i=j
 ·subst e;simp[Array.getD,hi]
 ·have:j≠i:=λh=>e h.symm
  simp only[Array.getD_eq_getD_getElem?,Qdq e,this,or_false]
theorem bc2{listed:Array Bool}{i:Nat}(h:i∈Region.ready .any ops listed):i<ops.size/\¬ F8 listed i/\(listed.size=ops.size->∀e∈K4 (Pa0 ops i),e<ops.size->F8 listed e):=by
 unfold Region.ready at h;rw[List.mem_filter] at h;obtain⟨h1,h2⟩:=h;have hi:=Qds.1 h1;rw[xa4 hi] at h2;simp only[Option.map_some,Option.getD_some,Qdb,Qdv] at h2;refine⟨hi,λh=>?_,λhsz e he hlt=>?_⟩
 ·unfold F8 at h;rw[h] at h2;cases h2.1
 ·obtain⟨ed,h3,h4,h5⟩:=db6.1 he;have h6:(Pa0 ops i).after.all (λe=>!Region.binds .any e||listed.getD e.on false)=true:=h2.2
  rw[Qdp] at h6;have h7:=h6 ed h3;rw[h4,h5] at h7;simp only[Bool.not_true,Bool.false_or] at h7;unfold F8
  have:e<listed.size:=by omega
  simp only[Array.getD,this,dite_true] at h7 ⊢;exact h7
variable(hD:DC tr E.P ops M ks)(hT:td9 E ops ks s U T)(hin:∀j,j<ops.size->R9 tr E.P ops j=0->∀d,qa7 ops j=some d->d<s.a.length)
include hD
theorem Qe9{listed:Array Bool}(hsz:listed.size=ops.size){i:Nat}(hi:i<ops.size){x:c7}(hx:∀d,qa7 ops i=some d->d<(T ops.size).a.length->(T ops.size).a[d]?=some x) :
  nb1 (T ops.size).a s.a (fa8 ops (listed.setIfInBounds i true))=putA (nb1 (T ops.size).a s.a (fa8 ops listed)) (qa7 ops i) x:=by
 refine List.ext_getElem? λt=>?_
 have hopen:∀t,qa7 ops i≠some t->(fa8 ops (listed.setIfInBounds i true) t↔fa8 ops listed t):=λt hne=>by
  constructor
  ·rintro⟨j,h1,h2,h3⟩;exact⟨j,h1,h2,λh=>h3 ((X0 (hsz ▸ hi)).2 (.inl h))⟩
  ·rintro⟨j,h1,h2,h3⟩;refine⟨j,h1,h2,λh=>?_⟩
   rcases (X0 (hsz ▸ hi)).1 h with h|h
   ·exact h3 h
   ·subst h;exact hne h2
 by_cases hd:qa7 ops i=some t
 ·have hno : ¬ fa8 ops (listed.setIfInBounds i true) t := by
   rintro⟨j,h1,h2,h3⟩
   rcases (hD.slots hi h1 hd).2 with h|h
   ·exact h3 ((X0 (hsz ▸ hi)).2 (.inr h.symm))
   ·exact h h2
  rw[ob2 hno,hd]
  rcases Qdk t (T ops.size).a.length with hlt|hge
  ·rw[pd4 (by rw[ob1];exact hlt)]
   exact hx t hd hlt
  ·rw[Qdi hge,Qdi (by rw[Oc8,ob1];exact hge)]
 ·rw[Oc9 hd];by_cases ho:fa8 ops listed t
  ·rcases Qdk t (T ops.size).a.length with hlt|hge
   ·rw[Oc5 ho hlt,Oc5 ((hopen t hd).2 ho) hlt]
   ·rw[Qdi (by rw[ob1];exact hge),Qdi (by rw[ob1];exact hge)]
  ·rw[ob2 ho,ob2 λh=>ho ((hopen t hd).1 h)]
include hT
end
section
variable{W:Nat->Prop}{ρ0:Rho}{H0:List c8}{F0:Fz}{w0 w:World}
variable{tr:Nat}{E:Env}{ops:Array Oper}{M:List Nat}{ks:List (Nat×PI)}{s:St}{U T:Nat->St}
variable(hD:DC tr E.P ops M ks)(hT:td9 E ops ks s U T)(hin:∀j,j<ops.size->R9 tr E.P ops j=0->∀d,qa7 ops j=some d->d<s.a.length)
variable(hpairs:Va0 E (T ops.size).a (Oa0 ops.size M ks)=true)
variable(hG0:GOk E F0 w0)(hcalls:∀f,g9 E.P E.G f (E.call f))
theorem Nd1{listed:Array Bool}(hsz:listed.size=ops.size){i:Nat}(hi:i<ops.size)(hk:R9 tr E.P ops i≠0):V7 tr E.P ops U (listed.setIfInBounds i true)=V7 tr E.P ops U listed:=by
 funext id;refine propext ⟨λ⟨b,h1,h2,h3,h4⟩=>⟨b,h1,h2,λh=>h3 ((X0 (hsz ▸ hi)).2 (.inl h)),h4⟩,λ⟨b,h1,h2,h3,h4⟩=>⟨b,h1,h2,λh=>?_,h4⟩⟩
 rcases (X0 (hsz ▸ hi)).1 h with h|h
 ·exact h3 h
 ·subst h;exact hk h2
include hD
include hT hin hpairs hG0 hcalls
end
section
variable{W:Nat->Prop}{ρ0:Rho}{H0:List c8}{F0:Fz}{w0 w:World}
variable{tr:Nat}{E:Env}{ops:Array Oper}{M:List Nat}{ks:List (Nat×PI)}{s:St}{U T:Nat->St}
variable(hD:DC tr E.P ops M ks)(hT:td9 E ops ks s U T)(hin:∀j,j<ops.size->R9 tr E.P ops j=0->∀d,qa7 ops j=some d->d<s.a.length)(hlen:H0.length<=s.H.length)
include hD hT hin hlen
omit hT hin hlen in
theorem Nd2{listed:Array Bool}(hsz:listed.size=ops.size)(h:Region.ready .any ops listed=[]):∀j,j<ops.size->F8 listed j:=by
 intro j
 induction j using Nat.strongRecOn with
 |_ j ih =>
  intro hj;apply Classical.byContradiction;intro hn;have hmem:j∈Region.ready .any ops listed:=by
   unfold Region.ready;rw[List.mem_filter];refine⟨Qds.2 hj,?_⟩;rw[xa4 hj];simp only[Option.map_some,Option.getD_some,Qdb,Qdv];refine⟨by unfold F8 at hn;simpa using hn,?_⟩
   rw[Qdp];intro e he;cases hb:Region.binds .any e with
   |false=>rfl
   |true =>
    have hd:e.on∈K4 (Pa0 ops j):=db6.2 ⟨e,he,hb,rfl⟩;have hlt:=yc8 hD.rows (xa4 hj) hd
    have:=ih e.on hlt (by omega)
    unfold F8 at this;have h2:e.on<listed.size:=by omega
    simp only[Array.getD,h2,dite_true] at this ⊢;simpa using this
  rw[h] at hmem;cases hmem
def P1(listed:Array Bool):Nat:=(listed.toList.filter λb=>!b).length
omit hD hT hin hlen in
theorem Za4:∀(l:List Bool) (i:Nat),l[i]?=some false->((l.set i true).filter λb=>!b).length+1=(l.filter λb=>!b).length
 |[],i,h=>by simp at h
 |b::l,0,h=>by
  simp at h
  subst h;simp
 |b::l,i+1,h=>by
  have ih:=Za4 l i (by simpa using h)
  simp only[List.set_cons_succ,List.filter_cons];cases b<;>simp[ih]
omit hD hT hin hlen in
theorem hb9{listed:Array Bool}(h:P1 listed=0)(j:Nat):F8 listed j:=by
 unfold P1 at h;unfold F8;rw[List.length_eq_zero_iff,List.filter_eq_nil_iff] at h
 rcases Qdk j listed.size with hj|hj
 ·have:=h listed[j] (by simp)
  simpa [Array.getD,hj] using this
 ·simp[Array.getD,Nat.not_lt.2 hj]
variable(hpairs:Va0 E (T ops.size).a (Oa0 ops.size M ks)=true)(hG0:GOk E F0 w0)(hcalls:∀f,g9 E.P E.G f (E.call f))
include hpairs hG0 hcalls
end
abbrev Sum:=List c7->List c8->DT (c7×List c8)
def ALe(x y:c7):Prop:=∀ρ H F w v,J7 ρ H F w x v->J7 ρ H F w y v
theorem ALe.refl(x:c7):ALe x x:=λ_ _ _ _ _ h=>h
inductive ud2:List c7->List c7->Prop
 |nil:ud2 [] []
 |cons {x y l r} (h:ALe x y) (t:ud2 l r):ud2 (x::l) (y::r)
theorem ud2.refl:∀l,ud2 l l
 |[]=>.nil
 |x::l=>.cons (.refl x) (ud2.refl l)
theorem ud2.length{l r}(h:ud2 l r):l.length=r.length:=by induction h<;>simp_all
theorem ud2.get{l r}(h:ud2 l r):∀(i:Nat) y,r[i]?=some y->∃x,l[i]?=some x/\ALe x y:=by
 induction h with
 |nil=>intro i y hy;simp at hy
 |cons h t ih =>
  intro i y hy;cases i with
  |zero=>simp at hy;subst hy;exact⟨_,rfl,h⟩
  |succ i=>simpa using ih i y (by simpa using hy)
theorem g9.refine{P:Program}{G:Nat->List Value}{f:FuncId}{S S':Sum}(h:g9 P G f S)
  (hr:∀args blks r,(S' args blks).run=some r->∃ic9,ud2 args ic9/\(S ic9 blks).run=some r):g9 P G f S':=by
 intro args blks r out he W ρ F w args' hH hlen hargs hG;obtain⟨ic9,ha,he2⟩:=hr args blks _ he;refine h ic9 blks r out he2 W ρ F w args' hH (ha.length ▸ hlen) (λi y x' hy hx'=>?_) hG
 obtain⟨x,hx,hle⟩:=ha.get i y hy;exact hle _ _ _ _ _ (hargs i x x' hx hx')
def Mf1(l:List (Nat×Sum)):FuncId->Sum :=
 List.rec (motive:=λ_=>FuncId->Sum) (λ_ _ _=>.fail) (λp _ ih f=>Bool.rec (motive:=λ_=>Sum) (ih f) p.2 (Nat.beq p.1 f)) l
def i9(P:Program)(G:Nat->List Value):List (Nat×Sum)->Prop
 |[]=>True
 |p::l=>g9 P G p.1 p.2/\i9 P G l
theorem Ge9{P:Program}{G:Nat->List Value}:∀{l:List (Nat×Sum)},i9 P G l->∀f,g9 P G f (Mf1 l f)
 |[],_,f=>λargs blks r out h=>by cases h
 |(n,S)::l,h,f=>by
  show g9 P G f (Bool.rec (motive:=λ_=>Sum) (Mf1 l f) S (Nat.beq n f))
  cases hb:Nat.beq n f with
  |false=>exact Ge9 h.2 f
  |true=>rw[<- Qda hb];exact h.1
inductive PS where
 |pc (c:PC)
 |seq (a b:PS)
 |cond (c:Arg) (x y:PS)
 |block (id:Nat) (c:PS)
 |loop (keep:List Nat) (c:PS)
 |sum (S:St->DT (d8×St))
def Vf8(E:Env)(k:Nat)(c:PS):St->DT (d8×St) :=
 PS.rec (motive:=λ_=>St->DT (d8×St))
  (λc=>P0 E k c)
  (λ_ _ x y s=>(x s).bind λr=>d8.rec (motive:=λ_=>DT (d8×St)) (y r.2) (λid=>.ret (.exit id,r.2)) (.ret (.ret,r.2)) r.1)
  (λc _ _ x y s=>match c9 E s.a c with
   |.v (.bool b)=>.ite b (x s) (y s)
   |_=>.fail)
  (λid _ x s=>(x s).bind λr=>d8.rec (motive:=λ_=>DT (d8×St)) (.ret (.normal,r.2))
   (λid'=>Bool.rec (.ret (.exit id',r.2)) (.ret (.normal,r.2)) (Nat.beq id' id)) (.ret (.ret,r.2)) r.1)
  (λkeep _ x=>lc2 (λs=>tidy k ⟨W9 keep s.a 0,s.H⟩) x E.N)
  (λS=>S) c
def ka9{α:Type}(x y:DT α):Prop:=∀r,x.run=some r->y.run=some r
theorem ka9.refl{α:Type}(x:DT α):ka9 x x:=λ_ h=>h
theorem ka9.bind{α β:Type}{x y:DT α}{f g:α->DT β}(h:ka9 x y)(hf:∀a,ka9 (f a) (g a)):ka9 (x.bind f) (y.bind g):=λr hr=>by
 obtain⟨a,h1,h2⟩:=DT.run_bind_some hr;rw[DT.run_bind,h a h1];exact hf a r h2
theorem ka9.ite{α:Type}{b:Bool}{x y x' y':DT α}(h:ka9 x x')(h':ka9 y y'):ka9 (.ite b x y) (.ite b x' y'):=λr hr=>by
 rw[DT.run_ite] at hr ⊢
 split at hr
 ·next hb=>simpa [hb] using h r hr
 ·next hb=>simpa [hb] using h' r hr
theorem ka9.fail{α:Type}(y:DT α):ka9 .fail y:=λ_ h=>by cases h
theorem bc3{head:St->DT St}{body body':St->DT (d8×St)}(h:∀s,ka9 (body s) (body' s)):∀n s,ka9 (lc2 head body n s) (lc2 head body' n s)
 |0,s=>.refl _
 |n+1,s=>by
  show ka9 ((head s).bind λs=>(body s).bind _) ((head s).bind λs=>(body' s).bind _)
  refine ka9.bind (.refl _) λs=>(h s).bind λr=>?_
  rcases r with⟨x,s'⟩
  cases x with
  |normal=>exact bc3 h n s'
  |exit id=>exact .refl _
  |ret=>exact .refl _
inductive ib0 (E:Env) (k:Nat):PS->PC->Prop
 |pc (c:PC):ib0 E k (.pc c) c
 |seq {a b:PS} {a' b':PC} (h:ib0 E k a a') (h':ib0 E k b b'):ib0 E k (.seq a b) (.seq a' b')
 |cond (c:Arg) {a b:PS} {a' b':PC} (h:ib0 E k a a') (h':ib0 E k b b'):ib0 E k (.cond c a b) (.cond c a' b')
 |block (id:Nat) {a:PS} {a':PC} (h:ib0 E k a a'):ib0 E k (.block id a) (.block id a')
 |loop (keep:List Nat) {a:PS} {a':PC} (h:ib0 E k a a'):ib0 E k (.loop keep a) (.loop keep a')
 |sum {S:St->DT (d8×St)} {c:PC} (h:∀s,ka9 (S s) (P0 E k c s)):ib0 E k (.sum S) c
theorem ib0.le{E:Env}{k:Nat}{a:PS}{c:PC}(h:ib0 E k a c):∀s,ka9 (Vf8 E k a s) (P0 E k c s):=by
 induction h with
 |pc c=>exact λs=>.refl _
 |seq h h' ih ih' =>
  intro s;refine (ih s).bind λr=>?_
  rcases r with⟨x,s'⟩
  cases x with
  |normal=>exact ih' s'
  |exit id=>exact .refl _
  |ret=>exact .refl _
 |cond c h h' ih ih' =>
  intro s;show ka9 (match c9 E s.a c with | .v (.bool b)=>_ | _=>_) (match c9 E s.a c with | .v (.bool b)=>_ | _=>_)
  split
  ·exact .ite (ih s) (ih' s)
  ·exact .fail _
 |block id h ih=>exact λs=>(ih s).bind λr=>.refl _
 |loop keep h ih=>exact λs=>bc3 ih _ s
 |sum h=>exact h
def bc4(head:St->DT St)(body:St->DT (d8×St))(s:St):DT (d8×St) :=
 (body s).bind λr=>d8.rec (motive:=λ_=>DT (d8×St)) ((head r.2).bind λs=>.ret (.normal,s)) (λid=>.ret (.exit id,r.2)) (.ret (.ret,r.2)) r.1
def Ic4(head:St->DT St)(body:St->DT (d8×St))(n:Nat)(s:St):DT (d8×St) :=
 (body s).bind λr=>d8.rec (motive:=λ_=>DT (d8×St)) (lc2 head body n r.2) (λid=>.ret (.exit id,r.2)) (.ret (.ret,r.2)) r.1
theorem yc9{head:St->DT St}{body:St->DT (d8×St)}{n:Nat}{s t:St}{r:d8×St}(h:(head s).run=some t)(h2:(Ic4 head body n t).run=some r):(lc2 head body (n+1) s).run=some r:=by
 show ((head s).bind λs=>Ic4 head body n s).run=some r
 rw[DT.run_bind,h];exact h2
theorem uf0{head:St->DT St}{body:St->DT (d8×St)}{n:Nat}{s t:St}{r:d8×St}(h:(bc4 head body s).run=some (.normal,t))(h2:(Ic4 head body n t).run=some r):(Ic4 head body (n+1) s).run=some r:=by
 obtain⟨⟨x,s1⟩,h3,h4⟩:=DT.run_bind_some h;cases x with
 |normal =>
  obtain⟨t',h5,h6⟩:=DT.run_bind_some h4;cases h6;show ((body s).bind _).run=_;rw[DT.run_bind,h3];exact yc9 h5 h2
 |exit id=>cases h4
 |ret=>cases h4
theorem uf1{head:St->DT St}{body:St->DT (d8×St)}{n:Nat}{s t:St}{x:d8}(h:(bc4 head body s).run=some (x,t))(hx:x≠.normal):(Ic4 head body n s).run=some (x,t):=by
 obtain⟨⟨y,s1⟩,h3,h4⟩:=DT.run_bind_some h;cases y with
 |normal =>
  obtain⟨t',h5,h6⟩:=DT.run_bind_some h4;cases h6;exact absurd rfl hx
 |exit id =>
  show ((body s).bind _).run=_;rw[DT.run_bind,h3];exact h4
 |ret =>
  show ((body s).bind _).run=_;rw[DT.run_bind,h3];exact h4
@[reducible] def pc3(k:Nat)(keep:List Nat)(s:St):DT St:=tidy k ⟨W9 keep s.a 0,s.H⟩
theorem Nd3(E:Env)(k:Nat)(keep:List Nat)(c:PC)(s:St):P0 E k (.loop keep c) s=lc2 (pc3 k keep) (P0 E k c) E.N s:=rfl
inductive Sh where
 |unk
 |int
 |bool
 |tree (es:Nat)
 |ptr (id i c g:Nat)
@[reducible] def sel{α:Type}(c:Bool)(t e:α):α:=Bool.rec (motive:=λ_=>α) e t c
theorem ob3{g a:Int}(h:a>0):(Int.tmod g a).toNat<a.toNat:=by
 have:=Int.tmod_lt_of_pos g h
 omega
@[reducible] def i(n:Int):c7:=.v (.int .i64 n)
@[reducible] def b(x:Bool):c7:=.v (.bool x)
def uf2:c7->Option Int
 |.v (.int .i64 n)=>some n
 |_=>none
theorem uf3{x:c7}{n:Int}(h:uf2 x=some n):x=i n:=by
 unfold uf2 at h
 split at h
 ·cases h;rfl
 ·cases h
abbrev W(n:Int):Int:=IntKind.wrap .i64 n
structure Cod(α:Type) where
 enc:α->c7
 dec:c7->Option α
 grd:c7->Bool
 ok:∀x a,dec x=some a->grd x=true->ALe x (enc a)
theorem ALe.of{x y:c7}(h:x=y):ALe x y:=h ▸ .refl x
def cI:Cod Int:=⟨i,uf2,λ_=>true,λ_ _ h _=>.of (uf3 h)⟩
theorem ia7.get{F:Fz}{w:World}{es n:Nat}{get get':Nat->List c7}{v:Value}(h:ia7 F w (.tree es n get) v)(he:∀k,k<n->get' k=get k):ia7 F w (.tree es n get') v:=by
 cases h with
 |tree _ _ _ a cap cs hs hcap hes hF hw hr =>
  refine .tree es n get' a cap cs hs hcap (λi hi=>by rw[he i hi];exact hes i hi) hF hw (λi c hi hc=>?_)
  have e:=he i hi;have hc':c<(get i).length:=by rw[<- e];exact hc
  have:=hr i c hi hc'
  have e2:(get' i)[c]=(get i)[c]:=by congr 1
  rw[e2];exact this
 |nil=>exact .nil _ _
theorem ALe.tree{es n:Nat}{get get':Nat->List c7}(he:∀k,k<n->get' k=get k):ALe (.tree es n get) (.tree es n get'):=λρ H F w v h=>.val (.cell (.mem ((Ca8 h).get he)))
def g3(x y z:Int):Nat->List c7
 |0=>[i x]
 |1=>[i y]
 |_=>[i z]
def uf4:List c7->Option Int
 |[x]=>uf2 x
 |_=>none
def d3(x:c7):Option (Int×Int×Int):=match x with
 |.tree 1 3 get=>Option.rec (motive:=λ_=>Option (Int×Int×Int)) none (λa=>Option.rec (motive:=λ_=>Option (Int×Int×Int)) none (λb=>Option.rec (motive:=λ_=>Option (Int×Int×Int)) none (λc=>some (a,b,c)) (uf4 (get 2))) (uf4 (get 1))) (uf4 (get 0))
 |_=>none
def d1(x:c7):Option Int:=match x with
 |.tree 1 1 get=>uf4 (get 0)
 |_=>none
structure IL where
 n:Nat
 g:Nat->Int
structure LL where
 a:IL
 b:IL
def onO{α:Type}(x:Option α)(k:α->DT (c7×List c8)):DT (c7×List c8):=Option.rec (motive:=λ_=>DT (c7×List c8)) .fail k x
theorem U6{α:Type}{x:Option α}{k:α->DT (c7×List c8)}{r:c7×List c8}(h:(onO x k).run=some r):∃a,x=some a/\(k a).run=some r:=by
 cases x with
 |none=>cases h
 |some a=>exact⟨a,rfl,h⟩
section
variable{α β γ δ:Type}
def ye8(k:DT (c7×List c8)):Sum:=λargs blks=>match args,blks with
 |[],[]=>k
 |_,_=>.fail
def ga4(c:Cod α)(k:α->DT (c7×List c8)):Sum:=λargs blks=>match args,blks with
 |[x],[]=>onO (c.dec x) λa=>.guard (c.grd x) (k a)
 |_,_=>.fail
def Aa5(c:Cod α)(d:Cod β)(k:α->β->DT (c7×List c8)):Sum:=λargs blks=>match args,blks with
 |[x,y],[]=>onO (c.dec x) λa=>onO (d.dec y) λb=>.guard (c.grd x) (.guard (d.grd y) (k a b))
 |_,_=>.fail
def Wd1(c:Cod α)(d:Cod β)(e:Cod γ)(k:α->β->γ->DT (c7×List c8)):Sum:=λargs blks=>match args,blks with
 |[x,y,z],[]=>onO (c.dec x) λa=>onO (d.dec y) λb=>onO (e.dec z) λg=>.guard (c.grd x) (.guard (d.grd y) (.guard (e.grd z) (k a b g)))
 |_,_=>.fail
def Re0(c:Cod α)(d:Cod β)(e:Cod γ)(f:Cod δ)(k:α->β->γ->δ->DT (c7×List c8)):Sum:=λargs blks=>match args,blks with
 |[x,y,z,w],[]=>onO (c.dec x) λa=>onO (d.dec y) λb=>onO (e.dec z) λg=>onO (f.dec w) λj=>.guard (c.grd x) (.guard (d.grd y) (.guard (e.grd z) (.guard (f.grd w) (k a b g j))))
 |_,_=>.fail
variable{P:Program}{G:Nat->List Value}{f:FuncId}{R:Sum}{c:Cod α}{d:Cod β}{e:Cod γ}{c4:Cod δ}
theorem g9.le{S':Sum}(h:g9 P G f R)(hr:∀args blks r,(S' args blks).run=some r->(R args blks).run=some r):g9 P G f S' :=
 h.refine λargs blks r hh=>⟨args,.refl _,hr args blks r hh⟩
theorem uf5{k}(hb:g9 P G f R)(h:∀r,k.run=some r->(R [] []).run=some r):g9 P G f (ye8 k):=hb.le λargs blks r hr=>by
 unfold ye8 at hr
 split at hr
 ·exact h r hr
 ·cases hr
theorem ib1{k:α->_}(hb:g9 P G f R)(h:∀a r,(k a).run=some r->(R [c.enc a] []).run=some r):g9 P G f (ga4 c k):=hb.refine λargs blks r hr=>by
 unfold ga4 at hr
 split at hr
 ·obtain⟨a,h1,hr⟩:=U6 hr;obtain⟨g1,hr⟩:=DT.run_guard_some hr;exact⟨_,.cons (c.ok _ a h1 g1) .nil,h a r hr⟩
 ·cases hr
theorem Oa1{k:α->β->_}(hb:g9 P G f R)(h:∀a b r,(k a b).run=some r->(R [c.enc a,d.enc b] []).run=some r):g9 P G f (Aa5 c d k):=hb.refine λargs blks r hr=>by
 unfold Aa5 at hr
 split at hr
 ·obtain⟨a,h1,hr⟩:=U6 hr;obtain⟨b,h2,hr⟩:=U6 hr;obtain⟨g1,hr⟩:=DT.run_guard_some hr;obtain⟨g2,hr⟩:=DT.run_guard_some hr;exact⟨_,.cons (c.ok _ a h1 g1) (.cons (d.ok _ b h2 g2) .nil),h a b r hr⟩
 ·cases hr
theorem uf6{k:α->β->γ->_}(hb:g9 P G f R)(h:∀a b g r,(k a b g).run=some r->(R [c.enc a,d.enc b,e.enc g] []).run=some r):g9 P G f (Wd1 c d e k):=hb.refine λargs blks r hr=>by
 unfold Wd1 at hr
 split at hr
 ·obtain⟨a,h1,hr⟩:=U6 hr;obtain⟨b,h2,hr⟩:=U6 hr;obtain⟨g,h3,hr⟩:=U6 hr;obtain⟨g1,hr⟩:=DT.run_guard_some hr;obtain⟨g2,hr⟩:=DT.run_guard_some hr;obtain⟨g3,hr⟩:=DT.run_guard_some hr;exact⟨_,.cons (c.ok _ a h1 g1) (.cons (d.ok _ b h2 g2) (.cons (e.ok _ g h3 g3) .nil)),h a b g r hr⟩
 ·cases hr
theorem uf7{k:α->β->γ->δ->_}(hb:g9 P G f R)(h:∀a b g j r,(k a b g j).run=some r->(R [c.enc a,d.enc b,e.enc g,c4.enc j] []).run=some r):g9 P G f (Re0 c d e c4 k):=hb.refine λargs blks r hr=>by
 unfold Re0 at hr
 split at hr
 ·obtain⟨a,h1,hr⟩:=U6 hr;obtain⟨b,h2,hr⟩:=U6 hr;obtain⟨g,h3,hr⟩:=U6 hr;obtain⟨j,h4,hr⟩:=U6 hr;obtain⟨g1,hr⟩:=DT.run_guard_some hr;obtain⟨g2,hr⟩:=DT.run_guard_some hr;obtain⟨g3,hr⟩:=DT.run_guard_some hr;obtain⟨g4,hr⟩:=DT.run_guard_some hr;exact⟨_,.cons (c.ok _ a h1 g1) (.cons (d.ok _ b h2 g2) (.cons (e.ok _ g h3 g3) (.cons (c4.ok _ j h4 g4) .nil))),h a b g j r hr⟩
 ·cases hr
end
inductive Stp (σ:Type) where
 |fail
 |next (s:σ)
 |exit (t:Nat)
@[reducible] def pc4{σ α:Type}(f:σ->α)(x:Nat->α)(z:α)(r:Stp σ):α:=Stp.rec (motive:=λ_=>α) z f x r
def lp0{σ:Type}(step:σ->Stp σ)(n:Nat):σ->Nat×σ :=
 Nat.rec (motive:=λ_=>σ->Nat×σ) (λs=>pc4 (λ_=>(0,s)) (λt=>(t,s)) (0,s) (step s))
  (λ_ ih s=>pc4 (λs'=>ih s') (λt=>(t,s)) (0,s) (step s)) n
def lpS:{ f:(σ:Type)->(σ->Stp σ)->Nat->σ->Nat×σ // f=λ_=>lp0 }:=Classical.choice ⟨⟨_,rfl⟩⟩
def rounds:Nat:=18446744073709551615
def lp{σ:Type}(step:σ->Stp σ)(s:σ):Nat×σ:=lpS.1 σ step rounds s
theorem bf1{σ:Type}(step:σ->Stp σ)(s:σ):lp step s=lp0 step rounds s:=by
 unfold lp;rw[lpS.2]
theorem je4{σ:Type}{step:σ->Stp σ}{n:Nat}{s s':σ}(h:step s=.next s'):lp0 step (n+1) s=lp0 step n s':=by
 show pc4 (λs'=>lp0 step n s') _ _ (step s)=_
 rw[h]
theorem ud3{σ:Type}{step:σ->Stp σ}{n t:Nat}{s:σ}(h:step s=.exit t):lp0 step n s=(t,s):=by
 cases n with
 |zero=>show pc4 _ _ _ (step s)=_;rw[h]
 |succ n=>show pc4 _ _ _ (step s)=_;rw[h]
inductive Sk where
 |unk
 |u
 |nil
 |bool
 |int (k:IntKind)
 |lit (k:IntKind) (n:Int)
 |blit (x:Bool)
 |tree (es:Nat)
 |ptr (id i c g:Nat)
 |sl (id g:Nat) (off n:Option Nat)
 |fn (f:Nat)
 |val
def toV:c7->Value
 |.v x=>x
 |_=>.tuple #[]
def oa2:c7->ByteArray
 |.v (.string s)=>s
 |_=>⟨#[]⟩
def slO:c7->Nat
 |.sl _ off _ _=>off
 |_=>0
def slN:c7->Nat
 |.sl _ _ n _=>n
 |_=>0
@[reducible] def oN(o:Option Nat)(x:Nat):Nat:=Option.rec (motive:=λ_=>Nat) x (λy=>y) o
@[reducible] def okN(o:Option Nat)(x:Nat):Bool:=Option.rec (motive:=λ_=>Bool) true (λy=>Nat.beq y x) o
def uf8:Sk->c7->Bool
 |.unk,.unk=>true
 |.u,.v (.tuple a)=>List.rec (motive:=λ_=>Bool) true (λ_ _ _=>false) a.toList
 |.nil,.v (.slice none 0 0)=>true
 |.bool,.v (.bool _)=>true
 |.int k,.v (.int k' _)=>decide (k=k')
 |.lit k n,.v (.int k' m)=>Bool.and (decide (k=k')) (decide (n=m))
 |.blit x,.v (.bool y)=>Bool.rec (!y) y x
 |.tree es,.tree es' _ _=>Nat.beq es es'
 |.ptr id i c g,.ptr id' i' c' g'=>Bool.and (Bool.and (Nat.beq id id') (Nat.beq i i')) (Bool.and (Nat.beq c c') (Nat.beq g g'))
 |.sl id g off n,.sl id' off' n' g'=>Bool.and (Bool.and (Nat.beq id id') (Nat.beq g g')) (Bool.and (okN off off') (okN n n'))
 |.fn f,.fn f' []=>Nat.beq f f'
 |.val,.v (.string _)=>true
 |_,_=>false
def Mf2:Sk->c7->c7
 |.unk,_=>.unk
 |.u,_=>.v (.tuple #[])
 |.nil,_=>.v (.slice none 0 0)
 |.bool,x=>.v (.bool (toB x))
 |.int k,x=>.v (.int k (toI x))
 |.lit k n,_=>.v (.int k n)
 |.blit y,_=>.v (.bool y)
 |.tree es,x=>.tree es (toN x) (toG x)
 |.ptr id i c g,_=>.ptr id i c g
 |.sl id g off n,x=>.sl id (oN off (slO x)) (oN n (slN x)) g
 |.fn f,_=>.fn f []
 |.val,x=>.v (.string (oa2 x))
theorem Ff9{o:Option Nat}{x:Nat}(h:okN o x=true):oN o x=x:=by
 cases o with
 |none=>rfl
 |some y=>exact Qda h
theorem He0{k:Sk}{x:c7}(h:uf8 k x=true):x=Mf2 k x:=by
 unfold uf8 at h
 split at h<;>first | rfl | (cases h;done) | skip
 ·rename_i a;obtain⟨l⟩:=a;cases l with
  |nil=>rfl
  |cons=>cases h
 ·rw[of_decide_eq_true h];rfl
 ·simp only[Qdb,decide_eq_true_eq] at h;rw[h.1,h.2];rfl
 ·rename_i a c;cases a<;>cases c<;>first | rfl | cases h
 ·rw[Qda h];rfl
 ·simp only[Qdb] at h;obtain⟨⟨h1,h2⟩,h3,h4⟩:=h;rw[Qda h1,Qda h2,Qda h3,Qda h4];rfl
 ·rename_i id g off n id' off' n' g';simp only[Qdb] at h;obtain⟨⟨h1,h2⟩,h3,h4⟩:=h;rw[<- Qda h1,<- Qda h2];show c7.sl id off' n' g=.sl id (oN off off') (oN n n') g;rw[Ff9 h3,Ff9 h4]
 ·rw[Qda h];rfl
inductive Sl where
 |s (k:Sk)
 |agg (l:List Sk)
 |tup (l:List Sk)
 |fn (f:Nat) (l:List Sk)
def cellsOf:c7->List c7
 |.agg l=>l
 |.tup l=>l
 |.fn _ l=>l
 |_=>[]
@[reducible] def hdR(l:List (List c7)):List c7:=List.rec (motive:=λ_=>List c7) [] (λx _ _=>x) l
@[reducible] def tlR(l:List (List c7)):List (List c7):=List.rec (motive:=λ_=>List (List c7)) [] (λ_ r _=>r) l
structure Bk where
 et:Nat
 es:Nat
 own:Bool
 rows:Option (List (List Sk))
@[reducible] def eqB(a c:Bool):Bool:=Bool.rec (!c) c a
@[reducible] def hdB(l:List c8):List (List c7):=List.rec (motive:=λ_=>List (List c7)) [] (λx _ _=>x.elems) l
@[reducible] def tlB(l:List c8):List c8:=List.rec (motive:=λ_=>List c8) [] (λ_ r _=>r) l
inductive ib2 {α:Type} (P:α->Prop):List α->Prop
 |nil:ib2 P []
 |cons {x:α} {l:List α} (h:P x) (t:ib2 P l):ib2 P (x::l)
theorem ib2.mem{α:Type}{P:α->Prop}{l:List α}(h:ib2 P l):∀x,x∈l->P x:=by
 induction h with
 |nil=>intro x h;cases h
 |cons h t ih =>
  intro x hx;cases hx with
  |head=>exact h
  |tail _ hx=>exact ih x hx
structure Alt(π σ:Type) where
 sh:List Sl
 bl:List Bk
 rd:List c7->List c8->π×σ
def ra(n:Nat)(l:List c7):List c7:=Nat.rec (motive:=λ_=>List c7) l (λ_ ih=>.unk::ih) n
def Mf3(k:Nat)(res:List Wc4)(s:St):DT (c7×List c8) :=
 match tb0 (xb1 s.a s.H) res with
 |some l=>oc1 k s.H (Rb6 l)
 |none=>.fail
def cut(k:Nat)(res:List Wc4)(r:d8×St):DT (d8×St) :=
 d8.rec (motive:=λ_=>DT (d8×St)) (.ret (.normal,r.2)) (λid=>.ret (.exit id,r.2)) ((Mf3 k res r.2).bind λq=>.ret (.ret,⟨[q.1],q.2⟩)) r.1
def He1(E:Env)(k:Nat)(res:List Wc4)(c:PS):St->DT (d8×St) :=
 PS.rec (motive:=λ_=>St->DT (d8×St))
  (λc s=>(P0 E k c s).bind (cut k res))
  (λ_ _ x y s=>(x s).bind λr=>d8.rec (motive:=λ_=>DT (d8×St)) (y r.2) (λid=>.ret (.exit id,r.2)) (.ret (.ret,r.2)) r.1)
  (λc _ _ x y s=>match c9 E s.a c with
   |.v (.bool b)=>.ite b (x s) (y s)
   |_=>.fail)
  (λid _ x s=>(x s).bind λr=>d8.rec (motive:=λ_=>DT (d8×St)) (.ret (.normal,r.2))
   (λid'=>Bool.rec (.ret (.exit id',r.2)) (.ret (.normal,r.2)) (Nat.beq id' id)) (.ret (.ret,r.2)) r.1)
  (λkeep _ x=>lc2 (λs=>tidy k ⟨W9 keep s.a 0,s.H⟩) x E.N)
  (λS=>S) c
section
variable{k:Nat}{res:List Wc4}
inductive FR (k:Nat) (res:List Wc4):d8×St->d8×St->Prop
 |same (x:d8) (s:St) (h:x≠.ret):FR k res (x,s) (x,s)
 |ret (s:St) (q:c7×List c8) (h:(Mf3 k res s).run=some q):FR k res (.ret,⟨[q.1],q.2⟩) (.ret,s)
def qa8(k:Nat)(res:List Wc4)(x y:DT (d8×St)):Prop:=∀r,x.run=some r->∃r',y.run=some r'/\FR k res r r'
theorem qa8.bind{x y:DT (d8×St)}{f g:d8×St->DT (d8×St)}(h:qa8 k res x y)(hf:∀r r',FR k res r r'->qa8 k res (f r) (g r')):qa8 k res (x.bind f) (y.bind g):=λr hr=>by
 obtain⟨a,h1,h2⟩:=DT.run_bind_some hr;obtain⟨a',h3,h4⟩:=h a h1;obtain⟨r',h5,h6⟩:=hf a a' h4 r h2;exact⟨r',by rw[DT.run_bind,h3];exact h5,h6⟩
theorem qa8.ite{b:Bool}{x y x' y':DT (d8×St)}(h:qa8 k res x x')(h':qa8 k res y y'):qa8 k res (.ite b x y) (.ite b x' y'):=λr hr=>by
 rw[DT.run_ite] at hr;rw[DT.run_ite]
 split at hr
 ·next hb=>simpa [hb] using h r hr
 ·next hb=>simpa [hb] using h' r hr
theorem qa8.one{r r':d8×St}(h:FR k res r r'):qa8 k res (.ret r) (.ret r'):=λa ha=>by
 cases ha;exact⟨r',rfl,h⟩
theorem qa8.cut(x:DT (d8×St)):qa8 k res (x.bind (cut k res)) x:=λr hr=>by
 obtain⟨⟨a,s⟩,h1,h2⟩:=DT.run_bind_some hr;refine⟨(a,s),h1,?_⟩;cases a with
 |normal=>cases h2;exact .same _ _ (λh=>by cases h)
 |exit id=>cases h2;exact .same _ _ (λh=>by cases h)
 |ret =>
  obtain⟨q,h3,h4⟩:=DT.run_bind_some h2;cases h4;exact .ret s q h3
theorem pc5{head:St->DT St}{body body':St->DT (d8×St)}(h:∀s,qa8 k res (body s) (body' s)):∀n s,qa8 k res (lc2 head body n s) (lc2 head body' n s)
 |0,s=>λr hr=>by cases hr
 |n+1,s=>by
  intro r hr;obtain⟨t,h1,h2⟩:=DT.run_bind_some hr
  have:qa8 k res ((body t).bind λr=>d8.rec (motive:=λ_=>DT (d8×St)) (lc2 head body n r.2) (λid=>.ret (.exit id,r.2)) (.ret (.ret,r.2)) r.1) ((body' t).bind λr=>d8.rec (motive:=λ_=>DT (d8×St)) (lc2 head body' n r.2) (λid=>.ret (.exit id,r.2)) (.ret (.ret,r.2)) r.1):=by
   refine (h t).bind λa a' ha=>?_
   cases ha with
   |same x s hx =>
    cases x with
    |normal=>exact pc5 h n s
    |exit id=>exact .one (.same _ _ hx)
    |ret=>exact absurd rfl hx
   |ret s q hq=>exact .one (.ret s q hq)
  obtain⟨r',h3,h4⟩:=this r h2;refine⟨r',?_,h4⟩;show ((head s).bind λs=>(body' s).bind _).run=_
  rw[DT.run_bind,h1];exact h3
inductive xa5 (E:Env) (k:Nat) (res:List Wc4):PS->PC->Prop
 |pc (c:PC):xa5 E k res (.pc c) c
 |seq {a b:PS} {a' b':PC} (h:xa5 E k res a a') (h':xa5 E k res b b'):xa5 E k res (.seq a b) (.seq a' b')
 |cond (c:Arg) {a b:PS} {a' b':PC} (h:xa5 E k res a a') (h':xa5 E k res b b'):xa5 E k res (.cond c a b) (.cond c a' b')
 |block (id:Nat) {a:PS} {a':PC} (h:xa5 E k res a a'):xa5 E k res (.block id a) (.block id a')
 |loop (keep:List Nat) {a:PS} {a':PC} (h:xa5 E k res a a'):xa5 E k res (.loop keep a) (.loop keep a')
 |sum {S:St->DT (d8×St)} {c:PC} (h:∀s,qa8 k res (S s) (P0 E k c s)):xa5 E k res (.sum S) c
theorem xa5.le{E:Env}{a:PS}{c:PC}(h:xa5 E k res a c):∀s,qa8 k res (He1 E k res a s) (P0 E k c s):=by
 induction h with
 |pc c=>exact λs=>.cut _
 |seq h h' ih ih' =>
  intro s;refine (ih s).bind λr r' hr=>?_
  cases hr with
  |same x s hx =>
   cases x with
   |normal=>exact ih' s
   |exit id=>exact .one (.same _ _ hx)
   |ret=>exact absurd rfl hx
  |ret s q hq=>exact .one (.ret s q hq)
 |cond c h h' ih ih' =>
  intro s;show qa8 k res (match c9 E s.a c with | .v (.bool b)=>_ | _=>_) (match c9 E s.a c with | .v (.bool b)=>_ | _=>_)
  split
  ·exact .ite (ih s) (ih' s)
  ·exact λr hr=>by cases hr
 |block id h ih =>
  intro s;refine (ih s).bind λr r' hr=>?_
  cases hr with
  |same x s hx =>
   cases x with
   |normal=>exact .one (.same _ _ λh=>by cases h)
   |exit id' =>
    show qa8 k res (Bool.rec (.ret (.exit id',s)) (.ret (.normal,s)) (Nat.beq id' id)) (Bool.rec (.ret (.exit id',s)) (.ret (.normal,s)) (Nat.beq id' id));cases Nat.beq id' id with
    |false=>exact .one (.same _ _ hx)
    |true=>exact .one (.same _ _ λh=>by cases h)
   |ret=>exact absurd rfl hx
  |ret s q hq=>exact .one (.ret s q hq)
 |loop keep h ih=>exact λs=>pc5 ih _ s
 |sum h=>exact h
end
def Vf9(E:Env)(fn:PFn)(body:PS)(args:List c7)(blks:List c8):DT (c7×List c8) :=
 (He1 E (len blks) fn.res body ⟨app args (List.replicate (fn.ntmps-len args) (.v (.tuple #[]))),blks⟩).bind λr =>
  d8.rec (motive:=λ_=>DT (c7×List c8)) (Mf3 (len blks) fn.res r.2) (λ_=>.fail) (.ret (hdA r.2.a,r.2.H)) r.1
theorem ye9{E:Env}{fn:PFn}{body:PS}{args:List c7}{blks:List c8}(h:xa5 E (len blks) fn.res body fn.body):ka9 (Vf9 E fn body args blks) (Wb0 E fn args blks):=λr hr=>by
 obtain⟨a,h1,h2⟩:=DT.run_bind_some hr;obtain⟨a',h3,h4⟩:=h.le _ a h1;show ((P0 E (len blks) fn.body _).bind _).run=_;rw[DT.run_bind,h3];cases h4 with
 |same x s hx =>
  cases x with
  |normal=>exact h2
  |exit id=>cases h2
  |ret=>exact absurd rfl hx
 |ret s q hq =>
  cases h2;exact hq
theorem ALe.nilTree(es:Nat)(get:Nat->List c7):ALe (.v (.slice none 0 0)) (.tree es 0 get):=λρ H F w v h=>by
 have:=ga5 h
 subst this;exact .val (.cell (.mem (.nil es get)))
theorem ALe.emptyTree(es:Nat)(get:Nat->List c7)(a:Addr)(c:Nat):ALe (.v (.slice (some a) 0 c)) (.tree es 0 get):=λρ H F w v h=>by
 have:=ga5 h
 subst this;exact .val (.cell (.mem (.tree es 0 get a c (λ_ _=>.tuple #[]) (λh=>absurd h (by omega)) (Nat.zero_le _) (λi h=>absurd h (by omega)) (λi c h=>absurd h (by omega)) (λi c h=>absurd h (by omega)) (λi c h=>absurd h (by omega)))))
section
variable{α:Type}{row:α->List c7}{isr:List c7->Bool}{rd:List c7->α}{d:α}
theorem bf2{β:Type}(f:α->β)(l:List α):len (o7 f l)=l.length:=by rw[n9,l9,List.length_map]
theorem fd3(row:α->List c7)(d:α){l:List α}{k:Nat}(h:k<l.length):d9 (o7 row l) k=row (l.getD k d):=by
 unfold d9;rw[E2,l9,Qde,Qdg,Qdc h];rfl
theorem bf3(row:α->List c7)(l r:List α):app (o7 row l) (o7 row r)=o7 row (l++r):=by
 rw[I5,l9,l9,l9,List.map_append]
theorem ud4(row:α->List c7)(l:List α)(k:Nat)(x:α):setAt (o7 row l) k (row x)=o7 row (l.set k x):=by
 rw[E3,l9,l9,List.map_set]
end
section
variable{α β γ δ ε ζ:Type}
variable{P:Program}{G:Nat->List Value}{f:FuncId}{R:Sum}{c:Cod α}{d:Cod β}{e:Cod γ}{c4:Cod δ}{c5:Cod ε}{c6:Cod ζ}
end
section
variable{W:Nat->Prop}{ρ:Rho}{H H':List c8}{F:Fz}{w:World}
def Ga1(H:List c8):c7->Option (c7×List c8)
 |.agg cs=>match freezeCells H cs with
  |some (zs,H')=>some (.agg zs,H')
  |none=>none
 |x=>freezeCell H x
theorem ud5(hH:F5 W ρ H F w){y z:c7}{y':Value}(hy:qa6 ρ H F w y y')(he:Ga1 H y=some (z,H')) :
  ∃F',Adv W ρ H F w ρ H' F' w/\F5 W ρ H' F' w/\∀ρ2 H2 F2,(∀b o,F' b o->F2 b o)->qa6 ρ2 H2 F2 w z y':=by
 have cell:∀{y:c7},ga3 ρ H F w y y'->freezeCell H y=some (z,H')->∃F',Adv W ρ H F w ρ H' F' w/\F5 W ρ H' F' w/\∀ρ2 H2 F2,(∀b o,F' b o->F2 b o)->qa6 ρ2 H2 F2 w z y':=λ{y} hy he=>by
  obtain⟨F',h1,h2,h3,_⟩:=Dc9 hH hy he;exact⟨F',h1,h2,λρ2 H2 F2 hF=>.cell (.mem (h3.adv hF λ_ _ _=>rfl))⟩
 cases y with
 |agg cs =>
  simp only[Ga1] at he;cases hf:freezeCells H cs with
  |none=>rw[hf] at he;cases he
  |some q =>
   obtain⟨zs,H1⟩:=q;rw[hf] at he;have he:some (c7.agg zs,H1)=some (z,H'):=he;injection he with he;injection he with e1 e2
   subst e1 e2;obtain⟨vs,rfl,hl,hr⟩:=Ga0 (.val hy);obtain⟨F',h1,h2,h3,h4,_⟩:=Gb2 hH (vs:=vs.toList) (by simpa using hl) (λi y y' h h'=>hr i y y' h (by simpa using h')) hf
   refine⟨F',h1,h2,λρ2 H2 F2 hF=>.agg _ _ (by simpa [h3] using hl) λi x x' hx hx'=>.mem ((h4 i x x' hx (by simpa using hx')).adv hF λ_ _ _=>rfl)⟩
 |v u=>cases hy with | cell h=>exact cell h he
 |tree es n get=>cases hy with | cell h=>exact cell h he
 |sl id off n g=>cases hy with | cell h=>exact cell h he
 |ptr id i c g=>cases he
 |tptr cs=>cases he
 |unk=>cases he
 |tup l=>cases he
 |fn f caps =>
  cases hy with
  |cell h=>exact cell h he
  |fn f caps vs hl h =>
   have he':freezeCell H (.fn f caps)=some (z,H'):=he;simp only[freezeCell] at he';cases hb:Oa9 nc5 caps with
   |false=>simp[hb] at he'
   |true =>
    simp only[hb] at he';injection he' with he';injection he' with e1 e2
    subst e1 e2;have hm:=Ge5 (f:=f) hl h hb;exact⟨F,.refl,hH,λρ2 H2 F2 hF=>.cell (.mem (hm.adv hF λ_ _ _=>rfl))⟩
def Gb8(H:List c8):List c7->Option (List c7×List c8)
 |[]=>some ([],H)
 |x::r=>match Ga1 H x with
  |some (y,H1)=>match Gb8 H1 r with
   |some (l,H2)=>some (y::l,H2)
   |none=>none
  |none=>none
theorem fd4:∀{ys zs:List c7} {vs:List Value} {H H':List c8} {F:Fz},F5 W ρ H F w->ys.length=vs.length->(∀(i:Nat) y y',ys[i]?=some y->vs[i]?=some y'->qa6 ρ H F w y y')->Gb8 H ys=some (zs,H') ->
  ∃F',Adv W ρ H F w ρ H' F' w/\F5 W ρ H' F' w/\zs.length=ys.length/\∀(i:Nat) z y',zs[i]?=some z->vs[i]?=some y'->∀ρ2 H2 F2,(∀b o,F' b o->F2 b o)->qa6 ρ2 H2 F2 w z y'
 |[],zs,vs,H,H',F,hH,hl,hy,he=>by
  injection he with he;injection he with e1 e2
  subst e1 e2;exact⟨F,.refl,hH,rfl,λi z y' h=>by simp at h⟩
 |y::r,zs,[],H,H',F,hH,hl,hy,he=>by simp at hl
 |y::r,zs,v::vs,H,H',F,hH,hl,hy,he=>by
  simp only[Gb8] at he;cases h1:Ga1 H y with
  |none=>rw[h1] at he;cases he
  |some q =>
  obtain⟨z,H1⟩:=q;rw[h1] at he;cases h2:Gb8 H1 r with
  |none=>simp only[h2] at he;cases he
  |some q2 =>
  obtain⟨zs2,H2⟩:=q2;simp only[h2] at he;injection he with he;injection he with e1 e2
  subst e1 e2;obtain⟨F1,a1,a2,a3⟩:=ud5 hH (hy 0 y v rfl rfl) h1;obtain⟨F2,b1,b2,b3,b4⟩:=fd4 (ys:=r) (vs:=vs) a2 (by simpa using hl) (λi y y' hy1 hy2=>(hy (i+1) y y' (by simpa using hy1) (by simpa using hy2)).adv a1) h2
  refine⟨F2,a1.trans b1,b2,by simp[b3],λi z' y' hz hy'=>?_⟩
  cases i with
  |zero =>
   simp at hz hy'
   subst hz hy';exact λρ3 H3 F3 hF=>a3 ρ3 H3 F3 λb o hb=>hF b o (b1.more b o hb)
  |succ i=>exact b4 i z' y' (by simpa using hz) (by simpa using hy')
def Xc4(H:List c8):c7->Option c7
 |.tup l=>match Gb8 H l with
  |some (zs,_)=>some (.tup zs)
  |none=>none
 |x=>match Ga1 H x with
  |some (z,_)=>some z
  |none=>none
theorem F5.less(hH:F5 W ρ H F w):F5 W ρ [] F w:=⟨λid b h=>by simp at h,λid id' b b' h=>by simp at h,hH.frz,hH.new⟩
theorem Adv.less{ρ':Rho}{F':Fz}{w':World}(h:Adv W ρ [] F w ρ' H' F' w'):Adv W ρ [] F w ρ' [] F' w' :=
 ⟨h.ext,λid b hb=>by simp at hb,h.more,h.new,λid b hb=>by simp at hb⟩
theorem Re1{out:List c8}{x z:c7}{x':Value}{w':World}(hp:S4 W ρ [] F w x out x' w')(he:Xc4 out x=some z):S4 W ρ [] F w z [] x' w':=by
 obtain⟨ρ',F',h1,h2,h3⟩:=hp;have one:∀{y:c7},qa6 ρ' out F' w' y x'->(match Ga1 out y with | some (z,_)=>some z | none=>none)=some z->S4 W ρ [] F w z [] x' w':=λ{y} hy he=>by
  cases hf:Ga1 out y with
  |none=>rw[hf] at he;cases he
  |some q =>
   obtain⟨z1,H1⟩:=q;rw[hf] at he;have he:some z1=some z:=he;injection he with he;subst he;obtain⟨F2,a1,a2,a3⟩:=ud5 h2 hy hf;exact⟨ρ',F2,(h1.trans a1).less,a2.less,.val (a3 _ _ _ λ_ _ h=>h)⟩
 cases h3 with
 |val h =>
  cases x with
  |tup l=>cases h with | cell h=>cases h with | mem h=>cases h
  |_=>exact one h he
 |tup xs vs hl h =>
  simp only[Xc4] at he;cases hf:Gb8 out xs with
  |none=>rw[hf] at he;cases he
  |some q =>
   obtain⟨zs,H1⟩:=q;rw[hf] at he;have he:some (c7.tup zs)=some z:=he;injection he with he;subst he;obtain⟨F2,a1,a2,a3,a4⟩:=fd4 (vs:=vs.toList) h2 (by simpa using hl) (λi y y' hy hy'=>h i y y' hy (by simpa using hy')) hf
   exact⟨ρ',F2,(h1.trans a1).less,a2.less,.tup _ _ (by simpa [a3] using hl) λi x x' hx hx'=>a4 i x x' hx (by simpa using hx') _ _ _ λ_ _ h=>h⟩
theorem S4.le{out:List c8}{x y:c7}{x':Value}{w':World}(hp:S4 W ρ H F w x out x' w')(h:ALe x y):S4 W ρ H F w y out x' w':=by
 obtain⟨ρ',F',h1,h2,h3⟩:=hp;exact⟨ρ',F',h1,h2,h _ _ _ _ _ h3⟩
end
def ud6(x:c7)(out:List c8)(y:c7):Prop:=∃z,Xc4 out x=some z/\ALe z y
theorem g9.conv{P:Program}{G:Nat->List Value}{f:FuncId}{S S':Sum}(h:g9 P G f S)
  (hr:∀args blks y out,(S' args blks).run=some (y,out)->blks=[]/\out=[]/\∃x o,(S args []).run=some (x,o)/\ud6 x o y):g9 P G f S':=by
 intro args blks y out he W ρ F w args' hH hlen hargs hG;obtain⟨rfl,rfl,x,o,h1,z,h2,h3⟩:=hr args blks y out he;obtain⟨h4,h5⟩:=h args [] x o h1 W ρ F w args' hH hlen hargs hG;exact⟨h4,h5.mono λe w' ⟨r',h6,h7⟩=>⟨r',h6,(Re1 h7 h2).le h3⟩⟩
section
variable{α β γ:Type}{P:Program}{G:Nat->List Value}{f:FuncId}{c:Cod α}{d:Cod β}{e:Cod γ}
theorem Re2{k k':DT (c7×List c8)}(h:g9 P G f (ye8 k))(hk:∀y out,k'.run=some (y,out)->out=[]/\∃x o,k.run=some (x,o)/\ud6 x o y):g9 P G f (ye8 k'):=h.conv λargs blks y out hr=>by
 unfold ye8 at hr
 split at hr
 ·obtain⟨e1,e2⟩:=hk y out hr;exact⟨rfl,e1,e2⟩
 ·cases hr
theorem Re3{k k':α->DT (c7×List c8)}(h:g9 P G f (ga4 c k))(hk:∀a y out,(k' a).run=some (y,out)->out=[]/\∃x o,(k a).run=some (x,o)/\ud6 x o y):g9 P G f (ga4 c k'):=h.conv λargs blks y out hr=>by
 unfold ga4 at hr
 split at hr
 ·obtain⟨a,h1,hr⟩:=U6 hr;obtain⟨g1,hr⟩:=DT.run_guard_some hr;obtain⟨e1,x,o,e2,e3⟩:=hk a y out hr;refine⟨rfl,e1,x,o,?_,e3⟩;simp only[ga4,h1,onO,g1];exact e2
 ·cases hr
theorem Re4{k k':α->β->DT (c7×List c8)}(h:g9 P G f (Aa5 c d k))(hk:∀a b y out,(k' a b).run=some (y,out)->out=[]/\∃x o,(k a b).run=some (x,o)/\ud6 x o y):g9 P G f (Aa5 c d k'):=h.conv λargs blks y out hr=>by
 unfold Aa5 at hr
 split at hr
 ·obtain⟨a,h1,hr⟩:=U6 hr;obtain⟨b,h2,hr⟩:=U6 hr;obtain⟨g1,hr⟩:=DT.run_guard_some hr;obtain⟨g2,hr⟩:=DT.run_guard_some hr;obtain⟨e1,x,o,e2,e3⟩:=hk a b y out hr;refine⟨rfl,e1,x,o,?_,e3⟩;simp only[Aa5,h1,h2,onO,g1,g2];exact e2
 ·cases hr
theorem Re5{k k':α->β->γ->DT (c7×List c8)}(h:g9 P G f (Wd1 c d e k))(hk:∀a b g y out,(k' a b g).run=some (y,out)->out=[]/\∃x o,(k a b g).run=some (x,o)/\ud6 x o y):g9 P G f (Wd1 c d e k'):=h.conv λargs blks y out hr=>by
 unfold Wd1 at hr
 split at hr
 ·obtain⟨a,h1,hr⟩:=U6 hr;obtain⟨b,h2,hr⟩:=U6 hr;obtain⟨g,h3,hr⟩:=U6 hr;obtain⟨g1,hr⟩:=DT.run_guard_some hr;obtain⟨g2,hr⟩:=DT.run_guard_some hr;obtain⟨g3,hr⟩:=DT.run_guard_some hr;obtain⟨e1,x,o,e2,e3⟩:=hk a b g y out hr;refine⟨rfl,e1,x,o,?_,e3⟩;simp only[Wd1,h1,h2,h3,onO,g1,g2,g3];exact e2
 ·cases hr
end
theorem ALe.tup{xs ys:List c7}(hl:xs.length=ys.length)(h:∀(i:Nat) x y,xs[i]?=some x->ys[i]?=some y->∀ρ H F w v,qa6 ρ H F w x v->qa6 ρ H F w y v):ALe (.tup xs) (.tup ys):=λρ H F w v hv=>by
 cases hv with
 |val hv=>cases hv with | cell hv=>cases hv with | mem hv=>cases hv
 |tup _ vs hl2 hv =>
  refine .tup _ _ (hl ▸ hl2) λi y v' hy hv'=>?_
  have hi:i<xs.length:=by
   have:=(Qdd.1 hy).1
   omega
  exact h i _ y (Qdc hi) hy ρ H F w v' (hv i _ v' (Qdc hi) hv')
theorem qa6.treeLe{es n:Nat}{get get':Nat->List c7}(he:∀k,k<n->get' k=get k){ρ:Rho}{H:List c8}{F:Fz}{w:World}{v:Value}(h:qa6 ρ H F w (.tree es n get) v):qa6 ρ H F w (.tree es n get') v :=
 .cell (.mem ((Ca8 (.val h)).get he))
end Go.Ev
namespace Go.Ev.L
open Go Go.Ev
def cl(p:Prop):Bool:=@decide p (Classical.propDecidable p)
theorem uf9{p:Prop}(h:p):cl p=true:=@decide_eq_true _ (Classical.propDecidable p) h
theorem Gf0{p:Prop}(h:cl p=true):p:=@of_decide_eq_true _ (Classical.propDecidable p) h
def sl{α:Type}(c:Bool)(t e:α):α:=Bool.rec (motive:=λ_=>α) e t c
theorem f0{α:Type}(t e:α):sl true t e=t:=rfl
theorem B6{α:Type}(t e:α):sl false t e=e:=rfl
theorem Gb9{α:Type}(c:Bool)(t e:α):sl c t e=if c=true then t else e:=by cases c<;>rfl
theorem j6{α β:Type}{f:α->β}{c:Bool}{A B:α}{a b:β}(hA:f A=a)(hB:f B=b):f (sl c A B)=sl c a b:=by cases c<;>assumption
structure CLe(x y:c7):Prop where
 m:∀F w v,ia7 F w x v->ia7 F w y v
 c:∀ρ H F w v,ga3 ρ H F w x v->ga3 ρ H F w y v
theorem CLe.refl(x:c7):CLe x x:=⟨λ_ _ _ h=>h,λ_ _ _ _ _ h=>h⟩
theorem CLe.of{x y:c7}(h:x=y):CLe x y:=h ▸ .refl x
inductive pc6:List c7->List c7->Prop
 |nil:pc6 [] []
 |cons {x y l r} (h:CLe x y) (t:pc6 l r):pc6 (x::l) (y::r)
theorem pc6.refl:∀l,pc6 l l
 |[]=>.nil
 |x::l=>.cons (.refl x) (pc6.refl l)
theorem pc6.of{l r:List c7}(h:l=r):pc6 l r:=h ▸ .refl l
theorem pc6.length{l r}(h:pc6 l r):l.length=r.length:=by induction h<;>simp_all
theorem pc6.get{l r}(h:pc6 l r):∀(i:Nat) y,r[i]?=some y->∃x,l[i]?=some x/\CLe x y:=by
 induction h with
 |nil=>intro i y hy;simp at hy
 |cons h t ih =>
  intro i y hy;cases i with
  |zero=>simp at hy;subst hy;exact⟨_,rfl,h⟩
  |succ i=>simpa using ih i y (by simpa using hy)
theorem bf4{F:Fz}{w:World}{es n:Nat}{get get':Nat->List c7}{v:Value}(h:ia7 F w (.tree es n get) v)(he:∀k,k<n->pc6 (get k) (get' k)):ia7 F w (.tree es n get') v:=by
 cases h with
 |tree _ _ _ a cap cs hs hcap hes hF hw hr =>
  refine .tree es n get' a cap cs hs hcap (λi hi=>by rw[<- (he i hi).length];exact hes i hi) hF hw (λi c hi hc=>?_)
  obtain⟨x,hx,hle⟩:=(he i hi).get c _ (Qdc hc);have hc':c<(get i).length:=(Qdd.1 hx).1
  have:=hr i c hi hc'
  have e:(get i)[c]=x:=by
   have:=(Qdd.1 hx).2
   exact this
  rw[e] at this;exact hle.m _ _ _ this
 |nil=>exact .nil _ _
theorem CLe.tree{es n:Nat}{get get':Nat->List c7}(he:∀k,k<n->pc6 (get k) (get' k)):CLe (.tree es n get) (.tree es n get') :=
 ⟨λ_ _ _ h=>bf4 h he,λ_ _ _ _ _ h=>by cases h with | mem h=>exact .mem (bf4 h he)⟩
theorem CLe.nilTree(es:Nat)(get:Nat->List c7):CLe (.v (.slice none 0 0)) (.tree es 0 get) :=
 ⟨λ_ _ _ h=>by cases h;exact .nil es get,λ_ _ _ _ _ h=>by cases h with
  |mem h=>cases h;exact .mem (.nil es get)
  |v=>exact .mem (.nil es get)⟩
theorem CLe.ale{x y:c7}(h:CLe x y)(hx:∀(ρ:Rho) H F w v,J7 ρ H F w x v->ga3 ρ H F w x v):ALe x y:=λρ H F w v hv=>.val (.cell (h.c _ _ _ _ _ (hx ρ H F w v hv)))
theorem ALe.rows{es n:Nat}{get get':Nat->List c7}(he:∀k,k<n->pc6 (get k) (get' k)):ALe (.tree es n get) (.tree es n get'):=λ_ _ _ _ _ h=>.val (.cell (.mem (bf4 (Ca8 h) he)))
structure Ty(α:Type) where
 es:Nat
 row:α->List c7
 rd:List c7->α
 ok:List c7->Bool
 cks:List CK
 d:α
 h0:∀x,len (row x)=es
 h1:∀x,rd (row x)=x
 h2:∀x,ok (row x)=true
 h3:∀r,ok r=true->pc6 r (row (rd r))
 h4:∀x,Na9 cks (row x)=true
 h5:∀x,j7 (row x) 0=row x
section
variable{α:Type}(t:Ty α)
@[reducible] def gL(l:List α)(k:Nat):α:=l.getD k t.d
@[reducible] def eL(l:List α):c7:=.tree t.es l.length (λk=>t.row (gL t l k))
def lsL(n:Nat)(get:Nat->List c7):List α:=(List.range n).map λk=>t.rd (get k)
def okL(n:Nat)(get:Nat->List c7):Bool:=(List.range n).all λk=>t.ok (get k)
def rL(v:c7):List α:=lsL t (toN v) (toG v)
def nL(v:c7):c7:=eL t (rL t v)
def bf5(f:c7->c7)(x:c7):Bool:=cl (x=f x)
def rt(l:List α):List α:=rL t (eL t l)
def okE(l:List α):Bool:=okL t (toN (eL t l)) (toG (eL t l))
def cnE(l:List α):Bool:=bf5 (nL t) (eL t l)
def bL(l:List α):List (List c7):=o7 t.row l
def rdR(el:List (List c7))(j:Nat):α:=t.rd (j7 (d9 el j) 0)
def ldR(el:List (List c7))(j:Nat):Bool:=Bool.and (Bool.and (Nat.blt j (len el)) (Nat.ble (0+t.es) (len (d9 el j)))) (Na9 t.cks (j7 (d9 el j) 0))
def slR(el:List (List c7))(off n:Nat):List α:=lsL t n λk=>d9 el (off+k)
def okS(el:List (List c7))(off n:Nat):Bool:=okL t n λk=>d9 el (off+k)
theorem He2(n:Nat)(get:Nat->List c7):(lsL t n get).length=n:=by simp[lsL]
theorem He3{n k:Nat}(get:Nat->List c7)(h:k<n):gL t (lsL t n get) k=t.rd (get k):=by
 simp[gL,lsL,Qdg,Qde,List.getElem?_range h]
theorem pc7{n:Nat}{get:Nat->List c7}{l:List α}(hn:n=l.length)(h:∀k,k<n->get k=t.row (gL t l k)):lsL t n get=l:=by
 apply List.ext_getElem
 ·simp[lsL,hn]
 ·intro k h1 h2;have hk:k<n:=by omega
  simp[lsL,h k hk,t.h1,gL,Qdg,Qdc h2]
theorem Sb1{n:Nat}{get:Nat->List c7}{f:Nat->α}(h:∀k,k<n->get k=t.row (f k)):okL t n get=true:=by
 unfold okL;rw[Qdx];intro k hk;have hk:k<n:=by simpa using hk
 rw[h k hk];exact t.h2 _
theorem i6(l:List α):rt t l=l:=pc7 t rfl λ_ _=>rfl
theorem A5(l:List α):okE t l=true:=Sb1 t (f:=λk=>gL t l k) λ_ _=>rfl
theorem l4(l:List α):cnE t l=true:=uf9 (by unfold nL;rw[show rL t (eL t l)=l from i6 t l])
theorem ja7(l:List α):len (bL t l)=l.length:=bf2 _ _
theorem fa9{l:List α}{k:Nat}(h:k<l.length):d9 (bL t l) k=t.row (gL t l k):=fd3 t.row t.d h
theorem ze0{l:List α}{k:Nat}(h:k<l.length):rdR t (bL t l) k=gL t l k:=by unfold rdR;rw[fa9 t h,t.h5,t.h1]
theorem ze1{l:List α}{k:Nat}(h:k<l.length):ldR t (bL t l) k=true:=by
 unfold ldR;rw[fa9 t h,t.h5,t.h4,ja7,t.h0,Qdf,Bool.and_true];simp[Nat.blt_eq,Nat.ble_eq,h]
theorem ob4(l r:List α):app (bL t l) (bL t r)=bL t (l++r):=bf3 _ _ _
theorem Ic5(l:List α):slR t (bL t l) 0 l.length=l:=pc7 t rfl λk hk=>by rw[Qdf,fa9 t hk]
theorem Ic6(l:List α):okS t (bL t l) 0 l.length=true:=Sb1 t (f:=λk=>gL t l k) λk hk=>by rw[Qdf,fa9 t hk]
theorem Pc3(l:List α):o7 (λk=>t.row (gL t l k)) (List.range l.length)=bL t l:=by
 unfold bL;rw[l9,l9];apply List.ext_getElem
 ·simp
 ·intro k h1 h2;have h:k<l.length:=by simpa using h1
  simp[gL,Qdg,Qdc h]
theorem ud7(l:List α)(k:Nat)(x:α):setAt (bL t l) k (t.row x)=bL t (l.set k x):=ud4 _ _ _ _
theorem treeLe{n:Nat}{get:Nat->List c7}(h:okL t n get=true):CLe (.tree t.es n get) (eL t (lsL t n get)):=by
 unfold eL;rw[He2];refine .tree λk hk=>?_
 rw[He3 t get hk];exact t.h3 _ (Qdx.1 h k (by simpa using hk))
theorem He4{n:Nat}{get:Nat->List c7}(h:okL t n get=true):ALe (.tree t.es n get) (eL t (lsL t n get)):=(treeLe t h).ale λ_ _ _ _ _ h=>.mem (Ca8 h)
def ta2:Cod (List α) where
 enc l:=eL t l
 dec x:=match x with
  |.tree e n get=>Bool.rec (motive:=λ_=>Option (List α)) none (some (lsL t n get)) (Nat.beq e t.es)
  |.v (.slice none 0 0)=>some []
  |.v (.slice (some _) 0 _)=>some []
  |_=>none
 grd x:=match x with
  |.tree _ n get=>okL t n get
  |_=>true
 ok x a hx hg:=by
  split at hx
  ·rename_i e n get;cases hb:Nat.beq e t.es with
   |false=>rw[hb] at hx;cases hx
   |true =>
    rw[hb] at hx;have hx:some (lsL t n get)=some a:=hx;injection hx with hx;subst hx
    have:=Qda hb
    subst this;exact He4 t hg
  ·injection hx with hx;subst hx;exact .nilTree _ _
  ·injection hx with hx;subst hx;exact .emptyTree _ _ _ _
  ·cases hx
def hC(get:Nat->List c7):α:=t.rd (get 0)
def tC(n:Nat)(get:Nat->List c7):List α:=lsL t n λk=>get (k+1)
theorem Wf0(a:α)(l:List α):hC t (λk=>t.row (gL t (a::l) k))=a:=t.h1 _
theorem Wf1(a:α)(l:List α):tC t l.length (λk=>t.row (gL t (a::l) k))=l:=pc7 t rfl λk _=>rfl
theorem je5(n:Nat)(get:Nat->List c7):lsL t (n+1) get=hC t get::tC t n get:=by
 unfold lsL hC tC lsL;rw[List.range_succ_eq_map];simp
def bf6:Cod (α×List α) where
 enc x:=eL t (x.1::x.2)
 dec x:=match x with
  |.tree e (n+1) get=>Bool.rec (motive:=λ_=>Option (α×List α)) none (some (hC t get,tC t n get)) (Nat.beq e t.es)
  |_=>none
 grd x:=match x with
  |.tree _ n get=>okL t n get
  |_=>false
 ok x a hx hg:=by
  split at hx
  ·rename_i e n get;cases hb:Nat.beq e t.es with
   |false=>rw[hb] at hx;cases hx
   |true =>
    rw[hb] at hx;have hx:some (hC t get,tC t n get)=some a:=hx;injection hx with hx;subst hx
    have:=Qda hb
    subst this;show ALe _ (eL t (hC t get::tC t n get));rw[<- je5];exact He4 t hg
  ·cases hx
def Da1:Cod α where
 enc x:=.agg (t.row x)
 dec x:=match x with
  |.agg cs=>Bool.rec (motive:=λ_=>Option α) none (some (t.rd cs)) (t.ok cs)
  |_=>none
 grd _:=true
 ok x a hx _:=by
  split at hx
  ·rename_i cs;cases hb:t.ok cs with
   |false=>rw[hb] at hx;cases hx
   |true =>
    rw[hb] at hx;have hx:some (t.rd cs)=some a:=hx;injection hx with hx;subst hx;have h3:=t.h3 cs hb;intro ρ H F w v hv;obtain⟨vs,rfl,hl,hr⟩:=Ga0 hv;refine .val (.agg _ _ (by rw[<- h3.length];exact hl) λi y v' hy hv'=>?_)
    obtain⟨x,hx,hle⟩:=h3.get i y hy;exact hle.c _ _ _ _ _ (hr i x v' hx hv')
  ·cases hx
end
def tLs{α:Type}(t:Ty α):Ty (List α) where
 es:=1
 row l:=[eL t l]
 rd r:=rL t (hdA r)
 ok r:=match r with
  |[.tree e n get]=>Bool.and (Nat.beq e t.es) (okL t n get)
  |[.v (.slice none 0 0)]=>true
  |_=>false
 cks:=[.sl t.es]
 d:=[]
 h0 _:=rfl
 h1 l:=i6 t l
 h2 l:=by
  show Bool.and (Nat.beq t.es t.es) (okL t l.length λk=>t.row (gL t l k))=true
  rw[Nat.beq_refl,Bool.true_and];exact Sb1 t (f:=λk=>gL t l k) λ_ _=>rfl
 h3 r h:=by
  split at h
  ·rename_i e n get;rw[Qdb] at h
   have:=Qda h.1
   subst this;exact .cons (treeLe t h.2) .nil
  ·exact .cons (CLe.nilTree _ _) .nil
  ·cases h
 h4 l:=by
  show Bool.and (Nat.beq t.es t.es) true=true;rw[Nat.beq_refl];rfl
 h5 _:=rfl
def tI:Ty Int where
 es:=1
 row n:=[i n]
 rd r:=toI (hdA r)
 ok r:=match r with
  |[.v (.int .i64 _)]=>true
  |_=>false
 cks:=[.int .i64]
 d:=0
 h0 _:=rfl
 h1 _:=rfl
 h2 _:=rfl
 h3 r h:=by
  split at h
  ·exact .refl _
  ·cases h
 h4 _:=rfl
 h5 _:=rfl
def tB:Ty Bool where
 es:=1
 row n:=[b n]
 rd r:=toB (hdA r)
 ok r:=match r with
  |[.v (.bool _)]=>true
  |_=>false
 cks:=[.bool]
 d:=false
 h0 _:=rfl
 h1 _:=rfl
 h2 _:=rfl
 h3 r h:=by
  split at h
  ·exact .refl _
  ·cases h
 h4 _:=rfl
 h5 _:=rfl
def db7(n:Nat)(l:List c7):Bool:=Nat.rec (motive:=λ_=>List c7->Bool)
 (λl=>List.rec (motive:=λ_=>Bool) true (λ_ _ _=>false) l)
 (λ_ ih l=>List.rec (motive:=λ_=>Bool) false (λx r _=>Bool.and (Bc1 (.int .i64) x) (ih r)) l) n l
def bf7(n:Nat)(l:List c7):List c7:=Nat.rec (motive:=λ_=>List c7->List c7) (λ_=>[]) (λ_ ih l=>i (toI (hdA l))::ih (tlA l)) n l
theorem ob5:∀{n:Nat} {l:List c7},db7 n l=true->l=bf7 n l
 |0,[],_=>rfl
 |0,x::r,h=>by cases h
 |n+1,[],h=>by cases h
 |n+1,x::r,h=>by
  have h:Bool.and (Bc1 (.int .i64) x) (db7 n r)=true:=h;rw[Qdb] at h;show x::r=i (toI x)::bf7 n r;rw[<- ob5 h.2];have h1:=h.1;cases x with
  |v y=>cases y with
   |int k m =>
    have h1:decide (IntKind.i64=k)=true:=h1;rw[<- of_decide_eq_true h1];rfl
   |_=>cases h1
  |_=>cases h1
inductive Dis (H:List c8):List c8->Prop
 |refl:Dis H H
 |step {H'} (id:Nat) (h:Dis H H'):Dis H (disown H' id)
theorem Pc4(H:List c8)(id j g:Nat):blkAt (disown H id) j g=(blkAt H j g).map λb=>if j=id then { b with own:=false } else b:=by
 unfold blkAt disown modAt;cases hb:nth H id with
 |none =>
  simp only[];cases hj:nth H j with
  |none=>rfl
  |some b =>
   have:j≠id:=λh=>by subst h;rw[hb] at hj;cases hj
   simp only[this,if_false];cases b.dead<;>simp only[]<;>first | rfl | (cases Nat.beq b.g g<;>rfl)
 |some c =>
  simp only[E2,E3];by_cases h:j=id
  ·subst h;have hb':H[j]?=some c:=by rw[<- E2];exact hb
   have hlt:j<H.length:=(Qdd.1 hb').1;simp only[Qdy hlt,hb',if_true];obtain⟨et,es,el,ow,de,g'⟩:=c;cases de<;>simp only[]<;>first | rfl | (cases Nat.beq g' g<;>rfl)
  ·rw[List.getElem?_set_ne (λe=>h e.symm)]
   cases hj:H[j]? with
   |none=>rfl
   |some b =>
    simp only[h,if_false];cases b.dead<;>simp only[]<;>first | rfl | (cases Nat.beq b.g g<;>rfl)
structure R1(ρ:Type) where
 enc:ρ->c7
 rd:List c8->c7->Option ρ
 d:ρ
 le:∀H x r,rd H x=some r->∃z H',Ga1 H x=some (z,H')/\Dis H H'/\∀ρ' H2 F w v,qa6 ρ' H2 F w z v->qa6 ρ' H2 F w (enc r) v
 dis:∀H id x,rd (disown H id) x=rd H x
theorem R1.diss{ρ:Type}(R:R1 ρ){H H':List c8}(h:Dis H H')(x:c7):R.rd H' x=R.rd H x:=by
 induction h with
 |refl=>rfl
 |step id h ih=>rw[R.dis,ih]
theorem CLe.v{x y:c7}(h:CLe x y)(hx:∀(ρ:Rho) H F w v,qa6 ρ H F w x v->ga3 ρ H F w x v):∀ρ' H2 F w v,qa6 ρ' H2 F w x v->qa6 ρ' H2 F w y v:=λ_ _ _ _ _ hv=>.cell (h.c _ _ _ _ _ (hx _ _ _ _ _ hv))
def r1K(k:IntKind):R1 Int where
 enc n:=.v (.int k n)
 rd _ x:=match x with
  |.v (.int k' n)=>Bool.rec (motive:=λ_=>Option Int) none (some n) (decide (k=k'))
  |_=>none
 d:=0
 le H x r h:=by
  split at h
  ·rename_i k' n;cases hb:decide (k=k') with
   |false=>rw[hb] at h;cases h
   |true =>
    rw[hb] at h;have h:some n=some r:=h;injection h with h;subst h
    have:=of_decide_eq_true hb
    subst this;exact⟨_,H,rfl,.refl,λ_ _ _ _ _ h=>h⟩
  ·cases h
 dis _ _ _:=rfl
def r1I:R1 Int:=r1K .i64
def r1B:R1 Bool where
 enc n:=b n
 rd _ x:=match x with
  |.v (.bool n)=>some n
  |_=>none
 d:=false
 le H x r h:=by
  split at h
  ·injection h with h;subst h;exact⟨_,H,rfl,.refl,λ_ _ _ _ _ h=>h⟩
  ·cases h
 dis _ _ _:=rfl
theorem ud8(H:List c8):∀(n:Nat) (l:List c7),db7 n l=true->freezeCells H l=some (l,H)
 |0,[],_=>rfl
 |0,x::r,h=>by cases h
 |n+1,[],h=>by cases h
 |n+1,x::r,h=>by
  have e:=ob5 h;have h:Bool.and (Bc1 (.int .i64) x) (db7 n r)=true:=h;rw[Qdb] at h;have e1:x=i (toI x):=(List.cons.inj e).1;simp only[freezeCells];rw[e1];simp only[freezeCell,Mc4,ud8 H n r h.2]
section
variable{α:Type}(t:Ty α)
def r1A(n:Nat)(ht:∀r,db7 n r=true->t.ok r=true):R1 α where
 enc x:=.agg (t.row x)
 rd _ x:=match x with
  |.agg cs=>Bool.rec (motive:=λ_=>Option α) none (some (t.rd cs)) (db7 n cs)
  |_=>none
 d:=t.d
 le H x r h:=by
  split at h
  ·rename_i cs;cases hb:db7 n cs with
   |false=>rw[hb] at h;cases h
   |true =>
    rw[hb] at h;have h:some (t.rd cs)=some r:=h;injection h with h;subst h;have h3:=t.h3 cs (ht cs hb);refine⟨.agg cs,H,?_,.refl,λρ' H2 F w v hv=>?_⟩
    ·simp only[Ga1,ud8 H n cs hb]
    ·obtain⟨vs,rfl,hl,hr⟩:=Ga0 (.val hv);refine .agg _ _ (by rw[<- h3.length];exact hl) λi y v' hy hv'=>?_
     obtain⟨x,hx,hle⟩:=h3.get i y hy;exact hle.c _ _ _ _ _ (hr i x v' hx hv')
  ·cases h
 dis _ _ _:=rfl
def r1L:R1 (List α) where
 enc l:=eL t l
 rd H x:=match x with
  |.v (.slice none 0 0)=>some []
  |.tree e n get=>Bool.rec (motive:=λ_=>Option (List α)) none (some (lsL t n get)) (Bool.and (Nat.beq e t.es) (okL t n get))
  |.sl id off n g=>match blkAt H id g with
   |some b=>Bool.rec (motive:=λ_=>Option (List α)) none (some (slR t b.elems off n)) (Bool.and (Nat.beq b.es t.es) (okS t b.elems off n))
   |none=>none
  |_=>none
 d:=[]
 le H x r h:=by
  split at h
  ·injection h with h;subst h;exact⟨_,H,rfl,.refl,(CLe.nilTree _ _).v λ_ _ _ _ _ h=>by cases h with | cell h=>exact h⟩
  ·rename_i e n get;cases hb:Bool.and (Nat.beq e t.es) (okL t n get) with
   |false=>rw[hb] at h;cases h
   |true =>
    rw[hb] at h;have h:some (lsL t n get)=some r:=h;injection h with h;subst h;rw[Qdb] at hb
    have:=Qda hb.1
    subst this;exact⟨_,H,rfl,.refl,(treeLe t hb.2).v λ_ _ _ _ _ h=>by cases h with | cell h=>exact h⟩
  ·rename_i id off n g;cases hk:blkAt H id g with
   |none=>simp only[hk] at h;cases h
   |some b =>
    simp only[hk] at h;cases hb:Bool.and (Nat.beq b.es t.es) (okS t b.elems off n) with
    |false=>rw[hb] at h;cases h
    |true =>
     rw[hb] at h;have h:some (slR t b.elems off n)=some r:=h;injection h with h;subst h;rw[Qdb] at hb
     have:=Qda hb.1
     refine⟨ac4 b off n,disown H id,?_,.step id .refl,?_⟩
     ·simp only[Ga1,freezeCell,hk]
     ·unfold ac4;rw[this];exact (treeLe t hb.2).v λ_ _ _ _ _ h=>by cases h with | cell h=>exact h
  ·cases h
 dis H id x:=by
  cases x with
  |sl id' off n g =>
   simp only[Pc4];cases blkAt H id' g with
   |none=>rfl
   |some b =>
    simp only[Option.map]
    split<;>rfl
  |v y=>cases y with
   |slice a n c=>cases a<;>cases n<;>cases c<;>rfl
   |_=>rfl
  |_=>rfl
end
structure RR(ρ:Type) where
 enc:ρ->c7
 rd:c7×List c8->Option ρ
 d:ρ
 le:∀x o r,rd (x,o)=some r->ud6 x o (enc r)
theorem je6{H:List c8}{l:List c7}{z:c7×List c8}(h:Ga1 H (.tup l)=some z):False:=by cases h
theorem je7{H:List c8}{x z:c7}{H':List c8}(h:Ga1 H x=some (z,H')):Xc4 H x=some z:=by
 cases x with
 |tup l=>exact (je6 h).elim
 |_=>simp only[Xc4,h]
theorem Mf4{x y:c7}(h:∀ρ' H2 F w v,qa6 ρ' H2 F w x v->qa6 ρ' H2 F w y v)(hx:∀l,x≠.tup l):ALe x y:=λρ H F w v hv=>by
 cases hv with
 |val hv=>exact .val (h _ _ _ _ _ hv)
 |tup xs=>exact absurd rfl (hx xs)
theorem Wd2{H H':List c8}{x z:c7}(h:Ga1 H x=some (z,H')):∀l,z≠.tup l:=λl e=>by
 subst e;unfold Ga1 at h
 split at h
 ·split at h<;>cases h
 ·unfold freezeCell at h
  split at h
  ·split at h<;>cases h
  ·cases h
  ·split at h<;>cases h
  ·split at h
   ·simp only[ac4] at h;cases h
   ·cases h
  ·cases h
def one{ρ:Type}(a:R1 ρ):RR ρ where
 enc:=a.enc
 rd r:=a.rd r.2 r.1
 d:=a.d
 le x o r h:=by
  obtain⟨z,H',h1,_,h2⟩:=a.le o x r h;exact⟨z,je7 h1,Mf4 h2 (Wd2 h1)⟩
def two{ρ σ:Type}(a:R1 ρ)(c:R1 σ):RR (ρ×σ) where
 enc r:=.tup [a.enc r.1,c.enc r.2]
 rd r:=match r.1 with
  |.tup [x,y]=>Option.rec (motive:=λ_=>Option (ρ×σ)) none (λu=>Option.rec (motive:=λ_=>Option (ρ×σ)) none (λv=>some (u,v)) (c.rd r.2 y)) (a.rd r.2 x)
  |_=>none
 d:=(a.d,c.d)
 le q o r h:=by
  split at h
  ·rename_i x y e
   simp only at e
   subst e;cases hu:a.rd o x with
   |none=>rw[hu] at h;cases h
   |some u =>
   cases hv:c.rd o y with
   |none=>rw[hu,hv] at h;cases h
   |some v =>
   rw[hu,hv] at h;have h:some (u,v)=some r:=h;injection h with h;subst h;obtain⟨z1,H1,h1,d1,l1⟩:=a.le o x u hu;obtain⟨z2,H2,h2,d2,l2⟩:=c.le H1 y v (by rw[c.diss d1];exact hv)
   refine⟨.tup [z1,z2],by simp only[Xc4,Gb8,h1,h2],ALe.tup rfl λk p q hp hq=>?_⟩
   match k,hp,hq with
   |0,hp,hq=>cases hp;cases hq;exact l1
   |1,hp,hq=>cases hp;cases hq;exact l2
  ·cases h
def okO{ρ:Type}(R:RR ρ)(o:Option (c7×List c8)):Bool:=Option.rec (motive:=λ_=>Bool) false (λr=>Option.rec (motive:=λ_=>Bool) false (λ_=>true) (R.rd r)) o
def ba8{ρ:Type}(R:RR ρ)(o:Option (c7×List c8)):ρ:=Option.rec (motive:=λ_=>ρ) R.d (λr=>Option.rec (motive:=λ_=>ρ) R.d (λx=>x) (R.rd r)) o
@[reducible] def rdO{ρ:Type}(R:RR ρ)(o:Option (c7×List c8)):DT (c7×List c8):=.guard (okO R o) (.ret (R.enc (ba8 R o),[]))
theorem ud9{ρ:Type}{R:RR ρ}{o:Option (c7×List c8)}{y:c7}{out:List c8}(h:(rdO R o).run=some (y,out)):out=[]/\∃x o',o=some (x,o')/\ud6 x o' y:=by
 obtain⟨h1,h2⟩:=DT.run_guard_some h;have h2:some (R.enc (ba8 R o),([]:List c8))=some (y,out):=h2;injection h2 with h2;injection h2 with e1 e2;subst e1 e2
 refine⟨rfl,?_⟩;cases o with
 |none=>cases h1
 |some r =>
  obtain⟨x,o'⟩:=r;refine⟨x,o',rfl,?_⟩;cases hr:R.rd (x,o') with
  |none=>simp only[okO,hr] at h1;cases h1
  |some q =>
   simp only[ba8,hr];exact R.le x o' q hr
theorem rb7{α:Type}(o:Option α):(DT.ofOption o).run=o:=by cases o<;>rfl
section
variable{α β γ δ ε ζ:Type}{P:Program}{G:Nat->List Value}{f:FuncId}{R0:Sum}{c:Cod α}{d:Cod β}{e:Cod γ}{c4:Cod δ}{c5:Cod ε}{c6:Cod ζ}{ρ:Type}
theorem eg0(hb:g9 P G f R0)(R:RR ρ){o:Option (c7×List c8)}(h:∀r,o=some r->(R0 [] []).run=some r):g9 P G f (ye8 (rdO R o)) :=
 Re2 (uf5 hb (k:=DT.ofOption o) λr hr=>h r (by rw[rb7] at hr;exact hr)) λy out hr=>by
  obtain⟨e,x,o',h1,h2⟩:=ud9 hr;exact⟨e,x,o',by rw[rb7,h1],h2⟩
theorem db8(hb:g9 P G f R0)(R:RR ρ){o:α->Option (c7×List c8)}(h:∀a r,o a=some r->(R0 [c.enc a] []).run=some r):g9 P G f (ga4 c λa=>rdO R (o a)) :=
 Re3 (ib1 hb (k:=λa=>DT.ofOption (o a)) λa r hr=>h a r (by rw[rb7] at hr;exact hr)) λa y out hr=>by
  obtain⟨e,x,o',h1,h2⟩:=ud9 hr;exact⟨e,x,o',by rw[rb7,h1],h2⟩
theorem Sb2(hb:g9 P G f R0)(R:RR ρ){o:α->β->Option (c7×List c8)}(h:∀a b r,o a b=some r->(R0 [c.enc a,d.enc b] []).run=some r):g9 P G f (Aa5 c d λa b=>rdO R (o a b)) :=
 Re4 (Oa1 hb (k:=λa b=>DT.ofOption (o a b)) λa b r hr=>h a b r (by rw[rb7] at hr;exact hr)) λa b y out hr=>by
  obtain⟨e,x,o',h1,h2⟩:=ud9 hr;exact⟨e,x,o',by rw[rb7,h1],h2⟩
theorem Wf2(hb:g9 P G f R0)(R:RR ρ){o:α->β->γ->Option (c7×List c8)}(h:∀a b g r,o a b g=some r->(R0 [c.enc a,d.enc b,e.enc g] []).run=some r):g9 P G f (Wd1 c d e λa b g=>rdO R (o a b g)) :=
 Re5 (uf6 hb (k:=λa b g=>DT.ofOption (o a b g)) λa b g r hr=>h a b g r (by rw[rb7] at hr;exact hr)) λa b g y out hr=>by
  obtain⟨e,x,o',h1,h2⟩:=ud9 hr;exact⟨e,x,o',by rw[rb7,h1],h2⟩
theorem eg1(hb:g9 P G f R0)(R:RR ρ){o:α->β->γ->δ->Option (c7×List c8)}(h:∀a b g j r,o a b g j=some r->(R0 [c.enc a,d.enc b,e.enc g,c4.enc j] []).run=some r):g9 P G f (Re0 c d e c4 λa b g j=>rdO R (o a b g j)) :=
 (uf7 hb (k:=λa b g j=>DT.ofOption (o a b g j)) λa b g j r hr=>h a b g j r (by rw[rb7] at hr;exact hr)).conv λargs blks y out hr=>by
  unfold Re0 at hr
  split at hr
  ·obtain⟨a,h1,hr⟩:=U6 hr;obtain⟨b,h2,hr⟩:=U6 hr;obtain⟨g,h3,hr⟩:=U6 hr;obtain⟨j,h4,hr⟩:=U6 hr;obtain⟨g1,hr⟩:=DT.run_guard_some hr;obtain⟨g2,hr⟩:=DT.run_guard_some hr;obtain⟨g3,hr⟩:=DT.run_guard_some hr;obtain⟨g4,hr⟩:=DT.run_guard_some hr;obtain⟨e1,x,o',e2,e3⟩:=ud9 hr;refine⟨rfl,e1,x,o',?_,e3⟩;simp only[Re0,h1,h2,h3,h4,onO,g1,g2,g3,g4];show (DT.ofOption (o a b g j)).run=_;rw[rb7,e2]
  ·cases hr
end
inductive Kc where
 |o (k:Sk)
 |c (es:Nat) (f:c7->c7)
def Mf5:Kc->c7->Bool
 |.o k,x=>uf8 k x
 |.c es _,.tree es' _ _=>Nat.beq es es'
 |.c _ _,_=>false
def Mf6:Kc->c7->c7
 |.o k,x=>Mf2 k x
 |.c _ f,x=>f x
def Mf7(k:Kc)(x:c7)(z:Bool):Bool:=match k with
 |.o _=>z
 |.c _ f=>Bool.and (bf5 f x) z
theorem vf0{k:Kc}{x:c7}{z:Bool}(h:Mf5 k x=true)(hc:Mf7 k x z=true):x=Mf6 k x/\z=true:=by
 cases k with
 |o k=>exact⟨He0 h,hc⟩
 |c es f =>
  have hc:Bool.and (bf5 f x) z=true:=hc;rw[Qdb] at hc;exact⟨Gf0 hc.1,hc.2⟩
def bf8(ks:List Kc):List c7->Bool :=
 List.rec (motive:=λ_=>List c7->Bool) (λl=>List.rec (motive:=λ_=>Bool) true (λ_ _ _=>false) l)
  (λk _ ih l=>List.rec (motive:=λ_=>Bool) false (λx r _=>Bool.and (Mf5 k x) (ih r)) l) ks
def He5(ks:List Kc):List c7->List c7 :=
 List.rec (motive:=λ_=>List c7->List c7) (λ_=>[]) (λk _ ih l=>Mf6 k (hdA l)::ih (tlA l)) ks
def bf9(z:Bool)(ks:List Kc):List c7->Bool :=
 List.rec (motive:=λ_=>List c7->Bool) (λ_=>z) (λk _ ih l=>Mf7 k (hdA l) (ih (tlA l))) ks
theorem je8{z:Bool}:∀{ks:List Kc} {l:List c7},bf8 ks l=true->bf9 z ks l=true->l=He5 ks l/\z=true
 |[],[],_,hc=>⟨rfl,hc⟩
 |[],x::r,h,_=>by cases h
 |k::ks,[],h,_=>by cases h
 |k::ks,x::r,h,hc=>by
  have h:Bool.and (Mf5 k x) (bf8 ks r)=true:=h;rw[Qdb] at h;have hc:Mf7 k x (bf9 z ks r)=true:=hc;obtain⟨e1,h2⟩:=vf0 h.1 hc;obtain⟨e2,h3⟩:=je8 h.2 h2;refine⟨?_,h3⟩;show x::r=Mf6 k x::He5 ks r;rw[<- e1,<- e2]
inductive K where
 |o (k:Sk)
 |c (es:Nat) (f:c7->c7)
 |fn (f:Nat) (l:List Kc)
def isK:K->c7->Bool
 |.o k,x=>uf8 k x
 |.c es _,.tree es' _ _=>Nat.beq es es'
 |.fn f l,.fn f' r=>Bool.and (Nat.beq f f') (bf8 l r)
 |.c _ _,_=>false
 |.fn _ _,_=>false
def asK:K->c7->c7
 |.o k,x=>Mf2 k x
 |.c _ f,x=>f x
 |.fn f l,x=>.fn f (He5 l (cellsOf x))
def cnK(k:K)(x:c7)(z:Bool):Bool:=match k with
 |.o _=>z
 |.c _ f=>Bool.and (bf5 f x) z
 |.fn _ l=>bf9 z l (cellsOf x)
theorem cf0{k:K}{x:c7}{z:Bool}(h:isK k x=true)(hc:cnK k x z=true):x=asK k x/\z=true:=by
 unfold isK at h
 split at h
 ·exact⟨He0 h,hc⟩
 ·have hc:Bool.and (bf5 _ _) z=true:=hc;rw[Qdb] at hc;exact⟨Gf0 hc.1,hc.2⟩
 ·rename_i f l f' r;rw[Qdb] at h;obtain⟨e,hz⟩:=je8 h.2 hc;refine⟨?_,hz⟩;show c7.fn f' r=.fn f (He5 l r);rw[<- e,Qda h.1]
 ·cases h
 ·cases h
def ze2(ks:List K):List c7->Bool :=
 List.rec (motive:=λ_=>List c7->Bool) (λl=>List.rec (motive:=λ_=>Bool) true (λ_ _ _=>false) l)
  (λk _ ih l=>List.rec (motive:=λ_=>Bool) false (λx r _=>Bool.and (isK k x) (ih r)) l) ks
def je9(ks:List K):List c7->List c7 :=
 List.rec (motive:=λ_=>List c7->List c7) (λ_=>[]) (λk _ ih l=>asK k (hdA l)::ih (tlA l)) ks
def ze3(z:Bool)(ks:List K):List c7->Bool :=
 List.rec (motive:=λ_=>List c7->Bool) (λ_=>z) (λk _ ih l=>cnK k (hdA l) (ih (tlA l))) ks
theorem Pc5{z:Bool}:∀{ks:List K} {l:List c7},ze2 ks l=true->ze3 z ks l=true->l=je9 ks l/\z=true
 |[],[],_,hc=>⟨rfl,hc⟩
 |[],x::r,h,_=>by cases h
 |k::ks,[],h,_=>by cases h
 |k::ks,x::r,h,hc=>by
  have h:Bool.and (isK k x) (ze2 ks r)=true:=h;rw[Qdb] at h;have hc:cnK k x (ze3 z ks r)=true:=hc;obtain⟨e1,h2⟩:=cf0 h.1 hc;obtain⟨e2,h3⟩:=Pc5 h.2 h2;refine⟨?_,h3⟩;show x::r=asK k x::je9 ks r;rw[<- e1,<- e2]
inductive S2 where
 |s (k:K)
 |agg (l:List K)
 |tup (l:List K)
 |fn (f:Nat) (l:List K)
def isS:S2->c7->Bool
 |.s k,x=>isK k x
 |.agg l,.agg r=>ze2 l r
 |.tup l,.tup r=>ze2 l r
 |.fn f l,.fn f' r=>Bool.and (Nat.beq f f') (ze2 l r)
 |_,_=>false
def asS:S2->c7->c7
 |.s k,x=>asK k x
 |.agg l,x=>.agg (je9 l (cellsOf x))
 |.tup l,x=>.tup (je9 l (cellsOf x))
 |.fn f l,x=>.fn f (je9 l (cellsOf x))
def cnS(k:S2)(x:c7)(z:Bool):Bool:=match k with
 |.s k=>cnK k x z
 |.agg l=>ze3 z l (cellsOf x)
 |.tup l=>ze3 z l (cellsOf x)
 |.fn _ l=>ze3 z l (cellsOf x)
theorem Mf8{k:S2}{x:c7}{z:Bool}(h:isS k x=true)(hc:cnS k x z=true):x=asS k x/\z=true:=by
 unfold isS at h
 split at h
 ·exact cf0 h hc
 ·rename_i l r;obtain⟨e,hz⟩:=Pc5 h hc;exact⟨congrArg c7.agg e,hz⟩
 ·rename_i l r;obtain⟨e,hz⟩:=Pc5 h hc;exact⟨congrArg c7.tup e,hz⟩
 ·rename_i f l f' r;rw[Qdb] at h;obtain⟨e,hz⟩:=Pc5 h.2 hc;refine⟨?_,hz⟩;show c7.fn f' r=.fn f (je9 l r);rw[<- e,Qda h.1]
 ·cases h
def cf1(ks:List S2):List c7->Bool :=
 List.rec (motive:=λ_=>List c7->Bool) (λl=>List.rec (motive:=λ_=>Bool) true (λ_ _ _=>false) l)
  (λk _ ih l=>List.rec (motive:=λ_=>Bool) false (λx r _=>Bool.and (isS k x) (ih r)) l) ks
def Re6(ks:List S2):List c7->List c7 :=
 List.rec (motive:=λ_=>List c7->List c7) (λ_=>[]) (λk _ ih l=>asS k (hdA l)::ih (tlA l)) ks
def vf1(z:Bool)(ks:List S2):List c7->Bool :=
 List.rec (motive:=λ_=>List c7->Bool) (λ_=>z) (λk _ ih l=>cnS k (hdA l) (ih (tlA l))) ks
theorem He6{z:Bool}:∀{ks:List S2} {l:List c7},cf1 ks l=true->vf1 z ks l=true->l=Re6 ks l/\z=true
 |[],[],_,hc=>⟨rfl,hc⟩
 |[],x::r,h,_=>by cases h
 |k::ks,[],h,_=>by cases h
 |k::ks,x::r,h,hc=>by
  have h:Bool.and (isS k x) (cf1 ks r)=true:=h;rw[Qdb] at h;have hc:cnS k x (vf1 z ks r)=true:=hc;obtain⟨e1,h2⟩:=Mf8 h.1 hc;obtain⟨e2,h3⟩:=He6 h.2 h2;refine⟨?_,h3⟩;show x::r=asS k x::Re6 ks r;rw[<- e1,<- e2]
def Mf9(ks:List (List K)):List (List c7)->Bool :=
 List.rec (motive:=λ_=>List (List c7)->Bool) (λl=>List.rec (motive:=λ_=>Bool) true (λ_ _ _=>false) l)
  (λk _ ih l=>List.rec (motive:=λ_=>Bool) false (λx r _=>Bool.and (ze2 k x) (ih r)) l) ks
def vf2(ks:List (List K)):List (List c7)->List (List c7) :=
 List.rec (motive:=λ_=>List (List c7)->List (List c7)) (λ_=>[]) (λk _ ih l=>je9 k (hdR l)::ih (tlR l)) ks
def Nf0(z:Bool)(ks:List (List K)):List (List c7)->Bool :=
 List.rec (motive:=λ_=>List (List c7)->Bool) (λ_=>z) (λk _ ih l=>ze3 (ih (tlR l)) k (hdR l)) ks
theorem He7{z:Bool}:∀{ks:List (List K)} {l:List (List c7)},Mf9 ks l=true->Nf0 z ks l=true->l=vf2 ks l/\z=true
 |[],[],_,hc=>⟨rfl,hc⟩
 |[],x::r,h,_=>by cases h
 |k::ks,[],h,_=>by cases h
 |k::ks,x::r,h,hc=>by
  have h:Bool.and (ze2 k x) (Mf9 ks r)=true:=h;rw[Qdb] at h;have hc:ze3 (Nf0 z ks r) k x=true:=hc;obtain⟨e1,h2⟩:=Pc5 h.1 hc;obtain⟨e2,h3⟩:=He7 h.2 h2;refine⟨?_,h3⟩;show x::r=je9 k x::vf2 ks r;rw[<- e1,<- e2]
def ru2(n:Nat)(l:List S2):List S2:=Nat.rec (motive:=λ_=>List S2) l (λ_ ih=>.s (.o .unk)::ih) n
structure B2 where
 et:Nat
 es:Nat
 own:Bool
 rows:Option (List (List K))
@[reducible] def isE(o:Option (List (List K)))(l:List (List c7)):Bool:=Option.rec (motive:=λ_=>Bool) true (λks=>Mf9 ks l) o
@[reducible] def asE(o:Option (List (List K)))(l:List (List c7)):List (List c7):=Option.rec (motive:=λ_=>List (List c7)) l (λks=>vf2 ks l) o
@[reducible] def cnO(o:Option (List (List K)))(l:List (List c7))(z:Bool):Bool:=Option.rec (motive:=λ_=>Bool) z (λks=>Nf0 z ks l) o
def isB(k:B2)(x:c8):Bool :=
 Bool.and (Bool.and (Nat.beq k.et x.et) (Nat.beq k.es x.es)) (Bool.and (eqB k.own x.own) (Bool.and (!x.dead) (Bool.and (Nat.beq x.g 0) (isE k.rows x.elems))))
theorem Nf1{k:B2}{x:c8}{z:Bool}(h:isB k x=true)(hc:cnO k.rows x.elems z=true):x=⟨k.et,k.es,asE k.rows x.elems,k.own,false,0⟩/\z=true:=by
 unfold isB at h;simp only[Qdb] at h;obtain⟨⟨h1,h2⟩,h3,h4,h5,h6⟩:=h;have h1:=Qda h1;have h2:=Qda h2;have h5:=Qda h5;have h4:x.dead=false:=by simpa using h4
 obtain⟨et,es,el,ow,de,g⟩:=x;obtain⟨et',es',ow',rows⟩:=k
 simp only at *
 subst h1 h2 h4 h5;have h3:ow'=ow:=by cases ow'<;>cases ow<;>first | rfl | cases h3
 subst h3;cases rows with
 |none=>exact⟨rfl,hc⟩
 |some ks =>
  obtain⟨e,hz⟩:=He7 h6 hc;refine⟨?_,hz⟩;show _=(⟨et',es',vf2 ks el,ow',false,0⟩:c8);rw[<- e]
def cf2(ks:List B2):List c8->Bool :=
 List.rec (motive:=λ_=>List c8->Bool) (λl=>List.rec (motive:=λ_=>Bool) true (λ_ _ _=>false) l)
  (λk _ ih l=>List.rec (motive:=λ_=>Bool) false (λx r _=>Bool.and (isB k x) (ih r)) l) ks
def Re7(ks:List B2):List c8->List c8 :=
 List.rec (motive:=λ_=>List c8->List c8) (λ_=>[]) (λk _ ih l=>⟨k.et,k.es,asE k.rows (hdB l),k.own,false,0⟩::ih (tlB l)) ks
def vf3(z:Bool)(ks:List B2):List c8->Bool :=
 List.rec (motive:=λ_=>List c8->Bool) (λ_=>z) (λk _ ih l=>cnO k.rows (hdB l) (ih (tlB l))) ks
theorem He8{z:Bool}:∀{ks:List B2} {l:List c8},cf2 ks l=true->vf3 z ks l=true->l=Re7 ks l/\z=true
 |[],[],_,hc=>⟨rfl,hc⟩
 |[],x::r,h,_=>by cases h
 |k::ks,[],h,_=>by cases h
 |k::ks,x::r,h,hc=>by
  have h:Bool.and (isB k x) (cf2 ks r)=true:=h;rw[Qdb] at h;have hc:cnO k.rows x.elems (vf3 z ks r)=true:=hc;obtain⟨e1,h2⟩:=Nf1 h.1 hc;obtain⟨e2,h3⟩:=He8 h.2 h2;refine⟨?_,h3⟩;show x::r=⟨k.et,k.es,asE k.rows x.elems,k.own,false,0⟩::Re7 ks r;rw[<- e1,<- e2]
structure Al2(π σ:Type) where
 sh:List S2
 bl:List B2
 rd:List c7->List c8->π×σ
def vf4{π σ:Type}(l:List (Al2 π σ))(t:St):DT (π×σ) :=
 List.rec (motive:=λ_=>DT (π×σ)) .fail
  (λx _ ih=>Bool.rec (motive:=λ_=>DT (π×σ)) ih (.guard (vf1 (vf3 true x.bl t.H) x.sh t.a) (.ret (x.rd t.a t.H))) (Bool.and (cf1 x.sh t.a) (cf2 x.bl t.H))) l
theorem Wd3{π σ:Type}{enc:π->σ->St}{t:St}{q:π×σ}:∀{l:List (Al2 π σ)},(∀x,x∈l->∀a H,(⟨Re6 x.sh a,Re7 x.bl H⟩:St)=enc (x.rd a H).1 (x.rd a H).2) ->
  (vf4 l t).run=some q->t=enc q.1 q.2
 |[],_,h=>by cases h
 |x::l,hl,h=>by
  have h:(Bool.rec (motive:=λ_=>DT (π×σ)) (vf4 l t) (.guard (vf1 (vf3 true x.bl t.H) x.sh t.a) (.ret (x.rd t.a t.H))) (Bool.and (cf1 x.sh t.a) (cf2 x.bl t.H))).run=some q:=h
  cases hb:Bool.and (cf1 x.sh t.a) (cf2 x.bl t.H) with
  |false=>rw[hb] at h;exact Wd3 (λy hy=>hl y (.tail _ hy)) h
  |true =>
   rw[hb] at h;obtain⟨h1,h2⟩:=DT.run_guard_some h;cases h2;rw[Qdb] at hb;obtain⟨e1,h3⟩:=He6 hb.1 h1;obtain⟨e2,_⟩:=He8 hb.2 h3;rw[<- hl x (.head _) t.a t.H,<- e1,<- e2]
def Ma9{π:Type}(x:Al2 π Unit)(k:π->DT (c7×List c8)):Sum:=λargs blks=>(vf4 [x] ⟨args,blks⟩).bind λq=>k q.1
theorem F6{P:Program}{G:Nat->List Value}{f:FuncId}{R:Sum}{π:Type}{x:Al2 π Unit}{enc:π->St}{k:π->DT (c7×List c8)}
  (hx:∀a H,(⟨Re6 x.sh a,Re7 x.bl H⟩:St)=enc (x.rd a H).1) (hb:g9 P G f R)
  (h:∀p r,(k p).run=some r->(R (enc p).a (enc p).H).run=some r):g9 P G f (Ma9 x k):=hb.le λargs blks r hr=>by
 obtain⟨q,h1,h2⟩:=DT.run_bind_some hr;have e:=Wd3 (enc:=λp _=>enc p) (ib2.mem (.cons hx .nil)) h1
 have:=h q.1 r h2
 rw[<- e] at this;exact this
@[reducible] def slT(l:List c7)(n:Nat):c7:=hdA (Nat.rec (motive:=λ_=>List c7->List c7) (λl=>l) (λ_ ih l=>ih (tlA l)) n l)
@[reducible] def rwT(l:List (List c7))(n:Nat):List c7:=hdR (Nat.rec (motive:=λ_=>List (List c7)->List (List c7)) (λl=>l) (λ_ ih l=>ih (tlR l)) n l)
@[reducible] def elT(l:List c8)(n:Nat):List (List c7):=hdB (Nat.rec (motive:=λ_=>List c8->List c8) (λl=>l) (λ_ ih l=>ih (tlB l)) n l)
@[reducible] def xit(o:Option Nat):d8:=Option.rec (motive:=λ_=>d8) .ret (λid=>.exit id) o
theorem Nf2(o:Option Nat):xit o≠.normal:=by cases o<;>exact λh=>by cases h
abbrev Xs(π σ:Type):=List (Option Nat×(π->σ->St))
def xOf{π σ:Type}(xs:Xs π σ)(p:π)(s:σ)(t:Nat):Nat->Option (d8×St) :=
 List.rec (motive:=λ_=>Nat->Option (d8×St)) (λ_=>none) (λx _ ih k=>sel (Nat.beq t k) (some (xit x.1,x.2 p s)) (ih (k+1))) xs
def Nf3{π σ:Type}(xs:Xs π σ)(p:π)(r:Nat×σ):Nat->DT (d8×St) :=
 List.rec (motive:=λ_=>Nat->DT (d8×St)) (λ_=>.fail) (λx _ ih k=>.ite (Nat.beq r.1 k) (.ret (xit x.1,x.2 p r.2)) (ih (k+1))) xs
theorem ke0{π σ:Type}(p:π)(r:Nat×σ):∀(xs:Xs π σ) (k:Nat),(Nf3 xs p r k).run=xOf xs p r.2 r.1 k
 |[],k=>rfl
 |x::xs,k=>by
  show (DT.ite (Nat.beq r.1 k) (.ret (xit x.1,x.2 p r.2)) (Nf3 xs p r (k+1))).run=sel (Nat.beq r.1 k) (some (xit x.1,x.2 p r.2)) (xOf xs p r.2 r.1 (k+1));rw[DT.run_ite,ke0 p r xs (k+1)];cases Nat.beq r.1 k<;>rfl
theorem vd0{π σ:Type}(p:π)(s:σ):∀(xs:Xs π σ) (k:Nat),xOf xs p s 0 (k+1)=none
 |[],_=>rfl
 |_::xs,k=>vd0 p s xs (k+1)
theorem He9{π σ:Type}{p:π}{s:σ}{t:Nat}{e:d8×St}:∀{xs:Xs π σ} {k:Nat},xOf xs p s t k=some e->e.1≠.normal
 |[],_,h=>by cases h
 |x::xs,k,h=>by
  have h:sel (Nat.beq t k) (some (xit x.1,x.2 p s)) (xOf xs p s t (k+1))=some e:=h;cases hb:Nat.beq t k with
  |true=>rw[hb] at h;cases h;exact Nf2 _
  |false=>rw[hb] at h;exact He9 h
theorem ke1{π σ:Type}{head:St->DT St}{body:St->DT (d8×St)}{enc:σ->St}{step:σ->Stp σ}{xs:Xs π σ}{p:π}
  (h:∀s,(bc4 head body (enc s)).run=pc4 (λs'=>some (.normal,enc s')) (λt=>xOf xs p s t 1) none (step s)) :
  ∀(n:Nat) (s:σ) (e:d8×St),xOf xs p (lp0 step n s).2 (lp0 step n s).1 1=some e->(Ic4 head body n (enc s)).run=some e
 |n,s,e,he=>by
  have hr:=h s;cases hs:step s with
  |fail =>
   have h0:lp0 step n s=(0,s):=by
    cases n with
    |zero=>show pc4 _ _ _ (step s)=_;rw[hs]
    |succ n=>show pc4 _ _ _ (step s)=_;rw[hs]
   rw[h0] at he;rw[show xOf xs p s 0 1=none from vd0 p s xs 0] at he
   cases he
  |exit t =>
   rw[ud3 hs] at he;rw[hs] at hr;have hr:(bc4 head body (enc s)).run=xOf xs p s t 1:=hr;have he:xOf xs p s t 1=some e:=he;rw[he] at hr;obtain⟨x,t'⟩:=e;exact uf1 hr (He9 he)
  |next s' =>
   cases n with
   |zero =>
    have h0:lp0 step 0 s=(0,s):=by show pc4 _ _ _ (step s)=_;rw[hs]
    rw[h0] at he;rw[show xOf xs p s 0 1=none from vd0 p s xs 0] at he
    cases he
   |succ n =>
    rw[je4 hs] at he;rw[hs] at hr;exact uf0 hr (ke1 h n s' e he)
section
variable{π σ:Type}
def Nd4(head:Nat->List Nat->St->DT St)(k:Nat)(keep:List Nat)(alts:List (Al2 π σ))(step:π->σ->Stp σ)(xs:Xs π σ)(s:St):DT (d8×St) :=
 (head k keep s).bind λt=>(vf4 alts t).bind λq=>Nf3 xs q.1 (lp (step q.1) q.2) 1
structure pc8(head:Nat->List Nat->St->DT St)(k:Nat)(keep:List Nat)(body:St->DT (d8×St))(alts:List (Al2 π σ))(step:π->σ->Stp σ)(xs:Xs π σ)(enc:π->σ->St):Prop where
 ha:ib2 (λx=>∀a H,(⟨Re6 x.sh a,Re7 x.bl H⟩:St)=enc (x.rd a H).1 (x.rd a H).2) alts
 h:∀p s,(bc4 (head k keep) body (enc p s)).run=pc4 (λs'=>some (.normal,enc p s')) (λt=>xOf xs p s t 1) none (step p s)
variable{E:Env}{k:Nat}{res:List Wc4}{keep:List Nat}{alts:List (Al2 π σ)}{enc:π->σ->St}{step:π->σ->Stp σ}{xs:Xs π σ}{body:PS}{c:PC}{head:Nat->List Nat->St->DT St}{bd:St->DT (d8×St)}
theorem pc8.go(w:pc8 head k keep bd alts step xs enc){s:St}{r:d8×St}(hr:(Nd4 head k keep alts step xs s).run=some r):∃t,(head k keep s).run=some t/\(Ic4 (head k keep) bd rounds t).run=some r:=by
 obtain⟨t,h1,h2⟩:=DT.run_bind_some hr;obtain⟨q,h3,h4⟩:=DT.run_bind_some h2;rw[ke0,bf1] at h4;have e:=Wd3 w.ha.mem h3;refine⟨t,h1,?_⟩;rw[e];exact ke1 (w.h q.1) rounds q.2 r h4
theorem pc8.belowC(hb:xa5 E k res body c)(hN:E.N=rounds+1)(w:pc8 pc3 k keep (He1 E k res body) alts step xs enc)(s:St):qa8 k res (Nd4 pc3 k keep alts step xs s) (P0 E k (.loop keep c) s):=λr hr=>by
 obtain⟨t,h1,h2⟩:=w.go hr;rw[Nd3,hN];exact pc5 hb.le _ _ r (yc9 h1 h2)
end
inductive RT where
 |p
 |s (a c:RT)
 |c (x y:RT)
 |b (c:RT)
 |l (c:RT)
 |i (c:RT)
 |u (S:St->DT (d8×St))
def Fd7:RT->PC->PS
 |.s a b,.seq x y=>.seq (Fd7 a x) (Fd7 b y)
 |.c a b,.cond g x y=>.cond g (Fd7 a x) (Fd7 b y)
 |.b a,.block id x=>.block id (Fd7 a x)
 |.l a,.loop keep x=>.loop keep (Fd7 a x)
 |.u S,_=>.sum S
 |_,c=>.pc c
def Bc6:RT->PC->List ((St->DT (d8×St))×PC)
 |.s a b,.seq x y=>app (Bc6 a x) (Bc6 b y)
 |.c a b,.cond _ x y=>app (Bc6 a x) (Bc6 b y)
 |.b a,.block _ x=>Bc6 a x
 |.l a,.loop _ x=>Bc6 a x
 |.i a,.inner _ _ _ x=>Bc6 a x
 |.u S,c=>[(S,c)]
 |_,_=>[]
theorem ib2.app{α:Type}{Q:α->Prop}:∀{l r:List α},ib2 Q (Go.Ev.app l r)->ib2 Q l/\ib2 Q r
 |[],_,h=>⟨.nil,h⟩
 |_::l,_,.cons h t=>⟨.cons h (ib2.app t).1,(ib2.app t).2⟩
theorem Ie0{E:Env}{k:Nat}{res:List Wc4}(rt:RT)(c:PC):ib2 (λx=>∀s,qa8 k res (x.1 s) (P0 E k x.2 s)) (Bc6 rt c)->xa5 E k res (Fd7 rt c) c:=by
 induction rt generalizing c with
 |p=>intro h;cases c<;>exact .pc _
 |s a b iha ihb =>
  intro h;cases c with
  |seq x y=>exact .seq (iha x (ib2.app h).1) (ihb y (ib2.app h).2)
  |_=>exact .pc _
 |c a b iha ihb =>
  intro h;cases c with
  |cond g x y=>exact .cond g (iha x (ib2.app h).1) (ihb y (ib2.app h).2)
  |_=>exact .pc _
 |b a iha =>
  intro h;cases c with
  |block id x=>exact .block id (iha x h)
  |_=>exact .pc _
 |l a iha =>
  intro h;cases c with
  |loop keep x=>exact .loop keep (iha x h)
  |_=>exact .pc _
 |i a iha=>intro h;cases c<;>exact .pc _
 |u S =>
  intro h
  have:Bc6 (.u S) c=[(S,c)]:=by cases c<;>rfl
  rw[this] at h;cases h with
  |cons h t =>
   have e:Fd7 (.u S) c=.sum S:=by cases c<;>rfl
   rw[e];exact .sum h
def eg2(l:List Nat)(c:PC):PC :=
 List.rec (motive:=λ_=>PC->PC) (λc=>c) (λn _ ih c=>match c with
  |.seq x y=>ih (match n with | 0=>x | _=>y)
  |.cond _ x y=>ih (match n with | 2=>x | _=>y)
  |.block _ x=>ih x
  |.loop _ x=>ih x
  |.loopM _ x=>ih x
  |.inner _ _ _ x=>ih x
  |c=>c) l c
end Go.Ev.L
namespace Go.Ev.L
open Go Go.Ev Go.Sort Go.Proofs
section
variable{α:Type}[Inhabited α]{P:Program}{G:Nat->List Value}{g:FuncId}{S:Sum}{t:Ty α}{enc:α->List Value}{cf:α->α->Int}
theorem vf5(hc:g9 P G g S)(hS:∀x y,(S [.agg (t.row x),.agg (t.row y)] []).run=some (i (cf x y),[]))(hG:∀n,G n=[])(he:∀x,t.row x=(enc x).map .v)(k blk off size:Nat)(w:World) :
  CmpLays P g #[] enc k cf blk off size w:=by
 intro m os dk _ x y;generalize sortWorldK enc k w blk off m dk os=w0;have hrow:∀(z:α),qa6 (λ_=>⟨0,0,0⟩) [] (λ_ _=>False) w0 (.agg (t.row z)) (.agg (enc z).toArray):=λz=>by
  refine .agg _ _ (by rw[he];simp) λi u u' hu hu'=>?_
  rw[he,Qde] at hu;have hu':(enc z)[i]?=some u':=by simpa using hu'
  rw[hu'] at hu;injection hu with hu;subst hu;exact .v _
 obtain⟨_,h⟩:=hc _ _ _ _ (hS x y) (λk=>w0.heap.size<=k) (λ_=>⟨0,0,0⟩) (λ_ _=>False) w0 [.agg (enc x).toArray,.agg (enc y).toArray]
  ⟨λid b hb=>by simp at hb,λid id' b b' hb=>by simp at hb,λb o hf=>hf.elim,λk hk=>hk⟩ rfl
  (λi u u' hu hu'=>by
   match i,hu,hu' with
   |0,hu,hu'=>cases hu;cases hu';exact .val (hrow x)
   |1,hu,hu'=>cases hu;cases hu';exact .val (hrow y))
  (λn c v hv=>by rw[hG] at hv;simp at hv)
 refine h.mono λe w' ⟨r',h1,ρ',F',h2,h3,h4⟩=>?_
 have h5:=ga5 h4;subst h5;refine⟨h1,w'.drawn-w0.drawn,w'.heap.extract w0.heap.size w'.heap.size,?_⟩;have hd:=h2.ext.drawn;have hs:=h2.ext.size;have hheap:w'.heap=w0.heap++w'.heap.extract w0.heap.size w'.heap.size:=by
  apply Array.ext_getElem?;intro j
  rcases Qdk j w0.heap.size with hj|hj
  ·rw[Qdl hj,h2.ext.block j hj (by omega)]
  ·rw[Array.getElem?_append_right hj,Array.getElem?_extract];have e:w0.heap.size+(j-w0.heap.size)=j:=by omega
   rw[e];split
   ·rfl
   ·rw[Qdz (by omega)]
 obtain⟨hp,tp,dr,os',out⟩:=w';have e1:=h2.ext.os;have e2:=h2.ext.tape;have e3:=h2.ext.output
 simp only at e1 e2 e3 hd hheap
 subst e1 e2 e3;unfold grow World.drewN
 simp only
 congr 1;omega
def cf3(t:Ty α)(g:Nat)(et:Nat)(srt:List α->List α):Sum:=λargs blks=>match args,blks with
 |[.sl 0 0 n 0,.fn g' []],[⟨et',es',el,true,false,0⟩] =>
  Bool.rec (motive:=λ_=>DT (c7×List c8)) .fail (.guard (Bool.and (Nat.ble n room) (Bool.and (Nat.ble n (len el)) (okS t el 0 n))) (.ret (.v (.tuple #[]),[⟨et',es',app (bL t (srt (slR t el 0 n))) (j7 el n),true,false,0⟩])))
   (Bool.and (Nat.beq g' g) (Bool.and (Nat.beq et' et) (Nat.beq es' t.es)))
 |_,_=>.fail
theorem Pc6(l:List α)(j:Nat)(h:j<l.length):l.toArray[j]! = l[j]:=by
 rw[getElem!_pos l.toArray j (by simpa using h)]
 simp
theorem vf6{f:FuncId}{et:Nat}{srt:List α->List α}(hcall:Gb4 P f)(hes:0<t.es)(he:∀x,t.row x=(enc x).map .v)(hx:∀r,t.ok r=true->r=t.row (t.rd r))(h1:∀x,∀v∈enc x,v.oneCell'=true)
  (hlen:∀l,(srt l).length=l.length) (hcl:∀blk off size w,CmpLays P g #[] enc t.es cf blk off size w)
  (hcon:∀(blk cap:Nat) (d:Array α) (w:World),(∀off size,CmpLays P g #[] enc t.es cf blk off size w)->HoldsK enc t.es w blk 0 d->blk<w.heap.size->d.size<4611686018427387904 ->
   Calls P f #[.slice (some ⟨blk,0,none⟩) d.size cap,.func (.func g) #[] #[]] w λe w'=>e=.returned (.tuple #[])/\∃n os,w'=sortWorldK enc t.es w blk 0 n (srt d.toList).toArray os) :
  g9 P G f (cf3 t g et srt):=by
 intro args blks r out hr W ρ F w args' hH hl hargs hG;refine⟨hcall,?_⟩;unfold cf3 at hr
 split at hr
 case h_2=>cases hr
 rename_i n g' et' es' el;cases hb0:Bool.and (Nat.beq g' g) (Bool.and (Nat.beq et' et) (Nat.beq es' t.es)) with
 |false=>rw[hb0] at hr;cases hr
 |true =>
 rw[hb0] at hr;rw[Qdb,Qdb] at hb0;have q1:=Qda hb0.1;have q2:=Qda hb0.2.1;have q3:=Qda hb0.2.2;subst q1 q2 q3;obtain⟨hg0,hr⟩:=DT.run_guard_some hr;rw[Qdb,Qdb] at hg0;have hroom:n<=room:=Qdaa hg0.1;have hn:=Qdaa hg0.2.1;rw[n9] at hn;have hok:=hg0.2.2;injection hr with hr;injection hr with p1 p2;subst p1 p2
 match args',hl with
 |[v0,v1],_ =>
 obtain⟨a,cap,b,rfl,hb,hd,_,hncap,hspot,hcap,hq⟩:=Ya5 (hargs 0 _ _ rfl rfl);obtain⟨vs1,rfl,hvs1,_⟩:=Rb7 (hargs 1 _ _ rfl rfl);have hvs1:vs1=#[]:=Array.eq_empty_of_size_eq_zero (by simpa using hvs1.symm)
 subst hvs1;rw[Fb0] at *
 have hb:b=⟨et',t.es,el,true,false,0⟩:=by simpa using hb.symm
 subst hb;obtain⟨ha,hsz,hne⟩:=hq rfl;have ha:a=⟨(ρ 0).blk,(ρ 0).off+0*t.es,none⟩:=ha.resolve_left λh=>by omega
 obtain⟨cc,tt,fr,hB⟩:=hH.blk 0 _ rfl rfl;obtain⟨hfr,hW,hoff,hsize,hnF,het⟩:=hB.own rfl;subst hfr;rw[hoff,Nat.zero_mul,Nat.add_zero] at ha;subst ha;generalize hbk:(ρ 0).blk=blk at *
 -- the rows asq data
 have hrow:∀j,j<n->d9 el j=(enc (gL t (slR t el 0 n) j)).map .v:=λj hj=>by
  have h2:t.ok (d9 el (0+j))=true:=Qdx.1 hok j (by simpa using hj)
  rw[Qdf] at h2;rw[<- he,slR,He3 t _ hj,Qdf];exact hx _ h2
 have hld:(slR t el 0 n).length=n:=He2 ..;have hk:∀x,(enc x).length=t.es:=λx=>by have:=t.h0 x;rw[n9,he] at this;simpa using this
 have hlt:blk<w.heap.size:=by
  have:=hB.obj
  rcases Qdk blk w.heap.size with h|h
  ·exact h
  ·rw[hbk,Qdz h] at this;cases this
 have hobj:w.heap[blk]?=some (.cells cc tt (0,0)):=by rw[<- hbk];exact hB.obj
 have hgd:∀(l:List α) (j:Nat) (h:j<l.length),gL t l j=l[j]:=λl j h=>by simp[gL,Qdg,Qdc h]
 have hdm:∀q,q<n*t.es->q / t.es<n/\q % t.es<t.es/\(q / t.es)*t.es+q % t.es=q:=λq hq=>⟨Nat.div_lt_of_lt_mul (by rw[Nat.mul_comm];exact hq),Nat.mod_lt _ hes,Nat.div_add_mod' q t.es⟩
 have hrowAt:∀j,j<el.length->el[j]?=some (d9 el j):=λj hj=>by
  unfold d9;rw[E2,Qdc hj]
 have hH0:HoldsK enc t.es w blk 0 (slR t el 0 n).toArray:=by
  intro q hq;have hq:q<n*t.es:=by rw[size_flatK] at hq;simpa [hld] using hq
  obtain⟨e1,e2,e3⟩:=hdm q hq;rw[get_flatK _ _ _ _ (by simpa [hld] using hq),Pc6 _ _ (by rw[hld];exact e1),<- hgd _ _ (by rw[hld];exact e1)]
  have hcx:(d9 el (q / t.es))[q % t.es]?=some (.v ((enc (gL t (slR t el 0 n) (q / t.es)))[q % t.es]!)):=by
   rw[hrow _ e1,Qde,Qdc (by rw[hk];exact e2),getElem!_pos _ _ (by rw[hk];exact e2)]
   rfl
  obtain⟨x',h5,h6⟩:=hB.cell (q / t.es) _ (q % t.es) _ (hrowAt _ (by omega)) hcx
  have h6:x'=(enc (gL t (slR t el 0 n) (q / t.es)))[q % t.es]! :=by cases h6;rfl
  subst h6;rw[hoff] at h5;simp only[e3,Qdf] at h5;constructor
  ·simp only[World.cell?,hobj,Qdf];simpa using h5
  ·simp[World.frozen?,hobj]
 have hds:(slR t el 0 n).toArray.size=n:=by simpa using hld
 have hmax:n<4611686018427387904:=by unfold room at hroom;omega
 have hcalls:=hcon blk cap (slR t el 0 n).toArray w (λoff size=>hcl blk off size w) hH0 hlt (by rw[hds];exact hmax)
 rw[hds] at hcalls;refine hcalls.mono λe w' ⟨h5,m,os,h6⟩=>⟨_,h5,ρ,F,?_⟩
 generalize hsd:srt (slR t el 0 n)=sd at *
 have hsl:sd.length=n:=by rw[<- hsd,hlen,hld]
 have h6:w'=grow (mapBlock (Sort.ahead w m) blk (putCells id 0 (flatK enc t.es sd.toArray))) os:=h6;have hw'size:w'.heap.size=w.heap.size+os.size:=by rw[h6];simp[mapBlock]
 have hold:∀k,k<w.heap.size->k≠blk->w'.heap[k]?=w.heap[k]?:=λk h7 h8=>by
  rw[h6];simp only[grow,mapBlock];rw[Qdl (by simpa using h7),Qdab]
  simp[Ne.symm h8]
 have hnew:w'.heap[blk]?=some (.cells (putCells id 0 (flatK enc t.es sd.toArray) cc) tt (0,0)):=by
  rw[h6];simp only[grow,mapBlock];rw[Qdl (by simpa using hlt),Qdab]
  simp[hobj,onCells]
 have hcells:∀b o,F b o->w'.cell? ⟨b,o,none⟩=w.cell? ⟨b,o,none⟩:=λb o hf=>by
  have h7:b≠blk:=λh8=>hnF o (h8 ▸ hf)
  have:=ac6 (hH.frz b o hf)
  simp only[World.cell?,hold b this h7]
 have hpc:∀q,q<cc.size->(putCells id 0 (flatK enc t.es sd.toArray) cc)[q]?=if q<n*t.es then some ((enc sd.toArray[q / t.es]!)[q % t.es]!) else cc[q]?:=λq hq=>by
  simp only[putCells,Array.getElem?_mapIdx,Array.getElem?_eq_getElem hq,Option.map_some,size_flatK,Nat.zero_le,true_and,Qdf,Nat.sub_zero,id]
  have:sd.toArray.size=n:=by simpa using hsl
  rw[this];split
  ·next h7=>rw[get_flatK _ _ _ _ (by rw[this];exact h7)]
  ·rfl
 have hel:(app (bL t sd) (j7 el n)).length=el.length:=by
  rw[I5,Qdt,<- n9 (bL t sd),ja7,hsl,I4,List.length_drop];omega
 have hnrow:∀(j:Nat) r,(app (bL t sd) (j7 el n))[j]?=some r->(j<n/\r=t.row (gL t sd j))\/(n<=j/\el[j]?=some r):=λj r hr=>by
  have hlb:(bL t sd).length=n:=by rw[<- n9,ja7,hsl]
  rw[I5] at hr
  rcases Qdk j n with h7|h7
  ·rw[Qdh (by omega)] at hr
   left;refine⟨h7,?_⟩;unfold bL at hr;rw[l9,Qde,Qdc (by omega)] at hr
   injection hr with hr;rw[<- hr,hgd sd j (by omega)]
  ·rw[Qdm (by omega),hlb,I4,List.getElem?_drop] at hr
   right;exact⟨h7,by rw[<- hr];congr 1;omega⟩
 have hcs:el.length*t.es<=cc.size:=by have:=hB.len;rw[hsize] at this;exact this
 refine⟨⟨⟨?_,?_,?_,by omega,λk h7 h8=>hold k h7 λh9=>h8 (h9 ▸ hW),hcells,?_⟩,λid b hb=>?_,λ_ _ h=>h,λ_ _ h=>.inl h,λid b' hb' hn'=>?_⟩,⟨λid b hb hd'=>?_,λid id' b b' hb hb' h7 h8 h9 h10=>?_,λb o hf=>by rw[hcells b o hf];exact hH.frz b o hf,λk hk'=>hH.new k (by omega)⟩,.ofv _⟩
 ·rw[h6];rfl
 ·rw[h6];rfl
 ·rw[h6];rfl
 ·rw[h6];exact Nat.le_add_right _ _
 ·match id,hb with
  |0,hb =>
   cases hb;exact⟨_,rfl,rfl,Qdn _,λ_=>⟨rfl,rfl,by simp only[hel];exact Qdn _⟩⟩
 ·match id,hb' with
  |0,hb'=>cases hb';exact absurd rfl (hn' ⟨et',t.es,el,true,false,0⟩ rfl)
 ·match id,hb with
  |0,hb =>
   cases hb;refine⟨_,tt,(0,0),by rw[hbk];exact hnew,?_,?_,?_,?_,λ_=>⟨rfl,by rw[hbk];exact hW,hoff,?_,by rw[hbk];exact hnF,het⟩,λh=>by cases h⟩
   ·rw[hoff,hsize];simp[putCells]
   ·simp only[hel];exact hB.len
   ·intro j r hr
    rcases hnrow j r hr with⟨_,h8⟩|⟨_,h8⟩
    ·rw[h8,<- n9];exact t.h0 _
    ·exact hB.rows j r h8
   ·intro j r c x hr hc;rw[hoff,Qdf]
    rcases hnrow j r hr with⟨h7,h8⟩|⟨h7,h8⟩
    ·subst h8;have hclt:c<t.es:=by
      have:=(Qdd.1 hc).1
      rw[<- n9,t.h0] at this;exact this
     have hq:j*t.es+c<n*t.es:=by
      have:=Qdr t.es (show j+1<=n from h7)
      rw[Nat.add_mul,Nat.one_mul] at this;omega
     have hqn:n*t.es<=el.length*t.es:=Qdr _ hn;have e1:(j*t.es+c) / t.es=j:=by rw[Nat.mul_comm,Nat.mul_add_div hes,Nat.div_eq_of_lt hclt,Nat.add_zero]
     have e2:(j*t.es+c) % t.es=c:=by rw[Nat.mul_comm,Nat.mul_add_mod,Nat.mod_eq_of_lt hclt]
     rw[he,Qde,Qdc (by rw[hk];exact hclt)] at hc
     injection hc with hc;subst hc;refine⟨(enc (gL t sd j))[c]'(by rw[hk];exact hclt),?_,.v _ (h1 _ _ (List.getElem_mem _))⟩
     rw[hpc _ (Qdo hq (Qdw hqn hcs)),if_pos hq,e1,e2,Pc6 _ _ (by omega),hgd sd j (by omega),getElem!_pos _ _ (by rw[hk];exact hclt)]
    ·obtain⟨x',h9,h10⟩:=hB.cell j r c x h8 hc;rw[hoff,Qdf] at h9;have hq:¬ j*t.es+c<n*t.es:=by
      have:=Qdr t.es h7
      omega
     have hlt':j*t.es+c<cc.size:=(Qdu.1 h9).1;exact⟨x',by rw[hpc _ hlt',if_neg hq];exact h9,h10.adv (λ_ _ h=>h) hcells⟩
   ·rw[hsize];simp[putCells]
 ·match id,hb,id',hb' with
  |0,hb,0,hb'=>exact absurd rfl h10
end
end Go.Ev.L
namespace Go.Ev
open Go
def FW(F:Fence):Prop:=∃r,F={ Fence.wide with round:=r }
theorem FW.wide:FW Fence.wide:=⟨none,rfl⟩
theorem FW.inRound(l:Nat):FW (Fence.wide.inRound l):=⟨some l,rfl⟩
section
variable{F:Fence}{n:Nat}{P:Program}
theorem FW.fn(h:FW F)(f:FuncId):F.fn f:=by obtain⟨r,rfl⟩:=h;trivial
theorem FW.dep(h:FW F):F.depth=none:=by obtain⟨r,rfl⟩:=h;rfl
theorem FW.depS(h:FW F){p:Prop}:F.depth.isSome=true->p:=λhd=>by rw[h.dep] at hd;cases hd
theorem FW.fenced(h:FW F):Machine.fenced P F=Machine.fenced P Fence.wide:=by obtain⟨r,rfl⟩:=h;rfl
theorem FW.room(h:FW F)(k:Nat):F.room k:=λd hd=>by rw[h.dep] at hd;cases hd
theorem FW.calls(h:FW F){f:FuncId}{args:Array Value}{w:World}{R:Ending->World->Prop}:CallsIn F n P f args w R↔Calls P f args w R:=by
 refine Iff.trans ?_ (callsIn_wide (n:=n));obtain⟨r,rfl⟩:=h;exact⟨λh=>h,λh=>h⟩
theorem FW.rows(h:FW F){row:String}{args:Array Value}{w:World}{R:Value->World->Prop}(hr:Rows P row args w R):RowsIn F n P row args w R:=λc cs _=>by
 obtain⟨v,w',h1,h2⟩:=hr c cs;refine⟨v,w',h1,?_⟩;rw[h.fenced];exact stepsIn_wide.2 h2
end
section
variable{P:Program}{o:Oper}{ac:Act}{w:World}{post:Value->World->Prop}
theorem j5.inAny(h:j5 P o { ac with defers:=[] } w post){F:Fence}(hF:FW F)(n:Nat)(next:Act->World->Prop)(Q:Exit->Act->World->Prop)(hp:∀x' w',post x' w'->next (ac.put o.dst x') w'):o.wpIn F n P ac w next Q:=by
 have hput:∀v,({ ac with defers:=[] }:Act).put o.dst v={ ac.put o.dst v with defers:=[] }:=λv=>by cases o.dst<;>rfl
 have hinj:∀v x',({ ac with defers:=[] }:Act).put o.dst v=({ ac with defers:=[] }:Act).put o.dst x'->ac.put o.dst v=ac.put o.dst x':=λv x' e=>by
  rw[hput,hput] at e;have e1:=congrArg Act.tmps e
  revert e1
  cases o.dst with
  |none=>intro _;rfl
  |some d=>intro e1;show ({ ac with tmps:=_ }:Act)={ ac with tmps:=_ };congr 1
 have hnd:∀c,o.op≠.defer c:=λc hc=>by
  have h0:=h (λa' _=>a'.defers=[]) (λ_ _ _=>False) (λx' w' _=>by rw[hput])
  unfold Oper.wp at h0;have e:execOp ({ ac with defers:=[] }:Act).eval o=(do return .defer (<- resolve ({ ac with defers:=[] }:Act).eval c o.type)):=by unfold execOp;simp[hc]
  rw[e] at h0;simp only[Sem.run_bind] at h0;cases hr:(resolve ({ ac with defers:=[] }:Act).eval c o.type).run P w with
  |ok d w1 =>
   rw[hr] at h0;have h0:({ ({ ac with defers:=[] }:Act) with defers:=d::[] }.put o.dst undef).defers=[]:=h0
   revert h0
   cases o.dst<;>intro h0<;>cases h0
  |halt x w1 =>
   rw[hr] at h0;cases x<;>exact h0
 have h0:=h (λa' w'=>∃x',post x' w'/\a'=({ ac with defers:=[] }:Act).put o.dst x') (λ_ _ _=>False) (λx' w' hx=>⟨x',hx,rfl⟩)
 unfold Oper.wp at h0;refine⟨λf _=>hF.fn f,?_⟩
 rw[Oper.semAt_eq _ _ _ hnd];have hev:(execOp ac.eval o)=execOp ({ ac with defers:=[] }:Act).eval o:=rfl
 rw[hev]
 revert h0
 generalize (execOp ({ ac with defers:=[] }:Act).eval o).run P w=r
 intro h0;have hnext:∀v w',(∃x',post x' w'/\({ ac with defers:=[] }:Act).put o.dst v=({ ac with defers:=[] }:Act).put o.dst x')->next (ac.put o.dst v) w':=λv w' ⟨x',h1,h2⟩=>by
  rw[hinj v x' h2];exact hp x' w' h1
 cases r with
 |ok q w' =>
  cases q with
  |value v=>exact hnext v w' h0
  |skip=>exact hnext undef w' h0
  |defer d =>
   obtain⟨x',_,h2⟩:=h0;rw[hput] at h2
   have:=congrArg Act.defers h2
   revert this
   cases o.dst<;>intro h<;>cases h
  |enter f args =>
   refine⟨λhd=>hF.depS hd,hF.calls.2 ?_⟩
   have h0:Calls P f args w' _:=h0;refine h0.mono λe w'' he=>?_
   cases e with
   |returned v=>exact hnext v w'' he
   |panicked ch=>exact he.elim
   |outgrown=>obtain⟨a0,w0,hq⟩:=he;exact hq.elim
  |row row args =>
   refine⟨λhd=>hF.depS hd,hF.rows ?_⟩
   have h0:Rows P row args w' _:=h0;exact λc cs=>by
    obtain⟨v,w'',h1,h2⟩:=h0 c cs;exact⟨v,w'',hnext v w'' h1,h2⟩
  |round l f tmps asq body=>exact h0.elim
  |_=>exact h0.elim
 |halt x w' =>
  cases x with
  |panic v=>exact h0.elim
  |_=>exact h0.elim
end
section
variable{W W' WB:Nat->Prop}{ρ ρ0 ρ':Rho}{H H0 H1:List c8}{F F0 F':Fz}{w w0 w':World}{P:Program}
theorem Hb0(H:List c8):n8 H=H.map λb=>Bool.rec (motive:=λ_=>c8) b { b with dead:=true } (E1 b):=by unfold n8;rw[l9]
theorem Re8:(n8 H).length=H.length:=by rw[Hb0];simp
theorem ja8{id:Nat}{b:c8}(hb:H[id]?=some b)(hs:E1 b=false):(n8 H)[id]?=some b:=by
 rw[Hb0,Qde,hb];simp[hs]
theorem vd1{id:Nat}{b:c8}(hb:H[id]?=some b)(hs:E1 b=true):(n8 H)[id]?=some { b with dead:=true }:=by
 rw[Hb0,Qde,hb];simp[hs]
theorem oa3{id:Nat}{b:c8}(hb:(n8 H)[id]?=some b)(hd:b.dead=false):H[id]?=some b/\E1 b=false:=by
 rw[Hb0,Qde] at hb;cases h:H[id]? with
 |none=>rw[h] at hb;cases hb
 |some c =>
  rw[h] at hb;cases hs:E1 c with
  |false=>simp[hs] at hb;subst hb;exact⟨rfl,hs⟩
  |true=>simp[hs] at hb;subst hb;cases hd
def Pc7(H:List c8)(id:Nat):Prop:=∃b,H[id]?=some b/\E1 b=true
def ρsp(H:List c8)(ρ ρ':Rho):Rho:=λid=>@ite _ (Pc7 H id) (Classical.propDecidable _) (ρ id) (ρ' id)
theorem ρsp_on{id:Nat}(h:Pc7 H id):ρsp H ρ ρ' id=ρ id:=by unfold ρsp;rw[if_pos h]
theorem ρsp_off{id:Nat}(h:¬ Pc7 H id):ρsp H ρ ρ' id=ρ' id:=by unfold ρsp;rw[if_neg h]
theorem ke2:∀(H1:List c8),lc3 [] H1=true->∀(id:Nat) c,H1[id]?=some c->E1 c=false
 |[],_,id,c,hc=>by simp at hc
 |d::r,ho,id,c,hc=>by
  have ho:Bool.and (Bool.rec (motive:=λ_=>Bool) true false (E1 d)) (lc3 [] r)=true:=ho
  simp only[Qdb] at ho;cases id with
  |zero =>
   simp at hc;subst hc
   have:=ho.1
   cases h:E1 d with
   |false=>rfl
   |true=>rw[h] at this;cases this
  |succ id=>exact ke2 r ho.2 id c (by simpa using hc)
theorem vd2:∀(H H1:List c8),H.length<=H1.length->lc3 H H1=true->(C3 H H1).length=H1.length /\
  (∀(id:Nat) b,H[id]?=some b->E1 b=true->(C3 H H1)[id]?=some b) /\
  (∀(id:Nat),¬ Pc7 H id->(C3 H H1)[id]?=H1[id]?/\∀c,H1[id]?=some c->E1 c=false)
 |[],H1,_,ho=>by
  refine⟨rfl,λid b hb=>by simp at hb,λid _=>⟨rfl,λc hc=>?_⟩⟩
  exact ke2 H1 ho id c hc
 |b::H,[],hl,_=>by simp at hl
 |b::H,c::H1,hl,ho=>by
  have ho:Bool.and (Bool.rec (motive:=λ_=>Bool) (Bool.rec true false (E1 c)) true (E1 b)) (lc3 H H1)=true:=ho
  simp only[Qdb] at ho;obtain⟨h1,h2,h3⟩:=vd2 H H1 (by simpa using hl) ho.2
  have e:C3 (b::H) (c::H1)=Bool.rec (motive:=λ_=>c8) c b (E1 b)::C3 H H1:=rfl
  rw[e];refine⟨by simp[h1],λid d hd hs=>?_,λid hn=>?_⟩
  ·cases id with
   |zero=>simp at hd;subst hd;simp[hs]
   |succ id=>simpa using h2 id d (by simpa using hd) hs
  ·cases id with
   |zero =>
    have hb:E1 b=false:=by
     cases h:E1 b with
     |false=>rfl
     |true=>exact absurd ⟨b,rfl,h⟩ hn
    rw[hb] at ho ⊢;refine⟨rfl,λd hd=>?_⟩
    simp at hd;subst hd
    have:=ho.1
    cases h:E1 c with
    |false=>rfl
    |true=>rw[h] at this;cases this
   |succ id =>
    obtain⟨k1,k2⟩:=h3 id λ⟨d,hd,hs⟩=>hn ⟨d,by simpa using hd,hs⟩
    exact⟨by simpa using k1,λd hd=>k2 d (by simpa using hd)⟩
def Nd5(b:c8):Prop:=b.es=0/\b.et=0
def ke3(t:Nat)(b:c8):Prop:=b.es=0/\b.et=t+1
inductive XC (ρ:Rho) (H:List c8) (F:Fz) (w:World):c7->Value->Prop
 |n {x:c7} {x':Value} (h:ga3 ρ (n8 H) F w x x'):XC ρ H F w x x'
 |box (id c g:Nat) (b:c8) (hb:H[id]?=some b) (hd:b.dead=false) (he:Nd5 b):XC ρ H F w (.ptr id 0 c g) (.pointer (some ⟨(ρ id).blk,c,none⟩))
 |map (id c g:Nat) (b:c8) (t:Nat) (hb:H[id]?=some b) (hd:b.dead=false) (he:ke3 t b):XC ρ H F w (.ptr id 0 c g) (.map (some (ρ id).blk))
inductive XW (ρ:Rho) (H:List c8) (F:Fz) (w:World):c7->Value->Prop
 |w {x:c7} {x':Value} (h:J7 ρ (n8 H) F w x x'):XW ρ H F w x x'
 |c {x:c7} {x':Value} (h:XC ρ H F w x x'):XW ρ H F w x x'
theorem ib3{b:c8}(h:Nd5 b):E1 b=true:=by unfold E1;rw[h.1];rfl
theorem ob6{b:c8}{t:Nat}(h:ke3 t b):E1 b=true:=by unfold E1;rw[h.1];rfl
theorem XC.one{x:c7}{x':Value}(h:XC ρ H F w x x')(hb:ve7 x=true):x'.oneCell'=true:=by
 cases h with
 |n h =>
  cases h with
  |mem h=>exact h.one
  |v=>exact (by rw[<- xc6];exact hb)
  |ptr=>rfl
  |sl=>rfl
  |tptr=>cases hb
  |unk=>cases hb
 |box=>rfl
 |map=>rfl
structure Nf4(ρ:Rho)(H:List c8)(F:Fz)(w:World)(b:c8)(blk:Nat):Prop where
 et:Nd5 b
 has:∃row vs t,b.elems=[row]/\w.heap[blk]?=some (.cells vs t (0,0))/\row.length<=vs.size/\∀(c:Nat) x x',row[c]?=some x->vs[c]?=some x'->x'.oneCell'=true/\XC ρ H F w x x'
def vd3(fl:List (Nat×CK))(kl:Nat)(r:List c7)(e:MapEntry):Prop:=∃(ks:Array Value) (v:Bool),r=ks.toList.map .v++[.v (.bool v)]/\ks.size=kl/\e.key=.agg ks/\e.val=.bool v/\∀p∈fl,Va2 ks p
structure Nf5(P:Program)(w:World)(b:c8)(blk:Nat):Prop where
 has:∃t K El fl es clk,ke3 t b/\P.underlying t=some (.map K El)/\pa4 P 9 K=some fl/\w.heap[blk]?=some (.map es clk)/\b.elems.length=es.size /\
  ∀(i:Nat) r e,b.elems[i]?=some r->es[i]?=some e->vd3 fl (szT P K) r e
structure cf4(P:Program)(WB W':Nat->Prop)(ρ:Rho)(H:List c8)(F:Fz)(w:World):Prop where
 has:∀(id:Nat) b,H[id]?=some b->E1 b=true->b.dead=false->WB (ρ id).blk/\¬ W' (ρ id).blk/\(∀o,¬ F (ρ id).blk o)/\(ρ id).blk<w.heap.size/\(Nf4 ρ H F w b (ρ id).blk\/Nf5 P w b (ρ id).blk)
 apart:∀(id id':Nat) b b',H[id]?=some b->H[id']?=some b'->E1 b=true->E1 b'=true->b.dead=false->b'.dead=false->id≠id'->(ρ id).blk≠(ρ id').blk
theorem Adv.mono(h:Adv W ρ H F w ρ' H1 F' w')(hW:∀k,W k->WB k):Adv WB ρ H F w ρ' H1 F' w' :=
 ⟨⟨h.ext.os,h.ext.tape,h.ext.output,h.ext.size,λk hk hn=>h.ext.block k hk λhw=>hn (hW k hw),h.ext.cells,h.ext.drawn⟩,h.heap,h.more,λb o hf=>(h.new b o hf).imp id (hW b),λid b' hb' hn=>hW _ (h.fresh id b' hb' hn)⟩
section
variable(hA:Adv W' ρ (n8 H) F w ρ' H1 F' w')(ho:lc3 H H1=true)
include hA ho
theorem cf5:H.length<=H1.length:=by
 rcases Nat.eq_zero_or_pos H.length with h|h
 ·omega
 ·have hlt:H.length-1<(n8 H).length:=by rw[Re8];omega
  obtain⟨b',hb',_⟩:=hA.heap (H.length-1) _ (Qdc hlt)
  have:=(Qdd.1 hb').1
  omega
theorem zc0:(C3 H H1).length=H1.length /\
  (∀(id:Nat) b,H[id]?=some b->E1 b=true->(C3 H H1)[id]?=some b) /\
  (∀(id:Nat),¬ Pc7 H id->(C3 H H1)[id]?=H1[id]?/\∀c,H1[id]?=some c->E1 c=false):=vd2 H H1 (cf5 hA ho) ho
theorem Re9{id:Nat}{b:c8}(hb:(n8 (C3 H H1))[id]?=some b)(hd:b.dead=false):H1[id]?=some b/\¬ Pc7 H id:=by
 obtain⟨h1,h2,h3⟩:=zc0 hA ho;obtain⟨k1,k2⟩:=oa3 hb hd;by_cases hs:Pc7 H id
 ·obtain⟨c,hc,hcs⟩:=hs;rw[h2 id c hc hcs] at k1;cases k1;rw[hcs] at k2;cases k2
 ·rw[(h3 id hs).1] at k1;exact⟨k1,hs⟩
theorem Se0{id:Nat}{b:c8}(hb:H1[id]?=some b)(hd:b.dead=false):(n8 (C3 H H1))[id]?=some b/\ρsp H ρ ρ' id=ρ' id:=by
 obtain⟨h1,h2,h3⟩:=zc0 hA ho;by_cases hs:Pc7 H id
 ·obtain⟨c,hc,hcs⟩:=hs;obtain⟨b',hb',hd',_⟩:=hA.heap id _ (vd1 hc hcs)
  have:b'=b:=Qdj (hb'.symm.trans hb)
  subst this;rw[hd] at hd';cases hd'
 ·obtain⟨k1,k2⟩:=h3 id hs;exact⟨ja8 (k1.trans hb) (k2 b hb),ρsp_off hs⟩
theorem vd4:Nd0 ρ' H1 (ρsp H ρ ρ') (n8 (C3 H H1)):=λid b hb hd=>by
 obtain⟨h1,h2⟩:=Se0 hA ho hb hd;exact⟨b,h1,hd,Qdn _,λ_=>⟨h2,rfl,Qdn _⟩⟩
theorem ze4{x:c7}{x':Value}(h:J7 ρ' H1 F' w' x x'):J7 (ρsp H ρ ρ') (n8 (C3 H H1)) F' w' x x':=h.carry (vd4 hA ho) (λ_ _ h=>h) (λ_ _ _=>rfl)
theorem Se1(hH:F5 W' ρ' H1 F' w'):F5 W' (ρsp H ρ ρ') (n8 (C3 H H1)) F' w' :=
 hH.pull (λi=>i) (λi b hb hd=>by
  obtain⟨h1,h2⟩:=Re9 hA ho hb hd;exact⟨h1,ρsp_off h2⟩) (λ_ _ _ _ _ _ _ _ e=>e)
theorem Ie1{x:c7}{x':Value}(h:XC ρ H F w x x'):XC (ρsp H ρ ρ') (C3 H H1) F' w' x x':=by
 obtain⟨h1,h2,h3⟩:=zc0 hA ho;cases h with
 |n h=>exact .n ((h.adv hA).carry (vd4 hA ho) (λ_ _ h=>h) (λ_ _ _=>rfl))
 |box id c g b hb hd he =>
  have e:ρsp H ρ ρ' id=ρ id:=ρsp_on ⟨b,hb,ib3 he⟩;rw[<- e];exact .box id c g b (h2 id b hb (ib3 he)) hd he
 |map id c g b t hb hd he =>
  have e:ρsp H ρ ρ' id=ρ id:=ρsp_on ⟨b,hb,ob6 he⟩;rw[<- e];exact .map id c g b t (h2 id b hb (ob6 he)) hd he
theorem vf7{x:c7}{x':Value}(h:XW ρ H F w x x'):XW (ρsp H ρ ρ') (C3 H H1) F' w' x x':=by
 cases h with
 |w h=>exact .w (ze4 hA ho (h.adv hA))
 |c h=>exact .c (Ie1 hA ho h)
theorem Se2(hS:cf4 P WB W' ρ H F w):cf4 P WB W' (ρsp H ρ ρ') (C3 H H1) F' w':=by
 obtain⟨h1,h2,h3⟩:=zc0 hA ho;have hold:∀(id:Nat) b,(C3 H H1)[id]?=some b->E1 b=true->H[id]?=some b/\Pc7 H id:=λid b hb hs=>by
  by_cases hsp:Pc7 H id
  ·obtain⟨c,hc,hcs⟩:=hsp;rw[h2 id c hc hcs] at hb;obtain rfl:c=b:=Qdj hb;exact⟨hc,c,hc,hcs⟩
  ·obtain⟨k1,k2⟩:=h3 id hsp;rw[k1] at hb;rw[k2 b hb] at hs;cases hs
 refine⟨λid b hb hs hd=>?_,λid id' b b' hb hb' hs hs' hd hd' hne=>?_⟩
 ·obtain⟨hb0,hsp⟩:=hold id b hb hs;obtain⟨k1,k2,k3,k4,k5⟩:=hS.has id b hb0 hs hd;have hblk:w'.heap[(ρ id).blk]?=w.heap[(ρ id).blk]?:=hA.ext.block _ k4 k2;rw[ρsp_on hsp];refine⟨k1,k2,λo hf=>?_,Qdo k4 hA.ext.size,?_⟩
  ·rcases hA.new _ _ hf with h|h
   ·exact k3 o h
   ·exact k2 h
  ·rcases k5 with⟨e,row,vs,t,m1,m2,m3,m4⟩|⟨t,K,El,fl,es,clk,m1,m2,m3,m4,m5,m6⟩
   ·exact .inl ⟨e,row,vs,t,m1,hblk.trans m2,m3,λc x x' hx hx'=>⟨(m4 c x x' hx hx').1,Ie1 hA ho (m4 c x x' hx hx').2⟩⟩
   ·exact .inr ⟨t,K,El,fl,es,clk,m1,m2,m3,hblk.trans m4,m5,m6⟩
 ·obtain⟨hb0,hsp⟩:=hold id b hb hs;obtain⟨hb0',hsp'⟩:=hold id' b' hb' hs';rw[ρsp_on hsp,ρsp_on hsp'];exact hS.apart id id' b b' hb0 hb0' hs hs' hd hd' hne
theorem cf6{id:Nat}{b:c8}(hb:(C3 H H1)[id]?=some b)(hs:E1 b=true):H[id]?=some b/\Pc7 H id:=by
 obtain⟨h1,h2,h3⟩:=zc0 hA ho;by_cases hsp:Pc7 H id
 ·obtain⟨c,hc,hcs⟩:=hsp;rw[h2 id c hc hcs] at hb;obtain rfl:c=b:=Qdj hb;exact⟨hc,c,hc,hcs⟩
 ·obtain⟨k1,k2⟩:=h3 id hsp;rw[k1] at hb;rw[k2 b hb] at hs;cases hs
theorem cf7{K:Nat->Prop}(h:∀(id:Nat) b,H[id]?=some b->E1 b=true->b.dead=false->¬ K (ρ id).blk):∀(id:Nat) b,(C3 H H1)[id]?=some b->E1 b=true->b.dead=false->¬ K (ρsp H ρ ρ' id).blk:=λid b hb hs hd=>by
 obtain⟨k1,k2⟩:=cf6 hA ho hb hs;rw[ρsp_on k2];exact h id b k1 hs hd
theorem cf8(hW:∀k,W' k->WB k):Adv WB ρ H F w (ρsp H ρ ρ') (C3 H H1) F' w':=by
 obtain⟨h1,h2,h3⟩:=zc0 hA ho;have hm:=hA.mono hW;refine⟨hm.ext,λid b hb=>?_,hm.more,hm.new,λid b' hb' hn=>?_⟩
 ·cases hs:E1 b with
  |true=>exact⟨b,h2 id b hb hs,rfl,Qdn _,λ_=>⟨ρsp_on ⟨b,hb,hs⟩,rfl,Qdn _⟩⟩
  |false =>
   have hnsp:¬ Pc7 H id:=λ⟨c,hc,hcs⟩=>by
    rw[hb] at hc;cases hc;rw[hs] at hcs;cases hcs
   obtain⟨b',k1,k2,k3,k4⟩:=hm.heap id b (ja8 hb hs);exact⟨b',(h3 id hnsp).1.trans k1,k2,k3,λhg=>by rw[ρsp_off hnsp];exact k4 hg⟩
 ·by_cases hsp:Pc7 H id
  ·obtain⟨c,hc,hcs⟩:=hsp;rw[h2 id c hc hcs] at hb';obtain rfl:c=b':=Qdj hb';exact absurd rfl (hn c hc)
  ·rw[ρsp_off hsp];rw[(h3 id hsp).1] at hb';refine hm.fresh id b' hb' λb hb=>?_
   cases h:H[id]? with
   |none =>
    rw[Hb0,Qde,h] at hb;cases hb
   |some c =>
    cases hs:E1 c with
    |true=>exact absurd ⟨c,h,hs⟩ hsp
    |false =>
     rw[ja8 h hs] at hb;cases hb;exact hn b h
end
end
def Ec3(WB W':Nat->Prop)(ds:List Deferred)(w:World):Prop:=(∀d∈ds,∃D,d={ target:=.collected D,args:=#[] }/\w.heap[D]?=some (.deferred (some []))/\¬ W' D/\D<w.heap.size/\WB D)/\ds.Nodup
def VR(ρ:Rho)(H:List c8)(F:Fz)(w:World)(a:List c7)(vs:List Value):Prop:=a.length=vs.length/\∀(i:Nat) x x',a[i]?=some x->vs[i]?=some x'->XW ρ H F w x x'
structure C2(P:Program)(WB:Nat->Prop)(K:Nat->Prop)(J:List Value->World->Prop)(ρ0:Rho)(H0:List c8)(F0:Fz)(w0:World)(H:List c8)(ds:List Deferred)(w:World)(ρ:Rho)(F:Fz)(W':Nat->Prop)(up:List Value):Prop where
 sub:∀k,W' k->WB k
 adv:Adv WB ρ0 H0 F0 w0 ρ H F w
 hrel:F5 W' ρ (n8 H) F w
 srel:cf4 P WB W' ρ H F w
 kept:∀k,K k->¬ W' k/\k<w.heap.size
 far:∀(id:Nat) b,H[id]?=some b->E1 b=true->b.dead=false->¬ K (ρ id).blk
 jot:J up w
 marks:Ec3 WB W' ds w
structure I2(P:Program)(WB:Nat->Prop)(K:Nat->Prop)(J:List Value->World->Prop)(n:Nat)(ρ0:Rho)(H0:List c8)(F0:Fz)(w0:World)(s:St)(ac:Act)(w:World)(ρ:Rho)(F:Fz)(W':Nat->Prop)(up:List Value):Prop where
 core:C2 P WB K J ρ0 H0 F0 w0 s.H ac.defers w ρ F W' up
 vals:VR ρ s.H F w s.a (ac.tmps.toList++up)
 size:ac.tmps.size=n
def vd5(P:Program)(WB:Nat->Prop)(K:Nat->Prop)(J:List Value->World->Prop)(n:Nat)(ρ0:Rho)(H0:List c8)(F0:Fz)(w0:World)(s:St)(ac:Act)(w:World):Prop :=
 ∃ρ F W' up,I2 P WB K J n ρ0 H0 F0 w0 s ac w ρ F W' up
def Tr(ρ:Rho)(H:List c8)(F:Fz)(w:World)(ρ':Rho)(H':List c8)(F':Fz)(w':World):Prop:=∀x x',XW ρ H F w x x'->XW ρ' H' F' w' x x'
def pc9(K:Nat->Prop)(J:List Value->World->Prop):Prop:=∀up w w',(∀k,K k->w'.heap[k]?=w.heap[k]?)->J up w->J up w'
section
variable{P:Program}{WB K:Nat->Prop}{J:List Value->World->Prop}{ρ ρ0 ρ':Rho}{H H0 H1:List c8}{F F0 F':Fz}{w w0 w':World}{W':Nat->Prop}{up:List Value}{s:St}{ac ac':Act}{E:Env}
theorem Ec3.step{ds:List Deferred}(h:Ec3 WB W' ds w)(he:Ext W' F w w'):Ec3 WB W' ds w':=⟨λd hd=>by
 obtain⟨D,h1,h2,h3,h4,h5⟩:=h.1 d hd;exact⟨D,h1,(he.block D h4 h3).trans h2,h3,Qdo h4 he.size,h5⟩,h.2⟩
theorem C2.step{ds:List Deferred}(h:C2 P WB K J ρ0 H0 F0 w0 H ds w ρ F W' up)(hJ:pc9 K J)(hA:Adv W' ρ (n8 H) F w ρ' H1 F' w')(ho:lc3 H H1=true)(hH1:F5 W' ρ' H1 F' w') :
  C2 P WB K J ρ0 H0 F0 w0 (C3 H H1) ds w' (ρsp H ρ ρ') F' W' up/\Tr ρ H F w (ρsp H ρ ρ') (C3 H H1) F' w' :=
 ⟨⟨h.sub,h.adv.trans (cf8 hA ho h.sub),Se1 hA ho hH1,Se2 hA ho h.srel,λk hk=>⟨(h.kept k hk).1,Qdo (h.kept k hk).2 hA.ext.size⟩,
  cf7 hA ho h.far,hJ up w w' (λk hk=>hA.ext.block k (h.kept k hk).2 (h.kept k hk).1) h.jot,h.marks.step hA.ext⟩,λ_ _ hx=>vf7 hA ho hx⟩
structure Mb0(DS:Nat->Prop)(tm:Array Value)(ds:List Deferred)(W:Nat->Prop)(ρ0:Rho)(H0:List c8)(F0:Fz)(w0:World)(s:St)(ac:Act)(w:World):Prop where
 defers:ac.defers=ds
 size:ac.tmps.size=tm.size
 same:∀t,¬ DS t->ac.tmps[t]?=tm[t]?
 rel:∃ρ F,Adv W ρ0 H0 F0 w0 ρ s.H F w/\F5 W ρ s.H F w/\Fa4 ρ s.H F w s.a ac.tmps
theorem ma1{ac:Act}(dst:Option Nat)(v:Value):(ac.put dst v).tmps.size=ac.tmps.size:=by cases dst<;>simp[Act.put]
theorem Wb5{ac:Act}{dst:Option Nat}{v:Value}{t:Nat}(h:dst≠some t):(ac.put dst v).tmps[t]?=ac.tmps[t]?:=by
 cases dst with
 |none=>rfl
 |some d=>exact Qdq λe=>h (by rw[e])
section
variable{W:Nat->Prop}{DS:Nat->Prop}{tm:Array Value}{ds:List Deferred}{Fe:Fence}{n:Nat}
variable(hF:FW Fe)(hG0:GOk E F0 w0)(hcalls:∀f,g9 E.P E.G f (E.call f))
include hF hG0 hcalls
theorem piM{ops:Array Oper}{o:Oper}{g:Option (Nat×Bool)}{s s':St}{ac:Act}{i:Nat}{rest:List Nat}{Q:Exit->Act->World->Prop}(hi:ops[i]?=some o)(hg:ja6 ops o=some g)(hDS:∀d,o.dst=some d->DS d)
  (hI:Mb0 DS tm ds W ρ0 H0 F0 w0 s ac w) (he:(gb6 E s ⟨o.dst,g,[],Wb1 E.P ops o⟩).run=some s') (hK:∀ac' w',Mb0 DS tm ds W ρ0 H0 F0 w0 s' ac' w'->wpOpsIn Fe n E.P ops Q rest ac' w'):wpOpsIn Fe n E.P ops Q (i::rest) ac w:=by
 obtain⟨hd,hsz,hsm,ρ,F,hAdv,hH,hA⟩:=hI;simp only[wpOpsIn,hi];have hsame:∀v t,¬ DS t->(ac.put o.dst v).tmps[t]?=tm[t]?:=λv t ht=>(Wb5 λe=>ht (hDS t e)).trans (hsm t ht)
 rcases fd0 hg hA he with⟨hw,he⟩|⟨hw,he⟩
 ·rw[if_pos hw];unfold jd9 at he;obtain⟨⟨x,H'⟩,h1,h2⟩:=DT.run_bind_some he;have h1':(evalOp E s.a s.H (Wb1 E.P ops o)).run=some (x,H'):=h1;have hop:=Xc1 (ac:={ ac with defers:=[] }) hA hH (hG0.adv hAdv) hcalls h1'
  refine hop.inAny hF n _ _ λx' w' hp=>?_
  obtain⟨ρ',F',a1,a2,a3⟩:=hp;have h2':some (⟨putA s.a o.dst x,H'⟩:St)=some s':=h2;injection h2' with h2';subst h2';exact hK _ _ ⟨(A4 _ _).trans hd,(ma1 _ _).trans hsz,hsame x',ρ',F',hAdv.trans a1,a2,(hA.adv a1).putA o.dst a3⟩
 ·rw[if_neg (by simp[hw])]
  subst he;exact⟨λf _=>hF.fn f,hK _ _ ⟨(A4 _ _).trans hd,(ma1 _ _).trans hsz,hsame _,ρ,F,hAdv,hH,hA.putA o.dst (.ofv _)⟩⟩
theorem Wf3{ops:Array Oper}{Q:Exit->Act->World->Prop}{rest:List Nat}:∀(r:List Oper) (k:Nat) (l:List PI) (s s':St) (ac:Act) (w:World),(∃t,ops.toList.drop k=r++t)->(∀o∈r,∀d,o.dst=some d->DS d)->Bc4 E.P ops r=some l->Mb0 DS tm ds W ρ0 H0 F0 w0 s ac w->(T2 E l s).run=some s' ->
  (∀ac' w',Mb0 DS tm ds W ρ0 H0 F0 w0 s' ac' w'->wpOpsIn Fe n E.P ops Q rest ac' w')->wpOpsIn Fe n E.P ops Q (List.range' k r.length++rest) ac w
 |[],k,l,s,s',ac,w,hr,hDS,hl,hI,he,hQ=>by
  simp only[Bc4] at hl;injection hl with hl;subst hl;have he':some s=some s':=he;injection he' with he';subst he';exact hQ ac w hI
 |o::r,k,l,s,s',ac,w,hr,hDS,hl,hI,he,hQ=>by
  obtain⟨t,hr⟩:=hr;obtain⟨g,l',h1,h2,rfl⟩:=Md6 hl;have he':((gb6 E s ⟨o.dst,g,[],Wb1 E.P ops o⟩).bind (T2 E l')).run=some s':=he;obtain⟨s1,h3,h4⟩:=DT.run_bind_some he';have hi:ops[k]?=some o:=by
   have:(ops.toList.drop k)[0]?=some o:=by rw[hr];rfl
   simpa using this
  rw[show (o::r).length=r.length+1 from rfl,List.range'_succ,List.cons_append]
  refine piM hF hG0 hcalls hi h1 (λd hd=>hDS o (.head _) d hd) hI h3 λac' w' hI'=>?_
  refine Wf3 r (k+1) l' s1 s' ac' w' ⟨t,?_⟩ (λo ho=>hDS o (.tail _ ho)) h2 hI' h4 hQ
  rw[<- List.drop_drop,hr];rfl
end
theorem qc0 (ds : List Nat) : ∀ (a l : List c7) (k i : Nat), (va3 ds a l k)[i]? = match a[i]? with
  |some x=>some (Bool.rec (motive:=λ_=>c7) x ((l[i]?).getD .unk) (tb1 (k+i) ds))
  |none=>none
 |[],l,k,i=>by simp[va3]
 |x::a,l,k,i=>by
  have e:va3 ds (x::a) l k=Bool.rec (motive:=λ_=>c7) x (hdA l) (tb1 k ds)::va3 ds a (tlA l) (k+1):=rfl
  rw[e];cases i with
  |zero=>cases l<;>rfl
  |succ i =>
   simp only[List.getElem?_cons_succ];rw[qc0 ds a (tlA l) (k+1) i,show k+1+i=k+(i+1) by omega]
   cases l with
   |nil=>simp[tlA]
   |cons y l=>simp[tlA]
theorem qc1(ds:List Nat):∀(a l:List c7) (k:Nat),(va3 ds a l k).length=a.length
 |[],_,_=>rfl
 |x::a,l,k=>congrArg Nat.succ (qc1 ds a (tlA l) (k+1))
theorem vd6(k:Nat)(l:List Nat):tb1 k l=true↔k∈l:=by
 induction l with
 |nil=>simp[tb1]
 |cons x l ih =>
  have e:tb1 k (x::l)=Bool.rec (tb1 k l) true (Nat.beq x k):=rfl;rw[e,Qdac];cases h:Nat.beq x k with
  |true=>have:=Qda h;simp[this]
  |false =>
   have:=Nat.ne_of_beq_eq_false h
   show tb1 k l=true↔_;rw[ih];exact⟨.inr,λh=>h.resolve_left λe=>this e.symm⟩
theorem Nd6{x:c7}{x':Value}(h:XW ρ H F w x x'):J7 ρ (n8 H) F w (pa3 H x) x':=by
 cases h with
 |w h =>
  unfold pa3;split
  ·rename_i id i c g;split
   ·rename_i b hb;cases E1 b with
    |true=>exact .unk _
    |false=>exact h
   ·exact .unk _
  ·exact h
 |c h =>
  cases h with
  |n h =>
   unfold pa3;split
   ·split
    ·rename_i b hb;cases E1 b with
     |true=>exact .unk _
     |false=>exact .val (.cell h)
    ·exact .unk _
   ·exact .val (.cell h)
  |box id c g b hb hd he =>
   unfold pa3;simp only[E2,hb,ib3 he];exact .unk _
  |map id c g b t hb hd he =>
   unfold pa3;simp only[E2,hb,ob6 he];exact .unk _
theorem I2.arel{n:Nat}(h:I2 P WB K J n ρ0 H0 F0 w0 s ac w ρ F W' up):Fa4 ρ (n8 s.H) F w (o7 (pa3 s.H) (J3 s.a n)) ac.tmps:=by
 have hl:=h.vals.1;have hn:=h.size;rw[Qdt,Array.length_toList] at hl;rw[l9,I1];refine⟨by simp;omega,λi x x' hx hx'=>?_⟩
 rw[Qde] at hx;have hi:i<n:=hn ▸ (Qdu.1 hx').1;rw[List.getElem?_take,if_pos hi] at hx;cases hy:s.a[i]? with
 |none=>rw[hy] at hx;cases hx
 |some y =>
  rw[hy] at hx;injection hx with hx;subst hx;refine Nd6 (h.vals.2 i y x' hy ?_);rw[Qdh (by rw[Array.length_toList];omega)]
  simpa using hx'
theorem Xc5{n:Nat}(hJ:pc9 K J){dd:List Nat}{s s2:St}{ac':Act}(hI:I2 P WB K J n ρ0 H0 F0 w0 s ac w ρ F W' up)(ho:lc3 s.H s2.H=true)
  (hM:Mb0 (·∈dd) ac.tmps ac.defers W' ρ (n8 s.H) F w s2 ac' w'):vd5 P WB K J n ρ0 H0 F0 w0 ⟨va3 dd s.a s2.a 0,C3 s.H s2.H⟩ ac' w'/\ac'.defers=ac.defers/\(∀t,¬ t∈dd->ac'.tmps[t]?=ac.tmps[t]?):=by
 obtain⟨hd,hsz,hsm,ρ',F',hA,hH,hAr⟩:=hM;obtain⟨c1,c2⟩:=hI.core.step hJ hA ho hH;refine⟨⟨_,F',W',up,hd ▸ c1,⟨by rw[qc1];have:=hI.vals.1;rw[Qdt,Array.length_toList] at this ⊢;omega,λi y y' hy hy'=>?_⟩,hsz.trans hI.size⟩,hd,hsm⟩
 have hn:=hI.size
 simp only at hy
 rw[qc0] at hy;cases hz:s.a[i]? with
 |none=>rw[hz] at hy;cases hy
 |some z =>
  rw[hz] at hy;injection hy with hy;rw[Qdf] at hy
  rcases Qdk i n with hi|hi
  ·rw[Qdh (by rw[Array.length_toList];omega)] at hy'
   have hy':ac'.tmps[i]?=some y':=by simpa using hy'
   cases hm:tb1 i dd with
   |true =>
    rw[hm] at hy;have hy:(s2.a[i]?).getD .unk=y:=hy;cases hq:s2.a[i]? with
    |none=>rw[hq] at hy;subst hy;exact .w (.unk _)
    |some q =>
     rw[hq] at hy;have hy:q=y:=hy;subst hy;exact .w (ze4 hA ho (hAr.2 i q y' hq hy'))
   |false =>
    rw[hm] at hy;have hy:z=y:=hy;subst hy;have hnm:¬ i∈dd:=λh=>by rw[(vd6 i dd).2 h] at hm;cases hm
    rw[hsm i hnm] at hy';refine c2 _ _ (hI.vals.2 i z y' hz ?_);rw[Qdh (by rw[Array.length_toList];omega)]
    simpa using hy'
  ·have hlen : s2.a.length = n := by
    have:=hAr.1
    omega
   have hnone:s2.a[i]?=none:=Qdi (by omega)
   rw[Qdm (by rw[Array.length_toList];omega)] at hy'
   have hy0:(ac.tmps.toList++up)[i]?=some y':=by
    rw[Qdm (by rw[Array.length_toList];omega)]
    rw[Array.length_toList] at hy' ⊢;rw[hsz] at hy';exact hy'
   rw[hnone] at hy;cases hm:tb1 i dd with
   |true=>rw[hm] at hy;have hy:c7.unk=y:=hy;subst hy;exact .w (.unk _)
   |false=>rw[hm] at hy;have hy:z=y:=hy;subst hy;exact c2 _ _ (hI.vals.2 i z y' hz hy0)
theorem vf8{Fe:Fence}{n m k kk:Nat}(hF:FW Fe)(hG0:GOk E F0 w0)(hcalls:∀f,g9 E.P E.G f (E.call f))(hJ:pc9 K J){ops:Array Oper}{Q:Exit->Act->World->Prop}{rest:List Nat}{r:List Oper}{l:List PI}{dd:List Nat}{x:d8}{s s':St}
  (hr:∃t,ops.toList.drop k=r++t) (hDS:∀o∈r,∀d,o.dst=some d->d∈dd) (hl:Bc4 E.P ops r=some l) (hI:vd5 E.P WB K J n ρ0 H0 F0 w0 s ac w) (he:(P0 E kk (.mask n dd (.ops l)) s).run=some (x,s'))
  (hQ:∀ac' w',vd5 E.P WB K J n ρ0 H0 F0 w0 s' ac' w'->ac'.defers=ac.defers->(∀t,¬ t∈dd->ac'.tmps[t]?=ac.tmps[t]?)->wpOpsIn Fe m E.P ops Q rest ac' w'):x=.normal/\wpOpsIn Fe m E.P ops Q (List.range' k r.length++rest) ac w:=by
 obtain⟨ρ,F,W',up,hI⟩:=hI;have he':((P0 E kk (.ops l) ⟨o7 (pa3 s.H) (J3 s.a n),n8 s.H⟩).bind λr=>.guard (lc3 s.H r.2.H) (.ret (r.1,⟨va3 dd s.a r.2.a 0,C3 s.H r.2.H⟩))).run=some (x,s'):=he
 obtain⟨⟨x1,s1⟩,h1,h2⟩:=DT.run_bind_some he';obtain⟨ho,h2⟩:=DT.run_guard_some h2;have h2:some (x1,(⟨va3 dd s.a s1.a 0,C3 s.H s1.H⟩:St))=some (x,s'):=h2;injection h2 with h2;injection h2 with e1 e2;subst e1 e2
 have h1':((T2 E l ⟨o7 (pa3 s.H) (J3 s.a n),n8 s.H⟩).bind λs=>.ret (d8.normal,s)).run=some (x1,s1):=h1
 obtain⟨s2,h3,h4⟩:=DT.run_bind_some h1';have h4:some (d8.normal,s2)=some (x1,s1):=h4;injection h4 with h4;injection h4 with e1 e2;subst e1 e2
 refine⟨rfl,?_⟩;have hG:GOk E F w:=hG0.adv hI.core.adv;refine Wf3 (DS:=(·∈dd)) (tm:=ac.tmps) (ds:=ac.defers) (W:=W') (ρ0:=ρ) (H0:=n8 s.H) (F0:=F) (w0:=w) hF hG hcalls r k l _ s2 ac w hr hDS hl ⟨rfl,rfl,λ_ _=>rfl,ρ,F,.refl,hI.core.hrel,hI.arel⟩ h3 λac' w' hM=>?_
 obtain⟨k1,k2,k3⟩:=Xc5 hJ hI ho hM;exact hQ ac' w' k1 k2 k3
end
end Go.Ev
