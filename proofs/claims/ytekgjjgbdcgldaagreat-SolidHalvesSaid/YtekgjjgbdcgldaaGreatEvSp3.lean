/- Own work. -/
import Derived.Test.YtekgjjgbdcgldaaGreatEvDraw2
import Derived.CallsIn
import Derived.RangeFuncIn
import Derived.RangeFuncRecord
import Derived.RangeFuncLeaves
import Derived.ControlIn
import Derived.LoopNIn
import Derived.TacticsIn
set_option linter.all false
noncomputable section
def Qda:=@Nat.eq_of_beq_eq_true
def Qdb:=@Bool.and_eq_true
def Qdc:=@List.getElem?_eq_getElem
def Qdd:=@List.getD_eq_getElem?_getD
def Qde:=@List.getElem?_eq_some_iff
def Qdf:=@List.getElem?_map
def Qdg:=@Nat.le_refl
def Qdh:=@List.getElem?_eq_none
def Qdi:=@List.getElem?_append_left
def Qdj:=@List.drop_eq_getElem_cons
def Qdk:=@Option.some.inj
def Qdl:=@Nat.zero_add
def Qdm:=@Array.all_eq_true_iff_forall_mem
def Qdn:=@Array.getElem?_setIfInBounds_ne
def Qdo:=@List.mem_range
def Qdp:=@Nat.lt_of_lt_of_le
def Qdq:=@List.getElem?_append_right
def Qdr:=@Bool.not_eq_true'
def Qds:=@Nat.lt_or_ge
def Qdt:=@List.getElem?_set_self
def Qdu:=@List.getElem?_set_ne
def Qdv:=@List.mem_cons
def Qdw:=@List.mem_filterMap
def Qdx:=@Nat.le_trans
def Qdy:=@List.length_append
def Qdz:=@Go.Ev.Agr.arg
namespace Go.Ev
open Go
structure Ad1(E:Env)(ops:Array Oper)(ks:List (Nat×PI))(s:St)(U T:Nat->St):Prop where
 u0:U 0=s
 u:∀j,j<ops.size->Mb5 E (Wb5 ks) U j
 t0:T 0=U ops.size
 t:∀j,j<ops.size->Mb5 E (uc0 ks) T j
def Ad2(z:List b7):b9:={ et:=0,es:=z.length,elems:=[z],own:=true,dead:=false,g:=0 }
def Oc5:PO->Nat->b7
 |.alloc _,n=>.ptr n 0 0 0
 |_,n=>.sl n 0 0 0
def kd4:PO->b9
 |.alloc z=>Ad2 z
 |.bslice et es _ _ _=>{ et,es,elems:=[],own:=true,dead:=false,g:=0 }
 |_=>Ad2 []
theorem re9(o:PO):(kd4 o).dead=false:=by cases o<;>rfl
theorem jf9(o:PO):(kd4 o).g=0:=by cases o<;>rfl
theorem Ae6 {tr : Nat} {P : Program} {ops : Array Oper} {j : Nat} (ha : eb3 (Ja5 ops j) = true) {E : Env} {a : List b7} {H : List b9} {r : b7 × List b9} (he : (evalOp E a H (U3 tr P ops j)).run = some r) :
  (Ja5 ops j).guard=none/\∀a H,(evalOp E a H (U3 tr P ops j)).run=some (Oc5 (U3 tr P ops j) H.length,H++[kd4 (U3 tr P ops j)]):=by
 unfold eb3 at ha;cases hop:(Ja5 ops j).op with
 |alloc t =>
  simp only[hop] at ha;have hg:(Ja5 ops j).guard=none:=by simpa using ha
  cases hz:zeT P t with
  |none =>
   exfalso;have hbad:U3 tr P ops j=.bad:=by simp[U3,Db8,Hb7,cOp,hop,hz]
   rw[hbad] at he;cases he
  |some z =>
   have hpo:U3 tr P ops j=.alloc z:=by simp[U3,Db8,Hb7,cOp,hop,hz]
   refine⟨hg,λa H=>?_⟩
   rw[hpo];simp only[evalOp,DT.run_ret,n7,ta6,I6,Oc5,kd4,Ad2]
 |buildSlice t n ps =>
  simp only[hop] at ha
  split at ha
  ·rename_i hps;have hg:(Ja5 ops j).guard=none:=by simpa using ha
   have hpo:U3 tr P ops j=.bad\/∃e es,U3 tr P ops j=.bslice e es 0 [] []:=by
    simp only[U3,Hb7,cOp,hop];cases P.underlying t with
    |none=>exact .inl rfl
    |some u =>
     cases u with
     |slice e =>
      simp only[hps];cases zeT P e with
      |none=>exact .inl rfl
      |some z =>
       simp only[ab7];split
       ·exact .inr ⟨e,szT P e,by simp[Db8]⟩
       ·exact .inl rfl
     |_=>exact .inl rfl
   rcases hpo with hpo|⟨e,es,hpo⟩
   ·rw[hpo] at he;cases he
   ·refine⟨hg,λa H=>?_⟩
    rw[hpo];simp only[evalOp,p5,List.map_nil,Rb9,freezeCells,DT.run_ret,n7,ta6,I6,Oc5,kd4,Ea8]
  ·cases ha
 |_=>simp[hop] at ha
theorem vc9(a:List b7)(dst:Option Nat)(x:b7):(putA a dst x).length=a.length:=by
 rw[gc4];cases dst<;>simp
theorem wc0{a:List b7}{dst:Option Nat}{x:b7}{t:Nat}(h:dst≠some t):(putA a dst x)[t]?=a[t]?:=by
 rw[gc4];cases dst with
 |none=>rfl
 |some d=>simp only;rw[Qdu (λe=>h (by rw[e]))]
theorem Sc9{a:List b7}{d:Nat}{x:b7}(h:d<a.length):(putA a (some d) x)[d]?=some x:=by
 rw[gc4];exact Qdt h
section
variable{tr:Nat}{E:Env}{ops:Array Oper}{M:List Nat}{ks:List (Nat×PI)}{s:St}{U T:Nat->St}
variable(hD:DC tr E.P ops M ks)(hT:Ad1 E ops ks s U T)
include hD
theorem Ib0{i j:Nat}(hj:j<ops.size)(hi:i<ops.size)(hb:A1 M i j=true):i<j:=by
 refine Kc6 hD.rows (· < j) (λm o ho hm i hi=>?_) j _ (xa2 hj) (λi hi=>vc6 hD.rows (xa2 hj) hi) i hi hb
 have:=vc6 hD.rows ho hi
 omega
theorem be2{j:Nat}(hj:j<ops.size)(h:N1 tr E.P ops j=0):Wb5 ks j=some (oc9 tr E.P ops M j)/\uc0 ks j=none:=by
 unfold Wb5 uc0;rw[hD.at' j hj,h];exact⟨rfl,rfl⟩
theorem Ae7{j:Nat}(hj:j<ops.size)(h:N1 tr E.P ops j≠0):Wb5 ks j=none/\uc0 ks j=some (oc9 tr E.P ops M j):=by
 unfold Wb5 uc0;rw[hD.at' j hj]
 rcases Xb6 (tr:=tr) (P:=E.P) (ops:=ops) j with h'|h'|h'
 ·exact absurd h' h
 ·rw[h'];exact⟨rfl,rfl⟩
 ·rw[h'];exact⟨rfl,rfl⟩
include hT
theorem Ad3{j:Nat}(hj:j<ops.size)(h:N1 tr E.P ops j≠0):U (j+1)=U j:=by
 have:=hT.u j hj
 unfold Mb5 at this;rw[(Ae7 hD hj h).1] at this;exact this
theorem wc1{j:Nat}(hj:j<ops.size)(h:N1 tr E.P ops j=0):T (j+1)=T j:=by
 have:=hT.t j hj
 unfold Mb5 at this;rw[(be2 hD hj h).2] at this;exact this
theorem Bb0 {j : Nat} (hj : j < ops.size) (h : N1 tr E.P ops j = 0) : ∃ d, (Ja5 ops j).guard = none ∧ oa0 ops j = some d ∧ (∀ a H, (evalOp E a H (U3 tr E.P ops j)).run = some (Oc5 (U3 tr E.P ops j) H.length, H ++ [kd4 (U3 tr E.P ops j)])) ∧
  U (j+1)=⟨putA (U j).a (some d) (Oc5 (U3 tr E.P ops j) (U j).H.length),(U j).H++[kd4 (U3 tr E.P ops j)]⟩:=by
 have hst:=hT.u j hj;unfold Mb5 at hst;rw[(be2 hD hj h).1] at hst;obtain⟨d,hd⟩:=hD.allocDst hj h;have ha:=Wc9 h;have hg:(Ja5 ops j).guard=none:=by
  unfold eb3 at ha
  split at ha
  ·simpa using ha
  ·split at ha
   ·simpa using ha
   ·cases ha
  ·cases ha
 have hgd:oc8 ops j=none:=by simp[oc8,ba5,hg]
 have hhide:(oc9 tr E.P ops M j).hide=[]:=by simp[oc9,h]
 obtain⟨b,h1,h2,h3⟩:=vc7 hst;have hb:b=true:=by
  have:Oc4 E (U j).a (oc8 ops j)=some b:=h1
  rw[hgd] at this;injection this with this;exact this.symm
 obtain⟨x,H',h4,h5⟩:=Md1 (h2 hb);rw[hhide] at h4 h5;have h4':(evalOp E (U j).a (U j).H (U3 tr E.P ops j)).run=some (x,H'):=h4;obtain⟨_,hev⟩:=Ae6 ha h4';refine⟨d,hg,hd,hev,?_⟩;rw[hev] at h4';injection h4' with h4';injection h4' with e1 e2;subst e1 e2;rw[h5];show (⟨putA (U j).a (oa0 ops j) _,_⟩:St)=_;rw[hd];rfl
theorem Ad4 {j : Nat} (hj : j < ops.size) (h : N1 tr E.P ops j ≠ 0) : ∃ b, Oc4 E (T j).a (oc8 ops j) = some b ∧
  (b=true->∃x H',(evalOp E (T j).a (nc5 (T j).H (kb4 (T j).a (oc9 tr E.P ops M j).hide)) (U3 tr E.P ops j)).run=some (x,H') /\
   T (j+1)=⟨putA (T j).a (oa0 ops j) x,kb5 (T j).H H' (kb4 (T j).a (oc9 tr E.P ops M j).hide)⟩) /\
  (b=false->T (j+1)=⟨putA (T j).a (oa0 ops j) (.v (.tuple #[])),(T j).H⟩):=by
 have hst:=hT.t j hj;unfold Mb5 at hst;rw[(Ae7 hD hj h).2] at hst;obtain⟨b,h1,h2,h3⟩:=vc7 hst;exact⟨b,h1,λhb=>Md1 (h2 hb),h3⟩
theorem Ad5{t:Nat}:∀(d u:Nat),u+d<=ops.size->(∀j,u<=j->j<u+d->N1 tr E.P ops j=0->oa0 ops j≠some t)->(U (u+d)).a[t]?=(U u).a[t]?
 |0,u,_,_=>rfl
 |d+1,u,hb,hn=>by
  have ih:=Ad5 d u (by omega) λj h1 h2=>hn j h1 (by omega)
  rw[<- ih];show (U (u+d+1)).a[t]?=_;by_cases hk:N1 tr E.P ops (u+d)=0
  ·obtain⟨d',_,hd',_,hU⟩:=Bb0 hD hT (j:=u+d) (by omega) hk
   rw[hU];exact wc0 (hd' ▸ hn (u+d) (by omega) (by omega) hk)
  ·rw[Ad3 hD hT (by omega) hk]
theorem pc0{t:Nat}:∀(d u:Nat),u+d<=ops.size->(∀j,u<=j->j<u+d->N1 tr E.P ops j≠0->oa0 ops j≠some t)->(T (u+d)).a[t]?=(T u).a[t]?
 |0,u,_,_=>rfl
 |d+1,u,hb,hn=>by
  have ih:=pc0 d u (by omega) λj h1 h2=>hn j h1 (by omega)
  rw[<- ih];show (T (u+d+1)).a[t]?=_;by_cases hk:N1 tr E.P ops (u+d)=0
  ·rw[wc1 hD hT (by omega) hk]
  ·obtain⟨b,h1,h2,h3⟩:=Ad4 hD hT (j:=u+d) (by omega) hk
   have hne:=hn (u+d) (by omega) (by omega) hk
   cases b with
   |true =>
    obtain⟨x,H',_,h5⟩:=h2 rfl;rw[h5];exact wc0 hne
   |false=>rw[h3 rfl];exact wc0 hne
theorem Xb7:∀j,j<=ops.size->(U j).a.length=s.a.length/\(T j).a.length=s.a.length:=by
 have hu:∀j,j<=ops.size->(U j).a.length=s.a.length:=by
  intro j
  induction j with
  |zero=>intro _;rw[hT.u0]
  |succ j ih =>
   intro hj;by_cases hk:N1 tr E.P ops j=0
   ·obtain⟨d',_,hd',_,hU⟩:=Bb0 hD hT (j:=j) (by omega) hk
    rw[hU];simp only[vc9];exact ih (by omega)
   ·rw[Ad3 hD hT (by omega) hk];exact ih (by omega)
 intro j
 induction j with
 |zero=>intro _;exact⟨hu 0 (by omega),by rw[hT.t0];exact hu _ (Qdg _)⟩
 |succ j ih =>
  intro hj;refine⟨hu _ hj,?_⟩;by_cases hk:N1 tr E.P ops j=0
  ·rw[wc1 hD hT (by omega) hk];exact (ih (by omega)).2
  ·obtain⟨b,h1,h2,h3⟩:=Ad4 hD hT (j:=j) (by omega) hk
   cases b with
   |true =>
    obtain⟨x,H',_,h5⟩:=h2 rfl;rw[h5];simp only[vc9];exact (ih (by omega)).2
   |false=>rw[h3 rfl];simp only[vc9];exact (ih (by omega)).2
theorem Ae8{j:Nat}(hj:j<ops.size)(hl:Mb1 (U3 tr E.P ops j)=false):Agr (T j).a (T ops.size).a (nc8 (oc8 ops j)++Ab6 (U3 tr E.P ops j)):=λt ht=>by
 have:=pc0 hD hT (t:=t) (ops.size-j) j (by omega) λi h1 h2 hk he=>by
  have hi:i<ops.size:=by omega
  rcases (hD.slots hi hj he).1 ht with hb|hb
  ·have:=Ib0 hD hj hi hb
   omega
  ·rw[hl] at hb;cases hb.1
 rw[show j+(ops.size-j)=ops.size by omega] at this
 exact this.symm
theorem df7{j d:Nat}(hj:j<ops.size)(hd:oa0 ops j=some d):(T ops.size).a[d]?=(T (j+1)).a[d]?:=by
 have:=pc0 hD hT (t:=d) (ops.size-(j+1)) (j+1) (by omega) λi h1 h2 hk he=>by
  have hi:i<ops.size:=by omega
  rcases (hD.slots hi hj he).2 with h|h
  ·omega
  ·exact h hd
 rw[show j+1+(ops.size-(j+1))=ops.size by omega] at this
 exact this
theorem Ad6{j d v:Nat}(hj:j<ops.size)(h:N1 tr E.P ops j=0)(hd:oa0 ops j=some d)(hlt:d<s.a.length)(hv:v<=ops.size):(T v).a[d]?=some (Oc5 (U3 tr E.P ops j) (U j).H.length):=by
 have hne:∀i,i<ops.size->i≠j->oa0 ops i≠some d:=λi hi hij he=>by
  rcases (hD.slots hi hj he).2 with h|h
  ·exact hij h
  ·exact h hd
 have h1:=pc0 hD hT (t:=d) v 0 (by omega) λi _ h2 hk=>hne i (by omega) λe=>hk (e ▸ h)
 rw[Qdl] at h1;rw[h1,hT.t0];have h2:=Ad5 hD hT (t:=d) (ops.size-(j+1)) (j+1) (by omega) λi h3 h4 _=>hne i (by omega) (by omega)
 rw[show j+1+(ops.size-(j+1))=ops.size by omega] at h2
 rw[h2];obtain⟨d',_,hd',_,hU⟩:=Bb0 hD hT hj h
 have:d'=d:=Qdk (hd'.symm.trans hd)
 subst this;rw[hU];exact Sc9 (by rw[(Xb7 hD hT j (by omega)).1];exact hlt)
theorem Ad7:∀(d u:Nat),u+d<=ops.size->∃l,(U (u+d)).H=(U u).H++l
 |0,u,_=>⟨[],by simp⟩
 |d+1,u,hb=>by
  obtain⟨l,hl⟩:=Ad7 d u (by omega)
  show ∃l,(U (u+d+1)).H=_;by_cases hk:N1 tr E.P ops (u+d)=0
  ·obtain⟨d',_,hd',_,hU⟩:=Bb0 hD hT (j:=u+d) (by omega) hk
   exact⟨l++[kd4 (U3 tr E.P ops (u+d))],by rw[hU,hl,List.append_assoc]⟩
  ·exact⟨l,by rw[Ad3 hD hT (by omega) hk,hl]⟩
theorem tf0{i j:Nat}(hij:i<j)(hj:j<=ops.size)(hk:N1 tr E.P ops i=0):(U i).H.length<(U j).H.length:=by
 obtain⟨d',_,hd',_,hU⟩:=Bb0 hD hT (j:=i) (by omega) hk
 obtain⟨l,hl⟩:=Ad7 hD hT (j-(i+1)) (i+1) (by omega)
 rw[show i+1+(j-(i+1))=j by omega] at hl
 rw[hl,hU];simp
theorem be3{j:Nat}(hj:j<=ops.size):s.H.length<=(U j).H.length/\∀i,i<s.H.length->(U j).H[i]?=s.H[i]?:=by
 obtain⟨l,hl⟩:=Ad7 hD hT j 0 (by omega)
 rw[Qdl,hT.u0] at hl;rw[hl];exact⟨by simp,λi hi=>Qdi hi⟩
theorem be4{j:Nat}(hj:j<ops.size)(hk:N1 tr E.P ops j=0):(T 0).H[(U j).H.length]?=some (kd4 (U3 tr E.P ops j)):=by
 obtain⟨d',_,hd',_,hU⟩:=Bb0 hD hT hj hk;obtain⟨l,hl⟩:=Ad7 hD hT (ops.size-(j+1)) (j+1) (by omega)
 rw[show j+1+(ops.size-(j+1))=ops.size by omega,hU] at hl
 rw[hT.t0,hl];simp
theorem Ae9:∀(v:Nat),v<=ops.size->∀id,s.H.length<=id->id<(U v).H.length->∃j,j<v/\N1 tr E.P ops j=0/\id=(U j).H.length
 |0,_,id,h1,h2=>by rw[hT.u0] at h2;omega
 |v+1,hv,id,h1,h2=>by
  by_cases hk:N1 tr E.P ops v=0
  ·obtain⟨d',_,hd',_,hU⟩:=Bb0 hD hT (j:=v) (by omega) hk
   rw[hU] at h2
   simp at h2
   by_cases he:id<(U v).H.length
   ·obtain⟨j,h3,h4,h5⟩:=Ae9 v (by omega) id h1 he
    exact⟨j,by omega,h4,h5⟩
   ·exact⟨v,by omega,hk,by omega⟩
  ·rw[Ad3 hD hT (by omega) hk] at h2
   obtain⟨j,h3,h4,h5⟩:=Ae9 v (by omega) id h1 h2
   exact⟨j,by omega,h4,h5⟩
end
section
variable{E:Env}{a a':List b7}
theorem wc2{o:PO}(h:Agr a a' (Ab6 o)):Ra7 E a o=Ra7 E a' o:=by
 cases o with
 |load ks n agg x=>simp only[Ra7,Qdz (E:=E) (x:=x) h]
 |idxS es x i=>simp only[Ra7,Qdz (E:=E) h.left]
 |slice es x lo hi=>simp only[Ra7,Qdz (E:=E) h.left.left]
 |_=>rfl
theorem kd5{o:PO}(h:Agr a a' (Ab6 o)):U0 E a o=U0 E a' o:=by
 cases o with
 |store n x y=>simp only[U0,Qdz (E:=E) h.left]
 |append et es by' x y=>simp only[U0,Qdz (E:=E) h.left]
 |copy es x y=>simp only[U0,Qdz (E:=E) h.left]
 |apre es x y=>simp only[U0,Qdz (E:=E) h.left]
 |clr es z x=>simp only[U0,Qdz (E:=E) h]
 |call f xs=>simp only[U0,Agr.args (E:=E) h]
 |calld x xs=>simp only[U0,Agr.args (E:=E) h.right,Qdz (E:=E) h.left]
 |_=>rfl
theorem wc3{o:PO}(h:Mb1 o=true):Ra7 E a o=[]:=by cases o<;>first | rfl | cases h
theorem kc8{o:PO}(h:Mb1 o=true):U0 E a o=[]:=by cases o<;>first | rfl | cases h
theorem Xc0:∀{l:List (PO×PO)},eb1 E a l=true->∀{p:PO×PO},p∈l->∀id∈Ra7 E a p.1,id∉U0 E a p.2
 |[],_,p,hp=>by cases hp
 |q::l,h,p,hp=>by
  have e:eb1 E a (q::l)=Bool.rec false (eb1 E a l) (sb2 (Ra7 E a q.1) (U0 E a q.2)):=rfl;rw[e] at h;cases hq:sb2 (Ra7 E a q.1) (U0 E a q.2) with
  |false=>rw[hq] at h;cases h
  |true =>
   rw[hq] at h
   rcases Qdv.1 hp with rfl|hp
   ·exact Dc5 hq
   ·exact Xc0 h hp
theorem Xc1:∀{l:List PI},fc5 a l=true->∀p∈l,∀d,p.dst=some d->d<a.length
 |[],_,p,hp=>by cases hp
 |q::l,h,p,hp=>λd hd=>by
  have e:fc5 a (q::l)=(match q.dst with
   |some d=>match nth a d with
    |some _=>fc5 a l
    |none=>false
   |none=>false):=rfl
  rw[e] at h;cases hq:q.dst with
  |none=>simp[hq] at h
  |some d' =>
  simp only[hq,D9] at h;cases hn:a[d']? with
  |none=>simp[hn] at h
  |some x =>
  simp only[hn] at h
  rcases Qdv.1 hp with rfl|hp
  ·have:d'=d:=Qdk (hq.symm.trans hd)
   subst this;exact (Qde.1 hn).1
  ·exact Xc1 h p hp d hd
theorem Xc2{tr:Nat}{P:Program}{ops:Array Oper}{j:Nat}:N1 tr P ops j=0↔eb3 (Ja5 ops j)=true:=by
 refine⟨Wc9,λh=>?_⟩
 unfold N1 kc3;rw[if_pos h]
end
section
variable{tr:Nat}{E:Env}{ops:Array Oper}{M:List Nat}{ks:List (Nat×PI)}{s:St}{U T:Nat->St}
variable(hD:DC tr E.P ops M ks)(hT:Ad1 E ops ks s U T)(hin:∀j,j<ops.size->N1 tr E.P ops j=0->∀d,oa0 ops j=some d->d<s.a.length)
include hD hT
theorem Be0{j:Nat}(hj:j<ops.size):Ra7 E (T j).a (U3 tr E.P ops j)=Ra7 E (T ops.size).a (U3 tr E.P ops j):=by
 cases hl:Mb1 (U3 tr E.P ops j) with
 |true=>rw[wc3 hl,wc3 hl]
 |false=>exact wc2 (Ae8 hD hT hj hl).right
theorem se0{j:Nat}(hj:j<ops.size):U0 E (T j).a (U3 tr E.P ops j)=U0 E (T ops.size).a (U3 tr E.P ops j):=by
 cases hl:Mb1 (U3 tr E.P ops j) with
 |true=>rw[kc8 hl,kc8 hl]
 |false=>exact kd5 (Ae8 hD hT hj hl).right
theorem Tc0 {j : Nat} (hj : j < ops.size) (h : N1 tr E.P ops j = 1) : ∃ b x, Oc4 E (T j).a (oc8 ops j) = some b ∧ T (j + 1) = ⟨putA (T j).a (oa0 ops j) x, (T j).H⟩ ∧
  (b=true->(evalOp E (T j).a (T j).H (U3 tr E.P ops j)).run=some (x,(T j).H))/\(b=false->x=.v (.tuple #[])):=by
 obtain⟨b,h1,h2,h3⟩:=Ad4 hD hT hj (by omega)
 have hh:(oc9 tr E.P ops M j).hide=[]:=by simp[oc9,h]
 cases b with
 |true =>
  obtain⟨x,H',h4,h5⟩:=h2 rfl;rw[hh] at h4 h5;have h4':(evalOp E (T j).a (T j).H (U3 tr E.P ops j)).run=some (x,H'):=h4;have he:=(vc2 (Md2 h) h4').1;subst he;exact⟨true,x,h1,h5,λ_=>h4',λh=>by cases h⟩
 |false=>exact⟨false,_,h1,h3 rfl,λh=>(by cases h),λ_=>rfl⟩
theorem be5:∀(d u:Nat),u+d<=ops.size->(∀j,u<=j->j<u+d->N1 tr E.P ops j≠2)->(T (u+d)).H=(T u).H
 |0,u,_,_=>rfl
 |d+1,u,hb,hn=>by
  have ih:=be5 d u (by omega) λj h1 h2=>hn j h1 (by omega)
  rw[<- ih];show (T (u+d+1)).H=_
  rcases Xb6 (tr:=tr) (P:=E.P) (ops:=ops) (u+d) with hk|hk|hk
  ·rw[wc1 hD hT (by omega) hk]
  ·obtain⟨b,x,_,h2,_⟩:=Tc0 hD hT (j:=u+d) (by omega) hk
   rw[h2]
  ·exact absurd hk (hn (u+d) (by omega) (by omega))
include hin
theorem Te2{j:Nat}(hj:j<ops.size)(h:N1 tr E.P ops j=2)(id:Nat):id∈kb4 (T j).a (oc9 tr E.P ops M j).hide↔∃b,b<ops.size/\N1 tr E.P ops b=0/\A1 M b j=false/\id=(U b).H.length:=by
 have hh:(oc9 tr E.P ops M j).hide=Dc0 ops M j:=by simp[oc9,h]
 rw[hh];unfold kb4;rw[p5,List.mem_map];constructor
 ·rintro⟨d,hd,he⟩;unfold Dc0 at hd;rw[Qdw] at hd;obtain⟨b,hb,hb2⟩:=hd;have hb1:=Qdo.1 hb;simp only[xa2 hb1] at hb2
  split at hb2
  ·rename_i hc;rw[Qdb,Qdr] at hc;have hk:N1 tr E.P ops b=0:=Xc2.2 hc.1;have ha:=Ad6 hD hT hb1 hk hb2 (hin b hb1 hk d hb2) (v:=j) (by omega)
   rw[D9,ha] at he;exact⟨b,hb1,hk,hc.2,by rw[<- he];cases U3 tr E.P ops b<;>rfl⟩
  ·cases hb2
 ·rintro⟨b,hb1,hk,hc,rfl⟩;obtain⟨d,hd⟩:=hD.allocDst hb1 hk;refine⟨d,?_,?_⟩
  ·unfold Dc0;rw[Qdw];refine⟨b,Qdo.2 hb1,?_⟩;have h2:(eb3 (Ja5 ops b)&&!A1 M b j)=true:=by rw[Xc2.1 hk,hc];rfl
   simp only[xa2 hb1,h2,if_true];exact hd
  ·rw[D9,Ad6 hD hT hb1 hk hd (hin b hb1 hk d hd) (v:=j) (by omega)]
   cases U3 tr E.P ops b<;>rfl
theorem Ad8 {j : Nat} (hj : j < ops.size) (h : N1 tr E.P ops j = 2) : ∃ b x, Oc4 E (T j).a (oc8 ops j) = some b ∧ (T (j + 1)).a = putA (T j).a (oa0 ops j) x ∧
  (b=true->∃hid H',(∀id,id∈hid↔∃b,b<ops.size/\N1 tr E.P ops b=0/\A1 M b j=false/\id=(U b).H.length) /\
   (evalOp E (T j).a (ka2 (T j).H (·∈hid)) (U3 tr E.P ops j)).run=some (x,H')/\(T (j+1)).H=kb5 (T j).H H' hid) /\
  (b=false->x=.v (.tuple #[])/\(T (j+1)).H=(T j).H):=by
 obtain⟨b,h1,h2,h3⟩:=Ad4 hD hT hj (by omega)
 cases b with
 |true =>
  obtain⟨x,H',h4,h5⟩:=h2 rfl;rw[re8] at h4;exact⟨true,x,h1,by rw[h5],λ_=>⟨_,H',Te2 hD hT hin hj h,h4,by rw[h5]⟩,λh=>by cases h⟩
 |false=>exact⟨false,_,h1,by rw[h3 rfl],λh=>(by cases h),λ_=>⟨rfl,by rw[h3 rfl]⟩⟩
omit hD hT hin in
theorem sd4{H:List b9}{l:List Nat}(hb:∀id∈l,id<H.length):K5 (·∈l) (ka2 H (·∈l)) (ka2 H (·∈l)) (ka2 H (·∈l)) (ka2 H (·∈l)) :=
 ⟨rfl,λ_ _=>rfl,λid b hD hb=>by
  rw[ta7 hD] at hb;simp only[Option.map_eq_some_iff] at hb;obtain⟨c,_,rfl⟩:=hb
  rfl,λ_ _=>rfl,λ_ _=>rfl,λid h=>by rw[rb5];exact hb id h⟩
theorem Ad9{b:Nat}(hb:b<ops.size)(hk:N1 tr E.P ops b=0):∀(v:Nat),v<=ops.size->(∀h,h<v->N1 tr E.P ops h=2->A1 M b h=false)->(T v).H[(U b).H.length]?=(T 0).H[(U b).H.length]?
 |0,_,_=>rfl
 |v+1,hv,hn=>by
  have ih:=Ad9 hb hk v (by omega) λh h1=>hn h (by omega)
  rw[<- ih]
  rcases Xb6 (tr:=tr) (P:=E.P) (ops:=ops) v with h0|h0|h0
  ·rw[wc1 hD hT (by omega) h0]
  ·obtain⟨b,x,_,h2,_⟩:=Tc0 hD hT (j:=v) (by omega) h0
   rw[h2]
  ·obtain⟨bb,x,h1,_,h3,h4⟩:=Ad8 hD hT hin (j:=v) (by omega) h0
   cases bb with
   |false=>rw[(h4 rfl).2]
   |true =>
    obtain⟨hid,H',h5,h6,h7⟩:=h3 rfl;rw[h7]
    -- every kb4 block stands in the heap
    have hall:∀id∈hid,id<(T v).H.length:=λid hid'=>by
     obtain⟨b',k1,k2,k3,rfl⟩:=(h5 id).1 hid'
     have:=Ad9 k1 k2 v (by omega) λh h1 h2=>by
      cases hc:A1 M b' h with
      |false=>rfl
      |true =>
       rw[(hD.chain h1 (by omega) h2 h0).2 b' hc] at k3
       cases k3
     have hz:=be4 hD hT k1 k2;rw[hz] at this;exact (Qde.1 this).1
    have hm:(U b).H.length∈hid:=(h5 _).2 ⟨b,hb,hk,hn v (by omega) h0,rfl⟩
    obtain⟨H2',_,hM⟩:=(sd4 hall).evalOp (E:=E) (a:=(T v).a) (vc8 h0) h6;refine Dc8 hm (hall _ hm) ?_;exact hM.bound _ hm
theorem Be1{j:Nat}(hj:j<ops.size)(h0:N1 tr E.P ops j=2){b:Nat}(k1:b<ops.size)(k2:N1 tr E.P ops b=0)(k3:A1 M b j=false):(U b).H.length<(T j).H.length:=by
 have:=Ad9 hD hT hin k1 k2 j (by omega) λh h1 h2=>by
  cases hc:A1 M b h with
  |false=>rfl
  |true =>
   rw[(hD.chain h1 hj h2 h0).2 b hc] at k3;cases k3
 have hz:=be4 hD hT k1 k2;rw[hz] at this;exact (Qde.1 this).1
theorem Te3{j:Nat}(hj:j<ops.size){id:Nat}(hn:N1 tr E.P ops j=2->id∉U0 E (T ops.size).a (U3 tr E.P ops j)):T2 (T j).H (T (j+1)).H id:=by
 rcases Xb6 (tr:=tr) (P:=E.P) (ops:=ops) j with h0|h0|h0
 ·rw[wc1 hD hT hj h0];exact .refl _ _
 ·obtain⟨b,x,_,h2,_⟩:=Tc0 hD hT hj h0;rw[h2];exact .refl _ _
 ·obtain⟨bb,x,h1,_,h3,h4⟩:=Ad8 hD hT hin hj h0;cases bb with
  |false=>rw[(h4 rfl).2];exact .refl _ _
  |true =>
   obtain⟨hid,H',h5,h6,h7⟩:=h3 rfl;rw[h7];have hall:∀id∈hid,id<(T j).H.length:=λid hid'=>by
    obtain⟨b',k1,k2,k3,rfl⟩:=(h5 id).1 hid';exact Be1 hD hT hin hj h0 k1 k2 k3
   obtain⟨H2',_,hM⟩:=(sd4 hall).evalOp (E:=E) (a:=(T j).a) (vc8 h0) h6;intro b hb;by_cases hm:id∈hid
   ·refine⟨b,?_,.refl b⟩;rw[Dc8 hm (hall _ hm) (hM.bound _ hm)];exact hb
   ·rw[Wc6 hm];have hslots:U0 E (T j).a (U3 tr E.P ops j)=U0 E (T ops.size).a (U3 tr E.P ops j):=se0 hD hT hj;exact Ad0 (vc8 h0) h6 (by rw[hslots];exact hn h0) b (by rw[T3 (D:=(·∈hid)) hm];exact hb)
theorem be6{id:Nat}:∀(d u:Nat),u+d<=ops.size->(∀j,u<=j->j<u+d->N1 tr E.P ops j=2->id∉U0 E (T ops.size).a (U3 tr E.P ops j))->T2 (T u).H (T (u+d)).H id
 |0,u,_,_=>.refl _ _
 |d+1,u,hb,hn =>
  (be6 d u (by omega) λj h1 h2=>hn j h1 (by omega)).trans (Te3 hD hT hin (j:=u+d) (by omega) (hn (u+d) (by omega) (by omega)))
end
section
variable{W:Nat->Prop}{ρ ρ':Rho}{H H':List b9}{F F':Fz}{w w':World}
def sd5(ρ:Rho)(H:List b9)(ρ':Rho)(H':List b9):Prop:=∀(id:Nat) b,H[id]?=some b->b.dead=false->∃b',H'[id]?=some b'/\b'.dead=false/\b.g<=b'.g/\(b'.g=b.g->ρ' id=ρ id/\b'.es=b.es/\b.elems.length<=b'.elems.length)
section
variable(hk:sd5 ρ H ρ' H')(hm:∀b o,F b o->F' b o)(hc:∀b o,F b o->w'.cell? ⟨b,o,none⟩=w.cell? ⟨b,o,none⟩)
include hk hm hc
theorem fa7.carry{x:b7}{x':Value}(h:fa7 ρ H F w x x'):fa7 ρ' H' F' w' x x':=by
 cases h with
 |mem h=>exact .mem (h.adv hm hc)
 |v=>exact .v _
 |ptr id i c g a b hb hd hg h =>
  obtain⟨b',hb',hd',hg',e⟩:=hk id b hb hd;refine .ptr id i c g a b' hb' hd' (Qdx hg hg') λhge=>?_
  have hbg:b'.g=b.g:=by omega
  obtain⟨e1,e2,e3⟩:=e hbg;rw[e1,e2];exact h (by omega)
 |sl id off n g a cap b hb hd hg hn hs hm h =>
  obtain⟨b',hb',hd',hg',e⟩:=hk id b hb hd;refine .sl id off n g a cap b' hb' hd' (Qdx hg hg') hn hs hm λhge=>?_
  have hbg:b'.g=b.g:=by omega
  obtain⟨e1,e2,e3⟩:=e hbg;obtain⟨h1,h2,h3⟩:=h (by omega)
  rw[e1,e2];exact⟨h1,h2,Qdx h3 e3⟩
 |tptr cs a vs hs hF hw hr=>exact .tptr cs a vs hs (λc hlt=>hm _ _ (hF c hlt)) (λc hlt=>(hc _ _ (hF c hlt)).trans (hw c hlt)) (λc hlt=>(hr c hlt).adv hm hc)
 |unk x'=>exact .unk x'
theorem ka8.carry{x:b7}{x':Value}(h:ka8 ρ H F w x x'):ka8 ρ' H' F' w' x x':=by
 cases h with
 |cell h=>exact .cell (h.carry hk hm hc)
 |agg cs vs hl h=>exact .agg cs vs hl λi x x' hx hx'=>(h i x x' hx hx').carry hk hm hc
 |fn f caps vs hl h=>exact .fn f caps vs hl λi x x' hx hx'=>(h i x x' hx hx').carry hk hm hc
theorem F7.carry{x:b7}{x':Value}(h:F7 ρ H F w x x'):F7 ρ' H' F' w' x x':=by
 cases h with
 |val h=>exact .val (h.carry hk hm hc)
 |tup xs vs hl h=>exact .tup xs vs hl λi x x' hx hx'=>(h i x x' hx hx').carry hk hm hc
theorem xa1.carry{a:List b7}{vs:Array Value}(h:xa1 ρ H F w a vs):xa1 ρ' H' F' w' a vs :=
 ⟨h.1,λi x x' hx hx'=>(h.2 i x x' hx hx').carry hk hm hc⟩
end
end
section
variable{W:Nat->Prop}{ρ0:Rho}{H0:List b9}{F0:Fz}{w0 w:World}
variable{tr:Nat}{E:Env}{ops:Array Oper}{M:List Nat}{ks:List (Nat×PI)}{s:St}{U T:Nat->St}
def za1(listed:Array Bool)(j:Nat):Prop:=listed.getD j true=true
def P9(tr:Nat)(P:Program)(ops:Array Oper)(U:Nat->St)(listed:Array Bool)(id:Nat):Prop:=∃b,b<ops.size/\N1 tr P ops b=0/\¬ za1 listed b/\id=(U b).H.length
def Y1(ops:Array Oper)(listed:Array Bool)(t:Nat):Prop:=∃i,i<ops.size/\oa0 ops i=some t/\¬ za1 listed i
theorem Va3{listed:Array Bool}{i j:Nat}(hi:i<listed.size):za1 (listed.setIfInBounds i true) j↔za1 listed j\/j=i:=by
 unfold za1;by_cases e:i=j
 ·subst e;simp[Array.getD,hi]
 ·have:j≠i:=λh=>e h.symm
  simp only[Array.getD_eq_getD_getElem?,Qdn e,this,or_false]
theorem Xc3{listed:Array Bool}{i:Nat}(h:i∈Region.ready .any ops listed):i<ops.size/\¬ za1 listed i/\(listed.size=ops.size->∀e∈Fa0 (Ja5 ops i),e<ops.size->za1 listed e):=by
 unfold Region.ready at h;rw[List.mem_filter] at h;obtain⟨h1,h2⟩:=h;have hi:=Qdo.1 h1;rw[xa2 hi] at h2;simp only[Option.map_some,Option.getD_some,Qdb,Qdr] at h2;refine⟨hi,λh=>?_,λhsz e he hlt=>?_⟩
 ·unfold za1 at h;rw[h] at h2;cases h2.1
 ·obtain⟨ed,h3,h4,h5⟩:=Wc7.1 he;have h6:(Ja5 ops i).after.all (λe=>!Region.binds .any e||listed.getD e.on false)=true:=h2.2
  rw[Qdm] at h6;have h7:=h6 ed h3;rw[h4,h5] at h7;simp only[Bool.not_true,Bool.false_or] at h7;unfold za1
  have:e<listed.size:=by omega
  simp only[Array.getD,this,dite_true] at h7 ⊢;exact h7
variable(hD:DC tr E.P ops M ks)(hT:Ad1 E ops ks s U T)(hin:∀j,j<ops.size->N1 tr E.P ops j=0->∀d,oa0 ops j=some d->d<s.a.length)
include hD
theorem se1 {listed : Array Bool} (hsz : listed.size = ops.size) {i : Nat} (hi : i < ops.size) {x : b7} (hx : ∀ d, oa0 ops i = some d → d < (T ops.size).a.length → (T ops.size).a[d]? = some x) :
  ab0 (T ops.size).a s.a (Y1 ops (listed.setIfInBounds i true))=putA (ab0 (T ops.size).a s.a (Y1 ops listed)) (oa0 ops i) x:=by
 refine List.ext_getElem? λt=>?_
 have hopen:∀t,oa0 ops i≠some t->(Y1 ops (listed.setIfInBounds i true) t↔Y1 ops listed t):=λt hne=>by
  constructor
  ·rintro⟨j,h1,h2,h3⟩;exact⟨j,h1,h2,λh=>h3 ((Va3 (hsz ▸ hi)).2 (.inl h))⟩
  ·rintro⟨j,h1,h2,h3⟩;refine⟨j,h1,h2,λh=>?_⟩
   rcases (Va3 (hsz ▸ hi)).1 h with h|h
   ·exact h3 h
   ·subst h;exact hne h2
 by_cases hd:oa0 ops i=some t
 ·have hno : ¬ Y1 ops (listed.setIfInBounds i true) t := by
   rintro⟨j,h1,h2,h3⟩
   rcases (hD.slots hi h1 hd).2 with h|h
   ·exact h3 ((Va3 (hsz ▸ hi)).2 (.inr h.symm))
   ·exact h h2
  rw[bb1 hno,hd]
  rcases Qds t (T ops.size).a.length with hlt|hge
  ·rw[Sc9 (by rw[bb0];exact hlt)]
   exact hx t hd hlt
  ·rw[Qdh hge,Qdh (by rw[vc9,bb0];exact hge)]
 ·rw[wc0 hd];by_cases ho:Y1 ops listed t
  ·rcases Qds t (T ops.size).a.length with hlt|hge
   ·rw[vc5 ho hlt,vc5 ((hopen t hd).2 ho) hlt]
   ·rw[Qdh (by rw[bb0];exact hge),Qdh (by rw[bb0];exact hge)]
  ·rw[bb1 ho,bb1 λh=>ho ((hopen t hd).1 h)]
include hT
end
section
variable{W:Nat->Prop}{ρ0:Rho}{H0:List b9}{F0:Fz}{w0 w:World}
variable{tr:Nat}{E:Env}{ops:Array Oper}{M:List Nat}{ks:List (Nat×PI)}{s:St}{U T:Nat->St}
variable(hD:DC tr E.P ops M ks)(hT:Ad1 E ops ks s U T)(hin:∀j,j<ops.size->N1 tr E.P ops j=0->∀d,oa0 ops j=some d->d<s.a.length)
variable(hpairs:eb1 E (T ops.size).a (Va0 ops.size M ks)=true)
variable(hG0:GOk E F0 w0)(hcalls:∀f,g7 E.P E.G f (E.call f))
theorem sd6{listed:Array Bool}(hsz:listed.size=ops.size){i:Nat}(hi:i<ops.size)(hk:N1 tr E.P ops i≠0):P9 tr E.P ops U (listed.setIfInBounds i true)=P9 tr E.P ops U listed:=by
 funext id;refine propext ⟨λ⟨b,h1,h2,h3,h4⟩=>⟨b,h1,h2,λh=>h3 ((Va3 (hsz ▸ hi)).2 (.inl h)),h4⟩,λ⟨b,h1,h2,h3,h4⟩=>⟨b,h1,h2,λh=>?_,h4⟩⟩
 rcases (Va3 (hsz ▸ hi)).1 h with h|h
 ·exact h3 h
 ·subst h;exact hk h2
include hD
include hT hin hpairs hG0 hcalls
end
section
variable{W:Nat->Prop}{ρ0:Rho}{H0:List b9}{F0:Fz}{w0 w:World}
variable{tr:Nat}{E:Env}{ops:Array Oper}{M:List Nat}{ks:List (Nat×PI)}{s:St}{U T:Nat->St}
variable(hD:DC tr E.P ops M ks)(hT:Ad1 E ops ks s U T)(hin:∀j,j<ops.size->N1 tr E.P ops j=0->∀d,oa0 ops j=some d->d<s.a.length)(hlen:H0.length<=s.H.length)
include hD hT hin hlen
omit hT hin hlen in
theorem se2{listed:Array Bool}(hsz:listed.size=ops.size)(h:Region.ready .any ops listed=[]):∀j,j<ops.size->za1 listed j:=by
 intro j
 induction j using Nat.strongRecOn with
 |_ j ih =>
  intro hj;apply Classical.byContradiction;intro hn;have hmem:j∈Region.ready .any ops listed:=by
   unfold Region.ready;rw[List.mem_filter];refine⟨Qdo.2 hj,?_⟩;rw[xa2 hj];simp only[Option.map_some,Option.getD_some,Qdb,Qdr];refine⟨by unfold za1 at hn;simpa using hn,?_⟩
   rw[Qdm];intro e he;cases hb:Region.binds .any e with
   |false=>rfl
   |true =>
    have hd:e.on∈Fa0 (Ja5 ops j):=Wc7.2 ⟨e,he,hb,rfl⟩;have hlt:=vc6 hD.rows (xa2 hj) hd
    have:=ih e.on hlt (by omega)
    unfold za1 at this;have h2:e.on<listed.size:=by omega
    simp only[Array.getD,h2,dite_true] at this ⊢;simpa using this
  rw[h] at hmem;cases hmem
def rb6(listed:Array Bool):Nat:=(listed.toList.filter λb=>!b).length
omit hD hT hin hlen in
theorem kc9:∀(l:List Bool) (i:Nat),l[i]?=some false->((l.set i true).filter λb=>!b).length+1=(l.filter λb=>!b).length
 |[],i,h=>by simp at h
 |b::l,0,h=>by
  simp at h
  subst h;simp
 |b::l,i+1,h=>by
  have ih:=kc9 l i (by simpa using h)
  simp only[List.set_cons_succ,List.filter_cons];cases b<;>simp[ih]
omit hD hT hin hlen in
theorem Xc4{listed:Array Bool}(h:rb6 listed=0)(j:Nat):za1 listed j:=by
 unfold rb6 at h;unfold za1;rw[List.length_eq_zero_iff,List.filter_eq_nil_iff] at h
 rcases Qds j listed.size with hj|hj
 ·have:=h listed[j] (by simp)
  simpa [Array.getD,hj] using this
 ·simp[Array.getD,Nat.not_lt.2 hj]
variable(hpairs:eb1 E (T ops.size).a (Va0 ops.size M ks)=true)(hG0:GOk E F0 w0)(hcalls:∀f,g7 E.P E.G f (E.call f))
include hpairs hG0 hcalls
end
abbrev Sum:=List b7->List b9->DT (b7×List b9)
def ALe(x y:b7):Prop:=∀ρ H F w v,F7 ρ H F w x v->F7 ρ H F w y v
theorem ALe.refl(x:b7):ALe x x:=λ_ _ _ _ _ h=>h
inductive Xc5:List b7->List b7->Prop
 |nil:Xc5 [] []
 |cons {x y l r} (h:ALe x y) (t:Xc5 l r):Xc5 (x::l) (y::r)
theorem Xc5.refl:∀l,Xc5 l l
 |[]=>.nil
 |x::l=>.cons (.refl x) (Xc5.refl l)
theorem Xc5.length{l r}(h:Xc5 l r):l.length=r.length:=by induction h<;>simp_all
theorem Xc5.get{l r}(h:Xc5 l r):∀(i:Nat) y,r[i]?=some y->∃x,l[i]?=some x/\ALe x y:=by
 induction h with
 |nil=>intro i y hy;simp at hy
 |cons h t ih =>
  intro i y hy;cases i with
  |zero=>simp at hy;subst hy;exact⟨_,rfl,h⟩
  |succ i=>simpa using ih i y (by simpa using hy)
theorem g7.refine {P : Program} {G : Nat → List Value} {f : FuncId} {S S' : Sum} (h : g7 P G f S)
  (hr:∀args blks r,(S' args blks).run=some r->∃Sb1,Xc5 args Sb1/\(S Sb1 blks).run=some r):g7 P G f S':=by
 intro args blks r out he W ρ F w args' hH hlen hargs hG;obtain⟨Sb1,ha,he2⟩:=hr args blks _ he;refine h Sb1 blks r out he2 W ρ F w args' hH (ha.length ▸ hlen) (λi y x' hy hx'=>?_) hG
 obtain⟨x,hx,hle⟩:=ha.get i y hy;exact hle _ _ _ _ _ (hargs i x x' hx hx')
def kf0(l:List (Nat×Sum)):FuncId->Sum :=
 List.rec (motive:=λ_=>FuncId->Sum) (λ_ _ _=>.fail) (λp _ ih f=>Bool.rec (motive:=λ_=>Sum) (ih f) p.2 (Nat.beq p.1 f)) l
def i9(P:Program)(G:Nat->List Value):List (Nat×Sum)->Prop
 |[]=>True
 |p::l=>g7 P G p.1 p.2/\i9 P G l
theorem ie9{P:Program}{G:Nat->List Value}:∀{l:List (Nat×Sum)},i9 P G l->∀f,g7 P G f (kf0 l f)
 |[],_,f=>λargs blks r out h=>by cases h
 |(n,S)::l,h,f=>by
  show g7 P G f (Bool.rec (motive:=λ_=>Sum) (kf0 l f) S (Nat.beq n f))
  cases hb:Nat.beq n f with
  |false=>exact ie9 h.2 f
  |true=>rw[<- Qda hb];exact h.1
inductive PS where
 |pc (c:PC)
 |seq (a b:PS)
 |cond (c:Arg) (x y:PS)
 |block (id:Nat) (c:PS)
 |loop (keep:List Nat) (c:PS)
 |sum (S:St->DT (e8×St))
def tf1(E:Env)(k:Nat)(c:PS):St->DT (e8×St) :=
 PS.rec (motive:=λ_=>St->DT (e8×St))
  (λc=>Q5 E k c)
  (λ_ _ x y s=>(x s).bind λr=>e8.rec (motive:=λ_=>DT (e8×St)) (y r.2) (λid=>.ret (.exit id,r.2)) (.ret (.ret,r.2)) r.1)
  (λc _ _ x y s=>match c9 E s.a c with
   |.v (.bool b)=>.ite b (x s) (y s)
   |_=>.fail)
  (λid _ x s=>(x s).bind λr=>e8.rec (motive:=λ_=>DT (e8×St)) (.ret (.normal,r.2))
   (λid'=>Bool.rec (.ret (.exit id',r.2)) (.ret (.normal,r.2)) (Nat.beq id' id)) (.ret (.ret,r.2)) r.1)
  (λkeep _ x=>Ub4 (λs=>tidy k ⟨Q6 keep s.a 0,s.H⟩) x E.N)
  (λS=>S) c
def ba9{α:Type}(x y:DT α):Prop:=∀r,x.run=some r->y.run=some r
theorem ba9.refl{α:Type}(x:DT α):ba9 x x:=λ_ h=>h
theorem ba9.bind{α β:Type}{x y:DT α}{f g:α->DT β}(h:ba9 x y)(hf:∀a,ba9 (f a) (g a)):ba9 (x.bind f) (y.bind g):=λr hr=>by
 obtain⟨a,h1,h2⟩:=DT.run_bind_some hr;rw[DT.run_bind,h a h1];exact hf a r h2
theorem ba9.ite{α:Type}{b:Bool}{x y x' y':DT α}(h:ba9 x x')(h':ba9 y y'):ba9 (.ite b x y) (.ite b x' y'):=λr hr=>by
 rw[DT.run_ite] at hr ⊢
 split at hr
 ·next hb=>simpa [hb] using h r hr
 ·next hb=>simpa [hb] using h' r hr
theorem ba9.fail{α:Type}(y:DT α):ba9 .fail y:=λ_ h=>by cases h
theorem Mb7{head:St->DT St}{body body':St->DT (e8×St)}(h:∀s,ba9 (body s) (body' s)):∀n s,ba9 (Ub4 head body n s) (Ub4 head body' n s)
 |0,s=>.refl _
 |n+1,s=>by
  show ba9 ((head s).bind λs=>(body s).bind _) ((head s).bind λs=>(body' s).bind _)
  refine ba9.bind (.refl _) λs=>(h s).bind λr=>?_
  rcases r with⟨x,s'⟩
  cases x with
  |normal=>exact Mb7 h n s'
  |exit id=>exact .refl _
  |ret=>exact .refl _
inductive Va4 (E:Env) (k:Nat):PS->PC->Prop
 |pc (c:PC):Va4 E k (.pc c) c
 |seq {a b:PS} {a' b':PC} (h:Va4 E k a a') (h':Va4 E k b b'):Va4 E k (.seq a b) (.seq a' b')
 |cond (c:Arg) {a b:PS} {a' b':PC} (h:Va4 E k a a') (h':Va4 E k b b'):Va4 E k (.cond c a b) (.cond c a' b')
 |block (id:Nat) {a:PS} {a':PC} (h:Va4 E k a a'):Va4 E k (.block id a) (.block id a')
 |loop (keep:List Nat) {a:PS} {a':PC} (h:Va4 E k a a'):Va4 E k (.loop keep a) (.loop keep a')
 |sum {S:St->DT (e8×St)} {c:PC} (h:∀s,ba9 (S s) (Q5 E k c s)):Va4 E k (.sum S) c
theorem Va4.le{E:Env}{k:Nat}{a:PS}{c:PC}(h:Va4 E k a c):∀s,ba9 (tf1 E k a s) (Q5 E k c s):=by
 induction h with
 |pc c=>exact λs=>.refl _
 |seq h h' ih ih' =>
  intro s;refine (ih s).bind λr=>?_
  rcases r with⟨x,s'⟩
  cases x with
  |normal=>exact ih' s'
  |exit id=>exact .refl _
  |ret=>exact .refl _
 |cond c h h' ih ih' =>
  intro s;show ba9 (match c9 E s.a c with | .v (.bool b)=>_ | _=>_) (match c9 E s.a c with | .v (.bool b)=>_ | _=>_)
  split
  ·exact .ite (ih s) (ih' s)
  ·exact .fail _
 |block id h ih=>exact λs=>(ih s).bind λr=>.refl _
 |loop keep h ih=>exact λs=>Mb7 ih _ s
 |sum h=>exact h
def Mb8(head:St->DT St)(body:St->DT (e8×St))(s:St):DT (e8×St) :=
 (body s).bind λr=>e8.rec (motive:=λ_=>DT (e8×St)) ((head r.2).bind λs=>.ret (.normal,s)) (λid=>.ret (.exit id,r.2)) (.ret (.ret,r.2)) r.1
def pc1(head:St->DT St)(body:St->DT (e8×St))(n:Nat)(s:St):DT (e8×St) :=
 (body s).bind λr=>e8.rec (motive:=λ_=>DT (e8×St)) (Ub4 head body n r.2) (λid=>.ret (.exit id,r.2)) (.ret (.ret,r.2)) r.1
theorem gc6{head:St->DT St}{body:St->DT (e8×St)}{n:Nat}{s t:St}{r:e8×St}(h:(head s).run=some t)(h2:(pc1 head body n t).run=some r):(Ub4 head body (n+1) s).run=some r:=by
 show ((head s).bind λs=>pc1 head body n s).run=some r
 rw[DT.run_bind,h];exact h2
theorem Te4{head:St->DT St}{body:St->DT (e8×St)}{n:Nat}{s t:St}{r:e8×St}(h:(Mb8 head body s).run=some (.normal,t))(h2:(pc1 head body n t).run=some r):(pc1 head body (n+1) s).run=some r:=by
 obtain⟨⟨x,s1⟩,h3,h4⟩:=DT.run_bind_some h;cases x with
 |normal =>
  obtain⟨t',h5,h6⟩:=DT.run_bind_some h4;cases h6;show ((body s).bind _).run=_;rw[DT.run_bind,h3];exact gc6 h5 h2
 |exit id=>cases h4
 |ret=>cases h4
theorem Te5{head:St->DT St}{body:St->DT (e8×St)}{n:Nat}{s t:St}{x:e8}(h:(Mb8 head body s).run=some (x,t))(hx:x≠.normal):(pc1 head body n s).run=some (x,t):=by
 obtain⟨⟨y,s1⟩,h3,h4⟩:=DT.run_bind_some h;cases y with
 |normal =>
  obtain⟨t',h5,h6⟩:=DT.run_bind_some h4;cases h6;exact absurd rfl hx
 |exit id =>
  show ((body s).bind _).run=_;rw[DT.run_bind,h3];exact h4
 |ret =>
  show ((body s).bind _).run=_;rw[DT.run_bind,h3];exact h4
@[reducible] def Xb8(k:Nat)(keep:List Nat)(s:St):DT St:=tidy k ⟨Q6 keep s.a 0,s.H⟩
theorem sd7(E:Env)(k:Nat)(keep:List Nat)(c:PC)(s:St):Q5 E k (.loop keep c) s=Ub4 (Xb8 k keep) (Q5 E k c) E.N s:=rfl
inductive Sh where
 |unk
 |int
 |bool
 |tree (es:Nat)
 |ptr (id i c g:Nat)
@[reducible] def sel{α:Type}(c:Bool)(t e:α):α:=Bool.rec (motive:=λ_=>α) e t c
theorem bb2{g a:Int}(h:a>0):(Int.tmod g a).toNat<a.toNat:=by
 have:=Int.tmod_lt_of_pos g h
 omega
@[reducible] def i(n:Int):b7:=.v (.int .i64 n)
@[reducible] def b(x:Bool):b7:=.v (.bool x)
def Te6:b7->Option Int
 |.v (.int .i64 n)=>some n
 |_=>none
theorem Te7{x:b7}{n:Int}(h:Te6 x=some n):x=i n:=by
 unfold Te6 at h
 split at h
 ·cases h;rfl
 ·cases h
abbrev W(n:Int):Int:=IntKind.wrap .i64 n
structure Cod(α:Type) where
 enc:α->b7
 dec:b7->Option α
 grd:b7->Bool
 ok:∀x a,dec x=some a->grd x=true->ALe x (enc a)
def Be2:b7->Option Bool
 |.v (.bool n)=>some n
 |_=>none
theorem Be3{x:b7}{n:Bool}(h:Be2 x=some n):x=b n:=by
 unfold Be2 at h
 split at h
 ·cases h;rfl
 ·cases h
theorem ALe.of{x y:b7}(h:x=y):ALe x y:=h ▸ .refl x
def cI:Cod Int:=⟨i,Te6,λ_=>true,λ_ _ h _=>.of (Te7 h)⟩
def cB:Cod Bool:=⟨b,Be2,λ_=>true,λ_ _ h _=>.of (Be3 h)⟩
theorem fa6.get{F:Fz}{w:World}{es n:Nat}{get get':Nat->List b7}{v:Value}(h:fa6 F w (.tree es n get) v)(he:∀k,k<n->get' k=get k):fa6 F w (.tree es n get') v:=by
 cases h with
 |tree _ _ _ a cap cs hs hcap hes hF hw hr =>
  refine .tree es n get' a cap cs hs hcap (λi hi=>by rw[he i hi];exact hes i hi) hF hw (λi c hi hc=>?_)
  have e:=he i hi;have hc':c<(get i).length:=by rw[<- e];exact hc
  have:=hr i c hi hc'
  have e2:(get' i)[c]=(get i)[c]:=by congr 1
  rw[e2];exact this
 |nil=>exact .nil _ _
theorem ALe.tree{es n:Nat}{get get':Nat->List b7}(he:∀k,k<n->get' k=get k):ALe (.tree es n get) (.tree es n get'):=λρ H F w v h=>.val (.cell (.mem ((ya9 h).get he)))
def g3(x y z:Int):Nat->List b7
 |0=>[i x]
 |1=>[i y]
 |_=>[i z]
def Te8:List b7->Option Int
 |[x]=>Te6 x
 |_=>none
def d3(x:b7):Option (Int×Int×Int):=match x with
 |.tree 1 3 get=>Option.rec (motive:=λ_=>Option (Int×Int×Int)) none (λa=>Option.rec (motive:=λ_=>Option (Int×Int×Int)) none (λb=>Option.rec (motive:=λ_=>Option (Int×Int×Int)) none (λc=>some (a,b,c)) (Te8 (get 2))) (Te8 (get 1))) (Te8 (get 0))
 |_=>none
def d1(x:b7):Option Int:=match x with
 |.tree 1 1 get=>Te8 (get 0)
 |_=>none
structure IL where
 n:Nat
 g:Nat->Int
structure LL where
 a:IL
 b:IL
def onO{α:Type}(x:Option α)(k:α->DT (b7×List b9)):DT (b7×List b9):=Option.rec (motive:=λ_=>DT (b7×List b9)) .fail k x
theorem G3{α:Type}{x:Option α}{k:α->DT (b7×List b9)}{r:b7×List b9}(h:(onO x k).run=some r):∃a,x=some a/\(k a).run=some r:=by
 cases x with
 |none=>cases h
 |some a=>exact⟨a,rfl,h⟩
section
variable{α β γ δ:Type}
def be7(k:DT (b7×List b9)):Sum:=λargs blks=>match args,blks with
 |[],[]=>k
 |_,_=>.fail
def V1(c:Cod α)(k:α->DT (b7×List b9)):Sum:=λargs blks=>match args,blks with
 |[x],[]=>onO (c.dec x) λa=>.guard (c.grd x) (k a)
 |_,_=>.fail
def ta8(c:Cod α)(d:Cod β)(k:α->β->DT (b7×List b9)):Sum:=λargs blks=>match args,blks with
 |[x,y],[]=>onO (c.dec x) λa=>onO (d.dec y) λb=>.guard (c.grd x) (.guard (d.grd y) (k a b))
 |_,_=>.fail
def pc2(c:Cod α)(d:Cod β)(e:Cod γ)(k:α->β->γ->DT (b7×List b9)):Sum:=λargs blks=>match args,blks with
 |[x,y,z],[]=>onO (c.dec x) λa=>onO (d.dec y) λb=>onO (e.dec z) λg=>.guard (c.grd x) (.guard (d.grd y) (.guard (e.grd z) (k a b g)))
 |_,_=>.fail
variable{P:Program}{G:Nat->List Value}{f:FuncId}{R:Sum}{c:Cod α}{d:Cod β}{e:Cod γ}{c4:Cod δ}
theorem g7.le{S':Sum}(h:g7 P G f R)(hr:∀args blks r,(S' args blks).run=some r->(R args blks).run=some r):g7 P G f S' :=
 h.refine λargs blks r hh=>⟨args,.refl _,hr args blks r hh⟩
theorem Te9{k}(hb:g7 P G f R)(h:∀r,k.run=some r->(R [] []).run=some r):g7 P G f (be7 k):=hb.le λargs blks r hr=>by
 unfold be7 at hr
 split at hr
 ·exact h r hr
 ·cases hr
theorem Bb1{k:α->_}(hb:g7 P G f R)(h:∀a r,(k a).run=some r->(R [c.enc a] []).run=some r):g7 P G f (V1 c k):=hb.refine λargs blks r hr=>by
 unfold V1 at hr
 split at hr
 ·obtain⟨a,h1,hr⟩:=G3 hr;obtain⟨g1,hr⟩:=DT.run_guard_some hr;exact⟨_,.cons (c.ok _ a h1 g1) .nil,h a r hr⟩
 ·cases hr
theorem Da9{k:α->β->_}(hb:g7 P G f R)(h:∀a b r,(k a b).run=some r->(R [c.enc a,d.enc b] []).run=some r):g7 P G f (ta8 c d k):=hb.refine λargs blks r hr=>by
 unfold ta8 at hr
 split at hr
 ·obtain⟨a,h1,hr⟩:=G3 hr;obtain⟨b,h2,hr⟩:=G3 hr;obtain⟨g1,hr⟩:=DT.run_guard_some hr;obtain⟨g2,hr⟩:=DT.run_guard_some hr;exact⟨_,.cons (c.ok _ a h1 g1) (.cons (d.ok _ b h2 g2) .nil),h a b r hr⟩
 ·cases hr
theorem Ue0{k:α->β->γ->_}(hb:g7 P G f R)(h:∀a b g r,(k a b g).run=some r->(R [c.enc a,d.enc b,e.enc g] []).run=some r):g7 P G f (pc2 c d e k):=hb.refine λargs blks r hr=>by
 unfold pc2 at hr
 split at hr
 ·obtain⟨a,h1,hr⟩:=G3 hr;obtain⟨b,h2,hr⟩:=G3 hr;obtain⟨g,h3,hr⟩:=G3 hr;obtain⟨g1,hr⟩:=DT.run_guard_some hr;obtain⟨g2,hr⟩:=DT.run_guard_some hr;obtain⟨g3,hr⟩:=DT.run_guard_some hr;exact⟨_,.cons (c.ok _ a h1 g1) (.cons (d.ok _ b h2 g2) (.cons (e.ok _ g h3 g3) .nil)),h a b g r hr⟩
 ·cases hr
end
inductive Stp (σ:Type) where
 |fail
 |next (s:σ)
 |exit (t:Nat)
@[reducible] def Xb9{σ α:Type}(f:σ->α)(x:Nat->α)(z:α)(r:Stp σ):α:=Stp.rec (motive:=λ_=>α) z f x r
def lp0{σ:Type}(step:σ->Stp σ)(n:Nat):σ->Nat×σ :=
 Nat.rec (motive:=λ_=>σ->Nat×σ) (λs=>Xb9 (λ_=>(0,s)) (λt=>(t,s)) (0,s) (step s))
  (λ_ ih s=>Xb9 (λs'=>ih s') (λt=>(t,s)) (0,s) (step s)) n
def lpS:{ f:(σ:Type)->(σ->Stp σ)->Nat->σ->Nat×σ // f=λ_=>lp0 }:=Classical.choice ⟨⟨_,rfl⟩⟩
def rounds:Nat:=18446744073709551615
def lp{σ:Type}(step:σ->Stp σ)(s:σ):Nat×σ:=lpS.1 σ step rounds s
theorem Be4{σ:Type}(step:σ->Stp σ)(s:σ):lp step s=lp0 step rounds s:=by
 unfold lp;rw[lpS.2]
theorem Md3{σ:Type}{step:σ->Stp σ}{n:Nat}{s s':σ}(h:step s=.next s'):lp0 step (n+1) s=lp0 step n s':=by
 show Xb9 (λs'=>lp0 step n s') _ _ (step s)=_
 rw[h]
theorem Xc6{σ:Type}{step:σ->Stp σ}{n t:Nat}{s:σ}(h:step s=.exit t):lp0 step n s=(t,s):=by
 cases n with
 |zero=>show Xb9 _ _ _ (step s)=_;rw[h]
 |succ n=>show Xb9 _ _ _ (step s)=_;rw[h]
inductive Sk where
 |unk
 |u
 |nil
 |bool
 |int (k:IntKind)
 |lit (k:IntKind) (n:Int)
 |blit (x:Bool)
 |tree (es:Nat)
 |ptr (id i c g:Nat)
 |sl (id g:Nat) (off n:Option Nat)
 |fn (f:Nat)
def slO:b7->Nat
 |.sl _ off _ _=>off
 |_=>0
def slN:b7->Nat
 |.sl _ _ n _=>n
 |_=>0
@[reducible] def oN(o:Option Nat)(x:Nat):Nat:=Option.rec (motive:=λ_=>Nat) x (λy=>y) o
@[reducible] def okN(o:Option Nat)(x:Nat):Bool:=Option.rec (motive:=λ_=>Bool) true (λy=>Nat.beq y x) o
def kf1:Sk->b7->Bool
 |.unk,.unk=>true
 |.u,.v (.tuple a)=>List.rec (motive:=λ_=>Bool) true (λ_ _ _=>false) a.toList
 |.nil,.v (.slice none 0 0)=>true
 |.bool,.v (.bool _)=>true
 |.int k,.v (.int k' _)=>decide (k=k')
 |.lit k n,.v (.int k' m)=>Bool.and (decide (k=k')) (decide (n=m))
 |.blit x,.v (.bool y)=>Bool.rec (!y) y x
 |.tree es,.tree es' _ _=>Nat.beq es es'
 |.ptr id i c g,.ptr id' i' c' g'=>Bool.and (Bool.and (Nat.beq id id') (Nat.beq i i')) (Bool.and (Nat.beq c c') (Nat.beq g g'))
 |.sl id g off n,.sl id' off' n' g'=>Bool.and (Bool.and (Nat.beq id id') (Nat.beq g g')) (Bool.and (okN off off') (okN n n'))
 |.fn f,.fn f' []=>Nat.beq f f'
 |_,_=>false
def tf2:Sk->b7->b7
 |.unk,_=>.unk
 |.u,_=>.v (.tuple #[])
 |.nil,_=>.v (.slice none 0 0)
 |.bool,x=>.v (.bool (toB x))
 |.int k,x=>.v (.int k (toI x))
 |.lit k n,_=>.v (.int k n)
 |.blit y,_=>.v (.bool y)
 |.tree es,x=>.tree es (toN x) (toG x)
 |.ptr id i c g,_=>.ptr id i c g
 |.sl id g off n,x=>.sl id (oN off (slO x)) (oN n (slN x)) g
 |.fn f,_=>.fn f []
theorem df8{o:Option Nat}{x:Nat}(h:okN o x=true):oN o x=x:=by
 cases o with
 |none=>rfl
 |some y=>exact Qda h
theorem Ue1{k:Sk}{x:b7}(h:kf1 k x=true):x=tf2 k x:=by
 unfold kf1 at h
 split at h<;>first | rfl | (cases h;done) | skip
 ·rename_i a;obtain⟨l⟩:=a;cases l with
  |nil=>rfl
  |cons=>cases h
 ·rw[of_decide_eq_true h];rfl
 ·simp only[Qdb,decide_eq_true_eq] at h;rw[h.1,h.2];rfl
 ·rename_i a c;cases a<;>cases c<;>first | rfl | cases h
 ·rw[Qda h];rfl
 ·simp only[Qdb] at h;obtain⟨⟨h1,h2⟩,h3,h4⟩:=h;rw[Qda h1,Qda h2,Qda h3,Qda h4];rfl
 ·rename_i id g off n id' off' n' g';simp only[Qdb] at h;obtain⟨⟨h1,h2⟩,h3,h4⟩:=h;rw[<- Qda h1,<- Qda h2];show b7.sl id off' n' g=.sl id (oN off off') (oN n n') g;rw[df8 h3,df8 h4]
 ·rw[Qda h];rfl
inductive Sl where
 |s (k:Sk)
 |agg (l:List Sk)
 |tup (l:List Sk)
 |fn (f:Nat) (l:List Sk)
def cellsOf:b7->List b7
 |.agg l=>l
 |.tup l=>l
 |.fn _ l=>l
 |_=>[]
@[reducible] def hdR(l:List (List b7)):List b7:=List.rec (motive:=λ_=>List b7) [] (λx _ _=>x) l
@[reducible] def tlR(l:List (List b7)):List (List b7):=List.rec (motive:=λ_=>List (List b7)) [] (λ_ r _=>r) l
structure Bk where
 et:Nat
 es:Nat
 own:Bool
 rows:Option (List (List Sk))
@[reducible] def eqB(a c:Bool):Bool:=Bool.rec (!c) c a
@[reducible] def hdB(l:List b9):List (List b7):=List.rec (motive:=λ_=>List (List b7)) [] (λx _ _=>x.elems) l
@[reducible] def tlB(l:List b9):List b9:=List.rec (motive:=λ_=>List b9) [] (λ_ r _=>r) l
inductive Va5 {α:Type} (P:α->Prop):List α->Prop
 |nil:Va5 P []
 |cons {x:α} {l:List α} (h:P x) (t:Va5 P l):Va5 P (x::l)
theorem Va5.mem{α:Type}{P:α->Prop}{l:List α}(h:Va5 P l):∀x,x∈l->P x:=by
 induction h with
 |nil=>intro x h;cases h
 |cons h t ih =>
  intro x hx;cases hx with
  |head=>exact h
  |tail _ hx=>exact ih x hx
structure Alt(π σ:Type) where
 sh:List Sl
 bl:List Bk
 rd:List b7->List b9->π×σ
def ra(n:Nat)(l:List b7):List b7:=Nat.rec (motive:=λ_=>List b7) l (λ_ ih=>.unk::ih) n
def kf2(k:Nat)(res:List Cc9)(s:St):DT (b7×List b9) :=
 match gb2 (kb6 s.a s.H) res with
 |some l=>Wb2 k s.H (Db7 l)
 |none=>.fail
def cut(k:Nat)(res:List Cc9)(r:e8×St):DT (e8×St) :=
 e8.rec (motive:=λ_=>DT (e8×St)) (.ret (.normal,r.2)) (λid=>.ret (.exit id,r.2)) ((kf2 k res r.2).bind λq=>.ret (.ret,⟨[q.1],q.2⟩)) r.1
def je0(E:Env)(k:Nat)(res:List Cc9)(c:PS):St->DT (e8×St) :=
 PS.rec (motive:=λ_=>St->DT (e8×St))
  (λc s=>(Q5 E k c s).bind (cut k res))
  (λ_ _ x y s=>(x s).bind λr=>e8.rec (motive:=λ_=>DT (e8×St)) (y r.2) (λid=>.ret (.exit id,r.2)) (.ret (.ret,r.2)) r.1)
  (λc _ _ x y s=>match c9 E s.a c with
   |.v (.bool b)=>.ite b (x s) (y s)
   |_=>.fail)
  (λid _ x s=>(x s).bind λr=>e8.rec (motive:=λ_=>DT (e8×St)) (.ret (.normal,r.2))
   (λid'=>Bool.rec (.ret (.exit id',r.2)) (.ret (.normal,r.2)) (Nat.beq id' id)) (.ret (.ret,r.2)) r.1)
  (λkeep _ x=>Ub4 (λs=>tidy k ⟨Q6 keep s.a 0,s.H⟩) x E.N)
  (λS=>S) c
section
variable{k:Nat}{res:List Cc9}
inductive FR (k:Nat) (res:List Cc9):e8×St->e8×St->Prop
 |same (x:e8) (s:St) (h:x≠.ret):FR k res (x,s) (x,s)
 |ret (s:St) (q:b7×List b9) (h:(kf2 k res s).run=some q):FR k res (.ret,⟨[q.1],q.2⟩) (.ret,s)
def ha8(k:Nat)(res:List Cc9)(x y:DT (e8×St)):Prop:=∀r,x.run=some r->∃r',y.run=some r'/\FR k res r r'
theorem ha8.bind{x y:DT (e8×St)}{f g:e8×St->DT (e8×St)}(h:ha8 k res x y)(hf:∀r r',FR k res r r'->ha8 k res (f r) (g r')):ha8 k res (x.bind f) (y.bind g):=λr hr=>by
 obtain⟨a,h1,h2⟩:=DT.run_bind_some hr;obtain⟨a',h3,h4⟩:=h a h1;obtain⟨r',h5,h6⟩:=hf a a' h4 r h2;exact⟨r',by rw[DT.run_bind,h3];exact h5,h6⟩
theorem ha8.ite{b:Bool}{x y x' y':DT (e8×St)}(h:ha8 k res x x')(h':ha8 k res y y'):ha8 k res (.ite b x y) (.ite b x' y'):=λr hr=>by
 rw[DT.run_ite] at hr;rw[DT.run_ite]
 split at hr
 ·next hb=>simpa [hb] using h r hr
 ·next hb=>simpa [hb] using h' r hr
theorem ha8.one{r r':e8×St}(h:FR k res r r'):ha8 k res (.ret r) (.ret r'):=λa ha=>by
 cases ha;exact⟨r',rfl,h⟩
theorem ha8.cut(x:DT (e8×St)):ha8 k res (x.bind (cut k res)) x:=λr hr=>by
 obtain⟨⟨a,s⟩,h1,h2⟩:=DT.run_bind_some hr;refine⟨(a,s),h1,?_⟩;cases a with
 |normal=>cases h2;exact .same _ _ (λh=>by cases h)
 |exit id=>cases h2;exact .same _ _ (λh=>by cases h)
 |ret =>
  obtain⟨q,h3,h4⟩:=DT.run_bind_some h2;cases h4;exact .ret s q h3
theorem Yb0{head:St->DT St}{body body':St->DT (e8×St)}(h:∀s,ha8 k res (body s) (body' s)):∀n s,ha8 k res (Ub4 head body n s) (Ub4 head body' n s)
 |0,s=>λr hr=>by cases hr
 |n+1,s=>by
  intro r hr;obtain⟨t,h1,h2⟩:=DT.run_bind_some hr
  have:ha8 k res ((body t).bind λr=>e8.rec (motive:=λ_=>DT (e8×St)) (Ub4 head body n r.2) (λid=>.ret (.exit id,r.2)) (.ret (.ret,r.2)) r.1) ((body' t).bind λr=>e8.rec (motive:=λ_=>DT (e8×St)) (Ub4 head body' n r.2) (λid=>.ret (.exit id,r.2)) (.ret (.ret,r.2)) r.1):=by
   refine (h t).bind λa a' ha=>?_
   cases ha with
   |same x s hx =>
    cases x with
    |normal=>exact Yb0 h n s
    |exit id=>exact .one (.same _ _ hx)
    |ret=>exact absurd rfl hx
   |ret s q hq=>exact .one (.ret s q hq)
  obtain⟨r',h3,h4⟩:=this r h2;refine⟨r',?_,h4⟩;show ((head s).bind λs=>(body' s).bind _).run=_
  rw[DT.run_bind,h1];exact h3
inductive pa5 (E:Env) (k:Nat) (res:List Cc9):PS->PC->Prop
 |pc (c:PC):pa5 E k res (.pc c) c
 |seq {a b:PS} {a' b':PC} (h:pa5 E k res a a') (h':pa5 E k res b b'):pa5 E k res (.seq a b) (.seq a' b')
 |cond (c:Arg) {a b:PS} {a' b':PC} (h:pa5 E k res a a') (h':pa5 E k res b b'):pa5 E k res (.cond c a b) (.cond c a' b')
 |block (id:Nat) {a:PS} {a':PC} (h:pa5 E k res a a'):pa5 E k res (.block id a) (.block id a')
 |loop (keep:List Nat) {a:PS} {a':PC} (h:pa5 E k res a a'):pa5 E k res (.loop keep a) (.loop keep a')
 |sum {S:St->DT (e8×St)} {c:PC} (h:∀s,ha8 k res (S s) (Q5 E k c s)):pa5 E k res (.sum S) c
theorem pa5.le{E:Env}{a:PS}{c:PC}(h:pa5 E k res a c):∀s,ha8 k res (je0 E k res a s) (Q5 E k c s):=by
 induction h with
 |pc c=>exact λs=>.cut _
 |seq h h' ih ih' =>
  intro s;refine (ih s).bind λr r' hr=>?_
  cases hr with
  |same x s hx =>
   cases x with
   |normal=>exact ih' s
   |exit id=>exact .one (.same _ _ hx)
   |ret=>exact absurd rfl hx
  |ret s q hq=>exact .one (.ret s q hq)
 |cond c h h' ih ih' =>
  intro s;show ha8 k res (match c9 E s.a c with | .v (.bool b)=>_ | _=>_) (match c9 E s.a c with | .v (.bool b)=>_ | _=>_)
  split
  ·exact .ite (ih s) (ih' s)
  ·exact λr hr=>by cases hr
 |block id h ih =>
  intro s;refine (ih s).bind λr r' hr=>?_
  cases hr with
  |same x s hx =>
   cases x with
   |normal=>exact .one (.same _ _ λh=>by cases h)
   |exit id' =>
    show ha8 k res (Bool.rec (.ret (.exit id',s)) (.ret (.normal,s)) (Nat.beq id' id)) (Bool.rec (.ret (.exit id',s)) (.ret (.normal,s)) (Nat.beq id' id));cases Nat.beq id' id with
    |false=>exact .one (.same _ _ hx)
    |true=>exact .one (.same _ _ λh=>by cases h)
   |ret=>exact absurd rfl hx
  |ret s q hq=>exact .one (.ret s q hq)
 |loop keep h ih=>exact λs=>Yb0 ih _ s
 |sum h=>exact h
end
def tf3(E:Env)(fn:PFn)(body:PS)(args:List b7)(blks:List b9):DT (b7×List b9) :=
 (je0 E (len blks) fn.res body ⟨app args (List.replicate (fn.ntmps-len args) (.v (.tuple #[]))),blks⟩).bind λr =>
  e8.rec (motive:=λ_=>DT (b7×List b9)) (kf2 (len blks) fn.res r.2) (λ_=>.fail) (.ret (hdA r.2.a,r.2.H)) r.1
theorem be8{E:Env}{fn:PFn}{body:PS}{args:List b7}{blks:List b9}(h:pa5 E (len blks) fn.res body fn.body):ba9 (tf3 E fn body args blks) (Hb5 E fn args blks):=λr hr=>by
 obtain⟨a,h1,h2⟩:=DT.run_bind_some hr;obtain⟨a',h3,h4⟩:=h.le _ a h1;show ((Q5 E (len blks) fn.body _).bind _).run=_;rw[DT.run_bind,h3];cases h4 with
 |same x s hx =>
  cases x with
  |normal=>exact h2
  |exit id=>cases h2
  |ret=>exact absurd rfl hx
 |ret s q hq =>
  cases h2;exact hq
theorem ALe.nilTree(es:Nat)(get:Nat->List b7):ALe (.v (.slice none 0 0)) (.tree es 0 get):=λρ H F w v h=>by
 have:=ga9 h
 subst this;exact .val (.cell (.mem (.nil es get)))
theorem ALe.emptyTree(es:Nat)(get:Nat->List b7)(a:Addr)(c:Nat):ALe (.v (.slice (some a) 0 c)) (.tree es 0 get):=λρ H F w v h=>by
 have:=ga9 h
 subst this;exact .val (.cell (.mem (.tree es 0 get a c (λ_ _=>.tuple #[]) (λh=>absurd h (by omega)) (Nat.zero_le _) (λi h=>absurd h (by omega)) (λi c h=>absurd h (by omega)) (λi c h=>absurd h (by omega)) (λi c h=>absurd h (by omega)))))
section
variable{α:Type}{row:α->List b7}{isr:List b7->Bool}{rd:List b7->α}{d:α}
theorem Be5{β:Type}(f:α->β)(l:List α):len (o8 f l)=l.length:=by rw[n7,p5,List.length_map]
theorem Md4(row:α->List b7)(d:α){l:List α}{k:Nat}(h:k<l.length):n5 (o8 row l) k=row (l.getD k d):=by
 unfold n5;rw[D9,p5,Qdf,Qdd,Qdc h];rfl
theorem Be6(row:α->List b7)(l r:List α):app (o8 row l) (o8 row r)=o8 row (l++r):=by
 rw[I6,p5,p5,p5,List.map_append]
theorem be9(row:α->List b7)(l:List α)(k:Nat)(x:α):setAt (o8 row l) k (row x)=o8 row (l.set k x):=by
 rw[E7,p5,p5,List.map_set]
end
section
variable{α β γ δ ε ζ:Type}
def se3(c:Cod α)(d:Cod β)(e:Cod γ)(f:Cod δ)(c5:Cod ε)(c6:Cod ζ)(k:α->β->γ->δ->ε->ζ->DT (b7×List b9)):Sum:=λargs blks=>match args,blks with
 |[x,y,z,w,v,u],[]=>onO (c.dec x) λa=>onO (d.dec y) λb=>onO (e.dec z) λg=>onO (f.dec w) λj=>onO (c5.dec v) λm=>onO (c6.dec u) λn=>.guard (c.grd x) (.guard (d.grd y) (.guard (e.grd z) (.guard (f.grd w) (.guard (c5.grd v) (.guard (c6.grd u) (k a b g j m n))))))
 |_,_=>.fail
variable{P:Program}{G:Nat->List Value}{f:FuncId}{R:Sum}{c:Cod α}{d:Cod β}{e:Cod γ}{c4:Cod δ}{c5:Cod ε}{c6:Cod ζ}
theorem Ue2{k:α->β->γ->δ->ε->ζ->_}(hb:g7 P G f R)(h:∀a b g j m n r,(k a b g j m n).run=some r->(R [c.enc a,d.enc b,e.enc g,c4.enc j,c5.enc m,c6.enc n] []).run=some r):g7 P G f (se3 c d e c4 c5 c6 k):=hb.refine λargs blks r hr=>by
 unfold se3 at hr
 split at hr
 ·obtain⟨a,h1,hr⟩:=G3 hr;obtain⟨b,h2,hr⟩:=G3 hr;obtain⟨g,h3,hr⟩:=G3 hr;obtain⟨j,h4,hr⟩:=G3 hr;obtain⟨m,h5,hr⟩:=G3 hr;obtain⟨n,h6,hr⟩:=G3 hr;obtain⟨g1,hr⟩:=DT.run_guard_some hr;obtain⟨g2,hr⟩:=DT.run_guard_some hr;obtain⟨g3,hr⟩:=DT.run_guard_some hr;obtain⟨g4,hr⟩:=DT.run_guard_some hr;obtain⟨g5,hr⟩:=DT.run_guard_some hr;obtain⟨g6,hr⟩:=DT.run_guard_some hr;exact⟨_,.cons (c.ok _ a h1 g1) (.cons (d.ok _ b h2 g2) (.cons (e.ok _ g h3 g3) (.cons (c4.ok _ j h4 g4) (.cons (c5.ok _ m h5 g5) (.cons (c6.ok _ n h6 g6) .nil))))),h a b g j m n r hr⟩
 ·cases hr
end
section
variable{W:Nat->Prop}{ρ:Rho}{H H':List b9}{F:Fz}{w:World}
def Ea0(H:List b9):b7->Option (b7×List b9)
 |.agg cs=>match freezeCells H cs with
  |some (zs,H')=>some (.agg zs,H')
  |none=>none
 |x=>freezeCell H x
theorem Xc7 (hH : C4 W ρ H F w) {y z : b7} {y' : Value} (hy : ka8 ρ H F w y y') (he : Ea0 H y = some (z, H')) :
  ∃F',Adv W ρ H F w ρ H' F' w/\C4 W ρ H' F' w/\∀ρ2 H2 F2,(∀b o,F' b o->F2 b o)->ka8 ρ2 H2 F2 w z y':=by
 have cell:∀{y:b7},fa7 ρ H F w y y'->freezeCell H y=some (z,H')->∃F',Adv W ρ H F w ρ H' F' w/\C4 W ρ H' F' w/\∀ρ2 H2 F2,(∀b o,F' b o->F2 b o)->ka8 ρ2 H2 F2 w z y':=λ{y} hy he=>by
  obtain⟨F',h1,h2,h3,_⟩:=kc5 hH hy he;exact⟨F',h1,h2,λρ2 H2 F2 hF=>.cell (.mem (h3.adv hF λ_ _ _=>rfl))⟩
 cases y with
 |agg cs =>
  simp only[Ea0] at he;cases hf:freezeCells H cs with
  |none=>rw[hf] at he;cases he
  |some q =>
   obtain⟨zs,H1⟩:=q;rw[hf] at he;have he:some (b7.agg zs,H1)=some (z,H'):=he;injection he with he;injection he with e1 e2
   subst e1 e2;obtain⟨vs,rfl,hl,hr⟩:=Ja2 (.val hy);obtain⟨F',h1,h2,h3,h4,_⟩:=sb6 hH (vs:=vs.toList) (by simpa using hl) (λi y y' h h'=>hr i y y' h (by simpa using h')) hf
   refine⟨F',h1,h2,λρ2 H2 F2 hF=>.agg _ _ (by simpa [h3] using hl) λi x x' hx hx'=>.mem ((h4 i x x' hx (by simpa using hx')).adv hF λ_ _ _=>rfl)⟩
 |v u=>cases hy with | cell h=>exact cell h he
 |tree es n get=>cases hy with | cell h=>exact cell h he
 |sl id off n g=>cases hy with | cell h=>exact cell h he
 |ptr id i c g=>cases he
 |tptr cs=>cases he
 |unk=>cases he
 |tup l=>cases he
 |fn f caps =>
  cases caps with
  |cons=>cases he
  |nil =>
   cases hy with
   |cell h=>exact cell h he
   |fn f caps vs hl h =>
    injection he with he;injection he with e1 e2
    subst e1 e2
    have:vs=#[]:=by
     have:vs.size=0:=by simpa using hl.symm
     exact Array.eq_empty_of_size_eq_zero this
    subst this;rw[rb2];exact⟨F,.refl,hH,λρ2 H2 F2 hF=>.cell (.mem (.fn f))⟩
def gb4(H:List b9):List b7->Option (List b7×List b9)
 |[]=>some ([],H)
 |x::r=>match Ea0 H x with
  |some (y,H1)=>match gb4 H1 r with
   |some (l,H2)=>some (y::l,H2)
   |none=>none
  |none=>none
theorem Kc7 : ∀ {ys zs : List b7} {vs : List Value} {H H' : List b9} {F : Fz}, C4 W ρ H F w → ys.length = vs.length → (∀ (i : Nat) y y', ys[i]? = some y → vs[i]? = some y' → ka8 ρ H F w y y') → gb4 H ys = some (zs, H') →
  ∃F',Adv W ρ H F w ρ H' F' w/\C4 W ρ H' F' w/\zs.length=ys.length/\∀(i:Nat) z y',zs[i]?=some z->vs[i]?=some y'->∀ρ2 H2 F2,(∀b o,F' b o->F2 b o)->ka8 ρ2 H2 F2 w z y'
 |[],zs,vs,H,H',F,hH,hl,hy,he=>by
  injection he with he;injection he with e1 e2
  subst e1 e2;exact⟨F,.refl,hH,rfl,λi z y' h=>by simp at h⟩
 |y::r,zs,[],H,H',F,hH,hl,hy,he=>by simp at hl
 |y::r,zs,v::vs,H,H',F,hH,hl,hy,he=>by
  simp only[gb4] at he;cases h1:Ea0 H y with
  |none=>rw[h1] at he;cases he
  |some q =>
  obtain⟨z,H1⟩:=q;rw[h1] at he;cases h2:gb4 H1 r with
  |none=>simp only[h2] at he;cases he
  |some q2 =>
  obtain⟨zs2,H2⟩:=q2;simp only[h2] at he;injection he with he;injection he with e1 e2
  subst e1 e2;obtain⟨F1,a1,a2,a3⟩:=Xc7 hH (hy 0 y v rfl rfl) h1;obtain⟨F2,b1,b2,b3,b4⟩:=Kc7 (ys:=r) (vs:=vs) a2 (by simpa using hl) (λi y y' hy1 hy2=>(hy (i+1) y y' (by simpa using hy1) (by simpa using hy2)).adv a1) h2
  refine⟨F2,a1.trans b1,b2,by simp[b3],λi z' y' hz hy'=>?_⟩
  cases i with
  |zero =>
   simp at hz hy'
   subst hz hy';exact λρ3 H3 F3 hF=>a3 ρ3 H3 F3 λb o hb=>hF b o (b1.more b o hb)
  |succ i=>exact b4 i z' y' (by simpa using hz) (by simpa using hy')
def pc3(H:List b9):b7->Option b7
 |.tup l=>match gb4 H l with
  |some (zs,_)=>some (.tup zs)
  |none=>none
 |x=>match Ea0 H x with
  |some (z,_)=>some z
  |none=>none
theorem C4.less(hH:C4 W ρ H F w):C4 W ρ [] F w:=⟨λid b h=>by simp at h,λid id' b b' h=>by simp at h,hH.frz,hH.new⟩
theorem Adv.less{ρ':Rho}{F':Fz}{w':World}(h:Adv W ρ [] F w ρ' H' F' w'):Adv W ρ [] F w ρ' [] F' w' :=
 ⟨h.ext,λid b hb=>by simp at hb,h.more,h.new,λid b hb=>by simp at hb⟩
theorem se4{out:List b9}{x z:b7}{x':Value}{w':World}(hp:P4 W ρ [] F w x out x' w')(he:pc3 out x=some z):P4 W ρ [] F w z [] x' w':=by
 obtain⟨ρ',F',h1,h2,h3⟩:=hp;have one:∀{y:b7},ka8 ρ' out F' w' y x'->(match Ea0 out y with | some (z,_)=>some z | none=>none)=some z->P4 W ρ [] F w z [] x' w':=λ{y} hy he=>by
  cases hf:Ea0 out y with
  |none=>rw[hf] at he;cases he
  |some q =>
   obtain⟨z1,H1⟩:=q;rw[hf] at he;have he:some z1=some z:=he;injection he with he;subst he;obtain⟨F2,a1,a2,a3⟩:=Xc7 h2 hy hf;exact⟨ρ',F2,(h1.trans a1).less,a2.less,.val (a3 _ _ _ λ_ _ h=>h)⟩
 cases h3 with
 |val h =>
  cases x with
  |tup l=>cases h with | cell h=>cases h with | mem h=>cases h
  |_=>exact one h he
 |tup xs vs hl h =>
  simp only[pc3] at he;cases hf:gb4 out xs with
  |none=>rw[hf] at he;cases he
  |some q =>
   obtain⟨zs,H1⟩:=q;rw[hf] at he;have he:some (b7.tup zs)=some z:=he;injection he with he;subst he;obtain⟨F2,a1,a2,a3,a4⟩:=Kc7 (vs:=vs.toList) h2 (by simpa using hl) (λi y y' hy hy'=>h i y y' hy (by simpa using hy')) hf
   exact⟨ρ',F2,(h1.trans a1).less,a2.less,.tup _ _ (by simpa [a3] using hl) λi x x' hx hx'=>a4 i x x' hx (by simpa using hx') _ _ _ λ_ _ h=>h⟩
theorem P4.le{out:List b9}{x y:b7}{x':Value}{w':World}(hp:P4 W ρ H F w x out x' w')(h:ALe x y):P4 W ρ H F w y out x' w':=by
 obtain⟨ρ',F',h1,h2,h3⟩:=hp;exact⟨ρ',F',h1,h2,h _ _ _ _ _ h3⟩
end
def Xc8(x:b7)(out:List b9)(y:b7):Prop:=∃z,pc3 out x=some z/\ALe z y
theorem g7.conv {P : Program} {G : Nat → List Value} {f : FuncId} {S S' : Sum} (h : g7 P G f S)
  (hr:∀args blks y out,(S' args blks).run=some (y,out)->blks=[]/\out=[]/\∃x o,(S args []).run=some (x,o)/\Xc8 x o y):g7 P G f S':=by
 intro args blks y out he W ρ F w args' hH hlen hargs hG;obtain⟨rfl,rfl,x,o,h1,z,h2,h3⟩:=hr args blks y out he;obtain⟨h4,h5⟩:=h args [] x o h1 W ρ F w args' hH hlen hargs hG;exact⟨h4,h5.mono λe w' ⟨r',h6,h7⟩=>⟨r',h6,(se4 h7 h2).le h3⟩⟩
section
variable{α β γ:Type}{P:Program}{G:Nat->List Value}{f:FuncId}{c:Cod α}{d:Cod β}{e:Cod γ}
theorem se5{k k':DT (b7×List b9)}(h:g7 P G f (be7 k))(hk:∀y out,k'.run=some (y,out)->out=[]/\∃x o,k.run=some (x,o)/\Xc8 x o y):g7 P G f (be7 k'):=h.conv λargs blks y out hr=>by
 unfold be7 at hr
 split at hr
 ·obtain⟨e1,e2⟩:=hk y out hr;exact⟨rfl,e1,e2⟩
 ·cases hr
theorem se6{k k':α->DT (b7×List b9)}(h:g7 P G f (V1 c k))(hk:∀a y out,(k' a).run=some (y,out)->out=[]/\∃x o,(k a).run=some (x,o)/\Xc8 x o y):g7 P G f (V1 c k'):=h.conv λargs blks y out hr=>by
 unfold V1 at hr
 split at hr
 ·obtain⟨a,h1,hr⟩:=G3 hr;obtain⟨g1,hr⟩:=DT.run_guard_some hr;obtain⟨e1,x,o,e2,e3⟩:=hk a y out hr;refine⟨rfl,e1,x,o,?_,e3⟩;simp only[V1,h1,onO,g1];exact e2
 ·cases hr
theorem se7{k k':α->β->DT (b7×List b9)}(h:g7 P G f (ta8 c d k))(hk:∀a b y out,(k' a b).run=some (y,out)->out=[]/\∃x o,(k a b).run=some (x,o)/\Xc8 x o y):g7 P G f (ta8 c d k'):=h.conv λargs blks y out hr=>by
 unfold ta8 at hr
 split at hr
 ·obtain⟨a,h1,hr⟩:=G3 hr;obtain⟨b,h2,hr⟩:=G3 hr;obtain⟨g1,hr⟩:=DT.run_guard_some hr;obtain⟨g2,hr⟩:=DT.run_guard_some hr;obtain⟨e1,x,o,e2,e3⟩:=hk a b y out hr;refine⟨rfl,e1,x,o,?_,e3⟩;simp only[ta8,h1,h2,onO,g1,g2];exact e2
 ·cases hr
theorem se8{k k':α->β->γ->DT (b7×List b9)}(h:g7 P G f (pc2 c d e k))(hk:∀a b g y out,(k' a b g).run=some (y,out)->out=[]/\∃x o,(k a b g).run=some (x,o)/\Xc8 x o y):g7 P G f (pc2 c d e k'):=h.conv λargs blks y out hr=>by
 unfold pc2 at hr
 split at hr
 ·obtain⟨a,h1,hr⟩:=G3 hr;obtain⟨b,h2,hr⟩:=G3 hr;obtain⟨g,h3,hr⟩:=G3 hr;obtain⟨g1,hr⟩:=DT.run_guard_some hr;obtain⟨g2,hr⟩:=DT.run_guard_some hr;obtain⟨g3,hr⟩:=DT.run_guard_some hr;obtain⟨e1,x,o,e2,e3⟩:=hk a b g y out hr;refine⟨rfl,e1,x,o,?_,e3⟩;simp only[pc2,h1,h2,h3,onO,g1,g2,g3];exact e2
 ·cases hr
end
theorem ALe.tup{xs ys:List b7}(hl:xs.length=ys.length)(h:∀(i:Nat) x y,xs[i]?=some x->ys[i]?=some y->∀ρ H F w v,ka8 ρ H F w x v->ka8 ρ H F w y v):ALe (.tup xs) (.tup ys):=λρ H F w v hv=>by
 cases hv with
 |val hv=>cases hv with | cell hv=>cases hv with | mem hv=>cases hv
 |tup _ vs hl2 hv =>
  refine .tup _ _ (hl ▸ hl2) λi y v' hy hv'=>?_
  have hi:i<xs.length:=by
   have:=(Qde.1 hy).1
   omega
  exact h i _ y (Qdc hi) hy ρ H F w v' (hv i _ v' (Qdc hi) hv')
theorem ka8.treeLe{es n:Nat}{get get':Nat->List b7}(he:∀k,k<n->get' k=get k){ρ:Rho}{H:List b9}{F:Fz}{w:World}{v:Value}(h:ka8 ρ H F w (.tree es n get) v):ka8 ρ H F w (.tree es n get') v :=
 .cell (.mem ((ya9 (.val h)).get he))
end Go.Ev
namespace Go.Ev.L
open Go Go.Ev
def cl(p:Prop):Bool:=@decide p (Classical.propDecidable p)
theorem Ue3{p:Prop}(h:p):cl p=true:=@decide_eq_true _ (Classical.propDecidable p) h
theorem tf4{p:Prop}(h:cl p=true):p:=@of_decide_eq_true _ (Classical.propDecidable p) h
def sl{α:Type}(c:Bool)(t e:α):α:=Bool.rec (motive:=λ_=>α) e t c
theorem g9{α:Type}(t e:α):sl true t e=t:=rfl
theorem N2{α:Type}(t e:α):sl false t e=e:=rfl
theorem tb3{α:Type}(c:Bool)(t e:α):sl c t e=if c=true then t else e:=by cases c<;>rfl
theorem m8{α β:Type}{f:α->β}{c:Bool}{A B:α}{a b:β}(hA:f A=a)(hB:f B=b):f (sl c A B)=sl c a b:=by cases c<;>assumption
structure CLe(x y:b7):Prop where
 m:∀F w v,fa6 F w x v->fa6 F w y v
 c:∀ρ H F w v,fa7 ρ H F w x v->fa7 ρ H F w y v
theorem CLe.refl(x:b7):CLe x x:=⟨λ_ _ _ h=>h,λ_ _ _ _ _ h=>h⟩
theorem CLe.of{x y:b7}(h:x=y):CLe x y:=h ▸ .refl x
inductive jc2:List b7->List b7->Prop
 |nil:jc2 [] []
 |cons {x y l r} (h:CLe x y) (t:jc2 l r):jc2 (x::l) (y::r)
theorem jc2.refl:∀l,jc2 l l
 |[]=>.nil
 |x::l=>.cons (.refl x) (jc2.refl l)
theorem jc2.of{l r:List b7}(h:l=r):jc2 l r:=h ▸ .refl l
theorem jc2.length{l r}(h:jc2 l r):l.length=r.length:=by induction h<;>simp_all
theorem jc2.get{l r}(h:jc2 l r):∀(i:Nat) y,r[i]?=some y->∃x,l[i]?=some x/\CLe x y:=by
 induction h with
 |nil=>intro i y hy;simp at hy
 |cons h t ih =>
  intro i y hy;cases i with
  |zero=>simp at hy;subst hy;exact⟨_,rfl,h⟩
  |succ i=>simpa using ih i y (by simpa using hy)
theorem Be7{F:Fz}{w:World}{es n:Nat}{get get':Nat->List b7}{v:Value}(h:fa6 F w (.tree es n get) v)(he:∀k,k<n->jc2 (get k) (get' k)):fa6 F w (.tree es n get') v:=by
 cases h with
 |tree _ _ _ a cap cs hs hcap hes hF hw hr =>
  refine .tree es n get' a cap cs hs hcap (λi hi=>by rw[<- (he i hi).length];exact hes i hi) hF hw (λi c hi hc=>?_)
  obtain⟨x,hx,hle⟩:=(he i hi).get c _ (Qdc hc);have hc':c<(get i).length:=(Qde.1 hx).1
  have:=hr i c hi hc'
  have e:(get i)[c]=x:=by
   have:=(Qde.1 hx).2
   exact this
  rw[e] at this;exact hle.m _ _ _ this
 |nil=>exact .nil _ _
theorem CLe.tree{es n:Nat}{get get':Nat->List b7}(he:∀k,k<n->jc2 (get k) (get' k)):CLe (.tree es n get) (.tree es n get') :=
 ⟨λ_ _ _ h=>Be7 h he,λ_ _ _ _ _ h=>by cases h with | mem h=>exact .mem (Be7 h he)⟩
theorem CLe.nilTree(es:Nat)(get:Nat->List b7):CLe (.v (.slice none 0 0)) (.tree es 0 get) :=
 ⟨λ_ _ _ h=>by cases h;exact .nil es get,λ_ _ _ _ _ h=>by cases h with
  |mem h=>cases h;exact .mem (.nil es get)
  |v=>exact .mem (.nil es get)⟩
theorem CLe.ale{x y:b7}(h:CLe x y)(hx:∀(ρ:Rho) H F w v,F7 ρ H F w x v->fa7 ρ H F w x v):ALe x y:=λρ H F w v hv=>.val (.cell (h.c _ _ _ _ _ (hx ρ H F w v hv)))
theorem ALe.rows{es n:Nat}{get get':Nat->List b7}(he:∀k,k<n->jc2 (get k) (get' k)):ALe (.tree es n get) (.tree es n get'):=λ_ _ _ _ _ h=>.val (.cell (.mem (Be7 (ya9 h) he)))
structure Ty(α:Type) where
 es:Nat
 row:α->List b7
 rd:List b7->α
 ok:List b7->Bool
 cks:List CK
 d:α
 h0:∀x,len (row x)=es
 h1:∀x,rd (row x)=x
 h2:∀x,ok (row x)=true
 h3:∀r,ok r=true->jc2 r (row (rd r))
 h4:∀x,na9 cks (row x)=true
 h5:∀x,f9 (row x) 0=row x
section
variable{α:Type}(t:Ty α)
@[reducible] def gL(l:List α)(k:Nat):α:=l.getD k t.d
@[reducible] def eL(l:List α):b7:=.tree t.es l.length (λk=>t.row (gL t l k))
def lsL(n:Nat)(get:Nat->List b7):List α:=(List.range n).map λk=>t.rd (get k)
def okL(n:Nat)(get:Nat->List b7):Bool:=(List.range n).all λk=>t.ok (get k)
def rL(v:b7):List α:=lsL t (toN v) (toG v)
def nL(v:b7):b7:=eL t (rL t v)
def kf3(f:b7->b7)(x:b7):Bool:=cl (x=f x)
def rt(l:List α):List α:=rL t (eL t l)
def okE(l:List α):Bool:=okL t (toN (eL t l)) (toG (eL t l))
def cnE(l:List α):Bool:=kf3 (nL t) (eL t l)
def bL(l:List α):List (List b7):=o8 t.row l
def rdR(el:List (List b7))(j:Nat):α:=t.rd (f9 (n5 el j) 0)
def ldR(el:List (List b7))(j:Nat):Bool:=Bool.and (Bool.and (Nat.blt j (len el)) (Nat.ble (0+t.es) (len (n5 el j)))) (na9 t.cks (f9 (n5 el j) 0))
def slR(el:List (List b7))(off n:Nat):List α:=lsL t n λk=>n5 el (off+k)
def okS(el:List (List b7))(off n:Nat):Bool:=okL t n λk=>n5 el (off+k)
theorem je1(n:Nat)(get:Nat->List b7):(lsL t n get).length=n:=by simp[lsL]
theorem je2{n k:Nat}(get:Nat->List b7)(h:k<n):gL t (lsL t n get) k=t.rd (get k):=by
 simp[gL,lsL,Qdd,Qdf,List.getElem?_range h]
theorem Ec0{n:Nat}{get:Nat->List b7}{l:List α}(hn:n=l.length)(h:∀k,k<n->get k=t.row (gL t l k)):lsL t n get=l:=by
 apply List.ext_getElem
 ·simp[lsL,hn]
 ·intro k h1 h2;have hk:k<n:=by omega
  simp[lsL,h k hk,t.h1,gL,Qdd,Qdc h2]
theorem kb9{n:Nat}{get:Nat->List b7}{f:Nat->α}(h:∀k,k<n->get k=t.row (f k)):okL t n get=true:=by
 unfold okL;rw[List.all_eq_true];intro k hk;have hk:k<n:=by simpa using hk
 rw[h k hk];exact t.h2 _
theorem i5(l:List α):rt t l=l:=Ec0 t rfl λ_ _=>rfl
theorem q8(l:List α):okE t l=true:=kb9 t (f:=λk=>gL t l k) λ_ _=>rfl
theorem i8(l:List α):cnE t l=true:=Ue3 (by unfold nL;rw[show rL t (eL t l)=l from i5 t l])
theorem P7(l:List α):len (bL t l)=l.length:=Be5 _ _
theorem ba6{l:List α}{k:Nat}(h:k<l.length):n5 (bL t l) k=t.row (gL t l k):=Md4 t.row t.d h
theorem ce0{l:List α}{k:Nat}(h:k<l.length):rdR t (bL t l) k=gL t l k:=by unfold rdR;rw[ba6 t h,t.h5,t.h1]
theorem ce1{l:List α}{k:Nat}(h:k<l.length):ldR t (bL t l) k=true:=by
 unfold ldR;rw[ba6 t h,t.h5,t.h4,P7,t.h0,Qdl,Bool.and_true];simp[Nat.blt_eq,Nat.ble_eq,h]
theorem Ra8(l r:List α):app (bL t l) (bL t r)=bL t (l++r):=Be6 _ _ _
theorem Mb9(l:List α):slR t (bL t l) 0 l.length=l:=Ec0 t rfl λk hk=>by rw[Qdl,ba6 t hk]
theorem Nb0(l:List α):okS t (bL t l) 0 l.length=true:=kb9 t (f:=λk=>gL t l k) λk hk=>by rw[Qdl,ba6 t hk]
theorem tb4(l:List α):o8 (λk=>t.row (gL t l k)) (List.range l.length)=bL t l:=by
 unfold bL;rw[p5,p5];apply List.ext_getElem
 ·simp
 ·intro k h1 h2;have h:k<l.length:=by simpa using h1
  simp[gL,Qdd,Qdc h]
theorem Yb1(l:List α)(k:Nat)(x:α):setAt (bL t l) k (t.row x)=bL t (l.set k x):=be9 _ _ _ _
theorem treeLe{n:Nat}{get:Nat->List b7}(h:okL t n get=true):CLe (.tree t.es n get) (eL t (lsL t n get)):=by
 unfold eL;rw[je1];refine .tree λk hk=>?_
 rw[je2 t get hk];exact t.h3 _ (List.all_eq_true.1 h k (by simpa using hk))
theorem je3{n:Nat}{get:Nat->List b7}(h:okL t n get=true):ALe (.tree t.es n get) (eL t (lsL t n get)):=(treeLe t h).ale λ_ _ _ _ _ h=>.mem (ya9 h)
def R5:Cod (List α) where
 enc l:=eL t l
 dec x:=match x with
  |.tree e n get=>Bool.rec (motive:=λ_=>Option (List α)) none (some (lsL t n get)) (Nat.beq e t.es)
  |.v (.slice none 0 0)=>some []
  |.v (.slice (some _) 0 _)=>some []
  |_=>none
 grd x:=match x with
  |.tree _ n get=>okL t n get
  |_=>true
 ok x a hx hg:=by
  split at hx
  ·rename_i e n get;cases hb:Nat.beq e t.es with
   |false=>rw[hb] at hx;cases hx
   |true =>
    rw[hb] at hx;have hx:some (lsL t n get)=some a:=hx;injection hx with hx;subst hx
    have:=Qda hb
    subst this;exact je3 t hg
  ·injection hx with hx;subst hx;exact .nilTree _ _
  ·injection hx with hx;subst hx;exact .emptyTree _ _ _ _
  ·cases hx
def hC(get:Nat->List b7):α:=t.rd (get 0)
def tC(n:Nat)(get:Nat->List b7):List α:=lsL t n λk=>get (k+1)
theorem tf5(a:α)(l:List α):hC t (λk=>t.row (gL t (a::l) k))=a:=t.h1 _
theorem tf6(a:α)(l:List α):tC t l.length (λk=>t.row (gL t (a::l) k))=l:=Ec0 t rfl λk _=>rfl
theorem Md5(n:Nat)(get:Nat->List b7):lsL t (n+1) get=hC t get::tC t n get:=by
 unfold lsL hC tC lsL;rw[List.range_succ_eq_map];simp
def Be8:Cod (α×List α) where
 enc x:=eL t (x.1::x.2)
 dec x:=match x with
  |.tree e (n+1) get=>Bool.rec (motive:=λ_=>Option (α×List α)) none (some (hC t get,tC t n get)) (Nat.beq e t.es)
  |_=>none
 grd x:=match x with
  |.tree _ n get=>okL t n get
  |_=>false
 ok x a hx hg:=by
  split at hx
  ·rename_i e n get;cases hb:Nat.beq e t.es with
   |false=>rw[hb] at hx;cases hx
   |true =>
    rw[hb] at hx;have hx:some (hC t get,tC t n get)=some a:=hx;injection hx with hx;subst hx
    have:=Qda hb
    subst this;show ALe _ (eL t (hC t get::tC t n get));rw[<- Md5];exact je3 t hg
  ·cases hx
def fa0:Cod α where
 enc x:=.agg (t.row x)
 dec x:=match x with
  |.agg cs=>Bool.rec (motive:=λ_=>Option α) none (some (t.rd cs)) (t.ok cs)
  |_=>none
 grd _:=true
 ok x a hx _:=by
  split at hx
  ·rename_i cs;cases hb:t.ok cs with
   |false=>rw[hb] at hx;cases hx
   |true =>
    rw[hb] at hx;have hx:some (t.rd cs)=some a:=hx;injection hx with hx;subst hx;have h3:=t.h3 cs hb;intro ρ H F w v hv;obtain⟨vs,rfl,hl,hr⟩:=Ja2 hv;refine .val (.agg _ _ (by rw[<- h3.length];exact hl) λi y v' hy hv'=>?_)
    obtain⟨x,hx,hle⟩:=h3.get i y hy;exact hle.c _ _ _ _ _ (hr i x v' hx hv')
  ·cases hx
end
def tLs{α:Type}(t:Ty α):Ty (List α) where
 es:=1
 row l:=[eL t l]
 rd r:=rL t (hdA r)
 ok r:=match r with
  |[.tree e n get]=>Bool.and (Nat.beq e t.es) (okL t n get)
  |[.v (.slice none 0 0)]=>true
  |_=>false
 cks:=[.sl t.es]
 d:=[]
 h0 _:=rfl
 h1 l:=i5 t l
 h2 l:=by
  show Bool.and (Nat.beq t.es t.es) (okL t l.length λk=>t.row (gL t l k))=true
  rw[Nat.beq_refl,Bool.true_and];exact kb9 t (f:=λk=>gL t l k) λ_ _=>rfl
 h3 r h:=by
  split at h
  ·rename_i e n get;rw[Qdb] at h
   have:=Qda h.1
   subst this;exact .cons (treeLe t h.2) .nil
  ·exact .cons (CLe.nilTree _ _) .nil
  ·cases h
 h4 l:=by
  show Bool.and (Nat.beq t.es t.es) true=true;rw[Nat.beq_refl];rfl
 h5 _:=rfl
def tI:Ty Int where
 es:=1
 row n:=[i n]
 rd r:=toI (hdA r)
 ok r:=match r with
  |[.v (.int .i64 _)]=>true
  |_=>false
 cks:=[.int .i64]
 d:=0
 h0 _:=rfl
 h1 _:=rfl
 h2 _:=rfl
 h3 r h:=by
  split at h
  ·exact .refl _
  ·cases h
 h4 _:=rfl
 h5 _:=rfl
def Ra9(n:Nat)(l:List b7):Bool:=Nat.rec (motive:=λ_=>List b7->Bool)
 (λl=>List.rec (motive:=λ_=>Bool) true (λ_ _ _=>false) l)
 (λ_ ih l=>List.rec (motive:=λ_=>Bool) false (λx r _=>Bool.and (ic9 (.int .i64) x) (ih r)) l) n l
def Be9(n:Nat)(l:List b7):List b7:=Nat.rec (motive:=λ_=>List b7->List b7) (λ_=>[]) (λ_ ih l=>i (toI (hdA l))::ih (tlA l)) n l
theorem bb3:∀{n:Nat} {l:List b7},Ra9 n l=true->l=Be9 n l
 |0,[],_=>rfl
 |0,x::r,h=>by cases h
 |n+1,[],h=>by cases h
 |n+1,x::r,h=>by
  have h:Bool.and (ic9 (.int .i64) x) (Ra9 n r)=true:=h;rw[Qdb] at h;show x::r=i (toI x)::Be9 n r;rw[<- bb3 h.2];have h1:=h.1;cases x with
  |v y=>cases y with
   |int k m =>
    have h1:decide (IntKind.i64=k)=true:=h1;rw[<- of_decide_eq_true h1];rfl
   |_=>cases h1
  |_=>cases h1
inductive Dis (H:List b9):List b9->Prop
 |refl:Dis H H
 |step {H'} (id:Nat) (h:Dis H H'):Dis H (disown H' id)
theorem Bd0(H:List b9)(id j g:Nat):blkAt (disown H id) j g=(blkAt H j g).map λb=>if j=id then { b with own:=false } else b:=by
 unfold blkAt disown modAt;cases hb:nth H id with
 |none =>
  simp only[];cases hj:nth H j with
  |none=>rfl
  |some b =>
   have:j≠id:=λh=>by subst h;rw[hb] at hj;cases hj
   simp only[this,if_false];cases b.dead<;>simp only[]<;>first | rfl | (cases Nat.beq b.g g<;>rfl)
 |some c =>
  simp only[D9,E7];by_cases h:j=id
  ·subst h;have hb':H[j]?=some c:=by rw[<- D9];exact hb
   have hlt:j<H.length:=(Qde.1 hb').1;simp only[Qdt hlt,hb',if_true];obtain⟨et,es,el,ow,de,g'⟩:=c;cases de<;>simp only[]<;>first | rfl | (cases Nat.beq g' g<;>rfl)
  ·rw[Qdu (λe=>h e.symm)]
   cases hj:H[j]? with
   |none=>rfl
   |some b =>
    simp only[h,if_false];cases b.dead<;>simp only[]<;>first | rfl | (cases Nat.beq b.g g<;>rfl)
structure R1(ρ:Type) where
 enc:ρ->b7
 rd:List b9->b7->Option ρ
 d:ρ
 le:∀H x r,rd H x=some r->∃z H',Ea0 H x=some (z,H')/\Dis H H'/\∀ρ' H2 F w v,ka8 ρ' H2 F w z v->ka8 ρ' H2 F w (enc r) v
 dis:∀H id x,rd (disown H id) x=rd H x
theorem R1.diss{ρ:Type}(R:R1 ρ){H H':List b9}(h:Dis H H')(x:b7):R.rd H' x=R.rd H x:=by
 induction h with
 |refl=>rfl
 |step id h ih=>rw[R.dis,ih]
theorem CLe.v{x y:b7}(h:CLe x y)(hx:∀(ρ:Rho) H F w v,ka8 ρ H F w x v->fa7 ρ H F w x v):∀ρ' H2 F w v,ka8 ρ' H2 F w x v->ka8 ρ' H2 F w y v:=λ_ _ _ _ _ hv=>.cell (h.c _ _ _ _ _ (hx _ _ _ _ _ hv))
def r1K(k:IntKind):R1 Int where
 enc n:=.v (.int k n)
 rd _ x:=match x with
  |.v (.int k' n)=>Bool.rec (motive:=λ_=>Option Int) none (some n) (decide (k=k'))
  |_=>none
 d:=0
 le H x r h:=by
  split at h
  ·rename_i k' n;cases hb:decide (k=k') with
   |false=>rw[hb] at h;cases h
   |true =>
    rw[hb] at h;have h:some n=some r:=h;injection h with h;subst h
    have:=of_decide_eq_true hb
    subst this;exact⟨_,H,rfl,.refl,λ_ _ _ _ _ h=>h⟩
  ·cases h
 dis _ _ _:=rfl
def r1I:R1 Int:=r1K .i64
def r1B:R1 Bool where
 enc n:=b n
 rd _ x:=match x with
  |.v (.bool n)=>some n
  |_=>none
 d:=false
 le H x r h:=by
  split at h
  ·injection h with h;subst h;exact⟨_,H,rfl,.refl,λ_ _ _ _ _ h=>h⟩
  ·cases h
 dis _ _ _:=rfl
theorem Xc9(H:List b9):∀(n:Nat) (l:List b7),Ra9 n l=true->freezeCells H l=some (l,H)
 |0,[],_=>rfl
 |0,x::r,h=>by cases h
 |n+1,[],h=>by cases h
 |n+1,x::r,h=>by
  have e:=bb3 h;have h:Bool.and (ic9 (.int .i64) x) (Ra9 n r)=true:=h;rw[Qdb] at h;have e1:x=i (toI x):=(List.cons.inj e).1;simp only[freezeCells];rw[e1];simp only[freezeCell,kd0,Xc9 H n r h.2]
section
variable{α:Type}(t:Ty α)
def r1A(n:Nat)(ht:∀r,Ra9 n r=true->t.ok r=true):R1 α where
 enc x:=.agg (t.row x)
 rd _ x:=match x with
  |.agg cs=>Bool.rec (motive:=λ_=>Option α) none (some (t.rd cs)) (Ra9 n cs)
  |_=>none
 d:=t.d
 le H x r h:=by
  split at h
  ·rename_i cs;cases hb:Ra9 n cs with
   |false=>rw[hb] at h;cases h
   |true =>
    rw[hb] at h;have h:some (t.rd cs)=some r:=h;injection h with h;subst h;have h3:=t.h3 cs (ht cs hb);refine⟨.agg cs,H,?_,.refl,λρ' H2 F w v hv=>?_⟩
    ·simp only[Ea0,Xc9 H n cs hb]
    ·obtain⟨vs,rfl,hl,hr⟩:=Ja2 (.val hv);refine .agg _ _ (by rw[<- h3.length];exact hl) λi y v' hy hv'=>?_
     obtain⟨x,hx,hle⟩:=h3.get i y hy;exact hle.c _ _ _ _ _ (hr i x v' hx hv')
  ·cases h
 dis _ _ _:=rfl
def r1L:R1 (List α) where
 enc l:=eL t l
 rd H x:=match x with
  |.v (.slice none 0 0)=>some []
  |.tree e n get=>Bool.rec (motive:=λ_=>Option (List α)) none (some (lsL t n get)) (Bool.and (Nat.beq e t.es) (okL t n get))
  |.sl id off n g=>match blkAt H id g with
   |some b=>Bool.rec (motive:=λ_=>Option (List α)) none (some (slR t b.elems off n)) (Bool.and (Nat.beq b.es t.es) (okS t b.elems off n))
   |none=>none
  |_=>none
 d:=[]
 le H x r h:=by
  split at h
  ·injection h with h;subst h;exact⟨_,H,rfl,.refl,(CLe.nilTree _ _).v λ_ _ _ _ _ h=>by cases h with | cell h=>exact h⟩
  ·rename_i e n get;cases hb:Bool.and (Nat.beq e t.es) (okL t n get) with
   |false=>rw[hb] at h;cases h
   |true =>
    rw[hb] at h;have h:some (lsL t n get)=some r:=h;injection h with h;subst h;rw[Qdb] at hb
    have:=Qda hb.1
    subst this;exact⟨_,H,rfl,.refl,(treeLe t hb.2).v λ_ _ _ _ _ h=>by cases h with | cell h=>exact h⟩
  ·rename_i id off n g;cases hk:blkAt H id g with
   |none=>simp only[hk] at h;cases h
   |some b =>
    simp only[hk] at h;cases hb:Bool.and (Nat.beq b.es t.es) (okS t b.elems off n) with
    |false=>rw[hb] at h;cases h
    |true =>
     rw[hb] at h;have h:some (slR t b.elems off n)=some r:=h;injection h with h;subst h;rw[Qdb] at hb
     have:=Qda hb.1
     refine⟨Vb7 b off n,disown H id,?_,.step id .refl,?_⟩
     ·simp only[Ea0,freezeCell,hk]
     ·unfold Vb7;rw[this];exact (treeLe t hb.2).v λ_ _ _ _ _ h=>by cases h with | cell h=>exact h
  ·cases h
 dis H id x:=by
  cases x with
  |sl id' off n g =>
   simp only[Bd0];cases blkAt H id' g with
   |none=>rfl
   |some b =>
    simp only[Option.map]
    split<;>rfl
  |v y=>cases y with
   |slice a n c=>cases a<;>cases n<;>cases c<;>rfl
   |_=>rfl
  |_=>rfl
end
structure RR(ρ:Type) where
 enc:ρ->b7
 rd:b7×List b9->Option ρ
 d:ρ
 le:∀x o r,rd (x,o)=some r->Xc8 x o (enc r)
theorem Md6{H:List b9}{l:List b7}{z:b7×List b9}(h:Ea0 H (.tup l)=some z):False:=by cases h
theorem Md7{H:List b9}{x z:b7}{H':List b9}(h:Ea0 H x=some (z,H')):pc3 H x=some z:=by
 cases x with
 |tup l=>exact (Md6 h).elim
 |_=>simp only[pc3,h]
theorem kf4{x y:b7}(h:∀ρ' H2 F w v,ka8 ρ' H2 F w x v->ka8 ρ' H2 F w y v)(hx:∀l,x≠.tup l):ALe x y:=λρ H F w v hv=>by
 cases hv with
 |val hv=>exact .val (h _ _ _ _ _ hv)
 |tup xs=>exact absurd rfl (hx xs)
theorem Bd1{H H':List b9}{x z:b7}(h:Ea0 H x=some (z,H')):∀l,z≠.tup l:=λl e=>by
 subst e;unfold Ea0 at h
 split at h
 ·split at h<;>cases h
 ·unfold freezeCell at h
  split at h
  ·split at h<;>cases h
  ·cases h
  ·cases h
  ·split at h
   ·simp only[Vb7] at h;cases h
   ·cases h
  ·cases h
def one{ρ:Type}(a:R1 ρ):RR ρ where
 enc:=a.enc
 rd r:=a.rd r.2 r.1
 d:=a.d
 le x o r h:=by
  obtain⟨z,H',h1,_,h2⟩:=a.le o x r h;exact⟨z,Md7 h1,kf4 h2 (Bd1 h1)⟩
def two{ρ σ:Type}(a:R1 ρ)(c:R1 σ):RR (ρ×σ) where
 enc r:=.tup [a.enc r.1,c.enc r.2]
 rd r:=match r.1 with
  |.tup [x,y]=>Option.rec (motive:=λ_=>Option (ρ×σ)) none (λu=>Option.rec (motive:=λ_=>Option (ρ×σ)) none (λv=>some (u,v)) (c.rd r.2 y)) (a.rd r.2 x)
  |_=>none
 d:=(a.d,c.d)
 le q o r h:=by
  split at h
  ·rename_i x y e
   simp only at e
   subst e;cases hu:a.rd o x with
   |none=>rw[hu] at h;cases h
   |some u =>
   cases hv:c.rd o y with
   |none=>rw[hu,hv] at h;cases h
   |some v =>
   rw[hu,hv] at h;have h:some (u,v)=some r:=h;injection h with h;subst h;obtain⟨z1,H1,h1,d1,l1⟩:=a.le o x u hu;obtain⟨z2,H2,h2,d2,l2⟩:=c.le H1 y v (by rw[c.diss d1];exact hv)
   refine⟨.tup [z1,z2],by simp only[pc3,gb4,h1,h2],ALe.tup rfl λk p q hp hq=>?_⟩
   match k,hp,hq with
   |0,hp,hq=>cases hp;cases hq;exact l1
   |1,hp,hq=>cases hp;cases hq;exact l2
  ·cases h
def tf7{ρ σ τ:Type}(a:R1 ρ)(c:R1 σ)(e:R1 τ):RR (ρ×σ×τ) where
 enc r:=.tup [a.enc r.1,c.enc r.2.1,e.enc r.2.2]
 rd r:=match r.1 with
  |.tup [x,y,z]=>Option.rec (motive:=λ_=>Option (ρ×σ×τ)) none (λu=>Option.rec (motive:=λ_=>Option (ρ×σ×τ)) none (λv=>Option.rec (motive:=λ_=>Option (ρ×σ×τ)) none (λw=>some (u,v,w)) (e.rd r.2 z)) (c.rd r.2 y)) (a.rd r.2 x)
  |_=>none
 d:=(a.d,c.d,e.d)
 le q o r h:=by
  split at h
  ·rename_i x y z e0
   simp only at e0
   subst e0;cases hu:a.rd o x with
   |none=>rw[hu] at h;cases h
   |some u =>
   cases hv:c.rd o y with
   |none=>rw[hu,hv] at h;cases h
   |some v =>
   cases hw:e.rd o z with
   |none=>rw[hu,hv,hw] at h;cases h
   |some w =>
   rw[hu,hv,hw] at h;have h:some (u,v,w)=some r:=h;injection h with h;subst h;obtain⟨z1,H1,h1,d1,l1⟩:=a.le o x u hu;obtain⟨z2,H2,h2,d2,l2⟩:=c.le H1 y v (by rw[c.diss d1];exact hv)
   obtain⟨z3,H3,h3,d3,l3⟩:=e.le H2 z w (by rw[e.diss d2,e.diss d1];exact hw)
   refine⟨.tup [z1,z2,z3],by simp only[pc3,gb4,h1,h2,h3],ALe.tup rfl λk p q hp hq=>?_⟩
   match k,hp,hq with
   |0,hp,hq=>cases hp;cases hq;exact l1
   |1,hp,hq=>cases hp;cases hq;exact l2
   |2,hp,hq=>cases hp;cases hq;exact l3
  ·cases h
def okO{ρ:Type}(R:RR ρ)(o:Option (b7×List b9)):Bool:=Option.rec (motive:=λ_=>Bool) false (λr=>Option.rec (motive:=λ_=>Bool) false (λ_=>true) (R.rd r)) o
def N9{ρ:Type}(R:RR ρ)(o:Option (b7×List b9)):ρ:=Option.rec (motive:=λ_=>ρ) R.d (λr=>Option.rec (motive:=λ_=>ρ) R.d (λx=>x) (R.rd r)) o
@[reducible] def rdO{ρ:Type}(R:RR ρ)(o:Option (b7×List b9)):DT (b7×List b9):=.guard (okO R o) (.ret (R.enc (N9 R o),[]))
theorem Yc0{ρ:Type}{R:RR ρ}{o:Option (b7×List b9)}{y:b7}{out:List b9}(h:(rdO R o).run=some (y,out)):out=[]/\∃x o',o=some (x,o')/\Xc8 x o' y:=by
 obtain⟨h1,h2⟩:=DT.run_guard_some h;have h2:some (R.enc (N9 R o),([]:List b9))=some (y,out):=h2;injection h2 with h2;injection h2 with e1 e2;subst e1 e2
 refine⟨rfl,?_⟩;cases o with
 |none=>cases h1
 |some r =>
  obtain⟨x,o'⟩:=r;refine⟨x,o',rfl,?_⟩;cases hr:R.rd (x,o') with
  |none=>simp only[okO,hr] at h1;cases h1
  |some q =>
   simp only[N9,hr];exact R.le x o' q hr
theorem eb5{α:Type}(o:Option α):(DT.ofOption o).run=o:=by cases o<;>rfl
section
variable{α β γ δ ε ζ:Type}{P:Program}{G:Nat->List Value}{f:FuncId}{R0:Sum}{c:Cod α}{d:Cod β}{e:Cod γ}{c4:Cod δ}{c5:Cod ε}{c6:Cod ζ}{ρ:Type}
theorem Cf6(hb:g7 P G f R0)(R:RR ρ){o:Option (b7×List b9)}(h:∀r,o=some r->(R0 [] []).run=some r):g7 P G f (be7 (rdO R o)) :=
 se5 (Te9 hb (k:=DT.ofOption o) λr hr=>h r (by rw[eb5] at hr;exact hr)) λy out hr=>by
  obtain⟨e,x,o',h1,h2⟩:=Yc0 hr;exact⟨e,x,o',by rw[eb5,h1],h2⟩
theorem Fa2(hb:g7 P G f R0)(R:RR ρ){o:α->Option (b7×List b9)}(h:∀a r,o a=some r->(R0 [c.enc a] []).run=some r):g7 P G f (V1 c λa=>rdO R (o a)) :=
 se6 (Bb1 hb (k:=λa=>DT.ofOption (o a)) λa r hr=>h a r (by rw[eb5] at hr;exact hr)) λa y out hr=>by
  obtain⟨e,x,o',h1,h2⟩:=Yc0 hr;exact⟨e,x,o',by rw[eb5,h1],h2⟩
theorem Eb2(hb:g7 P G f R0)(R:RR ρ){o:α->β->Option (b7×List b9)}(h:∀a b r,o a b=some r->(R0 [c.enc a,d.enc b] []).run=some r):g7 P G f (ta8 c d λa b=>rdO R (o a b)) :=
 se7 (Da9 hb (k:=λa b=>DT.ofOption (o a b)) λa b r hr=>h a b r (by rw[eb5] at hr;exact hr)) λa b y out hr=>by
  obtain⟨e,x,o',h1,h2⟩:=Yc0 hr;exact⟨e,x,o',by rw[eb5,h1],h2⟩
theorem se9(hb:g7 P G f R0)(R:RR ρ){o:α->β->γ->Option (b7×List b9)}(h:∀a b g r,o a b g=some r->(R0 [c.enc a,d.enc b,e.enc g] []).run=some r):g7 P G f (pc2 c d e λa b g=>rdO R (o a b g)) :=
 se8 (Ue0 hb (k:=λa b g=>DT.ofOption (o a b g)) λa b g r hr=>h a b g r (by rw[eb5] at hr;exact hr)) λa b g y out hr=>by
  obtain⟨e,x,o',h1,h2⟩:=Yc0 hr;exact⟨e,x,o',by rw[eb5,h1],h2⟩
end
inductive K where
 |o (k:Sk)
 |c (es:Nat) (f:b7->b7)
def isK:K->b7->Bool
 |.o k,x=>kf1 k x
 |.c es _,.tree es' _ _=>Nat.beq es es'
 |.c _ _,_=>false
def asK:K->b7->b7
 |.o k,x=>tf2 k x
 |.c _ f,x=>f x
def cnK(k:K)(x:b7)(z:Bool):Bool:=match k with
 |.o _=>z
 |.c _ f=>Bool.and (kf3 f x) z
theorem Ce0{k:K}{x:b7}{z:Bool}(h:isK k x=true)(hc:cnK k x z=true):x=asK k x/\z=true:=by
 cases k with
 |o k=>exact⟨Ue1 h,hc⟩
 |c es f =>
  have hc:Bool.and (kf3 f x) z=true:=hc;rw[Qdb] at hc;exact⟨tf4 hc.1,hc.2⟩
def ce2(ks:List K):List b7->Bool :=
 List.rec (motive:=λ_=>List b7->Bool) (λl=>List.rec (motive:=λ_=>Bool) true (λ_ _ _=>false) l)
  (λk _ ih l=>List.rec (motive:=λ_=>Bool) false (λx r _=>Bool.and (isK k x) (ih r)) l) ks
def Md8(ks:List K):List b7->List b7 :=
 List.rec (motive:=λ_=>List b7->List b7) (λ_=>[]) (λk _ ih l=>asK k (hdA l)::ih (tlA l)) ks
def ce3(z:Bool)(ks:List K):List b7->Bool :=
 List.rec (motive:=λ_=>List b7->Bool) (λ_=>z) (λk _ ih l=>cnK k (hdA l) (ih (tlA l))) ks
theorem wc4{z:Bool}:∀{ks:List K} {l:List b7},ce2 ks l=true->ce3 z ks l=true->l=Md8 ks l/\z=true
 |[],[],_,hc=>⟨rfl,hc⟩
 |[],x::r,h,_=>by cases h
 |k::ks,[],h,_=>by cases h
 |k::ks,x::r,h,hc=>by
  have h:Bool.and (isK k x) (ce2 ks r)=true:=h;rw[Qdb] at h;have hc:cnK k x (ce3 z ks r)=true:=hc;obtain⟨e1,h2⟩:=Ce0 h.1 hc;obtain⟨e2,h3⟩:=wc4 h.2 h2;refine⟨?_,h3⟩;show x::r=asK k x::Md8 ks r;rw[<- e1,<- e2]
inductive S2 where
 |s (k:K)
 |agg (l:List K)
 |tup (l:List K)
 |fn (f:Nat) (l:List K)
def isS:S2->b7->Bool
 |.s k,x=>isK k x
 |.agg l,.agg r=>ce2 l r
 |.tup l,.tup r=>ce2 l r
 |.fn f l,.fn f' r=>Bool.and (Nat.beq f f') (ce2 l r)
 |_,_=>false
def asS:S2->b7->b7
 |.s k,x=>asK k x
 |.agg l,x=>.agg (Md8 l (cellsOf x))
 |.tup l,x=>.tup (Md8 l (cellsOf x))
 |.fn f l,x=>.fn f (Md8 l (cellsOf x))
def cnS(k:S2)(x:b7)(z:Bool):Bool:=match k with
 |.s k=>cnK k x z
 |.agg l=>ce3 z l (cellsOf x)
 |.tup l=>ce3 z l (cellsOf x)
 |.fn _ l=>ce3 z l (cellsOf x)
theorem kf5{k:S2}{x:b7}{z:Bool}(h:isS k x=true)(hc:cnS k x z=true):x=asS k x/\z=true:=by
 unfold isS at h
 split at h
 ·exact Ce0 h hc
 ·rename_i l r;obtain⟨e,hz⟩:=wc4 h hc;exact⟨congrArg b7.agg e,hz⟩
 ·rename_i l r;obtain⟨e,hz⟩:=wc4 h hc;exact⟨congrArg b7.tup e,hz⟩
 ·rename_i f l f' r;rw[Qdb] at h;obtain⟨e,hz⟩:=wc4 h.2 hc;refine⟨?_,hz⟩;show b7.fn f' r=.fn f (Md8 l r);rw[<- e,Qda h.1]
 ·cases h
def Ce1(ks:List S2):List b7->Bool :=
 List.rec (motive:=λ_=>List b7->Bool) (λl=>List.rec (motive:=λ_=>Bool) true (λ_ _ _=>false) l)
  (λk _ ih l=>List.rec (motive:=λ_=>Bool) false (λx r _=>Bool.and (isS k x) (ih r)) l) ks
def te0(ks:List S2):List b7->List b7 :=
 List.rec (motive:=λ_=>List b7->List b7) (λ_=>[]) (λk _ ih l=>asS k (hdA l)::ih (tlA l)) ks
def Ue4(z:Bool)(ks:List S2):List b7->Bool :=
 List.rec (motive:=λ_=>List b7->Bool) (λ_=>z) (λk _ ih l=>cnS k (hdA l) (ih (tlA l))) ks
theorem je4{z:Bool}:∀{ks:List S2} {l:List b7},Ce1 ks l=true->Ue4 z ks l=true->l=te0 ks l/\z=true
 |[],[],_,hc=>⟨rfl,hc⟩
 |[],x::r,h,_=>by cases h
 |k::ks,[],h,_=>by cases h
 |k::ks,x::r,h,hc=>by
  have h:Bool.and (isS k x) (Ce1 ks r)=true:=h;rw[Qdb] at h;have hc:cnS k x (Ue4 z ks r)=true:=hc;obtain⟨e1,h2⟩:=kf5 h.1 hc;obtain⟨e2,h3⟩:=je4 h.2 h2;refine⟨?_,h3⟩;show x::r=asS k x::te0 ks r;rw[<- e1,<- e2]
def kf6(ks:List (List K)):List (List b7)->Bool :=
 List.rec (motive:=λ_=>List (List b7)->Bool) (λl=>List.rec (motive:=λ_=>Bool) true (λ_ _ _=>false) l)
  (λk _ ih l=>List.rec (motive:=λ_=>Bool) false (λx r _=>Bool.and (ce2 k x) (ih r)) l) ks
def Ue5(ks:List (List K)):List (List b7)->List (List b7) :=
 List.rec (motive:=λ_=>List (List b7)->List (List b7)) (λ_=>[]) (λk _ ih l=>Md8 k (hdR l)::ih (tlR l)) ks
def kf7(z:Bool)(ks:List (List K)):List (List b7)->Bool :=
 List.rec (motive:=λ_=>List (List b7)->Bool) (λ_=>z) (λk _ ih l=>ce3 (ih (tlR l)) k (hdR l)) ks
theorem je5{z:Bool}:∀{ks:List (List K)} {l:List (List b7)},kf6 ks l=true->kf7 z ks l=true->l=Ue5 ks l/\z=true
 |[],[],_,hc=>⟨rfl,hc⟩
 |[],x::r,h,_=>by cases h
 |k::ks,[],h,_=>by cases h
 |k::ks,x::r,h,hc=>by
  have h:Bool.and (ce2 k x) (kf6 ks r)=true:=h;rw[Qdb] at h;have hc:ce3 (kf7 z ks r) k x=true:=hc;obtain⟨e1,h2⟩:=wc4 h.1 hc;obtain⟨e2,h3⟩:=je5 h.2 h2;refine⟨?_,h3⟩;show x::r=Md8 k x::Ue5 ks r;rw[<- e1,<- e2]
def ru2(n:Nat)(l:List S2):List S2:=Nat.rec (motive:=λ_=>List S2) l (λ_ ih=>.s (.o .unk)::ih) n
structure B2 where
 et:Nat
 es:Nat
 own:Bool
 rows:Option (List (List K))
@[reducible] def isE(o:Option (List (List K)))(l:List (List b7)):Bool:=Option.rec (motive:=λ_=>Bool) true (λks=>kf6 ks l) o
@[reducible] def asE(o:Option (List (List K)))(l:List (List b7)):List (List b7):=Option.rec (motive:=λ_=>List (List b7)) l (λks=>Ue5 ks l) o
@[reducible] def cnO(o:Option (List (List K)))(l:List (List b7))(z:Bool):Bool:=Option.rec (motive:=λ_=>Bool) z (λks=>kf7 z ks l) o
def isB(k:B2)(x:b9):Bool :=
 Bool.and (Bool.and (Nat.beq k.et x.et) (Nat.beq k.es x.es)) (Bool.and (eqB k.own x.own) (Bool.and (!x.dead) (Bool.and (Nat.beq x.g 0) (isE k.rows x.elems))))
theorem kf8{k:B2}{x:b9}{z:Bool}(h:isB k x=true)(hc:cnO k.rows x.elems z=true):x=⟨k.et,k.es,asE k.rows x.elems,k.own,false,0⟩/\z=true:=by
 unfold isB at h;simp only[Qdb] at h;obtain⟨⟨h1,h2⟩,h3,h4,h5,h6⟩:=h;have h1:=Qda h1;have h2:=Qda h2;have h5:=Qda h5;have h4:x.dead=false:=by simpa using h4
 obtain⟨et,es,el,ow,de,g⟩:=x;obtain⟨et',es',ow',rows⟩:=k
 simp only at *
 subst h1 h2 h4 h5;have h3:ow'=ow:=by cases ow'<;>cases ow<;>first | rfl | cases h3
 subst h3;cases rows with
 |none=>exact⟨rfl,hc⟩
 |some ks =>
  obtain⟨e,hz⟩:=je5 h6 hc;refine⟨?_,hz⟩;show _=(⟨et',es',Ue5 ks el,ow',false,0⟩:b9);rw[<- e]
def Ce2(ks:List B2):List b9->Bool :=
 List.rec (motive:=λ_=>List b9->Bool) (λl=>List.rec (motive:=λ_=>Bool) true (λ_ _ _=>false) l)
  (λk _ ih l=>List.rec (motive:=λ_=>Bool) false (λx r _=>Bool.and (isB k x) (ih r)) l) ks
def te1(ks:List B2):List b9->List b9 :=
 List.rec (motive:=λ_=>List b9->List b9) (λ_=>[]) (λk _ ih l=>⟨k.et,k.es,asE k.rows (hdB l),k.own,false,0⟩::ih (tlB l)) ks
def Ue6(z:Bool)(ks:List B2):List b9->Bool :=
 List.rec (motive:=λ_=>List b9->Bool) (λ_=>z) (λk _ ih l=>cnO k.rows (hdB l) (ih (tlB l))) ks
theorem je6{z:Bool}:∀{ks:List B2} {l:List b9},Ce2 ks l=true->Ue6 z ks l=true->l=te1 ks l/\z=true
 |[],[],_,hc=>⟨rfl,hc⟩
 |[],x::r,h,_=>by cases h
 |k::ks,[],h,_=>by cases h
 |k::ks,x::r,h,hc=>by
  have h:Bool.and (isB k x) (Ce2 ks r)=true:=h;rw[Qdb] at h;have hc:cnO k.rows x.elems (Ue6 z ks r)=true:=hc;obtain⟨e1,h2⟩:=kf8 h.1 hc;obtain⟨e2,h3⟩:=je6 h.2 h2;refine⟨?_,h3⟩;show x::r=⟨k.et,k.es,asE k.rows x.elems,k.own,false,0⟩::te1 ks r;rw[<- e1,<- e2]
structure Al2(π σ:Type) where
 sh:List S2
 bl:List B2
 rd:List b7->List b9->π×σ
def Ue7{π σ:Type}(l:List (Al2 π σ))(t:St):DT (π×σ) :=
 List.rec (motive:=λ_=>DT (π×σ)) .fail
  (λx _ ih=>Bool.rec (motive:=λ_=>DT (π×σ)) ih (.guard (Ue4 (Ue6 true x.bl t.H) x.sh t.a) (.ret (x.rd t.a t.H))) (Bool.and (Ce1 x.sh t.a) (Ce2 x.bl t.H))) l
theorem Bd2 {π σ : Type} {enc : π → σ → St} {t : St} {q : π × σ} : ∀ {l : List (Al2 π σ)}, (∀ x, x ∈ l → ∀ a H, (⟨te0 x.sh a, te1 x.bl H⟩ : St) = enc (x.rd a H).1 (x.rd a H).2) →
  (Ue7 l t).run=some q->t=enc q.1 q.2
 |[],_,h=>by cases h
 |x::l,hl,h=>by
  have h:(Bool.rec (motive:=λ_=>DT (π×σ)) (Ue7 l t) (.guard (Ue4 (Ue6 true x.bl t.H) x.sh t.a) (.ret (x.rd t.a t.H))) (Bool.and (Ce1 x.sh t.a) (Ce2 x.bl t.H))).run=some q:=h
  cases hb:Bool.and (Ce1 x.sh t.a) (Ce2 x.bl t.H) with
  |false=>rw[hb] at h;exact Bd2 (λy hy=>hl y (.tail _ hy)) h
  |true =>
   rw[hb] at h;obtain⟨h1,h2⟩:=DT.run_guard_some h;cases h2;rw[Qdb] at hb;obtain⟨e1,h3⟩:=je4 hb.1 h1;obtain⟨e2,_⟩:=je6 hb.2 h3;rw[<- hl x (.head _) t.a t.H,<- e1,<- e2]
def Va6{π:Type}(x:Al2 π Unit)(k:π->DT (b7×List b9)):Sum:=λargs blks=>(Ue7 [x] ⟨args,blks⟩).bind λq=>k q.1
theorem M9 {P : Program} {G : Nat → List Value} {f : FuncId} {R : Sum} {π : Type} {x : Al2 π Unit} {enc : π → St} {k : π → DT (b7 × List b9)}
  (hx:∀a H,(⟨te0 x.sh a,te1 x.bl H⟩:St)=enc (x.rd a H).1) (hb:g7 P G f R)
  (h:∀p r,(k p).run=some r->(R (enc p).a (enc p).H).run=some r):g7 P G f (Va6 x k):=hb.le λargs blks r hr=>by
 obtain⟨q,h1,h2⟩:=DT.run_bind_some hr;have e:=Bd2 (enc:=λp _=>enc p) (Va5.mem (.cons hx .nil)) h1
 have:=h q.1 r h2
 rw[<- e] at this;exact this
@[reducible] def slT(l:List b7)(n:Nat):b7:=hdA (Nat.rec (motive:=λ_=>List b7->List b7) (λl=>l) (λ_ ih l=>ih (tlA l)) n l)
@[reducible] def rwT(l:List (List b7))(n:Nat):List b7:=hdR (Nat.rec (motive:=λ_=>List (List b7)->List (List b7)) (λl=>l) (λ_ ih l=>ih (tlR l)) n l)
@[reducible] def elT(l:List b9)(n:Nat):List (List b7):=hdB (Nat.rec (motive:=λ_=>List b9->List b9) (λl=>l) (λ_ ih l=>ih (tlB l)) n l)
@[reducible] def xit(o:Option Nat):e8:=Option.rec (motive:=λ_=>e8) .ret (λid=>.exit id) o
theorem kf9(o:Option Nat):xit o≠.normal:=by cases o<;>exact λh=>by cases h
abbrev Xs(π σ:Type):=List (Option Nat×(π->σ->St))
def xOf{π σ:Type}(xs:Xs π σ)(p:π)(s:σ)(t:Nat):Nat->Option (e8×St) :=
 List.rec (motive:=λ_=>Nat->Option (e8×St)) (λ_=>none) (λx _ ih k=>sel (Nat.beq t k) (some (xit x.1,x.2 p s)) (ih (k+1))) xs
def lf0{π σ:Type}(xs:Xs π σ)(p:π)(r:Nat×σ):Nat->DT (e8×St) :=
 List.rec (motive:=λ_=>Nat->DT (e8×St)) (λ_=>.fail) (λx _ ih k=>.ite (Nat.beq r.1 k) (.ret (xit x.1,x.2 p r.2)) (ih (k+1))) xs
theorem Md9{π σ:Type}(p:π)(r:Nat×σ):∀(xs:Xs π σ) (k:Nat),(lf0 xs p r k).run=xOf xs p r.2 r.1 k
 |[],k=>rfl
 |x::xs,k=>by
  show (DT.ite (Nat.beq r.1 k) (.ret (xit x.1,x.2 p r.2)) (lf0 xs p r (k+1))).run=sel (Nat.beq r.1 k) (some (xit x.1,x.2 p r.2)) (xOf xs p r.2 r.1 (k+1));rw[DT.run_ite,Md9 p r xs (k+1)];cases Nat.beq r.1 k<;>rfl
theorem Yc1{π σ:Type}(p:π)(s:σ):∀(xs:Xs π σ) (k:Nat),xOf xs p s 0 (k+1)=none
 |[],_=>rfl
 |_::xs,k=>Yc1 p s xs (k+1)
theorem je7{π σ:Type}{p:π}{s:σ}{t:Nat}{e:e8×St}:∀{xs:Xs π σ} {k:Nat},xOf xs p s t k=some e->e.1≠.normal
 |[],_,h=>by cases h
 |x::xs,k,h=>by
  have h:sel (Nat.beq t k) (some (xit x.1,x.2 p s)) (xOf xs p s t (k+1))=some e:=h;cases hb:Nat.beq t k with
  |true=>rw[hb] at h;cases h;exact kf9 _
  |false=>rw[hb] at h;exact je7 h
theorem Nd0 {π σ : Type} {head : St → DT St} {body : St → DT (e8 × St)} {enc : σ → St} {step : σ → Stp σ} {xs : Xs π σ} {p : π}
  (h:∀s,(Mb8 head body (enc s)).run=Xb9 (λs'=>some (.normal,enc s')) (λt=>xOf xs p s t 1) none (step s)) :
  ∀(n:Nat) (s:σ) (e:e8×St),xOf xs p (lp0 step n s).2 (lp0 step n s).1 1=some e->(pc1 head body n (enc s)).run=some e
 |n,s,e,he=>by
  have hr:=h s;cases hs:step s with
  |fail =>
   have h0:lp0 step n s=(0,s):=by
    cases n with
    |zero=>show Xb9 _ _ _ (step s)=_;rw[hs]
    |succ n=>show Xb9 _ _ _ (step s)=_;rw[hs]
   rw[h0] at he;rw[show xOf xs p s 0 1=none from Yc1 p s xs 0] at he
   cases he
  |exit t =>
   rw[Xc6 hs] at he;rw[hs] at hr;have hr:(Mb8 head body (enc s)).run=xOf xs p s t 1:=hr;have he:xOf xs p s t 1=some e:=he;rw[he] at hr;obtain⟨x,t'⟩:=e;exact Te5 hr (je7 he)
  |next s' =>
   cases n with
   |zero =>
    have h0:lp0 step 0 s=(0,s):=by show Xb9 _ _ _ (step s)=_;rw[hs]
    rw[h0] at he;rw[show xOf xs p s 0 1=none from Yc1 p s xs 0] at he
    cases he
   |succ n =>
    rw[Md3 hs] at he;rw[hs] at hr;exact Te4 hr (Nd0 h n s' e he)
section
variable{π σ:Type}
def sd8(head:Nat->List Nat->St->DT St)(k:Nat)(keep:List Nat)(alts:List (Al2 π σ))(step:π->σ->Stp σ)(xs:Xs π σ)(s:St):DT (e8×St) :=
 (head k keep s).bind λt=>(Ue7 alts t).bind λq=>lf0 xs q.1 (lp (step q.1) q.2) 1
structure Yb2(head:Nat->List Nat->St->DT St)(k:Nat)(keep:List Nat)(body:St->DT (e8×St))(alts:List (Al2 π σ))(step:π->σ->Stp σ)(xs:Xs π σ)(enc:π->σ->St):Prop where
 ha:Va5 (λx=>∀a H,(⟨te0 x.sh a,te1 x.bl H⟩:St)=enc (x.rd a H).1 (x.rd a H).2) alts
 h:∀p s,(Mb8 (head k keep) body (enc p s)).run=Xb9 (λs'=>some (.normal,enc p s')) (λt=>xOf xs p s t 1) none (step p s)
variable{E:Env}{k:Nat}{res:List Cc9}{keep:List Nat}{alts:List (Al2 π σ)}{enc:π->σ->St}{step:π->σ->Stp σ}{xs:Xs π σ}{body:PS}{c:PC}{head:Nat->List Nat->St->DT St}{bd:St->DT (e8×St)}
theorem Yb2.go(w:Yb2 head k keep bd alts step xs enc){s:St}{r:e8×St}(hr:(sd8 head k keep alts step xs s).run=some r):∃t,(head k keep s).run=some t/\(pc1 (head k keep) bd rounds t).run=some r:=by
 obtain⟨t,h1,h2⟩:=DT.run_bind_some hr;obtain⟨q,h3,h4⟩:=DT.run_bind_some h2;rw[Md9,Be4] at h4;have e:=Bd2 w.ha.mem h3;refine⟨t,h1,?_⟩;rw[e];exact Nd0 (w.h q.1) rounds q.2 r h4
theorem Yb2.belowC(hb:pa5 E k res body c)(hN:E.N=rounds+1)(w:Yb2 Xb8 k keep (je0 E k res body) alts step xs enc)(s:St):ha8 k res (sd8 Xb8 k keep alts step xs s) (Q5 E k (.loop keep c) s):=λr hr=>by
 obtain⟨t,h1,h2⟩:=w.go hr;rw[sd7,hN];exact Yb0 hb.le _ _ r (gc6 h1 h2)
end
inductive RT where
 |p
 |s (a c:RT)
 |c (x y:RT)
 |b (c:RT)
 |l (c:RT)
 |i (c:RT)
 |u (S:St->DT (e8×St))
def kd6:RT->PC->PS
 |.s a b,.seq x y=>.seq (kd6 a x) (kd6 b y)
 |.c a b,.cond g x y=>.cond g (kd6 a x) (kd6 b y)
 |.b a,.block id x=>.block id (kd6 a x)
 |.l a,.loop keep x=>.loop keep (kd6 a x)
 |.u S,_=>.sum S
 |_,c=>.pc c
def jc3:RT->PC->List ((St->DT (e8×St))×PC)
 |.s a b,.seq x y=>app (jc3 a x) (jc3 b y)
 |.c a b,.cond _ x y=>app (jc3 a x) (jc3 b y)
 |.b a,.block _ x=>jc3 a x
 |.l a,.loop _ x=>jc3 a x
 |.i a,.inner _ _ _ x=>jc3 a x
 |.u S,c=>[(S,c)]
 |_,_=>[]
theorem Va5.app{α:Type}{Q:α->Prop}:∀{l r:List α},Va5 Q (Go.Ev.app l r)->Va5 Q l/\Va5 Q r
 |[],_,h=>⟨.nil,h⟩
 |_::l,_,.cons h t=>⟨.cons h (Va5.app t).1,(Va5.app t).2⟩
theorem je8{E:Env}{k:Nat}{res:List Cc9}(rt:RT)(c:PC):Va5 (λx=>∀s,ha8 k res (x.1 s) (Q5 E k x.2 s)) (jc3 rt c)->pa5 E k res (kd6 rt c) c:=by
 induction rt generalizing c with
 |p=>intro h;cases c<;>exact .pc _
 |s a b iha ihb =>
  intro h;cases c with
  |seq x y=>exact .seq (iha x (Va5.app h).1) (ihb y (Va5.app h).2)
  |_=>exact .pc _
 |c a b iha ihb =>
  intro h;cases c with
  |cond g x y=>exact .cond g (iha x (Va5.app h).1) (ihb y (Va5.app h).2)
  |_=>exact .pc _
 |b a iha =>
  intro h;cases c with
  |block id x=>exact .block id (iha x h)
  |_=>exact .pc _
 |l a iha =>
  intro h;cases c with
  |loop keep x=>exact .loop keep (iha x h)
  |_=>exact .pc _
 |i a iha=>intro h;cases c<;>exact .pc _
 |u S =>
  intro h
  have:jc3 (.u S) c=[(S,c)]:=by cases c<;>rfl
  rw[this] at h;cases h with
  |cons h t =>
   have e:kd6 (.u S) c=.sum S:=by cases c<;>rfl
   rw[e];exact .sum h
def Cf7(l:List Nat)(c:PC):PC :=
 List.rec (motive:=λ_=>PC->PC) (λc=>c) (λn _ ih c=>match c with
  |.seq x y=>ih (match n with | 0=>x | _=>y)
  |.cond _ x y=>ih (match n with | 2=>x | _=>y)
  |.block _ x=>ih x
  |.loop _ x=>ih x
  |.loopM _ x=>ih x
  |.inner _ _ _ x=>ih x
  |c=>c) l c
theorem Ce3(n:Int):W n=(n+9223372036854775808) % 18446744073709551616-9223372036854775808:=IntKind.wrap_i64 n
theorem ha0{n:Int}(h1:-9223372036854775808<=n)(h2:n<=9223372036854775807):W n=n:=by rw[Ce3];omega
theorem je9(n:Int):∃k,W n=n+18446744073709551616*k:=⟨-((n+9223372036854775808) / 18446744073709551616),by rw[Ce3];omega⟩
theorem gc7(n k:Int):W (n+18446744073709551616*k)=W n:=by rw[Ce3,Ce3];omega
theorem tb5(a b:Int):W (W a+b)=W (a+b):=by
 obtain⟨k,hk⟩:=je9 a;rw[hk,show a+18446744073709551616*k+b=a+b+18446744073709551616*k by omega,gc7]
theorem Yb3(a b:Int):W (a+W b)=W (a+b):=by rw[Int.add_comm,tb5,Int.add_comm]
theorem Yc2(a b:Int):W (W a-b)=W (a-b):=by
 obtain⟨k,hk⟩:=je9 a;rw[hk,show a+18446744073709551616*k-b=a-b+18446744073709551616*k by omega,gc7]
theorem Bd3(a b:Int):W (a-W b)=W (a-b):=by
 obtain⟨k,hk⟩:=je9 b;rw[hk,show a-(b+18446744073709551616*k)=a-b+18446744073709551616*(-k) by omega,gc7]
theorem ce4(a b:Int):W (W a*b)=W (a*b):=by
 obtain⟨k,hk⟩:=je9 a;rw[hk,show (a+18446744073709551616*k)*b=a*b+18446744073709551616*(k*b) by grind,gc7]
theorem Ce4(a b:Int):W (a*W b)=W (a*b):=by rw[Int.mul_comm,ce4,Int.mul_comm]
theorem o4{j n:Nat}(h:j<n)(hn:n<=4611686018427387904):W ((j:Int)+1)=((j+1:Nat):Int):=by
 rw[ha0 (by omega) (by omega)];omega
theorem Yb4{j n:Nat}(h:j<n):decide ((j:Int)<(n:Int))=true:=decide_eq_true (by omega)
theorem Nb1{j n:Nat}(h:¬ j<n):decide ((j:Int)<(n:Int))=false:=decide_eq_false (by omega)
theorem f7{j n:Nat}(h:j<n):inB (j:Int) n=true:=by
 show Nat.blt j n=true;rw[Nat.blt_eq];exact h
theorem Tc1(m:Int)(n:Nat):inB m n=decide (0<=m/\m<n):=by
 unfold inB;cases m with
 |ofNat k =>
  rw[Bool.eq_iff_iff,decide_eq_true_eq];show Nat.blt k n=true↔_;rw[Nat.blt_eq];constructor
  ·intro h;exact⟨Int.natCast_nonneg k,Int.ofNat_lt.2 h⟩
  ·intro h;exact Int.ofNat_lt.1 h.2
 |negSucc k=>exact (decide_eq_false (λh=>by omega)).symm
theorem bt{c:Bool}(h:c=true){α:Type}(t e:α):sl c t e=t:=by rw[h];rfl
theorem bf{c:Bool}(h:c=false){α:Type}(t e:α):sl c t e=e:=by rw[h];rfl
theorem ca1{n:Nat}(h:n<=1000000000000):Nat.ble (n*32) room=true:=by
 rw[Nat.ble_eq];unfold room;omega
theorem Ce5 {σ : Type} {step : σ → Stp σ} {I : Nat → σ → Prop} {Q : Nat → σ → Prop} (h : ∀ m s, I m s → (∃ t, step s = .exit t ∧ Q t s) ∨ ∃ s' m', m = m' + 1 ∧ step s = .next s' ∧ I m' s') :
  ∀(m n:Nat) (s:σ),m<=n->I m s->Q (lp0 step n s).1 (lp0 step n s).2
 |m,n,s,hn,hi=>by
  rcases h m s hi with⟨t,h1,h2⟩|⟨s',m',rfl,h1,h2⟩
  ·rw[Xc6 h1];exact h2
  ·cases n with
   |zero=>omega
   |succ n =>
    rw[Md3 h1];exact Ce5 h m' n s' (by omega) h2
theorem pc4 {σ : Type} {step : σ → Stp σ} {I : Nat → σ → Prop} {Q : Nat → σ → Prop} (h : ∀ m s, I m s → (∃ t, step s = .exit t ∧ Q t s) ∨ ∃ s' m', m = m' + 1 ∧ step s = .next s' ∧ I m' s')
  (m:Nat) (s:σ) (hm:m<=18446744073709551615) (hi:I m s):Q (lp step s).1 (lp step s).2:=by
 rw[Be4];exact Ce5 h m rounds s (by unfold rounds;omega) hi
section
variable{σ τ α:Type}{step:σ->Stp σ}
theorem wc5 {mk : Nat → τ → σ} {f : τ → α → τ} {fin : Nat} (t : Ty α) (l : List α) (I : Nat → τ → Prop) (hl : l.length ≤ 1000000000)
  (h:∀j a,j<l.length->I j a->step (mk j a)=.next (mk (j+1) (f a (gL t l j)))/\I (j+1) (f a (gL t l j)))
  (hf:∀a,I l.length a->step (mk l.length a)=.exit fin) (j0:Nat) (hj:j0<=l.length) (a:τ) (hi:I j0 a) :
  lp step (mk j0 a)=(fin,mk l.length ((l.drop j0).foldl f a))/\I l.length ((l.drop j0).foldl f a):=by
 have key:=pc4 (step:=step) (I:=λm s=>∃j b,m=l.length-j/\j<=l.length/\s=mk j b/\I j b/\(l.drop j).foldl f b=(l.drop j0).foldl f a)
  (Q:=λu s=>u=fin/\s=mk l.length ((l.drop j0).foldl f a)/\I l.length ((l.drop j0).foldl f a)) (λm s ⟨j,b,hm,hj,hs,hb,he⟩=>by
   subst hs;by_cases hlt:j<l.length
   ·obtain⟨h1,h2⟩:=h j b hlt hb;refine .inr ⟨_,l.length-(j+1),by omega,h1,j+1,_,rfl,by omega,rfl,h2,?_⟩
    rw[<- he,Qdj hlt,List.foldl_cons];simp[gL,Qdd,Qdc hlt]
   ·have:j=l.length:=by omega
    subst this;have he:b=(l.drop j0).foldl f a:=by rw[<- he];simp
    subst he;exact .inl ⟨fin,hf _ hb,rfl,rfl,hb⟩) (l.length-j0) (mk j0 a) (by omega) ⟨j0,a,rfl,hj,rfl,hi,rfl⟩
 exact⟨by rw[<- key.2.1,<- key.1],key.2.2⟩
theorem lb0 {mk : Nat → σ} {c : α → Bool} {u fin : Nat} (t : Ty α) (l : List α) (hl : l.length ≤ 1000000000)
  (h:∀j,j<l.length->step (mk j)=sl (c (gL t l j)) (.exit u) (.next (mk (j+1)))) (hf:step (mk l.length)=.exit fin) (j0:Nat) (hj:j0<=l.length) :
  (lp step (mk j0)).1=if (l.drop j0).any c then u else fin :=
 pc4 (step:=step) (I:=λm s=>∃j,m=l.length-j/\j<=l.length/\s=mk j/\(l.drop j).any c=(l.drop j0).any c)
  (Q:=λv _=>v=if (l.drop j0).any c then u else fin) (λm s ⟨j,hm,hj,hs,he⟩=>by
   subst hs;by_cases hlt:j<l.length
   ·have h1:=h j hlt;have e:gL t l j=l[j]:=by simp[gL,Qdd,Qdc hlt]
    have e2:(l.drop j).any c=(c l[j]||(l.drop (j+1)).any c):=by rw[Qdj hlt,List.any_cons]
    rw[e] at h1;cases hc:c l[j] with
    |true =>
     rw[hc] at h1;refine .inl ⟨u,h1,?_⟩;rw[<- he,e2,hc];rfl
    |false =>
     rw[hc] at h1;refine .inr ⟨_,l.length-(j+1),by omega,h1,j+1,rfl,by omega,rfl,?_⟩
     rw[<- he,e2,hc];rfl
   ·have:j=l.length:=by omega
    subst this;refine .inl ⟨fin,hf,?_⟩;rw[<- he];simp) (l.length-j0) (mk j0) (by omega) ⟨j0,rfl,hj,rfl,rfl⟩
theorem Qa3 {mk : Nat → σ} {c : α → Bool} {u fin : Nat} (t : Ty α) (l : List α) (hl : l.length ≤ 1000000000)
  (h:∀j,j<l.length->step (mk j)=sl (c (gL t l j)) (.exit u) (.next (mk (j+1)))) (hf:step (mk l.length)=.exit fin) (j0:Nat) (hj:j0<=l.length) :
  lp step (mk j0)=if (l.drop j0).any c then (u,mk (j0+(l.drop j0).findIdx c)) else (fin,mk l.length):=by
 have key:=pc4 (step:=step) (I:=λm s=>∃j,m=l.length-j/\j<=l.length/\j0<=j/\s=mk j/\(l.drop j).any c=(l.drop j0).any c/\j+(l.drop j).findIdx c=j0+(l.drop j0).findIdx c)
  (Q:=λv s=>(v,s)=if (l.drop j0).any c then (u,mk (j0+(l.drop j0).findIdx c)) else (fin,mk l.length)) (λm s ⟨j,hm,hj,hj0,hs,he,hi⟩=>by
   subst hs;by_cases hlt:j<l.length
   ·have h1:=h j hlt;have e:gL t l j=l[j]:=by simp[gL,Qdd,Qdc hlt]
    have e2:(l.drop j).any c=(c l[j]||(l.drop (j+1)).any c):=by rw[Qdj hlt,List.any_cons]
    have e3:(l.drop j).findIdx c=if c l[j] then 0 else (l.drop (j+1)).findIdx c+1:=by rw[Qdj hlt,List.findIdx_cons];cases c l[j]<;>rfl
    rw[e] at h1;cases hc:c l[j] with
    |true =>
     rw[hc] at h1;refine .inl ⟨u,h1,?_⟩;rw[<- he,e2,hc,<- hi,e3,hc];rfl
    |false =>
     rw[hc] at h1;refine .inr ⟨_,l.length-(j+1),by omega,h1,j+1,rfl,by omega,by omega,rfl,?_,?_⟩
     ·rw[<- he,e2,hc];rfl
     ·rw[<- hi,e3,hc];simp only[Bool.false_eq_true,if_false];omega
   ·have:j=l.length:=by omega
    subst this;refine .inl ⟨fin,hf,?_⟩;rw[<- he];simp) (l.length-j0) (mk j0) (by omega) ⟨j0,rfl,hj,Qdg _,rfl,rfl,rfl⟩
 exact key
end
theorem ta9{α:Type}(t:Ty α){l:List α}{j:Nat}(h:j<l.length):gL t l j∈l:=by
 simp[gL,Qdd,Qdc h]
theorem Ta2{α:Type}(t:Ty α){l:List α}{j:Nat}(h:j<l.length):gL t l j=l[j]:=by
 simp[gL,Qdd,Qdc h]
def euF:Nat->Int->Int->Int
 |0,g,_=>g
 |k+1,g,n=>if n=0 then g else euF k n (Int.tmod g n)
def eu(g n:Int):Int:=euF (n.natAbs+1) g n
theorem bb2{g n:Int}(h:n≠0):(Int.tmod g n).natAbs<n.natAbs:=by
 rw[Int.natAbs_tmod];exact Nat.mod_lt _ (by omega)
theorem Nd1:∀(k m:Nat) {g n:Int},n.natAbs<k->n.natAbs<m->euF k g n=euF m g n
 |0,_,_,_,h,_=>by omega
 |_+1,0,_,_,_,h=>by omega
 |k+1,m+1,g,n,h1,h2=>by
  unfold euF;by_cases h:n=0
  ·rw[if_pos h,if_pos h]
  ·rw[if_neg h,if_neg h]
   have:=bb2 (g:=g) h
   exact Nd1 k m (by omega) (by omega)
theorem gc8(g:Int):eu g 0=g:=by simp[eu,euF]
theorem Tc2{g n:Int}(h:n≠0):eu g n=eu n (Int.tmod g n):=by
 have:=bb2 (g:=g) h
 unfold eu
 conv=>lhs;unfold euF
 rw[if_neg h];exact Nd1 _ _ (by omega) (by omega)
theorem lf1:∀(k:Nat) (g n:Int),n.natAbs<=k->(eu g n).natAbs=Int.gcd g n:=by
 intro k
 induction k with
 |zero =>
  intro g n h
  have:n=0:=by omega
  subst this;rw[gc8];simp
 |succ k ih =>
  intro g n h;by_cases h0:n=0
  ·subst h0;rw[gc8];simp
  ·have:=bb2 (g:=g) h0
   rw[Tc2 h0,ih n (Int.tmod g n) (by omega)]
   unfold Int.gcd;rw[Int.natAbs_tmod,Nat.gcd_comm g.natAbs,Nat.gcd_comm n.natAbs,<- Nat.gcd_rec]
theorem Ce6(g n:Int):(eu g n).natAbs=Int.gcd g n:=lf1 _ g n (Qdg _)
theorem te2:∀(k:Nat) (g n:Int),n.natAbs<=k->0<=g->0<=n->0<=eu g n:=by
 intro k
 induction k with
 |zero =>
  intro g n h hg _
  have:n=0:=by omega
  subst this;rw[gc8];exact hg
 |succ k ih =>
  intro g n h hg hn;by_cases h0:n=0
  ·subst h0;rw[gc8];exact hg
  ·have:=bb2 (g:=g) h0
   rw[Tc2 h0];exact ih n _ (by omega) hn (Int.tmod_nonneg _ hg)
theorem Ce7{g n:Int}(hg:0<=g)(hn:0<=n):eu g n=(Int.gcd g n:Int):=by
 have h1:=te2 _ g n (Qdg _) hg hn;have h2:=Ce6 g n;omega
section
variable{σ:Type}{step:σ->Stp σ}{mk:Int->Int->σ}
theorem ke0(h:∀g n,n≠0->step (mk g n)=.next (mk n (Int.tmod g n)))(h0:∀g,step (mk g 0)=.exit 1)(g n:Int)(hn:n.natAbs<=9223372036854775808):lp step (mk g n)=(1,mk (eu g n) 0):=by
 have:=pc4 (step:=step) (I:=λm s=>∃a c,s=mk a c/\c.natAbs<=m/\eu a c=eu g n) (Q:=λu s=>(u,s)=(1,mk (eu g n) 0)) (λm s ⟨a,c,hs,hm,he⟩=>by
  subst hs;by_cases hc:c=0
  ·subst hc;rw[gc8] at he;subst he;exact .inl ⟨1,h0 _,rfl⟩
  ·have ht:=bb2 (g:=a) hc;exact .inr ⟨_,m-1,by omega,h a c hc,c,_,rfl,by omega,by rw[<- he,Tc2 hc]⟩) n.natAbs (mk g n) (by omega) ⟨g,n,rfl,Qdg _,rfl⟩
 exact this
theorem Kc8(h:∀g n,0<n->step (mk g n)=.next (mk n (Int.tmod g n)))(h0:∀g,step (mk g 0)=.exit 1)(g n:Int)(hg:0<=g)(h1:0<=n)(hn:n<=9223372036854775808):lp step (mk g n)=(1,mk (eu g n) 0):=by
 have:=pc4 (step:=step) (I:=λm s=>∃a c,s=mk a c/\c.natAbs<=m/\0<=a/\0<=c/\eu a c=eu g n) (Q:=λu s=>(u,s)=(1,mk (eu g n) 0)) (λm s ⟨a,c,hs,hm,ha,hc0,he⟩=>by
  subst hs;by_cases hc:c=0
  ·subst hc;rw[gc8] at he;subst he;exact .inl ⟨1,h0 _,rfl⟩
  ·have ht:=bb2 (g:=a) hc;exact .inr ⟨_,m-1,by omega,h a c (by omega),c,_,rfl,by omega,hc0,Int.tmod_nonneg _ ha,by rw[<- he,Tc2 hc]⟩) n.natAbs (mk g n) (by omega) ⟨g,n,rfl,Qdg _,hg,h1,rfl⟩
 exact this
end
theorem mb{a c A C:Int}(h1:-A<=a)(h2:a<=A)(h3:-C<=c)(h4:c<=C):-(A*C)<=a*c/\a*c<=A*C:=by
 have hA:a.natAbs<=A.natAbs:=by omega
 have hC:c.natAbs<=C.natAbs:=by omega
 have h5:=Nat.mul_le_mul hA hC;rw[<- Int.natAbs_mul,<- Int.natAbs_mul] at h5;have h6:0<=A*C:=Int.mul_nonneg (by omega) (by omega)
 omega
end Go.Ev.L
namespace Go.Ev
open Go
def FW(F:Fence):Prop:=∃r,F={ Fence.wide with round:=r }
theorem FW.wide:FW Fence.wide:=⟨none,rfl⟩
theorem FW.inRound(l:Nat):FW (Fence.wide.inRound l):=⟨some l,rfl⟩
section
variable{F:Fence}{n:Nat}{P:Program}
theorem FW.fn(h:FW F)(f:FuncId):F.fn f:=by obtain⟨r,rfl⟩:=h;trivial
theorem FW.dep(h:FW F):F.depth=none:=by obtain⟨r,rfl⟩:=h;rfl
theorem FW.depS(h:FW F){p:Prop}:F.depth.isSome=true->p:=λhd=>by rw[h.dep] at hd;cases hd
theorem FW.fenced(h:FW F):Machine.fenced P F=Machine.fenced P Fence.wide:=by obtain⟨r,rfl⟩:=h;rfl
theorem FW.room(h:FW F)(k:Nat):F.room k:=λd hd=>by rw[h.dep] at hd;cases hd
theorem FW.calls(h:FW F){f:FuncId}{args:Array Value}{w:World}{R:Ending->World->Prop}:CallsIn F n P f args w R↔Calls P f args w R:=by
 refine Iff.trans ?_ (callsIn_wide (n:=n));obtain⟨r,rfl⟩:=h;exact⟨λh=>h,λh=>h⟩
theorem FW.rows(h:FW F){row:String}{args:Array Value}{w:World}{R:Value->World->Prop}(hr:Rows P row args w R):RowsIn F n P row args w R:=λc cs _=>by
 obtain⟨v,w',h1,h2⟩:=hr c cs;refine⟨v,w',h1,?_⟩;rw[h.fenced];exact stepsIn_wide.2 h2
end
section
variable{P:Program}{o:Oper}{ac:Act}{w:World}{post:Value->World->Prop}
theorem j7.inAny(h:j7 P o { ac with defers:=[] } w post){F:Fence}(hF:FW F)(n:Nat)(next:Act->World->Prop)(Q:Exit->Act->World->Prop)(hp:∀x' w',post x' w'->next (ac.put o.dst x') w'):o.wpIn F n P ac w next Q:=by
 have hput:∀v,({ ac with defers:=[] }:Act).put o.dst v={ ac.put o.dst v with defers:=[] }:=λv=>by cases o.dst<;>rfl
 have hinj:∀v x',({ ac with defers:=[] }:Act).put o.dst v=({ ac with defers:=[] }:Act).put o.dst x'->ac.put o.dst v=ac.put o.dst x':=λv x' e=>by
  rw[hput,hput] at e;have e1:=congrArg Act.tmps e
  revert e1
  cases o.dst with
  |none=>intro _;rfl
  |some d=>intro e1;show ({ ac with tmps:=_ }:Act)={ ac with tmps:=_ };congr 1
 have hnd:∀c,o.op≠.defer c:=λc hc=>by
  have h0:=h (λa' _=>a'.defers=[]) (λ_ _ _=>False) (λx' w' _=>by rw[hput])
  unfold Oper.wp at h0;have e:execOp ({ ac with defers:=[] }:Act).eval o=(do return .defer (<- resolve ({ ac with defers:=[] }:Act).eval c o.type)):=by unfold execOp;simp[hc]
  rw[e] at h0;simp only[Sem.run_bind] at h0;cases hr:(resolve ({ ac with defers:=[] }:Act).eval c o.type).run P w with
  |ok d w1 =>
   rw[hr] at h0;have h0:({ ({ ac with defers:=[] }:Act) with defers:=d::[] }.put o.dst undef).defers=[]:=h0
   revert h0
   cases o.dst<;>intro h0<;>cases h0
  |halt x w1 =>
   rw[hr] at h0;cases x<;>exact h0
 have h0:=h (λa' w'=>∃x',post x' w'/\a'=({ ac with defers:=[] }:Act).put o.dst x') (λ_ _ _=>False) (λx' w' hx=>⟨x',hx,rfl⟩)
 unfold Oper.wp at h0;refine⟨λf _=>hF.fn f,?_⟩
 rw[Oper.semAt_eq _ _ _ hnd];have hev:(execOp ac.eval o)=execOp ({ ac with defers:=[] }:Act).eval o:=rfl
 rw[hev]
 revert h0
 generalize (execOp ({ ac with defers:=[] }:Act).eval o).run P w=r
 intro h0;have hnext:∀v w',(∃x',post x' w'/\({ ac with defers:=[] }:Act).put o.dst v=({ ac with defers:=[] }:Act).put o.dst x')->next (ac.put o.dst v) w':=λv w' ⟨x',h1,h2⟩=>by
  rw[hinj v x' h2];exact hp x' w' h1
 cases r with
 |ok q w' =>
  cases q with
  |value v=>exact hnext v w' h0
  |skip=>exact hnext undef w' h0
  |defer d =>
   obtain⟨x',_,h2⟩:=h0;rw[hput] at h2
   have:=congrArg Act.defers h2
   revert this
   cases o.dst<;>intro h<;>cases h
  |enter f args =>
   refine⟨λhd=>hF.depS hd,hF.calls.2 ?_⟩
   have h0:Calls P f args w' _:=h0;refine h0.mono λe w'' he=>?_
   cases e with
   |returned v=>exact hnext v w'' he
   |panicked ch=>exact he.elim
   |outgrown=>obtain⟨a0,w0,hq⟩:=he;exact hq.elim
  |row row args =>
   refine⟨λhd=>hF.depS hd,hF.rows ?_⟩
   have h0:Rows P row args w' _:=h0;exact λc cs=>by
    obtain⟨v,w'',h1,h2⟩:=h0 c cs;exact⟨v,w'',hnext v w'' h1,h2⟩
  |round l f tmps asq body=>exact h0.elim
  |_=>exact h0.elim
 |halt x w' =>
  cases x with
  |panic v=>exact h0.elim
  |_=>exact h0.elim
end
section
variable{W W' WB:Nat->Prop}{ρ ρ0 ρ':Rho}{H H0 H1:List b9}{F F0 F':Fz}{w w0 w':World}{P:Program}
theorem tb6(H:List b9):r5 H=H.map λb=>Bool.rec (motive:=λ_=>b9) b { b with dead:=true } (G2 b):=by unfold r5;rw[p5]
theorem te3:(r5 H).length=H.length:=by rw[tb6];simp
theorem pa0{id:Nat}{b:b9}(hb:H[id]?=some b)(hs:G2 b=false):(r5 H)[id]?=some b:=by
 rw[tb6,Qdf,hb];simp[hs]
theorem Yc3{id:Nat}{b:b9}(hb:H[id]?=some b)(hs:G2 b=true):(r5 H)[id]?=some { b with dead:=true }:=by
 rw[tb6,Qdf,hb];simp[hs]
theorem ra7{id:Nat}{b:b9}(hb:(r5 H)[id]?=some b)(hd:b.dead=false):H[id]?=some b/\G2 b=false:=by
 rw[tb6,Qdf] at hb;cases h:H[id]? with
 |none=>rw[h] at hb;cases hb
 |some c =>
  rw[h] at hb;cases hs:G2 c with
  |false=>simp[hs] at hb;subst hb;exact⟨rfl,hs⟩
  |true=>simp[hs] at hb;subst hb;cases hd
def wc6(H:List b9)(id:Nat):Prop:=∃b,H[id]?=some b/\G2 b=true
def ρsp(H:List b9)(ρ ρ':Rho):Rho:=λid=>@ite _ (wc6 H id) (Classical.propDecidable _) (ρ id) (ρ' id)
theorem ρsp_on{id:Nat}(h:wc6 H id):ρsp H ρ ρ' id=ρ id:=by unfold ρsp;rw[if_pos h]
theorem ρsp_off{id:Nat}(h:¬ wc6 H id):ρsp H ρ ρ' id=ρ' id:=by unfold ρsp;rw[if_neg h]
theorem Nd2:∀(H1:List b9),tc5 [] H1=true->∀(id:Nat) c,H1[id]?=some c->G2 c=false
 |[],_,id,c,hc=>by simp at hc
 |d::r,ho,id,c,hc=>by
  have ho:Bool.and (Bool.rec (motive:=λ_=>Bool) true false (G2 d)) (tc5 [] r)=true:=ho
  simp only[Qdb] at ho;cases id with
  |zero =>
   simp at hc;subst hc
   have:=ho.1
   cases h:G2 d with
   |false=>rfl
   |true=>rw[h] at this;cases this
  |succ id=>exact Nd2 r ho.2 id c (by simpa using hc)
theorem Yc4 : ∀ (H H1 : List b9), H.length ≤ H1.length → tc5 H H1 = true → (C3 H H1).length = H1.length ∧
  (∀(id:Nat) b,H[id]?=some b->G2 b=true->(C3 H H1)[id]?=some b) /\
  (∀(id:Nat),¬ wc6 H id->(C3 H H1)[id]?=H1[id]?/\∀c,H1[id]?=some c->G2 c=false)
 |[],H1,_,ho=>by
  refine⟨rfl,λid b hb=>by simp at hb,λid _=>⟨rfl,λc hc=>?_⟩⟩
  exact Nd2 H1 ho id c hc
 |b::H,[],hl,_=>by simp at hl
 |b::H,c::H1,hl,ho=>by
  have ho:Bool.and (Bool.rec (motive:=λ_=>Bool) (Bool.rec true false (G2 c)) true (G2 b)) (tc5 H H1)=true:=ho
  simp only[Qdb] at ho;obtain⟨h1,h2,h3⟩:=Yc4 H H1 (by simpa using hl) ho.2
  have e:C3 (b::H) (c::H1)=Bool.rec (motive:=λ_=>b9) c b (G2 b)::C3 H H1:=rfl
  rw[e];refine⟨by simp[h1],λid d hd hs=>?_,λid hn=>?_⟩
  ·cases id with
   |zero=>simp at hd;subst hd;simp[hs]
   |succ id=>simpa using h2 id d (by simpa using hd) hs
  ·cases id with
   |zero =>
    have hb:G2 b=false:=by
     cases h:G2 b with
     |false=>rfl
     |true=>exact absurd ⟨b,rfl,h⟩ hn
    rw[hb] at ho ⊢;refine⟨rfl,λd hd=>?_⟩
    simp at hd;subst hd
    have:=ho.1
    cases h:G2 c with
    |false=>rfl
    |true=>rw[h] at this;cases this
   |succ id =>
    obtain⟨k1,k2⟩:=h3 id λ⟨d,hd,hs⟩=>hn ⟨d,by simpa using hd,hs⟩
    exact⟨by simpa using k1,λd hd=>k2 d (by simpa using hd)⟩
def Nd3(b:b9):Prop:=b.es=0/\b.et=0
def Nd4(t:Nat)(b:b9):Prop:=b.es=0/\b.et=t+1
inductive XC (ρ:Rho) (H:List b9) (F:Fz) (w:World):b7->Value->Prop
 |n {x:b7} {x':Value} (h:fa7 ρ (r5 H) F w x x'):XC ρ H F w x x'
 |box (id c g:Nat) (b:b9) (hb:H[id]?=some b) (hd:b.dead=false) (he:Nd3 b):XC ρ H F w (.ptr id 0 c g) (.pointer (some ⟨(ρ id).blk,c,none⟩))
 |map (id c g:Nat) (b:b9) (t:Nat) (hb:H[id]?=some b) (hd:b.dead=false) (he:Nd4 t b):XC ρ H F w (.ptr id 0 c g) (.map (some (ρ id).blk))
inductive XW (ρ:Rho) (H:List b9) (F:Fz) (w:World):b7->Value->Prop
 |w {x:b7} {x':Value} (h:F7 ρ (r5 H) F w x x'):XW ρ H F w x x'
 |c {x:b7} {x':Value} (h:XC ρ H F w x x'):XW ρ H F w x x'
theorem tb7{b:b9}(h:Nd3 b):G2 b=true:=by unfold G2;rw[h.1];rfl
theorem tb8{b:b9}{t:Nat}(h:Nd4 t b):G2 b=true:=by unfold G2;rw[h.1];rfl
theorem XC.one{x:b7}{x':Value}(h:XC ρ H F w x x')(hb:qe2 x=true):x'.oneCell'=true:=by
 cases h with
 |n h =>
  cases h with
  |mem h=>exact h.one
  |v=>exact (by rw[<- uc2];exact hb)
  |ptr=>rfl
  |sl=>rfl
  |tptr=>cases hb
  |unk=>cases hb
 |box=>rfl
 |map=>rfl
structure lf2(ρ:Rho)(H:List b9)(F:Fz)(w:World)(b:b9)(blk:Nat):Prop where
 et:Nd3 b
 has:∃row vs t,b.elems=[row]/\w.heap[blk]?=some (.cells vs t (0,0))/\row.length=vs.size/\∀(c:Nat) x x',row[c]?=some x->vs[c]?=some x'->x'.oneCell'=true/\XC ρ H F w x x'
def Yc5(fl:List (Nat×CK))(kl:Nat)(r:List b7)(e:MapEntry):Prop:=∃(ks:Array Value) (v:Bool),r=ks.toList.map .v++[.v (.bool v)]/\ks.size=kl/\e.key=.agg ks/\e.val=.bool v/\∀p∈fl,Ja3 ks p
structure lf3(P:Program)(w:World)(b:b9)(blk:Nat):Prop where
 has:∃t K El fl es clk,Nd4 t b/\P.underlying t=some (.map K El)/\ga8 P 9 K=some fl/\w.heap[blk]?=some (.map es clk)/\b.elems.length=es.size /\
  ∀(i:Nat) r e,b.elems[i]?=some r->es[i]?=some e->Yc5 fl (szT P K) r e
structure Ce8(P:Program)(WB W':Nat->Prop)(ρ:Rho)(H:List b9)(F:Fz)(w:World):Prop where
 has:∀(id:Nat) b,H[id]?=some b->G2 b=true->b.dead=false->WB (ρ id).blk/\¬ W' (ρ id).blk/\(∀o,¬ F (ρ id).blk o)/\(ρ id).blk<w.heap.size/\(lf2 ρ H F w b (ρ id).blk\/lf3 P w b (ρ id).blk)
 apart:∀(id id':Nat) b b',H[id]?=some b->H[id']?=some b'->G2 b=true->G2 b'=true->b.dead=false->b'.dead=false->id≠id'->(ρ id).blk≠(ρ id').blk
theorem Adv.mono(h:Adv W ρ H F w ρ' H1 F' w')(hW:∀k,W k->WB k):Adv WB ρ H F w ρ' H1 F' w' :=
 ⟨⟨h.ext.os,h.ext.tape,h.ext.output,h.ext.size,λk hk hn=>h.ext.block k hk λhw=>hn (hW k hw),h.ext.cells,h.ext.drawn⟩,h.heap,h.more,λb o hf=>(h.new b o hf).imp id (hW b),λid b' hb' hn=>hW _ (h.fresh id b' hb' hn)⟩
section
variable(hA:Adv W' ρ (r5 H) F w ρ' H1 F' w')(ho:tc5 H H1=true)
include hA ho
theorem Ce9:H.length<=H1.length:=by
 rcases Nat.eq_zero_or_pos H.length with h|h
 ·omega
 ·have hlt:H.length-1<(r5 H).length:=by rw[te3];omega
  obtain⟨b',hb',_⟩:=hA.heap (H.length-1) _ (Qdc hlt)
  have:=(Qde.1 hb').1
  omega
theorem gc9 : (C3 H H1).length = H1.length ∧
  (∀(id:Nat) b,H[id]?=some b->G2 b=true->(C3 H H1)[id]?=some b) /\
  (∀(id:Nat),¬ wc6 H id->(C3 H H1)[id]?=H1[id]?/\∀c,H1[id]?=some c->G2 c=false):=Yc4 H H1 (Ce9 hA ho) ho
theorem te4{id:Nat}{b:b9}(hb:(r5 (C3 H H1))[id]?=some b)(hd:b.dead=false):H1[id]?=some b/\¬ wc6 H id:=by
 obtain⟨h1,h2,h3⟩:=gc9 hA ho;obtain⟨k1,k2⟩:=ra7 hb hd;by_cases hs:wc6 H id
 ·obtain⟨c,hc,hcs⟩:=hs;rw[h2 id c hc hcs] at k1;cases k1;rw[hcs] at k2;cases k2
 ·rw[(h3 id hs).1] at k1;exact⟨k1,hs⟩
theorem te5{id:Nat}{b:b9}(hb:H1[id]?=some b)(hd:b.dead=false):(r5 (C3 H H1))[id]?=some b/\ρsp H ρ ρ' id=ρ' id:=by
 obtain⟨h1,h2,h3⟩:=gc9 hA ho;by_cases hs:wc6 H id
 ·obtain⟨c,hc,hcs⟩:=hs;obtain⟨b',hb',hd',_⟩:=hA.heap id _ (Yc3 hc hcs)
  have:b'=b:=Qdk (hb'.symm.trans hb)
  subst this;rw[hd] at hd';cases hd'
 ·obtain⟨k1,k2⟩:=h3 id hs;exact⟨pa0 (k1.trans hb) (k2 b hb),ρsp_off hs⟩
theorem Yc6:sd5 ρ' H1 (ρsp H ρ ρ') (r5 (C3 H H1)):=λid b hb hd=>by
 obtain⟨h1,h2⟩:=te5 hA ho hb hd;exact⟨b,h1,hd,Qdg _,λ_=>⟨h2,rfl,Qdg _⟩⟩
theorem ce5{x:b7}{x':Value}(h:F7 ρ' H1 F' w' x x'):F7 (ρsp H ρ ρ') (r5 (C3 H H1)) F' w' x x':=h.carry (Yc6 hA ho) (λ_ _ h=>h) (λ_ _ _=>rfl)
theorem te6(hH:C4 W' ρ' H1 F' w'):C4 W' (ρsp H ρ ρ') (r5 (C3 H H1)) F' w' :=
 hH.pull (λi=>i) (λi b hb hd=>by
  obtain⟨h1,h2⟩:=te4 hA ho hb hd;exact⟨h1,ρsp_off h2⟩) (λ_ _ _ _ _ _ _ _ e=>e)
theorem ke1{x:b7}{x':Value}(h:XC ρ H F w x x'):XC (ρsp H ρ ρ') (C3 H H1) F' w' x x':=by
 obtain⟨h1,h2,h3⟩:=gc9 hA ho;cases h with
 |n h=>exact .n ((h.adv hA).carry (Yc6 hA ho) (λ_ _ h=>h) (λ_ _ _=>rfl))
 |box id c g b hb hd he =>
  have e:ρsp H ρ ρ' id=ρ id:=ρsp_on ⟨b,hb,tb7 he⟩;rw[<- e];exact .box id c g b (h2 id b hb (tb7 he)) hd he
 |map id c g b t hb hd he =>
  have e:ρsp H ρ ρ' id=ρ id:=ρsp_on ⟨b,hb,tb8 he⟩;rw[<- e];exact .map id c g b t (h2 id b hb (tb8 he)) hd he
theorem Ue8{x:b7}{x':Value}(h:XW ρ H F w x x'):XW (ρsp H ρ ρ') (C3 H H1) F' w' x x':=by
 cases h with
 |w h=>exact .w (ce5 hA ho (h.adv hA))
 |c h=>exact .c (ke1 hA ho h)
theorem te7(hS:Ce8 P WB W' ρ H F w):Ce8 P WB W' (ρsp H ρ ρ') (C3 H H1) F' w':=by
 obtain⟨h1,h2,h3⟩:=gc9 hA ho;have hold:∀(id:Nat) b,(C3 H H1)[id]?=some b->G2 b=true->H[id]?=some b/\wc6 H id:=λid b hb hs=>by
  by_cases hsp:wc6 H id
  ·obtain⟨c,hc,hcs⟩:=hsp;rw[h2 id c hc hcs] at hb;obtain rfl:c=b:=Qdk hb;exact⟨hc,c,hc,hcs⟩
  ·obtain⟨k1,k2⟩:=h3 id hsp;rw[k1] at hb;rw[k2 b hb] at hs;cases hs
 refine⟨λid b hb hs hd=>?_,λid id' b b' hb hb' hs hs' hd hd' hne=>?_⟩
 ·obtain⟨hb0,hsp⟩:=hold id b hb hs;obtain⟨k1,k2,k3,k4,k5⟩:=hS.has id b hb0 hs hd;have hblk:w'.heap[(ρ id).blk]?=w.heap[(ρ id).blk]?:=hA.ext.block _ k4 k2;rw[ρsp_on hsp];refine⟨k1,k2,λo hf=>?_,Qdp k4 hA.ext.size,?_⟩
  ·rcases hA.new _ _ hf with h|h
   ·exact k3 o h
   ·exact k2 h
  ·rcases k5 with⟨e,row,vs,t,m1,m2,m3,m4⟩|⟨t,K,El,fl,es,clk,m1,m2,m3,m4,m5,m6⟩
   ·exact .inl ⟨e,row,vs,t,m1,hblk.trans m2,m3,λc x x' hx hx'=>⟨(m4 c x x' hx hx').1,ke1 hA ho (m4 c x x' hx hx').2⟩⟩
   ·exact .inr ⟨t,K,El,fl,es,clk,m1,m2,m3,hblk.trans m4,m5,m6⟩
 ·obtain⟨hb0,hsp⟩:=hold id b hb hs;obtain⟨hb0',hsp'⟩:=hold id' b' hb' hs';rw[ρsp_on hsp,ρsp_on hsp'];exact hS.apart id id' b b' hb0 hb0' hs hs' hd hd' hne
theorem De0{id:Nat}{b:b9}(hb:(C3 H H1)[id]?=some b)(hs:G2 b=true):H[id]?=some b/\wc6 H id:=by
 obtain⟨h1,h2,h3⟩:=gc9 hA ho;by_cases hsp:wc6 H id
 ·obtain⟨c,hc,hcs⟩:=hsp;rw[h2 id c hc hcs] at hb;obtain rfl:c=b:=Qdk hb;exact⟨hc,c,hc,hcs⟩
 ·obtain⟨k1,k2⟩:=h3 id hsp;rw[k1] at hb;rw[k2 b hb] at hs;cases hs
theorem De1{K:Nat->Prop}(h:∀(id:Nat) b,H[id]?=some b->G2 b=true->b.dead=false->¬ K (ρ id).blk):∀(id:Nat) b,(C3 H H1)[id]?=some b->G2 b=true->b.dead=false->¬ K (ρsp H ρ ρ' id).blk:=λid b hb hs hd=>by
 obtain⟨k1,k2⟩:=De0 hA ho hb hs;rw[ρsp_on k2];exact h id b k1 hs hd
theorem De2(hW:∀k,W' k->WB k):Adv WB ρ H F w (ρsp H ρ ρ') (C3 H H1) F' w':=by
 obtain⟨h1,h2,h3⟩:=gc9 hA ho;have hm:=hA.mono hW;refine⟨hm.ext,λid b hb=>?_,hm.more,hm.new,λid b' hb' hn=>?_⟩
 ·cases hs:G2 b with
  |true=>exact⟨b,h2 id b hb hs,rfl,Qdg _,λ_=>⟨ρsp_on ⟨b,hb,hs⟩,rfl,Qdg _⟩⟩
  |false =>
   have hnsp:¬ wc6 H id:=λ⟨c,hc,hcs⟩=>by
    rw[hb] at hc;cases hc;rw[hs] at hcs;cases hcs
   obtain⟨b',k1,k2,k3,k4⟩:=hm.heap id b (pa0 hb hs);exact⟨b',(h3 id hnsp).1.trans k1,k2,k3,λhg=>by rw[ρsp_off hnsp];exact k4 hg⟩
 ·by_cases hsp:wc6 H id
  ·obtain⟨c,hc,hcs⟩:=hsp;rw[h2 id c hc hcs] at hb';obtain rfl:c=b':=Qdk hb';exact absurd rfl (hn c hc)
  ·rw[ρsp_off hsp];rw[(h3 id hsp).1] at hb';refine hm.fresh id b' hb' λb hb=>?_
   cases h:H[id]? with
   |none =>
    rw[tb6,Qdf,h] at hb;cases hb
   |some c =>
    cases hs:G2 c with
    |true=>exact absurd ⟨c,h,hs⟩ hsp
    |false =>
     rw[pa0 h hs] at hb;cases hb;exact hn b h
end
end
def lc0(WB W':Nat->Prop)(ds:List Deferred)(w:World):Prop:=(∀d∈ds,∃D,d={ target:=.collected D,args:=#[] }/\w.heap[D]?=some (.deferred (some []))/\¬ W' D/\D<w.heap.size/\WB D)/\ds.Nodup
def VR(ρ:Rho)(H:List b9)(F:Fz)(w:World)(a:List b7)(vs:List Value):Prop:=a.length=vs.length/\∀(i:Nat) x x',a[i]?=some x->vs[i]?=some x'->XW ρ H F w x x'
structure C2(P:Program)(WB:Nat->Prop)(K:Nat->Prop)(J:List Value->World->Prop)(ρ0:Rho)(H0:List b9)(F0:Fz)(w0:World)(H:List b9)(ds:List Deferred)(w:World)(ρ:Rho)(F:Fz)(W':Nat->Prop)(up:List Value):Prop where
 sub:∀k,W' k->WB k
 adv:Adv WB ρ0 H0 F0 w0 ρ H F w
 hrel:C4 W' ρ (r5 H) F w
 srel:Ce8 P WB W' ρ H F w
 kept:∀k,K k->¬ W' k/\k<w.heap.size
 far:∀(id:Nat) b,H[id]?=some b->G2 b=true->b.dead=false->¬ K (ρ id).blk
 jot:J up w
 marks:lc0 WB W' ds w
structure I2(P:Program)(WB:Nat->Prop)(K:Nat->Prop)(J:List Value->World->Prop)(n:Nat)(ρ0:Rho)(H0:List b9)(F0:Fz)(w0:World)(s:St)(ac:Act)(w:World)(ρ:Rho)(F:Fz)(W':Nat->Prop)(up:List Value):Prop where
 core:C2 P WB K J ρ0 H0 F0 w0 s.H ac.defers w ρ F W' up
 vals:VR ρ s.H F w s.a (ac.tmps.toList++up)
 size:ac.tmps.size=n
def te8(P:Program)(WB:Nat->Prop)(K:Nat->Prop)(J:List Value->World->Prop)(n:Nat)(ρ0:Rho)(H0:List b9)(F0:Fz)(w0:World)(s:St)(ac:Act)(w:World):Prop :=
 ∃ρ F W' up,I2 P WB K J n ρ0 H0 F0 w0 s ac w ρ F W' up
def Tr(ρ:Rho)(H:List b9)(F:Fz)(w:World)(ρ':Rho)(H':List b9)(F':Fz)(w':World):Prop:=∀x x',XW ρ H F w x x'->XW ρ' H' F' w' x x'
def pc5(K:Nat->Prop)(J:List Value->World->Prop):Prop:=∀up w w',(∀k,K k->w'.heap[k]?=w.heap[k]?)->J up w->J up w'
section
variable{P:Program}{WB K:Nat->Prop}{J:List Value->World->Prop}{ρ ρ0 ρ':Rho}{H H0 H1:List b9}{F F0 F':Fz}{w w0 w':World}{W':Nat->Prop}{up:List Value}{s:St}{ac ac':Act}{E:Env}
theorem lc0.step{ds:List Deferred}(h:lc0 WB W' ds w)(he:Ext W' F w w'):lc0 WB W' ds w':=⟨λd hd=>by
 obtain⟨D,h1,h2,h3,h4,h5⟩:=h.1 d hd;exact⟨D,h1,(he.block D h4 h3).trans h2,h3,Qdp h4 he.size,h5⟩,h.2⟩
theorem C2.step {ds : List Deferred} (h : C2 P WB K J ρ0 H0 F0 w0 H ds w ρ F W' up) (hJ : pc5 K J) (hA : Adv W' ρ (r5 H) F w ρ' H1 F' w') (ho : tc5 H H1 = true) (hH1 : C4 W' ρ' H1 F' w') :
  C2 P WB K J ρ0 H0 F0 w0 (C3 H H1) ds w' (ρsp H ρ ρ') F' W' up/\Tr ρ H F w (ρsp H ρ ρ') (C3 H H1) F' w' :=
 ⟨⟨h.sub,h.adv.trans (De2 hA ho h.sub),te6 hA ho hH1,te7 hA ho h.srel,λk hk=>⟨(h.kept k hk).1,Qdp (h.kept k hk).2 hA.ext.size⟩,
  De1 hA ho h.far,hJ up w w' (λk hk=>hA.ext.block k (h.kept k hk).2 (h.kept k hk).1) h.jot,h.marks.step hA.ext⟩,λ_ _ hx=>Ue8 hA ho hx⟩
structure Nb2(DS:Nat->Prop)(tm:Array Value)(ds:List Deferred)(W:Nat->Prop)(ρ0:Rho)(H0:List b9)(F0:Fz)(w0:World)(s:St)(ac:Act)(w:World):Prop where
 defers:ac.defers=ds
 size:ac.tmps.size=tm.size
 same:∀t,¬ DS t->ac.tmps[t]?=tm[t]?
 rel:∃ρ F,Adv W ρ0 H0 F0 w0 ρ s.H F w/\C4 W ρ s.H F w/\xa1 ρ s.H F w s.a ac.tmps
theorem ua0{ac:Act}(dst:Option Nat)(v:Value):(ac.put dst v).tmps.size=ac.tmps.size:=by cases dst<;>simp[Act.put]
theorem wc7{ac:Act}{dst:Option Nat}{v:Value}{t:Nat}(h:dst≠some t):(ac.put dst v).tmps[t]?=ac.tmps[t]?:=by
 cases dst with
 |none=>rfl
 |some d=>exact Qdn λe=>h (by rw[e])
section
variable{W:Nat->Prop}{DS:Nat->Prop}{tm:Array Value}{ds:List Deferred}{Fe:Fence}{n:Nat}
variable(hF:FW Fe)(hG0:GOk E F0 w0)(hcalls:∀f,g7 E.P E.G f (E.call f))
include hF hG0 hcalls
theorem piM {ops : Array Oper} {o : Oper} {g : Option (Nat × Bool)} {s s' : St} {ac : Act} {i : Nat} {rest : List Nat} {Q : Exit → Act → World → Prop} (hi : ops[i]? = some o) (hg : ba5 ops o = some g) (hDS : ∀ d, o.dst = some d → DS d)
  (hI:Nb2 DS tm ds W ρ0 H0 F0 w0 s ac w) (he:(Ua6 E s ⟨o.dst,g,[],Hb7 E.P ops o⟩).run=some s') (hK:∀ac' w',Nb2 DS tm ds W ρ0 H0 F0 w0 s' ac' w'->wpOpsIn Fe n E.P ops Q rest ac' w'):wpOpsIn Fe n E.P ops Q (i::rest) ac w:=by
 obtain⟨hd,hsz,hsm,ρ,F,hAdv,hH,hA⟩:=hI;simp only[wpOpsIn,hi];have hsame:∀v t,¬ DS t->(ac.put o.dst v).tmps[t]?=tm[t]?:=λv t ht=>(wc7 λe=>ht (hDS t e)).trans (hsm t ht)
 rcases Kc4 hg hA he with⟨hw,he⟩|⟨hw,he⟩
 ·rw[if_pos hw];unfold Nc9 at he;obtain⟨⟨x,H'⟩,h1,h2⟩:=DT.run_bind_some he;have h1':(evalOp E s.a s.H (Hb7 E.P ops o)).run=some (x,H'):=h1;have hop:=Dc7 (ac:={ ac with defers:=[] }) hA hH (hG0.adv hAdv) hcalls h1'
  refine hop.inAny hF n _ _ λx' w' hp=>?_
  obtain⟨ρ',F',a1,a2,a3⟩:=hp;have h2':some (⟨putA s.a o.dst x,H'⟩:St)=some s':=h2;injection h2' with h2';subst h2';exact hK _ _ ⟨(E2 _ _).trans hd,(ua0 _ _).trans hsz,hsame x',ρ',F',hAdv.trans a1,a2,(hA.adv a1).putA o.dst a3⟩
 ·rw[if_neg (by simp[hw])]
  subst he;exact⟨λf _=>hF.fn f,hK _ _ ⟨(E2 _ _).trans hd,(ua0 _ _).trans hsz,hsame _,ρ,F,hAdv,hH,hA.putA o.dst (.ofv _)⟩⟩
theorem tf8 {ops : Array Oper} {Q : Exit → Act → World → Prop} {rest : List Nat} : ∀ (r : List Oper) (k : Nat) (l : List PI) (s s' : St) (ac : Act) (w : World), (∃ t, ops.toList.drop k = r ++ t) → (∀ o ∈ r, ∀ d, o.dst = some d → DS d) → jc1 E.P ops r = some l → Nb2 DS tm ds W ρ0 H0 F0 w0 s ac w → (R4 E l s).run = some s' →
  (∀ac' w',Nb2 DS tm ds W ρ0 H0 F0 w0 s' ac' w'->wpOpsIn Fe n E.P ops Q rest ac' w')->wpOpsIn Fe n E.P ops Q (List.range' k r.length++rest) ac w
 |[],k,l,s,s',ac,w,hr,hDS,hl,hI,he,hQ=>by
  simp only[jc1] at hl;injection hl with hl;subst hl;have he':some s=some s':=he;injection he' with he';subst he';exact hQ ac w hI
 |o::r,k,l,s,s',ac,w,hr,hDS,hl,hI,he,hQ=>by
  obtain⟨t,hr⟩:=hr;obtain⟨g,l',h1,h2,rfl⟩:=sd1 hl;have he':((Ua6 E s ⟨o.dst,g,[],Hb7 E.P ops o⟩).bind (R4 E l')).run=some s':=he;obtain⟨s1,h3,h4⟩:=DT.run_bind_some he';have hi:ops[k]?=some o:=by
   have:(ops.toList.drop k)[0]?=some o:=by rw[hr];rfl
   simpa using this
  rw[show (o::r).length=r.length+1 from rfl,List.range'_succ,List.cons_append]
  refine piM hF hG0 hcalls hi h1 (λd hd=>hDS o (.head _) d hd) hI h3 λac' w' hI'=>?_
  refine tf8 r (k+1) l' s1 s' ac' w' ⟨t,?_⟩ (λo ho=>hDS o (.tail _ ho)) h2 hI' h4 hQ
  rw[<- List.drop_drop,hr];rfl
end
theorem Yb5 (ds : List Nat) : ∀ (a l : List b7) (k i : Nat), (ta1 ds a l k)[i]? = match a[i]? with
  |some x=>some (Bool.rec (motive:=λ_=>b7) x ((l[i]?).getD .unk) (gb3 (k+i) ds))
  |none=>none
 |[],l,k,i=>by simp[ta1]
 |x::a,l,k,i=>by
  have e:ta1 ds (x::a) l k=Bool.rec (motive:=λ_=>b7) x (hdA l) (gb3 k ds)::ta1 ds a (tlA l) (k+1):=rfl
  rw[e];cases i with
  |zero=>cases l<;>rfl
  |succ i =>
   simp only[List.getElem?_cons_succ];rw[Yb5 ds a (tlA l) (k+1) i,show k+1+i=k+(i+1) by omega]
   cases l with
   |nil=>simp[tlA]
   |cons y l=>simp[tlA]
theorem Yb6(ds:List Nat):∀(a l:List b7) (k:Nat),(ta1 ds a l k).length=a.length
 |[],_,_=>rfl
 |x::a,l,k=>congrArg Nat.succ (Yb6 ds a (tlA l) (k+1))
theorem Yc7(k:Nat)(l:List Nat):gb3 k l=true↔k∈l:=by
 induction l with
 |nil=>simp[gb3]
 |cons x l ih =>
  have e:gb3 k (x::l)=Bool.rec (gb3 k l) true (Nat.beq x k):=rfl;rw[e,Qdv];cases h:Nat.beq x k with
  |true=>have:=Qda h;simp[this]
  |false =>
   have:=Nat.ne_of_beq_eq_false h
   show gb3 k l=true↔_;rw[ih];exact⟨.inr,λh=>h.resolve_left λe=>this e.symm⟩
theorem sd9{x:b7}{x':Value}(h:XW ρ H F w x x'):F7 ρ (r5 H) F w (la0 H x) x':=by
 cases h with
 |w h =>
  unfold la0;split
  ·rename_i id i c g;split
   ·rename_i b hb;cases G2 b with
    |true=>exact .unk _
    |false=>exact h
   ·exact .unk _
  ·exact h
 |c h =>
  cases h with
  |n h =>
   unfold la0;split
   ·split
    ·rename_i b hb;cases G2 b with
     |true=>exact .unk _
     |false=>exact .val (.cell h)
    ·exact .unk _
   ·exact .val (.cell h)
  |box id c g b hb hd he =>
   unfold la0;simp only[D9,hb,tb7 he];exact .unk _
  |map id c g b t hb hd he =>
   unfold la0;simp only[D9,hb,tb8 he];exact .unk _
theorem I2.arel{n:Nat}(h:I2 P WB K J n ρ0 H0 F0 w0 s ac w ρ F W' up):xa1 ρ (r5 s.H) F w (o8 (la0 s.H) (q9 s.a n)) ac.tmps:=by
 have hl:=h.vals.1;have hn:=h.size;rw[Qdy,Array.length_toList] at hl;rw[p5,L4];refine⟨by simp;omega,λi x x' hx hx'=>?_⟩
 rw[Qdf] at hx;have hi:i<n:=hn ▸ (Array.getElem?_eq_some_iff.1 hx').1;rw[List.getElem?_take,if_pos hi] at hx;cases hy:s.a[i]? with
 |none=>rw[hy] at hx;cases hx
 |some y =>
  rw[hy] at hx;injection hx with hx;subst hx;refine sd9 (h.vals.2 i y x' hy ?_);rw[Qdi (by rw[Array.length_toList];omega)]
  simpa using hx'
theorem td0 {n : Nat} (hJ : pc5 K J) {dd : List Nat} {s s2 : St} {ac' : Act} (hI : I2 P WB K J n ρ0 H0 F0 w0 s ac w ρ F W' up) (ho : tc5 s.H s2.H = true)
  (hM:Nb2 (·∈dd) ac.tmps ac.defers W' ρ (r5 s.H) F w s2 ac' w'):te8 P WB K J n ρ0 H0 F0 w0 ⟨ta1 dd s.a s2.a 0,C3 s.H s2.H⟩ ac' w'/\ac'.defers=ac.defers/\(∀t,¬ t∈dd->ac'.tmps[t]?=ac.tmps[t]?):=by
 obtain⟨hd,hsz,hsm,ρ',F',hA,hH,hAr⟩:=hM;obtain⟨c1,c2⟩:=hI.core.step hJ hA ho hH;refine⟨⟨_,F',W',up,hd ▸ c1,⟨by rw[Yb6];have:=hI.vals.1;rw[Qdy,Array.length_toList] at this ⊢;omega,λi y y' hy hy'=>?_⟩,hsz.trans hI.size⟩,hd,hsm⟩
 have hn:=hI.size
 simp only at hy
 rw[Yb5] at hy;cases hz:s.a[i]? with
 |none=>rw[hz] at hy;cases hy
 |some z =>
  rw[hz] at hy;injection hy with hy;rw[Qdl] at hy
  rcases Qds i n with hi|hi
  ·rw[Qdi (by rw[Array.length_toList];omega)] at hy'
   have hy':ac'.tmps[i]?=some y':=by simpa using hy'
   cases hm:gb3 i dd with
   |true =>
    rw[hm] at hy;have hy:(s2.a[i]?).getD .unk=y:=hy;cases hq:s2.a[i]? with
    |none=>rw[hq] at hy;subst hy;exact .w (.unk _)
    |some q =>
     rw[hq] at hy;have hy:q=y:=hy;subst hy;exact .w (ce5 hA ho (hAr.2 i q y' hq hy'))
   |false =>
    rw[hm] at hy;have hy:z=y:=hy;subst hy;have hnm:¬ i∈dd:=λh=>by rw[(Yc7 i dd).2 h] at hm;cases hm
    rw[hsm i hnm] at hy';refine c2 _ _ (hI.vals.2 i z y' hz ?_);rw[Qdi (by rw[Array.length_toList];omega)]
    simpa using hy'
  ·have hlen : s2.a.length = n := by
    have:=hAr.1
    omega
   have hnone:s2.a[i]?=none:=Qdh (by omega)
   rw[Qdq (by rw[Array.length_toList];omega)] at hy'
   have hy0:(ac.tmps.toList++up)[i]?=some y':=by
    rw[Qdq (by rw[Array.length_toList];omega)]
    rw[Array.length_toList] at hy' ⊢;rw[hsz] at hy';exact hy'
   rw[hnone] at hy;cases hm:gb3 i dd with
   |true=>rw[hm] at hy;have hy:b7.unk=y:=hy;subst hy;exact .w (.unk _)
   |false=>rw[hm] at hy;have hy:z=y:=hy;subst hy;exact c2 _ _ (hI.vals.2 i z y' hz hy0)
theorem Ue9 {Fe : Fence} {n m k kk : Nat} (hF : FW Fe) (hG0 : GOk E F0 w0) (hcalls : ∀ f, g7 E.P E.G f (E.call f)) (hJ : pc5 K J) {ops : Array Oper} {Q : Exit → Act → World → Prop} {rest : List Nat} {r : List Oper} {l : List PI} {dd : List Nat} {x : e8} {s s' : St}
  (hr:∃t,ops.toList.drop k=r++t) (hDS:∀o∈r,∀d,o.dst=some d->d∈dd) (hl:jc1 E.P ops r=some l) (hI:te8 E.P WB K J n ρ0 H0 F0 w0 s ac w) (he:(Q5 E kk (.mask n dd (.ops l)) s).run=some (x,s'))
  (hQ:∀ac' w',te8 E.P WB K J n ρ0 H0 F0 w0 s' ac' w'->ac'.defers=ac.defers->(∀t,¬ t∈dd->ac'.tmps[t]?=ac.tmps[t]?)->wpOpsIn Fe m E.P ops Q rest ac' w'):x=.normal/\wpOpsIn Fe m E.P ops Q (List.range' k r.length++rest) ac w:=by
 obtain⟨ρ,F,W',up,hI⟩:=hI;have he':((Q5 E kk (.ops l) ⟨o8 (la0 s.H) (q9 s.a n),r5 s.H⟩).bind λr=>.guard (tc5 s.H r.2.H) (.ret (r.1,⟨ta1 dd s.a r.2.a 0,C3 s.H r.2.H⟩))).run=some (x,s'):=he
 obtain⟨⟨x1,s1⟩,h1,h2⟩:=DT.run_bind_some he';obtain⟨ho,h2⟩:=DT.run_guard_some h2;have h2:some (x1,(⟨ta1 dd s.a s1.a 0,C3 s.H s1.H⟩:St))=some (x,s'):=h2;injection h2 with h2;injection h2 with e1 e2;subst e1 e2
 have h1':((R4 E l ⟨o8 (la0 s.H) (q9 s.a n),r5 s.H⟩).bind λs=>.ret (e8.normal,s)).run=some (x1,s1):=h1
 obtain⟨s2,h3,h4⟩:=DT.run_bind_some h1';have h4:some (e8.normal,s2)=some (x1,s1):=h4;injection h4 with h4;injection h4 with e1 e2;subst e1 e2
 refine⟨rfl,?_⟩;have hG:GOk E F w:=hG0.adv hI.core.adv;refine tf8 (DS:=(·∈dd)) (tm:=ac.tmps) (ds:=ac.defers) (W:=W') (ρ0:=ρ) (H0:=r5 s.H) (F0:=F) (w0:=w) hF hG hcalls r k l _ s2 ac w hr hDS hl ⟨rfl,rfl,λ_ _=>rfl,ρ,F,.refl,hI.core.hrel,hI.arel⟩ h3 λac' w' hM=>?_
 obtain⟨k1,k2,k3⟩:=td0 hJ hI ho hM;exact hQ ac' w' k1 k2 k3
end
end Go.Ev
