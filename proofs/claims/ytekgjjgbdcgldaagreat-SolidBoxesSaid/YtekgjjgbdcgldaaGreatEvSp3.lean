/- Own work. -/
import Derived.Test.YtekgjjgbdcgldaaGreatEvDraw2
import Derived.CallsIn
import Derived.RangeFuncIn
import Derived.RangeFuncRecord
import Derived.RangeFuncLeaves
import Derived.ControlIn
import Derived.LoopNIn
import Derived.TacticsIn
set_option linter.all false
noncomputable section
def Qda:=@Nat.eq_of_beq_eq_true
def Qdb:=@Bool.and_eq_true
def Qdc:=@List.getElem?_eq_getElem
def Qdd:=@List.getD_eq_getElem?_getD
def Qde:=@List.getElem?_eq_some_iff
def Qdf:=@List.getElem?_map
def Qdg:=@Nat.le_refl
def Qdh:=@List.getElem?_eq_none
def Qdi:=@List.getElem?_append_left
def Qdj:=@List.drop_eq_getElem_cons
def Qdk:=@Option.some.inj
def Qdl:=@Nat.zero_add
def Qdm:=@Array.all_eq_true_iff_forall_mem
def Qdn:=@Array.getElem?_setIfInBounds_ne
def Qdo:=@List.mem_range
def Qdp:=@Nat.lt_of_lt_of_le
def Qdq:=@List.getElem?_append_right
def Qdr:=@Bool.not_eq_true'
def Qds:=@Nat.lt_or_ge
def Qdt:=@List.getElem?_set_self
def Qdu:=@List.getElem?_set_ne
def Qdv:=@List.mem_cons
def Qdw:=@List.mem_filterMap
def Qdx:=@Nat.le_trans
def Qdy:=@List.length_append
def Qdz:=@Go.Ev.Agr.arg
namespace Go.Ev
open Go
structure td2(E:Env)(ops:Array Oper)(ks:List (Nat×PI))(s:St)(U T:Nat->St):Prop where
 u0:U 0=s
 u:∀j,j<ops.size->Kb1 E (Ub1 ks) U j
 t0:T 0=U ops.size
 t:∀j,j<ops.size->Kb1 E (pc6 ks) T j
def td3(z:List a7):a8:={ et:=0,es:=z.length,elems:=[z],own:=true,dead:=false,g:=0 }
def Ic8:PO->Nat->a7
 |.alloc _,n=>.ptr n 0 0 0
 |_,n=>.sl n 0 0 0
def dd3:PO->a8
 |.alloc z=>td3 z
 |.bslice et es _ _ _=>{ et,es,elems:=[],own:=true,dead:=false,g:=0 }
 |_=>td3 []
theorem ke5(o:PO):(dd3 o).dead=false:=by cases o<;>rfl
theorem bf0(o:PO):(dd3 o).g=0:=by cases o<;>rfl
theorem te1 {tr : Nat} {P : Program} {ops : Array Oper} {j : Nat} (ha : db7 (Ia8 ops j) = true) {E : Env} {a : List a7} {H : List a8} {r : a7 × List a8} (he : (evalOp E a H (U0 tr P ops j)).run = some r) :
  (Ia8 ops j).guard=none/\∀a H,(evalOp E a H (U0 tr P ops j)).run=some (Ic8 (U0 tr P ops j) H.length,H++[dd3 (U0 tr P ops j)]):=by
 unfold db7 at ha;cases hop:(Ia8 ops j).op with
 |alloc t =>
  simp only[hop] at ha;have hg:(Ia8 ops j).guard=none:=by simpa using ha
  cases hz:zeT P t with
  |none =>
   exfalso;have hbad:U0 tr P ops j=.bad:=by simp[U0,Cb3,Fb6,cOp,hop,hz]
   rw[hbad] at he;cases he
  |some z =>
   have hpo:U0 tr P ops j=.alloc z:=by simp[U0,Cb3,Fb6,cOp,hop,hz]
   refine⟨hg,λa H=>?_⟩
   rw[hpo];simp only[evalOp,DT.run_ret,l9,ta1,J1,Ic8,dd3,td3]
 |buildSlice t n ps =>
  simp only[hop] at ha
  split at ha
  ·rename_i hps;have hg:(Ia8 ops j).guard=none:=by simpa using ha
   have hpo:U0 tr P ops j=.bad\/∃e es,U0 tr P ops j=.bslice e es 0 [] []:=by
    simp only[U0,Fb6,cOp,hop];cases P.underlying t with
    |none=>exact .inl rfl
    |some u =>
     cases u with
     |slice e =>
      simp only[hps];cases zeT P e with
      |none=>exact .inl rfl
      |some z =>
       simp only[ab4];split
       ·exact .inr ⟨e,szT P e,by simp[Cb3]⟩
       ·exact .inl rfl
     |_=>exact .inl rfl
   rcases hpo with hpo|⟨e,es,hpo⟩
   ·rw[hpo] at he;cases he
   ·refine⟨hg,λa H=>?_⟩
    rw[hpo];simp only[evalOp,o5,List.map_nil,Pb5,freezeCells,DT.run_ret,l9,ta1,J1,Ic8,dd3,Ea0]
  ·cases ha
 |_=>simp[hop] at ha
theorem rc5(a:List a7)(dst:Option Nat)(x:a7):(putA a dst x).length=a.length:=by
 rw[cc9];cases dst<;>simp
theorem rc6{a:List a7}{dst:Option Nat}{x:a7}{t:Nat}(h:dst≠some t):(putA a dst x)[t]?=a[t]?:=by
 rw[cc9];cases dst with
 |none=>rfl
 |some d=>simp only;rw[Qdu (λe=>h (by rw[e]))]
theorem Nc2{a:List a7}{d:Nat}{x:a7}(h:d<a.length):(putA a (some d) x)[d]?=some x:=by
 rw[cc9];exact Qdt h
section
variable{tr:Nat}{E:Env}{ops:Array Oper}{M:List Nat}{ks:List (Nat×PI)}{s:St}{U T:Nat->St}
variable(hD:DC tr E.P ops M ks)(hT:td2 E ops ks s U T)
include hD
theorem Fb9{i j:Nat}(hj:j<ops.size)(hi:i<ops.size)(hb:y9 M i j=true):i<j:=by
 refine Fc9 hD.rows (· < j) (λm o ho hm i hi=>?_) j _ (wa2 hj) (λi hi=>rc2 hD.rows (wa2 hj) hi) i hi hb
 have:=rc2 hD.rows ho hi
 omega
theorem Ud2{j:Nat}(hj:j<ops.size)(h:N2 tr E.P ops j=0):Ub1 ks j=some (lc1 tr E.P ops M j)/\pc6 ks j=none:=by
 unfold Ub1 pc6;rw[hD.at' j hj,h];exact⟨rfl,rfl⟩
theorem te2{j:Nat}(hj:j<ops.size)(h:N2 tr E.P ops j≠0):Ub1 ks j=none/\pc6 ks j=some (lc1 tr E.P ops M j):=by
 unfold Ub1 pc6;rw[hD.at' j hj]
 rcases Vb2 (tr:=tr) (P:=E.P) (ops:=ops) j with h'|h'|h'
 ·exact absurd h' h
 ·rw[h'];exact⟨rfl,rfl⟩
 ·rw[h'];exact⟨rfl,rfl⟩
include hT
theorem td4{j:Nat}(hj:j<ops.size)(h:N2 tr E.P ops j≠0):U (j+1)=U j:=by
 have:=hT.u j hj
 unfold Kb1 at this;rw[(te2 hD hj h).1] at this;exact this
theorem rc7{j:Nat}(hj:j<ops.size)(h:N2 tr E.P ops j=0):T (j+1)=T j:=by
 have:=hT.t j hj
 unfold Kb1 at this;rw[(Ud2 hD hj h).2] at this;exact this
theorem zb8 {j : Nat} (hj : j < ops.size) (h : N2 tr E.P ops j = 0) : ∃ d, (Ia8 ops j).guard = none ∧ ma5 ops j = some d ∧ (∀ a H, (evalOp E a H (U0 tr E.P ops j)).run = some (Ic8 (U0 tr E.P ops j) H.length, H ++ [dd3 (U0 tr E.P ops j)])) ∧
  U (j+1)=⟨putA (U j).a (some d) (Ic8 (U0 tr E.P ops j) (U j).H.length),(U j).H++[dd3 (U0 tr E.P ops j)]⟩:=by
 have hst:=hT.u j hj;unfold Kb1 at hst;rw[(Ud2 hD hj h).1] at hst;obtain⟨d,hd⟩:=hD.allocDst hj h;have ha:=Rc6 h;have hg:(Ia8 ops j).guard=none:=by
  unfold db7 at ha
  split at ha
  ·simpa using ha
  ·split at ha
   ·simpa using ha
   ·cases ha
  ·cases ha
 have hgd:lc0 ops j=none:=by simp[lc0,ba1,hg]
 have hhide:(lc1 tr E.P ops M j).hide=[]:=by simp[lc1,h]
 obtain⟨b,h1,h2,h3⟩:=rc3 hst;have hb:b=true:=by
  have:Ic7 E (U j).a (lc0 ops j)=some b:=h1
  rw[hgd] at this;injection this with this;exact this.symm
 obtain⟨x,H',h4,h5⟩:=Ed9 (h2 hb);rw[hhide] at h4 h5;have h4':(evalOp E (U j).a (U j).H (U0 tr E.P ops j)).run=some (x,H'):=h4;obtain⟨_,hev⟩:=te1 ha h4';refine⟨d,hg,hd,hev,?_⟩;rw[hev] at h4';injection h4' with h4';injection h4' with e1 e2;subst e1 e2;rw[h5];show (⟨putA (U j).a (ma5 ops j) _,_⟩:St)=_;rw[hd];rfl
theorem td5 {j : Nat} (hj : j < ops.size) (h : N2 tr E.P ops j ≠ 0) : ∃ b, Ic7 E (T j).a (lc0 ops j) = some b ∧
  (b=true->∃x H',(evalOp E (T j).a (jc7 (T j).H (jb6 (T j).a (lc1 tr E.P ops M j).hide)) (U0 tr E.P ops j)).run=some (x,H') /\
   T (j+1)=⟨putA (T j).a (ma5 ops j) x,jb7 (T j).H H' (jb6 (T j).a (lc1 tr E.P ops M j).hide)⟩) /\
  (b=false->T (j+1)=⟨putA (T j).a (ma5 ops j) (.v (.tuple #[])),(T j).H⟩):=by
 have hst:=hT.t j hj;unfold Kb1 at hst;rw[(te2 hD hj h).2] at hst;obtain⟨b,h1,h2,h3⟩:=rc3 hst;exact⟨b,h1,λhb=>Ed9 (h2 hb),h3⟩
theorem td6{t:Nat}:∀(d u:Nat),u+d<=ops.size->(∀j,u<=j->j<u+d->N2 tr E.P ops j=0->ma5 ops j≠some t)->(U (u+d)).a[t]?=(U u).a[t]?
 |0,u,_,_=>rfl
 |d+1,u,hb,hn=>by
  have ih:=td6 d u (by omega) λj h1 h2=>hn j h1 (by omega)
  rw[<- ih];show (U (u+d+1)).a[t]?=_;by_cases hk:N2 tr E.P ops (u+d)=0
  ·obtain⟨d',_,hd',_,hU⟩:=zb8 hD hT (j:=u+d) (by omega) hk
   rw[hU];exact rc6 (hd' ▸ hn (u+d) (by omega) (by omega) hk)
  ·rw[td4 hD hT (by omega) hk]
theorem lc2{t:Nat}:∀(d u:Nat),u+d<=ops.size->(∀j,u<=j->j<u+d->N2 tr E.P ops j≠0->ma5 ops j≠some t)->(T (u+d)).a[t]?=(T u).a[t]?
 |0,u,_,_=>rfl
 |d+1,u,hb,hn=>by
  have ih:=lc2 d u (by omega) λj h1 h2=>hn j h1 (by omega)
  rw[<- ih];show (T (u+d+1)).a[t]?=_;by_cases hk:N2 tr E.P ops (u+d)=0
  ·rw[rc7 hD hT (by omega) hk]
  ·obtain⟨b,h1,h2,h3⟩:=td5 hD hT (j:=u+d) (by omega) hk
   have hne:=hn (u+d) (by omega) (by omega) hk
   cases b with
   |true =>
    obtain⟨x,H',_,h5⟩:=h2 rfl;rw[h5];exact rc6 hne
   |false=>rw[h3 rfl];exact rc6 hne
theorem Vb3:∀j,j<=ops.size->(U j).a.length=s.a.length/\(T j).a.length=s.a.length:=by
 have hu:∀j,j<=ops.size->(U j).a.length=s.a.length:=by
  intro j
  induction j with
  |zero=>intro _;rw[hT.u0]
  |succ j ih =>
   intro hj;by_cases hk:N2 tr E.P ops j=0
   ·obtain⟨d',_,hd',_,hU⟩:=zb8 hD hT (j:=j) (by omega) hk
    rw[hU];simp only[rc5];exact ih (by omega)
   ·rw[td4 hD hT (by omega) hk];exact ih (by omega)
 intro j
 induction j with
 |zero=>intro _;exact⟨hu 0 (by omega),by rw[hT.t0];exact hu _ (Qdg _)⟩
 |succ j ih =>
  intro hj;refine⟨hu _ hj,?_⟩;by_cases hk:N2 tr E.P ops j=0
  ·rw[rc7 hD hT (by omega) hk];exact (ih (by omega)).2
  ·obtain⟨b,h1,h2,h3⟩:=td5 hD hT (j:=j) (by omega) hk
   cases b with
   |true =>
    obtain⟨x,H',_,h5⟩:=h2 rfl;rw[h5];simp only[rc5];exact (ih (by omega)).2
   |false=>rw[h3 rfl];simp only[rc5];exact (ih (by omega)).2
theorem te3{j:Nat}(hj:j<ops.size)(hl:Jb6 (U0 tr E.P ops j)=false):Agr (T j).a (T ops.size).a (kc0 (lc0 ops j)++zb5 (U0 tr E.P ops j)):=λt ht=>by
 have:=lc2 hD hT (t:=t) (ops.size-j) j (by omega) λi h1 h2 hk he=>by
  have hi:i<ops.size:=by omega
  rcases (hD.slots hi hj he).1 ht with hb|hb
  ·have:=Fb9 hD hj hi hb
   omega
  ·rw[hl] at hb;cases hb.1
 rw[show j+(ops.size-j)=ops.size by omega] at this
 exact this.symm
theorem Ve2{j d:Nat}(hj:j<ops.size)(hd:ma5 ops j=some d):(T ops.size).a[d]?=(T (j+1)).a[d]?:=by
 have:=lc2 hD hT (t:=d) (ops.size-(j+1)) (j+1) (by omega) λi h1 h2 hk he=>by
  have hi:i<ops.size:=by omega
  rcases (hD.slots hi hj he).2 with h|h
  ·omega
  ·exact h hd
 rw[show j+1+(ops.size-(j+1))=ops.size by omega] at this
 exact this
theorem td7{j d v:Nat}(hj:j<ops.size)(h:N2 tr E.P ops j=0)(hd:ma5 ops j=some d)(hlt:d<s.a.length)(hv:v<=ops.size):(T v).a[d]?=some (Ic8 (U0 tr E.P ops j) (U j).H.length):=by
 have hne:∀i,i<ops.size->i≠j->ma5 ops i≠some d:=λi hi hij he=>by
  rcases (hD.slots hi hj he).2 with h|h
  ·exact hij h
  ·exact h hd
 have h1:=lc2 hD hT (t:=d) v 0 (by omega) λi _ h2 hk=>hne i (by omega) λe=>hk (e ▸ h)
 rw[Qdl] at h1;rw[h1,hT.t0];have h2:=td6 hD hT (t:=d) (ops.size-(j+1)) (j+1) (by omega) λi h3 h4 _=>hne i (by omega) (by omega)
 rw[show j+1+(ops.size-(j+1))=ops.size by omega] at h2
 rw[h2];obtain⟨d',_,hd',_,hU⟩:=zb8 hD hT hj h
 have:d'=d:=Qdk (hd'.symm.trans hd)
 subst this;rw[hU];exact Nc2 (by rw[(Vb3 hD hT j (by omega)).1];exact hlt)
theorem td8:∀(d u:Nat),u+d<=ops.size->∃l,(U (u+d)).H=(U u).H++l
 |0,u,_=>⟨[],by simp⟩
 |d+1,u,hb=>by
  obtain⟨l,hl⟩:=td8 d u (by omega)
  show ∃l,(U (u+d+1)).H=_;by_cases hk:N2 tr E.P ops (u+d)=0
  ·obtain⟨d',_,hd',_,hU⟩:=zb8 hD hT (j:=u+d) (by omega) hk
   exact⟨l++[dd3 (U0 tr E.P ops (u+d))],by rw[hU,hl,List.append_assoc]⟩
  ·exact⟨l,by rw[td4 hD hT (by omega) hk,hl]⟩
theorem jf5{i j:Nat}(hij:i<j)(hj:j<=ops.size)(hk:N2 tr E.P ops i=0):(U i).H.length<(U j).H.length:=by
 obtain⟨d',_,hd',_,hU⟩:=zb8 hD hT (j:=i) (by omega) hk
 obtain⟨l,hl⟩:=td8 hD hT (j-(i+1)) (i+1) (by omega)
 rw[show i+1+(j-(i+1))=j by omega] at hl
 rw[hl,hU];simp
theorem Ud3{j:Nat}(hj:j<=ops.size):s.H.length<=(U j).H.length/\∀i,i<s.H.length->(U j).H[i]?=s.H[i]?:=by
 obtain⟨l,hl⟩:=td8 hD hT j 0 (by omega)
 rw[Qdl,hT.u0] at hl;rw[hl];exact⟨by simp,λi hi=>Qdi hi⟩
theorem Ud4{j:Nat}(hj:j<ops.size)(hk:N2 tr E.P ops j=0):(T 0).H[(U j).H.length]?=some (dd3 (U0 tr E.P ops j)):=by
 obtain⟨d',_,hd',_,hU⟩:=zb8 hD hT hj hk;obtain⟨l,hl⟩:=td8 hD hT (ops.size-(j+1)) (j+1) (by omega)
 rw[show j+1+(ops.size-(j+1))=ops.size by omega,hU] at hl
 rw[hT.t0,hl];simp
theorem te4:∀(v:Nat),v<=ops.size->∀id,s.H.length<=id->id<(U v).H.length->∃j,j<v/\N2 tr E.P ops j=0/\id=(U j).H.length
 |0,_,id,h1,h2=>by rw[hT.u0] at h2;omega
 |v+1,hv,id,h1,h2=>by
  by_cases hk:N2 tr E.P ops v=0
  ·obtain⟨d',_,hd',_,hU⟩:=zb8 hD hT (j:=v) (by omega) hk
   rw[hU] at h2
   simp at h2
   by_cases he:id<(U v).H.length
   ·obtain⟨j,h3,h4,h5⟩:=te4 v (by omega) id h1 he
    exact⟨j,by omega,h4,h5⟩
   ·exact⟨v,by omega,hk,by omega⟩
  ·rw[td4 hD hT (by omega) hk] at h2
   obtain⟨j,h3,h4,h5⟩:=te4 v (by omega) id h1 h2
   exact⟨j,by omega,h4,h5⟩
end
section
variable{E:Env}{a a':List a7}
theorem rc8{o:PO}(h:Agr a a' (zb5 o)):Ra3 E a o=Ra3 E a' o:=by
 cases o with
 |load ks n agg x=>simp only[Ra3,Qdz (E:=E) (x:=x) h]
 |idxS es x i=>simp only[Ra3,Qdz (E:=E) h.left]
 |slice es x lo hi=>simp only[Ra3,Qdz (E:=E) h.left.left]
 |_=>rfl
theorem dd4{o:PO}(h:Agr a a' (zb5 o)):T7 E a o=T7 E a' o:=by
 cases o with
 |store n x y=>simp only[T7,Qdz (E:=E) h.left]
 |append et es by' x y=>simp only[T7,Qdz (E:=E) h.left]
 |copy es x y=>simp only[T7,Qdz (E:=E) h.left]
 |apre es x y=>simp only[T7,Qdz (E:=E) h.left]
 |clr es z x=>simp only[T7,Qdz (E:=E) h]
 |call f xs=>simp only[T7,Agr.args (E:=E) h]
 |calld x xs=>simp only[T7,Agr.args (E:=E) h.right,Qdz (E:=E) h.left]
 |_=>rfl
theorem rc9{o:PO}(h:Jb6 o=true):Ra3 E a o=[]:=by cases o<;>first | rfl | cases h
theorem hc3{o:PO}(h:Jb6 o=true):T7 E a o=[]:=by cases o<;>first | rfl | cases h
theorem Rc7:∀{l:List (PO×PO)},db5 E a l=true->∀{p:PO×PO},p∈l->∀id∈Ra3 E a p.1,id∉T7 E a p.2
 |[],_,p,hp=>by cases hp
 |q::l,h,p,hp=>by
  have e:db5 E a (q::l)=Bool.rec false (db5 E a l) (rb3 (Ra3 E a q.1) (T7 E a q.2)):=rfl;rw[e] at h;cases hq:rb3 (Ra3 E a q.1) (T7 E a q.2) with
  |false=>rw[hq] at h;cases h
  |true =>
   rw[hq] at h
   rcases Qdv.1 hp with rfl|hp
   ·exact zc1 hq
   ·exact Rc7 h hp
theorem Rc8:∀{l:List PI},bc8 a l=true->∀p∈l,∀d,p.dst=some d->d<a.length
 |[],_,p,hp=>by cases hp
 |q::l,h,p,hp=>λd hd=>by
  have e:bc8 a (q::l)=(match q.dst with
   |some d=>match nth a d with
    |some _=>bc8 a l
    |none=>false
   |none=>false):=rfl
  rw[e] at h;cases hq:q.dst with
  |none=>simp[hq] at h
  |some d' =>
  simp only[hq,D6] at h;cases hn:a[d']? with
  |none=>simp[hn] at h
  |some x =>
  simp only[hn] at h
  rcases Qdv.1 hp with rfl|hp
  ·have:d'=d:=Qdk (hq.symm.trans hd)
   subst this;exact (Qde.1 hn).1
  ·exact Rc8 h p hp d hd
theorem Rc9{tr:Nat}{P:Program}{ops:Array Oper}{j:Nat}:N2 tr P ops j=0↔db7 (Ia8 ops j)=true:=by
 refine⟨Rc6,λh=>?_⟩
 unfold N2 gc5;rw[if_pos h]
end
section
variable{tr:Nat}{E:Env}{ops:Array Oper}{M:List Nat}{ks:List (Nat×PI)}{s:St}{U T:Nat->St}
variable(hD:DC tr E.P ops M ks)(hT:td2 E ops ks s U T)(hin:∀j,j<ops.size->N2 tr E.P ops j=0->∀d,ma5 ops j=some d->d<s.a.length)
include hD hT
theorem te5{j:Nat}(hj:j<ops.size):Ra3 E (T j).a (U0 tr E.P ops j)=Ra3 E (T ops.size).a (U0 tr E.P ops j):=by
 cases hl:Jb6 (U0 tr E.P ops j) with
 |true=>rw[rc9 hl,rc9 hl]
 |false=>exact rc8 (te3 hD hT hj hl).right
theorem ke6{j:Nat}(hj:j<ops.size):T7 E (T j).a (U0 tr E.P ops j)=T7 E (T ops.size).a (U0 tr E.P ops j):=by
 cases hl:Jb6 (U0 tr E.P ops j) with
 |true=>rw[hc3 hl,hc3 hl]
 |false=>exact dd4 (te3 hD hT hj hl).right
theorem Nc3 {j : Nat} (hj : j < ops.size) (h : N2 tr E.P ops j = 1) : ∃ b x, Ic7 E (T j).a (lc0 ops j) = some b ∧ T (j + 1) = ⟨putA (T j).a (ma5 ops j) x, (T j).H⟩ ∧
  (b=true->(evalOp E (T j).a (T j).H (U0 tr E.P ops j)).run=some (x,(T j).H))/\(b=false->x=.v (.tuple #[])):=by
 obtain⟨b,h1,h2,h3⟩:=td5 hD hT hj (by omega)
 have hh:(lc1 tr E.P ops M j).hide=[]:=by simp[lc1,h]
 cases b with
 |true =>
  obtain⟨x,H',h4,h5⟩:=h2 rfl;rw[hh] at h4 h5;have h4':(evalOp E (T j).a (T j).H (U0 tr E.P ops j)).run=some (x,H'):=h4;have he:=(qc8 (Fd0 h) h4').1;subst he;exact⟨true,x,h1,h5,λ_=>h4',λh=>by cases h⟩
 |false=>exact⟨false,_,h1,h3 rfl,λh=>(by cases h),λ_=>rfl⟩
theorem Ud5:∀(d u:Nat),u+d<=ops.size->(∀j,u<=j->j<u+d->N2 tr E.P ops j≠2)->(T (u+d)).H=(T u).H
 |0,u,_,_=>rfl
 |d+1,u,hb,hn=>by
  have ih:=Ud5 d u (by omega) λj h1 h2=>hn j h1 (by omega)
  rw[<- ih];show (T (u+d+1)).H=_
  rcases Vb2 (tr:=tr) (P:=E.P) (ops:=ops) (u+d) with hk|hk|hk
  ·rw[rc7 hD hT (by omega) hk]
  ·obtain⟨b,x,_,h2,_⟩:=Nc3 hD hT (j:=u+d) (by omega) hk
   rw[h2]
  ·exact absurd hk (hn (u+d) (by omega) (by omega))
include hin
theorem Ke1{j:Nat}(hj:j<ops.size)(h:N2 tr E.P ops j=2)(id:Nat):id∈jb6 (T j).a (lc1 tr E.P ops M j).hide↔∃b,b<ops.size/\N2 tr E.P ops b=0/\y9 M b j=false/\id=(U b).H.length:=by
 have hh:(lc1 tr E.P ops M j).hide=yc6 ops M j:=by simp[lc1,h]
 rw[hh];unfold jb6;rw[o5,List.mem_map];constructor
 ·rintro⟨d,hd,he⟩;unfold yc6 at hd;rw[Qdw] at hd;obtain⟨b,hb,hb2⟩:=hd;have hb1:=Qdo.1 hb;simp only[wa2 hb1] at hb2
  split at hb2
  ·rename_i hc;rw[Qdb,Qdr] at hc;have hk:N2 tr E.P ops b=0:=Rc9.2 hc.1;have ha:=td7 hD hT hb1 hk hb2 (hin b hb1 hk d hb2) (v:=j) (by omega)
   rw[D6,ha] at he;exact⟨b,hb1,hk,hc.2,by rw[<- he];cases U0 tr E.P ops b<;>rfl⟩
  ·cases hb2
 ·rintro⟨b,hb1,hk,hc,rfl⟩;obtain⟨d,hd⟩:=hD.allocDst hb1 hk;refine⟨d,?_,?_⟩
  ·unfold yc6;rw[Qdw];refine⟨b,Qdo.2 hb1,?_⟩;have h2:(db7 (Ia8 ops b)&&!y9 M b j)=true:=by rw[Rc9.1 hk,hc];rfl
   simp only[wa2 hb1,h2,if_true];exact hd
  ·rw[D6,td7 hD hT hb1 hk hd (hin b hb1 hk d hd) (v:=j) (by omega)]
   cases U0 tr E.P ops b<;>rfl
theorem td9 {j : Nat} (hj : j < ops.size) (h : N2 tr E.P ops j = 2) : ∃ b x, Ic7 E (T j).a (lc0 ops j) = some b ∧ (T (j + 1)).a = putA (T j).a (ma5 ops j) x ∧
  (b=true->∃hid H',(∀id,id∈hid↔∃b,b<ops.size/\N2 tr E.P ops b=0/\y9 M b j=false/\id=(U b).H.length) /\
   (evalOp E (T j).a (ia6 (T j).H (·∈hid)) (U0 tr E.P ops j)).run=some (x,H')/\(T (j+1)).H=jb7 (T j).H H' hid) /\
  (b=false->x=.v (.tuple #[])/\(T (j+1)).H=(T j).H):=by
 obtain⟨b,h1,h2,h3⟩:=td5 hD hT hj (by omega)
 cases b with
 |true =>
  obtain⟨x,H',h4,h5⟩:=h2 rfl;rw[ke4] at h4;exact⟨true,x,h1,by rw[h5],λ_=>⟨_,H',Ke1 hD hT hin hj h,h4,by rw[h5]⟩,λh=>by cases h⟩
 |false=>exact⟨false,_,h1,by rw[h3 rfl],λh=>(by cases h),λ_=>⟨rfl,by rw[h3 rfl]⟩⟩
omit hD hT hin in
theorem ld7{H:List a8}{l:List Nat}(hb:∀id∈l,id<H.length):K4 (·∈l) (ia6 H (·∈l)) (ia6 H (·∈l)) (ia6 H (·∈l)) (ia6 H (·∈l)) :=
 ⟨rfl,λ_ _=>rfl,λid b hD hb=>by
  rw[ta2 hD] at hb;simp only[Option.map_eq_some_iff] at hb;obtain⟨c,_,rfl⟩:=hb
  rfl,λ_ _=>rfl,λ_ _=>rfl,λid h=>by rw[qb6];exact hb id h⟩
theorem ud0{b:Nat}(hb:b<ops.size)(hk:N2 tr E.P ops b=0):∀(v:Nat),v<=ops.size->(∀h,h<v->N2 tr E.P ops h=2->y9 M b h=false)->(T v).H[(U b).H.length]?=(T 0).H[(U b).H.length]?
 |0,_,_=>rfl
 |v+1,hv,hn=>by
  have ih:=ud0 hb hk v (by omega) λh h1=>hn h (by omega)
  rw[<- ih]
  rcases Vb2 (tr:=tr) (P:=E.P) (ops:=ops) v with h0|h0|h0
  ·rw[rc7 hD hT (by omega) h0]
  ·obtain⟨b,x,_,h2,_⟩:=Nc3 hD hT (j:=v) (by omega) h0
   rw[h2]
  ·obtain⟨bb,x,h1,_,h3,h4⟩:=td9 hD hT hin (j:=v) (by omega) h0
   cases bb with
   |false=>rw[(h4 rfl).2]
   |true =>
    obtain⟨hid,H',h5,h6,h7⟩:=h3 rfl;rw[h7]
    -- every jb6 block stands in the heap
    have hall:∀id∈hid,id<(T v).H.length:=λid hid'=>by
     obtain⟨b',k1,k2,k3,rfl⟩:=(h5 id).1 hid'
     have:=ud0 k1 k2 v (by omega) λh h1 h2=>by
      cases hc:y9 M b' h with
      |false=>rfl
      |true =>
       rw[(hD.chain h1 (by omega) h2 h0).2 b' hc] at k3
       cases k3
     have hz:=Ud4 hD hT k1 k2;rw[hz] at this;exact (Qde.1 this).1
    have hm:(U b).H.length∈hid:=(h5 _).2 ⟨b,hb,hk,hn v (by omega) h0,rfl⟩
    obtain⟨H2',_,hM⟩:=(ld7 hall).evalOp (E:=E) (a:=(T v).a) (rc4 h0) h6;refine zc4 hm (hall _ hm) ?_;exact hM.bound _ hm
theorem te6{j:Nat}(hj:j<ops.size)(h0:N2 tr E.P ops j=2){b:Nat}(k1:b<ops.size)(k2:N2 tr E.P ops b=0)(k3:y9 M b j=false):(U b).H.length<(T j).H.length:=by
 have:=ud0 hD hT hin k1 k2 j (by omega) λh h1 h2=>by
  cases hc:y9 M b h with
  |false=>rfl
  |true =>
   rw[(hD.chain h1 hj h2 h0).2 b hc] at k3;cases k3
 have hz:=Ud4 hD hT k1 k2;rw[hz] at this;exact (Qde.1 this).1
theorem Ke2{j:Nat}(hj:j<ops.size){id:Nat}(hn:N2 tr E.P ops j=2->id∉T7 E (T ops.size).a (U0 tr E.P ops j)):S8 (T j).H (T (j+1)).H id:=by
 rcases Vb2 (tr:=tr) (P:=E.P) (ops:=ops) j with h0|h0|h0
 ·rw[rc7 hD hT hj h0];exact .refl _ _
 ·obtain⟨b,x,_,h2,_⟩:=Nc3 hD hT hj h0;rw[h2];exact .refl _ _
 ·obtain⟨bb,x,h1,_,h3,h4⟩:=td9 hD hT hin hj h0;cases bb with
  |false=>rw[(h4 rfl).2];exact .refl _ _
  |true =>
   obtain⟨hid,H',h5,h6,h7⟩:=h3 rfl;rw[h7];have hall:∀id∈hid,id<(T j).H.length:=λid hid'=>by
    obtain⟨b',k1,k2,k3,rfl⟩:=(h5 id).1 hid';exact te6 hD hT hin hj h0 k1 k2 k3
   obtain⟨H2',_,hM⟩:=(ld7 hall).evalOp (E:=E) (a:=(T j).a) (rc4 h0) h6;intro b hb;by_cases hm:id∈hid
   ·refine⟨b,?_,.refl b⟩;rw[zc4 hm (hall _ hm) (hM.bound _ hm)];exact hb
   ·rw[Rc3 hm];have hslots:T7 E (T j).a (U0 tr E.P ops j)=T7 E (T ops.size).a (U0 tr E.P ops j):=ke6 hD hT hj;exact td1 (rc4 h0) h6 (by rw[hslots];exact hn h0) b (by rw[S9 (D:=(·∈hid)) hm];exact hb)
theorem Ud6{id:Nat}:∀(d u:Nat),u+d<=ops.size->(∀j,u<=j->j<u+d->N2 tr E.P ops j=2->id∉T7 E (T ops.size).a (U0 tr E.P ops j))->S8 (T u).H (T (u+d)).H id
 |0,u,_,_=>.refl _ _
 |d+1,u,hb,hn =>
  (Ud6 d u (by omega) λj h1 h2=>hn j h1 (by omega)).trans (Ke2 hD hT hin (j:=u+d) (by omega) (hn (u+d) (by omega) (by omega)))
end
section
variable{W:Nat->Prop}{ρ ρ':Rho}{H H':List a8}{F F':Fz}{w w':World}
def ld8(ρ:Rho)(H:List a8)(ρ':Rho)(H':List a8):Prop:=∀(id:Nat) b,H[id]?=some b->b.dead=false->∃b',H'[id]?=some b'/\b'.dead=false/\b.g<=b'.g/\(b'.g=b.g->ρ' id=ρ id/\b'.es=b.es/\b.elems.length<=b'.elems.length)
section
variable(hk:ld8 ρ H ρ' H')(hm:∀b o,F b o->F' b o)(hc:∀b o,F b o->w'.cell? ⟨b,o,none⟩=w.cell? ⟨b,o,none⟩)
include hk hm hc
theorem ea7.carry{x:a7}{x':Value}(h:ea7 ρ H F w x x'):ea7 ρ' H' F' w' x x':=by
 cases h with
 |mem h=>exact .mem (h.adv hm hc)
 |v=>exact .v _
 |ptr id i c g a b hb hd hg h =>
  obtain⟨b',hb',hd',hg',e⟩:=hk id b hb hd;refine .ptr id i c g a b' hb' hd' (Qdx hg hg') λhge=>?_
  have hbg:b'.g=b.g:=by omega
  obtain⟨e1,e2,e3⟩:=e hbg;rw[e1,e2];exact h (by omega)
 |sl id off n g a cap b hb hd hg hn hs hm h =>
  obtain⟨b',hb',hd',hg',e⟩:=hk id b hb hd;refine .sl id off n g a cap b' hb' hd' (Qdx hg hg') hn hs hm λhge=>?_
  have hbg:b'.g=b.g:=by omega
  obtain⟨e1,e2,e3⟩:=e hbg;obtain⟨h1,h2,h3⟩:=h (by omega)
  rw[e1,e2];exact⟨h1,h2,Qdx h3 e3⟩
 |tptr cs a vs hs hF hw hr=>exact .tptr cs a vs hs (λc hlt=>hm _ _ (hF c hlt)) (λc hlt=>(hc _ _ (hF c hlt)).trans (hw c hlt)) (λc hlt=>(hr c hlt).adv hm hc)
 |unk x'=>exact .unk x'
theorem fa7.carry{x:a7}{x':Value}(h:fa7 ρ H F w x x'):fa7 ρ' H' F' w' x x':=by
 cases h with
 |cell h=>exact .cell (h.carry hk hm hc)
 |agg cs vs hl h=>exact .agg cs vs hl λi x x' hx hx'=>(h i x x' hx hx').carry hk hm hc
 |fn f caps vs hl h=>exact .fn f caps vs hl λi x x' hx hx'=>(h i x x' hx hx').carry hk hm hc
theorem G0.carry{x:a7}{x':Value}(h:G0 ρ H F w x x'):G0 ρ' H' F' w' x x':=by
 cases h with
 |val h=>exact .val (h.carry hk hm hc)
 |tup xs vs hl h=>exact .tup xs vs hl λi x x' hx hx'=>(h i x x' hx hx').carry hk hm hc
theorem wa1.carry{a:List a7}{vs:Array Value}(h:wa1 ρ H F w a vs):wa1 ρ' H' F' w' a vs :=
 ⟨h.1,λi x x' hx hx'=>(h.2 i x x' hx hx').carry hk hm hc⟩
end
end
section
variable{W:Nat->Prop}{ρ0:Rho}{H0:List a8}{F0:Fz}{w0 w:World}
variable{tr:Nat}{E:Env}{ops:Array Oper}{M:List Nat}{ks:List (Nat×PI)}{s:St}{U T:Nat->St}
def ya2(listed:Array Bool)(j:Nat):Prop:=listed.getD j true=true
def P5(tr:Nat)(P:Program)(ops:Array Oper)(U:Nat->St)(listed:Array Bool)(id:Nat):Prop:=∃b,b<ops.size/\N2 tr P ops b=0/\¬ ya2 listed b/\id=(U b).H.length
def X6(ops:Array Oper)(listed:Array Bool)(t:Nat):Prop:=∃i,i<ops.size/\ma5 ops i=some t/\¬ ya2 listed i
theorem Ua3{listed:Array Bool}{i j:Nat}(hi:i<listed.size):ya2 (listed.setIfInBounds i true) j↔ya2 listed j\/j=i:=by
 unfold ya2;by_cases e:i=j
 ·subst e;simp[Array.getD,hi]
 ·have:j≠i:=λh=>e h.symm
  simp only[Array.getD_eq_getD_getElem?,Qdn e,this,or_false]
theorem Sc0{listed:Array Bool}{i:Nat}(h:i∈Region.ready .any ops listed):i<ops.size/\¬ ya2 listed i/\(listed.size=ops.size->∀e∈Ea2 (Ia8 ops i),e<ops.size->ya2 listed e):=by
 unfold Region.ready at h;rw[List.mem_filter] at h;obtain⟨h1,h2⟩:=h;have hi:=Qdo.1 h1;rw[wa2 hi] at h2;simp only[Option.map_some,Option.getD_some,Qdb,Qdr] at h2;refine⟨hi,λh=>?_,λhsz e he hlt=>?_⟩
 ·unfold ya2 at h;rw[h] at h2;cases h2.1
 ·obtain⟨ed,h3,h4,h5⟩:=Rc4.1 he;have h6:(Ia8 ops i).after.all (λe=>!Region.binds .any e||listed.getD e.on false)=true:=h2.2
  rw[Qdm] at h6;have h7:=h6 ed h3;rw[h4,h5] at h7;simp only[Bool.not_true,Bool.false_or] at h7;unfold ya2
  have:e<listed.size:=by omega
  simp only[Array.getD,this,dite_true] at h7 ⊢;exact h7
variable(hD:DC tr E.P ops M ks)(hT:td2 E ops ks s U T)(hin:∀j,j<ops.size->N2 tr E.P ops j=0->∀d,ma5 ops j=some d->d<s.a.length)
include hD
theorem ke7 {listed : Array Bool} (hsz : listed.size = ops.size) {i : Nat} (hi : i < ops.size) {x : a7} (hx : ∀ d, ma5 ops i = some d → d < (T ops.size).a.length → (T ops.size).a[d]? = some x) :
  Za6 (T ops.size).a s.a (X6 ops (listed.setIfInBounds i true))=putA (Za6 (T ops.size).a s.a (X6 ops listed)) (ma5 ops i) x:=by
 refine List.ext_getElem? λt=>?_
 have hopen:∀t,ma5 ops i≠some t->(X6 ops (listed.setIfInBounds i true) t↔X6 ops listed t):=λt hne=>by
  constructor
  ·rintro⟨j,h1,h2,h3⟩;exact⟨j,h1,h2,λh=>h3 ((Ua3 (hsz ▸ hi)).2 (.inl h))⟩
  ·rintro⟨j,h1,h2,h3⟩;refine⟨j,h1,h2,λh=>?_⟩
   rcases (Ua3 (hsz ▸ hi)).1 h with h|h
   ·exact h3 h
   ·subst h;exact hne h2
 by_cases hd:ma5 ops i=some t
 ·have hno : ¬ X6 ops (listed.setIfInBounds i true) t := by
   rintro⟨j,h1,h2,h3⟩
   rcases (hD.slots hi h1 hd).2 with h|h
   ·exact h3 ((Ua3 (hsz ▸ hi)).2 (.inr h.symm))
   ·exact h h2
  rw[ab8 hno,hd]
  rcases Qds t (T ops.size).a.length with hlt|hge
  ·rw[Nc2 (by rw[ab7];exact hlt)]
   exact hx t hd hlt
  ·rw[Qdh hge,Qdh (by rw[rc5,ab7];exact hge)]
 ·rw[rc6 hd];by_cases ho:X6 ops listed t
  ·rcases Qds t (T ops.size).a.length with hlt|hge
   ·rw[rc1 ho hlt,rc1 ((hopen t hd).2 ho) hlt]
   ·rw[Qdh (by rw[ab7];exact hge),Qdh (by rw[ab7];exact hge)]
  ·rw[ab8 ho,ab8 λh=>ho ((hopen t hd).1 h)]
include hT
end
section
variable{W:Nat->Prop}{ρ0:Rho}{H0:List a8}{F0:Fz}{w0 w:World}
variable{tr:Nat}{E:Env}{ops:Array Oper}{M:List Nat}{ks:List (Nat×PI)}{s:St}{U T:Nat->St}
variable(hD:DC tr E.P ops M ks)(hT:td2 E ops ks s U T)(hin:∀j,j<ops.size->N2 tr E.P ops j=0->∀d,ma5 ops j=some d->d<s.a.length)
variable(hpairs:db5 E (T ops.size).a (Ua0 ops.size M ks)=true)
variable(hG0:GOk E F0 w0)(hcalls:∀f,e7 E.P E.G f (E.call f))
theorem ld9{listed:Array Bool}(hsz:listed.size=ops.size){i:Nat}(hi:i<ops.size)(hk:N2 tr E.P ops i≠0):P5 tr E.P ops U (listed.setIfInBounds i true)=P5 tr E.P ops U listed:=by
 funext id;refine propext ⟨λ⟨b,h1,h2,h3,h4⟩=>⟨b,h1,h2,λh=>h3 ((Ua3 (hsz ▸ hi)).2 (.inl h)),h4⟩,λ⟨b,h1,h2,h3,h4⟩=>⟨b,h1,h2,λh=>?_,h4⟩⟩
 rcases (Ua3 (hsz ▸ hi)).1 h with h|h
 ·exact h3 h
 ·subst h;exact hk h2
include hD
include hT hin hpairs hG0 hcalls
end
section
variable{W:Nat->Prop}{ρ0:Rho}{H0:List a8}{F0:Fz}{w0 w:World}
variable{tr:Nat}{E:Env}{ops:Array Oper}{M:List Nat}{ks:List (Nat×PI)}{s:St}{U T:Nat->St}
variable(hD:DC tr E.P ops M ks)(hT:td2 E ops ks s U T)(hin:∀j,j<ops.size->N2 tr E.P ops j=0->∀d,ma5 ops j=some d->d<s.a.length)(hlen:H0.length<=s.H.length)
include hD hT hin hlen
omit hT hin hlen in
theorem ke8{listed:Array Bool}(hsz:listed.size=ops.size)(h:Region.ready .any ops listed=[]):∀j,j<ops.size->ya2 listed j:=by
 intro j
 induction j using Nat.strongRecOn with
 |_ j ih =>
  intro hj;apply Classical.byContradiction;intro hn;have hmem:j∈Region.ready .any ops listed:=by
   unfold Region.ready;rw[List.mem_filter];refine⟨Qdo.2 hj,?_⟩;rw[wa2 hj];simp only[Option.map_some,Option.getD_some,Qdb,Qdr];refine⟨by unfold ya2 at hn;simpa using hn,?_⟩
   rw[Qdm];intro e he;cases hb:Region.binds .any e with
   |false=>rfl
   |true =>
    have hd:e.on∈Ea2 (Ia8 ops j):=Rc4.2 ⟨e,he,hb,rfl⟩;have hlt:=rc2 hD.rows (wa2 hj) hd
    have:=ih e.on hlt (by omega)
    unfold ya2 at this;have h2:e.on<listed.size:=by omega
    simp only[Array.getD,h2,dite_true] at this ⊢;simpa using this
  rw[h] at hmem;cases hmem
def qb7(listed:Array Bool):Nat:=(listed.toList.filter λb=>!b).length
omit hD hT hin hlen in
theorem hc5:∀(l:List Bool) (i:Nat),l[i]?=some false->((l.set i true).filter λb=>!b).length+1=(l.filter λb=>!b).length
 |[],i,h=>by simp at h
 |b::l,0,h=>by
  simp at h
  subst h;simp
 |b::l,i+1,h=>by
  have ih:=hc5 l i (by simpa using h)
  simp only[List.set_cons_succ,List.filter_cons];cases b<;>simp[ih]
omit hD hT hin hlen in
theorem Sc1{listed:Array Bool}(h:qb7 listed=0)(j:Nat):ya2 listed j:=by
 unfold qb7 at h;unfold ya2;rw[List.length_eq_zero_iff,List.filter_eq_nil_iff] at h
 rcases Qds j listed.size with hj|hj
 ·have:=h listed[j] (by simp)
  simpa [Array.getD,hj] using this
 ·simp[Array.getD,Nat.not_lt.2 hj]
variable(hpairs:db5 E (T ops.size).a (Ua0 ops.size M ks)=true)(hG0:GOk E F0 w0)(hcalls:∀f,e7 E.P E.G f (E.call f))
include hpairs hG0 hcalls
end
abbrev Sum:=List a7->List a8->DT (a7×List a8)
def ALe(x y:a7):Prop:=∀ρ H F w v,G0 ρ H F w x v->G0 ρ H F w y v
theorem ALe.refl(x:a7):ALe x x:=λ_ _ _ _ _ h=>h
inductive Sc2:List a7->List a7->Prop
 |nil:Sc2 [] []
 |cons {x y l r} (h:ALe x y) (t:Sc2 l r):Sc2 (x::l) (y::r)
theorem Sc2.refl:∀l,Sc2 l l
 |[]=>.nil
 |x::l=>.cons (.refl x) (Sc2.refl l)
theorem Sc2.length{l r}(h:Sc2 l r):l.length=r.length:=by induction h<;>simp_all
theorem Sc2.get{l r}(h:Sc2 l r):∀(i:Nat) y,r[i]?=some y->∃x,l[i]?=some x/\ALe x y:=by
 induction h with
 |nil=>intro i y hy;simp at hy
 |cons h t ih =>
  intro i y hy;cases i with
  |zero=>simp at hy;subst hy;exact⟨_,rfl,h⟩
  |succ i=>simpa using ih i y (by simpa using hy)
theorem e7.refine {P : Program} {G : Nat → List Value} {f : FuncId} {S S' : Sum} (h : e7 P G f S)
  (hr:∀args blks r,(S' args blks).run=some r->∃Pb7,Sc2 args Pb7/\(S Pb7 blks).run=some r):e7 P G f S':=by
 intro args blks r out he W ρ F w args' hH hlen hargs hG;obtain⟨Pb7,ha,he2⟩:=hr args blks _ he;refine h Pb7 blks r out he2 W ρ F w args' hH (ha.length ▸ hlen) (λi y x' hy hx'=>?_) hG
 obtain⟨x,hx,hle⟩:=ha.get i y hy;exact hle _ _ _ _ _ (hargs i x x' hx hx')
def bf1(l:List (Nat×Sum)):FuncId->Sum :=
 List.rec (motive:=λ_=>FuncId->Sum) (λ_ _ _=>.fail) (λp _ ih f=>Bool.rec (motive:=λ_=>Sum) (ih f) p.2 (Nat.beq p.1 f)) l
def g9(P:Program)(G:Nat->List Value):List (Nat×Sum)->Prop
 |[]=>True
 |p::l=>e7 P G p.1 p.2/\g9 P G l
theorem be6{P:Program}{G:Nat->List Value}:∀{l:List (Nat×Sum)},g9 P G l->∀f,e7 P G f (bf1 l f)
 |[],_,f=>λargs blks r out h=>by cases h
 |(n,S)::l,h,f=>by
  show e7 P G f (Bool.rec (motive:=λ_=>Sum) (bf1 l f) S (Nat.beq n f))
  cases hb:Nat.beq n f with
  |false=>exact be6 h.2 f
  |true=>rw[<- Qda hb];exact h.1
inductive PS where
 |pc (c:PC)
 |seq (a b:PS)
 |cond (c:Arg) (x y:PS)
 |block (id:Nat) (c:PS)
 |loop (keep:List Nat) (c:PS)
 |sum (S:St->DT (c9×St))
def jf6(E:Env)(k:Nat)(c:PS):St->DT (c9×St) :=
 PS.rec (motive:=λ_=>St->DT (c9×St))
  (λc=>Q0 E k c)
  (λ_ _ x y s=>(x s).bind λr=>c9.rec (motive:=λ_=>DT (c9×St)) (y r.2) (λid=>.ret (.exit id,r.2)) (.ret (.ret,r.2)) r.1)
  (λc _ _ x y s=>match b7 E s.a c with
   |.v (.bool b)=>.ite b (x s) (y s)
   |_=>.fail)
  (λid _ x s=>(x s).bind λr=>c9.rec (motive:=λ_=>DT (c9×St)) (.ret (.normal,r.2))
   (λid'=>Bool.rec (.ret (.exit id',r.2)) (.ret (.normal,r.2)) (Nat.beq id' id)) (.ret (.ret,r.2)) r.1)
  (λkeep _ x=>Rb5 (λs=>tidy k ⟨Q1 keep s.a 0,s.H⟩) x E.N)
  (λS=>S) c
def ba5{α:Type}(x y:DT α):Prop:=∀r,x.run=some r->y.run=some r
theorem ba5.refl{α:Type}(x:DT α):ba5 x x:=λ_ h=>h
theorem ba5.bind{α β:Type}{x y:DT α}{f g:α->DT β}(h:ba5 x y)(hf:∀a,ba5 (f a) (g a)):ba5 (x.bind f) (y.bind g):=λr hr=>by
 obtain⟨a,h1,h2⟩:=DT.run_bind_some hr;rw[DT.run_bind,h a h1];exact hf a r h2
theorem ba5.ite{α:Type}{b:Bool}{x y x' y':DT α}(h:ba5 x x')(h':ba5 y y'):ba5 (.ite b x y) (.ite b x' y'):=λr hr=>by
 rw[DT.run_ite] at hr ⊢
 split at hr
 ·next hb=>simpa [hb] using h r hr
 ·next hb=>simpa [hb] using h' r hr
theorem ba5.fail{α:Type}(y:DT α):ba5 .fail y:=λ_ h=>by cases h
theorem Kb3{head:St->DT St}{body body':St->DT (c9×St)}(h:∀s,ba5 (body s) (body' s)):∀n s,ba5 (Rb5 head body n s) (Rb5 head body' n s)
 |0,s=>.refl _
 |n+1,s=>by
  show ba5 ((head s).bind λs=>(body s).bind _) ((head s).bind λs=>(body' s).bind _)
  refine ba5.bind (.refl _) λs=>(h s).bind λr=>?_
  rcases r with⟨x,s'⟩
  cases x with
  |normal=>exact Kb3 h n s'
  |exit id=>exact .refl _
  |ret=>exact .refl _
inductive Ua4 (E:Env) (k:Nat):PS->PC->Prop
 |pc (c:PC):Ua4 E k (.pc c) c
 |seq {a b:PS} {a' b':PC} (h:Ua4 E k a a') (h':Ua4 E k b b'):Ua4 E k (.seq a b) (.seq a' b')
 |cond (c:Arg) {a b:PS} {a' b':PC} (h:Ua4 E k a a') (h':Ua4 E k b b'):Ua4 E k (.cond c a b) (.cond c a' b')
 |block (id:Nat) {a:PS} {a':PC} (h:Ua4 E k a a'):Ua4 E k (.block id a) (.block id a')
 |loop (keep:List Nat) {a:PS} {a':PC} (h:Ua4 E k a a'):Ua4 E k (.loop keep a) (.loop keep a')
 |sum {S:St->DT (c9×St)} {c:PC} (h:∀s,ba5 (S s) (Q0 E k c s)):Ua4 E k (.sum S) c
theorem Ua4.le{E:Env}{k:Nat}{a:PS}{c:PC}(h:Ua4 E k a c):∀s,ba5 (jf6 E k a s) (Q0 E k c s):=by
 induction h with
 |pc c=>exact λs=>.refl _
 |seq h h' ih ih' =>
  intro s;refine (ih s).bind λr=>?_
  rcases r with⟨x,s'⟩
  cases x with
  |normal=>exact ih' s'
  |exit id=>exact .refl _
  |ret=>exact .refl _
 |cond c h h' ih ih' =>
  intro s;show ba5 (match b7 E s.a c with | .v (.bool b)=>_ | _=>_) (match b7 E s.a c with | .v (.bool b)=>_ | _=>_)
  split
  ·exact .ite (ih s) (ih' s)
  ·exact .fail _
 |block id h ih=>exact λs=>(ih s).bind λr=>.refl _
 |loop keep h ih=>exact λs=>Kb3 ih _ s
 |sum h=>exact h
def Kb4(head:St->DT St)(body:St->DT (c9×St))(s:St):DT (c9×St) :=
 (body s).bind λr=>c9.rec (motive:=λ_=>DT (c9×St)) ((head r.2).bind λs=>.ret (.normal,s)) (λid=>.ret (.exit id,r.2)) (.ret (.ret,r.2)) r.1
def lc3(head:St->DT St)(body:St->DT (c9×St))(n:Nat)(s:St):DT (c9×St) :=
 (body s).bind λr=>c9.rec (motive:=λ_=>DT (c9×St)) (Rb5 head body n r.2) (λid=>.ret (.exit id,r.2)) (.ret (.ret,r.2)) r.1
theorem dc1{head:St->DT St}{body:St->DT (c9×St)}{n:Nat}{s t:St}{r:c9×St}(h:(head s).run=some t)(h2:(lc3 head body n t).run=some r):(Rb5 head body (n+1) s).run=some r:=by
 show ((head s).bind λs=>lc3 head body n s).run=some r
 rw[DT.run_bind,h];exact h2
theorem Ke3{head:St->DT St}{body:St->DT (c9×St)}{n:Nat}{s t:St}{r:c9×St}(h:(Kb4 head body s).run=some (.normal,t))(h2:(lc3 head body n t).run=some r):(lc3 head body (n+1) s).run=some r:=by
 obtain⟨⟨x,s1⟩,h3,h4⟩:=DT.run_bind_some h;cases x with
 |normal =>
  obtain⟨t',h5,h6⟩:=DT.run_bind_some h4;cases h6;show ((body s).bind _).run=_;rw[DT.run_bind,h3];exact dc1 h5 h2
 |exit id=>cases h4
 |ret=>cases h4
theorem Ke4{head:St->DT St}{body:St->DT (c9×St)}{n:Nat}{s t:St}{x:c9}(h:(Kb4 head body s).run=some (x,t))(hx:x≠.normal):(lc3 head body n s).run=some (x,t):=by
 obtain⟨⟨y,s1⟩,h3,h4⟩:=DT.run_bind_some h;cases y with
 |normal =>
  obtain⟨t',h5,h6⟩:=DT.run_bind_some h4;cases h6;exact absurd rfl hx
 |exit id =>
  show ((body s).bind _).run=_;rw[DT.run_bind,h3];exact h4
 |ret =>
  show ((body s).bind _).run=_;rw[DT.run_bind,h3];exact h4
@[reducible] def Vb4(k:Nat)(keep:List Nat)(s:St):DT St:=tidy k ⟨Q1 keep s.a 0,s.H⟩
theorem md0(E:Env)(k:Nat)(keep:List Nat)(c:PC)(s:St):Q0 E k (.loop keep c) s=Rb5 (Vb4 k keep) (Q0 E k c) E.N s:=rfl
inductive Sh where
 |unk
 |int
 |bool
 |tree (es:Nat)
 |ptr (id i c g:Nat)
@[reducible] def sel{α:Type}(c:Bool)(t e:α):α:=Bool.rec (motive:=λ_=>α) e t c
theorem ab9{g a:Int}(h:a>0):(Int.tmod g a).toNat<a.toNat:=by
 have:=Int.tmod_lt_of_pos g h
 omega
@[reducible] def i(n:Int):a7:=.v (.int .i64 n)
@[reducible] def b(x:Bool):a7:=.v (.bool x)
def Ke5:a7->Option Int
 |.v (.int .i64 n)=>some n
 |_=>none
theorem Ke6{x:a7}{n:Int}(h:Ke5 x=some n):x=i n:=by
 unfold Ke5 at h
 split at h
 ·cases h;rfl
 ·cases h
abbrev W(n:Int):Int:=IntKind.wrap .i64 n
structure Cod(α:Type) where
 enc:α->a7
 dec:a7->Option α
 grd:a7->Bool
 ok:∀x a,dec x=some a->grd x=true->ALe x (enc a)
def te7:a7->Option Bool
 |.v (.bool n)=>some n
 |_=>none
theorem te8{x:a7}{n:Bool}(h:te7 x=some n):x=b n:=by
 unfold te7 at h
 split at h
 ·cases h;rfl
 ·cases h
theorem ALe.of{x y:a7}(h:x=y):ALe x y:=h ▸ .refl x
def cI:Cod Int:=⟨i,Ke5,λ_=>true,λ_ _ h _=>.of (Ke6 h)⟩
def cB:Cod Bool:=⟨b,te7,λ_=>true,λ_ _ h _=>.of (te8 h)⟩
theorem ea6.get{F:Fz}{w:World}{es n:Nat}{get get':Nat->List a7}{v:Value}(h:ea6 F w (.tree es n get) v)(he:∀k,k<n->get' k=get k):ea6 F w (.tree es n get') v:=by
 cases h with
 |tree _ _ _ a cap cs hs hcap hes hF hw hr =>
  refine .tree es n get' a cap cs hs hcap (λi hi=>by rw[he i hi];exact hes i hi) hF hw (λi c hi hc=>?_)
  have e:=he i hi;have hc':c<(get i).length:=by rw[<- e];exact hc
  have:=hr i c hi hc'
  have e2:(get' i)[c]=(get i)[c]:=by congr 1
  rw[e2];exact this
 |nil=>exact .nil _ _
theorem ALe.tree{es n:Nat}{get get':Nat->List a7}(he:∀k,k<n->get' k=get k):ALe (.tree es n get) (.tree es n get'):=λρ H F w v h=>.val (.cell (.mem ((ya0 h).get he)))
def g3(x y z:Int):Nat->List a7
 |0=>[i x]
 |1=>[i y]
 |_=>[i z]
def Ke7:List a7->Option Int
 |[x]=>Ke5 x
 |_=>none
def d3(x:a7):Option (Int×Int×Int):=match x with
 |.tree 1 3 get=>Option.rec (motive:=λ_=>Option (Int×Int×Int)) none (λa=>Option.rec (motive:=λ_=>Option (Int×Int×Int)) none (λb=>Option.rec (motive:=λ_=>Option (Int×Int×Int)) none (λc=>some (a,b,c)) (Ke7 (get 2))) (Ke7 (get 1))) (Ke7 (get 0))
 |_=>none
def d1(x:a7):Option Int:=match x with
 |.tree 1 1 get=>Ke7 (get 0)
 |_=>none
structure IL where
 n:Nat
 g:Nat->Int
structure LL where
 a:IL
 b:IL
def onO{α:Type}(x:Option α)(k:α->DT (a7×List a8)):DT (a7×List a8):=Option.rec (motive:=λ_=>DT (a7×List a8)) .fail k x
theorem G6{α:Type}{x:Option α}{k:α->DT (a7×List a8)}{r:a7×List a8}(h:(onO x k).run=some r):∃a,x=some a/\(k a).run=some r:=by
 cases x with
 |none=>cases h
 |some a=>exact⟨a,rfl,h⟩
section
variable{α β γ δ:Type}
def Ud7(k:DT (a7×List a8)):Sum:=λargs blks=>match args,blks with
 |[],[]=>k
 |_,_=>.fail
def ca7(c:Cod α)(k:α->DT (a7×List a8)):Sum:=λargs blks=>match args,blks with
 |[x],[]=>onO (c.dec x) λa=>.guard (c.grd x) (k a)
 |_,_=>.fail
def ta3(c:Cod α)(d:Cod β)(k:α->β->DT (a7×List a8)):Sum:=λargs blks=>match args,blks with
 |[x,y],[]=>onO (c.dec x) λa=>onO (d.dec y) λb=>.guard (c.grd x) (.guard (d.grd y) (k a b))
 |_,_=>.fail
def Sc3(c:Cod α)(d:Cod β)(e:Cod γ)(k:α->β->γ->DT (a7×List a8)):Sum:=λargs blks=>match args,blks with
 |[x,y,z],[]=>onO (c.dec x) λa=>onO (d.dec y) λb=>onO (e.dec z) λg=>.guard (c.grd x) (.guard (d.grd y) (.guard (e.grd z) (k a b g)))
 |_,_=>.fail
variable{P:Program}{G:Nat->List Value}{f:FuncId}{R:Sum}{c:Cod α}{d:Cod β}{e:Cod γ}{c4:Cod δ}
theorem e7.le{S':Sum}(h:e7 P G f R)(hr:∀args blks r,(S' args blks).run=some r->(R args blks).run=some r):e7 P G f S' :=
 h.refine λargs blks r hh=>⟨args,.refl _,hr args blks r hh⟩
theorem Ke8{k}(hb:e7 P G f R)(h:∀r,k.run=some r->(R [] []).run=some r):e7 P G f (Ud7 k):=hb.le λargs blks r hr=>by
 unfold Ud7 at hr
 split at hr
 ·exact h r hr
 ·cases hr
theorem Kb5{k:α->_}(hb:e7 P G f R)(h:∀a r,(k a).run=some r->(R [c.enc a] []).run=some r):e7 P G f (ca7 c k):=hb.refine λargs blks r hr=>by
 unfold ca7 at hr
 split at hr
 ·obtain⟨a,h1,hr⟩:=G6 hr;obtain⟨g1,hr⟩:=DT.run_guard_some hr;exact⟨_,.cons (c.ok _ a h1 g1) .nil,h a r hr⟩
 ·cases hr
theorem Ia9{k:α->β->_}(hb:e7 P G f R)(h:∀a b r,(k a b).run=some r->(R [c.enc a,d.enc b] []).run=some r):e7 P G f (ta3 c d k):=hb.refine λargs blks r hr=>by
 unfold ta3 at hr
 split at hr
 ·obtain⟨a,h1,hr⟩:=G6 hr;obtain⟨b,h2,hr⟩:=G6 hr;obtain⟨g1,hr⟩:=DT.run_guard_some hr;obtain⟨g2,hr⟩:=DT.run_guard_some hr;exact⟨_,.cons (c.ok _ a h1 g1) (.cons (d.ok _ b h2 g2) .nil),h a b r hr⟩
 ·cases hr
theorem Ke9{k:α->β->γ->_}(hb:e7 P G f R)(h:∀a b g r,(k a b g).run=some r->(R [c.enc a,d.enc b,e.enc g] []).run=some r):e7 P G f (Sc3 c d e k):=hb.refine λargs blks r hr=>by
 unfold Sc3 at hr
 split at hr
 ·obtain⟨a,h1,hr⟩:=G6 hr;obtain⟨b,h2,hr⟩:=G6 hr;obtain⟨g,h3,hr⟩:=G6 hr;obtain⟨g1,hr⟩:=DT.run_guard_some hr;obtain⟨g2,hr⟩:=DT.run_guard_some hr;obtain⟨g3,hr⟩:=DT.run_guard_some hr;exact⟨_,.cons (c.ok _ a h1 g1) (.cons (d.ok _ b h2 g2) (.cons (e.ok _ g h3 g3) .nil)),h a b g r hr⟩
 ·cases hr
end
inductive Stp (σ:Type) where
 |fail
 |next (s:σ)
 |exit (t:Nat)
@[reducible] def Vb5{σ α:Type}(f:σ->α)(x:Nat->α)(z:α)(r:Stp σ):α:=Stp.rec (motive:=λ_=>α) z f x r
def lp0{σ:Type}(step:σ->Stp σ)(n:Nat):σ->Nat×σ :=
 Nat.rec (motive:=λ_=>σ->Nat×σ) (λs=>Vb5 (λ_=>(0,s)) (λt=>(t,s)) (0,s) (step s))
  (λ_ ih s=>Vb5 (λs'=>ih s') (λt=>(t,s)) (0,s) (step s)) n
def lpS:{ f:(σ:Type)->(σ->Stp σ)->Nat->σ->Nat×σ // f=λ_=>lp0 }:=Classical.choice ⟨⟨_,rfl⟩⟩
def rounds:Nat:=18446744073709551615
def lp{σ:Type}(step:σ->Stp σ)(s:σ):Nat×σ:=lpS.1 σ step rounds s
theorem te9{σ:Type}(step:σ->Stp σ)(s:σ):lp step s=lp0 step rounds s:=by
 unfold lp;rw[lpS.2]
theorem Fd1{σ:Type}{step:σ->Stp σ}{n:Nat}{s s':σ}(h:step s=.next s'):lp0 step (n+1) s=lp0 step n s':=by
 show Vb5 (λs'=>lp0 step n s') _ _ (step s)=_
 rw[h]
theorem Sc4{σ:Type}{step:σ->Stp σ}{n t:Nat}{s:σ}(h:step s=.exit t):lp0 step n s=(t,s):=by
 cases n with
 |zero=>show Vb5 _ _ _ (step s)=_;rw[h]
 |succ n=>show Vb5 _ _ _ (step s)=_;rw[h]
inductive Sk where
 |unk
 |u
 |nil
 |bool
 |int (k:IntKind)
 |lit (k:IntKind) (n:Int)
 |blit (x:Bool)
 |tree (es:Nat)
 |ptr (id i c g:Nat)
 |sl (id g:Nat) (off n:Option Nat)
 |fn (f:Nat)
def slO:a7->Nat
 |.sl _ off _ _=>off
 |_=>0
def slN:a7->Nat
 |.sl _ _ n _=>n
 |_=>0
@[reducible] def oN(o:Option Nat)(x:Nat):Nat:=Option.rec (motive:=λ_=>Nat) x (λy=>y) o
@[reducible] def okN(o:Option Nat)(x:Nat):Bool:=Option.rec (motive:=λ_=>Bool) true (λy=>Nat.beq y x) o
def bf2:Sk->a7->Bool
 |.unk,.unk=>true
 |.u,.v (.tuple a)=>List.rec (motive:=λ_=>Bool) true (λ_ _ _=>false) a.toList
 |.nil,.v (.slice none 0 0)=>true
 |.bool,.v (.bool _)=>true
 |.int k,.v (.int k' _)=>decide (k=k')
 |.lit k n,.v (.int k' m)=>Bool.and (decide (k=k')) (decide (n=m))
 |.blit x,.v (.bool y)=>Bool.rec (!y) y x
 |.tree es,.tree es' _ _=>Nat.beq es es'
 |.ptr id i c g,.ptr id' i' c' g'=>Bool.and (Bool.and (Nat.beq id id') (Nat.beq i i')) (Bool.and (Nat.beq c c') (Nat.beq g g'))
 |.sl id g off n,.sl id' off' n' g'=>Bool.and (Bool.and (Nat.beq id id') (Nat.beq g g')) (Bool.and (okN off off') (okN n n'))
 |.fn f,.fn f' []=>Nat.beq f f'
 |_,_=>false
def jf7:Sk->a7->a7
 |.unk,_=>.unk
 |.u,_=>.v (.tuple #[])
 |.nil,_=>.v (.slice none 0 0)
 |.bool,x=>.v (.bool (toB x))
 |.int k,x=>.v (.int k (toI x))
 |.lit k n,_=>.v (.int k n)
 |.blit y,_=>.v (.bool y)
 |.tree es,x=>.tree es (toN x) (toG x)
 |.ptr id i c g,_=>.ptr id i c g
 |.sl id g off n,x=>.sl id (oN off (slO x)) (oN n (slN x)) g
 |.fn f,_=>.fn f []
theorem Ve3{o:Option Nat}{x:Nat}(h:okN o x=true):oN o x=x:=by
 cases o with
 |none=>rfl
 |some y=>exact Qda h
theorem Le0{k:Sk}{x:a7}(h:bf2 k x=true):x=jf7 k x:=by
 unfold bf2 at h
 split at h<;>first | rfl | (cases h;done) | skip
 ·rename_i a;obtain⟨l⟩:=a;cases l with
  |nil=>rfl
  |cons=>cases h
 ·rw[of_decide_eq_true h];rfl
 ·simp only[Qdb,decide_eq_true_eq] at h;rw[h.1,h.2];rfl
 ·rename_i a c;cases a<;>cases c<;>first | rfl | cases h
 ·rw[Qda h];rfl
 ·simp only[Qdb] at h;obtain⟨⟨h1,h2⟩,h3,h4⟩:=h;rw[Qda h1,Qda h2,Qda h3,Qda h4];rfl
 ·rename_i id g off n id' off' n' g';simp only[Qdb] at h;obtain⟨⟨h1,h2⟩,h3,h4⟩:=h;rw[<- Qda h1,<- Qda h2];show a7.sl id off' n' g=.sl id (oN off off') (oN n n') g;rw[Ve3 h3,Ve3 h4]
 ·rw[Qda h];rfl
inductive Sl where
 |s (k:Sk)
 |agg (l:List Sk)
 |tup (l:List Sk)
 |fn (f:Nat) (l:List Sk)
def cellsOf:a7->List a7
 |.agg l=>l
 |.tup l=>l
 |.fn _ l=>l
 |_=>[]
@[reducible] def hdR(l:List (List a7)):List a7:=List.rec (motive:=λ_=>List a7) [] (λx _ _=>x) l
@[reducible] def tlR(l:List (List a7)):List (List a7):=List.rec (motive:=λ_=>List (List a7)) [] (λ_ r _=>r) l
structure Bk where
 et:Nat
 es:Nat
 own:Bool
 rows:Option (List (List Sk))
@[reducible] def eqB(a c:Bool):Bool:=Bool.rec (!c) c a
@[reducible] def hdB(l:List a8):List (List a7):=List.rec (motive:=λ_=>List (List a7)) [] (λx _ _=>x.elems) l
@[reducible] def tlB(l:List a8):List a8:=List.rec (motive:=λ_=>List a8) [] (λ_ r _=>r) l
inductive Ua5 {α:Type} (P:α->Prop):List α->Prop
 |nil:Ua5 P []
 |cons {x:α} {l:List α} (h:P x) (t:Ua5 P l):Ua5 P (x::l)
theorem Ua5.mem{α:Type}{P:α->Prop}{l:List α}(h:Ua5 P l):∀x,x∈l->P x:=by
 induction h with
 |nil=>intro x h;cases h
 |cons h t ih =>
  intro x hx;cases hx with
  |head=>exact h
  |tail _ hx=>exact ih x hx
structure Alt(π σ:Type) where
 sh:List Sl
 bl:List Bk
 rd:List a7->List a8->π×σ
def ra(n:Nat)(l:List a7):List a7:=Nat.rec (motive:=λ_=>List a7) l (λ_ ih=>.unk::ih) n
def bf3(k:Nat)(res:List yc5)(s:St):DT (a7×List a8) :=
 match fb3 (jb8 s.a s.H) res with
 |some l=>Tb8 k s.H (Cb2 l)
 |none=>.fail
def cut(k:Nat)(res:List yc5)(r:c9×St):DT (c9×St) :=
 c9.rec (motive:=λ_=>DT (c9×St)) (.ret (.normal,r.2)) (λid=>.ret (.exit id,r.2)) ((bf3 k res r.2).bind λq=>.ret (.ret,⟨[q.1],q.2⟩)) r.1
def be7(E:Env)(k:Nat)(res:List yc5)(c:PS):St->DT (c9×St) :=
 PS.rec (motive:=λ_=>St->DT (c9×St))
  (λc s=>(Q0 E k c s).bind (cut k res))
  (λ_ _ x y s=>(x s).bind λr=>c9.rec (motive:=λ_=>DT (c9×St)) (y r.2) (λid=>.ret (.exit id,r.2)) (.ret (.ret,r.2)) r.1)
  (λc _ _ x y s=>match b7 E s.a c with
   |.v (.bool b)=>.ite b (x s) (y s)
   |_=>.fail)
  (λid _ x s=>(x s).bind λr=>c9.rec (motive:=λ_=>DT (c9×St)) (.ret (.normal,r.2))
   (λid'=>Bool.rec (.ret (.exit id',r.2)) (.ret (.normal,r.2)) (Nat.beq id' id)) (.ret (.ret,r.2)) r.1)
  (λkeep _ x=>Rb5 (λs=>tidy k ⟨Q1 keep s.a 0,s.H⟩) x E.N)
  (λS=>S) c
section
variable{k:Nat}{res:List yc5}
inductive FR (k:Nat) (res:List yc5):c9×St->c9×St->Prop
 |same (x:c9) (s:St) (h:x≠.ret):FR k res (x,s) (x,s)
 |ret (s:St) (q:a7×List a8) (h:(bf3 k res s).run=some q):FR k res (.ret,⟨[q.1],q.2⟩) (.ret,s)
def ga3(k:Nat)(res:List yc5)(x y:DT (c9×St)):Prop:=∀r,x.run=some r->∃r',y.run=some r'/\FR k res r r'
theorem ga3.bind{x y:DT (c9×St)}{f g:c9×St->DT (c9×St)}(h:ga3 k res x y)(hf:∀r r',FR k res r r'->ga3 k res (f r) (g r')):ga3 k res (x.bind f) (y.bind g):=λr hr=>by
 obtain⟨a,h1,h2⟩:=DT.run_bind_some hr;obtain⟨a',h3,h4⟩:=h a h1;obtain⟨r',h5,h6⟩:=hf a a' h4 r h2;exact⟨r',by rw[DT.run_bind,h3];exact h5,h6⟩
theorem ga3.ite{b:Bool}{x y x' y':DT (c9×St)}(h:ga3 k res x x')(h':ga3 k res y y'):ga3 k res (.ite b x y) (.ite b x' y'):=λr hr=>by
 rw[DT.run_ite] at hr;rw[DT.run_ite]
 split at hr
 ·next hb=>simpa [hb] using h r hr
 ·next hb=>simpa [hb] using h' r hr
theorem ga3.one{r r':c9×St}(h:FR k res r r'):ga3 k res (.ret r) (.ret r'):=λa ha=>by
 cases ha;exact⟨r',rfl,h⟩
theorem ga3.cut(x:DT (c9×St)):ga3 k res (x.bind (cut k res)) x:=λr hr=>by
 obtain⟨⟨a,s⟩,h1,h2⟩:=DT.run_bind_some hr;refine⟨(a,s),h1,?_⟩;cases a with
 |normal=>cases h2;exact .same _ _ (λh=>by cases h)
 |exit id=>cases h2;exact .same _ _ (λh=>by cases h)
 |ret =>
  obtain⟨q,h3,h4⟩:=DT.run_bind_some h2;cases h4;exact .ret s q h3
theorem Vb6{head:St->DT St}{body body':St->DT (c9×St)}(h:∀s,ga3 k res (body s) (body' s)):∀n s,ga3 k res (Rb5 head body n s) (Rb5 head body' n s)
 |0,s=>λr hr=>by cases hr
 |n+1,s=>by
  intro r hr;obtain⟨t,h1,h2⟩:=DT.run_bind_some hr
  have:ga3 k res ((body t).bind λr=>c9.rec (motive:=λ_=>DT (c9×St)) (Rb5 head body n r.2) (λid=>.ret (.exit id,r.2)) (.ret (.ret,r.2)) r.1) ((body' t).bind λr=>c9.rec (motive:=λ_=>DT (c9×St)) (Rb5 head body' n r.2) (λid=>.ret (.exit id,r.2)) (.ret (.ret,r.2)) r.1):=by
   refine (h t).bind λa a' ha=>?_
   cases ha with
   |same x s hx =>
    cases x with
    |normal=>exact Vb6 h n s
    |exit id=>exact .one (.same _ _ hx)
    |ret=>exact absurd rfl hx
   |ret s q hq=>exact .one (.ret s q hq)
  obtain⟨r',h3,h4⟩:=this r h2;refine⟨r',?_,h4⟩;show ((head s).bind λs=>(body' s).bind _).run=_
  rw[DT.run_bind,h1];exact h3
inductive oa2 (E:Env) (k:Nat) (res:List yc5):PS->PC->Prop
 |pc (c:PC):oa2 E k res (.pc c) c
 |seq {a b:PS} {a' b':PC} (h:oa2 E k res a a') (h':oa2 E k res b b'):oa2 E k res (.seq a b) (.seq a' b')
 |cond (c:Arg) {a b:PS} {a' b':PC} (h:oa2 E k res a a') (h':oa2 E k res b b'):oa2 E k res (.cond c a b) (.cond c a' b')
 |block (id:Nat) {a:PS} {a':PC} (h:oa2 E k res a a'):oa2 E k res (.block id a) (.block id a')
 |loop (keep:List Nat) {a:PS} {a':PC} (h:oa2 E k res a a'):oa2 E k res (.loop keep a) (.loop keep a')
 |sum {S:St->DT (c9×St)} {c:PC} (h:∀s,ga3 k res (S s) (Q0 E k c s)):oa2 E k res (.sum S) c
theorem oa2.le{E:Env}{a:PS}{c:PC}(h:oa2 E k res a c):∀s,ga3 k res (be7 E k res a s) (Q0 E k c s):=by
 induction h with
 |pc c=>exact λs=>.cut _
 |seq h h' ih ih' =>
  intro s;refine (ih s).bind λr r' hr=>?_
  cases hr with
  |same x s hx =>
   cases x with
   |normal=>exact ih' s
   |exit id=>exact .one (.same _ _ hx)
   |ret=>exact absurd rfl hx
  |ret s q hq=>exact .one (.ret s q hq)
 |cond c h h' ih ih' =>
  intro s;show ga3 k res (match b7 E s.a c with | .v (.bool b)=>_ | _=>_) (match b7 E s.a c with | .v (.bool b)=>_ | _=>_)
  split
  ·exact .ite (ih s) (ih' s)
  ·exact λr hr=>by cases hr
 |block id h ih =>
  intro s;refine (ih s).bind λr r' hr=>?_
  cases hr with
  |same x s hx =>
   cases x with
   |normal=>exact .one (.same _ _ λh=>by cases h)
   |exit id' =>
    show ga3 k res (Bool.rec (.ret (.exit id',s)) (.ret (.normal,s)) (Nat.beq id' id)) (Bool.rec (.ret (.exit id',s)) (.ret (.normal,s)) (Nat.beq id' id));cases Nat.beq id' id with
    |false=>exact .one (.same _ _ hx)
    |true=>exact .one (.same _ _ λh=>by cases h)
   |ret=>exact absurd rfl hx
  |ret s q hq=>exact .one (.ret s q hq)
 |loop keep h ih=>exact λs=>Vb6 ih _ s
 |sum h=>exact h
end
def jf8(E:Env)(fn:PFn)(body:PS)(args:List a7)(blks:List a8):DT (a7×List a8) :=
 (be7 E (len blks) fn.res body ⟨app args (List.replicate (fn.ntmps-len args) (.v (.tuple #[]))),blks⟩).bind λr =>
  c9.rec (motive:=λ_=>DT (a7×List a8)) (bf3 (len blks) fn.res r.2) (λ_=>.fail) (.ret (hdA r.2.a,r.2.H)) r.1
theorem Ud8{E:Env}{fn:PFn}{body:PS}{args:List a7}{blks:List a8}(h:oa2 E (len blks) fn.res body fn.body):ba5 (jf8 E fn body args blks) (Fb4 E fn args blks):=λr hr=>by
 obtain⟨a,h1,h2⟩:=DT.run_bind_some hr;obtain⟨a',h3,h4⟩:=h.le _ a h1;show ((Q0 E (len blks) fn.body _).bind _).run=_;rw[DT.run_bind,h3];cases h4 with
 |same x s hx =>
  cases x with
  |normal=>exact h2
  |exit id=>cases h2
  |ret=>exact absurd rfl hx
 |ret s q hq =>
  cases h2;exact hq
theorem ALe.nilTree(es:Nat)(get:Nat->List a7):ALe (.v (.slice none 0 0)) (.tree es 0 get):=λρ H F w v h=>by
 have:=ea0 h
 subst this;exact .val (.cell (.mem (.nil es get)))
theorem ALe.emptyTree(es:Nat)(get:Nat->List a7)(a:Addr)(c:Nat):ALe (.v (.slice (some a) 0 c)) (.tree es 0 get):=λρ H F w v h=>by
 have:=ea0 h
 subst this;exact .val (.cell (.mem (.tree es 0 get a c (λ_ _=>.tuple #[]) (λh=>absurd h (by omega)) (Nat.zero_le _) (λi h=>absurd h (by omega)) (λi c h=>absurd h (by omega)) (λi c h=>absurd h (by omega)) (λi c h=>absurd h (by omega)))))
section
variable{α:Type}{row:α->List a7}{isr:List a7->Bool}{rd:List a7->α}{d:α}
theorem ue0{β:Type}(f:α->β)(l:List α):len (n5 f l)=l.length:=by rw[l9,o5,List.length_map]
theorem Fd2(row:α->List a7)(d:α){l:List α}{k:Nat}(h:k<l.length):i6 (n5 row l) k=row (l.getD k d):=by
 unfold i6;rw[D6,o5,Qdf,Qdd,Qdc h];rfl
theorem ue1(row:α->List a7)(l r:List α):app (n5 row l) (n5 row r)=n5 row (l++r):=by
 rw[J1,o5,o5,o5,List.map_append]
theorem Ud9(row:α->List a7)(l:List α)(k:Nat)(x:α):setAt (n5 row l) k (row x)=n5 row (l.set k x):=by
 rw[E7,o5,o5,List.map_set]
end
section
variable{α β γ δ ε ζ:Type}
def ke9(c:Cod α)(d:Cod β)(e:Cod γ)(f:Cod δ)(c5:Cod ε)(c6:Cod ζ)(k:α->β->γ->δ->ε->ζ->DT (a7×List a8)):Sum:=λargs blks=>match args,blks with
 |[x,y,z,w,v,u],[]=>onO (c.dec x) λa=>onO (d.dec y) λb=>onO (e.dec z) λg=>onO (f.dec w) λj=>onO (c5.dec v) λm=>onO (c6.dec u) λn=>.guard (c.grd x) (.guard (d.grd y) (.guard (e.grd z) (.guard (f.grd w) (.guard (c5.grd v) (.guard (c6.grd u) (k a b g j m n))))))
 |_,_=>.fail
variable{P:Program}{G:Nat->List Value}{f:FuncId}{R:Sum}{c:Cod α}{d:Cod β}{e:Cod γ}{c4:Cod δ}{c5:Cod ε}{c6:Cod ζ}
theorem Le1{k:α->β->γ->δ->ε->ζ->_}(hb:e7 P G f R)(h:∀a b g j m n r,(k a b g j m n).run=some r->(R [c.enc a,d.enc b,e.enc g,c4.enc j,c5.enc m,c6.enc n] []).run=some r):e7 P G f (ke9 c d e c4 c5 c6 k):=hb.refine λargs blks r hr=>by
 unfold ke9 at hr
 split at hr
 ·obtain⟨a,h1,hr⟩:=G6 hr;obtain⟨b,h2,hr⟩:=G6 hr;obtain⟨g,h3,hr⟩:=G6 hr;obtain⟨j,h4,hr⟩:=G6 hr;obtain⟨m,h5,hr⟩:=G6 hr;obtain⟨n,h6,hr⟩:=G6 hr;obtain⟨g1,hr⟩:=DT.run_guard_some hr;obtain⟨g2,hr⟩:=DT.run_guard_some hr;obtain⟨g3,hr⟩:=DT.run_guard_some hr;obtain⟨g4,hr⟩:=DT.run_guard_some hr;obtain⟨g5,hr⟩:=DT.run_guard_some hr;obtain⟨g6,hr⟩:=DT.run_guard_some hr;exact⟨_,.cons (c.ok _ a h1 g1) (.cons (d.ok _ b h2 g2) (.cons (e.ok _ g h3 g3) (.cons (c4.ok _ j h4 g4) (.cons (c5.ok _ m h5 g5) (.cons (c6.ok _ n h6 g6) .nil))))),h a b g j m n r hr⟩
 ·cases hr
end
section
variable{W:Nat->Prop}{ρ:Rho}{H H':List a8}{F:Fz}{w:World}
def Ca9(H:List a8):a7->Option (a7×List a8)
 |.agg cs=>match freezeCells H cs with
  |some (zs,H')=>some (.agg zs,H')
  |none=>none
 |x=>freezeCell H x
theorem Sc5 (hH : B8 W ρ H F w) {y z : a7} {y' : Value} (hy : fa7 ρ H F w y y') (he : Ca9 H y = some (z, H')) :
  ∃F',Adv W ρ H F w ρ H' F' w/\B8 W ρ H' F' w/\∀ρ2 H2 F2,(∀b o,F' b o->F2 b o)->fa7 ρ2 H2 F2 w z y':=by
 have cell:∀{y:a7},ea7 ρ H F w y y'->freezeCell H y=some (z,H')->∃F',Adv W ρ H F w ρ H' F' w/\B8 W ρ H' F' w/\∀ρ2 H2 F2,(∀b o,F' b o->F2 b o)->fa7 ρ2 H2 F2 w z y':=λ{y} hy he=>by
  obtain⟨F',h1,h2,h3,_⟩:=gc7 hH hy he;exact⟨F',h1,h2,λρ2 H2 F2 hF=>.cell (.mem (h3.adv hF λ_ _ _=>rfl))⟩
 cases y with
 |agg cs =>
  simp only[Ca9] at he;cases hf:freezeCells H cs with
  |none=>rw[hf] at he;cases he
  |some q =>
   obtain⟨zs,H1⟩:=q;rw[hf] at he;have he:some (a7.agg zs,H1)=some (z,H'):=he;injection he with he;injection he with e1 e2
   subst e1 e2;obtain⟨vs,rfl,hl,hr⟩:=Ca8 (.val hy);obtain⟨F',h1,h2,h3,h4,_⟩:=rb7 hH (vs:=vs.toList) (by simpa using hl) (λi y y' h h'=>hr i y y' h (by simpa using h')) hf
   refine⟨F',h1,h2,λρ2 H2 F2 hF=>.agg _ _ (by simpa [h3] using hl) λi x x' hx hx'=>.mem ((h4 i x x' hx (by simpa using hx')).adv hF λ_ _ _=>rfl)⟩
 |v u=>cases hy with | cell h=>exact cell h he
 |tree es n get=>cases hy with | cell h=>exact cell h he
 |sl id off n g=>cases hy with | cell h=>exact cell h he
 |ptr id i c g=>cases he
 |tptr cs=>cases he
 |unk=>cases he
 |tup l=>cases he
 |fn f caps =>
  cases caps with
  |cons=>cases he
  |nil =>
   cases hy with
   |cell h=>exact cell h he
   |fn f caps vs hl h =>
    injection he with he;injection he with e1 e2
    subst e1 e2
    have:vs=#[]:=by
     have:vs.size=0:=by simpa using hl.symm
     exact Array.eq_empty_of_size_eq_zero this
    subst this;rw[qb3];exact⟨F,.refl,hH,λρ2 H2 F2 hF=>.cell (.mem (.fn f))⟩
def fb5(H:List a8):List a7->Option (List a7×List a8)
 |[]=>some ([],H)
 |x::r=>match Ca9 H x with
  |some (y,H1)=>match fb5 H1 r with
   |some (l,H2)=>some (y::l,H2)
   |none=>none
  |none=>none
theorem Gc0 : ∀ {ys zs : List a7} {vs : List Value} {H H' : List a8} {F : Fz}, B8 W ρ H F w → ys.length = vs.length → (∀ (i : Nat) y y', ys[i]? = some y → vs[i]? = some y' → fa7 ρ H F w y y') → fb5 H ys = some (zs, H') →
  ∃F',Adv W ρ H F w ρ H' F' w/\B8 W ρ H' F' w/\zs.length=ys.length/\∀(i:Nat) z y',zs[i]?=some z->vs[i]?=some y'->∀ρ2 H2 F2,(∀b o,F' b o->F2 b o)->fa7 ρ2 H2 F2 w z y'
 |[],zs,vs,H,H',F,hH,hl,hy,he=>by
  injection he with he;injection he with e1 e2
  subst e1 e2;exact⟨F,.refl,hH,rfl,λi z y' h=>by simp at h⟩
 |y::r,zs,[],H,H',F,hH,hl,hy,he=>by simp at hl
 |y::r,zs,v::vs,H,H',F,hH,hl,hy,he=>by
  simp only[fb5] at he;cases h1:Ca9 H y with
  |none=>rw[h1] at he;cases he
  |some q =>
  obtain⟨z,H1⟩:=q;rw[h1] at he;cases h2:fb5 H1 r with
  |none=>simp only[h2] at he;cases he
  |some q2 =>
  obtain⟨zs2,H2⟩:=q2;simp only[h2] at he;injection he with he;injection he with e1 e2
  subst e1 e2;obtain⟨F1,a1,a2,a3⟩:=Sc5 hH (hy 0 y v rfl rfl) h1;obtain⟨F2,b1,b2,b3,b4⟩:=Gc0 (ys:=r) (vs:=vs) a2 (by simpa using hl) (λi y y' hy1 hy2=>(hy (i+1) y y' (by simpa using hy1) (by simpa using hy2)).adv a1) h2
  refine⟨F2,a1.trans b1,b2,by simp[b3],λi z' y' hz hy'=>?_⟩
  cases i with
  |zero =>
   simp at hz hy'
   subst hz hy';exact λρ3 H3 F3 hF=>a3 ρ3 H3 F3 λb o hb=>hF b o (b1.more b o hb)
  |succ i=>exact b4 i z' y' (by simpa using hz) (by simpa using hy')
def lc4(H:List a8):a7->Option a7
 |.tup l=>match fb5 H l with
  |some (zs,_)=>some (.tup zs)
  |none=>none
 |x=>match Ca9 H x with
  |some (z,_)=>some z
  |none=>none
theorem B8.less(hH:B8 W ρ H F w):B8 W ρ [] F w:=⟨λid b h=>by simp at h,λid id' b b' h=>by simp at h,hH.frz,hH.new⟩
theorem Adv.less{ρ':Rho}{F':Fz}{w':World}(h:Adv W ρ [] F w ρ' H' F' w'):Adv W ρ [] F w ρ' [] F' w' :=
 ⟨h.ext,λid b hb=>by simp at hb,h.more,h.new,λid b hb=>by simp at hb⟩
theorem le0{out:List a8}{x z:a7}{x':Value}{w':World}(hp:O9 W ρ [] F w x out x' w')(he:lc4 out x=some z):O9 W ρ [] F w z [] x' w':=by
 obtain⟨ρ',F',h1,h2,h3⟩:=hp;have one:∀{y:a7},fa7 ρ' out F' w' y x'->(match Ca9 out y with | some (z,_)=>some z | none=>none)=some z->O9 W ρ [] F w z [] x' w':=λ{y} hy he=>by
  cases hf:Ca9 out y with
  |none=>rw[hf] at he;cases he
  |some q =>
   obtain⟨z1,H1⟩:=q;rw[hf] at he;have he:some z1=some z:=he;injection he with he;subst he;obtain⟨F2,a1,a2,a3⟩:=Sc5 h2 hy hf;exact⟨ρ',F2,(h1.trans a1).less,a2.less,.val (a3 _ _ _ λ_ _ h=>h)⟩
 cases h3 with
 |val h =>
  cases x with
  |tup l=>cases h with | cell h=>cases h with | mem h=>cases h
  |_=>exact one h he
 |tup xs vs hl h =>
  simp only[lc4] at he;cases hf:fb5 out xs with
  |none=>rw[hf] at he;cases he
  |some q =>
   obtain⟨zs,H1⟩:=q;rw[hf] at he;have he:some (a7.tup zs)=some z:=he;injection he with he;subst he;obtain⟨F2,a1,a2,a3,a4⟩:=Gc0 (vs:=vs.toList) h2 (by simpa using hl) (λi y y' hy hy'=>h i y y' hy (by simpa using hy')) hf
   exact⟨ρ',F2,(h1.trans a1).less,a2.less,.tup _ _ (by simpa [a3] using hl) λi x x' hx hx'=>a4 i x x' hx (by simpa using hx') _ _ _ λ_ _ h=>h⟩
theorem O9.le{out:List a8}{x y:a7}{x':Value}{w':World}(hp:O9 W ρ H F w x out x' w')(h:ALe x y):O9 W ρ H F w y out x' w':=by
 obtain⟨ρ',F',h1,h2,h3⟩:=hp;exact⟨ρ',F',h1,h2,h _ _ _ _ _ h3⟩
end
def Sc6(x:a7)(out:List a8)(y:a7):Prop:=∃z,lc4 out x=some z/\ALe z y
theorem e7.conv {P : Program} {G : Nat → List Value} {f : FuncId} {S S' : Sum} (h : e7 P G f S)
  (hr:∀args blks y out,(S' args blks).run=some (y,out)->blks=[]/\out=[]/\∃x o,(S args []).run=some (x,o)/\Sc6 x o y):e7 P G f S':=by
 intro args blks y out he W ρ F w args' hH hlen hargs hG;obtain⟨rfl,rfl,x,o,h1,z,h2,h3⟩:=hr args blks y out he;obtain⟨h4,h5⟩:=h args [] x o h1 W ρ F w args' hH hlen hargs hG;exact⟨h4,h5.mono λe w' ⟨r',h6,h7⟩=>⟨r',h6,(le0 h7 h2).le h3⟩⟩
section
variable{α β γ:Type}{P:Program}{G:Nat->List Value}{f:FuncId}{c:Cod α}{d:Cod β}{e:Cod γ}
theorem le1{k k':DT (a7×List a8)}(h:e7 P G f (Ud7 k))(hk:∀y out,k'.run=some (y,out)->out=[]/\∃x o,k.run=some (x,o)/\Sc6 x o y):e7 P G f (Ud7 k'):=h.conv λargs blks y out hr=>by
 unfold Ud7 at hr
 split at hr
 ·obtain⟨e1,e2⟩:=hk y out hr;exact⟨rfl,e1,e2⟩
 ·cases hr
theorem le2{k k':α->DT (a7×List a8)}(h:e7 P G f (ca7 c k))(hk:∀a y out,(k' a).run=some (y,out)->out=[]/\∃x o,(k a).run=some (x,o)/\Sc6 x o y):e7 P G f (ca7 c k'):=h.conv λargs blks y out hr=>by
 unfold ca7 at hr
 split at hr
 ·obtain⟨a,h1,hr⟩:=G6 hr;obtain⟨g1,hr⟩:=DT.run_guard_some hr;obtain⟨e1,x,o,e2,e3⟩:=hk a y out hr;refine⟨rfl,e1,x,o,?_,e3⟩;simp only[ca7,h1,onO,g1];exact e2
 ·cases hr
theorem le3{k k':α->β->DT (a7×List a8)}(h:e7 P G f (ta3 c d k))(hk:∀a b y out,(k' a b).run=some (y,out)->out=[]/\∃x o,(k a b).run=some (x,o)/\Sc6 x o y):e7 P G f (ta3 c d k'):=h.conv λargs blks y out hr=>by
 unfold ta3 at hr
 split at hr
 ·obtain⟨a,h1,hr⟩:=G6 hr;obtain⟨b,h2,hr⟩:=G6 hr;obtain⟨g1,hr⟩:=DT.run_guard_some hr;obtain⟨g2,hr⟩:=DT.run_guard_some hr;obtain⟨e1,x,o,e2,e3⟩:=hk a b y out hr;refine⟨rfl,e1,x,o,?_,e3⟩;simp only[ta3,h1,h2,onO,g1,g2];exact e2
 ·cases hr
theorem le4{k k':α->β->γ->DT (a7×List a8)}(h:e7 P G f (Sc3 c d e k))(hk:∀a b g y out,(k' a b g).run=some (y,out)->out=[]/\∃x o,(k a b g).run=some (x,o)/\Sc6 x o y):e7 P G f (Sc3 c d e k'):=h.conv λargs blks y out hr=>by
 unfold Sc3 at hr
 split at hr
 ·obtain⟨a,h1,hr⟩:=G6 hr;obtain⟨b,h2,hr⟩:=G6 hr;obtain⟨g,h3,hr⟩:=G6 hr;obtain⟨g1,hr⟩:=DT.run_guard_some hr;obtain⟨g2,hr⟩:=DT.run_guard_some hr;obtain⟨g3,hr⟩:=DT.run_guard_some hr;obtain⟨e1,x,o,e2,e3⟩:=hk a b g y out hr;refine⟨rfl,e1,x,o,?_,e3⟩;simp only[Sc3,h1,h2,h3,onO,g1,g2,g3];exact e2
 ·cases hr
end
theorem ALe.tup{xs ys:List a7}(hl:xs.length=ys.length)(h:∀(i:Nat) x y,xs[i]?=some x->ys[i]?=some y->∀ρ H F w v,fa7 ρ H F w x v->fa7 ρ H F w y v):ALe (.tup xs) (.tup ys):=λρ H F w v hv=>by
 cases hv with
 |val hv=>cases hv with | cell hv=>cases hv with | mem hv=>cases hv
 |tup _ vs hl2 hv =>
  refine .tup _ _ (hl ▸ hl2) λi y v' hy hv'=>?_
  have hi:i<xs.length:=by
   have:=(Qde.1 hy).1
   omega
  exact h i _ y (Qdc hi) hy ρ H F w v' (hv i _ v' (Qdc hi) hv')
theorem fa7.treeLe{es n:Nat}{get get':Nat->List a7}(he:∀k,k<n->get' k=get k){ρ:Rho}{H:List a8}{F:Fz}{w:World}{v:Value}(h:fa7 ρ H F w (.tree es n get) v):fa7 ρ H F w (.tree es n get') v :=
 .cell (.mem ((ya0 (.val h)).get he))
end Go.Ev
namespace Go.Ev.L
open Go Go.Ev
def cl(p:Prop):Bool:=@decide p (Classical.propDecidable p)
theorem Le2{p:Prop}(h:p):cl p=true:=@decide_eq_true _ (Classical.propDecidable p) h
theorem jf9{p:Prop}(h:cl p=true):p:=@of_decide_eq_true _ (Classical.propDecidable p) h
def sl{α:Type}(c:Bool)(t e:α):α:=Bool.rec (motive:=λ_=>α) e t c
theorem j5{α:Type}(t e:α):sl true t e=t:=rfl
theorem L2{α:Type}(t e:α):sl false t e=e:=rfl
theorem sb4{α:Type}(c:Bool)(t e:α):sl c t e=if c=true then t else e:=by cases c<;>rfl
theorem l5{α β:Type}{f:α->β}{c:Bool}{A B:α}{a b:β}(hA:f A=a)(hB:f B=b):f (sl c A B)=sl c a b:=by cases c<;>assumption
structure CLe(x y:a7):Prop where
 m:∀F w v,ea6 F w x v->ea6 F w y v
 c:∀ρ H F w v,ea7 ρ H F w x v->ea7 ρ H F w y v
theorem CLe.refl(x:a7):CLe x x:=⟨λ_ _ _ h=>h,λ_ _ _ _ _ h=>h⟩
theorem CLe.of{x y:a7}(h:x=y):CLe x y:=h ▸ .refl x
inductive fc4:List a7->List a7->Prop
 |nil:fc4 [] []
 |cons {x y l r} (h:CLe x y) (t:fc4 l r):fc4 (x::l) (y::r)
theorem fc4.refl:∀l,fc4 l l
 |[]=>.nil
 |x::l=>.cons (.refl x) (fc4.refl l)
theorem fc4.of{l r:List a7}(h:l=r):fc4 l r:=h ▸ .refl l
theorem fc4.length{l r}(h:fc4 l r):l.length=r.length:=by induction h<;>simp_all
theorem fc4.get{l r}(h:fc4 l r):∀(i:Nat) y,r[i]?=some y->∃x,l[i]?=some x/\CLe x y:=by
 induction h with
 |nil=>intro i y hy;simp at hy
 |cons h t ih =>
  intro i y hy;cases i with
  |zero=>simp at hy;subst hy;exact⟨_,rfl,h⟩
  |succ i=>simpa using ih i y (by simpa using hy)
theorem ue2{F:Fz}{w:World}{es n:Nat}{get get':Nat->List a7}{v:Value}(h:ea6 F w (.tree es n get) v)(he:∀k,k<n->fc4 (get k) (get' k)):ea6 F w (.tree es n get') v:=by
 cases h with
 |tree _ _ _ a cap cs hs hcap hes hF hw hr =>
  refine .tree es n get' a cap cs hs hcap (λi hi=>by rw[<- (he i hi).length];exact hes i hi) hF hw (λi c hi hc=>?_)
  obtain⟨x,hx,hle⟩:=(he i hi).get c _ (Qdc hc);have hc':c<(get i).length:=(Qde.1 hx).1
  have:=hr i c hi hc'
  have e:(get i)[c]=x:=by
   have:=(Qde.1 hx).2
   exact this
  rw[e] at this;exact hle.m _ _ _ this
 |nil=>exact .nil _ _
theorem CLe.tree{es n:Nat}{get get':Nat->List a7}(he:∀k,k<n->fc4 (get k) (get' k)):CLe (.tree es n get) (.tree es n get') :=
 ⟨λ_ _ _ h=>ue2 h he,λ_ _ _ _ _ h=>by cases h with | mem h=>exact .mem (ue2 h he)⟩
theorem CLe.nilTree(es:Nat)(get:Nat->List a7):CLe (.v (.slice none 0 0)) (.tree es 0 get) :=
 ⟨λ_ _ _ h=>by cases h;exact .nil es get,λ_ _ _ _ _ h=>by cases h with
  |mem h=>cases h;exact .mem (.nil es get)
  |v=>exact .mem (.nil es get)⟩
theorem CLe.ale{x y:a7}(h:CLe x y)(hx:∀(ρ:Rho) H F w v,G0 ρ H F w x v->ea7 ρ H F w x v):ALe x y:=λρ H F w v hv=>.val (.cell (h.c _ _ _ _ _ (hx ρ H F w v hv)))
theorem ALe.rows{es n:Nat}{get get':Nat->List a7}(he:∀k,k<n->fc4 (get k) (get' k)):ALe (.tree es n get) (.tree es n get'):=λ_ _ _ _ _ h=>.val (.cell (.mem (ue2 (ya0 h) he)))
structure Ty(α:Type) where
 es:Nat
 row:α->List a7
 rd:List a7->α
 ok:List a7->Bool
 cks:List CK
 d:α
 h0:∀x,len (row x)=es
 h1:∀x,rd (row x)=x
 h2:∀x,ok (row x)=true
 h3:∀r,ok r=true->fc4 r (row (rd r))
 h4:∀x,Ka2 cks (row x)=true
 h5:∀x,e8 (row x) 0=row x
section
variable{α:Type}(t:Ty α)
@[reducible] def gL(l:List α)(k:Nat):α:=l.getD k t.d
@[reducible] def eL(l:List α):a7:=.tree t.es l.length (λk=>t.row (gL t l k))
def lsL(n:Nat)(get:Nat->List a7):List α:=(List.range n).map λk=>t.rd (get k)
def okL(n:Nat)(get:Nat->List a7):Bool:=(List.range n).all λk=>t.ok (get k)
def rL(v:a7):List α:=lsL t (toN v) (toG v)
def nL(v:a7):a7:=eL t (rL t v)
def bf4(f:a7->a7)(x:a7):Bool:=cl (x=f x)
def rt(l:List α):List α:=rL t (eL t l)
def okE(l:List α):Bool:=okL t (toN (eL t l)) (toG (eL t l))
def cnE(l:List α):Bool:=bf4 (nL t) (eL t l)
def bL(l:List α):List (List a7):=n5 t.row l
def rdR(el:List (List a7))(j:Nat):α:=t.rd (e8 (i6 el j) 0)
def ldR(el:List (List a7))(j:Nat):Bool:=Bool.and (Bool.and (Nat.blt j (len el)) (Nat.ble (0+t.es) (len (i6 el j)))) (Ka2 t.cks (e8 (i6 el j) 0))
def slR(el:List (List a7))(off n:Nat):List α:=lsL t n λk=>i6 el (off+k)
def okS(el:List (List a7))(off n:Nat):Bool:=okL t n λk=>i6 el (off+k)
theorem be8(n:Nat)(get:Nat->List a7):(lsL t n get).length=n:=by simp[lsL]
theorem be9{n k:Nat}(get:Nat->List a7)(h:k<n):gL t (lsL t n get) k=t.rd (get k):=by
 simp[gL,lsL,Qdd,Qdf,List.getElem?_range h]
theorem lc5{n:Nat}{get:Nat->List a7}{l:List α}(hn:n=l.length)(h:∀k,k<n->get k=t.row (gL t l k)):lsL t n get=l:=by
 apply List.ext_getElem
 ·simp[lsL,hn]
 ·intro k h1 h2;have hk:k<n:=by omega
  simp[lsL,h k hk,t.h1,gL,Qdd,Qdc h2]
theorem Kb6{n:Nat}{get:Nat->List a7}{f:Nat->α}(h:∀k,k<n->get k=t.row (f k)):okL t n get=true:=by
 unfold okL;rw[List.all_eq_true];intro k hk;have hk:k<n:=by simpa using hk
 rw[h k hk];exact t.h2 _
theorem i8(l:List α):rt t l=l:=lc5 t rfl λ_ _=>rfl
theorem p7(l:List α):okE t l=true:=Kb6 t (f:=λk=>gL t l k) λ_ _=>rfl
theorem n9(l:List α):cnE t l=true:=Le2 (by unfold nL;rw[show rL t (eL t l)=l from i8 t l])
theorem qa8(l:List α):len (bL t l)=l.length:=ue0 _ _
theorem ba2{l:List α}{k:Nat}(h:k<l.length):i6 (bL t l) k=t.row (gL t l k):=Fd2 t.row t.d h
theorem Vd0{l:List α}{k:Nat}(h:k<l.length):rdR t (bL t l) k=gL t l k:=by unfold rdR;rw[ba2 t h,t.h5,t.h1]
theorem Vd1{l:List α}{k:Nat}(h:k<l.length):ldR t (bL t l) k=true:=by
 unfold ldR;rw[ba2 t h,t.h5,t.h4,qa8,t.h0,Qdl,Bool.and_true];simp[Nat.blt_eq,Nat.ble_eq,h]
theorem bb0(l r:List α):app (bL t l) (bL t r)=bL t (l++r):=ue1 _ _ _
theorem zc6(l:List α):slR t (bL t l) 0 l.length=l:=lc5 t rfl λk hk=>by rw[Qdl,ba2 t hk]
theorem zc7(l:List α):okS t (bL t l) 0 l.length=true:=Kb6 t (f:=λk=>gL t l k) λk hk=>by rw[Qdl,ba2 t hk]
theorem sb5(l:List α):n5 (λk=>t.row (gL t l k)) (List.range l.length)=bL t l:=by
 unfold bL;rw[o5,o5];apply List.ext_getElem
 ·simp
 ·intro k h1 h2;have h:k<l.length:=by simpa using h1
  simp[gL,Qdd,Qdc h]
theorem Fd3(l:List α)(k:Nat)(x:α):setAt (bL t l) k (t.row x)=bL t (l.set k x):=Ud9 _ _ _ _
theorem treeLe{n:Nat}{get:Nat->List a7}(h:okL t n get=true):CLe (.tree t.es n get) (eL t (lsL t n get)):=by
 unfold eL;rw[be8];refine .tree λk hk=>?_
 rw[be9 t get hk];exact t.h3 _ (List.all_eq_true.1 h k (by simpa using hk))
theorem ce0{n:Nat}{get:Nat->List a7}(h:okL t n get=true):ALe (.tree t.es n get) (eL t (lsL t n get)):=(treeLe t h).ale λ_ _ _ _ _ h=>.mem (ya0 h)
def ba7:Cod (List α) where
 enc l:=eL t l
 dec x:=match x with
  |.tree e n get=>Bool.rec (motive:=λ_=>Option (List α)) none (some (lsL t n get)) (Nat.beq e t.es)
  |.v (.slice none 0 0)=>some []
  |.v (.slice (some _) 0 _)=>some []
  |_=>none
 grd x:=match x with
  |.tree _ n get=>okL t n get
  |_=>true
 ok x a hx hg:=by
  split at hx
  ·rename_i e n get;cases hb:Nat.beq e t.es with
   |false=>rw[hb] at hx;cases hx
   |true =>
    rw[hb] at hx;have hx:some (lsL t n get)=some a:=hx;injection hx with hx;subst hx
    have:=Qda hb
    subst this;exact ce0 t hg
  ·injection hx with hx;subst hx;exact .nilTree _ _
  ·injection hx with hx;subst hx;exact .emptyTree _ _ _ _
  ·cases hx
def hC(get:Nat->List a7):α:=t.rd (get 0)
def tC(n:Nat)(get:Nat->List a7):List α:=lsL t n λk=>get (k+1)
theorem kf0(a:α)(l:List α):hC t (λk=>t.row (gL t (a::l) k))=a:=t.h1 _
theorem kf1(a:α)(l:List α):tC t l.length (λk=>t.row (gL t (a::l) k))=l:=lc5 t rfl λk _=>rfl
theorem Fd4(n:Nat)(get:Nat->List a7):lsL t (n+1) get=hC t get::tC t n get:=by
 unfold lsL hC tC lsL;rw[List.range_succ_eq_map];simp
def ue3:Cod (α×List α) where
 enc x:=eL t (x.1::x.2)
 dec x:=match x with
  |.tree e (n+1) get=>Bool.rec (motive:=λ_=>Option (α×List α)) none (some (hC t get,tC t n get)) (Nat.beq e t.es)
  |_=>none
 grd x:=match x with
  |.tree _ n get=>okL t n get
  |_=>false
 ok x a hx hg:=by
  split at hx
  ·rename_i e n get;cases hb:Nat.beq e t.es with
   |false=>rw[hb] at hx;cases hx
   |true =>
    rw[hb] at hx;have hx:some (hC t get,tC t n get)=some a:=hx;injection hx with hx;subst hx
    have:=Qda hb
    subst this;show ALe _ (eL t (hC t get::tC t n get));rw[<- Fd4];exact ce0 t hg
  ·cases hx
def oa3:Cod α where
 enc x:=.agg (t.row x)
 dec x:=match x with
  |.agg cs=>Bool.rec (motive:=λ_=>Option α) none (some (t.rd cs)) (t.ok cs)
  |_=>none
 grd _:=true
 ok x a hx _:=by
  split at hx
  ·rename_i cs;cases hb:t.ok cs with
   |false=>rw[hb] at hx;cases hx
   |true =>
    rw[hb] at hx;have hx:some (t.rd cs)=some a:=hx;injection hx with hx;subst hx;have h3:=t.h3 cs hb;intro ρ H F w v hv;obtain⟨vs,rfl,hl,hr⟩:=Ca8 hv;refine .val (.agg _ _ (by rw[<- h3.length];exact hl) λi y v' hy hv'=>?_)
    obtain⟨x,hx,hle⟩:=h3.get i y hy;exact hle.c _ _ _ _ _ (hr i x v' hx hv')
  ·cases hx
end
def tLs{α:Type}(t:Ty α):Ty (List α) where
 es:=1
 row l:=[eL t l]
 rd r:=rL t (hdA r)
 ok r:=match r with
  |[.tree e n get]=>Bool.and (Nat.beq e t.es) (okL t n get)
  |[.v (.slice none 0 0)]=>true
  |_=>false
 cks:=[.sl t.es]
 d:=[]
 h0 _:=rfl
 h1 l:=i8 t l
 h2 l:=by
  show Bool.and (Nat.beq t.es t.es) (okL t l.length λk=>t.row (gL t l k))=true
  rw[Nat.beq_refl,Bool.true_and];exact Kb6 t (f:=λk=>gL t l k) λ_ _=>rfl
 h3 r h:=by
  split at h
  ·rename_i e n get;rw[Qdb] at h
   have:=Qda h.1
   subst this;exact .cons (treeLe t h.2) .nil
  ·exact .cons (CLe.nilTree _ _) .nil
  ·cases h
 h4 l:=by
  show Bool.and (Nat.beq t.es t.es) true=true;rw[Nat.beq_refl];rfl
 h5 _:=rfl
def tI:Ty Int where
 es:=1
 row n:=[i n]
 rd r:=toI (hdA r)
 ok r:=match r with
  |[.v (.int .i64 _)]=>true
  |_=>false
 cks:=[.int .i64]
 d:=0
 h0 _:=rfl
 h1 _:=rfl
 h2 _:=rfl
 h3 r h:=by
  split at h
  ·exact .refl _
  ·cases h
 h4 _:=rfl
 h5 _:=rfl
def Ea4(n:Nat)(l:List a7):Bool:=Nat.rec (motive:=λ_=>List a7->Bool)
 (λl=>List.rec (motive:=λ_=>Bool) true (λ_ _ _=>false) l)
 (λ_ ih l=>List.rec (motive:=λ_=>Bool) false (λx r _=>Bool.and (fc1 (.int .i64) x) (ih r)) l) n l
def ue4(n:Nat)(l:List a7):List a7:=Nat.rec (motive:=λ_=>List a7->List a7) (λ_=>[]) (λ_ ih l=>i (toI (hdA l))::ih (tlA l)) n l
theorem bb1:∀{n:Nat} {l:List a7},Ea4 n l=true->l=ue4 n l
 |0,[],_=>rfl
 |0,x::r,h=>by cases h
 |n+1,[],h=>by cases h
 |n+1,x::r,h=>by
  have h:Bool.and (fc1 (.int .i64) x) (Ea4 n r)=true:=h;rw[Qdb] at h;show x::r=i (toI x)::ue4 n r;rw[<- bb1 h.2];have h1:=h.1;cases x with
  |v y=>cases y with
   |int k m =>
    have h1:decide (IntKind.i64=k)=true:=h1;rw[<- of_decide_eq_true h1];rfl
   |_=>cases h1
  |_=>cases h1
inductive Dis (H:List a8):List a8->Prop
 |refl:Dis H H
 |step {H'} (id:Nat) (h:Dis H H'):Dis H (disown H' id)
theorem ud1(H:List a8)(id j g:Nat):blkAt (disown H id) j g=(blkAt H j g).map λb=>if j=id then { b with own:=false } else b:=by
 unfold blkAt disown modAt;cases hb:nth H id with
 |none =>
  simp only[];cases hj:nth H j with
  |none=>rfl
  |some b =>
   have:j≠id:=λh=>by subst h;rw[hb] at hj;cases hj
   simp only[this,if_false];cases b.dead<;>simp only[]<;>first | rfl | (cases Nat.beq b.g g<;>rfl)
 |some c =>
  simp only[D6,E7];by_cases h:j=id
  ·subst h;have hb':H[j]?=some c:=by rw[<- D6];exact hb
   have hlt:j<H.length:=(Qde.1 hb').1;simp only[Qdt hlt,hb',if_true];obtain⟨et,es,el,ow,de,g'⟩:=c;cases de<;>simp only[]<;>first | rfl | (cases Nat.beq g' g<;>rfl)
  ·rw[Qdu (λe=>h e.symm)]
   cases hj:H[j]? with
   |none=>rfl
   |some b =>
    simp only[h,if_false];cases b.dead<;>simp only[]<;>first | rfl | (cases Nat.beq b.g g<;>rfl)
structure R1(ρ:Type) where
 enc:ρ->a7
 rd:List a8->a7->Option ρ
 d:ρ
 le:∀H x r,rd H x=some r->∃z H',Ca9 H x=some (z,H')/\Dis H H'/\∀ρ' H2 F w v,fa7 ρ' H2 F w z v->fa7 ρ' H2 F w (enc r) v
 dis:∀H id x,rd (disown H id) x=rd H x
theorem R1.diss{ρ:Type}(R:R1 ρ){H H':List a8}(h:Dis H H')(x:a7):R.rd H' x=R.rd H x:=by
 induction h with
 |refl=>rfl
 |step id h ih=>rw[R.dis,ih]
theorem CLe.v{x y:a7}(h:CLe x y)(hx:∀(ρ:Rho) H F w v,fa7 ρ H F w x v->ea7 ρ H F w x v):∀ρ' H2 F w v,fa7 ρ' H2 F w x v->fa7 ρ' H2 F w y v:=λ_ _ _ _ _ hv=>.cell (h.c _ _ _ _ _ (hx _ _ _ _ _ hv))
def r1K(k:IntKind):R1 Int where
 enc n:=.v (.int k n)
 rd _ x:=match x with
  |.v (.int k' n)=>Bool.rec (motive:=λ_=>Option Int) none (some n) (decide (k=k'))
  |_=>none
 d:=0
 le H x r h:=by
  split at h
  ·rename_i k' n;cases hb:decide (k=k') with
   |false=>rw[hb] at h;cases h
   |true =>
    rw[hb] at h;have h:some n=some r:=h;injection h with h;subst h
    have:=of_decide_eq_true hb
    subst this;exact⟨_,H,rfl,.refl,λ_ _ _ _ _ h=>h⟩
  ·cases h
 dis _ _ _:=rfl
def r1I:R1 Int:=r1K .i64
def r1B:R1 Bool where
 enc n:=b n
 rd _ x:=match x with
  |.v (.bool n)=>some n
  |_=>none
 d:=false
 le H x r h:=by
  split at h
  ·injection h with h;subst h;exact⟨_,H,rfl,.refl,λ_ _ _ _ _ h=>h⟩
  ·cases h
 dis _ _ _:=rfl
theorem Sc7(H:List a8):∀(n:Nat) (l:List a7),Ea4 n l=true->freezeCells H l=some (l,H)
 |0,[],_=>rfl
 |0,x::r,h=>by cases h
 |n+1,[],h=>by cases h
 |n+1,x::r,h=>by
  have e:=bb1 h;have h:Bool.and (fc1 (.int .i64) x) (Ea4 n r)=true:=h;rw[Qdb] at h;have e1:x=i (toI x):=(List.cons.inj e).1;simp only[freezeCells];rw[e1];simp only[freezeCell,cd9,Sc7 H n r h.2]
section
variable{α:Type}(t:Ty α)
def r1A(n:Nat)(ht:∀r,Ea4 n r=true->t.ok r=true):R1 α where
 enc x:=.agg (t.row x)
 rd _ x:=match x with
  |.agg cs=>Bool.rec (motive:=λ_=>Option α) none (some (t.rd cs)) (Ea4 n cs)
  |_=>none
 d:=t.d
 le H x r h:=by
  split at h
  ·rename_i cs;cases hb:Ea4 n cs with
   |false=>rw[hb] at h;cases h
   |true =>
    rw[hb] at h;have h:some (t.rd cs)=some r:=h;injection h with h;subst h;have h3:=t.h3 cs (ht cs hb);refine⟨.agg cs,H,?_,.refl,λρ' H2 F w v hv=>?_⟩
    ·simp only[Ca9,Sc7 H n cs hb]
    ·obtain⟨vs,rfl,hl,hr⟩:=Ca8 (.val hv);refine .agg _ _ (by rw[<- h3.length];exact hl) λi y v' hy hv'=>?_
     obtain⟨x,hx,hle⟩:=h3.get i y hy;exact hle.c _ _ _ _ _ (hr i x v' hx hv')
  ·cases h
 dis _ _ _:=rfl
def r1L:R1 (List α) where
 enc l:=eL t l
 rd H x:=match x with
  |.v (.slice none 0 0)=>some []
  |.tree e n get=>Bool.rec (motive:=λ_=>Option (List α)) none (some (lsL t n get)) (Bool.and (Nat.beq e t.es) (okL t n get))
  |.sl id off n g=>match blkAt H id g with
   |some b=>Bool.rec (motive:=λ_=>Option (List α)) none (some (slR t b.elems off n)) (Bool.and (Nat.beq b.es t.es) (okS t b.elems off n))
   |none=>none
  |_=>none
 d:=[]
 le H x r h:=by
  split at h
  ·injection h with h;subst h;exact⟨_,H,rfl,.refl,(CLe.nilTree _ _).v λ_ _ _ _ _ h=>by cases h with | cell h=>exact h⟩
  ·rename_i e n get;cases hb:Bool.and (Nat.beq e t.es) (okL t n get) with
   |false=>rw[hb] at h;cases h
   |true =>
    rw[hb] at h;have h:some (lsL t n get)=some r:=h;injection h with h;subst h;rw[Qdb] at hb
    have:=Qda hb.1
    subst this;exact⟨_,H,rfl,.refl,(treeLe t hb.2).v λ_ _ _ _ _ h=>by cases h with | cell h=>exact h⟩
  ·rename_i id off n g;cases hk:blkAt H id g with
   |none=>simp only[hk] at h;cases h
   |some b =>
    simp only[hk] at h;cases hb:Bool.and (Nat.beq b.es t.es) (okS t b.elems off n) with
    |false=>rw[hb] at h;cases h
    |true =>
     rw[hb] at h;have h:some (slR t b.elems off n)=some r:=h;injection h with h;subst h;rw[Qdb] at hb
     have:=Qda hb.1
     refine⟨Tb3 b off n,disown H id,?_,.step id .refl,?_⟩
     ·simp only[Ca9,freezeCell,hk]
     ·unfold Tb3;rw[this];exact (treeLe t hb.2).v λ_ _ _ _ _ h=>by cases h with | cell h=>exact h
  ·cases h
 dis H id x:=by
  cases x with
  |sl id' off n g =>
   simp only[ud1];cases blkAt H id' g with
   |none=>rfl
   |some b =>
    simp only[Option.map]
    split<;>rfl
  |v y=>cases y with
   |slice a n c=>cases a<;>cases n<;>cases c<;>rfl
   |_=>rfl
  |_=>rfl
end
structure RR(ρ:Type) where
 enc:ρ->a7
 rd:a7×List a8->Option ρ
 d:ρ
 le:∀x o r,rd (x,o)=some r->Sc6 x o (enc r)
theorem Fd5{H:List a8}{l:List a7}{z:a7×List a8}(h:Ca9 H (.tup l)=some z):False:=by cases h
theorem Fd6{H:List a8}{x z:a7}{H':List a8}(h:Ca9 H x=some (z,H')):lc4 H x=some z:=by
 cases x with
 |tup l=>exact (Fd5 h).elim
 |_=>simp only[lc4,h]
theorem bf5{x y:a7}(h:∀ρ' H2 F w v,fa7 ρ' H2 F w x v->fa7 ρ' H2 F w y v)(hx:∀l,x≠.tup l):ALe x y:=λρ H F w v hv=>by
 cases hv with
 |val hv=>exact .val (h _ _ _ _ _ hv)
 |tup xs=>exact absurd rfl (hx xs)
theorem ud2{H H':List a8}{x z:a7}(h:Ca9 H x=some (z,H')):∀l,z≠.tup l:=λl e=>by
 subst e;unfold Ca9 at h
 split at h
 ·split at h<;>cases h
 ·unfold freezeCell at h
  split at h
  ·split at h<;>cases h
  ·cases h
  ·cases h
  ·split at h
   ·simp only[Tb3] at h;cases h
   ·cases h
  ·cases h
def one{ρ:Type}(a:R1 ρ):RR ρ where
 enc:=a.enc
 rd r:=a.rd r.2 r.1
 d:=a.d
 le x o r h:=by
  obtain⟨z,H',h1,_,h2⟩:=a.le o x r h;exact⟨z,Fd6 h1,bf5 h2 (ud2 h1)⟩
def two{ρ σ:Type}(a:R1 ρ)(c:R1 σ):RR (ρ×σ) where
 enc r:=.tup [a.enc r.1,c.enc r.2]
 rd r:=match r.1 with
  |.tup [x,y]=>Option.rec (motive:=λ_=>Option (ρ×σ)) none (λu=>Option.rec (motive:=λ_=>Option (ρ×σ)) none (λv=>some (u,v)) (c.rd r.2 y)) (a.rd r.2 x)
  |_=>none
 d:=(a.d,c.d)
 le q o r h:=by
  split at h
  ·rename_i x y e
   simp only at e
   subst e;cases hu:a.rd o x with
   |none=>rw[hu] at h;cases h
   |some u =>
   cases hv:c.rd o y with
   |none=>rw[hu,hv] at h;cases h
   |some v =>
   rw[hu,hv] at h;have h:some (u,v)=some r:=h;injection h with h;subst h;obtain⟨z1,H1,h1,d1,l1⟩:=a.le o x u hu;obtain⟨z2,H2,h2,d2,l2⟩:=c.le H1 y v (by rw[c.diss d1];exact hv)
   refine⟨.tup [z1,z2],by simp only[lc4,fb5,h1,h2],ALe.tup rfl λk p q hp hq=>?_⟩
   match k,hp,hq with
   |0,hp,hq=>cases hp;cases hq;exact l1
   |1,hp,hq=>cases hp;cases hq;exact l2
  ·cases h
def Fd7{ρ σ τ:Type}(a:R1 ρ)(c:R1 σ)(e:R1 τ):RR (ρ×σ×τ) where
 enc r:=.tup [a.enc r.1,c.enc r.2.1,e.enc r.2.2]
 rd r:=match r.1 with
  |.tup [x,y,z]=>Option.rec (motive:=λ_=>Option (ρ×σ×τ)) none (λu=>Option.rec (motive:=λ_=>Option (ρ×σ×τ)) none (λv=>Option.rec (motive:=λ_=>Option (ρ×σ×τ)) none (λw=>some (u,v,w)) (e.rd r.2 z)) (c.rd r.2 y)) (a.rd r.2 x)
  |_=>none
 d:=(a.d,c.d,e.d)
 le q o r h:=by
  split at h
  ·rename_i x y z e0
   simp only at e0
   subst e0;cases hu:a.rd o x with
   |none=>rw[hu] at h;cases h
   |some u =>
   cases hv:c.rd o y with
   |none=>rw[hu,hv] at h;cases h
   |some v =>
   cases hw:e.rd o z with
   |none=>rw[hu,hv,hw] at h;cases h
   |some w =>
   rw[hu,hv,hw] at h;have h:some (u,v,w)=some r:=h;injection h with h;subst h;obtain⟨z1,H1,h1,d1,l1⟩:=a.le o x u hu;obtain⟨z2,H2,h2,d2,l2⟩:=c.le H1 y v (by rw[c.diss d1];exact hv)
   obtain⟨z3,H3,h3,d3,l3⟩:=e.le H2 z w (by rw[e.diss d2,e.diss d1];exact hw)
   refine⟨.tup [z1,z2,z3],by simp only[lc4,fb5,h1,h2,h3],ALe.tup rfl λk p q hp hq=>?_⟩
   match k,hp,hq with
   |0,hp,hq=>cases hp;cases hq;exact l1
   |1,hp,hq=>cases hp;cases hq;exact l2
   |2,hp,hq=>cases hp;cases hq;exact l3
  ·cases h
def okO{ρ:Type}(R:RR ρ)(o:Option (a7×List a8)):Bool:=Option.rec (motive:=λ_=>Bool) false (λr=>Option.rec (motive:=λ_=>Bool) false (λ_=>true) (R.rd r)) o
def Q5{ρ:Type}(R:RR ρ)(o:Option (a7×List a8)):ρ:=Option.rec (motive:=λ_=>ρ) R.d (λr=>Option.rec (motive:=λ_=>ρ) R.d (λx=>x) (R.rd r)) o
@[reducible] def rdO{ρ:Type}(R:RR ρ)(o:Option (a7×List a8)):DT (a7×List a8):=.guard (okO R o) (.ret (R.enc (Q5 R o),[]))
theorem Sc8{ρ:Type}{R:RR ρ}{o:Option (a7×List a8)}{y:a7}{out:List a8}(h:(rdO R o).run=some (y,out)):out=[]/\∃x o',o=some (x,o')/\Sc6 x o' y:=by
 obtain⟨h1,h2⟩:=DT.run_guard_some h;have h2:some (R.enc (Q5 R o),([]:List a8))=some (y,out):=h2;injection h2 with h2;injection h2 with e1 e2;subst e1 e2
 refine⟨rfl,?_⟩;cases o with
 |none=>cases h1
 |some r =>
  obtain⟨x,o'⟩:=r;refine⟨x,o',rfl,?_⟩;cases hr:R.rd (x,o') with
  |none=>simp only[okO,hr] at h1;cases h1
  |some q =>
   simp only[Q5,hr];exact R.le x o' q hr
theorem db9{α:Type}(o:Option α):(DT.ofOption o).run=o:=by cases o<;>rfl
section
variable{α β γ δ ε ζ:Type}{P:Program}{G:Nat->List Value}{f:FuncId}{R0:Sum}{c:Cod α}{d:Cod β}{e:Cod γ}{c4:Cod δ}{c5:Cod ε}{c6:Cod ζ}{ρ:Type}
theorem tf2(hb:e7 P G f R0)(R:RR ρ){o:Option (a7×List a8)}(h:∀r,o=some r->(R0 [] []).run=some r):e7 P G f (Ud7 (rdO R o)) :=
 le1 (Ke8 hb (k:=DT.ofOption o) λr hr=>h r (by rw[db9] at hr;exact hr)) λy out hr=>by
  obtain⟨e,x,o',h1,h2⟩:=Sc8 hr;exact⟨e,x,o',by rw[db9,h1],h2⟩
theorem Ta0(hb:e7 P G f R0)(R:RR ρ){o:α->Option (a7×List a8)}(h:∀a r,o a=some r->(R0 [c.enc a] []).run=some r):e7 P G f (ca7 c λa=>rdO R (o a)) :=
 le2 (Kb5 hb (k:=λa=>DT.ofOption (o a)) λa r hr=>h a r (by rw[db9] at hr;exact hr)) λa y out hr=>by
  obtain⟨e,x,o',h1,h2⟩:=Sc8 hr;exact⟨e,x,o',by rw[db9,h1],h2⟩
theorem Gb0(hb:e7 P G f R0)(R:RR ρ){o:α->β->Option (a7×List a8)}(h:∀a b r,o a b=some r->(R0 [c.enc a,d.enc b] []).run=some r):e7 P G f (ta3 c d λa b=>rdO R (o a b)) :=
 le3 (Ia9 hb (k:=λa b=>DT.ofOption (o a b)) λa b r hr=>h a b r (by rw[db9] at hr;exact hr)) λa b y out hr=>by
  obtain⟨e,x,o',h1,h2⟩:=Sc8 hr;exact⟨e,x,o',by rw[db9,h1],h2⟩
theorem Le3(hb:e7 P G f R0)(R:RR ρ){o:α->β->γ->Option (a7×List a8)}(h:∀a b g r,o a b g=some r->(R0 [c.enc a,d.enc b,e.enc g] []).run=some r):e7 P G f (Sc3 c d e λa b g=>rdO R (o a b g)) :=
 le4 (Ke9 hb (k:=λa b g=>DT.ofOption (o a b g)) λa b g r hr=>h a b g r (by rw[db9] at hr;exact hr)) λa b g y out hr=>by
  obtain⟨e,x,o',h1,h2⟩:=Sc8 hr;exact⟨e,x,o',by rw[db9,h1],h2⟩
end
inductive K where
 |o (k:Sk)
 |c (es:Nat) (f:a7->a7)
def isK:K->a7->Bool
 |.o k,x=>bf2 k x
 |.c es _,.tree es' _ _=>Nat.beq es es'
 |.c _ _,_=>false
def asK:K->a7->a7
 |.o k,x=>jf7 k x
 |.c _ f,x=>f x
def cnK(k:K)(x:a7)(z:Bool):Bool:=match k with
 |.o _=>z
 |.c _ f=>Bool.and (bf4 f x) z
theorem ue5{k:K}{x:a7}{z:Bool}(h:isK k x=true)(hc:cnK k x z=true):x=asK k x/\z=true:=by
 cases k with
 |o k=>exact⟨Le0 h,hc⟩
 |c es f =>
  have hc:Bool.and (bf4 f x) z=true:=hc;rw[Qdb] at hc;exact⟨jf9 hc.1,hc.2⟩
def Vd2(ks:List K):List a7->Bool :=
 List.rec (motive:=λ_=>List a7->Bool) (λl=>List.rec (motive:=λ_=>Bool) true (λ_ _ _=>false) l)
  (λk _ ih l=>List.rec (motive:=λ_=>Bool) false (λx r _=>Bool.and (isK k x) (ih r)) l) ks
def Fd8(ks:List K):List a7->List a7 :=
 List.rec (motive:=λ_=>List a7->List a7) (λ_=>[]) (λk _ ih l=>asK k (hdA l)::ih (tlA l)) ks
def Vd3(z:Bool)(ks:List K):List a7->Bool :=
 List.rec (motive:=λ_=>List a7->Bool) (λ_=>z) (λk _ ih l=>cnK k (hdA l) (ih (tlA l))) ks
theorem sc0{z:Bool}:∀{ks:List K} {l:List a7},Vd2 ks l=true->Vd3 z ks l=true->l=Fd8 ks l/\z=true
 |[],[],_,hc=>⟨rfl,hc⟩
 |[],x::r,h,_=>by cases h
 |k::ks,[],h,_=>by cases h
 |k::ks,x::r,h,hc=>by
  have h:Bool.and (isK k x) (Vd2 ks r)=true:=h;rw[Qdb] at h;have hc:cnK k x (Vd3 z ks r)=true:=hc;obtain⟨e1,h2⟩:=ue5 h.1 hc;obtain⟨e2,h3⟩:=sc0 h.2 h2;refine⟨?_,h3⟩;show x::r=asK k x::Fd8 ks r;rw[<- e1,<- e2]
inductive S2 where
 |s (k:K)
 |agg (l:List K)
 |tup (l:List K)
 |fn (f:Nat) (l:List K)
def isS:S2->a7->Bool
 |.s k,x=>isK k x
 |.agg l,.agg r=>Vd2 l r
 |.tup l,.tup r=>Vd2 l r
 |.fn f l,.fn f' r=>Bool.and (Nat.beq f f') (Vd2 l r)
 |_,_=>false
def asS:S2->a7->a7
 |.s k,x=>asK k x
 |.agg l,x=>.agg (Fd8 l (cellsOf x))
 |.tup l,x=>.tup (Fd8 l (cellsOf x))
 |.fn f l,x=>.fn f (Fd8 l (cellsOf x))
def cnS(k:S2)(x:a7)(z:Bool):Bool:=match k with
 |.s k=>cnK k x z
 |.agg l=>Vd3 z l (cellsOf x)
 |.tup l=>Vd3 z l (cellsOf x)
 |.fn _ l=>Vd3 z l (cellsOf x)
theorem bf6{k:S2}{x:a7}{z:Bool}(h:isS k x=true)(hc:cnS k x z=true):x=asS k x/\z=true:=by
 unfold isS at h
 split at h
 ·exact ue5 h hc
 ·rename_i l r;obtain⟨e,hz⟩:=sc0 h hc;exact⟨congrArg a7.agg e,hz⟩
 ·rename_i l r;obtain⟨e,hz⟩:=sc0 h hc;exact⟨congrArg a7.tup e,hz⟩
 ·rename_i f l f' r;rw[Qdb] at h;obtain⟨e,hz⟩:=sc0 h.2 hc;refine⟨?_,hz⟩;show a7.fn f' r=.fn f (Fd8 l r);rw[<- e,Qda h.1]
 ·cases h
def ue6(ks:List S2):List a7->Bool :=
 List.rec (motive:=λ_=>List a7->Bool) (λl=>List.rec (motive:=λ_=>Bool) true (λ_ _ _=>false) l)
  (λk _ ih l=>List.rec (motive:=λ_=>Bool) false (λx r _=>Bool.and (isS k x) (ih r)) l) ks
def le5(ks:List S2):List a7->List a7 :=
 List.rec (motive:=λ_=>List a7->List a7) (λ_=>[]) (λk _ ih l=>asS k (hdA l)::ih (tlA l)) ks
def Le4(z:Bool)(ks:List S2):List a7->Bool :=
 List.rec (motive:=λ_=>List a7->Bool) (λ_=>z) (λk _ ih l=>cnS k (hdA l) (ih (tlA l))) ks
theorem ce1{z:Bool}:∀{ks:List S2} {l:List a7},ue6 ks l=true->Le4 z ks l=true->l=le5 ks l/\z=true
 |[],[],_,hc=>⟨rfl,hc⟩
 |[],x::r,h,_=>by cases h
 |k::ks,[],h,_=>by cases h
 |k::ks,x::r,h,hc=>by
  have h:Bool.and (isS k x) (ue6 ks r)=true:=h;rw[Qdb] at h;have hc:cnS k x (Le4 z ks r)=true:=hc;obtain⟨e1,h2⟩:=bf6 h.1 hc;obtain⟨e2,h3⟩:=ce1 h.2 h2;refine⟨?_,h3⟩;show x::r=asS k x::le5 ks r;rw[<- e1,<- e2]
def bf7(ks:List (List K)):List (List a7)->Bool :=
 List.rec (motive:=λ_=>List (List a7)->Bool) (λl=>List.rec (motive:=λ_=>Bool) true (λ_ _ _=>false) l)
  (λk _ ih l=>List.rec (motive:=λ_=>Bool) false (λx r _=>Bool.and (Vd2 k x) (ih r)) l) ks
def Le5(ks:List (List K)):List (List a7)->List (List a7) :=
 List.rec (motive:=λ_=>List (List a7)->List (List a7)) (λ_=>[]) (λk _ ih l=>Fd8 k (hdR l)::ih (tlR l)) ks
def bf8(z:Bool)(ks:List (List K)):List (List a7)->Bool :=
 List.rec (motive:=λ_=>List (List a7)->Bool) (λ_=>z) (λk _ ih l=>Vd3 (ih (tlR l)) k (hdR l)) ks
theorem ce2{z:Bool}:∀{ks:List (List K)} {l:List (List a7)},bf7 ks l=true->bf8 z ks l=true->l=Le5 ks l/\z=true
 |[],[],_,hc=>⟨rfl,hc⟩
 |[],x::r,h,_=>by cases h
 |k::ks,[],h,_=>by cases h
 |k::ks,x::r,h,hc=>by
  have h:Bool.and (Vd2 k x) (bf7 ks r)=true:=h;rw[Qdb] at h;have hc:Vd3 (bf8 z ks r) k x=true:=hc;obtain⟨e1,h2⟩:=sc0 h.1 hc;obtain⟨e2,h3⟩:=ce2 h.2 h2;refine⟨?_,h3⟩;show x::r=Fd8 k x::Le5 ks r;rw[<- e1,<- e2]
def ru2(n:Nat)(l:List S2):List S2:=Nat.rec (motive:=λ_=>List S2) l (λ_ ih=>.s (.o .unk)::ih) n
structure B2 where
 et:Nat
 es:Nat
 own:Bool
 rows:Option (List (List K))
@[reducible] def isE(o:Option (List (List K)))(l:List (List a7)):Bool:=Option.rec (motive:=λ_=>Bool) true (λks=>bf7 ks l) o
@[reducible] def asE(o:Option (List (List K)))(l:List (List a7)):List (List a7):=Option.rec (motive:=λ_=>List (List a7)) l (λks=>Le5 ks l) o
@[reducible] def cnO(o:Option (List (List K)))(l:List (List a7))(z:Bool):Bool:=Option.rec (motive:=λ_=>Bool) z (λks=>bf8 z ks l) o
def isB(k:B2)(x:a8):Bool :=
 Bool.and (Bool.and (Nat.beq k.et x.et) (Nat.beq k.es x.es)) (Bool.and (eqB k.own x.own) (Bool.and (!x.dead) (Bool.and (Nat.beq x.g 0) (isE k.rows x.elems))))
theorem bf9{k:B2}{x:a8}{z:Bool}(h:isB k x=true)(hc:cnO k.rows x.elems z=true):x=⟨k.et,k.es,asE k.rows x.elems,k.own,false,0⟩/\z=true:=by
 unfold isB at h;simp only[Qdb] at h;obtain⟨⟨h1,h2⟩,h3,h4,h5,h6⟩:=h;have h1:=Qda h1;have h2:=Qda h2;have h5:=Qda h5;have h4:x.dead=false:=by simpa using h4
 obtain⟨et,es,el,ow,de,g⟩:=x;obtain⟨et',es',ow',rows⟩:=k
 simp only at *
 subst h1 h2 h4 h5;have h3:ow'=ow:=by cases ow'<;>cases ow<;>first | rfl | cases h3
 subst h3;cases rows with
 |none=>exact⟨rfl,hc⟩
 |some ks =>
  obtain⟨e,hz⟩:=ce2 h6 hc;refine⟨?_,hz⟩;show _=(⟨et',es',Le5 ks el,ow',false,0⟩:a8);rw[<- e]
def ue7(ks:List B2):List a8->Bool :=
 List.rec (motive:=λ_=>List a8->Bool) (λl=>List.rec (motive:=λ_=>Bool) true (λ_ _ _=>false) l)
  (λk _ ih l=>List.rec (motive:=λ_=>Bool) false (λx r _=>Bool.and (isB k x) (ih r)) l) ks
def le6(ks:List B2):List a8->List a8 :=
 List.rec (motive:=λ_=>List a8->List a8) (λ_=>[]) (λk _ ih l=>⟨k.et,k.es,asE k.rows (hdB l),k.own,false,0⟩::ih (tlB l)) ks
def Le6(z:Bool)(ks:List B2):List a8->Bool :=
 List.rec (motive:=λ_=>List a8->Bool) (λ_=>z) (λk _ ih l=>cnO k.rows (hdB l) (ih (tlB l))) ks
theorem ce3{z:Bool}:∀{ks:List B2} {l:List a8},ue7 ks l=true->Le6 z ks l=true->l=le6 ks l/\z=true
 |[],[],_,hc=>⟨rfl,hc⟩
 |[],x::r,h,_=>by cases h
 |k::ks,[],h,_=>by cases h
 |k::ks,x::r,h,hc=>by
  have h:Bool.and (isB k x) (ue7 ks r)=true:=h;rw[Qdb] at h;have hc:cnO k.rows x.elems (Le6 z ks r)=true:=hc;obtain⟨e1,h2⟩:=bf9 h.1 hc;obtain⟨e2,h3⟩:=ce3 h.2 h2;refine⟨?_,h3⟩;show x::r=⟨k.et,k.es,asE k.rows x.elems,k.own,false,0⟩::le6 ks r;rw[<- e1,<- e2]
structure Al2(π σ:Type) where
 sh:List S2
 bl:List B2
 rd:List a7->List a8->π×σ
def Le7{π σ:Type}(l:List (Al2 π σ))(t:St):DT (π×σ) :=
 List.rec (motive:=λ_=>DT (π×σ)) .fail
  (λx _ ih=>Bool.rec (motive:=λ_=>DT (π×σ)) ih (.guard (Le4 (Le6 true x.bl t.H) x.sh t.a) (.ret (x.rd t.a t.H))) (Bool.and (ue6 x.sh t.a) (ue7 x.bl t.H))) l
theorem ud3 {π σ : Type} {enc : π → σ → St} {t : St} {q : π × σ} : ∀ {l : List (Al2 π σ)}, (∀ x, x ∈ l → ∀ a H, (⟨le5 x.sh a, le6 x.bl H⟩ : St) = enc (x.rd a H).1 (x.rd a H).2) →
  (Le7 l t).run=some q->t=enc q.1 q.2
 |[],_,h=>by cases h
 |x::l,hl,h=>by
  have h:(Bool.rec (motive:=λ_=>DT (π×σ)) (Le7 l t) (.guard (Le4 (Le6 true x.bl t.H) x.sh t.a) (.ret (x.rd t.a t.H))) (Bool.and (ue6 x.sh t.a) (ue7 x.bl t.H))).run=some q:=h
  cases hb:Bool.and (ue6 x.sh t.a) (ue7 x.bl t.H) with
  |false=>rw[hb] at h;exact ud3 (λy hy=>hl y (.tail _ hy)) h
  |true =>
   rw[hb] at h;obtain⟨h1,h2⟩:=DT.run_guard_some h;cases h2;rw[Qdb] at hb;obtain⟨e1,h3⟩:=ce1 hb.1 h1;obtain⟨e2,_⟩:=ce3 hb.2 h3;rw[<- hl x (.head _) t.a t.H,<- e1,<- e2]
def Ta1{π:Type}(x:Al2 π Unit)(k:π->DT (a7×List a8)):Sum:=λargs blks=>(Le7 [x] ⟨args,blks⟩).bind λq=>k q.1
theorem L3 {P : Program} {G : Nat → List Value} {f : FuncId} {R : Sum} {π : Type} {x : Al2 π Unit} {enc : π → St} {k : π → DT (a7 × List a8)}
  (hx:∀a H,(⟨le5 x.sh a,le6 x.bl H⟩:St)=enc (x.rd a H).1) (hb:e7 P G f R)
  (h:∀p r,(k p).run=some r->(R (enc p).a (enc p).H).run=some r):e7 P G f (Ta1 x k):=hb.le λargs blks r hr=>by
 obtain⟨q,h1,h2⟩:=DT.run_bind_some hr;have e:=ud3 (enc:=λp _=>enc p) (Ua5.mem (.cons hx .nil)) h1
 have:=h q.1 r h2
 rw[<- e] at this;exact this
@[reducible] def slT(l:List a7)(n:Nat):a7:=hdA (Nat.rec (motive:=λ_=>List a7->List a7) (λl=>l) (λ_ ih l=>ih (tlA l)) n l)
@[reducible] def rwT(l:List (List a7))(n:Nat):List a7:=hdR (Nat.rec (motive:=λ_=>List (List a7)->List (List a7)) (λl=>l) (λ_ ih l=>ih (tlR l)) n l)
@[reducible] def elT(l:List a8)(n:Nat):List (List a7):=hdB (Nat.rec (motive:=λ_=>List a8->List a8) (λl=>l) (λ_ ih l=>ih (tlB l)) n l)
@[reducible] def xit(o:Option Nat):c9:=Option.rec (motive:=λ_=>c9) .ret (λid=>.exit id) o
theorem cf0(o:Option Nat):xit o≠.normal:=by cases o<;>exact λh=>by cases h
abbrev Xs(π σ:Type):=List (Option Nat×(π->σ->St))
def xOf{π σ:Type}(xs:Xs π σ)(p:π)(s:σ)(t:Nat):Nat->Option (c9×St) :=
 List.rec (motive:=λ_=>Nat->Option (c9×St)) (λ_=>none) (λx _ ih k=>sel (Nat.beq t k) (some (xit x.1,x.2 p s)) (ih (k+1))) xs
def cf1{π σ:Type}(xs:Xs π σ)(p:π)(r:Nat×σ):Nat->DT (c9×St) :=
 List.rec (motive:=λ_=>Nat->DT (c9×St)) (λ_=>.fail) (λx _ ih k=>.ite (Nat.beq r.1 k) (.ret (xit x.1,x.2 p r.2)) (ih (k+1))) xs
theorem Fd9{π σ:Type}(p:π)(r:Nat×σ):∀(xs:Xs π σ) (k:Nat),(cf1 xs p r k).run=xOf xs p r.2 r.1 k
 |[],k=>rfl
 |x::xs,k=>by
  show (DT.ite (Nat.beq r.1 k) (.ret (xit x.1,x.2 p r.2)) (cf1 xs p r (k+1))).run=sel (Nat.beq r.1 k) (some (xit x.1,x.2 p r.2)) (xOf xs p r.2 r.1 (k+1));rw[DT.run_ite,Fd9 p r xs (k+1)];cases Nat.beq r.1 k<;>rfl
theorem Sc9{π σ:Type}(p:π)(s:σ):∀(xs:Xs π σ) (k:Nat),xOf xs p s 0 (k+1)=none
 |[],_=>rfl
 |_::xs,k=>Sc9 p s xs (k+1)
theorem ce4{π σ:Type}{p:π}{s:σ}{t:Nat}{e:c9×St}:∀{xs:Xs π σ} {k:Nat},xOf xs p s t k=some e->e.1≠.normal
 |[],_,h=>by cases h
 |x::xs,k,h=>by
  have h:sel (Nat.beq t k) (some (xit x.1,x.2 p s)) (xOf xs p s t (k+1))=some e:=h;cases hb:Nat.beq t k with
  |true=>rw[hb] at h;cases h;exact cf0 _
  |false=>rw[hb] at h;exact ce4 h
theorem Gd0 {π σ : Type} {head : St → DT St} {body : St → DT (c9 × St)} {enc : σ → St} {step : σ → Stp σ} {xs : Xs π σ} {p : π}
  (h:∀s,(Kb4 head body (enc s)).run=Vb5 (λs'=>some (.normal,enc s')) (λt=>xOf xs p s t 1) none (step s)) :
  ∀(n:Nat) (s:σ) (e:c9×St),xOf xs p (lp0 step n s).2 (lp0 step n s).1 1=some e->(lc3 head body n (enc s)).run=some e
 |n,s,e,he=>by
  have hr:=h s;cases hs:step s with
  |fail =>
   have h0:lp0 step n s=(0,s):=by
    cases n with
    |zero=>show Vb5 _ _ _ (step s)=_;rw[hs]
    |succ n=>show Vb5 _ _ _ (step s)=_;rw[hs]
   rw[h0] at he;rw[show xOf xs p s 0 1=none from Sc9 p s xs 0] at he
   cases he
  |exit t =>
   rw[Sc4 hs] at he;rw[hs] at hr;have hr:(Kb4 head body (enc s)).run=xOf xs p s t 1:=hr;have he:xOf xs p s t 1=some e:=he;rw[he] at hr;obtain⟨x,t'⟩:=e;exact Ke4 hr (ce4 he)
  |next s' =>
   cases n with
   |zero =>
    have h0:lp0 step 0 s=(0,s):=by show Vb5 _ _ _ (step s)=_;rw[hs]
    rw[h0] at he;rw[show xOf xs p s 0 1=none from Sc9 p s xs 0] at he
    cases he
   |succ n =>
    rw[Fd1 hs] at he;rw[hs] at hr;exact Ke3 hr (Gd0 h n s' e he)
section
variable{π σ:Type}
def md1(head:Nat->List Nat->St->DT St)(k:Nat)(keep:List Nat)(alts:List (Al2 π σ))(step:π->σ->Stp σ)(xs:Xs π σ)(s:St):DT (c9×St) :=
 (head k keep s).bind λt=>(Le7 alts t).bind λq=>cf1 xs q.1 (lp (step q.1) q.2) 1
structure Vb7(head:Nat->List Nat->St->DT St)(k:Nat)(keep:List Nat)(body:St->DT (c9×St))(alts:List (Al2 π σ))(step:π->σ->Stp σ)(xs:Xs π σ)(enc:π->σ->St):Prop where
 ha:Ua5 (λx=>∀a H,(⟨le5 x.sh a,le6 x.bl H⟩:St)=enc (x.rd a H).1 (x.rd a H).2) alts
 h:∀p s,(Kb4 (head k keep) body (enc p s)).run=Vb5 (λs'=>some (.normal,enc p s')) (λt=>xOf xs p s t 1) none (step p s)
variable{E:Env}{k:Nat}{res:List yc5}{keep:List Nat}{alts:List (Al2 π σ)}{enc:π->σ->St}{step:π->σ->Stp σ}{xs:Xs π σ}{body:PS}{c:PC}{head:Nat->List Nat->St->DT St}{bd:St->DT (c9×St)}
theorem Vb7.go(w:Vb7 head k keep bd alts step xs enc){s:St}{r:c9×St}(hr:(md1 head k keep alts step xs s).run=some r):∃t,(head k keep s).run=some t/\(lc3 (head k keep) bd rounds t).run=some r:=by
 obtain⟨t,h1,h2⟩:=DT.run_bind_some hr;obtain⟨q,h3,h4⟩:=DT.run_bind_some h2;rw[Fd9,te9] at h4;have e:=ud3 w.ha.mem h3;refine⟨t,h1,?_⟩;rw[e];exact Gd0 (w.h q.1) rounds q.2 r h4
theorem Vb7.belowC(hb:oa2 E k res body c)(hN:E.N=rounds+1)(w:Vb7 Vb4 k keep (be7 E k res body) alts step xs enc)(s:St):ga3 k res (md1 Vb4 k keep alts step xs s) (Q0 E k (.loop keep c) s):=λr hr=>by
 obtain⟨t,h1,h2⟩:=w.go hr;rw[md0,hN];exact Vb6 hb.le _ _ r (dc1 h1 h2)
end
inductive RT where
 |p
 |s (a c:RT)
 |c (x y:RT)
 |b (c:RT)
 |l (c:RT)
 |i (c:RT)
 |u (S:St->DT (c9×St))
def dd5:RT->PC->PS
 |.s a b,.seq x y=>.seq (dd5 a x) (dd5 b y)
 |.c a b,.cond g x y=>.cond g (dd5 a x) (dd5 b y)
 |.b a,.block id x=>.block id (dd5 a x)
 |.l a,.loop keep x=>.loop keep (dd5 a x)
 |.u S,_=>.sum S
 |_,c=>.pc c
def fc5:RT->PC->List ((St->DT (c9×St))×PC)
 |.s a b,.seq x y=>app (fc5 a x) (fc5 b y)
 |.c a b,.cond _ x y=>app (fc5 a x) (fc5 b y)
 |.b a,.block _ x=>fc5 a x
 |.l a,.loop _ x=>fc5 a x
 |.i a,.inner _ _ _ x=>fc5 a x
 |.u S,c=>[(S,c)]
 |_,_=>[]
theorem Ua5.app{α:Type}{Q:α->Prop}:∀{l r:List α},Ua5 Q (Go.Ev.app l r)->Ua5 Q l/\Ua5 Q r
 |[],_,h=>⟨.nil,h⟩
 |_::l,_,.cons h t=>⟨.cons h (Ua5.app t).1,(Ua5.app t).2⟩
theorem ce5{E:Env}{k:Nat}{res:List yc5}(rt:RT)(c:PC):Ua5 (λx=>∀s,ga3 k res (x.1 s) (Q0 E k x.2 s)) (fc5 rt c)->oa2 E k res (dd5 rt c) c:=by
 induction rt generalizing c with
 |p=>intro h;cases c<;>exact .pc _
 |s a b iha ihb =>
  intro h;cases c with
  |seq x y=>exact .seq (iha x (Ua5.app h).1) (ihb y (Ua5.app h).2)
  |_=>exact .pc _
 |c a b iha ihb =>
  intro h;cases c with
  |cond g x y=>exact .cond g (iha x (Ua5.app h).1) (ihb y (Ua5.app h).2)
  |_=>exact .pc _
 |b a iha =>
  intro h;cases c with
  |block id x=>exact .block id (iha x h)
  |_=>exact .pc _
 |l a iha =>
  intro h;cases c with
  |loop keep x=>exact .loop keep (iha x h)
  |_=>exact .pc _
 |i a iha=>intro h;cases c<;>exact .pc _
 |u S =>
  intro h
  have:fc5 (.u S) c=[(S,c)]:=by cases c<;>rfl
  rw[this] at h;cases h with
  |cons h t =>
   have e:dd5 (.u S) c=.sum S:=by cases c<;>rfl
   rw[e];exact .sum h
def tf3(l:List Nat)(c:PC):PC :=
 List.rec (motive:=λ_=>PC->PC) (λc=>c) (λn _ ih c=>match c with
  |.seq x y=>ih (match n with | 0=>x | _=>y)
  |.cond _ x y=>ih (match n with | 2=>x | _=>y)
  |.block _ x=>ih x
  |.loop _ x=>ih x
  |.loopM _ x=>ih x
  |.inner _ _ _ x=>ih x
  |c=>c) l c
theorem le7(n:Int):W n=(n+9223372036854775808) % 18446744073709551616-9223372036854775808:=IntKind.wrap_i64 n
theorem qa9{n:Int}(h1:-9223372036854775808<=n)(h2:n<=9223372036854775807):W n=n:=by rw[le7];omega
theorem ce6(n:Int):∃k,W n=n+18446744073709551616*k:=⟨-((n+9223372036854775808) / 18446744073709551616),by rw[le7];omega⟩
theorem dc2(n k:Int):W (n+18446744073709551616*k)=W n:=by rw[le7,le7];omega
theorem Kb7(a b:Int):W (W a+b)=W (a+b):=by
 obtain⟨k,hk⟩:=ce6 a;rw[hk,show a+18446744073709551616*k+b=a+b+18446744073709551616*k by omega,dc2]
theorem lc6(a b:Int):W (a+W b)=W (a+b):=by rw[Int.add_comm,Kb7,Int.add_comm]
theorem ud4(a b:Int):W (W a-b)=W (a-b):=by
 obtain⟨k,hk⟩:=ce6 a;rw[hk,show a+18446744073709551616*k-b=a-b+18446744073709551616*k by omega,dc2]
theorem ud5(a b:Int):W (a-W b)=W (a-b):=by
 obtain⟨k,hk⟩:=ce6 b;rw[hk,show a-(b+18446744073709551616*k)=a-b+18446744073709551616*(-k) by omega,dc2]
theorem Vd4(a b:Int):W (W a*b)=W (a*b):=by
 obtain⟨k,hk⟩:=ce6 a;rw[hk,show (a+18446744073709551616*k)*b=a*b+18446744073709551616*(k*b) by grind,dc2]
theorem ue8(a b:Int):W (a*W b)=W (a*b):=by rw[Int.mul_comm,Vd4,Int.mul_comm]
theorem r8{j n:Nat}(h:j<n)(hn:n<=4611686018427387904):W ((j:Int)+1)=((j+1:Nat):Int):=by
 rw[qa9 (by omega) (by omega)];omega
theorem Vb8{j n:Nat}(h:j<n):decide ((j:Int)<(n:Int))=true:=decide_eq_true (by omega)
theorem Kb8{j n:Nat}(h:¬ j<n):decide ((j:Int)<(n:Int))=false:=decide_eq_false (by omega)
theorem d9{j n:Nat}(h:j<n):inB (j:Int) n=true:=by
 show Nat.blt j n=true;rw[Nat.blt_eq];exact h
theorem bt{c:Bool}(h:c=true){α:Type}(t e:α):sl c t e=t:=by rw[h];rfl
theorem bf{c:Bool}(h:c=false){α:Type}(t e:α):sl c t e=e:=by rw[h];rfl
theorem Ua6{n:Nat}(h:n<=1000000000000):Nat.ble (n*32) room=true:=by
 rw[Nat.ble_eq];unfold room;omega
theorem ue9 {σ : Type} {step : σ → Stp σ} {I : Nat → σ → Prop} {Q : Nat → σ → Prop} (h : ∀ m s, I m s → (∃ t, step s = .exit t ∧ Q t s) ∨ ∃ s' m', m = m' + 1 ∧ step s = .next s' ∧ I m' s') :
  ∀(m n:Nat) (s:σ),m<=n->I m s->Q (lp0 step n s).1 (lp0 step n s).2
 |m,n,s,hn,hi=>by
  rcases h m s hi with⟨t,h1,h2⟩|⟨s',m',rfl,h1,h2⟩
  ·rw[Sc4 h1];exact h2
  ·cases n with
   |zero=>omega
   |succ n =>
    rw[Fd1 h1];exact ue9 h m' n s' (by omega) h2
theorem lc7 {σ : Type} {step : σ → Stp σ} {I : Nat → σ → Prop} {Q : Nat → σ → Prop} (h : ∀ m s, I m s → (∃ t, step s = .exit t ∧ Q t s) ∨ ∃ s' m', m = m' + 1 ∧ step s = .next s' ∧ I m' s')
  (m:Nat) (s:σ) (hm:m<=18446744073709551615) (hi:I m s):Q (lp step s).1 (lp step s).2:=by
 rw[te9];exact ue9 h m rounds s (by unfold rounds;omega) hi
section
variable{σ τ α:Type}{step:σ->Stp σ}
theorem dc3 {mk : Nat → τ → σ} {f : τ → α → τ} {fin : Nat} (t : Ty α) (l : List α) (I : Nat → τ → Prop) (hl : l.length ≤ 1000000000)
  (h:∀j a,j<l.length->I j a->step (mk j a)=.next (mk (j+1) (f a (gL t l j)))/\I (j+1) (f a (gL t l j)))
  (hf:∀a,I l.length a->step (mk l.length a)=.exit fin) (j0:Nat) (hj:j0<=l.length) (a:τ) (hi:I j0 a) :
  lp step (mk j0 a)=(fin,mk l.length ((l.drop j0).foldl f a))/\I l.length ((l.drop j0).foldl f a):=by
 have key:=lc7 (step:=step) (I:=λm s=>∃j b,m=l.length-j/\j<=l.length/\s=mk j b/\I j b/\(l.drop j).foldl f b=(l.drop j0).foldl f a)
  (Q:=λu s=>u=fin/\s=mk l.length ((l.drop j0).foldl f a)/\I l.length ((l.drop j0).foldl f a)) (λm s ⟨j,b,hm,hj,hs,hb,he⟩=>by
   subst hs;by_cases hlt:j<l.length
   ·obtain⟨h1,h2⟩:=h j b hlt hb;refine .inr ⟨_,l.length-(j+1),by omega,h1,j+1,_,rfl,by omega,rfl,h2,?_⟩
    rw[<- he,Qdj hlt,List.foldl_cons];simp[gL,Qdd,Qdc hlt]
   ·have:j=l.length:=by omega
    subst this;have he:b=(l.drop j0).foldl f a:=by rw[<- he];simp
    subst he;exact .inl ⟨fin,hf _ hb,rfl,rfl,hb⟩) (l.length-j0) (mk j0 a) (by omega) ⟨j0,a,rfl,hj,rfl,hi,rfl⟩
 exact⟨by rw[<- key.2.1,<- key.1],key.2.2⟩
theorem lc8 {mk : Nat → σ} {c : α → Bool} {u fin : Nat} (t : Ty α) (l : List α) (hl : l.length ≤ 1000000000)
  (h:∀j,j<l.length->step (mk j)=sl (c (gL t l j)) (.exit u) (.next (mk (j+1)))) (hf:step (mk l.length)=.exit fin) (j0:Nat) (hj:j0<=l.length) :
  (lp step (mk j0)).1=if (l.drop j0).any c then u else fin :=
 lc7 (step:=step) (I:=λm s=>∃j,m=l.length-j/\j<=l.length/\s=mk j/\(l.drop j).any c=(l.drop j0).any c)
  (Q:=λv _=>v=if (l.drop j0).any c then u else fin) (λm s ⟨j,hm,hj,hs,he⟩=>by
   subst hs;by_cases hlt:j<l.length
   ·have h1:=h j hlt;have e:gL t l j=l[j]:=by simp[gL,Qdd,Qdc hlt]
    have e2:(l.drop j).any c=(c l[j]||(l.drop (j+1)).any c):=by rw[Qdj hlt,List.any_cons]
    rw[e] at h1;cases hc:c l[j] with
    |true =>
     rw[hc] at h1;refine .inl ⟨u,h1,?_⟩;rw[<- he,e2,hc];rfl
    |false =>
     rw[hc] at h1;refine .inr ⟨_,l.length-(j+1),by omega,h1,j+1,rfl,by omega,rfl,?_⟩
     rw[<- he,e2,hc];rfl
   ·have:j=l.length:=by omega
    subst this;refine .inl ⟨fin,hf,?_⟩;rw[<- he];simp) (l.length-j0) (mk j0) (by omega) ⟨j0,rfl,hj,rfl,rfl⟩
theorem Ua7 {mk : Nat → σ} {c : α → Bool} {u fin : Nat} (t : Ty α) (l : List α) (hl : l.length ≤ 1000000000)
  (h:∀j,j<l.length->step (mk j)=sl (c (gL t l j)) (.exit u) (.next (mk (j+1)))) (hf:step (mk l.length)=.exit fin) (j0:Nat) (hj:j0<=l.length) :
  lp step (mk j0)=if (l.drop j0).any c then (u,mk (j0+(l.drop j0).findIdx c)) else (fin,mk l.length):=by
 have key:=lc7 (step:=step) (I:=λm s=>∃j,m=l.length-j/\j<=l.length/\j0<=j/\s=mk j/\(l.drop j).any c=(l.drop j0).any c/\j+(l.drop j).findIdx c=j0+(l.drop j0).findIdx c)
  (Q:=λv s=>(v,s)=if (l.drop j0).any c then (u,mk (j0+(l.drop j0).findIdx c)) else (fin,mk l.length)) (λm s ⟨j,hm,hj,hj0,hs,he,hi⟩=>by
   subst hs;by_cases hlt:j<l.length
   ·have h1:=h j hlt;have e:gL t l j=l[j]:=by simp[gL,Qdd,Qdc hlt]
    have e2:(l.drop j).any c=(c l[j]||(l.drop (j+1)).any c):=by rw[Qdj hlt,List.any_cons]
    have e3:(l.drop j).findIdx c=if c l[j] then 0 else (l.drop (j+1)).findIdx c+1:=by rw[Qdj hlt,List.findIdx_cons];cases c l[j]<;>rfl
    rw[e] at h1;cases hc:c l[j] with
    |true =>
     rw[hc] at h1;refine .inl ⟨u,h1,?_⟩;rw[<- he,e2,hc,<- hi,e3,hc];rfl
    |false =>
     rw[hc] at h1;refine .inr ⟨_,l.length-(j+1),by omega,h1,j+1,rfl,by omega,by omega,rfl,?_,?_⟩
     ·rw[<- he,e2,hc];rfl
     ·rw[<- hi,e3,hc];simp only[Bool.false_eq_true,if_false];omega
   ·have:j=l.length:=by omega
    subst this;refine .inl ⟨fin,hf,?_⟩;rw[<- he];simp) (l.length-j0) (mk j0) (by omega) ⟨j0,rfl,hj,Qdg _,rfl,rfl,rfl⟩
 exact key
end
theorem ga4{α:Type}(t:Ty α){l:List α}{j:Nat}(h:j<l.length):gL t l j∈l:=by
 simp[gL,Qdd,Qdc h]
theorem fb6{α:Type}(t:Ty α){l:List α}{j:Nat}(h:j<l.length):gL t l j=l[j]:=by
 simp[gL,Qdd,Qdc h]
def euF:Nat->Int->Int->Int
 |0,g,_=>g
 |k+1,g,n=>if n=0 then g else euF k n (Int.tmod g n)
def eu(g n:Int):Int:=euF (n.natAbs+1) g n
theorem ab9{g n:Int}(h:n≠0):(Int.tmod g n).natAbs<n.natAbs:=by
 rw[Int.natAbs_tmod];exact Nat.mod_lt _ (by omega)
theorem Gd1:∀(k m:Nat) {g n:Int},n.natAbs<k->n.natAbs<m->euF k g n=euF m g n
 |0,_,_,_,h,_=>by omega
 |_+1,0,_,_,_,h=>by omega
 |k+1,m+1,g,n,h1,h2=>by
  unfold euF;by_cases h:n=0
  ·rw[if_pos h,if_pos h]
  ·rw[if_neg h,if_neg h]
   have:=ab9 (g:=g) h
   exact Gd1 k m (by omega) (by omega)
theorem dc4(g:Int):eu g 0=g:=by simp[eu,euF]
theorem Nc4{g n:Int}(h:n≠0):eu g n=eu n (Int.tmod g n):=by
 have:=ab9 (g:=g) h
 unfold eu
 conv=>lhs;unfold euF
 rw[if_neg h];exact Gd1 _ _ (by omega) (by omega)
theorem cf2:∀(k:Nat) (g n:Int),n.natAbs<=k->(eu g n).natAbs=Int.gcd g n:=by
 intro k
 induction k with
 |zero =>
  intro g n h
  have:n=0:=by omega
  subst this;rw[dc4];simp
 |succ k ih =>
  intro g n h;by_cases h0:n=0
  ·subst h0;rw[dc4];simp
  ·have:=ab9 (g:=g) h0
   rw[Nc4 h0,ih n (Int.tmod g n) (by omega)]
   unfold Int.gcd;rw[Int.natAbs_tmod,Nat.gcd_comm g.natAbs,Nat.gcd_comm n.natAbs,<- Nat.gcd_rec]
theorem ve0(g n:Int):(eu g n).natAbs=Int.gcd g n:=cf2 _ g n (Qdg _)
theorem le8:∀(k:Nat) (g n:Int),n.natAbs<=k->0<=g->0<=n->0<=eu g n:=by
 intro k
 induction k with
 |zero =>
  intro g n h hg _
  have:n=0:=by omega
  subst this;rw[dc4];exact hg
 |succ k ih =>
  intro g n h hg hn;by_cases h0:n=0
  ·subst h0;rw[dc4];exact hg
  ·have:=ab9 (g:=g) h0
   rw[Nc4 h0];exact ih n _ (by omega) hn (Int.tmod_nonneg _ hg)
theorem ve1{g n:Int}(hg:0<=g)(hn:0<=n):eu g n=(Int.gcd g n:Int):=by
 have h1:=le8 _ g n (Qdg _) hg hn;have h2:=ve0 g n;omega
section
variable{σ:Type}{step:σ->Stp σ}{mk:Int->Int->σ}
theorem ce7(h:∀g n,n≠0->step (mk g n)=.next (mk n (Int.tmod g n)))(h0:∀g,step (mk g 0)=.exit 1)(g n:Int)(hn:n.natAbs<=9223372036854775808):lp step (mk g n)=(1,mk (eu g n) 0):=by
 have:=lc7 (step:=step) (I:=λm s=>∃a c,s=mk a c/\c.natAbs<=m/\eu a c=eu g n) (Q:=λu s=>(u,s)=(1,mk (eu g n) 0)) (λm s ⟨a,c,hs,hm,he⟩=>by
  subst hs;by_cases hc:c=0
  ·subst hc;rw[dc4] at he;subst he;exact .inl ⟨1,h0 _,rfl⟩
  ·have ht:=ab9 (g:=a) hc;exact .inr ⟨_,m-1,by omega,h a c hc,c,_,rfl,by omega,by rw[<- he,Nc4 hc]⟩) n.natAbs (mk g n) (by omega) ⟨g,n,rfl,Qdg _,rfl⟩
 exact this
theorem Gc1(h:∀g n,0<n->step (mk g n)=.next (mk n (Int.tmod g n)))(h0:∀g,step (mk g 0)=.exit 1)(g n:Int)(hg:0<=g)(h1:0<=n)(hn:n<=9223372036854775808):lp step (mk g n)=(1,mk (eu g n) 0):=by
 have:=lc7 (step:=step) (I:=λm s=>∃a c,s=mk a c/\c.natAbs<=m/\0<=a/\0<=c/\eu a c=eu g n) (Q:=λu s=>(u,s)=(1,mk (eu g n) 0)) (λm s ⟨a,c,hs,hm,ha,hc0,he⟩=>by
  subst hs;by_cases hc:c=0
  ·subst hc;rw[dc4] at he;subst he;exact .inl ⟨1,h0 _,rfl⟩
  ·have ht:=ab9 (g:=a) hc;exact .inr ⟨_,m-1,by omega,h a c (by omega),c,_,rfl,by omega,hc0,Int.tmod_nonneg _ ha,by rw[<- he,Nc4 hc]⟩) n.natAbs (mk g n) (by omega) ⟨g,n,rfl,Qdg _,hg,h1,rfl⟩
 exact this
end
theorem mb{a c A C:Int}(h1:-A<=a)(h2:a<=A)(h3:-C<=c)(h4:c<=C):-(A*C)<=a*c/\a*c<=A*C:=by
 have hA:a.natAbs<=A.natAbs:=by omega
 have hC:c.natAbs<=C.natAbs:=by omega
 have h5:=Nat.mul_le_mul hA hC;rw[<- Int.natAbs_mul,<- Int.natAbs_mul] at h5;have h6:0<=A*C:=Int.mul_nonneg (by omega) (by omega)
 omega
end Go.Ev.L
namespace Go.Ev
open Go
def FW(F:Fence):Prop:=∃r,F={ Fence.wide with round:=r }
theorem FW.wide:FW Fence.wide:=⟨none,rfl⟩
theorem FW.inRound(l:Nat):FW (Fence.wide.inRound l):=⟨some l,rfl⟩
section
variable{F:Fence}{n:Nat}{P:Program}
theorem FW.fn(h:FW F)(f:FuncId):F.fn f:=by obtain⟨r,rfl⟩:=h;trivial
theorem FW.dep(h:FW F):F.depth=none:=by obtain⟨r,rfl⟩:=h;rfl
theorem FW.depS(h:FW F){p:Prop}:F.depth.isSome=true->p:=λhd=>by rw[h.dep] at hd;cases hd
theorem FW.fenced(h:FW F):Machine.fenced P F=Machine.fenced P Fence.wide:=by obtain⟨r,rfl⟩:=h;rfl
theorem FW.room(h:FW F)(k:Nat):F.room k:=λd hd=>by rw[h.dep] at hd;cases hd
theorem FW.calls(h:FW F){f:FuncId}{args:Array Value}{w:World}{R:Ending->World->Prop}:CallsIn F n P f args w R↔Calls P f args w R:=by
 refine Iff.trans ?_ (callsIn_wide (n:=n));obtain⟨r,rfl⟩:=h;exact⟨λh=>h,λh=>h⟩
theorem FW.rows(h:FW F){row:String}{args:Array Value}{w:World}{R:Value->World->Prop}(hr:Rows P row args w R):RowsIn F n P row args w R:=λc cs _=>by
 obtain⟨v,w',h1,h2⟩:=hr c cs;refine⟨v,w',h1,?_⟩;rw[h.fenced];exact stepsIn_wide.2 h2
end
section
variable{P:Program}{o:Oper}{ac:Act}{w:World}{post:Value->World->Prop}
theorem f7.inAny(h:f7 P o { ac with defers:=[] } w post){F:Fence}(hF:FW F)(n:Nat)(next:Act->World->Prop)(Q:Exit->Act->World->Prop)(hp:∀x' w',post x' w'->next (ac.put o.dst x') w'):o.wpIn F n P ac w next Q:=by
 have hput:∀v,({ ac with defers:=[] }:Act).put o.dst v={ ac.put o.dst v with defers:=[] }:=λv=>by cases o.dst<;>rfl
 have hinj:∀v x',({ ac with defers:=[] }:Act).put o.dst v=({ ac with defers:=[] }:Act).put o.dst x'->ac.put o.dst v=ac.put o.dst x':=λv x' e=>by
  rw[hput,hput] at e;have e1:=congrArg Act.tmps e
  revert e1
  cases o.dst with
  |none=>intro _;rfl
  |some d=>intro e1;show ({ ac with tmps:=_ }:Act)={ ac with tmps:=_ };congr 1
 have hnd:∀c,o.op≠.defer c:=λc hc=>by
  have h0:=h (λa' _=>a'.defers=[]) (λ_ _ _=>False) (λx' w' _=>by rw[hput])
  unfold Oper.wp at h0;have e:execOp ({ ac with defers:=[] }:Act).eval o=(do return .defer (<- resolve ({ ac with defers:=[] }:Act).eval c o.type)):=by unfold execOp;simp[hc]
  rw[e] at h0;simp only[Sem.run_bind] at h0;cases hr:(resolve ({ ac with defers:=[] }:Act).eval c o.type).run P w with
  |ok d w1 =>
   rw[hr] at h0;have h0:({ ({ ac with defers:=[] }:Act) with defers:=d::[] }.put o.dst undef).defers=[]:=h0
   revert h0
   cases o.dst<;>intro h0<;>cases h0
  |halt x w1 =>
   rw[hr] at h0;cases x<;>exact h0
 have h0:=h (λa' w'=>∃x',post x' w'/\a'=({ ac with defers:=[] }:Act).put o.dst x') (λ_ _ _=>False) (λx' w' hx=>⟨x',hx,rfl⟩)
 unfold Oper.wp at h0;refine⟨λf _=>hF.fn f,?_⟩
 rw[Oper.semAt_eq _ _ _ hnd];have hev:(execOp ac.eval o)=execOp ({ ac with defers:=[] }:Act).eval o:=rfl
 rw[hev]
 revert h0
 generalize (execOp ({ ac with defers:=[] }:Act).eval o).run P w=r
 intro h0;have hnext:∀v w',(∃x',post x' w'/\({ ac with defers:=[] }:Act).put o.dst v=({ ac with defers:=[] }:Act).put o.dst x')->next (ac.put o.dst v) w':=λv w' ⟨x',h1,h2⟩=>by
  rw[hinj v x' h2];exact hp x' w' h1
 cases r with
 |ok q w' =>
  cases q with
  |value v=>exact hnext v w' h0
  |skip=>exact hnext undef w' h0
  |defer d =>
   obtain⟨x',_,h2⟩:=h0;rw[hput] at h2
   have:=congrArg Act.defers h2
   revert this
   cases o.dst<;>intro h<;>cases h
  |enter f args =>
   refine⟨λhd=>hF.depS hd,hF.calls.2 ?_⟩
   have h0:Calls P f args w' _:=h0;refine h0.mono λe w'' he=>?_
   cases e with
   |returned v=>exact hnext v w'' he
   |panicked ch=>exact he.elim
   |outgrown=>obtain⟨a0,w0,hq⟩:=he;exact hq.elim
  |row row args =>
   refine⟨λhd=>hF.depS hd,hF.rows ?_⟩
   have h0:Rows P row args w' _:=h0;exact λc cs=>by
    obtain⟨v,w'',h1,h2⟩:=h0 c cs;exact⟨v,w'',hnext v w'' h1,h2⟩
  |round l f tmps asq body=>exact h0.elim
  |_=>exact h0.elim
 |halt x w' =>
  cases x with
  |panic v=>exact h0.elim
  |_=>exact h0.elim
end
section
variable{W W' WB:Nat->Prop}{ρ ρ0 ρ':Rho}{H H0 H1:List a8}{F F0 F':Fz}{w w0 w':World}{P:Program}
theorem sb6(H:List a8):p8 H=H.map λb=>Bool.rec (motive:=λ_=>a8) b { b with dead:=true } (G5 b):=by unfold p8;rw[o5]
theorem le9:(p8 H).length=H.length:=by rw[sb6];simp
theorem na6{id:Nat}{b:a8}(hb:H[id]?=some b)(hs:G5 b=false):(p8 H)[id]?=some b:=by
 rw[sb6,Qdf,hb];simp[hs]
theorem Tc0{id:Nat}{b:a8}(hb:H[id]?=some b)(hs:G5 b=true):(p8 H)[id]?=some { b with dead:=true }:=by
 rw[sb6,Qdf,hb];simp[hs]
theorem ra0{id:Nat}{b:a8}(hb:(p8 H)[id]?=some b)(hd:b.dead=false):H[id]?=some b/\G5 b=false:=by
 rw[sb6,Qdf] at hb;cases h:H[id]? with
 |none=>rw[h] at hb;cases hb
 |some c =>
  rw[h] at hb;cases hs:G5 c with
  |false=>simp[hs] at hb;subst hb;exact⟨rfl,hs⟩
  |true=>simp[hs] at hb;subst hb;cases hd
def sc1(H:List a8)(id:Nat):Prop:=∃b,H[id]?=some b/\G5 b=true
def ρsp(H:List a8)(ρ ρ':Rho):Rho:=λid=>@ite _ (sc1 H id) (Classical.propDecidable _) (ρ id) (ρ' id)
theorem ρsp_on{id:Nat}(h:sc1 H id):ρsp H ρ ρ' id=ρ id:=by unfold ρsp;rw[if_pos h]
theorem ρsp_off{id:Nat}(h:¬ sc1 H id):ρsp H ρ ρ' id=ρ' id:=by unfold ρsp;rw[if_neg h]
theorem Gd2:∀(H1:List a8),pc1 [] H1=true->∀(id:Nat) c,H1[id]?=some c->G5 c=false
 |[],_,id,c,hc=>by simp at hc
 |d::r,ho,id,c,hc=>by
  have ho:Bool.and (Bool.rec (motive:=λ_=>Bool) true false (G5 d)) (pc1 [] r)=true:=ho
  simp only[Qdb] at ho;cases id with
  |zero =>
   simp at hc;subst hc
   have:=ho.1
   cases h:G5 d with
   |false=>rfl
   |true=>rw[h] at this;cases this
  |succ id=>exact Gd2 r ho.2 id c (by simpa using hc)
theorem Tc1 : ∀ (H H1 : List a8), H.length ≤ H1.length → pc1 H H1 = true → (B7 H H1).length = H1.length ∧
  (∀(id:Nat) b,H[id]?=some b->G5 b=true->(B7 H H1)[id]?=some b) /\
  (∀(id:Nat),¬ sc1 H id->(B7 H H1)[id]?=H1[id]?/\∀c,H1[id]?=some c->G5 c=false)
 |[],H1,_,ho=>by
  refine⟨rfl,λid b hb=>by simp at hb,λid _=>⟨rfl,λc hc=>?_⟩⟩
  exact Gd2 H1 ho id c hc
 |b::H,[],hl,_=>by simp at hl
 |b::H,c::H1,hl,ho=>by
  have ho:Bool.and (Bool.rec (motive:=λ_=>Bool) (Bool.rec true false (G5 c)) true (G5 b)) (pc1 H H1)=true:=ho
  simp only[Qdb] at ho;obtain⟨h1,h2,h3⟩:=Tc1 H H1 (by simpa using hl) ho.2
  have e:B7 (b::H) (c::H1)=Bool.rec (motive:=λ_=>a8) c b (G5 b)::B7 H H1:=rfl
  rw[e];refine⟨by simp[h1],λid d hd hs=>?_,λid hn=>?_⟩
  ·cases id with
   |zero=>simp at hd;subst hd;simp[hs]
   |succ id=>simpa using h2 id d (by simpa using hd) hs
  ·cases id with
   |zero =>
    have hb:G5 b=false:=by
     cases h:G5 b with
     |false=>rfl
     |true=>exact absurd ⟨b,rfl,h⟩ hn
    rw[hb] at ho ⊢;refine⟨rfl,λd hd=>?_⟩
    simp at hd;subst hd
    have:=ho.1
    cases h:G5 c with
    |false=>rfl
    |true=>rw[h] at this;cases this
   |succ id =>
    obtain⟨k1,k2⟩:=h3 id λ⟨d,hd,hs⟩=>hn ⟨d,by simpa using hd,hs⟩
    exact⟨by simpa using k1,λd hd=>k2 d (by simpa using hd)⟩
def Gd3(b:a8):Prop:=b.es=0/\b.et=0
def Gd4(t:Nat)(b:a8):Prop:=b.es=0/\b.et=t+1
inductive XC (ρ:Rho) (H:List a8) (F:Fz) (w:World):a7->Value->Prop
 |n {x:a7} {x':Value} (h:ea7 ρ (p8 H) F w x x'):XC ρ H F w x x'
 |box (id c g:Nat) (b:a8) (hb:H[id]?=some b) (hd:b.dead=false) (he:Gd3 b):XC ρ H F w (.ptr id 0 c g) (.pointer (some ⟨(ρ id).blk,c,none⟩))
 |map (id c g:Nat) (b:a8) (t:Nat) (hb:H[id]?=some b) (hd:b.dead=false) (he:Gd4 t b):XC ρ H F w (.ptr id 0 c g) (.map (some (ρ id).blk))
inductive XW (ρ:Rho) (H:List a8) (F:Fz) (w:World):a7->Value->Prop
 |w {x:a7} {x':Value} (h:G0 ρ (p8 H) F w x x'):XW ρ H F w x x'
 |c {x:a7} {x':Value} (h:XC ρ H F w x x'):XW ρ H F w x x'
theorem sb7{b:a8}(h:Gd3 b):G5 b=true:=by unfold G5;rw[h.1];rfl
theorem sb8{b:a8}{t:Nat}(h:Gd4 t b):G5 b=true:=by unfold G5;rw[h.1];rfl
theorem XC.one{x:a7}{x':Value}(h:XC ρ H F w x x')(hb:ie8 x=true):x'.oneCell'=true:=by
 cases h with
 |n h =>
  cases h with
  |mem h=>exact h.one
  |v=>exact (by rw[<- pc8];exact hb)
  |ptr=>rfl
  |sl=>rfl
  |tptr=>cases hb
  |unk=>cases hb
 |box=>rfl
 |map=>rfl
structure cf3(ρ:Rho)(H:List a8)(F:Fz)(w:World)(b:a8)(blk:Nat):Prop where
 et:Gd3 b
 has:∃row vs t,b.elems=[row]/\w.heap[blk]?=some (.cells vs t (0,0))/\row.length=vs.size/\∀(c:Nat) x x',row[c]?=some x->vs[c]?=some x'->x'.oneCell'=true/\XC ρ H F w x x'
def Tc2(fl:List (Nat×CK))(kl:Nat)(r:List a7)(e:MapEntry):Prop:=∃(ks:Array Value) (v:Bool),r=ks.toList.map .v++[.v (.bool v)]/\ks.size=kl/\e.key=.agg ks/\e.val=.bool v/\∀p∈fl,Ia6 ks p
structure cf4(P:Program)(w:World)(b:a8)(blk:Nat):Prop where
 has:∃t K El fl es clk,Gd4 t b/\P.underlying t=some (.map K El)/\ca5 P 9 K=some fl/\w.heap[blk]?=some (.map es clk)/\b.elems.length=es.size /\
  ∀(i:Nat) r e,b.elems[i]?=some r->es[i]?=some e->Tc2 fl (szT P K) r e
structure ve2(P:Program)(WB W':Nat->Prop)(ρ:Rho)(H:List a8)(F:Fz)(w:World):Prop where
 has:∀(id:Nat) b,H[id]?=some b->G5 b=true->b.dead=false->WB (ρ id).blk/\¬ W' (ρ id).blk/\(∀o,¬ F (ρ id).blk o)/\(ρ id).blk<w.heap.size/\(cf3 ρ H F w b (ρ id).blk\/cf4 P w b (ρ id).blk)
 apart:∀(id id':Nat) b b',H[id]?=some b->H[id']?=some b'->G5 b=true->G5 b'=true->b.dead=false->b'.dead=false->id≠id'->(ρ id).blk≠(ρ id').blk
theorem Adv.mono(h:Adv W ρ H F w ρ' H1 F' w')(hW:∀k,W k->WB k):Adv WB ρ H F w ρ' H1 F' w' :=
 ⟨⟨h.ext.os,h.ext.tape,h.ext.output,h.ext.size,λk hk hn=>h.ext.block k hk λhw=>hn (hW k hw),h.ext.cells,h.ext.drawn⟩,h.heap,h.more,λb o hf=>(h.new b o hf).imp id (hW b),λid b' hb' hn=>hW _ (h.fresh id b' hb' hn)⟩
section
variable(hA:Adv W' ρ (p8 H) F w ρ' H1 F' w')(ho:pc1 H H1=true)
include hA ho
theorem ve3:H.length<=H1.length:=by
 rcases Nat.eq_zero_or_pos H.length with h|h
 ·omega
 ·have hlt:H.length-1<(p8 H).length:=by rw[le9];omega
  obtain⟨b',hb',_⟩:=hA.heap (H.length-1) _ (Qdc hlt)
  have:=(Qde.1 hb').1
  omega
theorem dc5 : (B7 H H1).length = H1.length ∧
  (∀(id:Nat) b,H[id]?=some b->G5 b=true->(B7 H H1)[id]?=some b) /\
  (∀(id:Nat),¬ sc1 H id->(B7 H H1)[id]?=H1[id]?/\∀c,H1[id]?=some c->G5 c=false):=Tc1 H H1 (ve3 hA ho) ho
theorem me0{id:Nat}{b:a8}(hb:(p8 (B7 H H1))[id]?=some b)(hd:b.dead=false):H1[id]?=some b/\¬ sc1 H id:=by
 obtain⟨h1,h2,h3⟩:=dc5 hA ho;obtain⟨k1,k2⟩:=ra0 hb hd;by_cases hs:sc1 H id
 ·obtain⟨c,hc,hcs⟩:=hs;rw[h2 id c hc hcs] at k1;cases k1;rw[hcs] at k2;cases k2
 ·rw[(h3 id hs).1] at k1;exact⟨k1,hs⟩
theorem me1{id:Nat}{b:a8}(hb:H1[id]?=some b)(hd:b.dead=false):(p8 (B7 H H1))[id]?=some b/\ρsp H ρ ρ' id=ρ' id:=by
 obtain⟨h1,h2,h3⟩:=dc5 hA ho;by_cases hs:sc1 H id
 ·obtain⟨c,hc,hcs⟩:=hs;obtain⟨b',hb',hd',_⟩:=hA.heap id _ (Tc0 hc hcs)
  have:b'=b:=Qdk (hb'.symm.trans hb)
  subst this;rw[hd] at hd';cases hd'
 ·obtain⟨k1,k2⟩:=h3 id hs;exact⟨na6 (k1.trans hb) (k2 b hb),ρsp_off hs⟩
theorem Tc3:ld8 ρ' H1 (ρsp H ρ ρ') (p8 (B7 H H1)):=λid b hb hd=>by
 obtain⟨h1,h2⟩:=me1 hA ho hb hd;exact⟨b,h1,hd,Qdg _,λ_=>⟨h2,rfl,Qdg _⟩⟩
theorem Vd5{x:a7}{x':Value}(h:G0 ρ' H1 F' w' x x'):G0 (ρsp H ρ ρ') (p8 (B7 H H1)) F' w' x x':=h.carry (Tc3 hA ho) (λ_ _ h=>h) (λ_ _ _=>rfl)
theorem me2(hH:B8 W' ρ' H1 F' w'):B8 W' (ρsp H ρ ρ') (p8 (B7 H H1)) F' w' :=
 hH.pull (λi=>i) (λi b hb hd=>by
  obtain⟨h1,h2⟩:=me0 hA ho hb hd;exact⟨h1,ρsp_off h2⟩) (λ_ _ _ _ _ _ _ _ e=>e)
theorem ce8{x:a7}{x':Value}(h:XC ρ H F w x x'):XC (ρsp H ρ ρ') (B7 H H1) F' w' x x':=by
 obtain⟨h1,h2,h3⟩:=dc5 hA ho;cases h with
 |n h=>exact .n ((h.adv hA).carry (Tc3 hA ho) (λ_ _ h=>h) (λ_ _ _=>rfl))
 |box id c g b hb hd he =>
  have e:ρsp H ρ ρ' id=ρ id:=ρsp_on ⟨b,hb,sb7 he⟩;rw[<- e];exact .box id c g b (h2 id b hb (sb7 he)) hd he
 |map id c g b t hb hd he =>
  have e:ρsp H ρ ρ' id=ρ id:=ρsp_on ⟨b,hb,sb8 he⟩;rw[<- e];exact .map id c g b t (h2 id b hb (sb8 he)) hd he
theorem Le8{x:a7}{x':Value}(h:XW ρ H F w x x'):XW (ρsp H ρ ρ') (B7 H H1) F' w' x x':=by
 cases h with
 |w h=>exact .w (Vd5 hA ho (h.adv hA))
 |c h=>exact .c (ce8 hA ho h)
theorem me3(hS:ve2 P WB W' ρ H F w):ve2 P WB W' (ρsp H ρ ρ') (B7 H H1) F' w':=by
 obtain⟨h1,h2,h3⟩:=dc5 hA ho;have hold:∀(id:Nat) b,(B7 H H1)[id]?=some b->G5 b=true->H[id]?=some b/\sc1 H id:=λid b hb hs=>by
  by_cases hsp:sc1 H id
  ·obtain⟨c,hc,hcs⟩:=hsp;rw[h2 id c hc hcs] at hb;obtain rfl:c=b:=Qdk hb;exact⟨hc,c,hc,hcs⟩
  ·obtain⟨k1,k2⟩:=h3 id hsp;rw[k1] at hb;rw[k2 b hb] at hs;cases hs
 refine⟨λid b hb hs hd=>?_,λid id' b b' hb hb' hs hs' hd hd' hne=>?_⟩
 ·obtain⟨hb0,hsp⟩:=hold id b hb hs;obtain⟨k1,k2,k3,k4,k5⟩:=hS.has id b hb0 hs hd;have hblk:w'.heap[(ρ id).blk]?=w.heap[(ρ id).blk]?:=hA.ext.block _ k4 k2;rw[ρsp_on hsp];refine⟨k1,k2,λo hf=>?_,Qdp k4 hA.ext.size,?_⟩
  ·rcases hA.new _ _ hf with h|h
   ·exact k3 o h
   ·exact k2 h
  ·rcases k5 with⟨e,row,vs,t,m1,m2,m3,m4⟩|⟨t,K,El,fl,es,clk,m1,m2,m3,m4,m5,m6⟩
   ·exact .inl ⟨e,row,vs,t,m1,hblk.trans m2,m3,λc x x' hx hx'=>⟨(m4 c x x' hx hx').1,ce8 hA ho (m4 c x x' hx hx').2⟩⟩
   ·exact .inr ⟨t,K,El,fl,es,clk,m1,m2,m3,hblk.trans m4,m5,m6⟩
 ·obtain⟨hb0,hsp⟩:=hold id b hb hs;obtain⟨hb0',hsp'⟩:=hold id' b' hb' hs';rw[ρsp_on hsp,ρsp_on hsp'];exact hS.apart id id' b b' hb0 hb0' hs hs' hd hd' hne
theorem ve4{id:Nat}{b:a8}(hb:(B7 H H1)[id]?=some b)(hs:G5 b=true):H[id]?=some b/\sc1 H id:=by
 obtain⟨h1,h2,h3⟩:=dc5 hA ho;by_cases hsp:sc1 H id
 ·obtain⟨c,hc,hcs⟩:=hsp;rw[h2 id c hc hcs] at hb;obtain rfl:c=b:=Qdk hb;exact⟨hc,c,hc,hcs⟩
 ·obtain⟨k1,k2⟩:=h3 id hsp;rw[k1] at hb;rw[k2 b hb] at hs;cases hs
theorem ve5{K:Nat->Prop}(h:∀(id:Nat) b,H[id]?=some b->G5 b=true->b.dead=false->¬ K (ρ id).blk):∀(id:Nat) b,(B7 H H1)[id]?=some b->G5 b=true->b.dead=false->¬ K (ρsp H ρ ρ' id).blk:=λid b hb hs hd=>by
 obtain⟨k1,k2⟩:=ve4 hA ho hb hs;rw[ρsp_on k2];exact h id b k1 hs hd
theorem ve6(hW:∀k,W' k->WB k):Adv WB ρ H F w (ρsp H ρ ρ') (B7 H H1) F' w':=by
 obtain⟨h1,h2,h3⟩:=dc5 hA ho;have hm:=hA.mono hW;refine⟨hm.ext,λid b hb=>?_,hm.more,hm.new,λid b' hb' hn=>?_⟩
 ·cases hs:G5 b with
  |true=>exact⟨b,h2 id b hb hs,rfl,Qdg _,λ_=>⟨ρsp_on ⟨b,hb,hs⟩,rfl,Qdg _⟩⟩
  |false =>
   have hnsp:¬ sc1 H id:=λ⟨c,hc,hcs⟩=>by
    rw[hb] at hc;cases hc;rw[hs] at hcs;cases hcs
   obtain⟨b',k1,k2,k3,k4⟩:=hm.heap id b (na6 hb hs);exact⟨b',(h3 id hnsp).1.trans k1,k2,k3,λhg=>by rw[ρsp_off hnsp];exact k4 hg⟩
 ·by_cases hsp:sc1 H id
  ·obtain⟨c,hc,hcs⟩:=hsp;rw[h2 id c hc hcs] at hb';obtain rfl:c=b':=Qdk hb';exact absurd rfl (hn c hc)
  ·rw[ρsp_off hsp];rw[(h3 id hsp).1] at hb';refine hm.fresh id b' hb' λb hb=>?_
   cases h:H[id]? with
   |none =>
    rw[sb6,Qdf,h] at hb;cases hb
   |some c =>
    cases hs:G5 c with
    |true=>exact absurd ⟨c,h,hs⟩ hsp
    |false =>
     rw[na6 h hs] at hb;cases hb;exact hn b h
end
end
def hc6(WB W':Nat->Prop)(ds:List Deferred)(w:World):Prop:=(∀d∈ds,∃D,d={ target:=.collected D,args:=#[] }/\w.heap[D]?=some (.deferred (some []))/\¬ W' D/\D<w.heap.size/\WB D)/\ds.Nodup
def VR(ρ:Rho)(H:List a8)(F:Fz)(w:World)(a:List a7)(vs:List Value):Prop:=a.length=vs.length/\∀(i:Nat) x x',a[i]?=some x->vs[i]?=some x'->XW ρ H F w x x'
structure C2(P:Program)(WB:Nat->Prop)(K:Nat->Prop)(J:List Value->World->Prop)(ρ0:Rho)(H0:List a8)(F0:Fz)(w0:World)(H:List a8)(ds:List Deferred)(w:World)(ρ:Rho)(F:Fz)(W':Nat->Prop)(up:List Value):Prop where
 sub:∀k,W' k->WB k
 adv:Adv WB ρ0 H0 F0 w0 ρ H F w
 hrel:B8 W' ρ (p8 H) F w
 srel:ve2 P WB W' ρ H F w
 kept:∀k,K k->¬ W' k/\k<w.heap.size
 far:∀(id:Nat) b,H[id]?=some b->G5 b=true->b.dead=false->¬ K (ρ id).blk
 jot:J up w
 marks:hc6 WB W' ds w
structure I2(P:Program)(WB:Nat->Prop)(K:Nat->Prop)(J:List Value->World->Prop)(n:Nat)(ρ0:Rho)(H0:List a8)(F0:Fz)(w0:World)(s:St)(ac:Act)(w:World)(ρ:Rho)(F:Fz)(W':Nat->Prop)(up:List Value):Prop where
 core:C2 P WB K J ρ0 H0 F0 w0 s.H ac.defers w ρ F W' up
 vals:VR ρ s.H F w s.a (ac.tmps.toList++up)
 size:ac.tmps.size=n
def me4(P:Program)(WB:Nat->Prop)(K:Nat->Prop)(J:List Value->World->Prop)(n:Nat)(ρ0:Rho)(H0:List a8)(F0:Fz)(w0:World)(s:St)(ac:Act)(w:World):Prop :=
 ∃ρ F W' up,I2 P WB K J n ρ0 H0 F0 w0 s ac w ρ F W' up
def Tr(ρ:Rho)(H:List a8)(F:Fz)(w:World)(ρ':Rho)(H':List a8)(F':Fz)(w':World):Prop:=∀x x',XW ρ H F w x x'->XW ρ' H' F' w' x x'
def lc9(K:Nat->Prop)(J:List Value->World->Prop):Prop:=∀up w w',(∀k,K k->w'.heap[k]?=w.heap[k]?)->J up w->J up w'
section
variable{P:Program}{WB K:Nat->Prop}{J:List Value->World->Prop}{ρ ρ0 ρ':Rho}{H H0 H1:List a8}{F F0 F':Fz}{w w0 w':World}{W':Nat->Prop}{up:List Value}{s:St}{ac ac':Act}{E:Env}
theorem hc6.step{ds:List Deferred}(h:hc6 WB W' ds w)(he:Ext W' F w w'):hc6 WB W' ds w':=⟨λd hd=>by
 obtain⟨D,h1,h2,h3,h4,h5⟩:=h.1 d hd;exact⟨D,h1,(he.block D h4 h3).trans h2,h3,Qdp h4 he.size,h5⟩,h.2⟩
theorem C2.step {ds : List Deferred} (h : C2 P WB K J ρ0 H0 F0 w0 H ds w ρ F W' up) (hJ : lc9 K J) (hA : Adv W' ρ (p8 H) F w ρ' H1 F' w') (ho : pc1 H H1 = true) (hH1 : B8 W' ρ' H1 F' w') :
  C2 P WB K J ρ0 H0 F0 w0 (B7 H H1) ds w' (ρsp H ρ ρ') F' W' up/\Tr ρ H F w (ρsp H ρ ρ') (B7 H H1) F' w' :=
 ⟨⟨h.sub,h.adv.trans (ve6 hA ho h.sub),me2 hA ho hH1,me3 hA ho h.srel,λk hk=>⟨(h.kept k hk).1,Qdp (h.kept k hk).2 hA.ext.size⟩,
  ve5 hA ho h.far,hJ up w w' (λk hk=>hA.ext.block k (h.kept k hk).2 (h.kept k hk).1) h.jot,h.marks.step hA.ext⟩,λ_ _ hx=>Le8 hA ho hx⟩
structure Kb9(DS:Nat->Prop)(tm:Array Value)(ds:List Deferred)(W:Nat->Prop)(ρ0:Rho)(H0:List a8)(F0:Fz)(w0:World)(s:St)(ac:Act)(w:World):Prop where
 defers:ac.defers=ds
 size:ac.tmps.size=tm.size
 same:∀t,¬ DS t->ac.tmps[t]?=tm[t]?
 rel:∃ρ F,Adv W ρ0 H0 F0 w0 ρ s.H F w/\B8 W ρ s.H F w/\wa1 ρ s.H F w s.a ac.tmps
theorem ta4{ac:Act}(dst:Option Nat)(v:Value):(ac.put dst v).tmps.size=ac.tmps.size:=by cases dst<;>simp[Act.put]
theorem sc2{ac:Act}{dst:Option Nat}{v:Value}{t:Nat}(h:dst≠some t):(ac.put dst v).tmps[t]?=ac.tmps[t]?:=by
 cases dst with
 |none=>rfl
 |some d=>exact Qdn λe=>h (by rw[e])
section
variable{W:Nat->Prop}{DS:Nat->Prop}{tm:Array Value}{ds:List Deferred}{Fe:Fence}{n:Nat}
variable(hF:FW Fe)(hG0:GOk E F0 w0)(hcalls:∀f,e7 E.P E.G f (E.call f))
include hF hG0 hcalls
theorem piM {ops : Array Oper} {o : Oper} {g : Option (Nat × Bool)} {s s' : St} {ac : Act} {i : Nat} {rest : List Nat} {Q : Exit → Act → World → Prop} (hi : ops[i]? = some o) (hg : ba1 ops o = some g) (hDS : ∀ d, o.dst = some d → DS d)
  (hI:Kb9 DS tm ds W ρ0 H0 F0 w0 s ac w) (he:(Ta6 E s ⟨o.dst,g,[],Fb6 E.P ops o⟩).run=some s') (hK:∀ac' w',Kb9 DS tm ds W ρ0 H0 F0 w0 s' ac' w'->wpOpsIn Fe n E.P ops Q rest ac' w'):wpOpsIn Fe n E.P ops Q (i::rest) ac w:=by
 obtain⟨hd,hsz,hsm,ρ,F,hAdv,hH,hA⟩:=hI;simp only[wpOpsIn,hi];have hsame:∀v t,¬ DS t->(ac.put o.dst v).tmps[t]?=tm[t]?:=λv t ht=>(sc2 λe=>ht (hDS t e)).trans (hsm t ht)
 rcases Fc7 hg hA he with⟨hw,he⟩|⟨hw,he⟩
 ·rw[if_pos hw];unfold Ic2 at he;obtain⟨⟨x,H'⟩,h1,h2⟩:=DT.run_bind_some he;have h1':(evalOp E s.a s.H (Fb6 E.P ops o)).run=some (x,H'):=h1;have hop:=zc3 (ac:={ ac with defers:=[] }) hA hH (hG0.adv hAdv) hcalls h1'
  refine hop.inAny hF n _ _ λx' w' hp=>?_
  obtain⟨ρ',F',a1,a2,a3⟩:=hp;have h2':some (⟨putA s.a o.dst x,H'⟩:St)=some s':=h2;injection h2' with h2';subst h2';exact hK _ _ ⟨(E3 _ _).trans hd,(ta4 _ _).trans hsz,hsame x',ρ',F',hAdv.trans a1,a2,(hA.adv a1).putA o.dst a3⟩
 ·rw[if_neg (by simp[hw])]
  subst he;exact⟨λf _=>hF.fn f,hK _ _ ⟨(E3 _ _).trans hd,(ta4 _ _).trans hsz,hsame _,ρ,F,hAdv,hH,hA.putA o.dst (.ofv _)⟩⟩
theorem kf2 {ops : Array Oper} {Q : Exit → Act → World → Prop} {rest : List Nat} : ∀ (r : List Oper) (k : Nat) (l : List PI) (s s' : St) (ac : Act) (w : World), (∃ t, ops.toList.drop k = r ++ t) → (∀ o ∈ r, ∀ d, o.dst = some d → DS d) → fc3 E.P ops r = some l → Kb9 DS tm ds W ρ0 H0 F0 w0 s ac w → (Q4 E l s).run = some s' →
  (∀ac' w',Kb9 DS tm ds W ρ0 H0 F0 w0 s' ac' w'->wpOpsIn Fe n E.P ops Q rest ac' w')->wpOpsIn Fe n E.P ops Q (List.range' k r.length++rest) ac w
 |[],k,l,s,s',ac,w,hr,hDS,hl,hI,he,hQ=>by
  simp only[fc3] at hl;injection hl with hl;subst hl;have he':some s=some s':=he;injection he' with he';subst he';exact hQ ac w hI
 |o::r,k,l,s,s',ac,w,hr,hDS,hl,hI,he,hQ=>by
  obtain⟨t,hr⟩:=hr;obtain⟨g,l',h1,h2,rfl⟩:=ld4 hl;have he':((Ta6 E s ⟨o.dst,g,[],Fb6 E.P ops o⟩).bind (Q4 E l')).run=some s':=he;obtain⟨s1,h3,h4⟩:=DT.run_bind_some he';have hi:ops[k]?=some o:=by
   have:(ops.toList.drop k)[0]?=some o:=by rw[hr];rfl
   simpa using this
  rw[show (o::r).length=r.length+1 from rfl,List.range'_succ,List.cons_append]
  refine piM hF hG0 hcalls hi h1 (λd hd=>hDS o (.head _) d hd) hI h3 λac' w' hI'=>?_
  refine kf2 r (k+1) l' s1 s' ac' w' ⟨t,?_⟩ (λo ho=>hDS o (.tail _ ho)) h2 hI' h4 hQ
  rw[<- List.drop_drop,hr];rfl
end
theorem Vb9 (ds : List Nat) : ∀ (a l : List a7) (k i : Nat), (sa7 ds a l k)[i]? = match a[i]? with
  |some x=>some (Bool.rec (motive:=λ_=>a7) x ((l[i]?).getD .unk) (fb4 (k+i) ds))
  |none=>none
 |[],l,k,i=>by simp[sa7]
 |x::a,l,k,i=>by
  have e:sa7 ds (x::a) l k=Bool.rec (motive:=λ_=>a7) x (hdA l) (fb4 k ds)::sa7 ds a (tlA l) (k+1):=rfl
  rw[e];cases i with
  |zero=>cases l<;>rfl
  |succ i =>
   simp only[List.getElem?_cons_succ];rw[Vb9 ds a (tlA l) (k+1) i,show k+1+i=k+(i+1) by omega]
   cases l with
   |nil=>simp[tlA]
   |cons y l=>simp[tlA]
theorem Wb0(ds:List Nat):∀(a l:List a7) (k:Nat),(sa7 ds a l k).length=a.length
 |[],_,_=>rfl
 |x::a,l,k=>congrArg Nat.succ (Wb0 ds a (tlA l) (k+1))
theorem Tc4(k:Nat)(l:List Nat):fb4 k l=true↔k∈l:=by
 induction l with
 |nil=>simp[fb4]
 |cons x l ih =>
  have e:fb4 k (x::l)=Bool.rec (fb4 k l) true (Nat.beq x k):=rfl;rw[e,Qdv];cases h:Nat.beq x k with
  |true=>have:=Qda h;simp[this]
  |false =>
   have:=Nat.ne_of_beq_eq_false h
   show fb4 k l=true↔_;rw[ih];exact⟨.inr,λh=>h.resolve_left λe=>this e.symm⟩
theorem md2{x:a7}{x':Value}(h:XW ρ H F w x x'):G0 ρ (p8 H) F w (ja5 H x) x':=by
 cases h with
 |w h =>
  unfold ja5;split
  ·rename_i id i c g;split
   ·rename_i b hb;cases G5 b with
    |true=>exact .unk _
    |false=>exact h
   ·exact .unk _
  ·exact h
 |c h =>
  cases h with
  |n h =>
   unfold ja5;split
   ·split
    ·rename_i b hb;cases G5 b with
     |true=>exact .unk _
     |false=>exact .val (.cell h)
    ·exact .unk _
   ·exact .val (.cell h)
  |box id c g b hb hd he =>
   unfold ja5;simp only[D6,hb,sb7 he];exact .unk _
  |map id c g b t hb hd he =>
   unfold ja5;simp only[D6,hb,sb8 he];exact .unk _
theorem I2.arel{n:Nat}(h:I2 P WB K J n ρ0 H0 F0 w0 s ac w ρ F W' up):wa1 ρ (p8 s.H) F w (n5 (ja5 s.H) (M8 s.a n)) ac.tmps:=by
 have hl:=h.vals.1;have hn:=h.size;rw[Qdy,Array.length_toList] at hl;rw[o5,N0];refine⟨by simp;omega,λi x x' hx hx'=>?_⟩
 rw[Qdf] at hx;have hi:i<n:=hn ▸ (Array.getElem?_eq_some_iff.1 hx').1;rw[List.getElem?_take,if_pos hi] at hx;cases hy:s.a[i]? with
 |none=>rw[hy] at hx;cases hx
 |some y =>
  rw[hy] at hx;injection hx with hx;subst hx;refine md2 (h.vals.2 i y x' hy ?_);rw[Qdi (by rw[Array.length_toList];omega)]
  simpa using hx'
theorem md3 {n : Nat} (hJ : lc9 K J) {dd : List Nat} {s s2 : St} {ac' : Act} (hI : I2 P WB K J n ρ0 H0 F0 w0 s ac w ρ F W' up) (ho : pc1 s.H s2.H = true)
  (hM:Kb9 (·∈dd) ac.tmps ac.defers W' ρ (p8 s.H) F w s2 ac' w'):me4 P WB K J n ρ0 H0 F0 w0 ⟨sa7 dd s.a s2.a 0,B7 s.H s2.H⟩ ac' w'/\ac'.defers=ac.defers/\(∀t,¬ t∈dd->ac'.tmps[t]?=ac.tmps[t]?):=by
 obtain⟨hd,hsz,hsm,ρ',F',hA,hH,hAr⟩:=hM;obtain⟨c1,c2⟩:=hI.core.step hJ hA ho hH;refine⟨⟨_,F',W',up,hd ▸ c1,⟨by rw[Wb0];have:=hI.vals.1;rw[Qdy,Array.length_toList] at this ⊢;omega,λi y y' hy hy'=>?_⟩,hsz.trans hI.size⟩,hd,hsm⟩
 have hn:=hI.size
 simp only at hy
 rw[Vb9] at hy;cases hz:s.a[i]? with
 |none=>rw[hz] at hy;cases hy
 |some z =>
  rw[hz] at hy;injection hy with hy;rw[Qdl] at hy
  rcases Qds i n with hi|hi
  ·rw[Qdi (by rw[Array.length_toList];omega)] at hy'
   have hy':ac'.tmps[i]?=some y':=by simpa using hy'
   cases hm:fb4 i dd with
   |true =>
    rw[hm] at hy;have hy:(s2.a[i]?).getD .unk=y:=hy;cases hq:s2.a[i]? with
    |none=>rw[hq] at hy;subst hy;exact .w (.unk _)
    |some q =>
     rw[hq] at hy;have hy:q=y:=hy;subst hy;exact .w (Vd5 hA ho (hAr.2 i q y' hq hy'))
   |false =>
    rw[hm] at hy;have hy:z=y:=hy;subst hy;have hnm:¬ i∈dd:=λh=>by rw[(Tc4 i dd).2 h] at hm;cases hm
    rw[hsm i hnm] at hy';refine c2 _ _ (hI.vals.2 i z y' hz ?_);rw[Qdi (by rw[Array.length_toList];omega)]
    simpa using hy'
  ·have hlen : s2.a.length = n := by
    have:=hAr.1
    omega
   have hnone:s2.a[i]?=none:=Qdh (by omega)
   rw[Qdq (by rw[Array.length_toList];omega)] at hy'
   have hy0:(ac.tmps.toList++up)[i]?=some y':=by
    rw[Qdq (by rw[Array.length_toList];omega)]
    rw[Array.length_toList] at hy' ⊢;rw[hsz] at hy';exact hy'
   rw[hnone] at hy;cases hm:fb4 i dd with
   |true=>rw[hm] at hy;have hy:a7.unk=y:=hy;subst hy;exact .w (.unk _)
   |false=>rw[hm] at hy;have hy:z=y:=hy;subst hy;exact c2 _ _ (hI.vals.2 i z y' hz hy0)
theorem Le9 {Fe : Fence} {n m k kk : Nat} (hF : FW Fe) (hG0 : GOk E F0 w0) (hcalls : ∀ f, e7 E.P E.G f (E.call f)) (hJ : lc9 K J) {ops : Array Oper} {Q : Exit → Act → World → Prop} {rest : List Nat} {r : List Oper} {l : List PI} {dd : List Nat} {x : c9} {s s' : St}
  (hr:∃t,ops.toList.drop k=r++t) (hDS:∀o∈r,∀d,o.dst=some d->d∈dd) (hl:fc3 E.P ops r=some l) (hI:me4 E.P WB K J n ρ0 H0 F0 w0 s ac w) (he:(Q0 E kk (.mask n dd (.ops l)) s).run=some (x,s'))
  (hQ:∀ac' w',me4 E.P WB K J n ρ0 H0 F0 w0 s' ac' w'->ac'.defers=ac.defers->(∀t,¬ t∈dd->ac'.tmps[t]?=ac.tmps[t]?)->wpOpsIn Fe m E.P ops Q rest ac' w'):x=.normal/\wpOpsIn Fe m E.P ops Q (List.range' k r.length++rest) ac w:=by
 obtain⟨ρ,F,W',up,hI⟩:=hI;have he':((Q0 E kk (.ops l) ⟨n5 (ja5 s.H) (M8 s.a n),p8 s.H⟩).bind λr=>.guard (pc1 s.H r.2.H) (.ret (r.1,⟨sa7 dd s.a r.2.a 0,B7 s.H r.2.H⟩))).run=some (x,s'):=he
 obtain⟨⟨x1,s1⟩,h1,h2⟩:=DT.run_bind_some he';obtain⟨ho,h2⟩:=DT.run_guard_some h2;have h2:some (x1,(⟨sa7 dd s.a s1.a 0,B7 s.H s1.H⟩:St))=some (x,s'):=h2;injection h2 with h2;injection h2 with e1 e2;subst e1 e2
 have h1':((Q4 E l ⟨n5 (ja5 s.H) (M8 s.a n),p8 s.H⟩).bind λs=>.ret (c9.normal,s)).run=some (x1,s1):=h1
 obtain⟨s2,h3,h4⟩:=DT.run_bind_some h1';have h4:some (c9.normal,s2)=some (x1,s1):=h4;injection h4 with h4;injection h4 with e1 e2;subst e1 e2
 refine⟨rfl,?_⟩;have hG:GOk E F w:=hG0.adv hI.core.adv;refine kf2 (DS:=(·∈dd)) (tm:=ac.tmps) (ds:=ac.defers) (W:=W') (ρ0:=ρ) (H0:=p8 s.H) (F0:=F) (w0:=w) hF hG hcalls r k l _ s2 ac w hr hDS hl ⟨rfl,rfl,λ_ _=>rfl,ρ,F,.refl,hI.core.hrel,hI.arel⟩ h3 λac' w' hM=>?_
 obtain⟨k1,k2,k3⟩:=md3 hJ hI ho hM;exact hQ ac' w' k1 k2 k3
end
end Go.Ev
