/- Own work. -/
import Derived.Test.YtekgjjgbdcgldaaGreatEvDraw2
import Derived.CallsIn
import Derived.RangeFuncIn
import Derived.RangeFuncRecord
import Derived.RangeFuncLeaves
import Derived.ControlIn
import Derived.LoopNIn
import Derived.TacticsIn
set_option linter.all false
noncomputable section
def Qda:=@Nat.eq_of_beq_eq_true
def Qdb:=@Bool.and_eq_true
def Qdc:=@List.getElem?_eq_getElem
def Qdd:=@List.getD_eq_getElem?_getD
def Qde:=@List.getElem?_eq_some_iff
def Qdf:=@List.getElem?_map
def Qdg:=@Nat.le_refl
def Qdh:=@List.getElem?_eq_none
def Qdi:=@List.getElem?_append_left
def Qdj:=@List.drop_eq_getElem_cons
def Qdk:=@Option.some.inj
def Qdl:=@Nat.zero_add
def Qdm:=@Array.all_eq_true_iff_forall_mem
def Qdn:=@Array.getElem?_setIfInBounds_ne
def Qdo:=@List.mem_range
def Qdp:=@Nat.lt_of_lt_of_le
def Qdq:=@List.getElem?_append_right
def Qdr:=@Bool.not_eq_true'
def Qds:=@Nat.lt_or_ge
def Qdt:=@List.getElem?_set_self
def Qdu:=@List.getElem?_set_ne
def Qdv:=@List.mem_cons
def Qdw:=@List.mem_filterMap
def Qdx:=@Nat.le_trans
def Qdy:=@List.length_append
def Qdz:=@Go.Ev.Agr.arg
namespace Go.Ev
open Go
structure Wd3(E:Env)(ops:Array Oper)(ks:List (Nat×PI))(s:St)(U T:Nat->St):Prop where
 u0:U 0=s
 u:∀j,j<ops.size->bc3 E (mc2 ks) U j
 t0:T 0=U ops.size
 t:∀j,j<ops.size->bc3 E (Kc3 ks) T j
def Wd4(z:List b8):b9:={ et:=0,es:=z.length,elems:=[z],own:=true,dead:=false,g:=0 }
def gd2:PO->Nat->b8
 |.alloc _,n=>.ptr n 0 0 0
 |_,n=>.sl n 0 0 0
def Dd9:PO->b9
 |.alloc z=>Wd4 z
 |.bslice et es _ _ _=>{ et,es,elems:=[],own:=true,dead:=false,g:=0 }
 |_=>Wd4 []
theorem Pe5(o:PO):(Dd9 o).dead=false:=by cases o<;>rfl
theorem If5(o:PO):(Dd9 o).g=0:=by cases o<;>rfl
theorem Xe4 {tr : Nat} {P : Program} {ops : Array Oper} {j : Nat} (ha : qb0 (Ra4 ops j) = true) {E : Env} {a : List b8} {H : List b9} {r : b8 × List b9} (he : (evalOp E a H (Z3 tr P ops j)).run = some r) :
  (Ra4 ops j).guard=none/\∀a H,(evalOp E a H (Z3 tr P ops j)).run=some (gd2 (Z3 tr P ops j) H.length,H++[Dd9 (Z3 tr P ops j)]):=by
 unfold qb0 at ha;cases hop:(Ra4 ops j).op with
 |alloc t =>
  simp only[hop] at ha;have hg:(Ra4 ops j).guard=none:=by simpa using ha
  cases hz:zeT P t with
  |none =>
   exfalso;have hbad:Z3 tr P ops j=.bad:=by simp[Z3,Rb7,Wb1,cOp,hop,hz]
   rw[hbad] at he;cases he
  |some z =>
   have hpo:Z3 tr P ops j=.alloc z:=by simp[Z3,Rb7,Wb1,cOp,hop,hz]
   refine⟨hg,λa H=>?_⟩
   rw[hpo];simp only[evalOp,DT.run_ret,o4,za4,J9,gd2,Dd9,Wd4]
 |buildSlice t n ps =>
  simp only[hop] at ha
  split at ha
  ·rename_i hps;have hg:(Ra4 ops j).guard=none:=by simpa using ha
   have hpo:Z3 tr P ops j=.bad\/∃e es,Z3 tr P ops j=.bslice e es 0 [] []:=by
    simp only[Z3,Wb1,cOp,hop];cases P.underlying t with
    |none=>exact .inl rfl
    |some u =>
     cases u with
     |slice e =>
      simp only[hps];cases zeT P e with
      |none=>exact .inl rfl
      |some z =>
       simp only[mb6];split
       ·exact .inr ⟨e,szT P e,by simp[Rb7]⟩
       ·exact .inl rfl
     |_=>exact .inl rfl
   rcases hpo with hpo|⟨e,es,hpo⟩
   ·rw[hpo] at he;cases he
   ·refine⟨hg,λa H=>?_⟩
    rw[hpo];simp only[evalOp,o8,List.map_nil,gc7,freezeCells,DT.run_ret,o4,za4,J9,gd2,Dd9,La8]
  ·cases ha
 |_=>simp[hop] at ha
theorem Mc2(a:List b8)(dst:Option Nat)(x:b8):(putA a dst x).length=a.length:=by
 rw[wc2];cases dst<;>simp
theorem Mc3{a:List b8}{dst:Option Nat}{x:b8}{t:Nat}(h:dst≠some t):(putA a dst x)[t]?=a[t]?:=by
 rw[wc2];cases dst with
 |none=>rfl
 |some d=>simp only;rw[Qdu (λe=>h (by rw[e]))]
theorem ld8{a:List b8}{d:Nat}{x:b8}(h:d<a.length):(putA a (some d) x)[d]?=some x:=by
 rw[wc2];exact Qdt h
section
variable{tr:Nat}{E:Env}{ops:Array Oper}{M:List Nat}{ks:List (Nat×PI)}{s:St}{U T:Nat->St}
variable(hD:DC tr E.P ops M ks)(hT:Wd3 E ops ks s U T)
include hD
theorem Wb4{i j:Nat}(hj:j<ops.size)(hi:i<ops.size)(hb:C0 M i j=true):i<j:=by
 refine cd0 hD.rows (· < j) (λm o ho hm i hi=>?_) j _ (Da2 hj) (λi hi=>Lc9 hD.rows (Da2 hj) hi) i hi hb
 have:=Lc9 hD.rows ho hi
 omega
theorem ye8{j:Nat}(hj:j<ops.size)(h:R2 tr E.P ops j=0):mc2 ks j=some (Fc3 tr E.P ops M j)/\Kc3 ks j=none:=by
 unfold mc2 Kc3;rw[hD.at' j hj,h];exact⟨rfl,rfl⟩
theorem Xe5{j:Nat}(hj:j<ops.size)(h:R2 tr E.P ops j≠0):mc2 ks j=none/\Kc3 ks j=some (Fc3 tr E.P ops M j):=by
 unfold mc2 Kc3;rw[hD.at' j hj]
 rcases nc3 (tr:=tr) (P:=E.P) (ops:=ops) j with h'|h'|h'
 ·exact absurd h' h
 ·rw[h'];exact⟨rfl,rfl⟩
 ·rw[h'];exact⟨rfl,rfl⟩
include hT
theorem Wd5{j:Nat}(hj:j<ops.size)(h:R2 tr E.P ops j≠0):U (j+1)=U j:=by
 have:=hT.u j hj
 unfold bc3 at this;rw[(Xe5 hD hj h).1] at this;exact this
theorem Mc4{j:Nat}(hj:j<ops.size)(h:R2 tr E.P ops j=0):T (j+1)=T j:=by
 have:=hT.t j hj
 unfold bc3 at this;rw[(ye8 hD hj h).2] at this;exact this
theorem Ob0 {j : Nat} (hj : j < ops.size) (h : R2 tr E.P ops j = 0) : ∃ d, (Ra4 ops j).guard = none ∧ ta5 ops j = some d ∧ (∀ a H, (evalOp E a H (Z3 tr E.P ops j)).run = some (gd2 (Z3 tr E.P ops j) H.length, H ++ [Dd9 (Z3 tr E.P ops j)])) ∧
  U (j+1)=⟨putA (U j).a (some d) (gd2 (Z3 tr E.P ops j) (U j).H.length),(U j).H++[Dd9 (Z3 tr E.P ops j)]⟩:=by
 have hst:=hT.u j hj;unfold bc3 at hst;rw[(ye8 hD hj h).1] at hst;obtain⟨d,hd⟩:=hD.allocDst hj h;have ha:=qd2 h;have hg:(Ra4 ops j).guard=none:=by
  unfold qb0 at ha
  split at ha
  ·simpa using ha
  ·split at ha
   ·simpa using ha
   ·cases ha
  ·cases ha
 have hgd:Fc2 ops j=none:=by simp[Fc2,ga8,hg]
 have hhide:(Fc3 tr E.P ops M j).hide=[]:=by simp[Fc3,h]
 obtain⟨b,h1,h2,h3⟩:=Mc0 hst;have hb:b=true:=by
  have:gd1 E (U j).a (Fc2 ops j)=some b:=h1
  rw[hgd] at this;injection this with this;exact this.symm
 obtain⟨x,H',h4,h5⟩:=ie9 (h2 hb);rw[hhide] at h4 h5;have h4':(evalOp E (U j).a (U j).H (Z3 tr E.P ops j)).run=some (x,H'):=h4;obtain⟨_,hev⟩:=Xe4 ha h4';refine⟨d,hg,hd,hev,?_⟩;rw[hev] at h4';injection h4' with h4';injection h4' with e1 e2;subst e1 e2;rw[h5];show (⟨putA (U j).a (ta5 ops j) _,_⟩:St)=_;rw[hd];rfl
theorem Wd6 {j : Nat} (hj : j < ops.size) (h : R2 tr E.P ops j ≠ 0) : ∃ b, gd1 E (T j).a (Fc2 ops j) = some b ∧
  (b=true->∃x H',(evalOp E (T j).a (Dc9 (T j).H (wb1 (T j).a (Fc3 tr E.P ops M j).hide)) (Z3 tr E.P ops j)).run=some (x,H') /\
   T (j+1)=⟨putA (T j).a (ta5 ops j) x,wb2 (T j).H H' (wb1 (T j).a (Fc3 tr E.P ops M j).hide)⟩) /\
  (b=false->T (j+1)=⟨putA (T j).a (ta5 ops j) (.v (.tuple #[])),(T j).H⟩):=by
 have hst:=hT.t j hj;unfold bc3 at hst;rw[(Xe5 hD hj h).2] at hst;obtain⟨b,h1,h2,h3⟩:=Mc0 hst;exact⟨b,h1,λhb=>ie9 (h2 hb),h3⟩
theorem Wd7{t:Nat}:∀(d u:Nat),u+d<=ops.size->(∀j,u<=j->j<u+d->R2 tr E.P ops j=0->ta5 ops j≠some t)->(U (u+d)).a[t]?=(U u).a[t]?
 |0,u,_,_=>rfl
 |d+1,u,hb,hn=>by
  have ih:=Wd7 d u (by omega) λj h1 h2=>hn j h1 (by omega)
  rw[<- ih];show (U (u+d+1)).a[t]?=_;by_cases hk:R2 tr E.P ops (u+d)=0
  ·obtain⟨d',_,hd',_,hU⟩:=Ob0 hD hT (j:=u+d) (by omega) hk
   rw[hU];exact Mc3 (hd' ▸ hn (u+d) (by omega) (by omega) hk)
  ·rw[Wd5 hD hT (by omega) hk]
theorem Fc4{t:Nat}:∀(d u:Nat),u+d<=ops.size->(∀j,u<=j->j<u+d->R2 tr E.P ops j≠0->ta5 ops j≠some t)->(T (u+d)).a[t]?=(T u).a[t]?
 |0,u,_,_=>rfl
 |d+1,u,hb,hn=>by
  have ih:=Fc4 d u (by omega) λj h1 h2=>hn j h1 (by omega)
  rw[<- ih];show (T (u+d+1)).a[t]?=_;by_cases hk:R2 tr E.P ops (u+d)=0
  ·rw[Mc4 hD hT (by omega) hk]
  ·obtain⟨b,h1,h2,h3⟩:=Wd6 hD hT (j:=u+d) (by omega) hk
   have hne:=hn (u+d) (by omega) (by omega) hk
   cases b with
   |true =>
    obtain⟨x,H',_,h5⟩:=h2 rfl;rw[h5];exact Mc3 hne
   |false=>rw[h3 rfl];exact Mc3 hne
theorem nc4:∀j,j<=ops.size->(U j).a.length=s.a.length/\(T j).a.length=s.a.length:=by
 have hu:∀j,j<=ops.size->(U j).a.length=s.a.length:=by
  intro j
  induction j with
  |zero=>intro _;rw[hT.u0]
  |succ j ih =>
   intro hj;by_cases hk:R2 tr E.P ops j=0
   ·obtain⟨d',_,hd',_,hU⟩:=Ob0 hD hT (j:=j) (by omega) hk
    rw[hU];simp only[Mc2];exact ih (by omega)
   ·rw[Wd5 hD hT (by omega) hk];exact ih (by omega)
 intro j
 induction j with
 |zero=>intro _;exact⟨hu 0 (by omega),by rw[hT.t0];exact hu _ (Qdg _)⟩
 |succ j ih =>
  intro hj;refine⟨hu _ hj,?_⟩;by_cases hk:R2 tr E.P ops j=0
  ·rw[Mc4 hD hT (by omega) hk];exact (ih (by omega)).2
  ·obtain⟨b,h1,h2,h3⟩:=Wd6 hD hT (j:=j) (by omega) hk
   cases b with
   |true =>
    obtain⟨x,H',_,h5⟩:=h2 rfl;rw[h5];simp only[Mc2];exact (ih (by omega)).2
   |false=>rw[h3 rfl];simp only[Mc2];exact (ih (by omega)).2
theorem Xe6{j:Nat}(hj:j<ops.size)(hl:ac9 (Z3 tr E.P ops j)=false):Agr (T j).a (T ops.size).a (Ec2 (Fc2 ops j)++Nb6 (Z3 tr E.P ops j)):=λt ht=>by
 have:=Fc4 hD hT (t:=t) (ops.size-j) j (by omega) λi h1 h2 hk he=>by
  have hi:i<ops.size:=by omega
  rcases (hD.slots hi hj he).1 ht with hb|hb
  ·have:=Wb4 hD hj hi hb
   omega
  ·rw[hl] at hb;cases hb.1
 rw[show j+(ops.size-j)=ops.size by omega] at this
 exact this.symm
theorem Cf4{j d:Nat}(hj:j<ops.size)(hd:ta5 ops j=some d):(T ops.size).a[d]?=(T (j+1)).a[d]?:=by
 have:=Fc4 hD hT (t:=d) (ops.size-(j+1)) (j+1) (by omega) λi h1 h2 hk he=>by
  have hi:i<ops.size:=by omega
  rcases (hD.slots hi hj he).2 with h|h
  ·omega
  ·exact h hd
 rw[show j+1+(ops.size-(j+1))=ops.size by omega] at this
 exact this
theorem Wd8{j d v:Nat}(hj:j<ops.size)(h:R2 tr E.P ops j=0)(hd:ta5 ops j=some d)(hlt:d<s.a.length)(hv:v<=ops.size):(T v).a[d]?=some (gd2 (Z3 tr E.P ops j) (U j).H.length):=by
 have hne:∀i,i<ops.size->i≠j->ta5 ops i≠some d:=λi hi hij he=>by
  rcases (hD.slots hi hj he).2 with h|h
  ·exact hij h
  ·exact h hd
 have h1:=Fc4 hD hT (t:=d) v 0 (by omega) λi _ h2 hk=>hne i (by omega) λe=>hk (e ▸ h)
 rw[Qdl] at h1;rw[h1,hT.t0];have h2:=Wd7 hD hT (t:=d) (ops.size-(j+1)) (j+1) (by omega) λi h3 h4 _=>hne i (by omega) (by omega)
 rw[show j+1+(ops.size-(j+1))=ops.size by omega] at h2
 rw[h2];obtain⟨d',_,hd',_,hU⟩:=Ob0 hD hT hj h
 have:d'=d:=Qdk (hd'.symm.trans hd)
 subst this;rw[hU];exact ld8 (by rw[(nc4 hD hT j (by omega)).1];exact hlt)
theorem Wd9:∀(d u:Nat),u+d<=ops.size->∃l,(U (u+d)).H=(U u).H++l
 |0,u,_=>⟨[],by simp⟩
 |d+1,u,hb=>by
  obtain⟨l,hl⟩:=Wd9 d u (by omega)
  show ∃l,(U (u+d+1)).H=_;by_cases hk:R2 tr E.P ops (u+d)=0
  ·obtain⟨d',_,hd',_,hU⟩:=Ob0 hD hT (j:=u+d) (by omega) hk
   exact⟨l++[Dd9 (Z3 tr E.P ops (u+d))],by rw[hU,hl,List.append_assoc]⟩
  ·exact⟨l,by rw[Wd5 hD hT (by omega) hk,hl]⟩
theorem Qf4{i j:Nat}(hij:i<j)(hj:j<=ops.size)(hk:R2 tr E.P ops i=0):(U i).H.length<(U j).H.length:=by
 obtain⟨d',_,hd',_,hU⟩:=Ob0 hD hT (j:=i) (by omega) hk
 obtain⟨l,hl⟩:=Wd9 hD hT (j-(i+1)) (i+1) (by omega)
 rw[show i+1+(j-(i+1))=j by omega] at hl
 rw[hl,hU];simp
theorem ye9{j:Nat}(hj:j<=ops.size):s.H.length<=(U j).H.length/\∀i,i<s.H.length->(U j).H[i]?=s.H[i]?:=by
 obtain⟨l,hl⟩:=Wd9 hD hT j 0 (by omega)
 rw[Qdl,hT.u0] at hl;rw[hl];exact⟨by simp,λi hi=>Qdi hi⟩
theorem ze0{j:Nat}(hj:j<ops.size)(hk:R2 tr E.P ops j=0):(T 0).H[(U j).H.length]?=some (Dd9 (Z3 tr E.P ops j)):=by
 obtain⟨d',_,hd',_,hU⟩:=Ob0 hD hT hj hk;obtain⟨l,hl⟩:=Wd9 hD hT (ops.size-(j+1)) (j+1) (by omega)
 rw[show j+1+(ops.size-(j+1))=ops.size by omega,hU] at hl
 rw[hT.t0,hl];simp
theorem Xe7:∀(v:Nat),v<=ops.size->∀id,s.H.length<=id->id<(U v).H.length->∃j,j<v/\R2 tr E.P ops j=0/\id=(U j).H.length
 |0,_,id,h1,h2=>by rw[hT.u0] at h2;omega
 |v+1,hv,id,h1,h2=>by
  by_cases hk:R2 tr E.P ops v=0
  ·obtain⟨d',_,hd',_,hU⟩:=Ob0 hD hT (j:=v) (by omega) hk
   rw[hU] at h2
   simp at h2
   by_cases he:id<(U v).H.length
   ·obtain⟨j,h3,h4,h5⟩:=Xe7 v (by omega) id h1 he
    exact⟨j,by omega,h4,h5⟩
   ·exact⟨v,by omega,hk,by omega⟩
  ·rw[Wd5 hD hT (by omega) hk] at h2
   obtain⟨j,h3,h4,h5⟩:=Xe7 v (by omega) id h1 h2
   exact⟨j,by omega,h4,h5⟩
end
section
variable{E:Env}{a a':List b8}
theorem Mc5{o:PO}(h:Agr a a' (Nb6 o)):ab6 E a o=ab6 E a' o:=by
 cases o with
 |load ks n agg x=>simp only[ab6,Qdz (E:=E) (x:=x) h]
 |idxS es x i=>simp only[ab6,Qdz (E:=E) h.left]
 |slice es x lo hi=>simp only[ab6,Qdz (E:=E) h.left.left]
 |_=>rfl
theorem Ed0{o:PO}(h:Agr a a' (Nb6 o)):Z0 E a o=Z0 E a' o:=by
 cases o with
 |store n x y=>simp only[Z0,Qdz (E:=E) h.left]
 |append et es by' x y=>simp only[Z0,Qdz (E:=E) h.left]
 |copy es x y=>simp only[Z0,Qdz (E:=E) h.left]
 |apre es x y=>simp only[Z0,Qdz (E:=E) h.left]
 |clr es z x=>simp only[Z0,Qdz (E:=E) h]
 |call f xs=>simp only[Z0,Agr.args (E:=E) h]
 |calld x xs=>simp only[Z0,Agr.args (E:=E) h.right,Qdz (E:=E) h.left]
 |_=>rfl
theorem Mc6{o:PO}(h:ac9 o=true):ab6 E a o=[]:=by cases o<;>first | rfl | cases h
theorem Ac7{o:PO}(h:ac9 o=true):Z0 E a o=[]:=by cases o<;>first | rfl | cases h
theorem qd3:∀{l:List (PO×PO)},pb8 E a l=true->∀{p:PO×PO},p∈l->∀id∈ab6 E a p.1,id∉Z0 E a p.2
 |[],_,p,hp=>by cases hp
 |q::l,h,p,hp=>by
  have e:pb8 E a (q::l)=Bool.rec false (pb8 E a l) (Db7 (ab6 E a q.1) (Z0 E a q.2)):=rfl;rw[e] at h;cases hq:Db7 (ab6 E a q.1) (Z0 E a q.2) with
  |false=>rw[hq] at h;cases h
  |true =>
   rw[hq] at h
   rcases Qdv.1 hp with rfl|hp
   ·exact Uc7 hq
   ·exact qd3 h hp
theorem qd4:∀{l:List PI},vc3 a l=true->∀p∈l,∀d,p.dst=some d->d<a.length
 |[],_,p,hp=>by cases hp
 |q::l,h,p,hp=>λd hd=>by
  have e:vc3 a (q::l)=(match q.dst with
   |some d=>match nth a d with
    |some _=>vc3 a l
    |none=>false
   |none=>false):=rfl
  rw[e] at h;cases hq:q.dst with
  |none=>simp[hq] at h
  |some d' =>
  simp only[hq,D9] at h;cases hn:a[d']? with
  |none=>simp[hn] at h
  |some x =>
  simp only[hn] at h
  rcases Qdv.1 hp with rfl|hp
  ·have:d'=d:=Qdk (hq.symm.trans hd)
   subst this;exact (Qde.1 hn).1
  ·exact qd4 h p hp d hd
theorem qd5{tr:Nat}{P:Program}{ops:Array Oper}{j:Nat}:R2 tr P ops j=0↔qb0 (Ra4 ops j)=true:=by
 refine⟨qd2,λh=>?_⟩
 unfold R2 Ac2;rw[if_pos h]
end
section
variable{tr:Nat}{E:Env}{ops:Array Oper}{M:List Nat}{ks:List (Nat×PI)}{s:St}{U T:Nat->St}
variable(hD:DC tr E.P ops M ks)(hT:Wd3 E ops ks s U T)(hin:∀j,j<ops.size->R2 tr E.P ops j=0->∀d,ta5 ops j=some d->d<s.a.length)
include hD hT
theorem Xe8{j:Nat}(hj:j<ops.size):ab6 E (T j).a (Z3 tr E.P ops j)=ab6 E (T ops.size).a (Z3 tr E.P ops j):=by
 cases hl:ac9 (Z3 tr E.P ops j) with
 |true=>rw[Mc6 hl,Mc6 hl]
 |false=>exact Mc5 (Xe6 hD hT hj hl).right
theorem Pe6{j:Nat}(hj:j<ops.size):Z0 E (T j).a (Z3 tr E.P ops j)=Z0 E (T ops.size).a (Z3 tr E.P ops j):=by
 cases hl:ac9 (Z3 tr E.P ops j) with
 |true=>rw[Ac7 hl,Ac7 hl]
 |false=>exact Ed0 (Xe6 hD hT hj hl).right
theorem ld9 {j : Nat} (hj : j < ops.size) (h : R2 tr E.P ops j = 1) : ∃ b x, gd1 E (T j).a (Fc2 ops j) = some b ∧ T (j + 1) = ⟨putA (T j).a (ta5 ops j) x, (T j).H⟩ ∧
  (b=true->(evalOp E (T j).a (T j).H (Z3 tr E.P ops j)).run=some (x,(T j).H))/\(b=false->x=.v (.tuple #[])):=by
 obtain⟨b,h1,h2,h3⟩:=Wd6 hD hT hj (by omega)
 have hh:(Fc3 tr E.P ops M j).hide=[]:=by simp[Fc3,h]
 cases b with
 |true =>
  obtain⟨x,H',h4,h5⟩:=h2 rfl;rw[hh] at h4 h5;have h4':(evalOp E (T j).a (T j).H (Z3 tr E.P ops j)).run=some (x,H'):=h4;have he:=(Lc5 (je0 h) h4').1;subst he;exact⟨true,x,h1,h5,λ_=>h4',λh=>by cases h⟩
 |false=>exact⟨false,_,h1,h3 rfl,λh=>(by cases h),λ_=>rfl⟩
theorem ze1:∀(d u:Nat),u+d<=ops.size->(∀j,u<=j->j<u+d->R2 tr E.P ops j≠2)->(T (u+d)).H=(T u).H
 |0,u,_,_=>rfl
 |d+1,u,hb,hn=>by
  have ih:=ze1 d u (by omega) λj h1 h2=>hn j h1 (by omega)
  rw[<- ih];show (T (u+d+1)).H=_
  rcases nc3 (tr:=tr) (P:=E.P) (ops:=ops) (u+d) with hk|hk|hk
  ·rw[Mc4 hD hT (by omega) hk]
  ·obtain⟨b,x,_,h2,_⟩:=ld9 hD hT (j:=u+d) (by omega) hk
   rw[h2]
  ·exact absurd hk (hn (u+d) (by omega) (by omega))
include hin
theorem rf3{j:Nat}(hj:j<ops.size)(h:R2 tr E.P ops j=2)(id:Nat):id∈wb1 (T j).a (Fc3 tr E.P ops M j).hide↔∃b,b<ops.size/\R2 tr E.P ops b=0/\C0 M b j=false/\id=(U b).H.length:=by
 have hh:(Fc3 tr E.P ops M j).hide=Uc2 ops M j:=by simp[Fc3,h]
 rw[hh];unfold wb1;rw[o8,List.mem_map];constructor
 ·rintro⟨d,hd,he⟩;unfold Uc2 at hd;rw[Qdw] at hd;obtain⟨b,hb,hb2⟩:=hd;have hb1:=Qdo.1 hb;simp only[Da2 hb1] at hb2
  split at hb2
  ·rename_i hc;rw[Qdb,Qdr] at hc;have hk:R2 tr E.P ops b=0:=qd5.2 hc.1;have ha:=Wd8 hD hT hb1 hk hb2 (hin b hb1 hk d hb2) (v:=j) (by omega)
   rw[D9,ha] at he;exact⟨b,hb1,hk,hc.2,by rw[<- he];cases Z3 tr E.P ops b<;>rfl⟩
  ·cases hb2
 ·rintro⟨b,hb1,hk,hc,rfl⟩;obtain⟨d,hd⟩:=hD.allocDst hb1 hk;refine⟨d,?_,?_⟩
  ·unfold Uc2;rw[Qdw];refine⟨b,Qdo.2 hb1,?_⟩;have h2:(qb0 (Ra4 ops b)&&!C0 M b j)=true:=by rw[qd5.1 hk,hc];rfl
   simp only[Da2 hb1,h2,if_true];exact hd
  ·rw[D9,Wd8 hD hT hb1 hk hd (hin b hb1 hk d hd) (v:=j) (by omega)]
   cases Z3 tr E.P ops b<;>rfl
theorem Xd0 {j : Nat} (hj : j < ops.size) (h : R2 tr E.P ops j = 2) : ∃ b x, gd1 E (T j).a (Fc2 ops j) = some b ∧ (T (j + 1)).a = putA (T j).a (ta5 ops j) x ∧
  (b=true->∃hid H',(∀id,id∈hid↔∃b,b<ops.size/\R2 tr E.P ops b=0/\C0 M b j=false/\id=(U b).H.length) /\
   (evalOp E (T j).a (pa4 (T j).H (·∈hid)) (Z3 tr E.P ops j)).run=some (x,H')/\(T (j+1)).H=wb2 (T j).H H' hid) /\
  (b=false->x=.v (.tuple #[])/\(T (j+1)).H=(T j).H):=by
 obtain⟨b,h1,h2,h3⟩:=Wd6 hD hT hj (by omega)
 cases b with
 |true =>
  obtain⟨x,H',h4,h5⟩:=h2 rfl;rw[Pe4] at h4;exact⟨true,x,h1,by rw[h5],λ_=>⟨_,H',rf3 hD hT hin hj h,h4,by rw[h5]⟩,λh=>by cases h⟩
 |false=>exact⟨false,_,h1,by rw[h3 rfl],λh=>(by cases h),λ_=>⟨rfl,by rw[h3 rfl]⟩⟩
omit hD hT hin in
theorem Nd1{H:List b9}{l:List Nat}(hb:∀id∈l,id<H.length):O4 (·∈l) (pa4 H (·∈l)) (pa4 H (·∈l)) (pa4 H (·∈l)) (pa4 H (·∈l)) :=
 ⟨rfl,λ_ _=>rfl,λid b hD hb=>by
  rw[za5 hD] at hb;simp only[Option.map_eq_some_iff] at hb;obtain⟨c,_,rfl⟩:=hb
  rfl,λ_ _=>rfl,λ_ _=>rfl,λid h=>by rw[Cb8];exact hb id h⟩
theorem Xd1{b:Nat}(hb:b<ops.size)(hk:R2 tr E.P ops b=0):∀(v:Nat),v<=ops.size->(∀h,h<v->R2 tr E.P ops h=2->C0 M b h=false)->(T v).H[(U b).H.length]?=(T 0).H[(U b).H.length]?
 |0,_,_=>rfl
 |v+1,hv,hn=>by
  have ih:=Xd1 hb hk v (by omega) λh h1=>hn h (by omega)
  rw[<- ih]
  rcases nc3 (tr:=tr) (P:=E.P) (ops:=ops) v with h0|h0|h0
  ·rw[Mc4 hD hT (by omega) h0]
  ·obtain⟨b,x,_,h2,_⟩:=ld9 hD hT (j:=v) (by omega) h0
   rw[h2]
  ·obtain⟨bb,x,h1,_,h3,h4⟩:=Xd0 hD hT hin (j:=v) (by omega) h0
   cases bb with
   |false=>rw[(h4 rfl).2]
   |true =>
    obtain⟨hid,H',h5,h6,h7⟩:=h3 rfl;rw[h7]
    -- every wb1 block stands in the heap
    have hall:∀id∈hid,id<(T v).H.length:=λid hid'=>by
     obtain⟨b',k1,k2,k3,rfl⟩:=(h5 id).1 hid'
     have:=Xd1 k1 k2 v (by omega) λh h1 h2=>by
      cases hc:C0 M b' h with
      |false=>rfl
      |true =>
       rw[(hD.chain h1 (by omega) h2 h0).2 b' hc] at k3
       cases k3
     have hz:=ze0 hD hT k1 k2;rw[hz] at this;exact (Qde.1 this).1
    have hm:(U b).H.length∈hid:=(h5 _).2 ⟨b,hb,hk,hn v (by omega) h0,rfl⟩
    obtain⟨H2',_,hM⟩:=(Nd1 hall).evalOp (E:=E) (a:=(T v).a) (Mc1 h0) h6;refine Vc0 hm (hall _ hm) ?_;exact hM.bound _ hm
theorem Xe9{j:Nat}(hj:j<ops.size)(h0:R2 tr E.P ops j=2){b:Nat}(k1:b<ops.size)(k2:R2 tr E.P ops b=0)(k3:C0 M b j=false):(U b).H.length<(T j).H.length:=by
 have:=Xd1 hD hT hin k1 k2 j (by omega) λh h1 h2=>by
  cases hc:C0 M b h with
  |false=>rfl
  |true =>
   rw[(hD.chain h1 hj h2 h0).2 b hc] at k3;cases k3
 have hz:=ze0 hD hT k1 k2;rw[hz] at this;exact (Qde.1 this).1
theorem rf4{j:Nat}(hj:j<ops.size){id:Nat}(hn:R2 tr E.P ops j=2->id∉Z0 E (T ops.size).a (Z3 tr E.P ops j)):X9 (T j).H (T (j+1)).H id:=by
 rcases nc3 (tr:=tr) (P:=E.P) (ops:=ops) j with h0|h0|h0
 ·rw[Mc4 hD hT hj h0];exact .refl _ _
 ·obtain⟨b,x,_,h2,_⟩:=ld9 hD hT hj h0;rw[h2];exact .refl _ _
 ·obtain⟨bb,x,h1,_,h3,h4⟩:=Xd0 hD hT hin hj h0;cases bb with
  |false=>rw[(h4 rfl).2];exact .refl _ _
  |true =>
   obtain⟨hid,H',h5,h6,h7⟩:=h3 rfl;rw[h7];have hall:∀id∈hid,id<(T j).H.length:=λid hid'=>by
    obtain⟨b',k1,k2,k3,rfl⟩:=(h5 id).1 hid';exact Xe9 hD hT hin hj h0 k1 k2 k3
   obtain⟨H2',_,hM⟩:=(Nd1 hall).evalOp (E:=E) (a:=(T j).a) (Mc1 h0) h6;intro b hb;by_cases hm:id∈hid
   ·refine⟨b,?_,.refl b⟩;rw[Vc0 hm (hall _ hm) (hM.bound _ hm)];exact hb
   ·rw[pd9 hm];have hslots:Z0 E (T j).a (Z3 tr E.P ops j)=Z0 E (T ops.size).a (Z3 tr E.P ops j):=Pe6 hD hT hj;exact Wd2 (Mc1 h0) h6 (by rw[hslots];exact hn h0) b (by rw[Y2 (D:=(·∈hid)) hm];exact hb)
theorem ze2{id:Nat}:∀(d u:Nat),u+d<=ops.size->(∀j,u<=j->j<u+d->R2 tr E.P ops j=2->id∉Z0 E (T ops.size).a (Z3 tr E.P ops j))->X9 (T u).H (T (u+d)).H id
 |0,u,_,_=>.refl _ _
 |d+1,u,hb,hn =>
  (ze2 d u (by omega) λj h1 h2=>hn j h1 (by omega)).trans (rf4 hD hT hin (j:=u+d) (by omega) (hn (u+d) (by omega) (by omega)))
end
section
variable{W:Nat->Prop}{ρ ρ':Rho}{H H':List b9}{F F':Fz}{w w':World}
def Nd2(ρ:Rho)(H:List b9)(ρ':Rho)(H':List b9):Prop:=∀(id:Nat) b,H[id]?=some b->b.dead=false->∃b',H'[id]?=some b'/\b'.dead=false/\b.g<=b'.g/\(b'.g=b.g->ρ' id=ρ id/\b'.es=b.es/\b.elems.length<=b'.elems.length)
section
variable(hk:Nd2 ρ H ρ' H')(hm:∀b o,F b o->F' b o)(hc:∀b o,F b o->w'.cell? ⟨b,o,none⟩=w.cell? ⟨b,o,none⟩)
include hk hm hc
theorem la0.carry{x:b8}{x':Value}(h:la0 ρ H F w x x'):la0 ρ' H' F' w' x x':=by
 cases h with
 |mem h=>exact .mem (h.adv hm hc)
 |v=>exact .v _
 |ptr id i c g a b hb hd hg h =>
  obtain⟨b',hb',hd',hg',e⟩:=hk id b hb hd;refine .ptr id i c g a b' hb' hd' (Qdx hg hg') λhge=>?_
  have hbg:b'.g=b.g:=by omega
  obtain⟨e1,e2,e3⟩:=e hbg;rw[e1,e2];exact h (by omega)
 |sl id off n g a cap b hb hd hg hn hs hm h =>
  obtain⟨b',hb',hd',hg',e⟩:=hk id b hb hd;refine .sl id off n g a cap b' hb' hd' (Qdx hg hg') hn hs hm λhge=>?_
  have hbg:b'.g=b.g:=by omega
  obtain⟨e1,e2,e3⟩:=e hbg;obtain⟨h1,h2,h3⟩:=h (by omega)
  rw[e1,e2];exact⟨h1,h2,Qdx h3 e3⟩
 |tptr cs a vs hs hF hw hr=>exact .tptr cs a vs hs (λc hlt=>hm _ _ (hF c hlt)) (λc hlt=>(hc _ _ (hF c hlt)).trans (hw c hlt)) (λc hlt=>(hr c hlt).adv hm hc)
 |unk x'=>exact .unk x'
theorem la1.carry{x:b8}{x':Value}(h:la1 ρ H F w x x'):la1 ρ' H' F' w' x x':=by
 cases h with
 |cell h=>exact .cell (h.carry hk hm hc)
 |agg cs vs hl h=>exact .agg cs vs hl λi x x' hx hx'=>(h i x x' hx hx').carry hk hm hc
 |fn f caps vs hl h=>exact .fn f caps vs hl λi x x' hx hx'=>(h i x x' hx hx').carry hk hm hc
theorem J1.carry{x:b8}{x':Value}(h:J1 ρ H F w x x'):J1 ρ' H' F' w' x x':=by
 cases h with
 |val h=>exact .val (h.carry hk hm hc)
 |tup xs vs hl h=>exact .tup xs vs hl λi x x' hx hx'=>(h i x x' hx hx').carry hk hm hc
theorem Da1.carry{a:List b8}{vs:Array Value}(h:Da1 ρ H F w a vs):Da1 ρ' H' F' w' a vs :=
 ⟨h.1,λi x x' hx hx'=>(h.2 i x x' hx hx').carry hk hm hc⟩
end
end
section
variable{W:Nat->Prop}{ρ0:Rho}{H0:List b9}{F0:Fz}{w0 w:World}
variable{tr:Nat}{E:Env}{ops:Array Oper}{M:List Nat}{ks:List (Nat×PI)}{s:St}{U T:Nat->St}
def Fa0(listed:Array Bool)(j:Nat):Prop:=listed.getD j true=true
def U5(tr:Nat)(P:Program)(ops:Array Oper)(U:Nat->St)(listed:Array Bool)(id:Nat):Prop:=∃b,b<ops.size/\R2 tr P ops b=0/\¬ Fa0 listed b/\id=(U b).H.length
def da0(ops:Array Oper)(listed:Array Bool)(t:Nat):Prop:=∃i,i<ops.size/\ta5 ops i=some t/\¬ Fa0 listed i
theorem eb5{listed:Array Bool}{i j:Nat}(hi:i<listed.size):Fa0 (listed.setIfInBounds i true) j↔Fa0 listed j\/j=i:=by
 unfold Fa0;by_cases e:i=j
 ·subst e;simp[Array.getD,hi]
 ·have:j≠i:=λh=>e h.symm
  simp only[Array.getD_eq_getD_getElem?,Qdn e,this,or_false]
theorem qd6{listed:Array Bool}{i:Nat}(h:i∈Region.ready .any ops listed):i<ops.size/\¬ Fa0 listed i/\(listed.size=ops.size->∀e∈Ma0 (Ra4 ops i),e<ops.size->Fa0 listed e):=by
 unfold Region.ready at h;rw[List.mem_filter] at h;obtain⟨h1,h2⟩:=h;have hi:=Qdo.1 h1;rw[Da2 hi] at h2;simp only[Option.map_some,Option.getD_some,Qdb,Qdr] at h2;refine⟨hi,λh=>?_,λhsz e he hlt=>?_⟩
 ·unfold Fa0 at h;rw[h] at h2;cases h2.1
 ·obtain⟨ed,h3,h4,h5⟩:=qd0.1 he;have h6:(Ra4 ops i).after.all (λe=>!Region.binds .any e||listed.getD e.on false)=true:=h2.2
  rw[Qdm] at h6;have h7:=h6 ed h3;rw[h4,h5] at h7;simp only[Bool.not_true,Bool.false_or] at h7;unfold Fa0
  have:e<listed.size:=by omega
  simp only[Array.getD,this,dite_true] at h7 ⊢;exact h7
variable(hD:DC tr E.P ops M ks)(hT:Wd3 E ops ks s U T)(hin:∀j,j<ops.size->R2 tr E.P ops j=0->∀d,ta5 ops j=some d->d<s.a.length)
include hD
theorem Pe7 {listed : Array Bool} (hsz : listed.size = ops.size) {i : Nat} (hi : i < ops.size) {x : b8} (hx : ∀ d, ta5 ops i = some d → d < (T ops.size).a.length → (T ops.size).a[d]? = some x) :
  lb8 (T ops.size).a s.a (da0 ops (listed.setIfInBounds i true))=putA (lb8 (T ops.size).a s.a (da0 ops listed)) (ta5 ops i) x:=by
 refine List.ext_getElem? λt=>?_
 have hopen:∀t,ta5 ops i≠some t->(da0 ops (listed.setIfInBounds i true) t↔da0 ops listed t):=λt hne=>by
  constructor
  ·rintro⟨j,h1,h2,h3⟩;exact⟨j,h1,h2,λh=>h3 ((eb5 (hsz ▸ hi)).2 (.inl h))⟩
  ·rintro⟨j,h1,h2,h3⟩;refine⟨j,h1,h2,λh=>?_⟩
   rcases (eb5 (hsz ▸ hi)).1 h with h|h
   ·exact h3 h
   ·subst h;exact hne h2
 by_cases hd:ta5 ops i=some t
 ·have hno : ¬ da0 ops (listed.setIfInBounds i true) t := by
   rintro⟨j,h1,h2,h3⟩
   rcases (hD.slots hi h1 hd).2 with h|h
   ·exact h3 ((eb5 (hsz ▸ hi)).2 (.inr h.symm))
   ·exact h h2
  rw[nb0 hno,hd]
  rcases Qds t (T ops.size).a.length with hlt|hge
  ·rw[ld8 (by rw[mb9];exact hlt)]
   exact hx t hd hlt
  ·rw[Qdh hge,Qdh (by rw[Mc2,mb9];exact hge)]
 ·rw[Mc3 hd];by_cases ho:da0 ops listed t
  ·rcases Qds t (T ops.size).a.length with hlt|hge
   ·rw[Lc8 ho hlt,Lc8 ((hopen t hd).2 ho) hlt]
   ·rw[Qdh (by rw[mb9];exact hge),Qdh (by rw[mb9];exact hge)]
  ·rw[nb0 ho,nb0 λh=>ho ((hopen t hd).1 h)]
include hT
end
section
variable{W:Nat->Prop}{ρ0:Rho}{H0:List b9}{F0:Fz}{w0 w:World}
variable{tr:Nat}{E:Env}{ops:Array Oper}{M:List Nat}{ks:List (Nat×PI)}{s:St}{U T:Nat->St}
variable(hD:DC tr E.P ops M ks)(hT:Wd3 E ops ks s U T)(hin:∀j,j<ops.size->R2 tr E.P ops j=0->∀d,ta5 ops j=some d->d<s.a.length)
variable(hpairs:pb8 E (T ops.size).a (eb2 ops.size M ks)=true)
variable(hG0:GOk E F0 w0)(hcalls:∀f,i7 E.P E.G f (E.call f))
theorem Nd3{listed:Array Bool}(hsz:listed.size=ops.size){i:Nat}(hi:i<ops.size)(hk:R2 tr E.P ops i≠0):U5 tr E.P ops U (listed.setIfInBounds i true)=U5 tr E.P ops U listed:=by
 funext id;refine propext ⟨λ⟨b,h1,h2,h3,h4⟩=>⟨b,h1,h2,λh=>h3 ((eb5 (hsz ▸ hi)).2 (.inl h)),h4⟩,λ⟨b,h1,h2,h3,h4⟩=>⟨b,h1,h2,λh=>?_,h4⟩⟩
 rcases (eb5 (hsz ▸ hi)).1 h with h|h
 ·exact h3 h
 ·subst h;exact hk h2
include hD
include hT hin hpairs hG0 hcalls
end
section
variable{W:Nat->Prop}{ρ0:Rho}{H0:List b9}{F0:Fz}{w0 w:World}
variable{tr:Nat}{E:Env}{ops:Array Oper}{M:List Nat}{ks:List (Nat×PI)}{s:St}{U T:Nat->St}
variable(hD:DC tr E.P ops M ks)(hT:Wd3 E ops ks s U T)(hin:∀j,j<ops.size->R2 tr E.P ops j=0->∀d,ta5 ops j=some d->d<s.a.length)(hlen:H0.length<=s.H.length)
include hD hT hin hlen
omit hT hin hlen in
theorem Pe8{listed:Array Bool}(hsz:listed.size=ops.size)(h:Region.ready .any ops listed=[]):∀j,j<ops.size->Fa0 listed j:=by
 intro j
 induction j using Nat.strongRecOn with
 |_ j ih =>
  intro hj;apply Classical.byContradiction;intro hn;have hmem:j∈Region.ready .any ops listed:=by
   unfold Region.ready;rw[List.mem_filter];refine⟨Qdo.2 hj,?_⟩;rw[Da2 hj];simp only[Option.map_some,Option.getD_some,Qdb,Qdr];refine⟨by unfold Fa0 at hn;simpa using hn,?_⟩
   rw[Qdm];intro e he;cases hb:Region.binds .any e with
   |false=>rfl
   |true =>
    have hd:e.on∈Ma0 (Ra4 ops j):=qd0.2 ⟨e,he,hb,rfl⟩;have hlt:=Lc9 hD.rows (Da2 hj) hd
    have:=ih e.on hlt (by omega)
    unfold Fa0 at this;have h2:e.on<listed.size:=by omega
    simp only[Array.getD,h2,dite_true] at this ⊢;simpa using this
  rw[h] at hmem;cases hmem
def Cb9(listed:Array Bool):Nat:=(listed.toList.filter λb=>!b).length
omit hD hT hin hlen in
theorem Ac8:∀(l:List Bool) (i:Nat),l[i]?=some false->((l.set i true).filter λb=>!b).length+1=(l.filter λb=>!b).length
 |[],i,h=>by simp at h
 |b::l,0,h=>by
  simp at h
  subst h;simp
 |b::l,i+1,h=>by
  have ih:=Ac8 l i (by simpa using h)
  simp only[List.set_cons_succ,List.filter_cons];cases b<;>simp[ih]
omit hD hT hin hlen in
theorem qd7{listed:Array Bool}(h:Cb9 listed=0)(j:Nat):Fa0 listed j:=by
 unfold Cb9 at h;unfold Fa0;rw[List.length_eq_zero_iff,List.filter_eq_nil_iff] at h
 rcases Qds j listed.size with hj|hj
 ·have:=h listed[j] (by simp)
  simpa [Array.getD,hj] using this
 ·simp[Array.getD,Nat.not_lt.2 hj]
variable(hpairs:pb8 E (T ops.size).a (eb2 ops.size M ks)=true)(hG0:GOk E F0 w0)(hcalls:∀f,i7 E.P E.G f (E.call f))
include hpairs hG0 hcalls
end
abbrev Sum:=List b8->List b9->DT (b8×List b9)
def ALe(x y:b8):Prop:=∀ρ H F w v,J1 ρ H F w x v->J1 ρ H F w y v
theorem ALe.refl(x:b8):ALe x x:=λ_ _ _ _ _ h=>h
inductive qd8:List b8->List b8->Prop
 |nil:qd8 [] []
 |cons {x y l r} (h:ALe x y) (t:qd8 l r):qd8 (x::l) (y::r)
theorem qd8.refl:∀l,qd8 l l
 |[]=>.nil
 |x::l=>.cons (.refl x) (qd8.refl l)
theorem qd8.length{l r}(h:qd8 l r):l.length=r.length:=by induction h<;>simp_all
theorem qd8.get{l r}(h:qd8 l r):∀(i:Nat) y,r[i]?=some y->∃x,l[i]?=some x/\ALe x y:=by
 induction h with
 |nil=>intro i y hy;simp at hy
 |cons h t ih =>
  intro i y hy;cases i with
  |zero=>simp at hy;subst hy;exact⟨_,rfl,h⟩
  |succ i=>simpa using ih i y (by simpa using hy)
theorem i7.refine {P : Program} {G : Nat → List Value} {f : FuncId} {S S' : Sum} (h : i7 P G f S)
  (hr:∀args blks r,(S' args blks).run=some r->∃gc9,qd8 args gc9/\(S gc9 blks).run=some r):i7 P G f S':=by
 intro args blks r out he W ρ F w args' hH hlen hargs hG;obtain⟨gc9,ha,he2⟩:=hr args blks _ he;refine h gc9 blks r out he2 W ρ F w args' hH (ha.length ▸ hlen) (λi y x' hy hx'=>?_) hG
 obtain⟨x,hx,hle⟩:=ha.get i y hy;exact hle _ _ _ _ _ (hargs i x x' hx hx')
def If6(l:List (Nat×Sum)):FuncId->Sum :=
 List.rec (motive:=λ_=>FuncId->Sum) (λ_ _ _=>.fail) (λp _ ih f=>Bool.rec (motive:=λ_=>Sum) (ih f) p.2 (Nat.beq p.1 f)) l
def i8(P:Program)(G:Nat->List Value):List (Nat×Sum)->Prop
 |[]=>True
 |p::l=>i7 P G p.1 p.2/\i8 P G l
theorem Ge6{P:Program}{G:Nat->List Value}:∀{l:List (Nat×Sum)},i8 P G l->∀f,i7 P G f (If6 l f)
 |[],_,f=>λargs blks r out h=>by cases h
 |(n,S)::l,h,f=>by
  show i7 P G f (Bool.rec (motive:=λ_=>Sum) (If6 l f) S (Nat.beq n f))
  cases hb:Nat.beq n f with
  |false=>exact Ge6 h.2 f
  |true=>rw[<- Qda hb];exact h.1
inductive PS where
 |pc (c:PC)
 |seq (a b:PS)
 |cond (c:Arg) (x y:PS)
 |block (id:Nat) (c:PS)
 |loop (keep:List Nat) (c:PS)
 |sum (S:St->DT (g8×St))
def Qf5(E:Env)(k:Nat)(c:PS):St->DT (g8×St) :=
 PS.rec (motive:=λ_=>St->DT (g8×St))
  (λc=>V0 E k c)
  (λ_ _ x y s=>(x s).bind λr=>g8.rec (motive:=λ_=>DT (g8×St)) (y r.2) (λid=>.ret (.exit id,r.2)) (.ret (.ret,r.2)) r.1)
  (λc _ _ x y s=>match c9 E s.a c with
   |.v (.bool b)=>.ite b (x s) (y s)
   |_=>.fail)
  (λid _ x s=>(x s).bind λr=>g8.rec (motive:=λ_=>DT (g8×St)) (.ret (.normal,r.2))
   (λid'=>Bool.rec (.ret (.exit id',r.2)) (.ret (.normal,r.2)) (Nat.beq id' id)) (.ret (.ret,r.2)) r.1)
  (λkeep _ x=>kc0 (λs=>tidy k ⟨V1 keep s.a 0,s.H⟩) x E.N)
  (λS=>S) c
def ha5{α:Type}(x y:DT α):Prop:=∀r,x.run=some r->y.run=some r
theorem ha5.refl{α:Type}(x:DT α):ha5 x x:=λ_ h=>h
theorem ha5.bind{α β:Type}{x y:DT α}{f g:α->DT β}(h:ha5 x y)(hf:∀a,ha5 (f a) (g a)):ha5 (x.bind f) (y.bind g):=λr hr=>by
 obtain⟨a,h1,h2⟩:=DT.run_bind_some hr;rw[DT.run_bind,h a h1];exact hf a r h2
theorem ha5.ite{α:Type}{b:Bool}{x y x' y':DT α}(h:ha5 x x')(h':ha5 y y'):ha5 (.ite b x y) (.ite b x' y'):=λr hr=>by
 rw[DT.run_ite] at hr ⊢
 split at hr
 ·next hb=>simpa [hb] using h r hr
 ·next hb=>simpa [hb] using h' r hr
theorem ha5.fail{α:Type}(y:DT α):ha5 .fail y:=λ_ h=>by cases h
theorem bc5{head:St->DT St}{body body':St->DT (g8×St)}(h:∀s,ha5 (body s) (body' s)):∀n s,ha5 (kc0 head body n s) (kc0 head body' n s)
 |0,s=>.refl _
 |n+1,s=>by
  show ha5 ((head s).bind λs=>(body s).bind _) ((head s).bind λs=>(body' s).bind _)
  refine ha5.bind (.refl _) λs=>(h s).bind λr=>?_
  rcases r with⟨x,s'⟩
  cases x with
  |normal=>exact bc5 h n s'
  |exit id=>exact .refl _
  |ret=>exact .refl _
inductive eb6 (E:Env) (k:Nat):PS->PC->Prop
 |pc (c:PC):eb6 E k (.pc c) c
 |seq {a b:PS} {a' b':PC} (h:eb6 E k a a') (h':eb6 E k b b'):eb6 E k (.seq a b) (.seq a' b')
 |cond (c:Arg) {a b:PS} {a' b':PC} (h:eb6 E k a a') (h':eb6 E k b b'):eb6 E k (.cond c a b) (.cond c a' b')
 |block (id:Nat) {a:PS} {a':PC} (h:eb6 E k a a'):eb6 E k (.block id a) (.block id a')
 |loop (keep:List Nat) {a:PS} {a':PC} (h:eb6 E k a a'):eb6 E k (.loop keep a) (.loop keep a')
 |sum {S:St->DT (g8×St)} {c:PC} (h:∀s,ha5 (S s) (V0 E k c s)):eb6 E k (.sum S) c
theorem eb6.le{E:Env}{k:Nat}{a:PS}{c:PC}(h:eb6 E k a c):∀s,ha5 (Qf5 E k a s) (V0 E k c s):=by
 induction h with
 |pc c=>exact λs=>.refl _
 |seq h h' ih ih' =>
  intro s;refine (ih s).bind λr=>?_
  rcases r with⟨x,s'⟩
  cases x with
  |normal=>exact ih' s'
  |exit id=>exact .refl _
  |ret=>exact .refl _
 |cond c h h' ih ih' =>
  intro s;show ha5 (match c9 E s.a c with | .v (.bool b)=>_ | _=>_) (match c9 E s.a c with | .v (.bool b)=>_ | _=>_)
  split
  ·exact .ite (ih s) (ih' s)
  ·exact .fail _
 |block id h ih=>exact λs=>(ih s).bind λr=>.refl _
 |loop keep h ih=>exact λs=>bc5 ih _ s
 |sum h=>exact h
def bc6(head:St->DT St)(body:St->DT (g8×St))(s:St):DT (g8×St) :=
 (body s).bind λr=>g8.rec (motive:=λ_=>DT (g8×St)) ((head r.2).bind λs=>.ret (.normal,s)) (λid=>.ret (.exit id,r.2)) (.ret (.ret,r.2)) r.1
def Fc5(head:St->DT St)(body:St->DT (g8×St))(n:Nat)(s:St):DT (g8×St) :=
 (body s).bind λr=>g8.rec (motive:=λ_=>DT (g8×St)) (kc0 head body n r.2) (λid=>.ret (.exit id,r.2)) (.ret (.ret,r.2)) r.1
theorem wc4{head:St->DT St}{body:St->DT (g8×St)}{n:Nat}{s t:St}{r:g8×St}(h:(head s).run=some t)(h2:(Fc5 head body n t).run=some r):(kc0 head body (n+1) s).run=some r:=by
 show ((head s).bind λs=>Fc5 head body n s).run=some r
 rw[DT.run_bind,h];exact h2
theorem rf5{head:St->DT St}{body:St->DT (g8×St)}{n:Nat}{s t:St}{r:g8×St}(h:(bc6 head body s).run=some (.normal,t))(h2:(Fc5 head body n t).run=some r):(Fc5 head body (n+1) s).run=some r:=by
 obtain⟨⟨x,s1⟩,h3,h4⟩:=DT.run_bind_some h;cases x with
 |normal =>
  obtain⟨t',h5,h6⟩:=DT.run_bind_some h4;cases h6;show ((body s).bind _).run=_;rw[DT.run_bind,h3];exact wc4 h5 h2
 |exit id=>cases h4
 |ret=>cases h4
theorem rf6{head:St->DT St}{body:St->DT (g8×St)}{n:Nat}{s t:St}{x:g8}(h:(bc6 head body s).run=some (x,t))(hx:x≠.normal):(Fc5 head body n s).run=some (x,t):=by
 obtain⟨⟨y,s1⟩,h3,h4⟩:=DT.run_bind_some h;cases y with
 |normal =>
  obtain⟨t',h5,h6⟩:=DT.run_bind_some h4;cases h6;exact absurd rfl hx
 |exit id =>
  show ((body s).bind _).run=_;rw[DT.run_bind,h3];exact h4
 |ret =>
  show ((body s).bind _).run=_;rw[DT.run_bind,h3];exact h4
@[reducible] def nc5(k:Nat)(keep:List Nat)(s:St):DT St:=tidy k ⟨V1 keep s.a 0,s.H⟩
theorem Nd4(E:Env)(k:Nat)(keep:List Nat)(c:PC)(s:St):V0 E k (.loop keep c) s=kc0 (nc5 k keep) (V0 E k c) E.N s:=rfl
inductive Sh where
 |unk
 |int
 |bool
 |tree (es:Nat)
 |ptr (id i c g:Nat)
@[reducible] def sel{α:Type}(c:Bool)(t e:α):α:=Bool.rec (motive:=λ_=>α) e t c
theorem nb1{g a:Int}(h:a>0):(Int.tmod g a).toNat<a.toNat:=by
 have:=Int.tmod_lt_of_pos g h
 omega
@[reducible] def i(n:Int):b8:=.v (.int .i64 n)
@[reducible] def b(x:Bool):b8:=.v (.bool x)
def rf7:b8->Option Int
 |.v (.int .i64 n)=>some n
 |_=>none
theorem rf8{x:b8}{n:Int}(h:rf7 x=some n):x=i n:=by
 unfold rf7 at h
 split at h
 ·cases h;rfl
 ·cases h
abbrev W(n:Int):Int:=IntKind.wrap .i64 n
structure Cod(α:Type) where
 enc:α->b8
 dec:b8->Option α
 grd:b8->Bool
 ok:∀x a,dec x=some a->grd x=true->ALe x (enc a)
def Ye0:b8->Option Bool
 |.v (.bool n)=>some n
 |_=>none
theorem Ye1{x:b8}{n:Bool}(h:Ye0 x=some n):x=b n:=by
 unfold Ye0 at h
 split at h
 ·cases h;rfl
 ·cases h
theorem ALe.of{x y:b8}(h:x=y):ALe x y:=h ▸ .refl x
def cI:Cod Int:=⟨i,rf7,λ_=>true,λ_ _ h _=>.of (rf8 h)⟩
def cB:Cod Bool:=⟨b,Ye0,λ_=>true,λ_ _ h _=>.of (Ye1 h)⟩
theorem ga7.get{F:Fz}{w:World}{es n:Nat}{get get':Nat->List b8}{v:Value}(h:ga7 F w (.tree es n get) v)(he:∀k,k<n->get' k=get k):ga7 F w (.tree es n get') v:=by
 cases h with
 |tree _ _ _ a cap cs hs hcap hes hF hw hr =>
  refine .tree es n get' a cap cs hs hcap (λi hi=>by rw[he i hi];exact hes i hi) hF hw (λi c hi hc=>?_)
  have e:=he i hi;have hc':c<(get i).length:=by rw[<- e];exact hc
  have:=hr i c hi hc'
  have e2:(get' i)[c]=(get i)[c]:=by congr 1
  rw[e2];exact this
 |nil=>exact .nil _ _
theorem ALe.tree{es n:Nat}{get get':Nat->List b8}(he:∀k,k<n->get' k=get k):ALe (.tree es n get) (.tree es n get'):=λρ H F w v h=>.val (.cell (.mem ((Ea8 h).get he)))
def g3(x y z:Int):Nat->List b8
 |0=>[i x]
 |1=>[i y]
 |_=>[i z]
def rf9:List b8->Option Int
 |[x]=>rf7 x
 |_=>none
def d3(x:b8):Option (Int×Int×Int):=match x with
 |.tree 1 3 get=>Option.rec (motive:=λ_=>Option (Int×Int×Int)) none (λa=>Option.rec (motive:=λ_=>Option (Int×Int×Int)) none (λb=>Option.rec (motive:=λ_=>Option (Int×Int×Int)) none (λc=>some (a,b,c)) (rf9 (get 2))) (rf9 (get 1))) (rf9 (get 0))
 |_=>none
def d1(x:b8):Option Int:=match x with
 |.tree 1 1 get=>rf9 (get 0)
 |_=>none
structure IL where
 n:Nat
 g:Nat->Int
structure LL where
 a:IL
 b:IL
def onO{α:Type}(x:Option α)(k:α->DT (b8×List b9)):DT (b8×List b9):=Option.rec (motive:=λ_=>DT (b8×List b9)) .fail k x
theorem A0{α:Type}{x:Option α}{k:α->DT (b8×List b9)}{r:b8×List b9}(h:(onO x k).run=some r):∃a,x=some a/\(k a).run=some r:=by
 cases x with
 |none=>cases h
 |some a=>exact⟨a,rfl,h⟩
section
variable{α β γ δ:Type}
def ze3(k:DT (b8×List b9)):Sum:=λargs blks=>match args,blks with
 |[],[]=>k
 |_,_=>.fail
def Z5(c:Cod α)(k:α->DT (b8×List b9)):Sum:=λargs blks=>match args,blks with
 |[x],[]=>onO (c.dec x) λa=>.guard (c.grd x) (k a)
 |_,_=>.fail
def ga1(c:Cod α)(d:Cod β)(k:α->β->DT (b8×List b9)):Sum:=λargs blks=>match args,blks with
 |[x,y],[]=>onO (c.dec x) λa=>onO (d.dec y) λb=>.guard (c.grd x) (.guard (d.grd y) (k a b))
 |_,_=>.fail
def gd3(c:Cod α)(d:Cod β)(e:Cod γ)(k:α->β->γ->DT (b8×List b9)):Sum:=λargs blks=>match args,blks with
 |[x,y,z],[]=>onO (c.dec x) λa=>onO (d.dec y) λb=>onO (e.dec z) λg=>.guard (c.grd x) (.guard (d.grd y) (.guard (e.grd z) (k a b g)))
 |_,_=>.fail
variable{P:Program}{G:Nat->List Value}{f:FuncId}{R:Sum}{c:Cod α}{d:Cod β}{e:Cod γ}{c4:Cod δ}
theorem i7.le{S':Sum}(h:i7 P G f R)(hr:∀args blks r,(S' args blks).run=some r->(R args blks).run=some r):i7 P G f S' :=
 h.refine λargs blks r hh=>⟨args,.refl _,hr args blks r hh⟩
theorem sf0{k}(hb:i7 P G f R)(h:∀r,k.run=some r->(R [] []).run=some r):i7 P G f (ze3 k):=hb.le λargs blks r hr=>by
 unfold ze3 at hr
 split at hr
 ·exact h r hr
 ·cases hr
theorem Ob1{k:α->_}(hb:i7 P G f R)(h:∀a r,(k a).run=some r->(R [c.enc a] []).run=some r):i7 P G f (Z5 c k):=hb.refine λargs blks r hr=>by
 unfold Z5 at hr
 split at hr
 ·obtain⟨a,h1,hr⟩:=A0 hr;obtain⟨g1,hr⟩:=DT.run_guard_some hr;exact⟨_,.cons (c.ok _ a h1 g1) .nil,h a r hr⟩
 ·cases hr
theorem Ka8{k:α->β->_}(hb:i7 P G f R)(h:∀a b r,(k a b).run=some r->(R [c.enc a,d.enc b] []).run=some r):i7 P G f (ga1 c d k):=hb.refine λargs blks r hr=>by
 unfold ga1 at hr
 split at hr
 ·obtain⟨a,h1,hr⟩:=A0 hr;obtain⟨b,h2,hr⟩:=A0 hr;obtain⟨g1,hr⟩:=DT.run_guard_some hr;obtain⟨g2,hr⟩:=DT.run_guard_some hr;exact⟨_,.cons (c.ok _ a h1 g1) (.cons (d.ok _ b h2 g2) .nil),h a b r hr⟩
 ·cases hr
theorem sf1{k:α->β->γ->_}(hb:i7 P G f R)(h:∀a b g r,(k a b g).run=some r->(R [c.enc a,d.enc b,e.enc g] []).run=some r):i7 P G f (gd3 c d e k):=hb.refine λargs blks r hr=>by
 unfold gd3 at hr
 split at hr
 ·obtain⟨a,h1,hr⟩:=A0 hr;obtain⟨b,h2,hr⟩:=A0 hr;obtain⟨g,h3,hr⟩:=A0 hr;obtain⟨g1,hr⟩:=DT.run_guard_some hr;obtain⟨g2,hr⟩:=DT.run_guard_some hr;obtain⟨g3,hr⟩:=DT.run_guard_some hr;exact⟨_,.cons (c.ok _ a h1 g1) (.cons (d.ok _ b h2 g2) (.cons (e.ok _ g h3 g3) .nil)),h a b g r hr⟩
 ·cases hr
end
inductive Stp (σ:Type) where
 |fail
 |next (s:σ)
 |exit (t:Nat)
@[reducible] def nc6{σ α:Type}(f:σ->α)(x:Nat->α)(z:α)(r:Stp σ):α:=Stp.rec (motive:=λ_=>α) z f x r
def lp0{σ:Type}(step:σ->Stp σ)(n:Nat):σ->Nat×σ :=
 Nat.rec (motive:=λ_=>σ->Nat×σ) (λs=>nc6 (λ_=>(0,s)) (λt=>(t,s)) (0,s) (step s))
  (λ_ ih s=>nc6 (λs'=>ih s') (λt=>(t,s)) (0,s) (step s)) n
def lpS:{ f:(σ:Type)->(σ->Stp σ)->Nat->σ->Nat×σ // f=λ_=>lp0 }:=Classical.choice ⟨⟨_,rfl⟩⟩
def rounds:Nat:=18446744073709551615
def lp{σ:Type}(step:σ->Stp σ)(s:σ):Nat×σ:=lpS.1 σ step rounds s
theorem Ye2{σ:Type}(step:σ->Stp σ)(s:σ):lp step s=lp0 step rounds s:=by
 unfold lp;rw[lpS.2]
theorem je1{σ:Type}{step:σ->Stp σ}{n:Nat}{s s':σ}(h:step s=.next s'):lp0 step (n+1) s=lp0 step n s':=by
 show nc6 (λs'=>lp0 step n s') _ _ (step s)=_
 rw[h]
theorem qd9{σ:Type}{step:σ->Stp σ}{n t:Nat}{s:σ}(h:step s=.exit t):lp0 step n s=(t,s):=by
 cases n with
 |zero=>show nc6 _ _ _ (step s)=_;rw[h]
 |succ n=>show nc6 _ _ _ (step s)=_;rw[h]
inductive Sk where
 |unk
 |u
 |nil
 |bool
 |int (k:IntKind)
 |lit (k:IntKind) (n:Int)
 |blit (x:Bool)
 |tree (es:Nat)
 |ptr (id i c g:Nat)
 |sl (id g:Nat) (off n:Option Nat)
 |fn (f:Nat)
def slO:b8->Nat
 |.sl _ off _ _=>off
 |_=>0
def slN:b8->Nat
 |.sl _ _ n _=>n
 |_=>0
@[reducible] def oN(o:Option Nat)(x:Nat):Nat:=Option.rec (motive:=λ_=>Nat) x (λy=>y) o
@[reducible] def okN(o:Option Nat)(x:Nat):Bool:=Option.rec (motive:=λ_=>Bool) true (λy=>Nat.beq y x) o
def If7:Sk->b8->Bool
 |.unk,.unk=>true
 |.u,.v (.tuple a)=>List.rec (motive:=λ_=>Bool) true (λ_ _ _=>false) a.toList
 |.nil,.v (.slice none 0 0)=>true
 |.bool,.v (.bool _)=>true
 |.int k,.v (.int k' _)=>decide (k=k')
 |.lit k n,.v (.int k' m)=>Bool.and (decide (k=k')) (decide (n=m))
 |.blit x,.v (.bool y)=>Bool.rec (!y) y x
 |.tree es,.tree es' _ _=>Nat.beq es es'
 |.ptr id i c g,.ptr id' i' c' g'=>Bool.and (Bool.and (Nat.beq id id') (Nat.beq i i')) (Bool.and (Nat.beq c c') (Nat.beq g g'))
 |.sl id g off n,.sl id' off' n' g'=>Bool.and (Bool.and (Nat.beq id id') (Nat.beq g g')) (Bool.and (okN off off') (okN n n'))
 |.fn f,.fn f' []=>Nat.beq f f'
 |_,_=>false
def Qf6:Sk->b8->b8
 |.unk,_=>.unk
 |.u,_=>.v (.tuple #[])
 |.nil,_=>.v (.slice none 0 0)
 |.bool,x=>.v (.bool (toB x))
 |.int k,x=>.v (.int k (toI x))
 |.lit k n,_=>.v (.int k n)
 |.blit y,_=>.v (.bool y)
 |.tree es,x=>.tree es (toN x) (toG x)
 |.ptr id i c g,_=>.ptr id i c g
 |.sl id g off n,x=>.sl id (oN off (slO x)) (oN n (slN x)) g
 |.fn f,_=>.fn f []
theorem Cf5{o:Option Nat}{x:Nat}(h:okN o x=true):oN o x=x:=by
 cases o with
 |none=>rfl
 |some y=>exact Qda h
theorem sf2{k:Sk}{x:b8}(h:If7 k x=true):x=Qf6 k x:=by
 unfold If7 at h
 split at h<;>first | rfl | (cases h;done) | skip
 ·rename_i a;obtain⟨l⟩:=a;cases l with
  |nil=>rfl
  |cons=>cases h
 ·rw[of_decide_eq_true h];rfl
 ·simp only[Qdb,decide_eq_true_eq] at h;rw[h.1,h.2];rfl
 ·rename_i a c;cases a<;>cases c<;>first | rfl | cases h
 ·rw[Qda h];rfl
 ·simp only[Qdb] at h;obtain⟨⟨h1,h2⟩,h3,h4⟩:=h;rw[Qda h1,Qda h2,Qda h3,Qda h4];rfl
 ·rename_i id g off n id' off' n' g';simp only[Qdb] at h;obtain⟨⟨h1,h2⟩,h3,h4⟩:=h;rw[<- Qda h1,<- Qda h2];show b8.sl id off' n' g=.sl id (oN off off') (oN n n') g;rw[Cf5 h3,Cf5 h4]
 ·rw[Qda h];rfl
inductive Sl where
 |s (k:Sk)
 |agg (l:List Sk)
 |tup (l:List Sk)
 |fn (f:Nat) (l:List Sk)
def cellsOf:b8->List b8
 |.agg l=>l
 |.tup l=>l
 |.fn _ l=>l
 |_=>[]
@[reducible] def hdR(l:List (List b8)):List b8:=List.rec (motive:=λ_=>List b8) [] (λx _ _=>x) l
@[reducible] def tlR(l:List (List b8)):List (List b8):=List.rec (motive:=λ_=>List (List b8)) [] (λ_ r _=>r) l
structure Bk where
 et:Nat
 es:Nat
 own:Bool
 rows:Option (List (List Sk))
@[reducible] def eqB(a c:Bool):Bool:=Bool.rec (!c) c a
@[reducible] def hdB(l:List b9):List (List b8):=List.rec (motive:=λ_=>List (List b8)) [] (λx _ _=>x.elems) l
@[reducible] def tlB(l:List b9):List b9:=List.rec (motive:=λ_=>List b9) [] (λ_ r _=>r) l
inductive eb7 {α:Type} (P:α->Prop):List α->Prop
 |nil:eb7 P []
 |cons {x:α} {l:List α} (h:P x) (t:eb7 P l):eb7 P (x::l)
theorem eb7.mem{α:Type}{P:α->Prop}{l:List α}(h:eb7 P l):∀x,x∈l->P x:=by
 induction h with
 |nil=>intro x h;cases h
 |cons h t ih =>
  intro x hx;cases hx with
  |head=>exact h
  |tail _ hx=>exact ih x hx
structure Alt(π σ:Type) where
 sh:List Sl
 bl:List Bk
 rd:List b8->List b9->π×σ
def ra(n:Nat)(l:List b8):List b8:=Nat.rec (motive:=λ_=>List b8) l (λ_ ih=>.unk::ih) n
def If8(k:Nat)(res:List Uc1)(s:St):DT (b8×List b9) :=
 match rb8 (wb3 s.a s.H) res with
 |some l=>lc9 k s.H (Rb6 l)
 |none=>.fail
def cut(k:Nat)(res:List Uc1)(r:g8×St):DT (g8×St) :=
 g8.rec (motive:=λ_=>DT (g8×St)) (.ret (.normal,r.2)) (λid=>.ret (.exit id,r.2)) ((If8 k res r.2).bind λq=>.ret (.ret,⟨[q.1],q.2⟩)) r.1
def Ge7(E:Env)(k:Nat)(res:List Uc1)(c:PS):St->DT (g8×St) :=
 PS.rec (motive:=λ_=>St->DT (g8×St))
  (λc s=>(V0 E k c s).bind (cut k res))
  (λ_ _ x y s=>(x s).bind λr=>g8.rec (motive:=λ_=>DT (g8×St)) (y r.2) (λid=>.ret (.exit id,r.2)) (.ret (.ret,r.2)) r.1)
  (λc _ _ x y s=>match c9 E s.a c with
   |.v (.bool b)=>.ite b (x s) (y s)
   |_=>.fail)
  (λid _ x s=>(x s).bind λr=>g8.rec (motive:=λ_=>DT (g8×St)) (.ret (.normal,r.2))
   (λid'=>Bool.rec (.ret (.exit id',r.2)) (.ret (.normal,r.2)) (Nat.beq id' id)) (.ret (.ret,r.2)) r.1)
  (λkeep _ x=>kc0 (λs=>tidy k ⟨V1 keep s.a 0,s.H⟩) x E.N)
  (λS=>S) c
section
variable{k:Nat}{res:List Uc1}
inductive FR (k:Nat) (res:List Uc1):g8×St->g8×St->Prop
 |same (x:g8) (s:St) (h:x≠.ret):FR k res (x,s) (x,s)
 |ret (s:St) (q:b8×List b9) (h:(If8 k res s).run=some q):FR k res (.ret,⟨[q.1],q.2⟩) (.ret,s)
def ma9(k:Nat)(res:List Uc1)(x y:DT (g8×St)):Prop:=∀r,x.run=some r->∃r',y.run=some r'/\FR k res r r'
theorem ma9.bind{x y:DT (g8×St)}{f g:g8×St->DT (g8×St)}(h:ma9 k res x y)(hf:∀r r',FR k res r r'->ma9 k res (f r) (g r')):ma9 k res (x.bind f) (y.bind g):=λr hr=>by
 obtain⟨a,h1,h2⟩:=DT.run_bind_some hr;obtain⟨a',h3,h4⟩:=h a h1;obtain⟨r',h5,h6⟩:=hf a a' h4 r h2;exact⟨r',by rw[DT.run_bind,h3];exact h5,h6⟩
theorem ma9.ite{b:Bool}{x y x' y':DT (g8×St)}(h:ma9 k res x x')(h':ma9 k res y y'):ma9 k res (.ite b x y) (.ite b x' y'):=λr hr=>by
 rw[DT.run_ite] at hr;rw[DT.run_ite]
 split at hr
 ·next hb=>simpa [hb] using h r hr
 ·next hb=>simpa [hb] using h' r hr
theorem ma9.one{r r':g8×St}(h:FR k res r r'):ma9 k res (.ret r) (.ret r'):=λa ha=>by
 cases ha;exact⟨r',rfl,h⟩
theorem ma9.cut(x:DT (g8×St)):ma9 k res (x.bind (cut k res)) x:=λr hr=>by
 obtain⟨⟨a,s⟩,h1,h2⟩:=DT.run_bind_some hr;refine⟨(a,s),h1,?_⟩;cases a with
 |normal=>cases h2;exact .same _ _ (λh=>by cases h)
 |exit id=>cases h2;exact .same _ _ (λh=>by cases h)
 |ret =>
  obtain⟨q,h3,h4⟩:=DT.run_bind_some h2;cases h4;exact .ret s q h3
theorem nc7{head:St->DT St}{body body':St->DT (g8×St)}(h:∀s,ma9 k res (body s) (body' s)):∀n s,ma9 k res (kc0 head body n s) (kc0 head body' n s)
 |0,s=>λr hr=>by cases hr
 |n+1,s=>by
  intro r hr;obtain⟨t,h1,h2⟩:=DT.run_bind_some hr
  have:ma9 k res ((body t).bind λr=>g8.rec (motive:=λ_=>DT (g8×St)) (kc0 head body n r.2) (λid=>.ret (.exit id,r.2)) (.ret (.ret,r.2)) r.1) ((body' t).bind λr=>g8.rec (motive:=λ_=>DT (g8×St)) (kc0 head body' n r.2) (λid=>.ret (.exit id,r.2)) (.ret (.ret,r.2)) r.1):=by
   refine (h t).bind λa a' ha=>?_
   cases ha with
   |same x s hx =>
    cases x with
    |normal=>exact nc7 h n s
    |exit id=>exact .one (.same _ _ hx)
    |ret=>exact absurd rfl hx
   |ret s q hq=>exact .one (.ret s q hq)
  obtain⟨r',h3,h4⟩:=this r h2;refine⟨r',?_,h4⟩;show ((head s).bind λs=>(body' s).bind _).run=_
  rw[DT.run_bind,h1];exact h3
inductive va0 (E:Env) (k:Nat) (res:List Uc1):PS->PC->Prop
 |pc (c:PC):va0 E k res (.pc c) c
 |seq {a b:PS} {a' b':PC} (h:va0 E k res a a') (h':va0 E k res b b'):va0 E k res (.seq a b) (.seq a' b')
 |cond (c:Arg) {a b:PS} {a' b':PC} (h:va0 E k res a a') (h':va0 E k res b b'):va0 E k res (.cond c a b) (.cond c a' b')
 |block (id:Nat) {a:PS} {a':PC} (h:va0 E k res a a'):va0 E k res (.block id a) (.block id a')
 |loop (keep:List Nat) {a:PS} {a':PC} (h:va0 E k res a a'):va0 E k res (.loop keep a) (.loop keep a')
 |sum {S:St->DT (g8×St)} {c:PC} (h:∀s,ma9 k res (S s) (V0 E k c s)):va0 E k res (.sum S) c
theorem va0.le{E:Env}{a:PS}{c:PC}(h:va0 E k res a c):∀s,ma9 k res (Ge7 E k res a s) (V0 E k c s):=by
 induction h with
 |pc c=>exact λs=>.cut _
 |seq h h' ih ih' =>
  intro s;refine (ih s).bind λr r' hr=>?_
  cases hr with
  |same x s hx =>
   cases x with
   |normal=>exact ih' s
   |exit id=>exact .one (.same _ _ hx)
   |ret=>exact absurd rfl hx
  |ret s q hq=>exact .one (.ret s q hq)
 |cond c h h' ih ih' =>
  intro s;show ma9 k res (match c9 E s.a c with | .v (.bool b)=>_ | _=>_) (match c9 E s.a c with | .v (.bool b)=>_ | _=>_)
  split
  ·exact .ite (ih s) (ih' s)
  ·exact λr hr=>by cases hr
 |block id h ih =>
  intro s;refine (ih s).bind λr r' hr=>?_
  cases hr with
  |same x s hx =>
   cases x with
   |normal=>exact .one (.same _ _ λh=>by cases h)
   |exit id' =>
    show ma9 k res (Bool.rec (.ret (.exit id',s)) (.ret (.normal,s)) (Nat.beq id' id)) (Bool.rec (.ret (.exit id',s)) (.ret (.normal,s)) (Nat.beq id' id));cases Nat.beq id' id with
    |false=>exact .one (.same _ _ hx)
    |true=>exact .one (.same _ _ λh=>by cases h)
   |ret=>exact absurd rfl hx
  |ret s q hq=>exact .one (.ret s q hq)
 |loop keep h ih=>exact λs=>nc7 ih _ s
 |sum h=>exact h
end
def Qf7(E:Env)(fn:PFn)(body:PS)(args:List b8)(blks:List b9):DT (b8×List b9) :=
 (Ge7 E (len blks) fn.res body ⟨app args (List.replicate (fn.ntmps-len args) (.v (.tuple #[]))),blks⟩).bind λr =>
  g8.rec (motive:=λ_=>DT (b8×List b9)) (If8 (len blks) fn.res r.2) (λ_=>.fail) (.ret (hdA r.2.a,r.2.H)) r.1
theorem ze4{E:Env}{fn:PFn}{body:PS}{args:List b8}{blks:List b9}(h:va0 E (len blks) fn.res body fn.body):ha5 (Qf7 E fn body args blks) (Vb9 E fn args blks):=λr hr=>by
 obtain⟨a,h1,h2⟩:=DT.run_bind_some hr;obtain⟨a',h3,h4⟩:=h.le _ a h1;show ((V0 E (len blks) fn.body _).bind _).run=_;rw[DT.run_bind,h3];cases h4 with
 |same x s hx =>
  cases x with
  |normal=>exact h2
  |exit id=>cases h2
  |ret=>exact absurd rfl hx
 |ret s q hq =>
  cases h2;exact hq
theorem ALe.nilTree(es:Nat)(get:Nat->List b8):ALe (.v (.slice none 0 0)) (.tree es 0 get):=λρ H F w v h=>by
 have:=ma4 h
 subst this;exact .val (.cell (.mem (.nil es get)))
theorem ALe.emptyTree(es:Nat)(get:Nat->List b8)(a:Addr)(c:Nat):ALe (.v (.slice (some a) 0 c)) (.tree es 0 get):=λρ H F w v h=>by
 have:=ma4 h
 subst this;exact .val (.cell (.mem (.tree es 0 get a c (λ_ _=>.tuple #[]) (λh=>absurd h (by omega)) (Nat.zero_le _) (λi h=>absurd h (by omega)) (λi c h=>absurd h (by omega)) (λi c h=>absurd h (by omega)) (λi c h=>absurd h (by omega)))))
section
variable{α:Type}{row:α->List b8}{isr:List b8->Bool}{rd:List b8->α}{d:α}
theorem Ye3{β:Type}(f:α->β)(l:List α):len (n9 f l)=l.length:=by rw[o4,o8,List.length_map]
theorem je2(row:α->List b8)(d:α){l:List α}{k:Nat}(h:k<l.length):d8 (n9 row l) k=row (l.getD k d):=by
 unfold d8;rw[D9,o8,Qdf,Qdd,Qdc h];rfl
theorem Ye4(row:α->List b8)(l r:List α):app (n9 row l) (n9 row r)=n9 row (l++r):=by
 rw[J9,o8,o8,o8,List.map_append]
theorem ze5(row:α->List b8)(l:List α)(k:Nat)(x:α):setAt (n9 row l) k (row x)=n9 row (l.set k x):=by
 rw[I4,o8,o8,List.map_set]
end
section
variable{α β γ δ ε ζ:Type}
def je3(c:Cod α)(d:Cod β)(e:Cod γ)(f:Cod δ)(c5:Cod ε)(k:α->β->γ->δ->ε->DT (b8×List b9)):Sum:=λargs blks=>match args,blks with
 |[x,y,z,w,v],[]=>onO (c.dec x) λa=>onO (d.dec y) λb=>onO (e.dec z) λg=>onO (f.dec w) λj=>onO (c5.dec v) λm=>.guard (c.grd x) (.guard (d.grd y) (.guard (e.grd z) (.guard (f.grd w) (.guard (c5.grd v) (k a b g j m)))))
 |_,_=>.fail
def Pe9(c:Cod α)(d:Cod β)(e:Cod γ)(f:Cod δ)(c5:Cod ε)(c6:Cod ζ)(k:α->β->γ->δ->ε->ζ->DT (b8×List b9)):Sum:=λargs blks=>match args,blks with
 |[x,y,z,w,v,u],[]=>onO (c.dec x) λa=>onO (d.dec y) λb=>onO (e.dec z) λg=>onO (f.dec w) λj=>onO (c5.dec v) λm=>onO (c6.dec u) λn=>.guard (c.grd x) (.guard (d.grd y) (.guard (e.grd z) (.guard (f.grd w) (.guard (c5.grd v) (.guard (c6.grd u) (k a b g j m n))))))
 |_,_=>.fail
variable{P:Program}{G:Nat->List Value}{f:FuncId}{R:Sum}{c:Cod α}{d:Cod β}{e:Cod γ}{c4:Cod δ}{c5:Cod ε}{c6:Cod ζ}
theorem sf3{k:α->β->γ->δ->ε->_}(hb:i7 P G f R)(h:∀a b g j m r,(k a b g j m).run=some r->(R [c.enc a,d.enc b,e.enc g,c4.enc j,c5.enc m] []).run=some r):i7 P G f (je3 c d e c4 c5 k):=hb.refine λargs blks r hr=>by
 unfold je3 at hr
 split at hr
 ·obtain⟨a,h1,hr⟩:=A0 hr;obtain⟨b,h2,hr⟩:=A0 hr;obtain⟨g,h3,hr⟩:=A0 hr;obtain⟨j,h4,hr⟩:=A0 hr;obtain⟨m,h5,hr⟩:=A0 hr;obtain⟨g1,hr⟩:=DT.run_guard_some hr;obtain⟨g2,hr⟩:=DT.run_guard_some hr;obtain⟨g3,hr⟩:=DT.run_guard_some hr;obtain⟨g4,hr⟩:=DT.run_guard_some hr;obtain⟨g5,hr⟩:=DT.run_guard_some hr;exact⟨_,.cons (c.ok _ a h1 g1) (.cons (d.ok _ b h2 g2) (.cons (e.ok _ g h3 g3) (.cons (c4.ok _ j h4 g4) (.cons (c5.ok _ m h5 g5) .nil)))),h a b g j m r hr⟩
 ·cases hr
theorem sf4{k:α->β->γ->δ->ε->ζ->_}(hb:i7 P G f R)(h:∀a b g j m n r,(k a b g j m n).run=some r->(R [c.enc a,d.enc b,e.enc g,c4.enc j,c5.enc m,c6.enc n] []).run=some r):i7 P G f (Pe9 c d e c4 c5 c6 k):=hb.refine λargs blks r hr=>by
 unfold Pe9 at hr
 split at hr
 ·obtain⟨a,h1,hr⟩:=A0 hr;obtain⟨b,h2,hr⟩:=A0 hr;obtain⟨g,h3,hr⟩:=A0 hr;obtain⟨j,h4,hr⟩:=A0 hr;obtain⟨m,h5,hr⟩:=A0 hr;obtain⟨n,h6,hr⟩:=A0 hr;obtain⟨g1,hr⟩:=DT.run_guard_some hr;obtain⟨g2,hr⟩:=DT.run_guard_some hr;obtain⟨g3,hr⟩:=DT.run_guard_some hr;obtain⟨g4,hr⟩:=DT.run_guard_some hr;obtain⟨g5,hr⟩:=DT.run_guard_some hr;obtain⟨g6,hr⟩:=DT.run_guard_some hr;exact⟨_,.cons (c.ok _ a h1 g1) (.cons (d.ok _ b h2 g2) (.cons (e.ok _ g h3 g3) (.cons (c4.ok _ j h4 g4) (.cons (c5.ok _ m h5 g5) (.cons (c6.ok _ n h6 g6) .nil))))),h a b g j m n r hr⟩
 ·cases hr
end
section
variable{W:Nat->Prop}{ρ:Rho}{H H':List b9}{F:Fz}{w:World}
def Ka9(H:List b9):b8->Option (b8×List b9)
 |.agg cs=>match freezeCells H cs with
  |some (zs,H')=>some (.agg zs,H')
  |none=>none
 |x=>freezeCell H x
theorem rd0 (hH : E3 W ρ H F w) {y z : b8} {y' : Value} (hy : la1 ρ H F w y y') (he : Ka9 H y = some (z, H')) :
  ∃F',Adv W ρ H F w ρ H' F' w/\E3 W ρ H' F' w/\∀ρ2 H2 F2,(∀b o,F' b o->F2 b o)->la1 ρ2 H2 F2 w z y':=by
 have cell:∀{y:b8},la0 ρ H F w y y'->freezeCell H y=some (z,H')->∃F',Adv W ρ H F w ρ H' F' w/\E3 W ρ H' F' w/\∀ρ2 H2 F2,(∀b o,F' b o->F2 b o)->la1 ρ2 H2 F2 w z y':=λ{y} hy he=>by
  obtain⟨F',h1,h2,h3,_⟩:=Ac4 hH hy he;exact⟨F',h1,h2,λρ2 H2 F2 hF=>.cell (.mem (h3.adv hF λ_ _ _=>rfl))⟩
 cases y with
 |agg cs =>
  simp only[Ka9] at he;cases hf:freezeCells H cs with
  |none=>rw[hf] at he;cases he
  |some q =>
   obtain⟨zs,H1⟩:=q;rw[hf] at he;have he:some (b8.agg zs,H1)=some (z,H'):=he;injection he with he;injection he with e1 e2
   subst e1 e2;obtain⟨vs,rfl,hl,hr⟩:=Ra1 (.val hy);obtain⟨F',h1,h2,h3,h4,_⟩:=Eb1 hH (vs:=vs.toList) (by simpa using hl) (λi y y' h h'=>hr i y y' h (by simpa using h')) hf
   refine⟨F',h1,h2,λρ2 H2 F2 hF=>.agg _ _ (by simpa [h3] using hl) λi x x' hx hx'=>.mem ((h4 i x x' hx (by simpa using hx')).adv hF λ_ _ _=>rfl)⟩
 |v u=>cases hy with | cell h=>exact cell h he
 |tree es n get=>cases hy with | cell h=>exact cell h he
 |sl id off n g=>cases hy with | cell h=>exact cell h he
 |ptr id i c g=>cases he
 |tptr cs=>cases he
 |unk=>cases he
 |tup l=>cases he
 |fn f caps =>
  cases caps with
  |cons=>cases he
  |nil =>
   cases hy with
   |cell h=>exact cell h he
   |fn f caps vs hl h =>
    injection he with he;injection he with e1 e2
    subst e1 e2
    have:vs=#[]:=by
     have:vs.size=0:=by simpa using hl.symm
     exact Array.eq_empty_of_size_eq_zero this
    subst this;rw[Cb5];exact⟨F,.refl,hH,λρ2 H2 F2 hF=>.cell (.mem (.fn f))⟩
def sb0(H:List b9):List b8->Option (List b8×List b9)
 |[]=>some ([],H)
 |x::r=>match Ka9 H x with
  |some (y,H1)=>match sb0 H1 r with
   |some (l,H2)=>some (y::l,H2)
   |none=>none
  |none=>none
theorem cd1 : ∀ {ys zs : List b8} {vs : List Value} {H H' : List b9} {F : Fz}, E3 W ρ H F w → ys.length = vs.length → (∀ (i : Nat) y y', ys[i]? = some y → vs[i]? = some y' → la1 ρ H F w y y') → sb0 H ys = some (zs, H') →
  ∃F',Adv W ρ H F w ρ H' F' w/\E3 W ρ H' F' w/\zs.length=ys.length/\∀(i:Nat) z y',zs[i]?=some z->vs[i]?=some y'->∀ρ2 H2 F2,(∀b o,F' b o->F2 b o)->la1 ρ2 H2 F2 w z y'
 |[],zs,vs,H,H',F,hH,hl,hy,he=>by
  injection he with he;injection he with e1 e2
  subst e1 e2;exact⟨F,.refl,hH,rfl,λi z y' h=>by simp at h⟩
 |y::r,zs,[],H,H',F,hH,hl,hy,he=>by simp at hl
 |y::r,zs,v::vs,H,H',F,hH,hl,hy,he=>by
  simp only[sb0] at he;cases h1:Ka9 H y with
  |none=>rw[h1] at he;cases he
  |some q =>
  obtain⟨z,H1⟩:=q;rw[h1] at he;cases h2:sb0 H1 r with
  |none=>simp only[h2] at he;cases he
  |some q2 =>
  obtain⟨zs2,H2⟩:=q2;simp only[h2] at he;injection he with he;injection he with e1 e2
  subst e1 e2;obtain⟨F1,a1,a2,a3⟩:=rd0 hH (hy 0 y v rfl rfl) h1;obtain⟨F2,b1,b2,b3,b4⟩:=cd1 (ys:=r) (vs:=vs) a2 (by simpa using hl) (λi y y' hy1 hy2=>(hy (i+1) y y' (by simpa using hy1) (by simpa using hy2)).adv a1) h2
  refine⟨F2,a1.trans b1,b2,by simp[b3],λi z' y' hz hy'=>?_⟩
  cases i with
  |zero =>
   simp at hz hy'
   subst hz hy';exact λρ3 H3 F3 hF=>a3 ρ3 H3 F3 λb o hb=>hF b o (b1.more b o hb)
  |succ i=>exact b4 i z' y' (by simpa using hz) (by simpa using hy')
def Fc6(H:List b9):b8->Option b8
 |.tup l=>match sb0 H l with
  |some (zs,_)=>some (.tup zs)
  |none=>none
 |x=>match Ka9 H x with
  |some (z,_)=>some z
  |none=>none
theorem E3.less(hH:E3 W ρ H F w):E3 W ρ [] F w:=⟨λid b h=>by simp at h,λid id' b b' h=>by simp at h,hH.frz,hH.new⟩
theorem Adv.less{ρ':Rho}{F':Fz}{w':World}(h:Adv W ρ [] F w ρ' H' F' w'):Adv W ρ [] F w ρ' [] F' w' :=
 ⟨h.ext,λid b hb=>by simp at hb,h.more,h.new,λid b hb=>by simp at hb⟩
theorem Qe0{out:List b9}{x z:b8}{x':Value}{w':World}(hp:U1 W ρ [] F w x out x' w')(he:Fc6 out x=some z):U1 W ρ [] F w z [] x' w':=by
 obtain⟨ρ',F',h1,h2,h3⟩:=hp;have one:∀{y:b8},la1 ρ' out F' w' y x'->(match Ka9 out y with | some (z,_)=>some z | none=>none)=some z->U1 W ρ [] F w z [] x' w':=λ{y} hy he=>by
  cases hf:Ka9 out y with
  |none=>rw[hf] at he;cases he
  |some q =>
   obtain⟨z1,H1⟩:=q;rw[hf] at he;have he:some z1=some z:=he;injection he with he;subst he;obtain⟨F2,a1,a2,a3⟩:=rd0 h2 hy hf;exact⟨ρ',F2,(h1.trans a1).less,a2.less,.val (a3 _ _ _ λ_ _ h=>h)⟩
 cases h3 with
 |val h =>
  cases x with
  |tup l=>cases h with | cell h=>cases h with | mem h=>cases h
  |_=>exact one h he
 |tup xs vs hl h =>
  simp only[Fc6] at he;cases hf:sb0 out xs with
  |none=>rw[hf] at he;cases he
  |some q =>
   obtain⟨zs,H1⟩:=q;rw[hf] at he;have he:some (b8.tup zs)=some z:=he;injection he with he;subst he;obtain⟨F2,a1,a2,a3,a4⟩:=cd1 (vs:=vs.toList) h2 (by simpa using hl) (λi y y' hy hy'=>h i y y' hy (by simpa using hy')) hf
   exact⟨ρ',F2,(h1.trans a1).less,a2.less,.tup _ _ (by simpa [a3] using hl) λi x x' hx hx'=>a4 i x x' hx (by simpa using hx') _ _ _ λ_ _ h=>h⟩
theorem U1.le{out:List b9}{x y:b8}{x':Value}{w':World}(hp:U1 W ρ H F w x out x' w')(h:ALe x y):U1 W ρ H F w y out x' w':=by
 obtain⟨ρ',F',h1,h2,h3⟩:=hp;exact⟨ρ',F',h1,h2,h _ _ _ _ _ h3⟩
end
def rd1(x:b8)(out:List b9)(y:b8):Prop:=∃z,Fc6 out x=some z/\ALe z y
theorem i7.conv {P : Program} {G : Nat → List Value} {f : FuncId} {S S' : Sum} (h : i7 P G f S)
  (hr:∀args blks y out,(S' args blks).run=some (y,out)->blks=[]/\out=[]/\∃x o,(S args []).run=some (x,o)/\rd1 x o y):i7 P G f S':=by
 intro args blks y out he W ρ F w args' hH hlen hargs hG;obtain⟨rfl,rfl,x,o,h1,z,h2,h3⟩:=hr args blks y out he;obtain⟨h4,h5⟩:=h args [] x o h1 W ρ F w args' hH hlen hargs hG;exact⟨h4,h5.mono λe w' ⟨r',h6,h7⟩=>⟨r',h6,(Qe0 h7 h2).le h3⟩⟩
section
variable{α β γ:Type}{P:Program}{G:Nat->List Value}{f:FuncId}{c:Cod α}{d:Cod β}{e:Cod γ}
theorem Qe1{k k':DT (b8×List b9)}(h:i7 P G f (ze3 k))(hk:∀y out,k'.run=some (y,out)->out=[]/\∃x o,k.run=some (x,o)/\rd1 x o y):i7 P G f (ze3 k'):=h.conv λargs blks y out hr=>by
 unfold ze3 at hr
 split at hr
 ·obtain⟨e1,e2⟩:=hk y out hr;exact⟨rfl,e1,e2⟩
 ·cases hr
theorem Qe2{k k':α->DT (b8×List b9)}(h:i7 P G f (Z5 c k))(hk:∀a y out,(k' a).run=some (y,out)->out=[]/\∃x o,(k a).run=some (x,o)/\rd1 x o y):i7 P G f (Z5 c k'):=h.conv λargs blks y out hr=>by
 unfold Z5 at hr
 split at hr
 ·obtain⟨a,h1,hr⟩:=A0 hr;obtain⟨g1,hr⟩:=DT.run_guard_some hr;obtain⟨e1,x,o,e2,e3⟩:=hk a y out hr;refine⟨rfl,e1,x,o,?_,e3⟩;simp only[Z5,h1,onO,g1];exact e2
 ·cases hr
theorem Qe3{k k':α->β->DT (b8×List b9)}(h:i7 P G f (ga1 c d k))(hk:∀a b y out,(k' a b).run=some (y,out)->out=[]/\∃x o,(k a b).run=some (x,o)/\rd1 x o y):i7 P G f (ga1 c d k'):=h.conv λargs blks y out hr=>by
 unfold ga1 at hr
 split at hr
 ·obtain⟨a,h1,hr⟩:=A0 hr;obtain⟨b,h2,hr⟩:=A0 hr;obtain⟨g1,hr⟩:=DT.run_guard_some hr;obtain⟨g2,hr⟩:=DT.run_guard_some hr;obtain⟨e1,x,o,e2,e3⟩:=hk a b y out hr;refine⟨rfl,e1,x,o,?_,e3⟩;simp only[ga1,h1,h2,onO,g1,g2];exact e2
 ·cases hr
theorem Qe4{k k':α->β->γ->DT (b8×List b9)}(h:i7 P G f (gd3 c d e k))(hk:∀a b g y out,(k' a b g).run=some (y,out)->out=[]/\∃x o,(k a b g).run=some (x,o)/\rd1 x o y):i7 P G f (gd3 c d e k'):=h.conv λargs blks y out hr=>by
 unfold gd3 at hr
 split at hr
 ·obtain⟨a,h1,hr⟩:=A0 hr;obtain⟨b,h2,hr⟩:=A0 hr;obtain⟨g,h3,hr⟩:=A0 hr;obtain⟨g1,hr⟩:=DT.run_guard_some hr;obtain⟨g2,hr⟩:=DT.run_guard_some hr;obtain⟨g3,hr⟩:=DT.run_guard_some hr;obtain⟨e1,x,o,e2,e3⟩:=hk a b g y out hr;refine⟨rfl,e1,x,o,?_,e3⟩;simp only[gd3,h1,h2,h3,onO,g1,g2,g3];exact e2
 ·cases hr
end
theorem ALe.tup{xs ys:List b8}(hl:xs.length=ys.length)(h:∀(i:Nat) x y,xs[i]?=some x->ys[i]?=some y->∀ρ H F w v,la1 ρ H F w x v->la1 ρ H F w y v):ALe (.tup xs) (.tup ys):=λρ H F w v hv=>by
 cases hv with
 |val hv=>cases hv with | cell hv=>cases hv with | mem hv=>cases hv
 |tup _ vs hl2 hv =>
  refine .tup _ _ (hl ▸ hl2) λi y v' hy hv'=>?_
  have hi:i<xs.length:=by
   have:=(Qde.1 hy).1
   omega
  exact h i _ y (Qdc hi) hy ρ H F w v' (hv i _ v' (Qdc hi) hv')
theorem la1.treeLe{es n:Nat}{get get':Nat->List b8}(he:∀k,k<n->get' k=get k){ρ:Rho}{H:List b9}{F:Fz}{w:World}{v:Value}(h:la1 ρ H F w (.tree es n get) v):la1 ρ H F w (.tree es n get') v :=
 .cell (.mem ((Ea8 (.val h)).get he))
end Go.Ev
namespace Go.Ev.L
open Go Go.Ev
def cl(p:Prop):Bool:=@decide p (Classical.propDecidable p)
theorem sf5{p:Prop}(h:p):cl p=true:=@decide_eq_true _ (Classical.propDecidable p) h
theorem Qf8{p:Prop}(h:cl p=true):p:=@of_decide_eq_true _ (Classical.propDecidable p) h
def sl{α:Type}(c:Bool)(t e:α):α:=Bool.rec (motive:=λ_=>α) e t c
theorem f0{α:Type}(t e:α):sl true t e=t:=rfl
theorem p7{α:Type}(t e:α):sl false t e=e:=rfl
theorem Eb8{α:Type}(c:Bool)(t e:α):sl c t e=if c=true then t else e:=by cases c<;>rfl
theorem l5{α β:Type}{f:α->β}{c:Bool}{A B:α}{a b:β}(hA:f A=a)(hB:f B=b):f (sl c A B)=sl c a b:=by cases c<;>assumption
structure CLe(x y:b8):Prop where
 m:∀F w v,ga7 F w x v->ga7 F w y v
 c:∀ρ H F w v,la0 ρ H F w x v->la0 ρ H F w y v
theorem CLe.refl(x:b8):CLe x x:=⟨λ_ _ _ h=>h,λ_ _ _ _ _ h=>h⟩
theorem CLe.of{x y:b8}(h:x=y):CLe x y:=h ▸ .refl x
inductive zc1:List b8->List b8->Prop
 |nil:zc1 [] []
 |cons {x y l r} (h:CLe x y) (t:zc1 l r):zc1 (x::l) (y::r)
theorem zc1.refl:∀l,zc1 l l
 |[]=>.nil
 |x::l=>.cons (.refl x) (zc1.refl l)
theorem zc1.of{l r:List b8}(h:l=r):zc1 l r:=h ▸ .refl l
theorem zc1.length{l r}(h:zc1 l r):l.length=r.length:=by induction h<;>simp_all
theorem zc1.get{l r}(h:zc1 l r):∀(i:Nat) y,r[i]?=some y->∃x,l[i]?=some x/\CLe x y:=by
 induction h with
 |nil=>intro i y hy;simp at hy
 |cons h t ih =>
  intro i y hy;cases i with
  |zero=>simp at hy;subst hy;exact⟨_,rfl,h⟩
  |succ i=>simpa using ih i y (by simpa using hy)
theorem Ye5{F:Fz}{w:World}{es n:Nat}{get get':Nat->List b8}{v:Value}(h:ga7 F w (.tree es n get) v)(he:∀k,k<n->zc1 (get k) (get' k)):ga7 F w (.tree es n get') v:=by
 cases h with
 |tree _ _ _ a cap cs hs hcap hes hF hw hr =>
  refine .tree es n get' a cap cs hs hcap (λi hi=>by rw[<- (he i hi).length];exact hes i hi) hF hw (λi c hi hc=>?_)
  obtain⟨x,hx,hle⟩:=(he i hi).get c _ (Qdc hc);have hc':c<(get i).length:=(Qde.1 hx).1
  have:=hr i c hi hc'
  have e:(get i)[c]=x:=by
   have:=(Qde.1 hx).2
   exact this
  rw[e] at this;exact hle.m _ _ _ this
 |nil=>exact .nil _ _
theorem CLe.tree{es n:Nat}{get get':Nat->List b8}(he:∀k,k<n->zc1 (get k) (get' k)):CLe (.tree es n get) (.tree es n get') :=
 ⟨λ_ _ _ h=>Ye5 h he,λ_ _ _ _ _ h=>by cases h with | mem h=>exact .mem (Ye5 h he)⟩
theorem CLe.nilTree(es:Nat)(get:Nat->List b8):CLe (.v (.slice none 0 0)) (.tree es 0 get) :=
 ⟨λ_ _ _ h=>by cases h;exact .nil es get,λ_ _ _ _ _ h=>by cases h with
  |mem h=>cases h;exact .mem (.nil es get)
  |v=>exact .mem (.nil es get)⟩
theorem CLe.ale{x y:b8}(h:CLe x y)(hx:∀(ρ:Rho) H F w v,J1 ρ H F w x v->la0 ρ H F w x v):ALe x y:=λρ H F w v hv=>.val (.cell (h.c _ _ _ _ _ (hx ρ H F w v hv)))
theorem ALe.rows{es n:Nat}{get get':Nat->List b8}(he:∀k,k<n->zc1 (get k) (get' k)):ALe (.tree es n get) (.tree es n get'):=λ_ _ _ _ _ h=>.val (.cell (.mem (Ye5 (Ea8 h) he)))
structure Ty(α:Type) where
 es:Nat
 row:α->List b8
 rd:List b8->α
 ok:List b8->Bool
 cks:List CK
 d:α
 h0:∀x,len (row x)=es
 h1:∀x,rd (row x)=x
 h2:∀x,ok (row x)=true
 h3:∀r,ok r=true->zc1 r (row (rd r))
 h4:∀x,Y1 cks (row x)=true
 h5:∀x,f8 (row x) 0=row x
section
variable{α:Type}(t:Ty α)
@[reducible] def gL(l:List α)(k:Nat):α:=l.getD k t.d
@[reducible] def eL(l:List α):b8:=.tree t.es l.length (λk=>t.row (gL t l k))
def lsL(n:Nat)(get:Nat->List b8):List α:=(List.range n).map λk=>t.rd (get k)
def okL(n:Nat)(get:Nat->List b8):Bool:=(List.range n).all λk=>t.ok (get k)
def rL(v:b8):List α:=lsL t (toN v) (toG v)
def nL(v:b8):b8:=eL t (rL t v)
def If9(f:b8->b8)(x:b8):Bool:=cl (x=f x)
def rt(l:List α):List α:=rL t (eL t l)
def okE(l:List α):Bool:=okL t (toN (eL t l)) (toG (eL t l))
def cnE(l:List α):Bool:=If9 (nL t) (eL t l)
def bL(l:List α):List (List b8):=n9 t.row l
def rdR(el:List (List b8))(j:Nat):α:=t.rd (f8 (d8 el j) 0)
def ldR(el:List (List b8))(j:Nat):Bool:=Bool.and (Bool.and (Nat.blt j (len el)) (Nat.ble (0+t.es) (len (d8 el j)))) (Y1 t.cks (f8 (d8 el j) 0))
def slR(el:List (List b8))(off n:Nat):List α:=lsL t n λk=>d8 el (off+k)
def okS(el:List (List b8))(off n:Nat):Bool:=okL t n λk=>d8 el (off+k)
theorem wc5(n:Nat)(get:Nat->List b8):(lsL t n get).length=n:=by simp[lsL]
theorem Ge8{n k:Nat}(get:Nat->List b8)(h:k<n):gL t (lsL t n get) k=t.rd (get k):=by
 simp[gL,lsL,Qdd,Qdf,List.getElem?_range h]
theorem Fc7{n:Nat}{get:Nat->List b8}{l:List α}(hn:n=l.length)(h:∀k,k<n->get k=t.row (gL t l k)):lsL t n get=l:=by
 apply List.ext_getElem
 ·simp[lsL,hn]
 ·intro k h1 h2;have hk:k<n:=by omega
  simp[lsL,h k hk,t.h1,gL,Qdd,Qdc h2]
theorem eb8{n:Nat}{get:Nat->List b8}{f:Nat->α}(h:∀k,k<n->get k=t.row (f k)):okL t n get=true:=by
 unfold okL;rw[List.all_eq_true];intro k hk;have hk:k<n:=by simpa using hk
 rw[h k hk];exact t.h2 _
theorem i5(l:List α):rt t l=l:=Fc7 t rfl λ_ _=>rfl
theorem j9(l:List α):okE t l=true:=eb8 t (f:=λk=>gL t l k) λ_ _=>rfl
theorem i9(l:List α):cnE t l=true:=sf5 (by unfold nL;rw[show rL t (eL t l)=l from i5 t l])
theorem H7(l:List α):len (bL t l)=l.length:=Ye3 _ _
theorem Q8{l:List α}{k:Nat}(h:k<l.length):d8 (bL t l) k=t.row (gL t l k):=je2 t.row t.d h
theorem Xd2{l:List α}{k:Nat}(h:k<l.length):rdR t (bL t l) k=gL t l k:=by unfold rdR;rw[Q8 t h,t.h5,t.h1]
theorem Xd3{l:List α}{k:Nat}(h:k<l.length):ldR t (bL t l) k=true:=by
 unfold ldR;rw[Q8 t h,t.h5,t.h4,H7,t.h0,Qdl,Bool.and_true];simp[Nat.blt_eq,Nat.ble_eq,h]
theorem Da3(l r:List α):app (bL t l) (bL t r)=bL t (l++r):=Ye4 _ _ _
theorem Sb1(l:List α):slR t (bL t l) 0 l.length=l:=Fc7 t rfl λk hk=>by rw[Qdl,Q8 t hk]
theorem Sb2(l:List α):okS t (bL t l) 0 l.length=true:=eb8 t (f:=λk=>gL t l k) λk hk=>by rw[Qdl,Q8 t hk]
theorem Fa1(l:List α):n9 (λk=>t.row (gL t l k)) (List.range l.length)=bL t l:=by
 unfold bL;rw[o8,o8];apply List.ext_getElem
 ·simp
 ·intro k h1 h2;have h:k<l.length:=by simpa using h1
  simp[gL,Qdd,Qdc h]
theorem Eb9(l:List α)(k:Nat)(x:α):setAt (bL t l) k (t.row x)=bL t (l.set k x):=ze5 _ _ _ _
theorem treeLe{n:Nat}{get:Nat->List b8}(h:okL t n get=true):CLe (.tree t.es n get) (eL t (lsL t n get)):=by
 unfold eL;rw[wc5];refine .tree λk hk=>?_
 rw[Ge8 t get hk];exact t.h3 _ (List.all_eq_true.1 h k (by simpa using hk))
theorem Ge9{n:Nat}{get:Nat->List b8}(h:okL t n get=true):ALe (.tree t.es n get) (eL t (lsL t n get)):=(treeLe t h).ale λ_ _ _ _ _ h=>.mem (Ea8 h)
def G4:Cod (List α) where
 enc l:=eL t l
 dec x:=match x with
  |.tree e n get=>Bool.rec (motive:=λ_=>Option (List α)) none (some (lsL t n get)) (Nat.beq e t.es)
  |.v (.slice none 0 0)=>some []
  |.v (.slice (some _) 0 _)=>some []
  |_=>none
 grd x:=match x with
  |.tree _ n get=>okL t n get
  |_=>true
 ok x a hx hg:=by
  split at hx
  ·rename_i e n get;cases hb:Nat.beq e t.es with
   |false=>rw[hb] at hx;cases hx
   |true =>
    rw[hb] at hx;have hx:some (lsL t n get)=some a:=hx;injection hx with hx;subst hx
    have:=Qda hb
    subst this;exact Ge9 t hg
  ·injection hx with hx;subst hx;exact .nilTree _ _
  ·injection hx with hx;subst hx;exact .emptyTree _ _ _ _
  ·cases hx
def hC(get:Nat->List b8):α:=t.rd (get 0)
def tC(n:Nat)(get:Nat->List b8):List α:=lsL t n λk=>get (k+1)
theorem Qf9(a:α)(l:List α):hC t (λk=>t.row (gL t (a::l) k))=a:=t.h1 _
theorem Rf0(a:α)(l:List α):tC t l.length (λk=>t.row (gL t (a::l) k))=l:=Fc7 t rfl λk _=>rfl
theorem je4(n:Nat)(get:Nat->List b8):lsL t (n+1) get=hC t get::tC t n get:=by
 unfold lsL hC tC lsL;rw[List.range_succ_eq_map];simp
def Ye6:Cod (α×List α) where
 enc x:=eL t (x.1::x.2)
 dec x:=match x with
  |.tree e (n+1) get=>Bool.rec (motive:=λ_=>Option (α×List α)) none (some (hC t get,tC t n get)) (Nat.beq e t.es)
  |_=>none
 grd x:=match x with
  |.tree _ n get=>okL t n get
  |_=>false
 ok x a hx hg:=by
  split at hx
  ·rename_i e n get;cases hb:Nat.beq e t.es with
   |false=>rw[hb] at hx;cases hx
   |true =>
    rw[hb] at hx;have hx:some (hC t get,tC t n get)=some a:=hx;injection hx with hx;subst hx
    have:=Qda hb
    subst this;show ALe _ (eL t (hC t get::tC t n get));rw[<- je4];exact Ge9 t hg
  ·cases hx
def da1:Cod α where
 enc x:=.agg (t.row x)
 dec x:=match x with
  |.agg cs=>Bool.rec (motive:=λ_=>Option α) none (some (t.rd cs)) (t.ok cs)
  |_=>none
 grd _:=true
 ok x a hx _:=by
  split at hx
  ·rename_i cs;cases hb:t.ok cs with
   |false=>rw[hb] at hx;cases hx
   |true =>
    rw[hb] at hx;have hx:some (t.rd cs)=some a:=hx;injection hx with hx;subst hx;have h3:=t.h3 cs hb;intro ρ H F w v hv;obtain⟨vs,rfl,hl,hr⟩:=Ra1 hv;refine .val (.agg _ _ (by rw[<- h3.length];exact hl) λi y v' hy hv'=>?_)
    obtain⟨x,hx,hle⟩:=h3.get i y hy;exact hle.c _ _ _ _ _ (hr i x v' hx hv')
  ·cases hx
end
def tLs{α:Type}(t:Ty α):Ty (List α) where
 es:=1
 row l:=[eL t l]
 rd r:=rL t (hdA r)
 ok r:=match r with
  |[.tree e n get]=>Bool.and (Nat.beq e t.es) (okL t n get)
  |[.v (.slice none 0 0)]=>true
  |_=>false
 cks:=[.sl t.es]
 d:=[]
 h0 _:=rfl
 h1 l:=i5 t l
 h2 l:=by
  show Bool.and (Nat.beq t.es t.es) (okL t l.length λk=>t.row (gL t l k))=true
  rw[Nat.beq_refl,Bool.true_and];exact eb8 t (f:=λk=>gL t l k) λ_ _=>rfl
 h3 r h:=by
  split at h
  ·rename_i e n get;rw[Qdb] at h
   have:=Qda h.1
   subst this;exact .cons (treeLe t h.2) .nil
  ·exact .cons (CLe.nilTree _ _) .nil
  ·cases h
 h4 l:=by
  show Bool.and (Nat.beq t.es t.es) true=true;rw[Nat.beq_refl];rfl
 h5 _:=rfl
def tI:Ty Int where
 es:=1
 row n:=[i n]
 rd r:=toI (hdA r)
 ok r:=match r with
  |[.v (.int .i64 _)]=>true
  |_=>false
 cks:=[.int .i64]
 d:=0
 h0 _:=rfl
 h1 _:=rfl
 h2 _:=rfl
 h3 r h:=by
  split at h
  ·exact .refl _
  ·cases h
 h4 _:=rfl
 h5 _:=rfl
def Ja9(n:Nat)(l:List b8):Bool:=Nat.rec (motive:=λ_=>List b8->Bool)
 (λl=>List.rec (motive:=λ_=>Bool) true (λ_ _ _=>false) l)
 (λ_ ih l=>List.rec (motive:=λ_=>Bool) false (λx r _=>Bool.and (yc8 (.int .i64) x) (ih r)) l) n l
def Ye7(n:Nat)(l:List b8):List b8:=Nat.rec (motive:=λ_=>List b8->List b8) (λ_=>[]) (λ_ ih l=>i (toI (hdA l))::ih (tlA l)) n l
theorem nb2:∀{n:Nat} {l:List b8},Ja9 n l=true->l=Ye7 n l
 |0,[],_=>rfl
 |0,x::r,h=>by cases h
 |n+1,[],h=>by cases h
 |n+1,x::r,h=>by
  have h:Bool.and (yc8 (.int .i64) x) (Ja9 n r)=true:=h;rw[Qdb] at h;show x::r=i (toI x)::Ye7 n r;rw[<- nb2 h.2];have h1:=h.1;cases x with
  |v y=>cases y with
   |int k m =>
    have h1:decide (IntKind.i64=k)=true:=h1;rw[<- of_decide_eq_true h1];rfl
   |_=>cases h1
  |_=>cases h1
inductive Dis (H:List b9):List b9->Prop
 |refl:Dis H H
 |step {H'} (id:Nat) (h:Dis H H'):Dis H (disown H' id)
theorem Xd4(H:List b9)(id j g:Nat):blkAt (disown H id) j g=(blkAt H j g).map λb=>if j=id then { b with own:=false } else b:=by
 unfold blkAt disown modAt;cases hb:nth H id with
 |none =>
  simp only[];cases hj:nth H j with
  |none=>rfl
  |some b =>
   have:j≠id:=λh=>by subst h;rw[hb] at hj;cases hj
   simp only[this,if_false];cases b.dead<;>simp only[]<;>first | rfl | (cases Nat.beq b.g g<;>rfl)
 |some c =>
  simp only[D9,I4];by_cases h:j=id
  ·subst h;have hb':H[j]?=some c:=by rw[<- D9];exact hb
   have hlt:j<H.length:=(Qde.1 hb').1;simp only[Qdt hlt,hb',if_true];obtain⟨et,es,el,ow,de,g'⟩:=c;cases de<;>simp only[]<;>first | rfl | (cases Nat.beq g' g<;>rfl)
  ·rw[Qdu (λe=>h e.symm)]
   cases hj:H[j]? with
   |none=>rfl
   |some b =>
    simp only[h,if_false];cases b.dead<;>simp only[]<;>first | rfl | (cases Nat.beq b.g g<;>rfl)
structure R1(ρ:Type) where
 enc:ρ->b8
 rd:List b9->b8->Option ρ
 d:ρ
 le:∀H x r,rd H x=some r->∃z H',Ka9 H x=some (z,H')/\Dis H H'/\∀ρ' H2 F w v,la1 ρ' H2 F w z v->la1 ρ' H2 F w (enc r) v
 dis:∀H id x,rd (disown H id) x=rd H x
theorem R1.diss{ρ:Type}(R:R1 ρ){H H':List b9}(h:Dis H H')(x:b8):R.rd H' x=R.rd H x:=by
 induction h with
 |refl=>rfl
 |step id h ih=>rw[R.dis,ih]
theorem CLe.v{x y:b8}(h:CLe x y)(hx:∀(ρ:Rho) H F w v,la1 ρ H F w x v->la0 ρ H F w x v):∀ρ' H2 F w v,la1 ρ' H2 F w x v->la1 ρ' H2 F w y v:=λ_ _ _ _ _ hv=>.cell (h.c _ _ _ _ _ (hx _ _ _ _ _ hv))
def r1K(k:IntKind):R1 Int where
 enc n:=.v (.int k n)
 rd _ x:=match x with
  |.v (.int k' n)=>Bool.rec (motive:=λ_=>Option Int) none (some n) (decide (k=k'))
  |_=>none
 d:=0
 le H x r h:=by
  split at h
  ·rename_i k' n;cases hb:decide (k=k') with
   |false=>rw[hb] at h;cases h
   |true =>
    rw[hb] at h;have h:some n=some r:=h;injection h with h;subst h
    have:=of_decide_eq_true hb
    subst this;exact⟨_,H,rfl,.refl,λ_ _ _ _ _ h=>h⟩
  ·cases h
 dis _ _ _:=rfl
def r1I:R1 Int:=r1K .i64
def r1B:R1 Bool where
 enc n:=b n
 rd _ x:=match x with
  |.v (.bool n)=>some n
  |_=>none
 d:=false
 le H x r h:=by
  split at h
  ·injection h with h;subst h;exact⟨_,H,rfl,.refl,λ_ _ _ _ _ h=>h⟩
  ·cases h
 dis _ _ _:=rfl
theorem rd2(H:List b9):∀(n:Nat) (l:List b8),Ja9 n l=true->freezeCells H l=some (l,H)
 |0,[],_=>rfl
 |0,x::r,h=>by cases h
 |n+1,[],h=>by cases h
 |n+1,x::r,h=>by
  have e:=nb2 h;have h:Bool.and (yc8 (.int .i64) x) (Ja9 n r)=true:=h;rw[Qdb] at h;have e1:x=i (toI x):=(List.cons.inj e).1;simp only[freezeCells];rw[e1];simp only[freezeCell,Dd5,rd2 H n r h.2]
section
variable{α:Type}(t:Ty α)
def r1A(n:Nat)(ht:∀r,Ja9 n r=true->t.ok r=true):R1 α where
 enc x:=.agg (t.row x)
 rd _ x:=match x with
  |.agg cs=>Bool.rec (motive:=λ_=>Option α) none (some (t.rd cs)) (Ja9 n cs)
  |_=>none
 d:=t.d
 le H x r h:=by
  split at h
  ·rename_i cs;cases hb:Ja9 n cs with
   |false=>rw[hb] at h;cases h
   |true =>
    rw[hb] at h;have h:some (t.rd cs)=some r:=h;injection h with h;subst h;have h3:=t.h3 cs (ht cs hb);refine⟨.agg cs,H,?_,.refl,λρ' H2 F w v hv=>?_⟩
    ·simp only[Ka9,rd2 H n cs hb]
    ·obtain⟨vs,rfl,hl,hr⟩:=Ra1 (.val hv);refine .agg _ _ (by rw[<- h3.length];exact hl) λi y v' hy hv'=>?_
     obtain⟨x,hx,hle⟩:=h3.get i y hy;exact hle.c _ _ _ _ _ (hr i x v' hx hv')
  ·cases h
 dis _ _ _:=rfl
def r1L:R1 (List α) where
 enc l:=eL t l
 rd H x:=match x with
  |.v (.slice none 0 0)=>some []
  |.tree e n get=>Bool.rec (motive:=λ_=>Option (List α)) none (some (lsL t n get)) (Bool.and (Nat.beq e t.es) (okL t n get))
  |.sl id off n g=>match blkAt H id g with
   |some b=>Bool.rec (motive:=λ_=>Option (List α)) none (some (slR t b.elems off n)) (Bool.and (Nat.beq b.es t.es) (okS t b.elems off n))
   |none=>none
  |_=>none
 d:=[]
 le H x r h:=by
  split at h
  ·injection h with h;subst h;exact⟨_,H,rfl,.refl,(CLe.nilTree _ _).v λ_ _ _ _ _ h=>by cases h with | cell h=>exact h⟩
  ·rename_i e n get;cases hb:Bool.and (Nat.beq e t.es) (okL t n get) with
   |false=>rw[hb] at h;cases h
   |true =>
    rw[hb] at h;have h:some (lsL t n get)=some r:=h;injection h with h;subst h;rw[Qdb] at hb
    have:=Qda hb.1
    subst this;exact⟨_,H,rfl,.refl,(treeLe t hb.2).v λ_ _ _ _ _ h=>by cases h with | cell h=>exact h⟩
  ·rename_i id off n g;cases hk:blkAt H id g with
   |none=>simp only[hk] at h;cases h
   |some b =>
    simp only[hk] at h;cases hb:Bool.and (Nat.beq b.es t.es) (okS t b.elems off n) with
    |false=>rw[hb] at h;cases h
    |true =>
     rw[hb] at h;have h:some (slR t b.elems off n)=some r:=h;injection h with h;subst h;rw[Qdb] at hb
     have:=Qda hb.1
     refine⟨lc4 b off n,disown H id,?_,.step id .refl,?_⟩
     ·simp only[Ka9,freezeCell,hk]
     ·unfold lc4;rw[this];exact (treeLe t hb.2).v λ_ _ _ _ _ h=>by cases h with | cell h=>exact h
  ·cases h
 dis H id x:=by
  cases x with
  |sl id' off n g =>
   simp only[Xd4];cases blkAt H id' g with
   |none=>rfl
   |some b =>
    simp only[Option.map]
    split<;>rfl
  |v y=>cases y with
   |slice a n c=>cases a<;>cases n<;>cases c<;>rfl
   |_=>rfl
  |_=>rfl
end
structure RR(ρ:Type) where
 enc:ρ->b8
 rd:b8×List b9->Option ρ
 d:ρ
 le:∀x o r,rd (x,o)=some r->rd1 x o (enc r)
theorem je5{H:List b9}{l:List b8}{z:b8×List b9}(h:Ka9 H (.tup l)=some z):False:=by cases h
theorem je6{H:List b9}{x z:b8}{H':List b9}(h:Ka9 H x=some (z,H')):Fc6 H x=some z:=by
 cases x with
 |tup l=>exact (je5 h).elim
 |_=>simp only[Fc6,h]
theorem Jf0{x y:b8}(h:∀ρ' H2 F w v,la1 ρ' H2 F w x v->la1 ρ' H2 F w y v)(hx:∀l,x≠.tup l):ALe x y:=λρ H F w v hv=>by
 cases hv with
 |val hv=>exact .val (h _ _ _ _ _ hv)
 |tup xs=>exact absurd rfl (hx xs)
theorem Xd5{H H':List b9}{x z:b8}(h:Ka9 H x=some (z,H')):∀l,z≠.tup l:=λl e=>by
 subst e;unfold Ka9 at h
 split at h
 ·split at h<;>cases h
 ·unfold freezeCell at h
  split at h
  ·split at h<;>cases h
  ·cases h
  ·cases h
  ·split at h
   ·simp only[lc4] at h;cases h
   ·cases h
  ·cases h
def one{ρ:Type}(a:R1 ρ):RR ρ where
 enc:=a.enc
 rd r:=a.rd r.2 r.1
 d:=a.d
 le x o r h:=by
  obtain⟨z,H',h1,_,h2⟩:=a.le o x r h;exact⟨z,je6 h1,Jf0 h2 (Xd5 h1)⟩
def two{ρ σ:Type}(a:R1 ρ)(c:R1 σ):RR (ρ×σ) where
 enc r:=.tup [a.enc r.1,c.enc r.2]
 rd r:=match r.1 with
  |.tup [x,y]=>Option.rec (motive:=λ_=>Option (ρ×σ)) none (λu=>Option.rec (motive:=λ_=>Option (ρ×σ)) none (λv=>some (u,v)) (c.rd r.2 y)) (a.rd r.2 x)
  |_=>none
 d:=(a.d,c.d)
 le q o r h:=by
  split at h
  ·rename_i x y e
   simp only at e
   subst e;cases hu:a.rd o x with
   |none=>rw[hu] at h;cases h
   |some u =>
   cases hv:c.rd o y with
   |none=>rw[hu,hv] at h;cases h
   |some v =>
   rw[hu,hv] at h;have h:some (u,v)=some r:=h;injection h with h;subst h;obtain⟨z1,H1,h1,d1,l1⟩:=a.le o x u hu;obtain⟨z2,H2,h2,d2,l2⟩:=c.le H1 y v (by rw[c.diss d1];exact hv)
   refine⟨.tup [z1,z2],by simp only[Fc6,sb0,h1,h2],ALe.tup rfl λk p q hp hq=>?_⟩
   match k,hp,hq with
   |0,hp,hq=>cases hp;cases hq;exact l1
   |1,hp,hq=>cases hp;cases hq;exact l2
  ·cases h
def Rf1{ρ σ τ:Type}(a:R1 ρ)(c:R1 σ)(e:R1 τ):RR (ρ×σ×τ) where
 enc r:=.tup [a.enc r.1,c.enc r.2.1,e.enc r.2.2]
 rd r:=match r.1 with
  |.tup [x,y,z]=>Option.rec (motive:=λ_=>Option (ρ×σ×τ)) none (λu=>Option.rec (motive:=λ_=>Option (ρ×σ×τ)) none (λv=>Option.rec (motive:=λ_=>Option (ρ×σ×τ)) none (λw=>some (u,v,w)) (e.rd r.2 z)) (c.rd r.2 y)) (a.rd r.2 x)
  |_=>none
 d:=(a.d,c.d,e.d)
 le q o r h:=by
  split at h
  ·rename_i x y z e0
   simp only at e0
   subst e0;cases hu:a.rd o x with
   |none=>rw[hu] at h;cases h
   |some u =>
   cases hv:c.rd o y with
   |none=>rw[hu,hv] at h;cases h
   |some v =>
   cases hw:e.rd o z with
   |none=>rw[hu,hv,hw] at h;cases h
   |some w =>
   rw[hu,hv,hw] at h;have h:some (u,v,w)=some r:=h;injection h with h;subst h;obtain⟨z1,H1,h1,d1,l1⟩:=a.le o x u hu;obtain⟨z2,H2,h2,d2,l2⟩:=c.le H1 y v (by rw[c.diss d1];exact hv)
   obtain⟨z3,H3,h3,d3,l3⟩:=e.le H2 z w (by rw[e.diss d2,e.diss d1];exact hw)
   refine⟨.tup [z1,z2,z3],by simp only[Fc6,sb0,h1,h2,h3],ALe.tup rfl λk p q hp hq=>?_⟩
   match k,hp,hq with
   |0,hp,hq=>cases hp;cases hq;exact l1
   |1,hp,hq=>cases hp;cases hq;exact l2
   |2,hp,hq=>cases hp;cases hq;exact l3
  ·cases h
def okO{ρ:Type}(R:RR ρ)(o:Option (b8×List b9)):Bool:=Option.rec (motive:=λ_=>Bool) false (λr=>Option.rec (motive:=λ_=>Bool) false (λ_=>true) (R.rd r)) o
def I6{ρ:Type}(R:RR ρ)(o:Option (b8×List b9)):ρ:=Option.rec (motive:=λ_=>ρ) R.d (λr=>Option.rec (motive:=λ_=>ρ) R.d (λx=>x) (R.rd r)) o
@[reducible] def rdO{ρ:Type}(R:RR ρ)(o:Option (b8×List b9)):DT (b8×List b9):=.guard (okO R o) (.ret (R.enc (I6 R o),[]))
theorem Vc2{ρ:Type}{R:RR ρ}{o:Option (b8×List b9)}{y:b8}{out:List b9}(h:(rdO R o).run=some (y,out)):out=[]/\∃x o',o=some (x,o')/\rd1 x o' y:=by
 obtain⟨h1,h2⟩:=DT.run_guard_some h;have h2:some (R.enc (I6 R o),([]:List b9))=some (y,out):=h2;injection h2 with h2;injection h2 with e1 e2;subst e1 e2
 refine⟨rfl,?_⟩;cases o with
 |none=>cases h1
 |some r =>
  obtain⟨x,o'⟩:=r;refine⟨x,o',rfl,?_⟩;cases hr:R.rd (x,o') with
  |none=>simp only[okO,hr] at h1;cases h1
  |some q =>
   simp only[I6,hr];exact R.le x o' q hr
theorem Za2{α:Type}(o:Option α):(DT.ofOption o).run=o:=by cases o<;>rfl
section
variable{α β γ δ ε ζ:Type}{P:Program}{G:Nat->List Value}{f:FuncId}{R0:Sum}{c:Cod α}{d:Cod β}{e:Cod γ}{c4:Cod δ}{c5:Cod ε}{c6:Cod ζ}{ρ:Type}
theorem ag9(hb:i7 P G f R0)(R:RR ρ){o:Option (b8×List b9)}(h:∀r,o=some r->(R0 [] []).run=some r):i7 P G f (ze3 (rdO R o)) :=
 Qe1 (sf0 hb (k:=DT.ofOption o) λr hr=>h r (by rw[Za2] at hr;exact hr)) λy out hr=>by
  obtain⟨e,x,o',h1,h2⟩:=Vc2 hr;exact⟨e,x,o',by rw[Za2,h1],h2⟩
theorem La4(hb:i7 P G f R0)(R:RR ρ){o:α->Option (b8×List b9)}(h:∀a r,o a=some r->(R0 [c.enc a] []).run=some r):i7 P G f (Z5 c λa=>rdO R (o a)) :=
 Qe2 (Ob1 hb (k:=λa=>DT.ofOption (o a)) λa r hr=>h a r (by rw[Za2] at hr;exact hr)) λa y out hr=>by
  obtain⟨e,x,o',h1,h2⟩:=Vc2 hr;exact⟨e,x,o',by rw[Za2,h1],h2⟩
theorem La5(hb:i7 P G f R0)(R:RR ρ){o:α->β->Option (b8×List b9)}(h:∀a b r,o a b=some r->(R0 [c.enc a,d.enc b] []).run=some r):i7 P G f (ga1 c d λa b=>rdO R (o a b)) :=
 Qe3 (Ka8 hb (k:=λa b=>DT.ofOption (o a b)) λa b r hr=>h a b r (by rw[Za2] at hr;exact hr)) λa b y out hr=>by
  obtain⟨e,x,o',h1,h2⟩:=Vc2 hr;exact⟨e,x,o',by rw[Za2,h1],h2⟩
theorem Ye8(hb:i7 P G f R0)(R:RR ρ){o:α->β->γ->Option (b8×List b9)}(h:∀a b g r,o a b g=some r->(R0 [c.enc a,d.enc b,e.enc g] []).run=some r):i7 P G f (gd3 c d e λa b g=>rdO R (o a b g)) :=
 Qe4 (sf1 hb (k:=λa b g=>DT.ofOption (o a b g)) λa b g r hr=>h a b g r (by rw[Za2] at hr;exact hr)) λa b g y out hr=>by
  obtain⟨e,x,o',h1,h2⟩:=Vc2 hr;exact⟨e,x,o',by rw[Za2,h1],h2⟩
theorem bg0(hb:i7 P G f R0)(R:RR ρ){o:α->β->γ->δ->ε->Option (b8×List b9)}(h:∀a b g j m r,o a b g j m=some r->(R0 [c.enc a,d.enc b,e.enc g,c4.enc j,c5.enc m] []).run=some r):i7 P G f (je3 c d e c4 c5 λa b g j m=>rdO R (o a b g j m)) :=
 (sf3 hb (k:=λa b g j m=>DT.ofOption (o a b g j m)) λa b g j m r hr=>h a b g j m r (by rw[Za2] at hr;exact hr)).conv λargs blks y out hr=>by
  unfold je3 at hr
  split at hr
  ·obtain⟨a,h1,hr⟩:=A0 hr;obtain⟨b,h2,hr⟩:=A0 hr;obtain⟨g,h3,hr⟩:=A0 hr;obtain⟨j,h4,hr⟩:=A0 hr;obtain⟨m,h5,hr⟩:=A0 hr;obtain⟨g1,hr⟩:=DT.run_guard_some hr;obtain⟨g2,hr⟩:=DT.run_guard_some hr;obtain⟨g3,hr⟩:=DT.run_guard_some hr;obtain⟨g4,hr⟩:=DT.run_guard_some hr;obtain⟨g5,hr⟩:=DT.run_guard_some hr;obtain⟨e1,x,o',e2,e3⟩:=Vc2 hr;refine⟨rfl,e1,x,o',?_,e3⟩;simp only[je3,h1,h2,h3,h4,h5,onO,g1,g2,g3,g4,g5];show (DT.ofOption (o a b g j m)).run=_;rw[Za2,e2]
  ·cases hr
end
inductive K where
 |o (k:Sk)
 |c (es:Nat) (f:b8->b8)
def isK:K->b8->Bool
 |.o k,x=>If7 k x
 |.c es _,.tree es' _ _=>Nat.beq es es'
 |.c _ _,_=>false
def asK:K->b8->b8
 |.o k,x=>Qf6 k x
 |.c _ f,x=>f x
def cnK(k:K)(x:b8)(z:Bool):Bool:=match k with
 |.o _=>z
 |.c _ f=>Bool.and (If9 f x) z
theorem Ye9{k:K}{x:b8}{z:Bool}(h:isK k x=true)(hc:cnK k x z=true):x=asK k x/\z=true:=by
 cases k with
 |o k=>exact⟨sf2 h,hc⟩
 |c es f =>
  have hc:Bool.and (If9 f x) z=true:=hc;rw[Qdb] at hc;exact⟨Qf8 hc.1,hc.2⟩
def ze6(ks:List K):List b8->Bool :=
 List.rec (motive:=λ_=>List b8->Bool) (λl=>List.rec (motive:=λ_=>Bool) true (λ_ _ _=>false) l)
  (λk _ ih l=>List.rec (motive:=λ_=>Bool) false (λx r _=>Bool.and (isK k x) (ih r)) l) ks
def je7(ks:List K):List b8->List b8 :=
 List.rec (motive:=λ_=>List b8->List b8) (λ_=>[]) (λk _ ih l=>asK k (hdA l)::ih (tlA l)) ks
def ze7(z:Bool)(ks:List K):List b8->Bool :=
 List.rec (motive:=λ_=>List b8->Bool) (λ_=>z) (λk _ ih l=>cnK k (hdA l) (ih (tlA l))) ks
theorem Mc7{z:Bool}:∀{ks:List K} {l:List b8},ze6 ks l=true->ze7 z ks l=true->l=je7 ks l/\z=true
 |[],[],_,hc=>⟨rfl,hc⟩
 |[],x::r,h,_=>by cases h
 |k::ks,[],h,_=>by cases h
 |k::ks,x::r,h,hc=>by
  have h:Bool.and (isK k x) (ze6 ks r)=true:=h;rw[Qdb] at h;have hc:cnK k x (ze7 z ks r)=true:=hc;obtain⟨e1,h2⟩:=Ye9 h.1 hc;obtain⟨e2,h3⟩:=Mc7 h.2 h2;refine⟨?_,h3⟩;show x::r=asK k x::je7 ks r;rw[<- e1,<- e2]
inductive S2 where
 |s (k:K)
 |agg (l:List K)
 |tup (l:List K)
 |fn (f:Nat) (l:List K)
def isS:S2->b8->Bool
 |.s k,x=>isK k x
 |.agg l,.agg r=>ze6 l r
 |.tup l,.tup r=>ze6 l r
 |.fn f l,.fn f' r=>Bool.and (Nat.beq f f') (ze6 l r)
 |_,_=>false
def asS:S2->b8->b8
 |.s k,x=>asK k x
 |.agg l,x=>.agg (je7 l (cellsOf x))
 |.tup l,x=>.tup (je7 l (cellsOf x))
 |.fn f l,x=>.fn f (je7 l (cellsOf x))
def cnS(k:S2)(x:b8)(z:Bool):Bool:=match k with
 |.s k=>cnK k x z
 |.agg l=>ze7 z l (cellsOf x)
 |.tup l=>ze7 z l (cellsOf x)
 |.fn _ l=>ze7 z l (cellsOf x)
theorem Jf1{k:S2}{x:b8}{z:Bool}(h:isS k x=true)(hc:cnS k x z=true):x=asS k x/\z=true:=by
 unfold isS at h
 split at h
 ·exact Ye9 h hc
 ·rename_i l r;obtain⟨e,hz⟩:=Mc7 h hc;exact⟨congrArg b8.agg e,hz⟩
 ·rename_i l r;obtain⟨e,hz⟩:=Mc7 h hc;exact⟨congrArg b8.tup e,hz⟩
 ·rename_i f l f' r;rw[Qdb] at h;obtain⟨e,hz⟩:=Mc7 h.2 hc;refine⟨?_,hz⟩;show b8.fn f' r=.fn f (je7 l r);rw[<- e,Qda h.1]
 ·cases h
def Ze0(ks:List S2):List b8->Bool :=
 List.rec (motive:=λ_=>List b8->Bool) (λl=>List.rec (motive:=λ_=>Bool) true (λ_ _ _=>false) l)
  (λk _ ih l=>List.rec (motive:=λ_=>Bool) false (λx r _=>Bool.and (isS k x) (ih r)) l) ks
def Qe5(ks:List S2):List b8->List b8 :=
 List.rec (motive:=λ_=>List b8->List b8) (λ_=>[]) (λk _ ih l=>asS k (hdA l)::ih (tlA l)) ks
def sf6(z:Bool)(ks:List S2):List b8->Bool :=
 List.rec (motive:=λ_=>List b8->Bool) (λ_=>z) (λk _ ih l=>cnS k (hdA l) (ih (tlA l))) ks
theorem He0{z:Bool}:∀{ks:List S2} {l:List b8},Ze0 ks l=true->sf6 z ks l=true->l=Qe5 ks l/\z=true
 |[],[],_,hc=>⟨rfl,hc⟩
 |[],x::r,h,_=>by cases h
 |k::ks,[],h,_=>by cases h
 |k::ks,x::r,h,hc=>by
  have h:Bool.and (isS k x) (Ze0 ks r)=true:=h;rw[Qdb] at h;have hc:cnS k x (sf6 z ks r)=true:=hc;obtain⟨e1,h2⟩:=Jf1 h.1 hc;obtain⟨e2,h3⟩:=He0 h.2 h2;refine⟨?_,h3⟩;show x::r=asS k x::Qe5 ks r;rw[<- e1,<- e2]
def Jf2(ks:List (List K)):List (List b8)->Bool :=
 List.rec (motive:=λ_=>List (List b8)->Bool) (λl=>List.rec (motive:=λ_=>Bool) true (λ_ _ _=>false) l)
  (λk _ ih l=>List.rec (motive:=λ_=>Bool) false (λx r _=>Bool.and (ze6 k x) (ih r)) l) ks
def sf7(ks:List (List K)):List (List b8)->List (List b8) :=
 List.rec (motive:=λ_=>List (List b8)->List (List b8)) (λ_=>[]) (λk _ ih l=>je7 k (hdR l)::ih (tlR l)) ks
def Jf3(z:Bool)(ks:List (List K)):List (List b8)->Bool :=
 List.rec (motive:=λ_=>List (List b8)->Bool) (λ_=>z) (λk _ ih l=>ze7 (ih (tlR l)) k (hdR l)) ks
theorem He1{z:Bool}:∀{ks:List (List K)} {l:List (List b8)},Jf2 ks l=true->Jf3 z ks l=true->l=sf7 ks l/\z=true
 |[],[],_,hc=>⟨rfl,hc⟩
 |[],x::r,h,_=>by cases h
 |k::ks,[],h,_=>by cases h
 |k::ks,x::r,h,hc=>by
  have h:Bool.and (ze6 k x) (Jf2 ks r)=true:=h;rw[Qdb] at h;have hc:ze7 (Jf3 z ks r) k x=true:=hc;obtain⟨e1,h2⟩:=Mc7 h.1 hc;obtain⟨e2,h3⟩:=He1 h.2 h2;refine⟨?_,h3⟩;show x::r=je7 k x::sf7 ks r;rw[<- e1,<- e2]
def ru2(n:Nat)(l:List S2):List S2:=Nat.rec (motive:=λ_=>List S2) l (λ_ ih=>.s (.o .unk)::ih) n
structure B2 where
 et:Nat
 es:Nat
 own:Bool
 rows:Option (List (List K))
@[reducible] def isE(o:Option (List (List K)))(l:List (List b8)):Bool:=Option.rec (motive:=λ_=>Bool) true (λks=>Jf2 ks l) o
@[reducible] def asE(o:Option (List (List K)))(l:List (List b8)):List (List b8):=Option.rec (motive:=λ_=>List (List b8)) l (λks=>sf7 ks l) o
@[reducible] def cnO(o:Option (List (List K)))(l:List (List b8))(z:Bool):Bool:=Option.rec (motive:=λ_=>Bool) z (λks=>Jf3 z ks l) o
def isB(k:B2)(x:b9):Bool :=
 Bool.and (Bool.and (Nat.beq k.et x.et) (Nat.beq k.es x.es)) (Bool.and (eqB k.own x.own) (Bool.and (!x.dead) (Bool.and (Nat.beq x.g 0) (isE k.rows x.elems))))
theorem Jf4{k:B2}{x:b9}{z:Bool}(h:isB k x=true)(hc:cnO k.rows x.elems z=true):x=⟨k.et,k.es,asE k.rows x.elems,k.own,false,0⟩/\z=true:=by
 unfold isB at h;simp only[Qdb] at h;obtain⟨⟨h1,h2⟩,h3,h4,h5,h6⟩:=h;have h1:=Qda h1;have h2:=Qda h2;have h5:=Qda h5;have h4:x.dead=false:=by simpa using h4
 obtain⟨et,es,el,ow,de,g⟩:=x;obtain⟨et',es',ow',rows⟩:=k
 simp only at *
 subst h1 h2 h4 h5;have h3:ow'=ow:=by cases ow'<;>cases ow<;>first | rfl | cases h3
 subst h3;cases rows with
 |none=>exact⟨rfl,hc⟩
 |some ks =>
  obtain⟨e,hz⟩:=He1 h6 hc;refine⟨?_,hz⟩;show _=(⟨et',es',sf7 ks el,ow',false,0⟩:b9);rw[<- e]
def Ze1(ks:List B2):List b9->Bool :=
 List.rec (motive:=λ_=>List b9->Bool) (λl=>List.rec (motive:=λ_=>Bool) true (λ_ _ _=>false) l)
  (λk _ ih l=>List.rec (motive:=λ_=>Bool) false (λx r _=>Bool.and (isB k x) (ih r)) l) ks
def Qe6(ks:List B2):List b9->List b9 :=
 List.rec (motive:=λ_=>List b9->List b9) (λ_=>[]) (λk _ ih l=>⟨k.et,k.es,asE k.rows (hdB l),k.own,false,0⟩::ih (tlB l)) ks
def sf8(z:Bool)(ks:List B2):List b9->Bool :=
 List.rec (motive:=λ_=>List b9->Bool) (λ_=>z) (λk _ ih l=>cnO k.rows (hdB l) (ih (tlB l))) ks
theorem He2{z:Bool}:∀{ks:List B2} {l:List b9},Ze1 ks l=true->sf8 z ks l=true->l=Qe6 ks l/\z=true
 |[],[],_,hc=>⟨rfl,hc⟩
 |[],x::r,h,_=>by cases h
 |k::ks,[],h,_=>by cases h
 |k::ks,x::r,h,hc=>by
  have h:Bool.and (isB k x) (Ze1 ks r)=true:=h;rw[Qdb] at h;have hc:cnO k.rows x.elems (sf8 z ks r)=true:=hc;obtain⟨e1,h2⟩:=Jf4 h.1 hc;obtain⟨e2,h3⟩:=He2 h.2 h2;refine⟨?_,h3⟩;show x::r=⟨k.et,k.es,asE k.rows x.elems,k.own,false,0⟩::Qe6 ks r;rw[<- e1,<- e2]
structure Al2(π σ:Type) where
 sh:List S2
 bl:List B2
 rd:List b8->List b9->π×σ
def sf9{π σ:Type}(l:List (Al2 π σ))(t:St):DT (π×σ) :=
 List.rec (motive:=λ_=>DT (π×σ)) .fail
  (λx _ ih=>Bool.rec (motive:=λ_=>DT (π×σ)) ih (.guard (sf6 (sf8 true x.bl t.H) x.sh t.a) (.ret (x.rd t.a t.H))) (Bool.and (Ze0 x.sh t.a) (Ze1 x.bl t.H))) l
theorem Xd6 {π σ : Type} {enc : π → σ → St} {t : St} {q : π × σ} : ∀ {l : List (Al2 π σ)}, (∀ x, x ∈ l → ∀ a H, (⟨Qe5 x.sh a, Qe6 x.bl H⟩ : St) = enc (x.rd a H).1 (x.rd a H).2) →
  (sf9 l t).run=some q->t=enc q.1 q.2
 |[],_,h=>by cases h
 |x::l,hl,h=>by
  have h:(Bool.rec (motive:=λ_=>DT (π×σ)) (sf9 l t) (.guard (sf6 (sf8 true x.bl t.H) x.sh t.a) (.ret (x.rd t.a t.H))) (Bool.and (Ze0 x.sh t.a) (Ze1 x.bl t.H))).run=some q:=h
  cases hb:Bool.and (Ze0 x.sh t.a) (Ze1 x.bl t.H) with
  |false=>rw[hb] at h;exact Xd6 (λy hy=>hl y (.tail _ hy)) h
  |true =>
   rw[hb] at h;obtain⟨h1,h2⟩:=DT.run_guard_some h;cases h2;rw[Qdb] at hb;obtain⟨e1,h3⟩:=He0 hb.1 h1;obtain⟨e2,_⟩:=He2 hb.2 h3;rw[<- hl x (.head _) t.a t.H,<- e1,<- e2]
def eb9{π:Type}(x:Al2 π Unit)(k:π->DT (b8×List b9)):Sum:=λargs blks=>(sf9 [x] ⟨args,blks⟩).bind λq=>k q.1
theorem Q9 {P : Program} {G : Nat → List Value} {f : FuncId} {R : Sum} {π : Type} {x : Al2 π Unit} {enc : π → St} {k : π → DT (b8 × List b9)}
  (hx:∀a H,(⟨Qe5 x.sh a,Qe6 x.bl H⟩:St)=enc (x.rd a H).1) (hb:i7 P G f R)
  (h:∀p r,(k p).run=some r->(R (enc p).a (enc p).H).run=some r):i7 P G f (eb9 x k):=hb.le λargs blks r hr=>by
 obtain⟨q,h1,h2⟩:=DT.run_bind_some hr;have e:=Xd6 (enc:=λp _=>enc p) (eb7.mem (.cons hx .nil)) h1
 have:=h q.1 r h2
 rw[<- e] at this;exact this
@[reducible] def slT(l:List b8)(n:Nat):b8:=hdA (Nat.rec (motive:=λ_=>List b8->List b8) (λl=>l) (λ_ ih l=>ih (tlA l)) n l)
@[reducible] def rwT(l:List (List b8))(n:Nat):List b8:=hdR (Nat.rec (motive:=λ_=>List (List b8)->List (List b8)) (λl=>l) (λ_ ih l=>ih (tlR l)) n l)
@[reducible] def elT(l:List b9)(n:Nat):List (List b8):=hdB (Nat.rec (motive:=λ_=>List b9->List b9) (λl=>l) (λ_ ih l=>ih (tlB l)) n l)
@[reducible] def xit(o:Option Nat):g8:=Option.rec (motive:=λ_=>g8) .ret (λid=>.exit id) o
theorem Jf5(o:Option Nat):xit o≠.normal:=by cases o<;>exact λh=>by cases h
abbrev Xs(π σ:Type):=List (Option Nat×(π->σ->St))
def xOf{π σ:Type}(xs:Xs π σ)(p:π)(s:σ)(t:Nat):Nat->Option (g8×St) :=
 List.rec (motive:=λ_=>Nat->Option (g8×St)) (λ_=>none) (λx _ ih k=>sel (Nat.beq t k) (some (xit x.1,x.2 p s)) (ih (k+1))) xs
def Jf6{π σ:Type}(xs:Xs π σ)(p:π)(r:Nat×σ):Nat->DT (g8×St) :=
 List.rec (motive:=λ_=>Nat->DT (g8×St)) (λ_=>.fail) (λx _ ih k=>.ite (Nat.beq r.1 k) (.ret (xit x.1,x.2 p r.2)) (ih (k+1))) xs
theorem je8{π σ:Type}(p:π)(r:Nat×σ):∀(xs:Xs π σ) (k:Nat),(Jf6 xs p r k).run=xOf xs p r.2 r.1 k
 |[],k=>rfl
 |x::xs,k=>by
  show (DT.ite (Nat.beq r.1 k) (.ret (xit x.1,x.2 p r.2)) (Jf6 xs p r (k+1))).run=sel (Nat.beq r.1 k) (some (xit x.1,x.2 p r.2)) (xOf xs p r.2 r.1 (k+1));rw[DT.run_ite,je8 p r xs (k+1)];cases Nat.beq r.1 k<;>rfl
theorem rd3{π σ:Type}(p:π)(s:σ):∀(xs:Xs π σ) (k:Nat),xOf xs p s 0 (k+1)=none
 |[],_=>rfl
 |_::xs,k=>rd3 p s xs (k+1)
theorem He3{π σ:Type}{p:π}{s:σ}{t:Nat}{e:g8×St}:∀{xs:Xs π σ} {k:Nat},xOf xs p s t k=some e->e.1≠.normal
 |[],_,h=>by cases h
 |x::xs,k,h=>by
  have h:sel (Nat.beq t k) (some (xit x.1,x.2 p s)) (xOf xs p s t (k+1))=some e:=h;cases hb:Nat.beq t k with
  |true=>rw[hb] at h;cases h;exact Jf5 _
  |false=>rw[hb] at h;exact He3 h
theorem je9 {π σ : Type} {head : St → DT St} {body : St → DT (g8 × St)} {enc : σ → St} {step : σ → Stp σ} {xs : Xs π σ} {p : π}
  (h:∀s,(bc6 head body (enc s)).run=nc6 (λs'=>some (.normal,enc s')) (λt=>xOf xs p s t 1) none (step s)) :
  ∀(n:Nat) (s:σ) (e:g8×St),xOf xs p (lp0 step n s).2 (lp0 step n s).1 1=some e->(Fc5 head body n (enc s)).run=some e
 |n,s,e,he=>by
  have hr:=h s;cases hs:step s with
  |fail =>
   have h0:lp0 step n s=(0,s):=by
    cases n with
    |zero=>show nc6 _ _ _ (step s)=_;rw[hs]
    |succ n=>show nc6 _ _ _ (step s)=_;rw[hs]
   rw[h0] at he;rw[show xOf xs p s 0 1=none from rd3 p s xs 0] at he
   cases he
  |exit t =>
   rw[qd9 hs] at he;rw[hs] at hr;have hr:(bc6 head body (enc s)).run=xOf xs p s t 1:=hr;have he:xOf xs p s t 1=some e:=he;rw[he] at hr;obtain⟨x,t'⟩:=e;exact rf6 hr (He3 he)
  |next s' =>
   cases n with
   |zero =>
    have h0:lp0 step 0 s=(0,s):=by show nc6 _ _ _ (step s)=_;rw[hs]
    rw[h0] at he;rw[show xOf xs p s 0 1=none from rd3 p s xs 0] at he
    cases he
   |succ n =>
    rw[je1 hs] at he;rw[hs] at hr;exact rf5 hr (je9 h n s' e he)
section
variable{π σ:Type}
def Nd5(head:Nat->List Nat->St->DT St)(k:Nat)(keep:List Nat)(alts:List (Al2 π σ))(step:π->σ->Stp σ)(xs:Xs π σ)(s:St):DT (g8×St) :=
 (head k keep s).bind λt=>(sf9 alts t).bind λq=>Jf6 xs q.1 (lp (step q.1) q.2) 1
structure nc8(head:Nat->List Nat->St->DT St)(k:Nat)(keep:List Nat)(body:St->DT (g8×St))(alts:List (Al2 π σ))(step:π->σ->Stp σ)(xs:Xs π σ)(enc:π->σ->St):Prop where
 ha:eb7 (λx=>∀a H,(⟨Qe5 x.sh a,Qe6 x.bl H⟩:St)=enc (x.rd a H).1 (x.rd a H).2) alts
 h:∀p s,(bc6 (head k keep) body (enc p s)).run=nc6 (λs'=>some (.normal,enc p s')) (λt=>xOf xs p s t 1) none (step p s)
variable{E:Env}{k:Nat}{res:List Uc1}{keep:List Nat}{alts:List (Al2 π σ)}{enc:π->σ->St}{step:π->σ->Stp σ}{xs:Xs π σ}{body:PS}{c:PC}{head:Nat->List Nat->St->DT St}{bd:St->DT (g8×St)}
theorem nc8.go(w:nc8 head k keep bd alts step xs enc){s:St}{r:g8×St}(hr:(Nd5 head k keep alts step xs s).run=some r):∃t,(head k keep s).run=some t/\(Fc5 (head k keep) bd rounds t).run=some r:=by
 obtain⟨t,h1,h2⟩:=DT.run_bind_some hr;obtain⟨q,h3,h4⟩:=DT.run_bind_some h2;rw[je8,Ye2] at h4;have e:=Xd6 w.ha.mem h3;refine⟨t,h1,?_⟩;rw[e];exact je9 (w.h q.1) rounds q.2 r h4
theorem nc8.belowC(hb:va0 E k res body c)(hN:E.N=rounds+1)(w:nc8 nc5 k keep (Ge7 E k res body) alts step xs enc)(s:St):ma9 k res (Nd5 nc5 k keep alts step xs s) (V0 E k (.loop keep c) s):=λr hr=>by
 obtain⟨t,h1,h2⟩:=w.go hr;rw[Nd4,hN];exact nc7 hb.le _ _ r (wc4 h1 h2)
end
inductive RT where
 |p
 |s (a c:RT)
 |c (x y:RT)
 |b (c:RT)
 |l (c:RT)
 |i (c:RT)
 |u (S:St->DT (g8×St))
def Ed1:RT->PC->PS
 |.s a b,.seq x y=>.seq (Ed1 a x) (Ed1 b y)
 |.c a b,.cond g x y=>.cond g (Ed1 a x) (Ed1 b y)
 |.b a,.block id x=>.block id (Ed1 a x)
 |.l a,.loop keep x=>.loop keep (Ed1 a x)
 |.u S,_=>.sum S
 |_,c=>.pc c
def zc2:RT->PC->List ((St->DT (g8×St))×PC)
 |.s a b,.seq x y=>app (zc2 a x) (zc2 b y)
 |.c a b,.cond _ x y=>app (zc2 a x) (zc2 b y)
 |.b a,.block _ x=>zc2 a x
 |.l a,.loop _ x=>zc2 a x
 |.i a,.inner _ _ _ x=>zc2 a x
 |.u S,c=>[(S,c)]
 |_,_=>[]
theorem eb7.app{α:Type}{Q:α->Prop}:∀{l r:List α},eb7 Q (Go.Ev.app l r)->eb7 Q l/\eb7 Q r
 |[],_,h=>⟨.nil,h⟩
 |_::l,_,.cons h t=>⟨.cons h (eb7.app t).1,(eb7.app t).2⟩
theorem He4{E:Env}{k:Nat}{res:List Uc1}(rt:RT)(c:PC):eb7 (λx=>∀s,ma9 k res (x.1 s) (V0 E k x.2 s)) (zc2 rt c)->va0 E k res (Ed1 rt c) c:=by
 induction rt generalizing c with
 |p=>intro h;cases c<;>exact .pc _
 |s a b iha ihb =>
  intro h;cases c with
  |seq x y=>exact .seq (iha x (eb7.app h).1) (ihb y (eb7.app h).2)
  |_=>exact .pc _
 |c a b iha ihb =>
  intro h;cases c with
  |cond g x y=>exact .cond g (iha x (eb7.app h).1) (ihb y (eb7.app h).2)
  |_=>exact .pc _
 |b a iha =>
  intro h;cases c with
  |block id x=>exact .block id (iha x h)
  |_=>exact .pc _
 |l a iha =>
  intro h;cases c with
  |loop keep x=>exact .loop keep (iha x h)
  |_=>exact .pc _
 |i a iha=>intro h;cases c<;>exact .pc _
 |u S =>
  intro h
  have:zc2 (.u S) c=[(S,c)]:=by cases c<;>rfl
  rw[this] at h;cases h with
  |cons h t =>
   have e:Ed1 (.u S) c=.sum S:=by cases c<;>rfl
   rw[e];exact .sum h
def bg1(l:List Nat)(c:PC):PC :=
 List.rec (motive:=λ_=>PC->PC) (λc=>c) (λn _ ih c=>match c with
  |.seq x y=>ih (match n with | 0=>x | _=>y)
  |.cond _ x y=>ih (match n with | 2=>x | _=>y)
  |.block _ x=>ih x
  |.loop _ x=>ih x
  |.loopM _ x=>ih x
  |.inner _ _ _ x=>ih x
  |c=>c) l c
theorem Ze2(n:Int):W n=(n+9223372036854775808) % 18446744073709551616-9223372036854775808:=IntKind.wrap_i64 n
theorem ka5{n:Int}(h1:-9223372036854775808<=n)(h2:n<=9223372036854775807):W n=n:=by rw[Ze2];omega
theorem He5(n:Int):∃k,W n=n+18446744073709551616*k:=⟨-((n+9223372036854775808) / 18446744073709551616),by rw[Ze2];omega⟩
theorem wc6(n k:Int):W (n+18446744073709551616*k)=W n:=by rw[Ze2,Ze2];omega
theorem Fb0(a b:Int):W (W a+b)=W (a+b):=by
 obtain⟨k,hk⟩:=He5 a;rw[hk,show a+18446744073709551616*k+b=a+b+18446744073709551616*k by omega,wc6]
theorem nc9(a b:Int):W (a+W b)=W (a+b):=by rw[Int.add_comm,Fb0,Int.add_comm]
theorem rd4(a b:Int):W (W a-b)=W (a-b):=by
 obtain⟨k,hk⟩:=He5 a;rw[hk,show a+18446744073709551616*k-b=a-b+18446744073709551616*k by omega,wc6]
theorem Xd7(a b:Int):W (a-W b)=W (a-b):=by
 obtain⟨k,hk⟩:=He5 b;rw[hk,show a-(b+18446744073709551616*k)=a-b+18446744073709551616*(-k) by omega,wc6]
theorem ze8(a b:Int):W (W a*b)=W (a*b):=by
 obtain⟨k,hk⟩:=He5 a;rw[hk,show (a+18446744073709551616*k)*b=a*b+18446744073709551616*(k*b) by grind,wc6]
theorem Ze3(a b:Int):W (a*W b)=W (a*b):=by rw[Int.mul_comm,ze8,Int.mul_comm]
theorem n8{j n:Nat}(h:j<n)(hn:n<=4611686018427387904):W ((j:Int)+1)=((j+1:Nat):Int):=by
 rw[ka5 (by omega) (by omega)];omega
theorem oc0{j n:Nat}(h:j<n):decide ((j:Int)<(n:Int))=true:=decide_eq_true (by omega)
theorem bc7{j n:Nat}(h:¬ j<n):decide ((j:Int)<(n:Int))=false:=decide_eq_false (by omega)
theorem d9{j n:Nat}(h:j<n):inB (j:Int) n=true:=by
 show Nat.blt j n=true;rw[Nat.blt_eq];exact h
theorem Mc8(m:Int)(n:Nat):inB m n=decide (0<=m/\m<n):=by
 unfold inB;cases m with
 |ofNat k =>
  rw[Bool.eq_iff_iff,decide_eq_true_eq];show Nat.blt k n=true↔_;rw[Nat.blt_eq];constructor
  ·intro h;exact⟨Int.natCast_nonneg k,Int.ofNat_lt.2 h⟩
  ·intro h;exact Int.ofNat_lt.1 h.2
 |negSucc k=>exact (decide_eq_false (λh=>by omega)).symm
theorem bt{c:Bool}(h:c=true){α:Type}(t e:α):sl c t e=t:=by rw[h];rfl
theorem bf{c:Bool}(h:c=false){α:Type}(t e:α):sl c t e=e:=by rw[h];rfl
theorem S4{n:Nat}(h:n<=1000000000000):Nat.ble (n*32) room=true:=by
 rw[Nat.ble_eq];unfold room;omega
theorem Ze4 {σ : Type} {step : σ → Stp σ} {I : Nat → σ → Prop} {Q : Nat → σ → Prop} (h : ∀ m s, I m s → (∃ t, step s = .exit t ∧ Q t s) ∨ ∃ s' m', m = m' + 1 ∧ step s = .next s' ∧ I m' s') :
  ∀(m n:Nat) (s:σ),m<=n->I m s->Q (lp0 step n s).1 (lp0 step n s).2
 |m,n,s,hn,hi=>by
  rcases h m s hi with⟨t,h1,h2⟩|⟨s',m',rfl,h1,h2⟩
  ·rw[qd9 h1];exact h2
  ·cases n with
   |zero=>omega
   |succ n =>
    rw[je1 h1];exact Ze4 h m' n s' (by omega) h2
theorem oc1 {σ : Type} {step : σ → Stp σ} {I : Nat → σ → Prop} {Q : Nat → σ → Prop} (h : ∀ m s, I m s → (∃ t, step s = .exit t ∧ Q t s) ∨ ∃ s' m', m = m' + 1 ∧ step s = .next s' ∧ I m' s')
  (m:Nat) (s:σ) (hm:m<=18446744073709551615) (hi:I m s):Q (lp step s).1 (lp step s).2:=by
 rw[Ye2];exact Ze4 h m rounds s (by unfold rounds;omega) hi
section
variable{σ τ α:Type}{step:σ->Stp σ}
theorem Mc9 {mk : Nat → τ → σ} {f : τ → α → τ} {fin : Nat} (t : Ty α) (l : List α) (I : Nat → τ → Prop) (hl : l.length ≤ 1000000000)
  (h:∀j a,j<l.length->I j a->step (mk j a)=.next (mk (j+1) (f a (gL t l j)))/\I (j+1) (f a (gL t l j)))
  (hf:∀a,I l.length a->step (mk l.length a)=.exit fin) (j0:Nat) (hj:j0<=l.length) (a:τ) (hi:I j0 a) :
  lp step (mk j0 a)=(fin,mk l.length ((l.drop j0).foldl f a))/\I l.length ((l.drop j0).foldl f a):=by
 have key:=oc1 (step:=step) (I:=λm s=>∃j b,m=l.length-j/\j<=l.length/\s=mk j b/\I j b/\(l.drop j).foldl f b=(l.drop j0).foldl f a)
  (Q:=λu s=>u=fin/\s=mk l.length ((l.drop j0).foldl f a)/\I l.length ((l.drop j0).foldl f a)) (λm s ⟨j,b,hm,hj,hs,hb,he⟩=>by
   subst hs;by_cases hlt:j<l.length
   ·obtain⟨h1,h2⟩:=h j b hlt hb;refine .inr ⟨_,l.length-(j+1),by omega,h1,j+1,_,rfl,by omega,rfl,h2,?_⟩
    rw[<- he,Qdj hlt,List.foldl_cons];simp[gL,Qdd,Qdc hlt]
   ·have:j=l.length:=by omega
    subst this;have he:b=(l.drop j0).foldl f a:=by rw[<- he];simp
    subst he;exact .inl ⟨fin,hf _ hb,rfl,rfl,hb⟩) (l.length-j0) (mk j0 a) (by omega) ⟨j0,a,rfl,hj,rfl,hi,rfl⟩
 exact⟨by rw[<- key.2.1,<- key.1],key.2.2⟩
theorem fb0 {mk : Nat → σ} {c : α → Bool} {u fin : Nat} (t : Ty α) (l : List α) (hl : l.length ≤ 1000000000)
  (h:∀j,j<l.length->step (mk j)=sl (c (gL t l j)) (.exit u) (.next (mk (j+1)))) (hf:step (mk l.length)=.exit fin) (j0:Nat) (hj:j0<=l.length) :
  (lp step (mk j0)).1=if (l.drop j0).any c then u else fin :=
 oc1 (step:=step) (I:=λm s=>∃j,m=l.length-j/\j<=l.length/\s=mk j/\(l.drop j).any c=(l.drop j0).any c)
  (Q:=λv _=>v=if (l.drop j0).any c then u else fin) (λm s ⟨j,hm,hj,hs,he⟩=>by
   subst hs;by_cases hlt:j<l.length
   ·have h1:=h j hlt;have e:gL t l j=l[j]:=by simp[gL,Qdd,Qdc hlt]
    have e2:(l.drop j).any c=(c l[j]||(l.drop (j+1)).any c):=by rw[Qdj hlt,List.any_cons]
    rw[e] at h1;cases hc:c l[j] with
    |true =>
     rw[hc] at h1;refine .inl ⟨u,h1,?_⟩;rw[<- he,e2,hc];rfl
    |false =>
     rw[hc] at h1;refine .inr ⟨_,l.length-(j+1),by omega,h1,j+1,rfl,by omega,rfl,?_⟩
     rw[<- he,e2,hc];rfl
   ·have:j=l.length:=by omega
    subst this;refine .inl ⟨fin,hf,?_⟩;rw[<- he];simp) (l.length-j0) (mk j0) (by omega) ⟨j0,rfl,hj,rfl,rfl⟩
theorem za2 {mk : Nat → σ} {c : α → Bool} {u fin : Nat} (t : Ty α) (l : List α) (hl : l.length ≤ 1000000000)
  (h:∀j,j<l.length->step (mk j)=sl (c (gL t l j)) (.exit u) (.next (mk (j+1)))) (hf:step (mk l.length)=.exit fin) (j0:Nat) (hj:j0<=l.length) :
  lp step (mk j0)=if (l.drop j0).any c then (u,mk (j0+(l.drop j0).findIdx c)) else (fin,mk l.length):=by
 have key:=oc1 (step:=step) (I:=λm s=>∃j,m=l.length-j/\j<=l.length/\j0<=j/\s=mk j/\(l.drop j).any c=(l.drop j0).any c/\j+(l.drop j).findIdx c=j0+(l.drop j0).findIdx c)
  (Q:=λv s=>(v,s)=if (l.drop j0).any c then (u,mk (j0+(l.drop j0).findIdx c)) else (fin,mk l.length)) (λm s ⟨j,hm,hj,hj0,hs,he,hi⟩=>by
   subst hs;by_cases hlt:j<l.length
   ·have h1:=h j hlt;have e:gL t l j=l[j]:=by simp[gL,Qdd,Qdc hlt]
    have e2:(l.drop j).any c=(c l[j]||(l.drop (j+1)).any c):=by rw[Qdj hlt,List.any_cons]
    have e3:(l.drop j).findIdx c=if c l[j] then 0 else (l.drop (j+1)).findIdx c+1:=by rw[Qdj hlt,List.findIdx_cons];cases c l[j]<;>rfl
    rw[e] at h1;cases hc:c l[j] with
    |true =>
     rw[hc] at h1;refine .inl ⟨u,h1,?_⟩;rw[<- he,e2,hc,<- hi,e3,hc];rfl
    |false =>
     rw[hc] at h1;refine .inr ⟨_,l.length-(j+1),by omega,h1,j+1,rfl,by omega,by omega,rfl,?_,?_⟩
     ·rw[<- he,e2,hc];rfl
     ·rw[<- hi,e3,hc];simp only[Bool.false_eq_true,if_false];omega
   ·have:j=l.length:=by omega
    subst this;refine .inl ⟨fin,hf,?_⟩;rw[<- he];simp) (l.length-j0) (mk j0) (by omega) ⟨j0,rfl,hj,Qdg _,rfl,rfl,rfl⟩
 exact key
end
theorem Y0{α:Type}(t:Ty α){l:List α}{j:Nat}(h:j<l.length):gL t l j∈l:=by
 simp[gL,Qdd,Qdc h]
theorem bb9{α:Type}(t:Ty α){l:List α}{j:Nat}(h:j<l.length):gL t l j=l[j]:=by
 simp[gL,Qdd,Qdc h]
def euF:Nat->Int->Int->Int
 |0,g,_=>g
 |k+1,g,n=>if n=0 then g else euF k n (Int.tmod g n)
def eu(g n:Int):Int:=euF (n.natAbs+1) g n
theorem nb1{g n:Int}(h:n≠0):(Int.tmod g n).natAbs<n.natAbs:=by
 rw[Int.natAbs_tmod];exact Nat.mod_lt _ (by omega)
theorem ke0:∀(k m:Nat) {g n:Int},n.natAbs<k->n.natAbs<m->euF k g n=euF m g n
 |0,_,_,_,h,_=>by omega
 |_+1,0,_,_,_,h=>by omega
 |k+1,m+1,g,n,h1,h2=>by
  unfold euF;by_cases h:n=0
  ·rw[if_pos h,if_pos h]
  ·rw[if_neg h,if_neg h]
   have:=nb1 (g:=g) h
   exact ke0 k m (by omega) (by omega)
theorem wc7(g:Int):eu g 0=g:=by simp[eu,euF]
theorem md0{g n:Int}(h:n≠0):eu g n=eu n (Int.tmod g n):=by
 have:=nb1 (g:=g) h
 unfold eu
 conv=>lhs;unfold euF
 rw[if_neg h];exact ke0 _ _ (by omega) (by omega)
theorem Jf7:∀(k:Nat) (g n:Int),n.natAbs<=k->(eu g n).natAbs=Int.gcd g n:=by
 intro k
 induction k with
 |zero =>
  intro g n h
  have:n=0:=by omega
  subst this;rw[wc7];simp
 |succ k ih =>
  intro g n h;by_cases h0:n=0
  ·subst h0;rw[wc7];simp
  ·have:=nb1 (g:=g) h0
   rw[md0 h0,ih n (Int.tmod g n) (by omega)]
   unfold Int.gcd;rw[Int.natAbs_tmod,Nat.gcd_comm g.natAbs,Nat.gcd_comm n.natAbs,<- Nat.gcd_rec]
theorem Ze5(g n:Int):(eu g n).natAbs=Int.gcd g n:=Jf7 _ g n (Qdg _)
theorem Qe7:∀(k:Nat) (g n:Int),n.natAbs<=k->0<=g->0<=n->0<=eu g n:=by
 intro k
 induction k with
 |zero =>
  intro g n h hg _
  have:n=0:=by omega
  subst this;rw[wc7];exact hg
 |succ k ih =>
  intro g n h hg hn;by_cases h0:n=0
  ·subst h0;rw[wc7];exact hg
  ·have:=nb1 (g:=g) h0
   rw[md0 h0];exact ih n _ (by omega) hn (Int.tmod_nonneg _ hg)
theorem Ze6{g n:Int}(hg:0<=g)(hn:0<=n):eu g n=(Int.gcd g n:Int):=by
 have h1:=Qe7 _ g n (Qdg _) hg hn;have h2:=Ze5 g n;omega
section
variable{σ:Type}{step:σ->Stp σ}{mk:Int->Int->σ}
theorem He6(h:∀g n,n≠0->step (mk g n)=.next (mk n (Int.tmod g n)))(h0:∀g,step (mk g 0)=.exit 1)(g n:Int)(hn:n.natAbs<=9223372036854775808):lp step (mk g n)=(1,mk (eu g n) 0):=by
 have:=oc1 (step:=step) (I:=λm s=>∃a c,s=mk a c/\c.natAbs<=m/\eu a c=eu g n) (Q:=λu s=>(u,s)=(1,mk (eu g n) 0)) (λm s ⟨a,c,hs,hm,he⟩=>by
  subst hs;by_cases hc:c=0
  ·subst hc;rw[wc7] at he;subst he;exact .inl ⟨1,h0 _,rfl⟩
  ·have ht:=nb1 (g:=a) hc;exact .inr ⟨_,m-1,by omega,h a c hc,c,_,rfl,by omega,by rw[<- he,md0 hc]⟩) n.natAbs (mk g n) (by omega) ⟨g,n,rfl,Qdg _,rfl⟩
 exact this
theorem cd2(h:∀g n,0<n->step (mk g n)=.next (mk n (Int.tmod g n)))(h0:∀g,step (mk g 0)=.exit 1)(g n:Int)(hg:0<=g)(h1:0<=n)(hn:n<=9223372036854775808):lp step (mk g n)=(1,mk (eu g n) 0):=by
 have:=oc1 (step:=step) (I:=λm s=>∃a c,s=mk a c/\c.natAbs<=m/\0<=a/\0<=c/\eu a c=eu g n) (Q:=λu s=>(u,s)=(1,mk (eu g n) 0)) (λm s ⟨a,c,hs,hm,ha,hc0,he⟩=>by
  subst hs;by_cases hc:c=0
  ·subst hc;rw[wc7] at he;subst he;exact .inl ⟨1,h0 _,rfl⟩
  ·have ht:=nb1 (g:=a) hc;exact .inr ⟨_,m-1,by omega,h a c (by omega),c,_,rfl,by omega,hc0,Int.tmod_nonneg _ ha,by rw[<- he,md0 hc]⟩) n.natAbs (mk g n) (by omega) ⟨g,n,rfl,Qdg _,hg,h1,rfl⟩
 exact this
end
theorem mb{a c A C:Int}(h1:-A<=a)(h2:a<=A)(h3:-C<=c)(h4:c<=C):-(A*C)<=a*c/\a*c<=A*C:=by
 have hA:a.natAbs<=A.natAbs:=by omega
 have hC:c.natAbs<=C.natAbs:=by omega
 have h5:=Nat.mul_le_mul hA hC;rw[<- Int.natAbs_mul,<- Int.natAbs_mul] at h5;have h6:0<=A*C:=Int.mul_nonneg (by omega) (by omega)
 omega
end Go.Ev.L
namespace Go.Ev
open Go
def FW(F:Fence):Prop:=∃r,F={ Fence.wide with round:=r }
theorem FW.wide:FW Fence.wide:=⟨none,rfl⟩
theorem FW.inRound(l:Nat):FW (Fence.wide.inRound l):=⟨some l,rfl⟩
section
variable{F:Fence}{n:Nat}{P:Program}
theorem FW.fn(h:FW F)(f:FuncId):F.fn f:=by obtain⟨r,rfl⟩:=h;trivial
theorem FW.dep(h:FW F):F.depth=none:=by obtain⟨r,rfl⟩:=h;rfl
theorem FW.depS(h:FW F){p:Prop}:F.depth.isSome=true->p:=λhd=>by rw[h.dep] at hd;cases hd
theorem FW.fenced(h:FW F):Machine.fenced P F=Machine.fenced P Fence.wide:=by obtain⟨r,rfl⟩:=h;rfl
theorem FW.room(h:FW F)(k:Nat):F.room k:=λd hd=>by rw[h.dep] at hd;cases hd
theorem FW.calls(h:FW F){f:FuncId}{args:Array Value}{w:World}{R:Ending->World->Prop}:CallsIn F n P f args w R↔Calls P f args w R:=by
 refine Iff.trans ?_ (callsIn_wide (n:=n));obtain⟨r,rfl⟩:=h;exact⟨λh=>h,λh=>h⟩
theorem FW.rows(h:FW F){row:String}{args:Array Value}{w:World}{R:Value->World->Prop}(hr:Rows P row args w R):RowsIn F n P row args w R:=λc cs _=>by
 obtain⟨v,w',h1,h2⟩:=hr c cs;refine⟨v,w',h1,?_⟩;rw[h.fenced];exact stepsIn_wide.2 h2
end
section
variable{P:Program}{o:Oper}{ac:Act}{w:World}{post:Value->World->Prop}
theorem l7.inAny(h:l7 P o { ac with defers:=[] } w post){F:Fence}(hF:FW F)(n:Nat)(next:Act->World->Prop)(Q:Exit->Act->World->Prop)(hp:∀x' w',post x' w'->next (ac.put o.dst x') w'):o.wpIn F n P ac w next Q:=by
 have hput:∀v,({ ac with defers:=[] }:Act).put o.dst v={ ac.put o.dst v with defers:=[] }:=λv=>by cases o.dst<;>rfl
 have hinj:∀v x',({ ac with defers:=[] }:Act).put o.dst v=({ ac with defers:=[] }:Act).put o.dst x'->ac.put o.dst v=ac.put o.dst x':=λv x' e=>by
  rw[hput,hput] at e;have e1:=congrArg Act.tmps e
  revert e1
  cases o.dst with
  |none=>intro _;rfl
  |some d=>intro e1;show ({ ac with tmps:=_ }:Act)={ ac with tmps:=_ };congr 1
 have hnd:∀c,o.op≠.defer c:=λc hc=>by
  have h0:=h (λa' _=>a'.defers=[]) (λ_ _ _=>False) (λx' w' _=>by rw[hput])
  unfold Oper.wp at h0;have e:execOp ({ ac with defers:=[] }:Act).eval o=(do return .defer (<- resolve ({ ac with defers:=[] }:Act).eval c o.type)):=by unfold execOp;simp[hc]
  rw[e] at h0;simp only[Sem.run_bind] at h0;cases hr:(resolve ({ ac with defers:=[] }:Act).eval c o.type).run P w with
  |ok d w1 =>
   rw[hr] at h0;have h0:({ ({ ac with defers:=[] }:Act) with defers:=d::[] }.put o.dst undef).defers=[]:=h0
   revert h0
   cases o.dst<;>intro h0<;>cases h0
  |halt x w1 =>
   rw[hr] at h0;cases x<;>exact h0
 have h0:=h (λa' w'=>∃x',post x' w'/\a'=({ ac with defers:=[] }:Act).put o.dst x') (λ_ _ _=>False) (λx' w' hx=>⟨x',hx,rfl⟩)
 unfold Oper.wp at h0;refine⟨λf _=>hF.fn f,?_⟩
 rw[Oper.semAt_eq _ _ _ hnd];have hev:(execOp ac.eval o)=execOp ({ ac with defers:=[] }:Act).eval o:=rfl
 rw[hev]
 revert h0
 generalize (execOp ({ ac with defers:=[] }:Act).eval o).run P w=r
 intro h0;have hnext:∀v w',(∃x',post x' w'/\({ ac with defers:=[] }:Act).put o.dst v=({ ac with defers:=[] }:Act).put o.dst x')->next (ac.put o.dst v) w':=λv w' ⟨x',h1,h2⟩=>by
  rw[hinj v x' h2];exact hp x' w' h1
 cases r with
 |ok q w' =>
  cases q with
  |value v=>exact hnext v w' h0
  |skip=>exact hnext undef w' h0
  |defer d =>
   obtain⟨x',_,h2⟩:=h0;rw[hput] at h2
   have:=congrArg Act.defers h2
   revert this
   cases o.dst<;>intro h<;>cases h
  |enter f args =>
   refine⟨λhd=>hF.depS hd,hF.calls.2 ?_⟩
   have h0:Calls P f args w' _:=h0;refine h0.mono λe w'' he=>?_
   cases e with
   |returned v=>exact hnext v w'' he
   |panicked ch=>exact he.elim
   |outgrown=>obtain⟨a0,w0,hq⟩:=he;exact hq.elim
  |row row args =>
   refine⟨λhd=>hF.depS hd,hF.rows ?_⟩
   have h0:Rows P row args w' _:=h0;exact λc cs=>by
    obtain⟨v,w'',h1,h2⟩:=h0 c cs;exact⟨v,w'',hnext v w'' h1,h2⟩
  |round l f tmps asq body=>exact h0.elim
  |_=>exact h0.elim
 |halt x w' =>
  cases x with
  |panic v=>exact h0.elim
  |_=>exact h0.elim
end
section
variable{W W' WB:Nat->Prop}{ρ ρ0 ρ':Rho}{H H0 H1:List b9}{F F0 F':Fz}{w w0 w':World}{P:Program}
theorem Fb1(H:List b9):r8 H=H.map λb=>Bool.rec (motive:=λ_=>b9) b { b with dead:=true } (J8 b):=by unfold r8;rw[o8]
theorem Qe8:(r8 H).length=H.length:=by rw[Fb1];simp
theorem ua5{id:Nat}{b:b9}(hb:H[id]?=some b)(hs:J8 b=false):(r8 H)[id]?=some b:=by
 rw[Fb1,Qdf,hb];simp[hs]
theorem rd5{id:Nat}{b:b9}(hb:H[id]?=some b)(hs:J8 b=true):(r8 H)[id]?=some { b with dead:=true }:=by
 rw[Fb1,Qdf,hb];simp[hs]
theorem xa5{id:Nat}{b:b9}(hb:(r8 H)[id]?=some b)(hd:b.dead=false):H[id]?=some b/\J8 b=false:=by
 rw[Fb1,Qdf] at hb;cases h:H[id]? with
 |none=>rw[h] at hb;cases hb
 |some c =>
  rw[h] at hb;cases hs:J8 c with
  |false=>simp[hs] at hb;subst hb;exact⟨rfl,hs⟩
  |true=>simp[hs] at hb;subst hb;cases hd
def Nc0(H:List b9)(id:Nat):Prop:=∃b,H[id]?=some b/\J8 b=true
def ρsp(H:List b9)(ρ ρ':Rho):Rho:=λid=>@ite _ (Nc0 H id) (Classical.propDecidable _) (ρ id) (ρ' id)
theorem ρsp_on{id:Nat}(h:Nc0 H id):ρsp H ρ ρ' id=ρ id:=by unfold ρsp;rw[if_pos h]
theorem ρsp_off{id:Nat}(h:¬ Nc0 H id):ρsp H ρ ρ' id=ρ' id:=by unfold ρsp;rw[if_neg h]
theorem ke1:∀(H1:List b9),Jc8 [] H1=true->∀(id:Nat) c,H1[id]?=some c->J8 c=false
 |[],_,id,c,hc=>by simp at hc
 |d::r,ho,id,c,hc=>by
  have ho:Bool.and (Bool.rec (motive:=λ_=>Bool) true false (J8 d)) (Jc8 [] r)=true:=ho
  simp only[Qdb] at ho;cases id with
  |zero =>
   simp at hc;subst hc
   have:=ho.1
   cases h:J8 d with
   |false=>rfl
   |true=>rw[h] at this;cases this
  |succ id=>exact ke1 r ho.2 id c (by simpa using hc)
theorem rd6 : ∀ (H H1 : List b9), H.length ≤ H1.length → Jc8 H H1 = true → (E2 H H1).length = H1.length ∧
  (∀(id:Nat) b,H[id]?=some b->J8 b=true->(E2 H H1)[id]?=some b) /\
  (∀(id:Nat),¬ Nc0 H id->(E2 H H1)[id]?=H1[id]?/\∀c,H1[id]?=some c->J8 c=false)
 |[],H1,_,ho=>by
  refine⟨rfl,λid b hb=>by simp at hb,λid _=>⟨rfl,λc hc=>?_⟩⟩
  exact ke1 H1 ho id c hc
 |b::H,[],hl,_=>by simp at hl
 |b::H,c::H1,hl,ho=>by
  have ho:Bool.and (Bool.rec (motive:=λ_=>Bool) (Bool.rec true false (J8 c)) true (J8 b)) (Jc8 H H1)=true:=ho
  simp only[Qdb] at ho;obtain⟨h1,h2,h3⟩:=rd6 H H1 (by simpa using hl) ho.2
  have e:E2 (b::H) (c::H1)=Bool.rec (motive:=λ_=>b9) c b (J8 b)::E2 H H1:=rfl
  rw[e];refine⟨by simp[h1],λid d hd hs=>?_,λid hn=>?_⟩
  ·cases id with
   |zero=>simp at hd;subst hd;simp[hs]
   |succ id=>simpa using h2 id d (by simpa using hd) hs
  ·cases id with
   |zero =>
    have hb:J8 b=false:=by
     cases h:J8 b with
     |false=>rfl
     |true=>exact absurd ⟨b,rfl,h⟩ hn
    rw[hb] at ho ⊢;refine⟨rfl,λd hd=>?_⟩
    simp at hd;subst hd
    have:=ho.1
    cases h:J8 c with
    |false=>rfl
    |true=>rw[h] at this;cases this
   |succ id =>
    obtain⟨k1,k2⟩:=h3 id λ⟨d,hd,hs⟩=>hn ⟨d,by simpa using hd,hs⟩
    exact⟨by simpa using k1,λd hd=>k2 d (by simpa using hd)⟩
def ke2(b:b9):Prop:=b.es=0/\b.et=0
def ke3(t:Nat)(b:b9):Prop:=b.es=0/\b.et=t+1
inductive XC (ρ:Rho) (H:List b9) (F:Fz) (w:World):b8->Value->Prop
 |n {x:b8} {x':Value} (h:la0 ρ (r8 H) F w x x'):XC ρ H F w x x'
 |box (id c g:Nat) (b:b9) (hb:H[id]?=some b) (hd:b.dead=false) (he:ke2 b):XC ρ H F w (.ptr id 0 c g) (.pointer (some ⟨(ρ id).blk,c,none⟩))
 |map (id c g:Nat) (b:b9) (t:Nat) (hb:H[id]?=some b) (hd:b.dead=false) (he:ke3 t b):XC ρ H F w (.ptr id 0 c g) (.map (some (ρ id).blk))
inductive XW (ρ:Rho) (H:List b9) (F:Fz) (w:World):b8->Value->Prop
 |w {x:b8} {x':Value} (h:J1 ρ (r8 H) F w x x'):XW ρ H F w x x'
 |c {x:b8} {x':Value} (h:XC ρ H F w x x'):XW ρ H F w x x'
theorem Fb2{b:b9}(h:ke2 b):J8 b=true:=by unfold J8;rw[h.1];rfl
theorem Fb3{b:b9}{t:Nat}(h:ke3 t b):J8 b=true:=by unfold J8;rw[h.1];rfl
theorem XC.one{x:b8}{x':Value}(h:XC ρ H F w x x')(hb:Ne8 x=true):x'.oneCell'=true:=by
 cases h with
 |n h =>
  cases h with
  |mem h=>exact h.one
  |v=>exact (by rw[<- Kc5];exact hb)
  |ptr=>rfl
  |sl=>rfl
  |tptr=>cases hb
  |unk=>cases hb
 |box=>rfl
 |map=>rfl
structure Jf8(ρ:Rho)(H:List b9)(F:Fz)(w:World)(b:b9)(blk:Nat):Prop where
 et:ke2 b
 has:∃row vs t,b.elems=[row]/\w.heap[blk]?=some (.cells vs t (0,0))/\row.length=vs.size/\∀(c:Nat) x x',row[c]?=some x->vs[c]?=some x'->x'.oneCell'=true/\XC ρ H F w x x'
def rd7(fl:List (Nat×CK))(kl:Nat)(r:List b8)(e:MapEntry):Prop:=∃(ks:Array Value) (v:Bool),r=ks.toList.map .v++[.v (.bool v)]/\ks.size=kl/\e.key=.agg ks/\e.val=.bool v/\∀p∈fl,Ra2 ks p
structure Jf9(P:Program)(w:World)(b:b9)(blk:Nat):Prop where
 has:∃t K El fl es clk,ke3 t b/\P.underlying t=some (.map K El)/\ha4 P 9 K=some fl/\w.heap[blk]?=some (.map es clk)/\b.elems.length=es.size /\
  ∀(i:Nat) r e,b.elems[i]?=some r->es[i]?=some e->rd7 fl (szT P K) r e
structure Ze7(P:Program)(WB W':Nat->Prop)(ρ:Rho)(H:List b9)(F:Fz)(w:World):Prop where
 has:∀(id:Nat) b,H[id]?=some b->J8 b=true->b.dead=false->WB (ρ id).blk/\¬ W' (ρ id).blk/\(∀o,¬ F (ρ id).blk o)/\(ρ id).blk<w.heap.size/\(Jf8 ρ H F w b (ρ id).blk\/Jf9 P w b (ρ id).blk)
 apart:∀(id id':Nat) b b',H[id]?=some b->H[id']?=some b'->J8 b=true->J8 b'=true->b.dead=false->b'.dead=false->id≠id'->(ρ id).blk≠(ρ id').blk
theorem Adv.mono(h:Adv W ρ H F w ρ' H1 F' w')(hW:∀k,W k->WB k):Adv WB ρ H F w ρ' H1 F' w' :=
 ⟨⟨h.ext.os,h.ext.tape,h.ext.output,h.ext.size,λk hk hn=>h.ext.block k hk λhw=>hn (hW k hw),h.ext.cells,h.ext.drawn⟩,h.heap,h.more,λb o hf=>(h.new b o hf).imp id (hW b),λid b' hb' hn=>hW _ (h.fresh id b' hb' hn)⟩
section
variable(hA:Adv W' ρ (r8 H) F w ρ' H1 F' w')(ho:Jc8 H H1=true)
include hA ho
theorem Ze8:H.length<=H1.length:=by
 rcases Nat.eq_zero_or_pos H.length with h|h
 ·omega
 ·have hlt:H.length-1<(r8 H).length:=by rw[Qe8];omega
  obtain⟨b',hb',_⟩:=hA.heap (H.length-1) _ (Qdc hlt)
  have:=(Qde.1 hb').1
  omega
theorem wc8 : (E2 H H1).length = H1.length ∧
  (∀(id:Nat) b,H[id]?=some b->J8 b=true->(E2 H H1)[id]?=some b) /\
  (∀(id:Nat),¬ Nc0 H id->(E2 H H1)[id]?=H1[id]?/\∀c,H1[id]?=some c->J8 c=false):=rd6 H H1 (Ze8 hA ho) ho
theorem Qe9{id:Nat}{b:b9}(hb:(r8 (E2 H H1))[id]?=some b)(hd:b.dead=false):H1[id]?=some b/\¬ Nc0 H id:=by
 obtain⟨h1,h2,h3⟩:=wc8 hA ho;obtain⟨k1,k2⟩:=xa5 hb hd;by_cases hs:Nc0 H id
 ·obtain⟨c,hc,hcs⟩:=hs;rw[h2 id c hc hcs] at k1;cases k1;rw[hcs] at k2;cases k2
 ·rw[(h3 id hs).1] at k1;exact⟨k1,hs⟩
theorem Re0{id:Nat}{b:b9}(hb:H1[id]?=some b)(hd:b.dead=false):(r8 (E2 H H1))[id]?=some b/\ρsp H ρ ρ' id=ρ' id:=by
 obtain⟨h1,h2,h3⟩:=wc8 hA ho;by_cases hs:Nc0 H id
 ·obtain⟨c,hc,hcs⟩:=hs;obtain⟨b',hb',hd',_⟩:=hA.heap id _ (rd5 hc hcs)
  have:b'=b:=Qdk (hb'.symm.trans hb)
  subst this;rw[hd] at hd';cases hd'
 ·obtain⟨k1,k2⟩:=h3 id hs;exact⟨ua5 (k1.trans hb) (k2 b hb),ρsp_off hs⟩
theorem rd8:Nd2 ρ' H1 (ρsp H ρ ρ') (r8 (E2 H H1)):=λid b hb hd=>by
 obtain⟨h1,h2⟩:=Re0 hA ho hb hd;exact⟨b,h1,hd,Qdg _,λ_=>⟨h2,rfl,Qdg _⟩⟩
theorem ze9{x:b8}{x':Value}(h:J1 ρ' H1 F' w' x x'):J1 (ρsp H ρ ρ') (r8 (E2 H H1)) F' w' x x':=h.carry (rd8 hA ho) (λ_ _ h=>h) (λ_ _ _=>rfl)
theorem Re1(hH:E3 W' ρ' H1 F' w'):E3 W' (ρsp H ρ ρ') (r8 (E2 H H1)) F' w' :=
 hH.pull (λi=>i) (λi b hb hd=>by
  obtain⟨h1,h2⟩:=Qe9 hA ho hb hd;exact⟨h1,ρsp_off h2⟩) (λ_ _ _ _ _ _ _ _ e=>e)
theorem He7{x:b8}{x':Value}(h:XC ρ H F w x x'):XC (ρsp H ρ ρ') (E2 H H1) F' w' x x':=by
 obtain⟨h1,h2,h3⟩:=wc8 hA ho;cases h with
 |n h=>exact .n ((h.adv hA).carry (rd8 hA ho) (λ_ _ h=>h) (λ_ _ _=>rfl))
 |box id c g b hb hd he =>
  have e:ρsp H ρ ρ' id=ρ id:=ρsp_on ⟨b,hb,Fb2 he⟩;rw[<- e];exact .box id c g b (h2 id b hb (Fb2 he)) hd he
 |map id c g b t hb hd he =>
  have e:ρsp H ρ ρ' id=ρ id:=ρsp_on ⟨b,hb,Fb3 he⟩;rw[<- e];exact .map id c g b t (h2 id b hb (Fb3 he)) hd he
theorem tf0{x:b8}{x':Value}(h:XW ρ H F w x x'):XW (ρsp H ρ ρ') (E2 H H1) F' w' x x':=by
 cases h with
 |w h=>exact .w (ze9 hA ho (h.adv hA))
 |c h=>exact .c (He7 hA ho h)
theorem Re2(hS:Ze7 P WB W' ρ H F w):Ze7 P WB W' (ρsp H ρ ρ') (E2 H H1) F' w':=by
 obtain⟨h1,h2,h3⟩:=wc8 hA ho;have hold:∀(id:Nat) b,(E2 H H1)[id]?=some b->J8 b=true->H[id]?=some b/\Nc0 H id:=λid b hb hs=>by
  by_cases hsp:Nc0 H id
  ·obtain⟨c,hc,hcs⟩:=hsp;rw[h2 id c hc hcs] at hb;obtain rfl:c=b:=Qdk hb;exact⟨hc,c,hc,hcs⟩
  ·obtain⟨k1,k2⟩:=h3 id hsp;rw[k1] at hb;rw[k2 b hb] at hs;cases hs
 refine⟨λid b hb hs hd=>?_,λid id' b b' hb hb' hs hs' hd hd' hne=>?_⟩
 ·obtain⟨hb0,hsp⟩:=hold id b hb hs;obtain⟨k1,k2,k3,k4,k5⟩:=hS.has id b hb0 hs hd;have hblk:w'.heap[(ρ id).blk]?=w.heap[(ρ id).blk]?:=hA.ext.block _ k4 k2;rw[ρsp_on hsp];refine⟨k1,k2,λo hf=>?_,Qdp k4 hA.ext.size,?_⟩
  ·rcases hA.new _ _ hf with h|h
   ·exact k3 o h
   ·exact k2 h
  ·rcases k5 with⟨e,row,vs,t,m1,m2,m3,m4⟩|⟨t,K,El,fl,es,clk,m1,m2,m3,m4,m5,m6⟩
   ·exact .inl ⟨e,row,vs,t,m1,hblk.trans m2,m3,λc x x' hx hx'=>⟨(m4 c x x' hx hx').1,He7 hA ho (m4 c x x' hx hx').2⟩⟩
   ·exact .inr ⟨t,K,El,fl,es,clk,m1,m2,m3,hblk.trans m4,m5,m6⟩
 ·obtain⟨hb0,hsp⟩:=hold id b hb hs;obtain⟨hb0',hsp'⟩:=hold id' b' hb' hs';rw[ρsp_on hsp,ρsp_on hsp'];exact hS.apart id id' b b' hb0 hb0' hs hs' hd hd' hne
theorem Ze9{id:Nat}{b:b9}(hb:(E2 H H1)[id]?=some b)(hs:J8 b=true):H[id]?=some b/\Nc0 H id:=by
 obtain⟨h1,h2,h3⟩:=wc8 hA ho;by_cases hsp:Nc0 H id
 ·obtain⟨c,hc,hcs⟩:=hsp;rw[h2 id c hc hcs] at hb;obtain rfl:c=b:=Qdk hb;exact⟨hc,c,hc,hcs⟩
 ·obtain⟨k1,k2⟩:=h3 id hsp;rw[k1] at hb;rw[k2 b hb] at hs;cases hs
theorem af0{K:Nat->Prop}(h:∀(id:Nat) b,H[id]?=some b->J8 b=true->b.dead=false->¬ K (ρ id).blk):∀(id:Nat) b,(E2 H H1)[id]?=some b->J8 b=true->b.dead=false->¬ K (ρsp H ρ ρ' id).blk:=λid b hb hs hd=>by
 obtain⟨k1,k2⟩:=Ze9 hA ho hb hs;rw[ρsp_on k2];exact h id b k1 hs hd
theorem af1(hW:∀k,W' k->WB k):Adv WB ρ H F w (ρsp H ρ ρ') (E2 H H1) F' w':=by
 obtain⟨h1,h2,h3⟩:=wc8 hA ho;have hm:=hA.mono hW;refine⟨hm.ext,λid b hb=>?_,hm.more,hm.new,λid b' hb' hn=>?_⟩
 ·cases hs:J8 b with
  |true=>exact⟨b,h2 id b hb hs,rfl,Qdg _,λ_=>⟨ρsp_on ⟨b,hb,hs⟩,rfl,Qdg _⟩⟩
  |false =>
   have hnsp:¬ Nc0 H id:=λ⟨c,hc,hcs⟩=>by
    rw[hb] at hc;cases hc;rw[hs] at hcs;cases hcs
   obtain⟨b',k1,k2,k3,k4⟩:=hm.heap id b (ua5 hb hs);exact⟨b',(h3 id hnsp).1.trans k1,k2,k3,λhg=>by rw[ρsp_off hnsp];exact k4 hg⟩
 ·by_cases hsp:Nc0 H id
  ·obtain⟨c,hc,hcs⟩:=hsp;rw[h2 id c hc hcs] at hb';obtain rfl:c=b':=Qdk hb';exact absurd rfl (hn c hc)
  ·rw[ρsp_off hsp];rw[(h3 id hsp).1] at hb';refine hm.fresh id b' hb' λb hb=>?_
   cases h:H[id]? with
   |none =>
    rw[Fb1,Qdf,h] at hb;cases hb
   |some c =>
    cases hs:J8 c with
    |true=>exact absurd ⟨c,h,hs⟩ hsp
    |false =>
     rw[ua5 h hs] at hb;cases hb;exact hn b h
end
end
def Ac9(WB W':Nat->Prop)(ds:List Deferred)(w:World):Prop:=(∀d∈ds,∃D,d={ target:=.collected D,args:=#[] }/\w.heap[D]?=some (.deferred (some []))/\¬ W' D/\D<w.heap.size/\WB D)/\ds.Nodup
def VR(ρ:Rho)(H:List b9)(F:Fz)(w:World)(a:List b8)(vs:List Value):Prop:=a.length=vs.length/\∀(i:Nat) x x',a[i]?=some x->vs[i]?=some x'->XW ρ H F w x x'
structure C2(P:Program)(WB:Nat->Prop)(K:Nat->Prop)(J:List Value->World->Prop)(ρ0:Rho)(H0:List b9)(F0:Fz)(w0:World)(H:List b9)(ds:List Deferred)(w:World)(ρ:Rho)(F:Fz)(W':Nat->Prop)(up:List Value):Prop where
 sub:∀k,W' k->WB k
 adv:Adv WB ρ0 H0 F0 w0 ρ H F w
 hrel:E3 W' ρ (r8 H) F w
 srel:Ze7 P WB W' ρ H F w
 kept:∀k,K k->¬ W' k/\k<w.heap.size
 far:∀(id:Nat) b,H[id]?=some b->J8 b=true->b.dead=false->¬ K (ρ id).blk
 jot:J up w
 marks:Ac9 WB W' ds w
structure I2(P:Program)(WB:Nat->Prop)(K:Nat->Prop)(J:List Value->World->Prop)(n:Nat)(ρ0:Rho)(H0:List b9)(F0:Fz)(w0:World)(s:St)(ac:Act)(w:World)(ρ:Rho)(F:Fz)(W':Nat->Prop)(up:List Value):Prop where
 core:C2 P WB K J ρ0 H0 F0 w0 s.H ac.defers w ρ F W' up
 vals:VR ρ s.H F w s.a (ac.tmps.toList++up)
 size:ac.tmps.size=n
def Re3(P:Program)(WB:Nat->Prop)(K:Nat->Prop)(J:List Value->World->Prop)(n:Nat)(ρ0:Rho)(H0:List b9)(F0:Fz)(w0:World)(s:St)(ac:Act)(w:World):Prop :=
 ∃ρ F W' up,I2 P WB K J n ρ0 H0 F0 w0 s ac w ρ F W' up
def Tr(ρ:Rho)(H:List b9)(F:Fz)(w:World)(ρ':Rho)(H':List b9)(F':Fz)(w':World):Prop:=∀x x',XW ρ H F w x x'->XW ρ' H' F' w' x x'
def Fc8(K:Nat->Prop)(J:List Value->World->Prop):Prop:=∀up w w',(∀k,K k->w'.heap[k]?=w.heap[k]?)->J up w->J up w'
section
variable{P:Program}{WB K:Nat->Prop}{J:List Value->World->Prop}{ρ ρ0 ρ':Rho}{H H0 H1:List b9}{F F0 F':Fz}{w w0 w':World}{W':Nat->Prop}{up:List Value}{s:St}{ac ac':Act}{E:Env}
theorem Ac9.step{ds:List Deferred}(h:Ac9 WB W' ds w)(he:Ext W' F w w'):Ac9 WB W' ds w':=⟨λd hd=>by
 obtain⟨D,h1,h2,h3,h4,h5⟩:=h.1 d hd;exact⟨D,h1,(he.block D h4 h3).trans h2,h3,Qdp h4 he.size,h5⟩,h.2⟩
theorem C2.step {ds : List Deferred} (h : C2 P WB K J ρ0 H0 F0 w0 H ds w ρ F W' up) (hJ : Fc8 K J) (hA : Adv W' ρ (r8 H) F w ρ' H1 F' w') (ho : Jc8 H H1 = true) (hH1 : E3 W' ρ' H1 F' w') :
  C2 P WB K J ρ0 H0 F0 w0 (E2 H H1) ds w' (ρsp H ρ ρ') F' W' up/\Tr ρ H F w (ρsp H ρ ρ') (E2 H H1) F' w' :=
 ⟨⟨h.sub,h.adv.trans (af1 hA ho h.sub),Re1 hA ho hH1,Re2 hA ho h.srel,λk hk=>⟨(h.kept k hk).1,Qdp (h.kept k hk).2 hA.ext.size⟩,
  af0 hA ho h.far,hJ up w w' (λk hk=>hA.ext.block k (h.kept k hk).2 (h.kept k hk).1) h.jot,h.marks.step hA.ext⟩,λ_ _ hx=>tf0 hA ho hx⟩
structure bc8(DS:Nat->Prop)(tm:Array Value)(ds:List Deferred)(W:Nat->Prop)(ρ0:Rho)(H0:List b9)(F0:Fz)(w0:World)(s:St)(ac:Act)(w:World):Prop where
 defers:ac.defers=ds
 size:ac.tmps.size=tm.size
 same:∀t,¬ DS t->ac.tmps[t]?=tm[t]?
 rel:∃ρ F,Adv W ρ0 H0 F0 w0 ρ s.H F w/\E3 W ρ s.H F w/\Da1 ρ s.H F w s.a ac.tmps
theorem za6{ac:Act}(dst:Option Nat)(v:Value):(ac.put dst v).tmps.size=ac.tmps.size:=by cases dst<;>simp[Act.put]
theorem Nc1{ac:Act}{dst:Option Nat}{v:Value}{t:Nat}(h:dst≠some t):(ac.put dst v).tmps[t]?=ac.tmps[t]?:=by
 cases dst with
 |none=>rfl
 |some d=>exact Qdn λe=>h (by rw[e])
section
variable{W:Nat->Prop}{DS:Nat->Prop}{tm:Array Value}{ds:List Deferred}{Fe:Fence}{n:Nat}
variable(hF:FW Fe)(hG0:GOk E F0 w0)(hcalls:∀f,i7 E.P E.G f (E.call f))
include hF hG0 hcalls
theorem piM {ops : Array Oper} {o : Oper} {g : Option (Nat × Bool)} {s s' : St} {ac : Act} {i : Nat} {rest : List Nat} {Q : Exit → Act → World → Prop} (hi : ops[i]? = some o) (hg : ga8 ops o = some g) (hDS : ∀ d, o.dst = some d → DS d)
  (hI:bc8 DS tm ds W ρ0 H0 F0 w0 s ac w) (he:(db8 E s ⟨o.dst,g,[],Wb1 E.P ops o⟩).run=some s') (hK:∀ac' w',bc8 DS tm ds W ρ0 H0 F0 w0 s' ac' w'->wpOpsIn Fe n E.P ops Q rest ac' w'):wpOpsIn Fe n E.P ops Q (i::rest) ac w:=by
 obtain⟨hd,hsz,hsm,ρ,F,hAdv,hH,hA⟩:=hI;simp only[wpOpsIn,hi];have hsame:∀v t,¬ DS t->(ac.put o.dst v).tmps[t]?=tm[t]?:=λv t ht=>(Nc1 λe=>ht (hDS t e)).trans (hsm t ht)
 rcases bd8 hg hA he with⟨hw,he⟩|⟨hw,he⟩
 ·rw[if_pos hw];unfold fd6 at he;obtain⟨⟨x,H'⟩,h1,h2⟩:=DT.run_bind_some he;have h1':(evalOp E s.a s.H (Wb1 E.P ops o)).run=some (x,H'):=h1;have hop:=Uc9 (ac:={ ac with defers:=[] }) hA hH (hG0.adv hAdv) hcalls h1'
  refine hop.inAny hF n _ _ λx' w' hp=>?_
  obtain⟨ρ',F',a1,a2,a3⟩:=hp;have h2':some (⟨putA s.a o.dst x,H'⟩:St)=some s':=h2;injection h2' with h2';subst h2';exact hK _ _ ⟨(H6 _ _).trans hd,(za6 _ _).trans hsz,hsame x',ρ',F',hAdv.trans a1,a2,(hA.adv a1).putA o.dst a3⟩
 ·rw[if_neg (by simp[hw])]
  subst he;exact⟨λf _=>hF.fn f,hK _ _ ⟨(H6 _ _).trans hd,(za6 _ _).trans hsz,hsame _,ρ,F,hAdv,hH,hA.putA o.dst (.ofv _)⟩⟩
theorem Rf2 {ops : Array Oper} {Q : Exit → Act → World → Prop} {rest : List Nat} : ∀ (r : List Oper) (k : Nat) (l : List PI) (s s' : St) (ac : Act) (w : World), (∃ t, ops.toList.drop k = r ++ t) → (∀ o ∈ r, ∀ d, o.dst = some d → DS d) → zc0 E.P ops r = some l → bc8 DS tm ds W ρ0 H0 F0 w0 s ac w → (V9 E l s).run = some s' →
  (∀ac' w',bc8 DS tm ds W ρ0 H0 F0 w0 s' ac' w'->wpOpsIn Fe n E.P ops Q rest ac' w')->wpOpsIn Fe n E.P ops Q (List.range' k r.length++rest) ac w
 |[],k,l,s,s',ac,w,hr,hDS,hl,hI,he,hQ=>by
  simp only[zc0] at hl;injection hl with hl;subst hl;have he':some s=some s':=he;injection he' with he';subst he';exact hQ ac w hI
 |o::r,k,l,s,s',ac,w,hr,hDS,hl,hI,he,hQ=>by
  obtain⟨t,hr⟩:=hr;obtain⟨g,l',h1,h2,rfl⟩:=Md8 hl;have he':((db8 E s ⟨o.dst,g,[],Wb1 E.P ops o⟩).bind (V9 E l')).run=some s':=he;obtain⟨s1,h3,h4⟩:=DT.run_bind_some he';have hi:ops[k]?=some o:=by
   have:(ops.toList.drop k)[0]?=some o:=by rw[hr];rfl
   simpa using this
  rw[show (o::r).length=r.length+1 from rfl,List.range'_succ,List.cons_append]
  refine piM hF hG0 hcalls hi h1 (λd hd=>hDS o (.head _) d hd) hI h3 λac' w' hI'=>?_
  refine Rf2 r (k+1) l' s1 s' ac' w' ⟨t,?_⟩ (λo ho=>hDS o (.tail _ ho)) h2 hI' h4 hQ
  rw[<- List.drop_drop,hr];rfl
end
theorem oc2 (ds : List Nat) : ∀ (a l : List b8) (k i : Nat), (za0 ds a l k)[i]? = match a[i]? with
  |some x=>some (Bool.rec (motive:=λ_=>b8) x ((l[i]?).getD .unk) (rb9 (k+i) ds))
  |none=>none
 |[],l,k,i=>by simp[za0]
 |x::a,l,k,i=>by
  have e:za0 ds (x::a) l k=Bool.rec (motive:=λ_=>b8) x (hdA l) (rb9 k ds)::za0 ds a (tlA l) (k+1):=rfl
  rw[e];cases i with
  |zero=>cases l<;>rfl
  |succ i =>
   simp only[List.getElem?_cons_succ];rw[oc2 ds a (tlA l) (k+1) i,show k+1+i=k+(i+1) by omega]
   cases l with
   |nil=>simp[tlA]
   |cons y l=>simp[tlA]
theorem oc3(ds:List Nat):∀(a l:List b8) (k:Nat),(za0 ds a l k).length=a.length
 |[],_,_=>rfl
 |x::a,l,k=>congrArg Nat.succ (oc3 ds a (tlA l) (k+1))
theorem rd9(k:Nat)(l:List Nat):rb9 k l=true↔k∈l:=by
 induction l with
 |nil=>simp[rb9]
 |cons x l ih =>
  have e:rb9 k (x::l)=Bool.rec (rb9 k l) true (Nat.beq x k):=rfl;rw[e,Qdv];cases h:Nat.beq x k with
  |true=>have:=Qda h;simp[this]
  |false =>
   have:=Nat.ne_of_beq_eq_false h
   show rb9 k l=true↔_;rw[ih];exact⟨.inr,λh=>h.resolve_left λe=>this e.symm⟩
theorem Nd6{x:b8}{x':Value}(h:XW ρ H F w x x'):J1 ρ (r8 H) F w (qa1 H x) x':=by
 cases h with
 |w h =>
  unfold qa1;split
  ·rename_i id i c g;split
   ·rename_i b hb;cases J8 b with
    |true=>exact .unk _
    |false=>exact h
   ·exact .unk _
  ·exact h
 |c h =>
  cases h with
  |n h =>
   unfold qa1;split
   ·split
    ·rename_i b hb;cases J8 b with
     |true=>exact .unk _
     |false=>exact .val (.cell h)
    ·exact .unk _
   ·exact .val (.cell h)
  |box id c g b hb hd he =>
   unfold qa1;simp only[D9,hb,Fb2 he];exact .unk _
  |map id c g b t hb hd he =>
   unfold qa1;simp only[D9,hb,Fb3 he];exact .unk _
theorem I2.arel{n:Nat}(h:I2 P WB K J n ρ0 H0 F0 w0 s ac w ρ F W' up):Da1 ρ (r8 s.H) F w (n9 (qa1 s.H) (M2 s.a n)) ac.tmps:=by
 have hl:=h.vals.1;have hn:=h.size;rw[Qdy,Array.length_toList] at hl;rw[o8,M3];refine⟨by simp;omega,λi x x' hx hx'=>?_⟩
 rw[Qdf] at hx;have hi:i<n:=hn ▸ (Array.getElem?_eq_some_iff.1 hx').1;rw[List.getElem?_take,if_pos hi] at hx;cases hy:s.a[i]? with
 |none=>rw[hy] at hx;cases hx
 |some y =>
  rw[hy] at hx;injection hx with hx;subst hx;refine Nd6 (h.vals.2 i y x' hy ?_);rw[Qdi (by rw[Array.length_toList];omega)]
  simpa using hx'
theorem Nd7 {n : Nat} (hJ : Fc8 K J) {dd : List Nat} {s s2 : St} {ac' : Act} (hI : I2 P WB K J n ρ0 H0 F0 w0 s ac w ρ F W' up) (ho : Jc8 s.H s2.H = true)
  (hM:bc8 (·∈dd) ac.tmps ac.defers W' ρ (r8 s.H) F w s2 ac' w'):Re3 P WB K J n ρ0 H0 F0 w0 ⟨za0 dd s.a s2.a 0,E2 s.H s2.H⟩ ac' w'/\ac'.defers=ac.defers/\(∀t,¬ t∈dd->ac'.tmps[t]?=ac.tmps[t]?):=by
 obtain⟨hd,hsz,hsm,ρ',F',hA,hH,hAr⟩:=hM;obtain⟨c1,c2⟩:=hI.core.step hJ hA ho hH;refine⟨⟨_,F',W',up,hd ▸ c1,⟨by rw[oc3];have:=hI.vals.1;rw[Qdy,Array.length_toList] at this ⊢;omega,λi y y' hy hy'=>?_⟩,hsz.trans hI.size⟩,hd,hsm⟩
 have hn:=hI.size
 simp only at hy
 rw[oc2] at hy;cases hz:s.a[i]? with
 |none=>rw[hz] at hy;cases hy
 |some z =>
  rw[hz] at hy;injection hy with hy;rw[Qdl] at hy
  rcases Qds i n with hi|hi
  ·rw[Qdi (by rw[Array.length_toList];omega)] at hy'
   have hy':ac'.tmps[i]?=some y':=by simpa using hy'
   cases hm:rb9 i dd with
   |true =>
    rw[hm] at hy;have hy:(s2.a[i]?).getD .unk=y:=hy;cases hq:s2.a[i]? with
    |none=>rw[hq] at hy;subst hy;exact .w (.unk _)
    |some q =>
     rw[hq] at hy;have hy:q=y:=hy;subst hy;exact .w (ze9 hA ho (hAr.2 i q y' hq hy'))
   |false =>
    rw[hm] at hy;have hy:z=y:=hy;subst hy;have hnm:¬ i∈dd:=λh=>by rw[(rd9 i dd).2 h] at hm;cases hm
    rw[hsm i hnm] at hy';refine c2 _ _ (hI.vals.2 i z y' hz ?_);rw[Qdi (by rw[Array.length_toList];omega)]
    simpa using hy'
  ·have hlen : s2.a.length = n := by
    have:=hAr.1
    omega
   have hnone:s2.a[i]?=none:=Qdh (by omega)
   rw[Qdq (by rw[Array.length_toList];omega)] at hy'
   have hy0:(ac.tmps.toList++up)[i]?=some y':=by
    rw[Qdq (by rw[Array.length_toList];omega)]
    rw[Array.length_toList] at hy' ⊢;rw[hsz] at hy';exact hy'
   rw[hnone] at hy;cases hm:rb9 i dd with
   |true=>rw[hm] at hy;have hy:b8.unk=y:=hy;subst hy;exact .w (.unk _)
   |false=>rw[hm] at hy;have hy:z=y:=hy;subst hy;exact c2 _ _ (hI.vals.2 i z y' hz hy0)
theorem tf1 {Fe : Fence} {n m k kk : Nat} (hF : FW Fe) (hG0 : GOk E F0 w0) (hcalls : ∀ f, i7 E.P E.G f (E.call f)) (hJ : Fc8 K J) {ops : Array Oper} {Q : Exit → Act → World → Prop} {rest : List Nat} {r : List Oper} {l : List PI} {dd : List Nat} {x : g8} {s s' : St}
  (hr:∃t,ops.toList.drop k=r++t) (hDS:∀o∈r,∀d,o.dst=some d->d∈dd) (hl:zc0 E.P ops r=some l) (hI:Re3 E.P WB K J n ρ0 H0 F0 w0 s ac w) (he:(V0 E kk (.mask n dd (.ops l)) s).run=some (x,s'))
  (hQ:∀ac' w',Re3 E.P WB K J n ρ0 H0 F0 w0 s' ac' w'->ac'.defers=ac.defers->(∀t,¬ t∈dd->ac'.tmps[t]?=ac.tmps[t]?)->wpOpsIn Fe m E.P ops Q rest ac' w'):x=.normal/\wpOpsIn Fe m E.P ops Q (List.range' k r.length++rest) ac w:=by
 obtain⟨ρ,F,W',up,hI⟩:=hI;have he':((V0 E kk (.ops l) ⟨n9 (qa1 s.H) (M2 s.a n),r8 s.H⟩).bind λr=>.guard (Jc8 s.H r.2.H) (.ret (r.1,⟨za0 dd s.a r.2.a 0,E2 s.H r.2.H⟩))).run=some (x,s'):=he
 obtain⟨⟨x1,s1⟩,h1,h2⟩:=DT.run_bind_some he';obtain⟨ho,h2⟩:=DT.run_guard_some h2;have h2:some (x1,(⟨za0 dd s.a s1.a 0,E2 s.H s1.H⟩:St))=some (x,s'):=h2;injection h2 with h2;injection h2 with e1 e2;subst e1 e2
 have h1':((V9 E l ⟨n9 (qa1 s.H) (M2 s.a n),r8 s.H⟩).bind λs=>.ret (g8.normal,s)).run=some (x1,s1):=h1
 obtain⟨s2,h3,h4⟩:=DT.run_bind_some h1';have h4:some (g8.normal,s2)=some (x1,s1):=h4;injection h4 with h4;injection h4 with e1 e2;subst e1 e2
 refine⟨rfl,?_⟩;have hG:GOk E F w:=hG0.adv hI.core.adv;refine Rf2 (DS:=(·∈dd)) (tm:=ac.tmps) (ds:=ac.defers) (W:=W') (ρ0:=ρ) (H0:=r8 s.H) (F0:=F) (w0:=w) hF hG hcalls r k l _ s2 ac w hr hDS hl ⟨rfl,rfl,λ_ _=>rfl,ρ,F,.refl,hI.core.hrel,hI.arel⟩ h3 λac' w' hM=>?_
 obtain⟨k1,k2,k3⟩:=Nd7 hJ hI ho hM;exact hQ ac' w' k1 k2 k3
end
end Go.Ev
