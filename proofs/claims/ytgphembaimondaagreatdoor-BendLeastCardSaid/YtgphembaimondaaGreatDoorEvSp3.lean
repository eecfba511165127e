/- Own work. -/
import Derived.Test.YtgphembaimondaaGreatDoorEvDraw1
import Derived.Shelf.SlSortCmp.WholeK
import Derived.CallsIn
import Derived.RangeFuncIn
import Derived.RangeFuncRecord
import Derived.RangeFuncLeaves
import Derived.ControlIn
import Derived.LoopNIn
import Derived.TacticsIn
set_option linter.all false
noncomputable section
def Qda:=@List.getD_eq_getElem?_getD
def Qdb:=@Bool.not_eq_true'
def Qdc:=@Array.getElem?_append_left
def Qdd:=@Array.all_eq_true_iff_forall_mem
def Qde:=@List.mem_filterMap
def Qdf:=@List.length_append
def Qdg:=@Bool.or_eq_true
def Qdh:=@Array.getElem?_modify
def Qdi:=@Go.Ev.Agr.arg
namespace Go.Ev
open Go
def zb8(E:Env)(a:List a7)(g:Option (Nat×Bool)):Option Bool :=
 match g with
 |none=>some true
 |some (d,want)=>match b9 E a (.t d) with
  |.v (.bool b)=>some (match want with | true=>b | false=>!b)
  |.v (.tuple _)=>some false
  |_=>none
section
variable{E:Env}{a a':List a7}{s s':St}{p:PI}
theorem fb4{g:Option (Nat×Bool)}(h:Agr a a' (eb6 g)):zb8 E a g=zb8 E a' g:=by
 cases g with
 |none=>rfl
 |some g =>
  obtain⟨d,want⟩:=g;simp only[zb8];rw[Agr.t (E:=E) (h d (by simp[eb6]))]
theorem jb8(he:(ja7 E s p).run=some s'):∃b,zb8 E s.a p.guard=some b/\(b=true->(zb3 E s p).run=some s')/\(b=false->s'=⟨putA s.a p.dst (.v (.tuple #[])),s.H⟩):=by
 obtain⟨dst,g,hide,op⟩:=p;cases g with
 |none=>exact⟨true,rfl,λ_=>he,λh=>by cases h⟩
 |some g =>
  obtain⟨d,want⟩:=g;rw[wb9] at he;simp only[zb8]
  revert he
  generalize b9 E s.a (.t d)=u;intro he
  split at he
  ·rename_i b
   rcases DT.run_ite_some he with⟨h1,h2⟩|⟨h1,h2⟩
   ·grind
   ·exact⟨false,congrArg some h1,λh=>by (cases h),λ_=>by simpa using h2.symm⟩
  ·simp_all
  ·cases he
theorem kc5{ρ:Rho}{H:List a8}{F:Fz}{w:World}{ops:Array Oper}{o:Oper}{g:Option (Nat×Bool)}{tmps:Array Value}{b:Bool}(hg:J2 ops o=some g)(hA:R4 ρ H F w a tmps)(ho:zb8 E a g=some b) :
  Region.wanted o (yielded ops tmps)=b:=by
 unfold J2 at hg;unfold Region.wanted;cases hgo:o.guard with
 |none =>
  simp only[hgo] at hg ⊢;injection hg with hg;subst hg;injection ho
 |some jw =>
  obtain⟨j,want⟩:=jw;simp only[hgo] at hg ⊢;cases hj:ops[j]? with
  |none=>simp[hj] at hg
  |some oj =>
  simp only[hj] at hg;cases hd:oj.dst with
  |none=>simp[hd] at hg
  |some d =>
  simp only[hd] at hg;injection hg with hg;subst hg;have hrel:∀v,b9 E a (.t d)=.v v->tmps[d]?=some v:=λv hv=>by
   rw[ua7] at hv
   rcases Qan d a.length with hlt|hge
   ·rw[Qaa hlt] at hv;have hlt':d<tmps.size:=hA.1 ▸ hlt;have h1:=hA.2 d _ _ (Qaa hlt) (Qai hlt');simp only[Option.getD_some] at hv;rw[hv] at h1;rw[Qai hlt',D8 h1]
   ·rw[Qal hge] at hv;cases hv
  simp only[zb8] at ho
  revert ho hrel
  generalize b9 E a (.t d)=u;intro ho hrel
  split at ho
  ·rename_i b';rw[La8 hj hd (hrel _ rfl)];injection ho with ho;subst ho
   grind
  ·rename_i vs;rw[Fa2 hj hd (hrel _ rfl)];injection ho with ho
  ·cases ho
theorem kc6(he:(zb3 E s p).run=some s'):∃x H',(evalOp E s.a (eb1 s.H (ra2 s.a p.hide)) p.op).run=some (x,H')/\s'=⟨putA s.a p.dst x,ra3 s.H H' (ra2 s.a p.hide)⟩:=by
 unfold zb3 at he;obtain⟨⟨x,H1⟩,h1,h2⟩:=DT.run_bind_some he;have h2':some (⟨putA s.a p.dst x,H1⟩:St)=some s':=h2;injection h2' with h2';subst h2';cases hh:p.hide with
 |nil =>
  rw[hh] at h1;exact⟨x,H1,h1,rfl⟩
 |cons d l =>
  rw[hh] at h1;have h1':((evalOp E s.a (eb1 s.H (ra2 s.a (d::l))) p.op).bind λr=>.ret (r.1,ra3 s.H r.2 (ra2 s.a (d::l)))).run=some (x,H1):=h1
  obtain⟨⟨y,H'⟩,h3,h4⟩:=DT.run_bind_some h1';have h4':some (y,ra3 s.H H' (ra2 s.a (d::l)))=some (x,H1):=h4
  grind
end
def Y8(ops:Array Oper)(j:Nat):Oper:=ops.getD j default
theorem P4{ops:Array Oper}{j:Nat}(h:j<ops.size):ops[j]?=some (Y8 ops j):=by simp[Y8,Array.getD,h]
def fb5(ops:Array Oper)(j:Nat):Option (Nat×Bool):=(J2 ops (Y8 ops j)).getD none
def s7(tr:Nat)(P:Program)(ops:Array Oper)(j:Nat):Nat:=bb1 tr P ops (Y8 ops j)
def D5(tr:Nat)(P:Program)(ops:Array Oper)(j:Nat):PO:=ra7 tr (Ia0 P ops (Y8 ops j))
def K5(ops:Array Oper)(j:Nat):Option Nat:=(Y8 ops j).dst
def ab3(tr:Nat)(P:Program)(ops:Array Oper)(M:List Nat)(j:Nat):PI:=⟨K5 ops j,fb5 ops j,if Nat.beq (s7 tr P ops j) 2 then qb6 ops M j else [],D5 tr P ops j⟩
theorem Bc0{tr:Nat}{P:Program}{ops:Array Oper}{M:List Nat}:∀{r:List Oper} {k:Nat} {ks:List (Nat×PI)},gc9 tr P ops M k r=some ks->∀(i:Nat) o,r[i]?=some o ->
  ∃g,J2 ops o=some g/\ks[i]?=some (bb1 tr P ops o,⟨o.dst,g,if Nat.beq (bb1 tr P ops o) 2 then qb6 ops M (k+i) else [],ra7 tr (Ia0 P ops o)⟩)
 |[],k,ks,h,i,o,ho=>by simp at ho
 |o'::r,k,ks,h,i,o,ho=>by
  simp only[gc9] at h;cases h1:cPI tr P ops M k o' with
  |none=>simp[h1] at h
  |some x =>
  cases h2:gc9 tr P ops M (k+1) r with
  |none=>simp[h1,h2] at h
  |some l =>
  simp only[h1,h2] at h;injection h with h;subst h;cases i with
  |zero =>
   simp at ho
   subst ho;unfold cPI at h1
   grind
  |succ i =>
   obtain⟨g,h3,h4⟩:=Bc0 h2 i o (by simpa using ho)
   grind
structure DC(tr:Nat)(P:Program)(ops:Array Oper)(M:List Nat)(ks:List (Nat×PI)):Prop where
 rows:Zb3 ops M=true
 guard:∀j,j<ops.size->J2 ops (Y8 ops j)=some (fb5 ops j)
 at':∀j,j<ops.size->ks[j]?=some (s7 tr P ops j,ab3 tr P ops M j)
 one:∀j,j<ops.size->Xa0 ops M ks j=true
section
variable{tr:Nat}{P:Program}{ops:Array Oper}{M:List Nat}{ks:List (Nat×PI)}
theorem rb4{dsts:List Nat}{asq l:List PI}{ps:List (PO×PO)}(h:ka2 tr P ops=.draw dsts asq l ps) :
  ∃M ks,DC tr P ops M ks/\dsts=ops.toList.filterMap (·.dst)/\asq=(List.range ops.size).filterMap (Ca5 ks)/\l=(List.range ops.size).filterMap (bb2 ks)/\ps=X4 ops.size M ks:=by
 unfold ka2 at h
 simp only at h
 cases hk:gc9 tr P ops (Region.before ops).toList 0 ops.toList with
 |none=>simp[hk] at h
 |some ks =>
 simp only[hk,Gb1] at h
 split at h
 case h_2=>cases h
 rename_i hc;injection h with e1 e2 e3 e4;rw[Qbd] at hc;refine⟨_,ks,⟨hc.1,λj hj=>?_,λj hj=>?_,λj hj=>Qcf.1 hc.2 j (Qcj.2 hj)⟩,e1.symm,e2.symm,e3.symm,e4.symm⟩
 all_goals
  obtain⟨g,h1,h2⟩:=Bc0 hk j (Y8 ops j) (by simpa using P4 hj)
  have hg:fb5 ops j=g:=by simp[fb5,h1]
 ·rw[hg];exact h1
 ·rw[h2];simp only[ab3,hg,Qbh,s7,D5,K5];rfl
theorem kc7{dsts:List Nat}{asq l:List PI}{ps:List (PO×PO)}(h:da3 P ops=.draw dsts asq l ps) :
  ∃tr M ks,DC tr P ops M ks/\dsts=ops.toList.filterMap (·.dst)/\asq=(List.range ops.size).filterMap (Ca5 ks)/\l=(List.range ops.size).filterMap (bb2 ks)/\ps=X4 ops.size M ks:=by
 unfold da3 at h
 split at h
 ·rename_i a b c d h1;injection h with e1 e2 e3 e4;subst e1 e2 e3 e4;exact⟨0,rb4 h1⟩
 ·split at h
  ·rename_i a b c d h1;injection h with e1 e2 e3 e4;subst e1 e2 e3 e4;exact⟨1,rb4 h1⟩
  ·exact⟨2,rb4 h⟩
theorem Ia1(j:Nat):s7 tr P ops j=0\/s7 tr P ops j=1\/s7 tr P ops j=2:=by
 unfold s7 bb1
 grind
theorem kc8{j:Nat}(h:s7 tr P ops j=1):Eb1 (D5 tr P ops j)=true:=by
 unfold s7 bb1 at h
 split at h
 ·cases h
 ·split at h
  ·assumption
  ·cases h
theorem Ib3(o:PO):Eb1 o=true\/Eb5 o=true:=by cases o<;>first | exact .inl rfl | exact .inr rfl
theorem jb9{j:Nat}(h:s7 tr P ops j=2):Eb5 (D5 tr P ops j)=true:=by
 unfold s7 bb1 at h
 split at h
 ·cases h
 ·split at h
  ·cases h
  ·rename_i h2;exact (Ib3 _).resolve_left h2
theorem Ib4{j:Nat}(h:s7 tr P ops j=0):pa0 (Y8 ops j)=true:=by
 unfold s7 bb1 at h
 grind
variable(hD:DC tr P ops M ks)
include hD
theorem DC.slots{i j d:Nat}(hi:i<ops.size)(hj:j<ops.size)(hd:K5 ops i=some d) :
  (d∈eb6 (fb5 ops j)++Ca4 (D5 tr P ops j)->m9 M i j=true\/(La3 (D5 tr P ops j)=true/\pa0 (Y8 ops i)=false/\(m9 M j i=true\/i=j)))/\(i=j\/K5 ops j≠some d):=by
 have h:=hD.one j hj;unfold Xa0 at h;rw[hD.at' j hj] at h;simp only[Qbd] at h;have h1:=Qcf.1 h.1.1.1 i (Qcj.2 hi);have hd':(Y8 ops i).dst=some d:=hd;simp only[P4 hi,hd',Qbd,Qdg,Qdb] at h1;refine⟨λhm=>?_,?_⟩
 ·rcases h1.1 with (h2|h2)|h2
  ·have:(eb6 (fb5 ops j)++Ca4 (D5 tr P ops j)).contains d=false:=h2
   simp_all
  ·exact .inl h2
  ·exact .inr ⟨h2.1.1,h2.1.2,h2.2.imp id Qae⟩
 ·rcases h1.2 with h2|h2
  ·simp_all
  ·refine .inr λe=>?_
   have h3:(K5 ops j != some d)=true:=h2;rw[e] at h3
   simp at h3
theorem DC.bare{j:Nat}(hj:j<ops.size):hc3 (D5 tr P ops j)=true:=by
 have h:=hD.one j hj;unfold Xa0 at h;rw[hD.at' j hj] at h;simp only[Qbd] at h;exact h.1.1.2
theorem DC.allocDst{j:Nat}(hj:j<ops.size)(h0:s7 tr P ops j=0):∃d,K5 ops j=some d:=by
 have h:=hD.one j hj;unfold Xa0 at h;rw[hD.at' j hj] at h;simp only[Qbd,Qdg,Qdb] at h
 rcases h.1.2 with h2|h2
 ·rw[h0] at h2;cases h2
 ·exact Qbi.1 h2
theorem DC.chain{i j:Nat}(hi:i<j)(hj:j<ops.size)(hki:s7 tr P ops i=2)(hkj:s7 tr P ops j=2):m9 M i j=true/\∀a,m9 M a i=true->m9 M a j=true:=by
 have h:=hD.one j hj;unfold Xa0 at h;rw[hD.at' j hj] at h;simp only[Qbd,Qdg,Qdb] at h
 rcases h.2 with h2|h2
 ·rw[hkj] at h2;cases h2
 ·have h3:=Qcf.1 h2 i (Qcj.2 hi);rw[hD.at' i (by omega),hki] at h3
  simp only[Qbd] at h3;refine⟨h3.1,λa ha=>?_⟩
  have h4:=Qae h3.2;unfold m9 at ha ⊢
  grind
theorem DC.pair{i j:Nat}(hi:i<ops.size)(hj:j<ops.size)(hkj:s7 tr P ops j=1)(hki:s7 tr P ops i=2)(h1:m9 M i j=false)(h2:m9 M j i=false) :
  (D5 tr P ops j,D5 tr P ops i)∈X4 ops.size M ks:=by
 unfold X4;rw[List.mem_flatMap];refine⟨j,Qcj.2 hj,?_⟩;rw[hD.at' j hj,hkj]
 simp only
 rw[Qde];refine⟨i,Qcj.2 hi,?_⟩;rw[hD.at' i hi,hki];simp[h1,h2,ab3]
end
structure Ib5(E:Env)(ops:Array Oper)(ks:List (Nat×PI))(s:St)(U T:Nat->St):Prop where
 u0:U 0=s
 u:∀j,j<ops.size->Ma0 E (Ca5 ks) U j
 t0:T 0=U ops.size
 t:∀j,j<ops.size->Ma0 E (bb2 ks) T j
def ac8(z:List a7):a8:={ et:=0,es:=z.length,elems:=[z],own:=true,dead:=false,g:=0 }
def zb9:PO->Nat->a7
 |.alloc _,n=>.ptr n 0 0 0
 |_,n=>.sl n 0 0 0
def ac9:PO->a8
 |.alloc z=>ac8 z
 |.bslice et es _ _ _=>{ et,es,elems:=[],own:=true,dead:=false,g:=0 }
 |_=>ac8 []
theorem Jc1(o:PO):(ac9 o).dead=false:=by cases o<;>rfl
theorem Fd0(o:PO):(ac9 o).g=0:=by cases o<;>rfl
theorem Sc0{tr:Nat}{P:Program}{ops:Array Oper}{j:Nat}(ha:pa0 (Y8 ops j)=true){E:Env}{a:List a7}{H:List a8}{r:a7×List a8}(he:(evalOp E a H (D5 tr P ops j)).run=some r) :
  (Y8 ops j).guard=none/\∀a H,(evalOp E a H (D5 tr P ops j)).run=some (zb9 (D5 tr P ops j) H.length,H++[ac9 (D5 tr P ops j)]):=by
 unfold pa0 at ha;cases hop:(Y8 ops j).op with
 |alloc t =>
  simp only[hop] at ha;have hg:(Y8 ops j).guard=none:=by simpa using ha
  cases hz:zeT P t with
  |none =>
   exfalso;have hbad:D5 tr P ops j=.bad:=by simp[D5,ra7,Ia0,cOp,hop,hz]
   rw[hbad] at he;cases he
  |some z =>
   have hpo:D5 tr P ops j=.alloc z:=by simp[D5,ra7,Ia0,cOp,hop,hz]
   refine⟨hg,λa H=>?_⟩
   rw[hpo];simp only[evalOp,DT.run_ret,i5,R2,z7,zb9,ac9,ac8]
 |buildSlice t n ps =>
  simp only[hop] at ha
  split at ha
  ·rename_i hps;have hg:(Y8 ops j).guard=none:=by simpa using ha
   have hpo:D5 tr P ops j=.bad\/∃e es,D5 tr P ops j=.bslice e es 0 [] []:=by
    simp only[D5,Ia0,cOp,hop];cases P.underlying t with
    |none=>exact .inl rfl
    |some u =>
     cases u with
     |slice e =>
      simp only[hps];cases zeT P e with
      |none=>exact .inl rfl
      |some z =>
       simp only[ma8];split
       ·exact .inr ⟨e,szT P e,by simp[ra7]⟩
       ·exact .inl rfl
     |_=>exact .inl rfl
   rcases hpo with hpo|⟨e,es,hpo⟩
   ·rw[hpo] at he;cases he
   ·refine⟨hg,λa H=>?_⟩
    rw[hpo];simp only[evalOp,g9,List.map_nil,Oa7,freezeCells,DT.run_ret,i5,R2,z7,zb9,ac9,Z0]
  ·cases ha
 |_=>simp[hop] at ha
theorem kb0(a:List a7)(dst:Option Nat)(x:a7):(putA a dst x).length=a.length:=by
 rw[Ya0];cases dst<;>simp
theorem kb1{a:List a7}{dst:Option Nat}{x:a7}{t:Nat}(h:dst≠some t):(putA a dst x)[t]?=a[t]?:=by
 rw[Ya0]
 grind
theorem Eb6{a:List a7}{d:Nat}{x:a7}(h:d<a.length):(putA a (some d) x)[d]?=some x:=by
 rw[Ya0]
 simp_all
section
variable{tr:Nat}{E:Env}{ops:Array Oper}{M:List Nat}{ks:List (Nat×PI)}{s:St}{U T:Nat->St}
variable(hD:DC tr E.P ops M ks)(hT:Ib5 E ops ks s U T)
include hD
theorem Ia2{i j:Nat}(hj:j<ops.size)(hi:i<ops.size)(hb:m9 M i j=true):i<j:=by
 refine xb2 hD.rows (· < j) (λm o ho hm i hi=>?_) j _ (P4 hj) (λi hi=>Ya2 hD.rows (P4 hj) hi) i hi hb
 have:=Ya2 hD.rows ho hi
 omega
theorem bc0{j:Nat}(hj:j<ops.size)(h:s7 tr E.P ops j=0):Ca5 ks j=some (ab3 tr E.P ops M j)/\bb2 ks j=none:=by
 unfold Ca5 bb2;rw[hD.at' j hj,h];exact⟨rfl,rfl⟩
theorem Sc1{j:Nat}(hj:j<ops.size)(h:s7 tr E.P ops j≠0):Ca5 ks j=none/\bb2 ks j=some (ab3 tr E.P ops M j):=by
 unfold Ca5 bb2;rw[hD.at' j hj]
 rcases Ia1 (tr:=tr) (P:=E.P) (ops:=ops) j with h'|h'|h'
 ·exact absurd h' h
 ·rw[h'];exact⟨rfl,rfl⟩
 simp_all
include hT
theorem bc1{j:Nat}(hj:j<ops.size)(h:s7 tr E.P ops j≠0):U (j+1)=U j:=by
 have:=hT.u j hj
 unfold Ma0 at this;rw[(Sc1 hD hj h).1] at this;exact this
theorem kb2{j:Nat}(hj:j<ops.size)(h:s7 tr E.P ops j=0):T (j+1)=T j:=by
 have:=hT.t j hj
 unfold Ma0 at this;rw[(bc0 hD hj h).2] at this;exact this
theorem Ca8{j:Nat}(hj:j<ops.size)(h:s7 tr E.P ops j=0):∃d,(Y8 ops j).guard=none/\K5 ops j=some d/\(∀a H,(evalOp E a H (D5 tr E.P ops j)).run=some (zb9 (D5 tr E.P ops j) H.length,H++[ac9 (D5 tr E.P ops j)])) /\
  U (j+1)=⟨putA (U j).a (some d) (zb9 (D5 tr E.P ops j) (U j).H.length),(U j).H++[ac9 (D5 tr E.P ops j)]⟩:=by
 have hst:=hT.u j hj;unfold Ma0 at hst;rw[(bc0 hD hj h).1] at hst;obtain⟨d,hd⟩:=hD.allocDst hj h;have ha:=Ib4 h;have hg:(Y8 ops j).guard=none:=by
  unfold pa0 at ha
  split at ha
  ·simpa using ha
  ·split at ha
   ·simpa using ha
   ·cases ha
  ·cases ha
 have hgd:fb5 ops j=none:=by simp[fb5,J2,hg]
 have hhide:(ab3 tr E.P ops M j).hide=[]:=by simp[ab3,h]
 obtain⟨b,h1,h2,h3⟩:=jb8 hst;have hb:b=true:=by
  have:zb8 E (U j).a (fb5 ops j)=some b:=h1
  rw[hgd] at this;injection this with this;exact this.symm
 obtain⟨x,H',h4,h5⟩:=kc6 (h2 hb);rw[hhide] at h4 h5;have h4':(evalOp E (U j).a (U j).H (D5 tr E.P ops j)).run=some (x,H'):=h4;obtain⟨_,hev⟩:=Sc0 ha h4';refine⟨d,hg,hd,hev,?_⟩;rw[hev] at h4';injection h4' with h4';injection h4' with e1 e2;subst e1 e2;rw[h5];show (⟨putA (U j).a (K5 ops j) _,_⟩:St)=_;rw[hd];rfl
theorem bc2{j:Nat}(hj:j<ops.size)(h:s7 tr E.P ops j≠0):∃b,zb8 E (T j).a (fb5 ops j)=some b /\
  (b=true->∃x H',(evalOp E (T j).a (eb1 (T j).H (ra2 (T j).a (ab3 tr E.P ops M j).hide)) (D5 tr E.P ops j)).run=some (x,H') /\
   T (j+1)=⟨putA (T j).a (K5 ops j) x,ra3 (T j).H H' (ra2 (T j).a (ab3 tr E.P ops M j).hide)⟩) /\
  (b=false->T (j+1)=⟨putA (T j).a (K5 ops j) (.v (.tuple #[])),(T j).H⟩):=by
 have hst:=hT.t j hj;unfold Ma0 at hst;rw[(Sc1 hD hj h).2] at hst;obtain⟨b,h1,h2,h3⟩:=jb8 hst;exact⟨b,h1,λhb=>kc6 (h2 hb),h3⟩
theorem bc3{t:Nat}:∀(d u:Nat),u+d<=ops.size->(∀j,u<=j->j<u+d->s7 tr E.P ops j=0->K5 ops j≠some t)->(U (u+d)).a[t]?=(U u).a[t]?
 |0,u,_,_=>rfl
 |d+1,u,hb,hn=>by
  have ih:=bc3 d u (by omega) λj h1 h2=>hn j h1 (by omega)
  rw[<- ih];show (U (u+d+1)).a[t]?=_;by_cases hk:s7 tr E.P ops (u+d)=0
  ·obtain⟨d',_,hd',_,hU⟩:=Ca8 hD hT (j:=u+d) (by omega) hk
   rw[hU];exact kb1 (hd' ▸ hn (u+d) (by omega) (by omega) hk)
  ·rw[bc1 hD hT (by omega) hk]
theorem fb6{t:Nat}:∀(d u:Nat),u+d<=ops.size->(∀j,u<=j->j<u+d->s7 tr E.P ops j≠0->K5 ops j≠some t)->(T (u+d)).a[t]?=(T u).a[t]?
 |0,u,_,_=>rfl
 |d+1,u,hb,hn=>by
  have ih:=fb6 d u (by omega) λj h1 h2=>hn j h1 (by omega)
  rw[<- ih];show (T (u+d+1)).a[t]?=_;by_cases hk:s7 tr E.P ops (u+d)=0
  ·rw[kb2 hD hT (by omega) hk]
  ·obtain⟨b,h1,h2,h3⟩:=bc2 hD hT (j:=u+d) (by omega) hk
   have hne:=hn (u+d) (by omega) (by omega) hk
   cases b with
   |true =>
    obtain⟨x,H',_,h5⟩:=h2 rfl;rw[h5];exact kb1 hne
   |false=>rw[h3 rfl];exact kb1 hne
theorem Sa9:∀j,j<=ops.size->(U j).a.length=s.a.length/\(T j).a.length=s.a.length:=by
 have hu:∀j,j<=ops.size->(U j).a.length=s.a.length:=by
  intro j
  induction j with
  |zero=>intro _;rw[hT.u0]
  |succ j ih =>
   intro hj;by_cases hk:s7 tr E.P ops j=0
   ·obtain⟨d',_,hd',_,hU⟩:=Ca8 hD hT (j:=j) (by omega) hk
    rw[hU];simp only[kb0];exact ih (by omega)
   ·rw[bc1 hD hT (by omega) hk];exact ih (by omega)
 intro j
 induction j with
 |zero=>intro _;exact⟨hu 0 (by omega),by rw[hT.t0];exact hu _ (Qac _)⟩
 |succ j ih =>
  intro hj;refine⟨hu _ hj,?_⟩;by_cases hk:s7 tr E.P ops j=0
  ·rw[kb2 hD hT (by omega) hk];exact (ih (by omega)).2
  ·obtain⟨b,h1,h2,h3⟩:=bc2 hD hT (j:=j) (by omega) hk
   cases b with
   |true =>
    obtain⟨x,H',_,h5⟩:=h2 rfl;rw[h5];simp only[kb0];exact (ih (by omega)).2
   |false=>rw[h3 rfl];simp only[kb0];exact (ih (by omega)).2
theorem Sc2{j:Nat}(hj:j<ops.size)(hl:La3 (D5 tr E.P ops j)=false):Agr (T j).a (T ops.size).a (eb6 (fb5 ops j)++Ca4 (D5 tr E.P ops j)):=λt ht=>by
 have:=fb6 hD hT (t:=t) (ops.size-j) j (by omega) λi h1 h2 hk he=>by
  have hi:i<ops.size:=by omega
  rcases (hD.slots hi hj he).1 ht with hb|hb
  ·have:=Ia2 hD hj hi hb
   omega
  ·rw[hl] at hb;cases hb.1
 grind
theorem wd5{j d:Nat}(hj:j<ops.size)(hd:K5 ops j=some d):(T ops.size).a[d]?=(T (j+1)).a[d]?:=by
 have:=fb6 hD hT (t:=d) (ops.size-(j+1)) (j+1) (by omega) λi h1 h2 hk he=>by
  have hi:i<ops.size:=by omega
  rcases (hD.slots hi hj he).2 with h|h
  ·omega
  ·exact h hd
 grind
theorem bc4{j d v:Nat}(hj:j<ops.size)(h:s7 tr E.P ops j=0)(hd:K5 ops j=some d)(hlt:d<s.a.length)(hv:v<=ops.size):(T v).a[d]?=some (zb9 (D5 tr E.P ops j) (U j).H.length):=by
 have hne:∀i,i<ops.size->i≠j->K5 ops i≠some d:=λi hi hij he=>by
  rcases (hD.slots hi hj he).2 with h|h
  ·exact hij h
  ·exact h hd
 have h1:=fb6 hD hT (t:=d) v 0 (by omega) λi _ h2 hk=>hne i (by omega) λe=>hk (e ▸ h)
 rw[Qbh] at h1;rw[h1,hT.t0];have h2:=bc3 hD hT (t:=d) (ops.size-(j+1)) (j+1) (by omega) λi h3 h4 _=>hne i (by omega) (by omega)
 rw[show j+1+(ops.size-(j+1))=ops.size by omega] at h2
 rw[h2];obtain⟨d',_,hd',_,hU⟩:=Ca8 hD hT hj h
 have:d'=d:=Qah (hd'.symm.trans hd)
 subst this;rw[hU];exact Eb6 (by rw[(Sa9 hD hT j (by omega)).1];exact hlt)
theorem bc5:∀(d u:Nat),u+d<=ops.size->∃l,(U (u+d)).H=(U u).H++l
 |0,u,_=>⟨[],by simp⟩
 |d+1,u,hb=>by
  obtain⟨l,hl⟩:=bc5 d u (by omega)
  show ∃l,(U (u+d+1)).H=_;by_cases hk:s7 tr E.P ops (u+d)=0
  ·obtain⟨d',_,hd',_,hU⟩:=Ca8 hD hT (j:=u+d) (by omega) hk
   simp_all
  ·exact⟨l,by rw[bc1 hD hT (by omega) hk,hl]⟩
theorem Sd1{i j:Nat}(hij:i<j)(hj:j<=ops.size)(hk:s7 tr E.P ops i=0):(U i).H.length<(U j).H.length:=by
 obtain⟨d',_,hd',_,hU⟩:=Ca8 hD hT (j:=i) (by omega) hk
 obtain⟨l,hl⟩:=bc5 hD hT (j-(i+1)) (i+1) (by omega)
 rw[show i+1+(j-(i+1))=j by omega] at hl
 rw[hl,hU];simp
theorem uc5{j:Nat}(hj:j<=ops.size):s.H.length<=(U j).H.length/\∀i,i<s.H.length->(U j).H[i]?=s.H[i]?:=by
 obtain⟨l,hl⟩:=bc5 hD hT j 0 (by omega)
 rw[Qbh,hT.u0] at hl
 grind
theorem uc6{j:Nat}(hj:j<ops.size)(hk:s7 tr E.P ops j=0):(T 0).H[(U j).H.length]?=some (ac9 (D5 tr E.P ops j)):=by
 obtain⟨d',_,hd',_,hU⟩:=Ca8 hD hT hj hk;obtain⟨l,hl⟩:=bc5 hD hT (ops.size-(j+1)) (j+1) (by omega)
 rw[show j+1+(ops.size-(j+1))=ops.size by omega,hU] at hl
 rw[hT.t0,hl];simp
theorem Sc3:∀(v:Nat),v<=ops.size->∀id,s.H.length<=id->id<(U v).H.length->∃j,j<v/\s7 tr E.P ops j=0/\id=(U j).H.length
 |0,_,id,h1,h2=>by rw[hT.u0] at h2;omega
 |v+1,hv,id,h1,h2=>by
  by_cases hk:s7 tr E.P ops v=0
  ·obtain⟨d',_,hd',_,hU⟩:=Ca8 hD hT (j:=v) (by omega) hk
   rw[hU] at h2
   simp at h2
   by_cases he:id<(U v).H.length
   ·obtain⟨j,h3,h4,h5⟩:=Sc3 v (by omega) id h1 he
    grind
   grind
  ·rw[bc1 hD hT (by omega) hk] at h2
   obtain⟨j,h3,h4,h5⟩:=Sc3 v (by omega) id h1 h2
   grind
end
section
variable{E:Env}{a a':List a7}
theorem kb3{o:PO}(h:Agr a a' (Ca4 o)):ha3 E a o=ha3 E a' o:=by
 cases o with
 |load ks n agg x=>simp only[ha3,Qdi (E:=E) (x:=x) h]
 |idxS es x i=>simp only[ha3,Qdi (E:=E) h.left]
 |slice es x lo hi=>simp only[ha3,Qdi (E:=E) h.left.left]
 |_=>rfl
theorem Pb9{o:PO}(h:Agr a a' (Ca4 o)):z6 E a o=z6 E a' o:=by
 cases o with
 |store n x y=>simp only[z6,Qdi (E:=E) h.left]
 |append et es by' x y=>simp only[z6,Qdi (E:=E) h.left]
 |copy es x y=>simp only[z6,Qdi (E:=E) h.left]
 |apre es x y=>simp only[z6,Qdi (E:=E) h.left]
 |clr es z x=>simp only[z6,Qdi (E:=E) h]
 |call f xs=>simp only[z6,Agr.args (E:=E) h]
 |calld x xs=>simp only[z6,Agr.args (E:=E) h.right,Qdi (E:=E) h.left]
 |invk tbl x xs=>simp only[z6,Agr.args (E:=E) h.right,Qdi (E:=E) h.left]
 |_=>rfl
theorem kb4{o:PO}(h:La3 o=true):ha3 E a o=[]:=by cases o<;>first | rfl | cases h
theorem bb7{o:PO}(h:La3 o=true):z6 E a o=[]:=by cases o<;>first | rfl | cases h
theorem Ib6:∀{l:List (PO×PO)},ba9 E a l=true->∀{p:PO×PO},p∈l->∀id∈ha3 E a p.1,id∉z6 E a p.2
 |[],_,p,hp=>by cases hp
 |q::l,h,p,hp=>by
  have e:ba9 E a (q::l)=Bool.rec false (ba9 E a l) (xa4 (ha3 E a q.1) (z6 E a q.2)):=rfl;rw[e] at h;cases hq:xa4 (ha3 E a q.1) (z6 E a q.2) with
  |false=>rw[hq] at h;cases h
  |true =>
   rw[hq] at h
   rcases Qbp.1 hp with rfl|hp
   ·exact rb1 hq
   ·exact Ib6 h hp
theorem fb7:∀{l:List PI},Ca1 a l=true->∀p∈l,∀d,p.dst=some d->d<a.length
 |[],_,p,hp=>by cases hp
 |q::l,h,p,hp=>λd hd=>by
  have e:Ca1 a (q::l)=(match q.dst with
   |some d=>match nth a d with
    |some _=>Ca1 a l
    |none=>false
   |none=>false):=rfl
  rw[e] at h;cases hq:q.dst with
  |none=>simp[hq] at h
  |some d' =>
  simp only[hq,n4] at h;cases hn:a[d']? with
  |none=>simp[hn] at h
  |some x =>
  simp only[hn] at h
  rcases Qbp.1 hp with rfl|hp
  ·have:d'=d:=Qah (hq.symm.trans hd)
   subst this;exact (Qab.1 hn).1
  ·exact fb7 h p hp d hd
theorem Ib7{tr:Nat}{P:Program}{ops:Array Oper}{j:Nat}:s7 tr P ops j=0↔pa0 (Y8 ops j)=true:=by
 refine⟨Ib4,λh=>?_⟩
 unfold s7 bb1;rw[if_pos h]
end
section
variable{tr:Nat}{E:Env}{ops:Array Oper}{M:List Nat}{ks:List (Nat×PI)}{s:St}{U T:Nat->St}
variable(hD:DC tr E.P ops M ks)(hT:Ib5 E ops ks s U T)(hin:∀j,j<ops.size->s7 tr E.P ops j=0->∀d,K5 ops j=some d->d<s.a.length)
include hD hT
theorem Sc4{j:Nat}(hj:j<ops.size):ha3 E (T j).a (D5 tr E.P ops j)=ha3 E (T ops.size).a (D5 tr E.P ops j):=by
 cases hl:La3 (D5 tr E.P ops j) with
 |true=>rw[kb4 hl,kb4 hl]
 |false=>exact kb3 (Sc2 hD hT hj hl).right
theorem Jc2{j:Nat}(hj:j<ops.size):z6 E (T j).a (D5 tr E.P ops j)=z6 E (T ops.size).a (D5 tr E.P ops j):=by
 cases hl:La3 (D5 tr E.P ops j) with
 |true=>rw[bb7 hl,bb7 hl]
 |false=>exact Pb9 (Sc2 hD hT hj hl).right
theorem Eb7{j:Nat}(hj:j<ops.size)(h:s7 tr E.P ops j=1):∃b x,zb8 E (T j).a (fb5 ops j)=some b/\T (j+1)=⟨putA (T j).a (K5 ops j) x,(T j).H⟩ /\
  (b=true->(evalOp E (T j).a (T j).H (D5 tr E.P ops j)).run=some (x,(T j).H))/\(b=false->x=.v (.tuple #[])):=by
 obtain⟨b,h1,h2,h3⟩:=bc2 hD hT hj (by omega)
 have hh:(ab3 tr E.P ops M j).hide=[]:=by simp[ab3,h]
 cases b with
 |true =>
  obtain⟨x,H',h4,h5⟩:=h2 rfl;rw[hh] at h4 h5;have h4':(evalOp E (T j).a (T j).H (D5 tr E.P ops j)).run=some (x,H'):=h4;have he:=(jb3 (kc8 h) h4').1;subst he;exact⟨true,x,h1,h5,λ_=>h4',λh=>by cases h⟩
 |false=>exact⟨false,_,h1,h3 rfl,λh=>(by cases h),λ_=>rfl⟩
theorem uc7:∀(d u:Nat),u+d<=ops.size->(∀j,u<=j->j<u+d->s7 tr E.P ops j≠2)->(T (u+d)).H=(T u).H
 |0,u,_,_=>rfl
 |d+1,u,hb,hn=>by
  have ih:=uc7 d u (by omega) λj h1 h2=>hn j h1 (by omega)
  rw[<- ih];show (T (u+d+1)).H=_
  rcases Ia1 (tr:=tr) (P:=E.P) (ops:=ops) (u+d) with hk|hk|hk
  ·rw[kb2 hD hT (by omega) hk]
  ·obtain⟨b,x,_,h2,_⟩:=Eb7 hD hT (j:=u+d) (by omega) hk
   rw[h2]
  ·exact absurd hk (hn (u+d) (by omega) (by omega))
include hin
theorem kd3{j:Nat}(hj:j<ops.size)(h:s7 tr E.P ops j=2)(id:Nat):id∈ra2 (T j).a (ab3 tr E.P ops M j).hide↔∃b,b<ops.size/\s7 tr E.P ops b=0/\m9 M b j=false/\id=(U b).H.length:=by
 have hh:(ab3 tr E.P ops M j).hide=qb6 ops M j:=by simp[ab3,h]
 rw[hh];unfold ra2;rw[g9,Qbz];constructor
 ·rintro⟨d,hd,he⟩;unfold qb6 at hd;rw[Qde] at hd;obtain⟨b,hb,hb2⟩:=hd;have hb1:=Qcj.1 hb;simp only[P4 hb1] at hb2
  split at hb2
  ·rename_i hc;rw[Qbd,Qdb] at hc;have hk:s7 tr E.P ops b=0:=Ib7.2 hc.1;have ha:=bc4 hD hT hb1 hk hb2 (hin b hb1 hk d hb2) (v:=j) (by omega)
   rw[n4,ha] at he;exact⟨b,hb1,hk,hc.2,by rw[<- he];cases D5 tr E.P ops b<;>rfl⟩
  ·cases hb2
 ·rintro⟨b,hb1,hk,hc,rfl⟩;obtain⟨d,hd⟩:=hD.allocDst hb1 hk;refine⟨d,?_,?_⟩
  ·unfold qb6;rw[Qde];refine⟨b,Qcj.2 hb1,?_⟩;have h2:(pa0 (Y8 ops b)&&!m9 M b j)=true:=by rw[Ib7.1 hk,hc];rfl
   simp only[P4 hb1,h2,if_true];exact hd
  ·rw[n4,bc4 hD hT hb1 hk hd (hin b hb1 hk d hd) (v:=j) (by omega)]
   cases D5 tr E.P ops b<;>rfl
theorem bc6{j:Nat}(hj:j<ops.size)(h:s7 tr E.P ops j=2):∃b x,zb8 E (T j).a (fb5 ops j)=some b/\(T (j+1)).a=putA (T j).a (K5 ops j) x /\
  (b=true->∃hid H',(∀id,id∈hid↔∃b,b<ops.size/\s7 tr E.P ops b=0/\m9 M b j=false/\id=(U b).H.length) /\
   (evalOp E (T j).a (K9 (T j).H (·∈hid)) (D5 tr E.P ops j)).run=some (x,H')/\(T (j+1)).H=ra3 (T j).H H' hid) /\
  (b=false->x=.v (.tuple #[])/\(T (j+1)).H=(T j).H):=by
 obtain⟨b,h1,h2,h3⟩:=bc2 hD hT hj (by omega)
 cases b with
 |true =>
  obtain⟨x,H',h4,h5⟩:=h2 rfl;rw[Jc0] at h4;exact⟨true,x,h1,by rw[h5],λ_=>⟨_,H',kd3 hD hT hin hj h,h4,by rw[h5]⟩,λh=>by cases h⟩
 |false=>exact⟨false,_,h1,by rw[h3 rfl],λh=>(by cases h),λ_=>⟨rfl,by rw[h3 rfl]⟩⟩
omit hD hT hin in
theorem Ub2{H:List a8}{l:List Nat}(hb:∀id∈l,id<H.length):o6 (·∈l) (K9 H (·∈l)) (K9 H (·∈l)) (K9 H (·∈l)) (K9 H (·∈l)) :=
 ⟨rfl,λ_ _=>rfl,λid b hD hb=>by
  rw[R5 hD] at hb;simp only[Qce] at hb;obtain⟨c,_,rfl⟩:=hb
  rfl,λ_ _=>rfl,λ_ _=>rfl,λid h=>by rw[xa0];exact hb id h⟩
theorem bc7{b:Nat}(hb:b<ops.size)(hk:s7 tr E.P ops b=0):∀(v:Nat),v<=ops.size->(∀h,h<v->s7 tr E.P ops h=2->m9 M b h=false)->(T v).H[(U b).H.length]?=(T 0).H[(U b).H.length]?
 |0,_,_=>rfl
 |v+1,hv,hn=>by
  have ih:=bc7 hb hk v (by omega) λh h1=>hn h (by omega)
  rw[<- ih]
  rcases Ia1 (tr:=tr) (P:=E.P) (ops:=ops) v with h0|h0|h0
  ·rw[kb2 hD hT (by omega) h0]
  ·obtain⟨b,x,_,h2,_⟩:=Eb7 hD hT (j:=v) (by omega) h0
   rw[h2]
  ·obtain⟨bb,x,h1,_,h3,h4⟩:=bc6 hD hT hin (j:=v) (by omega) h0
   cases bb with
   |false=>rw[(h4 rfl).2]
   |true =>
    obtain⟨hid,H',h5,h6,h7⟩:=h3 rfl;rw[h7]
    -- every ra2 block stands in the heap
    have hall:∀id∈hid,id<(T v).H.length:=λid hid'=>by
     obtain⟨b',k1,k2,k3,rfl⟩:=(h5 id).1 hid'
     have:=bc7 k1 k2 v (by omega) λh h1 h2=>by
      cases hc:m9 M b' h with
      |false=>rfl
      |true =>
       rw[(hD.chain h1 (by omega) h2 h0).2 b' hc] at k3
       cases k3
     have hz:=uc6 hD hT k1 k2;rw[hz] at this;exact (Qab.1 this).1
    have hm:(U b).H.length∈hid:=(h5 _).2 ⟨b,hb,hk,hn v (by omega) h0,rfl⟩
    obtain⟨H2',_,hM⟩:=(Ub2 hall).evalOp (E:=E) (a:=(T v).a) (jb9 h0) h6;refine rb3 hm (hall _ hm) ?_;exact hM.bound _ hm
theorem Sc5{j:Nat}(hj:j<ops.size)(h0:s7 tr E.P ops j=2){b:Nat}(k1:b<ops.size)(k2:s7 tr E.P ops b=0)(k3:m9 M b j=false):(U b).H.length<(T j).H.length:=by
 have:=bc7 hD hT hin k1 k2 j (by omega) λh h1 h2=>by
  cases hc:m9 M b h with
  |false=>rfl
  |true =>
   rw[(hD.chain h1 hj h2 h0).2 b hc] at k3;cases k3
 have hz:=uc6 hD hT k1 k2;rw[hz] at this;exact (Qab.1 this).1
theorem kd4{j:Nat}(hj:j<ops.size){id:Nat}(hn:s7 tr E.P ops j=2->id∉z6 E (T ops.size).a (D5 tr E.P ops j)):A9 (T j).H (T (j+1)).H id:=by
 rcases Ia1 (tr:=tr) (P:=E.P) (ops:=ops) j with h0|h0|h0
 ·rw[kb2 hD hT hj h0];exact .refl _ _
 ·obtain⟨b,x,_,h2,_⟩:=Eb7 hD hT hj h0;rw[h2];exact .refl _ _
 ·obtain⟨bb,x,h1,_,h3,h4⟩:=bc6 hD hT hin hj h0;cases bb with
  |false=>rw[(h4 rfl).2];exact .refl _ _
  |true =>
   obtain⟨hid,H',h5,h6,h7⟩:=h3 rfl;rw[h7];have hall:∀id∈hid,id<(T j).H.length:=λid hid'=>by
    obtain⟨b',k1,k2,k3,rfl⟩:=(h5 id).1 hid';exact Sc5 hD hT hin hj h0 k1 k2 k3
   obtain⟨H2',_,hM⟩:=(Ub2 hall).evalOp (E:=E) (a:=(T j).a) (jb9 h0) h6;intro b hb;by_cases hm:id∈hid
   ·refine⟨b,?_,.refl b⟩;rw[rb3 hm (hall _ hm) (hM.bound _ hm)];exact hb
   ·rw[Ib2 hm];have hslots:z6 E (T j).a (D5 tr E.P ops j)=z6 E (T ops.size).a (D5 tr E.P ops j):=Jc2 hD hT hj;exact ac7 (jb9 h0) h6 (by rw[hslots];exact hn h0) b (by rw[E5 (D:=(·∈hid)) hm];exact hb)
theorem uc8{id:Nat}:∀(d u:Nat),u+d<=ops.size->(∀j,u<=j->j<u+d->s7 tr E.P ops j=2->id∉z6 E (T ops.size).a (D5 tr E.P ops j))->A9 (T u).H (T (u+d)).H id
 |0,u,_,_=>.refl _ _
 |d+1,u,hb,hn =>
  (uc8 d u (by omega) λj h1 h2=>hn j h1 (by omega)).trans (kd4 hD hT hin (j:=u+d) (by omega) (hn (u+d) (by omega) (by omega)))
end
section
variable{W:Nat->Prop}{ρ ρ':Rho}{H H':List a8}{F F':Fz}{w w':World}
def Ub3(ρ:Rho)(H:List a8)(ρ':Rho)(H':List a8):Prop:=∀(id:Nat) b,H[id]?=some b->b.dead=false->∃b',H'[id]?=some b'/\b'.dead=false/\b.g<=b'.g/\(b'.g=b.g->ρ' id=ρ id/\b'.es=b.es/\b.elems.length<=b'.elems.length)
section
variable(hk:Ub3 ρ H ρ' H')(hm:∀b o,F b o->F' b o)(hc:∀b o,F b o->w'.cell? ⟨b,o,none⟩=w.cell? ⟨b,o,none⟩)
include hk hm hc
theorem D4.carry{x:a7}{x':Value}(h:D4 ρ H F w x x'):D4 ρ' H' F' w' x x':=by
 cases h with
 |mem h=>exact .mem (h.adv hm hc)
 |v=>exact .v _
 |ptr id i c g a b hb hd hg h =>
  obtain⟨b',hb',hd',hg',e⟩:=hk id b hb hd;refine .ptr id i c g a b' hb' hd' (Qad hg hg') λhge=>?_
  grind
 |sl id off n g a cap b hb hd hg hn hs hm h =>
  obtain⟨b',hb',hd',hg',e⟩:=hk id b hb hd;refine .sl id off n g a cap b' hb' hd' (Qad hg hg') hn hs hm λhge=>?_
  grind
 |tptr cs a vs hs hF hw hr=>exact .tptr cs a vs hs (λc hlt=>hm _ _ (hF c hlt)) (λc hlt=>(hc _ _ (hF c hlt)).trans (hw c hlt)) (λc hlt=>(hr c hlt).adv hm hc)
 |unk x'=>exact .unk x'
theorem J1.carry{x:a7}{x':Value}(h:J1 ρ H F w x x'):J1 ρ' H' F' w' x x':=by
 cases h with
 |cell h=>exact .cell (h.carry hk hm hc)
 |agg cs vs hl h=>exact .agg cs vs hl λi x x' hx hx'=>(h i x x' hx hx').carry hk hm hc
 |fn f caps vs hl h=>exact .fn f caps vs hl λi x x' hx hx'=>(h i x x' hx hx').carry hk hm hc
theorem o5.carry{x:a7}{x':Value}(h:o5 ρ H F w x x'):o5 ρ' H' F' w' x x':=by
 cases h with
 |val h=>exact .val (h.carry hk hm hc)
 |tup xs vs hl h=>exact .tup xs vs hl λi x x' hx hx'=>(h i x x' hx hx').carry hk hm hc
theorem R4.carry{a:List a7}{vs:Array Value}(h:R4 ρ H F w a vs):R4 ρ' H' F' w' a vs :=
 ⟨h.1,λi x x' hx hx'=>(h.2 i x x' hx hx').carry hk hm hc⟩
end
end
section
variable{W:Nat->Prop}{ρ0:Rho}{H0:List a8}{F0:Fz}{w0 w:World}
variable{tr:Nat}{E:Env}{ops:Array Oper}{M:List Nat}{ks:List (Nat×PI)}{s:St}{U T:Nat->St}
def o1(listed:Array Bool)(j:Nat):Prop:=listed.getD j true=true
def B1(tr:Nat)(P:Program)(ops:Array Oper)(U:Nat->St)(listed:Array Bool)(id:Nat):Prop:=∃b,b<ops.size/\s7 tr P ops b=0/\¬ o1 listed b/\id=(U b).H.length
def E6(ops:Array Oper)(listed:Array Bool)(t:Nat):Prop:=∃i,i<ops.size/\K5 ops i=some t/\¬ o1 listed i
theorem B7{listed:Array Bool}{i j:Nat}(hi:i<listed.size):o1 (listed.setIfInBounds i true) j↔o1 listed j\/j=i:=by
 unfold o1;by_cases e:i=j
 ·simp_all
 ·have:j≠i:=λh=>e h.symm
  simp_all
theorem Ma1{listed:Array Bool}{i:Nat}(h:i∈Region.ready .any ops listed):i<ops.size/\¬ o1 listed i/\(listed.size=ops.size->∀e∈o7 (Y8 ops i),e<ops.size->o1 listed e):=by
 unfold Region.ready at h;rw[List.mem_filter] at h;obtain⟨h1,h2⟩:=h;have hi:=Qcj.1 h1;rw[P4 hi] at h2;simp only[Option.map_some,Option.getD_some,Qbd,Qdb] at h2;refine⟨hi,λh=>?_,λhsz e he hlt=>?_⟩
 ·unfold o1 at h;rw[h] at h2;cases h2.1
 ·obtain⟨ed,h3,h4,h5⟩:=ha6.1 he;have h6:(Y8 ops i).after.all (λe=>!Region.binds .any e||listed.getD e.on false)=true:=h2.2
  rw[Qdd] at h6;have h7:=h6 ed h3;rw[h4,h5] at h7;simp only[Bool.not_true,Bool.false_or] at h7;unfold o1
  simp_all
variable(hD:DC tr E.P ops M ks)(hT:Ib5 E ops ks s U T)(hin:∀j,j<ops.size->s7 tr E.P ops j=0->∀d,K5 ops j=some d->d<s.a.length)
include hD
theorem Jc3{listed:Array Bool}(hsz:listed.size=ops.size){i:Nat}(hi:i<ops.size){x:a7}(hx:∀d,K5 ops i=some d->d<(T ops.size).a.length->(T ops.size).a[d]?=some x) :
  ma3 (T ops.size).a s.a (E6 ops (listed.setIfInBounds i true))=putA (ma3 (T ops.size).a s.a (E6 ops listed)) (K5 ops i) x:=by
 refine Qcd λt=>?_
 have hopen:∀t,K5 ops i≠some t->(E6 ops (listed.setIfInBounds i true) t↔E6 ops listed t):=λt hne=>by
  constructor
  ·rintro⟨j,h1,h2,h3⟩;exact⟨j,h1,h2,λh=>h3 ((B7 (hsz ▸ hi)).2 (.inl h))⟩
  ·rintro⟨j,h1,h2,h3⟩;refine⟨j,h1,h2,λh=>?_⟩
   rcases (B7 (hsz ▸ hi)).1 h with h|h
   ·exact h3 h
   ·subst h;exact hne h2
 by_cases hd:K5 ops i=some t
 ·have hno : ¬ E6 ops (listed.setIfInBounds i true) t := by
   rintro⟨j,h1,h2,h3⟩
   rcases (hD.slots hi h1 hd).2 with h|h
   ·exact h3 ((B7 (hsz ▸ hi)).2 (.inr h.symm))
   ·exact h h2
  rw[na2 hno,hd]
  rcases Qan t (T ops.size).a.length with hlt|hge
  ·rw[Eb6 (by rw[na1];exact hlt)]
   exact hx t hd hlt
  ·rw[Qal hge,Qal (by rw[kb0,na1];exact hge)]
 ·rw[kb1 hd];by_cases ho:E6 ops listed t
  ·rcases Qan t (T ops.size).a.length with hlt|hge
   ·rw[jb7 ho hlt,jb7 ((hopen t hd).2 ho) hlt]
   ·rw[Qal (by rw[na1];exact hge),Qal (by rw[na1];exact hge)]
  ·rw[na2 ho,na2 λh=>ho ((hopen t hd).1 h)]
include hT
end
section
variable{W:Nat->Prop}{ρ0:Rho}{H0:List a8}{F0:Fz}{w0 w:World}
variable{tr:Nat}{E:Env}{ops:Array Oper}{M:List Nat}{ks:List (Nat×PI)}{s:St}{U T:Nat->St}
variable(hD:DC tr E.P ops M ks)(hT:Ib5 E ops ks s U T)(hin:∀j,j<ops.size->s7 tr E.P ops j=0->∀d,K5 ops j=some d->d<s.a.length)
variable(hpairs:ba9 E (T ops.size).a (X4 ops.size M ks)=true)
variable(hG0:GOk E F0 w0)(hcalls:∀f,c8 E.P E.G f (E.call f))
theorem Ub4{listed:Array Bool}(hsz:listed.size=ops.size){i:Nat}(hi:i<ops.size)(hk:s7 tr E.P ops i≠0):B1 tr E.P ops U (listed.setIfInBounds i true)=B1 tr E.P ops U listed:=by
 funext id;refine propext ⟨λ⟨b,h1,h2,h3,h4⟩=>⟨b,h1,h2,λh=>h3 ((B7 (hsz ▸ hi)).2 (.inl h)),h4⟩,λ⟨b,h1,h2,h3,h4⟩=>⟨b,h1,h2,λh=>?_,h4⟩⟩
 rcases (B7 (hsz ▸ hi)).1 h with h|h
 ·exact h3 h
 ·subst h;exact hk h2
include hD
include hT hin hpairs hG0 hcalls
end
section
variable{W:Nat->Prop}{ρ0:Rho}{H0:List a8}{F0:Fz}{w0 w:World}
variable{tr:Nat}{E:Env}{ops:Array Oper}{M:List Nat}{ks:List (Nat×PI)}{s:St}{U T:Nat->St}
variable(hD:DC tr E.P ops M ks)(hT:Ib5 E ops ks s U T)(hin:∀j,j<ops.size->s7 tr E.P ops j=0->∀d,K5 ops j=some d->d<s.a.length)(hlen:H0.length<=s.H.length)
include hD hT hin hlen
omit hT hin hlen in
theorem Ub5{listed:Array Bool}(hsz:listed.size=ops.size)(h:Region.ready .any ops listed=[]):∀j,j<ops.size->o1 listed j:=by
 intro j
 induction j using Nat.strongRecOn with
 |_ j ih =>
  intro hj;apply Qbx;intro hn;have hmem:j∈Region.ready .any ops listed:=by
   unfold Region.ready;rw[List.mem_filter];refine⟨Qcj.2 hj,?_⟩;rw[P4 hj];simp only[Option.map_some,Option.getD_some,Qbd,Qdb];refine⟨by unfold o1 at hn;simpa using hn,?_⟩
   rw[Qdd];intro e he;cases hb:Region.binds .any e with
   |false=>rfl
   |true =>
    have hd:e.on∈o7 (Y8 ops j):=ha6.2 ⟨e,he,hb,rfl⟩;have hlt:=Ya2 hD.rows (P4 hj) hd
    have:=ih e.on hlt (by omega)
    unfold o1 at this
    grind
  rw[h] at hmem;cases hmem
def r6(listed:Array Bool):Nat:=(listed.toList.filter λb=>!b).length
omit hD hT hin hlen in
theorem ea1:∀(l:List Bool) (i:Nat),l[i]?=some false->((l.set i true).filter λb=>!b).length+1=(l.filter λb=>!b).length
 |[],i,h=>by simp at h
 |b::l,0,h=>by
  simp at h
  subst h;simp
 |b::l,i+1,h=>by
  have ih:=ea1 l i (by simpa using h)
  grind
omit hD hT hin hlen in
theorem ka5{listed:Array Bool}(h:r6 listed=0)(j:Nat):o1 listed j:=by
 unfold r6 at h;unfold o1;rw[List.length_eq_zero_iff,List.filter_eq_nil_iff] at h
 rcases Qan j listed.size with hj|hj
 ·have:=h listed[j] (by simp)
  simp_all
 simp_all
variable(hpairs:ba9 E (T ops.size).a (X4 ops.size M ks)=true)(hG0:GOk E F0 w0)(hcalls:∀f,c8 E.P E.G f (E.call f))
include hpairs hG0 hcalls
end
abbrev Sum:=List a7->List a8->DT (a7×List a8)
def ALe(x y:a7):Prop:=∀ρ H F w v,o5 ρ H F w x v->o5 ρ H F w y v
theorem ALe.refl(x:a7):ALe x x:=λ_ _ _ _ _ h=>h
inductive Ib8:List a7->List a7->Prop
 |nil:Ib8 [] []
 |cons {x y l r} (h:ALe x y) (t:Ib8 l r):Ib8 (x::l) (y::r)
theorem Ib8.refl:∀l,Ib8 l l
 |[]=>.nil
 |x::l=>.cons (.refl x) (Ib8.refl l)
theorem Ib8.length{l r}(h:Ib8 l r):l.length=r.length:=by induction h<;>simp_all
theorem Ib8.get{l r}(h:Ib8 l r):∀(i:Nat) y,r[i]?=some y->∃x,l[i]?=some x/\ALe x y:=by
 induction h with
 |nil=>intro i y hy;simp at hy
 |cons h t ih =>
  grind
theorem c8.refine{P:Program}{G:Nat->List Value}{f:FuncId}{S S':Sum}(h:c8 P G f S)
  (hr:∀args blks r,(S' args blks).run=some r->∃Sa2,Ib8 args Sa2/\(S Sa2 blks).run=some r):c8 P G f S':=by
 intro args blks r out he W ρ F w args' hH hlen hargs hG;obtain⟨Sa2,ha,he2⟩:=hr args blks _ he;refine h Sa2 blks r out he2 W ρ F w args' hH (ha.length ▸ hlen) (λi y x' hy hx'=>?_) hG
 obtain⟨x,hx,hle⟩:=ha.get i y hy;exact hle _ _ _ _ _ (hargs i x x' hx hx')
def Fd1(l:List (Nat×Sum)):FuncId->Sum :=
 List.rec (motive:=λ_=>FuncId->Sum) (λ_ _ _=>.fail) (λp _ ih f=>Bool.rec (motive:=λ_=>Sum) (ih f) p.2 (Nat.beq p.1 f)) l
def A2(P:Program)(G:Nat->List Value):List (Nat×Sum)->Prop
 |[]=>True
 |p::l=>c8 P G p.1 p.2/\A2 P G l
theorem Bc1{P:Program}{G:Nat->List Value}:∀{l:List (Nat×Sum)},A2 P G l->∀f,c8 P G f (Fd1 l f)
 |[],_,f=>λargs blks r out h=>by cases h
 |(n,S)::l,h,f=>by
  show c8 P G f (Bool.rec (motive:=λ_=>Sum) (Fd1 l f) S (Nat.beq n f))
  cases hb:Nat.beq n f with
  |false=>exact Bc1 h.2 f
  |true=>rw[<- Qae hb];exact h.1
inductive PS where
 |pc (c:PC)
 |seq (a b:PS)
 |cond (c:Arg) (x y:PS)
 |block (id:Nat) (c:PS)
 |loop (keep:List Nat) (c:PS)
 |sum (S:St->DT (c7×St))
def Sd2(E:Env)(k:Nat)(c:PS):St->DT (c7×St) :=
 PS.rec (motive:=λ_=>St->DT (c7×St))
  (λc=>p7 E k c)
  (λ_ _ x y s=>(x s).bind λr=>c7.rec (motive:=λ_=>DT (c7×St)) (y r.2) (λid=>.ret (.exit id,r.2)) (.ret (.ret,r.2)) r.1)
  (λc _ _ x y s=>match b9 E s.a c with
   |.v (.bool b)=>.ite b (x s) (y s)
   |_=>.fail)
  (λid _ x s=>(x s).bind λr=>c7.rec (motive:=λ_=>DT (c7×St)) (.ret (.normal,r.2))
   (λid'=>Bool.rec (.ret (.exit id',r.2)) (.ret (.normal,r.2)) (Nat.beq id' id)) (.ret (.ret,r.2)) r.1)
  (λkeep _ x=>Qa2 (λs=>tidy k ⟨B6 keep s.a 0,s.H⟩) x E.N)
  (λS=>S) c
def E8{α:Type}(x y:DT α):Prop:=∀r,x.run=some r->y.run=some r
theorem E8.refl{α:Type}(x:DT α):E8 x x:=λ_ h=>h
theorem E8.bind{α β:Type}{x y:DT α}{f g:α->DT β}(h:E8 x y)(hf:∀a,E8 (f a) (g a)):E8 (x.bind f) (y.bind g):=λr hr=>by
 obtain⟨a,h1,h2⟩:=DT.run_bind_some hr;rw[DT.run_bind,h a h1];exact hf a r h2
theorem E8.ite{α:Type}{b:Bool}{x y x' y':DT α}(h:E8 x x')(h':E8 y y'):E8 (.ite b x y) (.ite b x' y'):=λr hr=>by
 rw[DT.run_ite] at hr ⊢
 split at hr
 ·next hb=>simpa [hb] using h r hr
 ·next hb=>simpa [hb] using h' r hr
theorem E8.fail{α:Type}(y:DT α):E8 .fail y:=λ_ h=>by cases h
theorem Ma2{head:St->DT St}{body body':St->DT (c7×St)}(h:∀s,E8 (body s) (body' s)):∀n s,E8 (Qa2 head body n s) (Qa2 head body' n s)
 |0,s=>.refl _
 |n+1,s=>by
  show E8 ((head s).bind λs=>(body s).bind _) ((head s).bind λs=>(body' s).bind _)
  refine E8.bind (.refl _) λs=>(h s).bind λr=>?_
  rcases r with⟨x,s'⟩
  cases x with
  |normal=>exact Ma2 h n s'
  |exit id=>exact .refl _
  |ret=>exact .refl _
inductive ka6 (E:Env) (k:Nat):PS->PC->Prop
 |pc (c:PC):ka6 E k (.pc c) c
 |seq {a b:PS} {a' b':PC} (h:ka6 E k a a') (h':ka6 E k b b'):ka6 E k (.seq a b) (.seq a' b')
 |cond (c:Arg) {a b:PS} {a' b':PC} (h:ka6 E k a a') (h':ka6 E k b b'):ka6 E k (.cond c a b) (.cond c a' b')
 |block (id:Nat) {a:PS} {a':PC} (h:ka6 E k a a'):ka6 E k (.block id a) (.block id a')
 |loop (keep:List Nat) {a:PS} {a':PC} (h:ka6 E k a a'):ka6 E k (.loop keep a) (.loop keep a')
 |sum {S:St->DT (c7×St)} {c:PC} (h:∀s,E8 (S s) (p7 E k c s)):ka6 E k (.sum S) c
theorem ka6.le{E:Env}{k:Nat}{a:PS}{c:PC}(h:ka6 E k a c):∀s,E8 (Sd2 E k a s) (p7 E k c s):=by
 induction h with
 |pc c=>exact λs=>.refl _
 |seq h h' ih ih' =>
  intro s;refine (ih s).bind λr=>?_
  rcases r with⟨x,s'⟩
  cases x with
  |normal=>exact ih' s'
  |exit id=>exact .refl _
  |ret=>exact .refl _
 |cond c h h' ih ih' =>
  intro s;show E8 (match b9 E s.a c with | .v (.bool b)=>_ | _=>_) (match b9 E s.a c with | .v (.bool b)=>_ | _=>_)
  split
  ·exact .ite (ih s) (ih' s)
  ·exact .fail _
 |block id h ih=>exact λs=>(ih s).bind λr=>.refl _
 |loop keep h ih=>exact λs=>Ma2 ih _ s
 |sum h=>exact h
def Ca9(head:St->DT St)(body:St->DT (c7×St))(s:St):DT (c7×St) :=
 (body s).bind λr=>c7.rec (motive:=λ_=>DT (c7×St)) ((head r.2).bind λs=>.ret (.normal,s)) (λid=>.ret (.exit id,r.2)) (.ret (.ret,r.2)) r.1
def fb8(head:St->DT St)(body:St->DT (c7×St))(n:Nat)(s:St):DT (c7×St) :=
 (body s).bind λr=>c7.rec (motive:=λ_=>DT (c7×St)) (Qa2 head body n r.2) (λid=>.ret (.exit id,r.2)) (.ret (.ret,r.2)) r.1
theorem Ya3{head:St->DT St}{body:St->DT (c7×St)}{n:Nat}{s t:St}{r:c7×St}(h:(head s).run=some t)(h2:(fb8 head body n t).run=some r):(Qa2 head body (n+1) s).run=some r:=by
 show ((head s).bind λs=>fb8 head body n s).run=some r
 rw[DT.run_bind,h];exact h2
theorem kd5{head:St->DT St}{body:St->DT (c7×St)}{n:Nat}{s t:St}{r:c7×St}(h:(Ca9 head body s).run=some (.normal,t))(h2:(fb8 head body n t).run=some r):(fb8 head body (n+1) s).run=some r:=by
 obtain⟨⟨x,s1⟩,h3,h4⟩:=DT.run_bind_some h;cases x with
 |normal =>
  obtain⟨t',h5,h6⟩:=DT.run_bind_some h4;cases h6;show ((body s).bind _).run=_;rw[DT.run_bind,h3];exact Ya3 h5 h2
 |exit id=>cases h4
 |ret=>cases h4
theorem kd6{head:St->DT St}{body:St->DT (c7×St)}{n:Nat}{s t:St}{x:c7}(h:(Ca9 head body s).run=some (x,t))(hx:x≠.normal):(fb8 head body n s).run=some (x,t):=by
 obtain⟨⟨y,s1⟩,h3,h4⟩:=DT.run_bind_some h;cases y with
 |normal =>
  obtain⟨t',h5,h6⟩:=DT.run_bind_some h4
  simp_all
 |exit id =>
  show ((body s).bind _).run=_;rw[DT.run_bind,h3];exact h4
 |ret =>
  show ((body s).bind _).run=_;rw[DT.run_bind,h3];exact h4
@[reducible] def Ta0(k:Nat)(keep:List Nat)(s:St):DT St:=tidy k ⟨B6 keep s.a 0,s.H⟩
theorem Ub6(E:Env)(k:Nat)(keep:List Nat)(c:PC)(s:St):p7 E k (.loop keep c) s=Qa2 (Ta0 k keep) (p7 E k c) E.N s:=rfl
inductive Sh where
 |unk
 |int
 |bool
 |tree (es:Nat)
 |ptr (id i c g:Nat)
@[reducible] def sel{α:Type}(c:Bool)(t e:α):α:=Bool.rec (motive:=λ_=>α) e t c
theorem xa1{g a:Int}(h:a>0):(Int.tmod g a).toNat<a.toNat:=by
 have:=Int.tmod_lt_of_pos g h
 omega
@[reducible] def i(n:Int):a7:=.v (.int .i64 n)
@[reducible] def b(x:Bool):a7:=.v (.bool x)
def kd7:a7->Option Int
 |.v (.int .i64 n)=>some n
 |_=>none
theorem kd8{x:a7}{n:Int}(h:kd7 x=some n):x=i n:=by
 unfold kd7 at h
 grind
abbrev W(n:Int):Int:=IntKind.wrap .i64 n
structure Cod(α:Type) where
 enc:α->a7
 dec:a7->Option α
 grd:a7->Bool
 ok:∀x a,dec x=some a->grd x=true->ALe x (enc a)
theorem ALe.of{x y:a7}(h:x=y):ALe x y:=h ▸ .refl x
def cI:Cod Int:=⟨i,kd7,λ_=>true,λ_ _ h _=>.of (kd8 h)⟩
theorem D7.get{F:Fz}{w:World}{es n:Nat}{get get':Nat->List a7}{v:Value}(h:D7 F w (.tree es n get) v)(he:∀k,k<n->get' k=get k):D7 F w (.tree es n get') v:=by
 cases h with
 |tree _ _ _ a cap cs hs hcap hes hF hw hr =>
  refine .tree es n get' a cap cs hs hcap (λi hi=>by rw[he i hi];exact hes i hi) hF hw (λi c hi hc=>?_)
  grind
 |nil=>exact .nil _ _
theorem ALe.tree{es n:Nat}{get get':Nat->List a7}(he:∀k,k<n->get' k=get k):ALe (.tree es n get) (.tree es n get'):=λρ H F w v h=>.val (.cell (.mem ((P2 h).get he)))
def g3(x y z:Int):Nat->List a7
 |0=>[i x]
 |1=>[i y]
 |_=>[i z]
def kd9:List a7->Option Int
 |[x]=>kd7 x
 |_=>none
def d3(x:a7):Option (Int×Int×Int):=match x with
 |.tree 1 3 get=>Option.rec (motive:=λ_=>Option (Int×Int×Int)) none (λa=>Option.rec (motive:=λ_=>Option (Int×Int×Int)) none (λb=>Option.rec (motive:=λ_=>Option (Int×Int×Int)) none (λc=>some (a,b,c)) (kd9 (get 2))) (kd9 (get 1))) (kd9 (get 0))
 |_=>none
def d1(x:a7):Option Int:=match x with
 |.tree 1 1 get=>kd9 (get 0)
 |_=>none
structure IL where
 n:Nat
 g:Nat->Int
structure LL where
 a:IL
 b:IL
def onO{α:Type}(x:Option α)(k:α->DT (a7×List a8)):DT (a7×List a8):=Option.rec (motive:=λ_=>DT (a7×List a8)) .fail k x
theorem K3{α:Type}{x:Option α}{k:α->DT (a7×List a8)}{r:a7×List a8}(h:(onO x k).run=some r):∃a,x=some a/\(k a).run=some r:=by
 cases x with
 |none=>cases h
 |some a=>exact⟨a,rfl,h⟩
section
variable{α β γ δ:Type}
def Fd2(k:DT (a7×List a8)):Sum:=λargs blks=>match args,blks with
 |[],[]=>k
 |_,_=>.fail
def G7(c:Cod α)(k:α->DT (a7×List a8)):Sum:=λargs blks=>match args,blks with
 |[x],[]=>onO (c.dec x) λa=>.guard (c.grd x) (k a)
 |_,_=>.fail
def va0(c:Cod α)(d:Cod β)(k:α->β->DT (a7×List a8)):Sum:=λargs blks=>match args,blks with
 |[x,y],[]=>onO (c.dec x) λa=>onO (d.dec y) λb=>.guard (c.grd x) (.guard (d.grd y) (k a b))
 |_,_=>.fail
def Ab0(c:Cod α)(d:Cod β)(e:Cod γ)(k:α->β->γ->DT (a7×List a8)):Sum:=λargs blks=>match args,blks with
 |[x,y,z],[]=>onO (c.dec x) λa=>onO (d.dec y) λb=>onO (e.dec z) λg=>.guard (c.grd x) (.guard (d.grd y) (.guard (e.grd z) (k a b g)))
 |_,_=>.fail
variable{P:Program}{G:Nat->List Value}{f:FuncId}{R:Sum}{c:Cod α}{d:Cod β}{e:Cod γ}{c4:Cod δ}
theorem c8.le{S':Sum}(h:c8 P G f R)(hr:∀args blks r,(S' args blks).run=some r->(R args blks).run=some r):c8 P G f S' :=
 h.refine λargs blks r hh=>⟨args,.refl _,hr args blks r hh⟩
theorem ld0{k}(hb:c8 P G f R)(h:∀r,k.run=some r->(R [] []).run=some r):c8 P G f (Fd2 k):=hb.le λargs blks r hr=>by
 unfold Fd2 at hr
 split at hr
 ·exact h r hr
 ·cases hr
theorem Ya4{k:α->_}(hb:c8 P G f R)(h:∀a r,(k a).run=some r->(R [c.enc a] []).run=some r):c8 P G f (G7 c k):=hb.refine λargs blks r hr=>by
 unfold G7 at hr
 split at hr
 ·obtain⟨a,h1,hr⟩:=K3 hr;obtain⟨g1,hr⟩:=DT.run_guard_some hr;exact⟨_,.cons (c.ok _ a h1 g1) .nil,h a r hr⟩
 ·cases hr
theorem Bc2{k:α->β->_}(hb:c8 P G f R)(h:∀a b r,(k a b).run=some r->(R [c.enc a,d.enc b] []).run=some r):c8 P G f (va0 c d k):=hb.refine λargs blks r hr=>by
 unfold va0 at hr
 split at hr
 ·obtain⟨a,h1,hr⟩:=K3 hr;obtain⟨b,h2,hr⟩:=K3 hr;obtain⟨g1,hr⟩:=DT.run_guard_some hr;obtain⟨g2,hr⟩:=DT.run_guard_some hr;exact⟨_,.cons (c.ok _ a h1 g1) (.cons (d.ok _ b h2 g2) .nil),h a b r hr⟩
 ·cases hr
theorem ld1{k:α->β->γ->_}(hb:c8 P G f R)(h:∀a b g r,(k a b g).run=some r->(R [c.enc a,d.enc b,e.enc g] []).run=some r):c8 P G f (Ab0 c d e k):=hb.refine λargs blks r hr=>by
 unfold Ab0 at hr
 split at hr
 ·obtain⟨a,h1,hr⟩:=K3 hr;obtain⟨b,h2,hr⟩:=K3 hr;obtain⟨g,h3,hr⟩:=K3 hr;obtain⟨g1,hr⟩:=DT.run_guard_some hr;obtain⟨g2,hr⟩:=DT.run_guard_some hr;obtain⟨g3,hr⟩:=DT.run_guard_some hr;exact⟨_,.cons (c.ok _ a h1 g1) (.cons (d.ok _ b h2 g2) (.cons (e.ok _ g h3 g3) .nil)),h a b g r hr⟩
 ·cases hr
end
inductive Stp (σ:Type) where
 |fail
 |next (s:σ)
 |exit (t:Nat)
@[reducible] def Ta1{σ α:Type}(f:σ->α)(x:Nat->α)(z:α)(r:Stp σ):α:=Stp.rec (motive:=λ_=>α) z f x r
def lp0{σ:Type}(step:σ->Stp σ)(n:Nat):σ->Nat×σ :=
 Nat.rec (motive:=λ_=>σ->Nat×σ) (λs=>Ta1 (λ_=>(0,s)) (λt=>(t,s)) (0,s) (step s))
  (λ_ ih s=>Ta1 (λs'=>ih s') (λt=>(t,s)) (0,s) (step s)) n
def lpS:{ f:(σ:Type)->(σ->Stp σ)->Nat->σ->Nat×σ // f=λ_=>lp0 }:=Classical.choice ⟨⟨_,rfl⟩⟩
def rounds:Nat:=18446744073709551615
def lp{σ:Type}(step:σ->Stp σ)(s:σ):Nat×σ:=lpS.1 σ step rounds s
theorem wd6{σ:Type}(step:σ->Stp σ)(s:σ):lp step s=lp0 step rounds s:=by
 unfold lp;rw[lpS.2]
theorem kc9{σ:Type}{step:σ->Stp σ}{n:Nat}{s s':σ}(h:step s=.next s'):lp0 step (n+1) s=lp0 step n s':=by
 show Ta1 (λs'=>lp0 step n s') _ _ (step s)=_
 rw[h]
theorem lc0{σ:Type}{step:σ->Stp σ}{n t:Nat}{s:σ}(h:step s=.exit t):lp0 step n s=(t,s):=by
 cases n with
 |zero=>show Ta1 _ _ _ (step s)=_;rw[h]
 |succ n=>show Ta1 _ _ _ (step s)=_;rw[h]
inductive Sk where
 |unk
 |u
 |nil
 |bool
 |int (k:IntKind)
 |lit (k:IntKind) (n:Int)
 |blit (x:Bool)
 |tree (es:Nat)
 |ptr (id i c g:Nat)
 |sl (id g:Nat) (off n:Option Nat)
 |fn (f:Nat)
 |val
def toV:a7->Value
 |.v x=>x
 |_=>.tuple #[]
def ie9:a7->ByteArray
 |.v (.string s)=>s
 |_=>⟨#[]⟩
def slO:a7->Nat
 |.sl _ off _ _=>off
 |_=>0
def slN:a7->Nat
 |.sl _ _ n _=>n
 |_=>0
@[reducible] def oN(o:Option Nat)(x:Nat):Nat:=Option.rec (motive:=λ_=>Nat) x (λy=>y) o
@[reducible] def okN(o:Option Nat)(x:Nat):Bool:=Option.rec (motive:=λ_=>Bool) true (λy=>Nat.beq y x) o
def ld2:Sk->a7->Bool
 |.unk,.unk=>true
 |.u,.v (.tuple a)=>List.rec (motive:=λ_=>Bool) true (λ_ _ _=>false) a.toList
 |.nil,.v (.slice none 0 0)=>true
 |.bool,.v (.bool _)=>true
 |.int k,.v (.int k' _)=>decide (k=k')
 |.lit k n,.v (.int k' m)=>Bool.and (decide (k=k')) (decide (n=m))
 |.blit x,.v (.bool y)=>Bool.rec (!y) y x
 |.tree es,.tree es' _ _=>Nat.beq es es'
 |.ptr id i c g,.ptr id' i' c' g'=>Bool.and (Bool.and (Nat.beq id id') (Nat.beq i i')) (Bool.and (Nat.beq c c') (Nat.beq g g'))
 |.sl id g off n,.sl id' off' n' g'=>Bool.and (Bool.and (Nat.beq id id') (Nat.beq g g')) (Bool.and (okN off off') (okN n n'))
 |.fn f,.fn f' []=>Nat.beq f f'
 |.val,.v (.string _)=>true
 |_,_=>false
def Fd3:Sk->a7->a7
 |.unk,_=>.unk
 |.u,_=>.v (.tuple #[])
 |.nil,_=>.v (.slice none 0 0)
 |.bool,x=>.v (.bool (toB x))
 |.int k,x=>.v (.int k (toI x))
 |.lit k n,_=>.v (.int k n)
 |.blit y,_=>.v (.bool y)
 |.tree es,x=>.tree es (toN x) (toG x)
 |.ptr id i c g,_=>.ptr id i c g
 |.sl id g off n,x=>.sl id (oN off (slO x)) (oN n (slN x)) g
 |.fn f,_=>.fn f []
 |.val,x=>.v (.string (ie9 x))
theorem wd7{o:Option Nat}{x:Nat}(h:okN o x=true):oN o x=x:=by
 cases o with
 |none=>rfl
 |some y=>exact Qae h
theorem Bc3{k:Sk}{x:a7}(h:ld2 k x=true):x=Fd3 k x:=by
 unfold ld2 at h
 split at h<;>first | rfl | (cases h;done) | skip
 ·rename_i a;obtain⟨l⟩:=a;cases l with
  |nil=>rfl
  |cons=>cases h
 ·rw[of_decide_eq_true h];rfl
 ·simp only[Qbd,decide_eq_true_eq] at h;rw[h.1,h.2];rfl
 ·rename_i a c;cases a<;>cases c<;>first | rfl | cases h
 ·rw[Qae h];rfl
 ·simp only[Qbd] at h;obtain⟨⟨h1,h2⟩,h3,h4⟩:=h;rw[Qae h1,Qae h2,Qae h3,Qae h4];rfl
 ·rename_i id g off n id' off' n' g';simp only[Qbd] at h;obtain⟨⟨h1,h2⟩,h3,h4⟩:=h;rw[<- Qae h1,<- Qae h2];show a7.sl id off' n' g=.sl id (oN off off') (oN n n') g;rw[wd7 h3,wd7 h4]
 ·rw[Qae h];rfl
inductive Sl where
 |s (k:Sk)
 |agg (l:List Sk)
 |tup (l:List Sk)
 |fn (f:Nat) (l:List Sk)
def cellsOf:a7->List a7
 |.agg l=>l
 |.tup l=>l
 |.fn _ l=>l
 |_=>[]
@[reducible] def hdR(l:List (List a7)):List a7:=List.rec (motive:=λ_=>List a7) [] (λx _ _=>x) l
@[reducible] def tlR(l:List (List a7)):List (List a7):=List.rec (motive:=λ_=>List (List a7)) [] (λ_ r _=>r) l
structure Bk where
 et:Nat
 es:Nat
 own:Bool
 rows:Option (List (List Sk))
@[reducible] def eqB(a c:Bool):Bool:=Bool.rec (!c) c a
@[reducible] def hdB(l:List a8):List (List a7):=List.rec (motive:=λ_=>List (List a7)) [] (λx _ _=>x.elems) l
@[reducible] def tlB(l:List a8):List a8:=List.rec (motive:=λ_=>List a8) [] (λ_ r _=>r) l
inductive V2 {α:Type} (P:α->Prop):List α->Prop
 |nil:V2 P []
 |cons {x:α} {l:List α} (h:P x) (t:V2 P l):V2 P (x::l)
theorem V2.mem{α:Type}{P:α->Prop}{l:List α}(h:V2 P l):∀x,x∈l->P x:=by
 induction h with
 |nil=>intro x h;cases h
 |cons h t ih =>
  simp_all
structure Alt(π σ:Type) where
 sh:List Sl
 bl:List Bk
 rd:List a7->List a8->π×σ
def ra(n:Nat)(l:List a7):List a7:=Nat.rec (motive:=λ_=>List a7) l (λ_ ih=>.unk::ih) n
def ru(n:Nat)(l:List Sl):List Sl:=Nat.rec (motive:=λ_=>List Sl) l (λ_ ih=>.s .unk::ih) n
def Fd4(k:Nat)(res:List qb5)(s:St):DT (a7×List a8) :=
 match ra0 (ra6 s.a s.H) res with
 |some l=>Ra4 k s.H (Ea9 l)
 |none=>.fail
def cut(k:Nat)(res:List qb5)(r:c7×St):DT (c7×St) :=
 c7.rec (motive:=λ_=>DT (c7×St)) (.ret (.normal,r.2)) (λid=>.ret (.exit id,r.2)) ((Fd4 k res r.2).bind λq=>.ret (.ret,⟨[q.1],q.2⟩)) r.1
def Bc4(E:Env)(k:Nat)(res:List qb5)(c:PS):St->DT (c7×St) :=
 PS.rec (motive:=λ_=>St->DT (c7×St))
  (λc s=>(p7 E k c s).bind (cut k res))
  (λ_ _ x y s=>(x s).bind λr=>c7.rec (motive:=λ_=>DT (c7×St)) (y r.2) (λid=>.ret (.exit id,r.2)) (.ret (.ret,r.2)) r.1)
  (λc _ _ x y s=>match b9 E s.a c with
   |.v (.bool b)=>.ite b (x s) (y s)
   |_=>.fail)
  (λid _ x s=>(x s).bind λr=>c7.rec (motive:=λ_=>DT (c7×St)) (.ret (.normal,r.2))
   (λid'=>Bool.rec (.ret (.exit id',r.2)) (.ret (.normal,r.2)) (Nat.beq id' id)) (.ret (.ret,r.2)) r.1)
  (λkeep _ x=>Qa2 (λs=>tidy k ⟨B6 keep s.a 0,s.H⟩) x E.N)
  (λS=>S) c
section
variable{k:Nat}{res:List qb5}
inductive FR (k:Nat) (res:List qb5):c7×St->c7×St->Prop
 |same (x:c7) (s:St) (h:x≠.ret):FR k res (x,s) (x,s)
 |ret (s:St) (q:a7×List a8) (h:(Fd4 k res s).run=some q):FR k res (.ret,⟨[q.1],q.2⟩) (.ret,s)
def H5(k:Nat)(res:List qb5)(x y:DT (c7×St)):Prop:=∀r,x.run=some r->∃r',y.run=some r'/\FR k res r r'
theorem H5.bind{x y:DT (c7×St)}{f g:c7×St->DT (c7×St)}(h:H5 k res x y)(hf:∀r r',FR k res r r'->H5 k res (f r) (g r')):H5 k res (x.bind f) (y.bind g):=λr hr=>by
 obtain⟨a,h1,h2⟩:=DT.run_bind_some hr;obtain⟨a',h3,h4⟩:=h a h1;obtain⟨r',h5,h6⟩:=hf a a' h4 r h2;exact⟨r',by rw[DT.run_bind,h3];exact h5,h6⟩
theorem H5.ite{b:Bool}{x y x' y':DT (c7×St)}(h:H5 k res x x')(h':H5 k res y y'):H5 k res (.ite b x y) (.ite b x' y'):=λr hr=>by
 rw[DT.run_ite] at hr;rw[DT.run_ite]
 split at hr
 ·next hb=>simpa [hb] using h r hr
 ·next hb=>simpa [hb] using h' r hr
theorem H5.one{r r':c7×St}(h:FR k res r r'):H5 k res (.ret r) (.ret r'):=λa ha=>by
 cases ha;exact⟨r',rfl,h⟩
theorem H5.cut(x:DT (c7×St)):H5 k res (x.bind (cut k res)) x:=λr hr=>by
 obtain⟨⟨a,s⟩,h1,h2⟩:=DT.run_bind_some hr;refine⟨(a,s),h1,?_⟩;cases a with
 |normal=>cases h2;exact .same _ _ (λh=>by cases h)
 |exit id=>cases h2;exact .same _ _ (λh=>by cases h)
 |ret =>
  obtain⟨q,h3,h4⟩:=DT.run_bind_some h2;cases h4;exact .ret s q h3
theorem Ta2{head:St->DT St}{body body':St->DT (c7×St)}(h:∀s,H5 k res (body s) (body' s)):∀n s,H5 k res (Qa2 head body n s) (Qa2 head body' n s)
 |0,s=>λr hr=>by cases hr
 |n+1,s=>by
  intro r hr;obtain⟨t,h1,h2⟩:=DT.run_bind_some hr
  have:H5 k res ((body t).bind λr=>c7.rec (motive:=λ_=>DT (c7×St)) (Qa2 head body n r.2) (λid=>.ret (.exit id,r.2)) (.ret (.ret,r.2)) r.1) ((body' t).bind λr=>c7.rec (motive:=λ_=>DT (c7×St)) (Qa2 head body' n r.2) (λid=>.ret (.exit id,r.2)) (.ret (.ret,r.2)) r.1):=by
   refine (h t).bind λa a' ha=>?_
   cases ha with
   |same x s hx =>
    cases x with
    |normal=>exact Ta2 h n s
    |exit id=>exact .one (.same _ _ hx)
    |ret=>exact absurd rfl hx
   |ret s q hq=>exact .one (.ret s q hq)
  obtain⟨r',h3,h4⟩:=this r h2;refine⟨r',?_,h4⟩;show ((head s).bind λs=>(body' s).bind _).run=_
  rw[DT.run_bind,h1];exact h3
inductive P5 (E:Env) (k:Nat) (res:List qb5):PS->PC->Prop
 |pc (c:PC):P5 E k res (.pc c) c
 |seq {a b:PS} {a' b':PC} (h:P5 E k res a a') (h':P5 E k res b b'):P5 E k res (.seq a b) (.seq a' b')
 |cond (c:Arg) {a b:PS} {a' b':PC} (h:P5 E k res a a') (h':P5 E k res b b'):P5 E k res (.cond c a b) (.cond c a' b')
 |block (id:Nat) {a:PS} {a':PC} (h:P5 E k res a a'):P5 E k res (.block id a) (.block id a')
 |loop (keep:List Nat) {a:PS} {a':PC} (h:P5 E k res a a'):P5 E k res (.loop keep a) (.loop keep a')
 |sum {S:St->DT (c7×St)} {c:PC} (h:∀s,H5 k res (S s) (p7 E k c s)):P5 E k res (.sum S) c
theorem P5.le{E:Env}{a:PS}{c:PC}(h:P5 E k res a c):∀s,H5 k res (Bc4 E k res a s) (p7 E k c s):=by
 induction h with
 |pc c=>exact λs=>.cut _
 |seq h h' ih ih' =>
  intro s;refine (ih s).bind λr r' hr=>?_
  cases hr with
  |same x s hx =>
   cases x with
   |normal=>exact ih' s
   |exit id=>exact .one (.same _ _ hx)
   |ret=>exact absurd rfl hx
  |ret s q hq=>exact .one (.ret s q hq)
 |cond c h h' ih ih' =>
  intro s;show H5 k res (match b9 E s.a c with | .v (.bool b)=>_ | _=>_) (match b9 E s.a c with | .v (.bool b)=>_ | _=>_)
  split
  ·exact .ite (ih s) (ih' s)
  ·exact λr hr=>by cases hr
 |block id h ih =>
  intro s;refine (ih s).bind λr r' hr=>?_
  cases hr with
  |same x s hx =>
   cases x with
   |normal=>exact .one (.same _ _ λh=>by cases h)
   |exit id' =>
    show H5 k res (Bool.rec (.ret (.exit id',s)) (.ret (.normal,s)) (Nat.beq id' id)) (Bool.rec (.ret (.exit id',s)) (.ret (.normal,s)) (Nat.beq id' id));cases Nat.beq id' id with
    |false=>exact .one (.same _ _ hx)
    |true=>exact .one (.same _ _ λh=>by cases h)
   |ret=>exact absurd rfl hx
  |ret s q hq=>exact .one (.ret s q hq)
 |loop keep h ih=>exact λs=>Ta2 ih _ s
 |sum h=>exact h
end
def Fd5(E:Env)(fn:PFn)(body:PS)(args:List a7)(blks:List a8):DT (a7×List a8) :=
 (Bc4 E (len blks) fn.res body ⟨app args (List.replicate (fn.ntmps-len args) (.v (.tuple #[]))),blks⟩).bind λr =>
  c7.rec (motive:=λ_=>DT (a7×List a8)) (Fd4 (len blks) fn.res r.2) (λ_=>.fail) (.ret (hdA r.2.a,r.2.H)) r.1
theorem uc9{E:Env}{fn:PFn}{body:PS}{args:List a7}{blks:List a8}(h:P5 E (len blks) fn.res body fn.body):E8 (Fd5 E fn body args blks) (i7 E fn args blks):=λr hr=>by
 obtain⟨a,h1,h2⟩:=DT.run_bind_some hr;obtain⟨a',h3,h4⟩:=h.le _ a h1;show ((p7 E (len blks) fn.body _).bind _).run=_;rw[DT.run_bind,h3];cases h4 with
 |same x s hx =>
  cases x with
  |normal=>exact h2
  |exit id=>cases h2
  |ret=>exact absurd rfl hx
 |ret s q hq =>
  cases h2;exact hq
theorem ALe.nilTree(es:Nat)(get:Nat->List a7):ALe (.v (.slice none 0 0)) (.tree es 0 get):=λρ H F w v h=>by
 have:=D8 h
 subst this;exact .val (.cell (.mem (.nil es get)))
theorem ALe.emptyTree(es:Nat)(get:Nat->List a7)(a:Addr)(c:Nat):ALe (.v (.slice (some a) 0 c)) (.tree es 0 get):=λρ H F w v h=>by
 have:=D8 h
 subst this;exact .val (.cell (.mem (.tree es 0 get a c (λ_ _=>.tuple #[]) (λh=>absurd h (by omega)) (Nat.zero_le _) (λi h=>absurd h (by omega)) (λi c h=>absurd h (by omega)) (λi c h=>absurd h (by omega)) (λi c h=>absurd h (by omega)))))
section
variable{α:Type}{row:α->List a7}{isr:List a7->Bool}{rd:List a7->α}{d:α}
theorem Sc6{β:Type}(f:α->β)(l:List α):len (i9 f l)=l.length:=by rw[i5,g9,List.length_map]
theorem lc1(row:α->List a7)(d:α){l:List α}{k:Nat}(h:k<l.length):k8 (i9 row l) k=row (l.getD k d):=by
 unfold k8;rw[n4,g9,Qbm,Qda,Qaa h];rfl
theorem Sc7(row:α->List a7)(l r:List α):app (i9 row l) (i9 row r)=i9 row (l++r):=by
 rw[z7,g9,g9,g9,List.map_append]
theorem vc0(row:α->List a7)(l:List α)(k:Nat)(x:α):setAt (i9 row l) k (row x)=i9 row (l.set k x):=by
 rw[n9,g9,g9,List.map_set]
end
section
variable{α β γ δ ε ζ:Type}
variable{P:Program}{G:Nat->List Value}{f:FuncId}{R:Sum}{c:Cod α}{d:Cod β}{e:Cod γ}{c4:Cod δ}{c5:Cod ε}{c6:Cod ζ}
end
section
variable{W:Nat->Prop}{ρ:Rho}{H H':List a8}{F:Fz}{w:World}
def X6(H:List a8):a7->Option (a7×List a8)
 |.agg cs=>match freezeCells H cs with
  |some (zs,H')=>some (.agg zs,H')
  |none=>none
 |x=>freezeCell H x
theorem Ib9(hH:n7 W ρ H F w){y z:a7}{y':Value}(hy:J1 ρ H F w y y')(he:X6 H y=some (z,H')) :
  ∃F',Adv W ρ H F w ρ H' F' w/\n7 W ρ H' F' w/\∀ρ2 H2 F2,(∀b o,F' b o->F2 b o)->J1 ρ2 H2 F2 w z y':=by
 have cell:∀{y:a7},D4 ρ H F w y y'->freezeCell H y=some (z,H')->∃F',Adv W ρ H F w ρ H' F' w/\n7 W ρ H' F' w/\∀ρ2 H2 F2,(∀b o,F' b o->F2 b o)->J1 ρ2 H2 F2 w z y':=λ{y} hy he=>by
  obtain⟨F',h1,h2,h3,_⟩:=bb4 hH hy he;exact⟨F',h1,h2,λρ2 H2 F2 hF=>.cell (.mem (h3.adv hF λ_ _ _=>rfl))⟩
 cases y with
 |agg cs =>
  simp only[X6] at he;cases hf:freezeCells H cs with
  |none=>rw[hf] at he;cases he
  |some q =>
   obtain⟨zs,H1⟩:=q;rw[hf] at he;have he:some (a7.agg zs,H1)=some (z,H'):=he;injection he with he;injection he with e1 e2
   subst e1 e2;obtain⟨vs,rfl,hl,hr⟩:=U1 (.val hy);obtain⟨F',h1,h2,h3,h4,_⟩:=xa7 hH (vs:=vs.toList) (by simpa using hl) (λi y y' h h'=>hr i y y' h (by simpa using h')) hf
   refine⟨F',h1,h2,λρ2 H2 F2 hF=>.agg _ _ (by simpa [h3] using hl) λi x x' hx hx'=>.mem ((h4 i x x' hx (by simpa using hx')).adv hF λ_ _ _=>rfl)⟩
 |v u=>cases hy with | cell h=>exact cell h he
 |tree es n get=>cases hy with | cell h=>exact cell h he
 |sl id off n g=>cases hy with | cell h=>exact cell h he
 |ptr id i c g=>cases he
 |tptr cs=>cases he
 |unk=>cases he
 |tup l=>cases he
 |fn f caps =>
  cases hy with
  |cell h=>exact cell h he
  |fn f caps vs hl h =>
   have he':freezeCell H (.fn f caps)=some (z,H'):=he;simp only[freezeCell] at he';cases hb:V0 Oa6 caps with
   |false=>simp[hb] at he'
   |true =>
    simp only[hb] at he';injection he' with he';injection he' with e1 e2
    subst e1 e2;have hm:=Ac8 (f:=f) hl h hb;exact⟨F,.refl,hH,λρ2 H2 F2 hF=>.cell (.mem (hm.adv hF λ_ _ _=>rfl))⟩
def ya4(H:List a8):List a7->Option (List a7×List a8)
 |[]=>some ([],H)
 |x::r=>match X6 H x with
  |some (y,H1)=>match ya4 H1 r with
   |some (l,H2)=>some (y::l,H2)
   |none=>none
  |none=>none
theorem xb3:∀{ys zs:List a7} {vs:List Value} {H H':List a8} {F:Fz},n7 W ρ H F w->ys.length=vs.length->(∀(i:Nat) y y',ys[i]?=some y->vs[i]?=some y'->J1 ρ H F w y y')->ya4 H ys=some (zs,H') ->
  ∃F',Adv W ρ H F w ρ H' F' w/\n7 W ρ H' F' w/\zs.length=ys.length/\∀(i:Nat) z y',zs[i]?=some z->vs[i]?=some y'->∀ρ2 H2 F2,(∀b o,F' b o->F2 b o)->J1 ρ2 H2 F2 w z y'
 |[],zs,vs,H,H',F,hH,hl,hy,he=>by
  injection he with he;injection he with e1 e2
  subst e1 e2;exact⟨F,.refl,hH,rfl,λi z y' h=>by simp at h⟩
 |y::r,zs,[],H,H',F,hH,hl,hy,he=>by simp at hl
 |y::r,zs,v::vs,H,H',F,hH,hl,hy,he=>by
  simp only[ya4] at he;cases h1:X6 H y with
  |none=>rw[h1] at he;cases he
  |some q =>
  obtain⟨z,H1⟩:=q;rw[h1] at he;cases h2:ya4 H1 r with
  |none=>simp only[h2] at he;cases he
  |some q2 =>
  obtain⟨zs2,H2⟩:=q2;simp only[h2] at he;injection he with he;injection he with e1 e2
  subst e1 e2;obtain⟨F1,a1,a2,a3⟩:=Ib9 hH (hy 0 y v rfl rfl) h1;obtain⟨F2,b1,b2,b3,b4⟩:=xb3 (ys:=r) (vs:=vs) a2 (by simpa using hl) (λi y y' hy1 hy2=>(hy (i+1) y y' (by simpa using hy1) (by simpa using hy2)).adv a1) h2
  refine⟨F2,a1.trans b1,b2,by simp[b3],λi z' y' hz hy'=>?_⟩
  cases i with
  |zero =>
   simp at hz hy'
   subst hz hy';exact λρ3 H3 F3 hF=>a3 ρ3 H3 F3 λb o hb=>hF b o (b1.more b o hb)
  |succ i=>exact b4 i z' y' (by simpa using hz) (by simpa using hy')
def rb5(H:List a8):a7->Option a7
 |.tup l=>match ya4 H l with
  |some (zs,_)=>some (.tup zs)
  |none=>none
 |x=>match X6 H x with
  |some (z,_)=>some z
  |none=>none
theorem n7.less(hH:n7 W ρ H F w):n7 W ρ [] F w:=⟨λid b h=>by simp at h,λid id' b b' h=>by simp at h,hH.frz,hH.new⟩
theorem Adv.less{ρ':Rho}{F':Fz}{w':World}(h:Adv W ρ [] F w ρ' H' F' w'):Adv W ρ [] F w ρ' [] F' w' :=
 ⟨h.ext,λid b hb=>by simp at hb,h.more,h.new,λid b hb=>by simp at hb⟩
theorem Jc4{out:List a8}{x z:a7}{x':Value}{w':World}(hp:s8 W ρ [] F w x out x' w')(he:rb5 out x=some z):s8 W ρ [] F w z [] x' w':=by
 obtain⟨ρ',F',h1,h2,h3⟩:=hp;have one:∀{y:a7},J1 ρ' out F' w' y x'->(match X6 out y with | some (z,_)=>some z | none=>none)=some z->s8 W ρ [] F w z [] x' w':=λ{y} hy he=>by
  cases hf:X6 out y with
  |none=>rw[hf] at he;cases he
  |some q =>
   obtain⟨z1,H1⟩:=q;rw[hf] at he;have he:some z1=some z:=he;injection he with he;subst he;obtain⟨F2,a1,a2,a3⟩:=Ib9 h2 hy hf;exact⟨ρ',F2,(h1.trans a1).less,a2.less,.val (a3 _ _ _ λ_ _ h=>h)⟩
 cases h3 with
 |val h =>
  cases x with
  |tup l=>cases h with | cell h=>cases h with | mem h=>cases h
  |_=>exact one h he
 |tup xs vs hl h =>
  simp only[rb5] at he;cases hf:ya4 out xs with
  |none=>rw[hf] at he;cases he
  |some q =>
   obtain⟨zs,H1⟩:=q;rw[hf] at he;have he:some (a7.tup zs)=some z:=he;injection he with he;subst he;obtain⟨F2,a1,a2,a3,a4⟩:=xb3 (vs:=vs.toList) h2 (by simpa using hl) (λi y y' hy hy'=>h i y y' hy (by simpa using hy')) hf
   exact⟨ρ',F2,(h1.trans a1).less,a2.less,.tup _ _ (by simpa [a3] using hl) λi x x' hx hx'=>a4 i x x' hx (by simpa using hx') _ _ _ λ_ _ h=>h⟩
theorem s8.le{out:List a8}{x y:a7}{x':Value}{w':World}(hp:s8 W ρ H F w x out x' w')(h:ALe x y):s8 W ρ H F w y out x' w':=by
 obtain⟨ρ',F',h1,h2,h3⟩:=hp;exact⟨ρ',F',h1,h2,h _ _ _ _ _ h3⟩
end
def Ub7(x:a7)(out:List a8)(y:a7):Prop:=∃z,rb5 out x=some z/\ALe z y
theorem c8.conv{P:Program}{G:Nat->List Value}{f:FuncId}{S S':Sum}(h:c8 P G f S)
  (hr:∀args blks y out,(S' args blks).run=some (y,out)->blks=[]/\out=[]/\∃x o,(S args []).run=some (x,o)/\Ub7 x o y):c8 P G f S':=by
 intro args blks y out he W ρ F w args' hH hlen hargs hG;obtain⟨rfl,rfl,x,o,h1,z,h2,h3⟩:=hr args blks y out he;obtain⟨h4,h5⟩:=h args [] x o h1 W ρ F w args' hH hlen hargs hG;exact⟨h4,h5.mono λe w' ⟨r',h6,h7⟩=>⟨r',h6,(Jc4 h7 h2).le h3⟩⟩
section
variable{α β γ:Type}{P:Program}{G:Nat->List Value}{f:FuncId}{c:Cod α}{d:Cod β}{e:Cod γ}
theorem Jc5{k k':α->DT (a7×List a8)}(h:c8 P G f (G7 c k))(hk:∀a y out,(k' a).run=some (y,out)->out=[]/\∃x o,(k a).run=some (x,o)/\Ub7 x o y):c8 P G f (G7 c k'):=h.conv λargs blks y out hr=>by
 unfold G7 at hr
 split at hr
 ·obtain⟨a,h1,hr⟩:=K3 hr;obtain⟨g1,hr⟩:=DT.run_guard_some hr;obtain⟨e1,x,o,e2,e3⟩:=hk a y out hr;refine⟨rfl,e1,x,o,?_,e3⟩;simp only[G7,h1,onO,g1];exact e2
 ·cases hr
theorem Jc6{k k':α->β->DT (a7×List a8)}(h:c8 P G f (va0 c d k))(hk:∀a b y out,(k' a b).run=some (y,out)->out=[]/\∃x o,(k a b).run=some (x,o)/\Ub7 x o y):c8 P G f (va0 c d k'):=h.conv λargs blks y out hr=>by
 unfold va0 at hr
 split at hr
 ·obtain⟨a,h1,hr⟩:=K3 hr;obtain⟨b,h2,hr⟩:=K3 hr;obtain⟨g1,hr⟩:=DT.run_guard_some hr;obtain⟨g2,hr⟩:=DT.run_guard_some hr;obtain⟨e1,x,o,e2,e3⟩:=hk a b y out hr;refine⟨rfl,e1,x,o,?_,e3⟩;simp only[va0,h1,h2,onO,g1,g2];exact e2
 ·cases hr
theorem Jc7{k k':α->β->γ->DT (a7×List a8)}(h:c8 P G f (Ab0 c d e k))(hk:∀a b g y out,(k' a b g).run=some (y,out)->out=[]/\∃x o,(k a b g).run=some (x,o)/\Ub7 x o y):c8 P G f (Ab0 c d e k'):=h.conv λargs blks y out hr=>by
 unfold Ab0 at hr
 split at hr
 ·obtain⟨a,h1,hr⟩:=K3 hr;obtain⟨b,h2,hr⟩:=K3 hr;obtain⟨g,h3,hr⟩:=K3 hr;obtain⟨g1,hr⟩:=DT.run_guard_some hr;obtain⟨g2,hr⟩:=DT.run_guard_some hr;obtain⟨g3,hr⟩:=DT.run_guard_some hr;obtain⟨e1,x,o,e2,e3⟩:=hk a b g y out hr;refine⟨rfl,e1,x,o,?_,e3⟩;simp only[Ab0,h1,h2,h3,onO,g1,g2,g3];exact e2
 ·cases hr
end
theorem ALe.tup{xs ys:List a7}(hl:xs.length=ys.length)(h:∀(i:Nat) x y,xs[i]?=some x->ys[i]?=some y->∀ρ H F w v,J1 ρ H F w x v->J1 ρ H F w y v):ALe (.tup xs) (.tup ys):=λρ H F w v hv=>by
 cases hv with
 |val hv=>cases hv with | cell hv=>cases hv with | mem hv=>cases hv
 |tup _ vs hl2 hv =>
  refine .tup _ _ (hl ▸ hl2) λi y v' hy hv'=>?_
  grind
theorem J1.treeLe{es n:Nat}{get get':Nat->List a7}(he:∀k,k<n->get' k=get k){ρ:Rho}{H:List a8}{F:Fz}{w:World}{v:Value}(h:J1 ρ H F w (.tree es n get) v):J1 ρ H F w (.tree es n get') v :=
 .cell (.mem ((P2 (.val h)).get he))
end Go.Ev
namespace Go.Ev.L
open Go Go.Ev
def cl(p:Prop):Bool:=@decide p (Classical.propDecidable p)
theorem ld3{p:Prop}(h:p):cl p=true:=@decide_eq_true _ (Classical.propDecidable p) h
theorem wd8{p:Prop}(h:cl p=true):p:=@of_decide_eq_true _ (Classical.propDecidable p) h
def sl{α:Type}(c:Bool)(t e:α):α:=Bool.rec (motive:=λ_=>α) e t c
theorem D9{α:Type}(t e:α):sl true t e=t:=rfl
theorem lc2{α:Type}(t e:α):sl false t e=e:=rfl
theorem fb9{α:Type}(c:Bool)(t e:α):sl c t e=if c=true then t else e:=by cases c<;>rfl
theorem wd9{α β:Type}{f:α->β}{c:Bool}{A B:α}{a b:β}(hA:f A=a)(hB:f B=b):f (sl c A B)=sl c a b:=by cases c<;>assumption
structure CLe(x y:a7):Prop where
 m:∀F w v,D7 F w x v->D7 F w y v
 c:∀ρ H F w v,D4 ρ H F w x v->D4 ρ H F w y v
theorem CLe.refl(x:a7):CLe x x:=⟨λ_ _ _ h=>h,λ_ _ _ _ _ h=>h⟩
theorem CLe.of{x y:a7}(h:x=y):CLe x y:=h ▸ .refl x
inductive Ta3:List a7->List a7->Prop
 |nil:Ta3 [] []
 |cons {x y l r} (h:CLe x y) (t:Ta3 l r):Ta3 (x::l) (y::r)
theorem Ta3.refl:∀l,Ta3 l l
 |[]=>.nil
 |x::l=>.cons (.refl x) (Ta3.refl l)
theorem Ta3.of{l r:List a7}(h:l=r):Ta3 l r:=h ▸ .refl l
theorem Ta3.length{l r}(h:Ta3 l r):l.length=r.length:=by induction h<;>simp_all
theorem Ta3.get{l r}(h:Ta3 l r):∀(i:Nat) y,r[i]?=some y->∃x,l[i]?=some x/\CLe x y:=by
 induction h with
 |nil=>intro i y hy;simp at hy
 |cons h t ih =>
  grind
theorem Sc8{F:Fz}{w:World}{es n:Nat}{get get':Nat->List a7}{v:Value}(h:D7 F w (.tree es n get) v)(he:∀k,k<n->Ta3 (get k) (get' k)):D7 F w (.tree es n get') v:=by
 cases h with
 |tree _ _ _ a cap cs hs hcap hes hF hw hr =>
  refine .tree es n get' a cap cs hs hcap (λi hi=>by rw[<- (he i hi).length];exact hes i hi) hF hw (λi c hi hc=>?_)
  obtain⟨x,hx,hle⟩:=(he i hi).get c _ (Qaa hc);have hc':c<(get i).length:=(Qab.1 hx).1
  have:=hr i c hi hc'
  have e:(get i)[c]=x:=by
   grind
  rw[e] at this;exact hle.m _ _ _ this
 |nil=>exact .nil _ _
theorem CLe.tree{es n:Nat}{get get':Nat->List a7}(he:∀k,k<n->Ta3 (get k) (get' k)):CLe (.tree es n get) (.tree es n get') :=
 ⟨λ_ _ _ h=>Sc8 h he,λ_ _ _ _ _ h=>by cases h with | mem h=>exact .mem (Sc8 h he)⟩
theorem CLe.nilTree(es:Nat)(get:Nat->List a7):CLe (.v (.slice none 0 0)) (.tree es 0 get) :=
 ⟨λ_ _ _ h=>by cases h;exact .nil es get,λ_ _ _ _ _ h=>by cases h with
  |mem h=>cases h;exact .mem (.nil es get)
  |v=>exact .mem (.nil es get)⟩
theorem CLe.ale{x y:a7}(h:CLe x y)(hx:∀(ρ:Rho) H F w v,o5 ρ H F w x v->D4 ρ H F w x v):ALe x y:=λρ H F w v hv=>.val (.cell (h.c _ _ _ _ _ (hx ρ H F w v hv)))
theorem ALe.rows{es n:Nat}{get get':Nat->List a7}(he:∀k,k<n->Ta3 (get k) (get' k)):ALe (.tree es n get) (.tree es n get'):=λ_ _ _ _ _ h=>.val (.cell (.mem (Sc8 (P2 h) he)))
structure Ty(α:Type) where
 es:Nat
 row:α->List a7
 rd:List a7->α
 ok:List a7->Bool
 cks:List CK
 d:α
 h0:∀x,len (row x)=es
 h1:∀x,rd (row x)=x
 h2:∀x,ok (row x)=true
 h3:∀r,ok r=true->Ta3 r (row (rd r))
 h4:∀x,Qa6 cks (row x)=true
 h5:∀x,g8 (row x) 0=row x
section
variable{α:Type}(t:Ty α)
@[reducible] def gL(l:List α)(k:Nat):α:=l.getD k t.d
@[reducible] def eL(l:List α):a7:=.tree t.es l.length (λk=>t.row (gL t l k))
def lsL(n:Nat)(get:Nat->List a7):List α:=(List.range n).map λk=>t.rd (get k)
def okL(n:Nat)(get:Nat->List a7):Bool:=(List.range n).all λk=>t.ok (get k)
def rL(v:a7):List α:=lsL t (toN v) (toG v)
def nL(v:a7):a7:=eL t (rL t v)
def Sc9(f:a7->a7)(x:a7):Bool:=cl (x=f x)
def rt(l:List α):List α:=rL t (eL t l)
def okE(l:List α):Bool:=okL t (toN (eL t l)) (toG (eL t l))
def cnE(l:List α):Bool:=Sc9 (nL t) (eL t l)
def bL(l:List α):List (List a7):=i9 t.row l
def rdR(el:List (List a7))(j:Nat):α:=t.rd (g8 (k8 el j) 0)
def ldR(el:List (List a7))(j:Nat):Bool:=Bool.and (Bool.and (Nat.blt j (len el)) (Nat.ble (0+t.es) (len (k8 el j)))) (Qa6 t.cks (g8 (k8 el j) 0))
def slR(el:List (List a7))(off n:Nat):List α:=lsL t n λk=>k8 el (off+k)
def okS(el:List (List a7))(off n:Nat):Bool:=okL t n λk=>k8 el (off+k)
theorem Bc5(n:Nat)(get:Nat->List a7):(lsL t n get).length=n:=by simp[lsL]
theorem Bc6{n k:Nat}(get:Nat->List a7)(h:k<n):gL t (lsL t n get) k=t.rd (get k):=by
 simp[gL,lsL,Qda,Qbm,List.getElem?_range h]
theorem Jb0{n:Nat}{get:Nat->List a7}{l:List α}(hn:n=l.length)(h:∀k,k<n->get k=t.row (gL t l k)):lsL t n get=l:=by
 apply List.ext_getElem
 ·simp[lsL,hn]
 ·intro k h1 h2;have hk:k<n:=by omega
  simp[lsL,h k hk,t.h1,gL,Qda,Qaa h2]
theorem Ma3{n:Nat}{get:Nat->List a7}{f:Nat->α}(h:∀k,k<n->get k=t.row (f k)):okL t n get=true:=by
 unfold okL;rw[Qcf];intro k hk;have hk:k<n:=by simpa using hk
 rw[h k hk];exact t.h2 _
theorem r7(l:List α):rt t l=l:=Jb0 t rfl λ_ _=>rfl
theorem Ta4(l:List α):okE t l=true:=Ma3 t (f:=λk=>gL t l k) λ_ _=>rfl
theorem p9(l:List α):cnE t l=true:=ld3 (by unfold nL;rw[show rL t (eL t l)=l from r7 t l])
theorem Ma4(l:List α):len (bL t l)=l.length:=Sc6 _ _
theorem W7{l:List α}{k:Nat}(h:k<l.length):k8 (bL t l) k=t.row (gL t l k):=lc1 t.row t.d h
theorem vc1{l:List α}{k:Nat}(h:k<l.length):rdR t (bL t l) k=gL t l k:=by unfold rdR;rw[W7 t h,t.h5,t.h1]
theorem vc2{l:List α}{k:Nat}(h:k<l.length):ldR t (bL t l) k=true:=by
 unfold ldR;rw[W7 t h,t.h5,t.h4,Ma4,t.h0,Qbh,Bool.and_true]
 simp_all
theorem Ta5(l r:List α):app (bL t l) (bL t r)=bL t (l++r):=Sc7 _ _ _
theorem vc3(l:List α):slR t (bL t l) 0 l.length=l:=Jb0 t rfl λk hk=>by rw[Qbh,W7 t hk]
theorem Tc0(l:List α):okS t (bL t l) 0 l.length=true:=Ma3 t (f:=λk=>gL t l k) λk hk=>by rw[Qbh,W7 t hk]
theorem Tc1(l:List α):i9 (λk=>t.row (gL t l k)) (List.range l.length)=bL t l:=by
 unfold bL;rw[g9,g9];apply List.ext_getElem
 ·simp
 simp_all
theorem lc3(l:List α)(k:Nat)(x:α):setAt (bL t l) k (t.row x)=bL t (l.set k x):=vc0 _ _ _ _
theorem treeLe{n:Nat}{get:Nat->List a7}(h:okL t n get=true):CLe (.tree t.es n get) (eL t (lsL t n get)):=by
 unfold eL;rw[Bc5];refine .tree λk hk=>?_
 rw[Bc6 t get hk];exact t.h3 _ (Qcf.1 h k (by simpa using hk))
theorem Bc7{n:Nat}{get:Nat->List a7}(h:okL t n get=true):ALe (.tree t.es n get) (eL t (lsL t n get)):=(treeLe t h).ale λ_ _ _ _ _ h=>.mem (P2 h)
def da6:Cod (List α) where
 enc l:=eL t l
 dec x:=match x with
  |.tree e n get=>Bool.rec (motive:=λ_=>Option (List α)) none (some (lsL t n get)) (Nat.beq e t.es)
  |.v (.slice none 0 0)=>some []
  |.v (.slice (some _) 0 _)=>some []
  |_=>none
 grd x:=match x with
  |.tree _ n get=>okL t n get
  |_=>true
 ok x a hx hg:=by
  split at hx
  ·rename_i e n get;cases hb:Nat.beq e t.es with
   |false=>rw[hb] at hx;cases hx
   |true =>
    rw[hb] at hx;have hx:some (lsL t n get)=some a:=hx;injection hx with hx;subst hx
    have:=Qae hb
    subst this;exact Bc7 t hg
  ·injection hx with hx;subst hx;exact .nilTree _ _
  ·injection hx with hx;subst hx;exact .emptyTree _ _ _ _
  ·cases hx
def hC(get:Nat->List a7):α:=t.rd (get 0)
def tC(n:Nat)(get:Nat->List a7):List α:=lsL t n λk=>get (k+1)
theorem Bc8(a:α)(l:List α):hC t (λk=>t.row (gL t (a::l) k))=a:=t.h1 _
theorem Bc9(a:α)(l:List α):tC t l.length (λk=>t.row (gL t (a::l) k))=l:=Jb0 t rfl λk _=>rfl
theorem lc4(n:Nat)(get:Nat->List a7):lsL t (n+1) get=hC t get::tC t n get:=by
 unfold lsL hC tC lsL;rw[List.range_succ_eq_map];simp
def lc5:Cod (α×List α) where
 enc x:=eL t (x.1::x.2)
 dec x:=match x with
  |.tree e (n+1) get=>Bool.rec (motive:=λ_=>Option (α×List α)) none (some (hC t get,tC t n get)) (Nat.beq e t.es)
  |_=>none
 grd x:=match x with
  |.tree _ n get=>okL t n get
  |_=>false
 ok x a hx hg:=by
  split at hx
  ·rename_i e n get;cases hb:Nat.beq e t.es with
   |false=>rw[hb] at hx;cases hx
   |true =>
    rw[hb] at hx;have hx:some (hC t get,tC t n get)=some a:=hx;injection hx with hx;subst hx
    have:=Qae hb
    subst this;show ALe _ (eL t (hC t get::tC t n get));rw[<- lc4];exact Bc7 t hg
  ·cases hx
def ya5:Cod α where
 enc x:=.agg (t.row x)
 dec x:=match x with
  |.agg cs=>Bool.rec (motive:=λ_=>Option α) none (some (t.rd cs)) (t.ok cs)
  |_=>none
 grd _:=true
 ok x a hx _:=by
  split at hx
  ·rename_i cs;cases hb:t.ok cs with
   |false=>rw[hb] at hx;cases hx
   |true =>
    rw[hb] at hx;have hx:some (t.rd cs)=some a:=hx;injection hx with hx;subst hx;have h3:=t.h3 cs hb;intro ρ H F w v hv;obtain⟨vs,rfl,hl,hr⟩:=U1 hv;refine .val (.agg _ _ (by rw[<- h3.length];exact hl) λi y v' hy hv'=>?_)
    obtain⟨x,hx,hle⟩:=h3.get i y hy;exact hle.c _ _ _ _ _ (hr i x v' hx hv')
  ·cases hx
end
def tLs{α:Type}(t:Ty α):Ty (List α) where
 es:=1
 row l:=[eL t l]
 rd r:=rL t (hdA r)
 ok r:=match r with
  |[.tree e n get]=>Bool.and (Nat.beq e t.es) (okL t n get)
  |[.v (.slice none 0 0)]=>true
  |_=>false
 cks:=[.sl t.es]
 d:=[]
 h0 _:=rfl
 h1 l:=r7 t l
 h2 l:=by
  show Bool.and (Nat.beq t.es t.es) (okL t l.length λk=>t.row (gL t l k))=true
  rw[Nat.beq_refl,Bool.true_and];exact Ma3 t (f:=λk=>gL t l k) λ_ _=>rfl
 h3 r h:=by
  split at h
  ·rename_i e n get;rw[Qbd] at h
   have:=Qae h.1
   subst this;exact .cons (treeLe t h.2) .nil
  ·exact .cons (CLe.nilTree _ _) .nil
  ·cases h
 h4 l:=by
  show Bool.and (Nat.beq t.es t.es) true=true;rw[Nat.beq_refl];rfl
 h5 _:=rfl
def tI:Ty Int where
 es:=1
 row n:=[i n]
 rd r:=toI (hdA r)
 ok r:=match r with
  |[.v (.int .i64 _)]=>true
  |_=>false
 cks:=[.int .i64]
 d:=0
 h0 _:=rfl
 h1 _:=rfl
 h2 _:=rfl
 h3 r h:=by
  split at h
  ·exact .refl _
  ·cases h
 h4 _:=rfl
 h5 _:=rfl
def na3(n:Nat)(l:List a7):Bool:=Nat.rec (motive:=λ_=>List a7->Bool)
 (λl=>List.rec (motive:=λ_=>Bool) true (λ_ _ _=>false) l)
 (λ_ ih l=>List.rec (motive:=λ_=>Bool) false (λx r _=>Bool.and (ab0 (.int .i64) x) (ih r)) l) n l
def Tc2(n:Nat)(l:List a7):List a7:=Nat.rec (motive:=λ_=>List a7->List a7) (λ_=>[]) (λ_ ih l=>i (toI (hdA l))::ih (tlA l)) n l
theorem xa2:∀{n:Nat} {l:List a7},na3 n l=true->l=Tc2 n l
 |0,[],_=>rfl
 |0,x::r,h=>by cases h
 |n+1,[],h=>by cases h
 |n+1,x::r,h=>by
  have h:Bool.and (ab0 (.int .i64) x) (na3 n r)=true:=h;rw[Qbd] at h;show x::r=i (toI x)::Tc2 n r;rw[<- xa2 h.2];have h1:=h.1;cases x with
  |v y=>cases y with
   |int k m =>
    have h1:decide (IntKind.i64=k)=true:=h1;rw[<- of_decide_eq_true h1];rfl
   |_=>cases h1
  |_=>cases h1
inductive Dis (H:List a8):List a8->Prop
 |refl:Dis H H
 |step {H'} (id:Nat) (h:Dis H H'):Dis H (disown H' id)
theorem kb5(H:List a8)(id j g:Nat):blkAt (disown H id) j g=(blkAt H j g).map λb=>if j=id then { b with own:=false } else b:=by
 unfold blkAt disown modAt;cases hb:nth H id with
 |none =>
  grind
 |some c =>
  simp only[n4,n9];by_cases h:j=id
  ·subst h;have hb':H[j]?=some c:=by rw[<- n4];exact hb
   grind
  grind
structure R1(ρ:Type) where
 enc:ρ->a7
 rd:List a8->a7->Option ρ
 d:ρ
 le:∀H x r,rd H x=some r->∃z H',X6 H x=some (z,H')/\Dis H H'/\∀ρ' H2 F w v,J1 ρ' H2 F w z v->J1 ρ' H2 F w (enc r) v
 dis:∀H id x,rd (disown H id) x=rd H x
theorem R1.diss{ρ:Type}(R:R1 ρ){H H':List a8}(h:Dis H H')(x:a7):R.rd H' x=R.rd H x:=by
 induction h with
 |refl=>rfl
 |step id h ih=>rw[R.dis,ih]
theorem CLe.v{x y:a7}(h:CLe x y)(hx:∀(ρ:Rho) H F w v,J1 ρ H F w x v->D4 ρ H F w x v):∀ρ' H2 F w v,J1 ρ' H2 F w x v->J1 ρ' H2 F w y v:=λ_ _ _ _ _ hv=>.cell (h.c _ _ _ _ _ (hx _ _ _ _ _ hv))
def r1K(k:IntKind):R1 Int where
 enc n:=.v (.int k n)
 rd _ x:=match x with
  |.v (.int k' n)=>Bool.rec (motive:=λ_=>Option Int) none (some n) (decide (k=k'))
  |_=>none
 d:=0
 le H x r h:=by
  split at h
  ·rename_i k' n;cases hb:decide (k=k') with
   |false=>rw[hb] at h;cases h
   |true =>
    rw[hb] at h;have h:some n=some r:=h;injection h with h;subst h
    have:=of_decide_eq_true hb
    subst this;exact⟨_,H,rfl,.refl,λ_ _ _ _ _ h=>h⟩
  ·cases h
 dis _ _ _:=rfl
def r1I:R1 Int:=r1K .i64
def r1B:R1 Bool where
 enc n:=b n
 rd _ x:=match x with
  |.v (.bool n)=>some n
  |_=>none
 d:=false
 le H x r h:=by
  split at h
  ·injection h with h;subst h;exact⟨_,H,rfl,.refl,λ_ _ _ _ _ h=>h⟩
  ·cases h
 dis _ _ _:=rfl
theorem Jb1(H:List a8):∀(n:Nat) (l:List a7),na3 n l=true->freezeCells H l=some (l,H)
 |0,[],_=>rfl
 |0,x::r,h=>by cases h
 |n+1,[],h=>by cases h
 |n+1,x::r,h=>by
  have e:=xa2 h;have h:Bool.and (ab0 (.int .i64) x) (na3 n r)=true:=h;rw[Qbd] at h;have e1:x=i (toI x):=(List.cons.inj e).1;simp only[freezeCells];rw[e1];simp only[freezeCell,zb2,Jb1 H n r h.2]
section
variable{α:Type}(t:Ty α)
def r1A(n:Nat)(ht:∀r,na3 n r=true->t.ok r=true):R1 α where
 enc x:=.agg (t.row x)
 rd _ x:=match x with
  |.agg cs=>Bool.rec (motive:=λ_=>Option α) none (some (t.rd cs)) (na3 n cs)
  |_=>none
 d:=t.d
 le H x r h:=by
  split at h
  ·rename_i cs;cases hb:na3 n cs with
   |false=>rw[hb] at h;cases h
   |true =>
    rw[hb] at h;have h:some (t.rd cs)=some r:=h;injection h with h;subst h;have h3:=t.h3 cs (ht cs hb);refine⟨.agg cs,H,?_,.refl,λρ' H2 F w v hv=>?_⟩
    ·simp only[X6,Jb1 H n cs hb]
    ·obtain⟨vs,rfl,hl,hr⟩:=U1 (.val hv);refine .agg _ _ (by rw[<- h3.length];exact hl) λi y v' hy hv'=>?_
     obtain⟨x,hx,hle⟩:=h3.get i y hy;exact hle.c _ _ _ _ _ (hr i x v' hx hv')
  ·cases h
 dis _ _ _:=rfl
def r1L:R1 (List α) where
 enc l:=eL t l
 rd H x:=match x with
  |.v (.slice none 0 0)=>some []
  |.tree e n get=>Bool.rec (motive:=λ_=>Option (List α)) none (some (lsL t n get)) (Bool.and (Nat.beq e t.es) (okL t n get))
  |.sl id off n g=>match blkAt H id g with
   |some b=>Bool.rec (motive:=λ_=>Option (List α)) none (some (slR t b.elems off n)) (Bool.and (Nat.beq b.es t.es) (okS t b.elems off n))
   |none=>none
  |_=>none
 d:=[]
 le H x r h:=by
  split at h
  ·injection h with h;subst h;exact⟨_,H,rfl,.refl,(CLe.nilTree _ _).v λ_ _ _ _ _ h=>by cases h with | cell h=>exact h⟩
  ·rename_i e n get;cases hb:Bool.and (Nat.beq e t.es) (okL t n get) with
   |false=>rw[hb] at h;cases h
   |true =>
    rw[hb] at h;have h:some (lsL t n get)=some r:=h;injection h with h;subst h;rw[Qbd] at hb
    have:=Qae hb.1
    subst this;exact⟨_,H,rfl,.refl,(treeLe t hb.2).v λ_ _ _ _ _ h=>by cases h with | cell h=>exact h⟩
  ·rename_i id off n g;cases hk:blkAt H id g with
   |none=>simp only[hk] at h;cases h
   |some b =>
    simp only[hk] at h;cases hb:Bool.and (Nat.beq b.es t.es) (okS t b.elems off n) with
    |false=>rw[hb] at h;cases h
    |true =>
     rw[hb] at h;have h:some (slR t b.elems off n)=some r:=h;injection h with h;subst h;rw[Qbd] at hb
     have:=Qae hb.1
     refine⟨Qa8 b off n,disown H id,?_,.step id .refl,?_⟩
     ·simp only[X6,freezeCell,hk]
     ·unfold Qa8;rw[this];exact (treeLe t hb.2).v λ_ _ _ _ _ h=>by cases h with | cell h=>exact h
  ·cases h
 dis H id x:=by
  cases x with
  |sl id' off n g =>
   simp only[kb5];cases blkAt H id' g with
   |none=>rfl
   |some b =>
    simp only[Option.map]
    split<;>rfl
  |v y=>cases y with
   |slice a n c=>cases a<;>cases n<;>cases c<;>rfl
   |_=>rfl
  |_=>rfl
end
structure RR(ρ:Type) where
 enc:ρ->a7
 rd:a7×List a8->Option ρ
 d:ρ
 le:∀x o r,rd (x,o)=some r->Ub7 x o (enc r)
theorem lc6{H:List a8}{l:List a7}{z:a7×List a8}(h:X6 H (.tup l)=some z):False:=by cases h
theorem lc7{H:List a8}{x z:a7}{H':List a8}(h:X6 H x=some (z,H')):rb5 H x=some z:=by
 cases x with
 |tup l=>exact (lc6 h).elim
 |_=>simp only[rb5,h]
theorem Fd6{x y:a7}(h:∀ρ' H2 F w v,J1 ρ' H2 F w x v->J1 ρ' H2 F w y v)(hx:∀l,x≠.tup l):ALe x y:=λρ H F w v hv=>by
 cases hv with
 |val hv=>exact .val (h _ _ _ _ _ hv)
 |tup xs=>exact absurd rfl (hx xs)
theorem bc8{H H':List a8}{x z:a7}(h:X6 H x=some (z,H')):∀l,z≠.tup l:=λl e=>by
 subst e;unfold X6 at h
 split at h
 ·split at h<;>cases h
 ·unfold freezeCell at h
  split at h
  ·split at h<;>cases h
  ·cases h
  ·split at h<;>cases h
  ·split at h
   ·simp only[Qa8] at h;cases h
   ·cases h
  ·cases h
def one{ρ:Type}(a:R1 ρ):RR ρ where
 enc:=a.enc
 rd r:=a.rd r.2 r.1
 d:=a.d
 le x o r h:=by
  obtain⟨z,H',h1,_,h2⟩:=a.le o x r h;exact⟨z,lc7 h1,Fd6 h2 (bc8 h1)⟩
def two{ρ σ:Type}(a:R1 ρ)(c:R1 σ):RR (ρ×σ) where
 enc r:=.tup [a.enc r.1,c.enc r.2]
 rd r:=match r.1 with
  |.tup [x,y]=>Option.rec (motive:=λ_=>Option (ρ×σ)) none (λu=>Option.rec (motive:=λ_=>Option (ρ×σ)) none (λv=>some (u,v)) (c.rd r.2 y)) (a.rd r.2 x)
  |_=>none
 d:=(a.d,c.d)
 le q o r h:=by
  split at h
  ·rename_i x y e
   simp only at e
   subst e;cases hu:a.rd o x with
   |none=>rw[hu] at h;cases h
   |some u =>
   cases hv:c.rd o y with
   |none=>rw[hu,hv] at h;cases h
   |some v =>
   rw[hu,hv] at h;have h:some (u,v)=some r:=h;injection h with h;subst h;obtain⟨z1,H1,h1,d1,l1⟩:=a.le o x u hu;obtain⟨z2,H2,h2,d2,l2⟩:=c.le H1 y v (by rw[c.diss d1];exact hv)
   refine⟨.tup [z1,z2],by simp only[rb5,ya4,h1,h2],ALe.tup rfl λk p q hp hq=>?_⟩
   match k,hp,hq with
   |0,hp,hq=>cases hp;cases hq;exact l1
   |1,hp,hq=>cases hp;cases hq;exact l2
  ·cases h
def okO{ρ:Type}(R:RR ρ)(o:Option (a7×List a8)):Bool:=Option.rec (motive:=λ_=>Bool) false (λr=>Option.rec (motive:=λ_=>Bool) false (λ_=>true) (R.rd r)) o
def T9{ρ:Type}(R:RR ρ)(o:Option (a7×List a8)):ρ:=Option.rec (motive:=λ_=>ρ) R.d (λr=>Option.rec (motive:=λ_=>ρ) R.d (λx=>x) (R.rd r)) o
@[reducible] def rdO{ρ:Type}(R:RR ρ)(o:Option (a7×List a8)):DT (a7×List a8):=.guard (okO R o) (.ret (R.enc (T9 R o),[]))
theorem vc4{ρ:Type}{R:RR ρ}{o:Option (a7×List a8)}{y:a7}{out:List a8}(h:(rdO R o).run=some (y,out)):out=[]/\∃x o',o=some (x,o')/\Ub7 x o' y:=by
 obtain⟨h1,h2⟩:=DT.run_guard_some h;have h2:some (R.enc (T9 R o),([]:List a8))=some (y,out):=h2;injection h2 with h2;injection h2 with e1 e2;subst e1 e2
 refine⟨rfl,?_⟩;cases o with
 |none=>cases h1
 |some r =>
  obtain⟨x,o'⟩:=r;refine⟨x,o',rfl,?_⟩;cases hr:R.rd (x,o') with
  |none=>simp only[okO,hr] at h1;cases h1
  |some q =>
   simp only[T9,hr];exact R.le x o' q hr
theorem Ya5{α:Type}(o:Option α):(DT.ofOption o).run=o:=by cases o<;>rfl
section
variable{α β γ δ ε ζ:Type}{P:Program}{G:Nat->List Value}{f:FuncId}{R0:Sum}{c:Cod α}{d:Cod β}{e:Cod γ}{c4:Cod δ}{c5:Cod ε}{c6:Cod ζ}{ρ:Type}
theorem bc9(hb:c8 P G f R0)(R:RR ρ){o:α->Option (a7×List a8)}(h:∀a r,o a=some r->(R0 [c.enc a] []).run=some r):c8 P G f (G7 c λa=>rdO R (o a)) :=
 Jc5 (Ya4 hb (k:=λa=>DT.ofOption (o a)) λa r hr=>h a r (by rw[Ya5] at hr;exact hr)) λa y out hr=>by
  obtain⟨e,x,o',h1,h2⟩:=vc4 hr;exact⟨e,x,o',by rw[Ya5,h1],h2⟩
theorem Fd7(hb:c8 P G f R0)(R:RR ρ){o:α->β->Option (a7×List a8)}(h:∀a b r,o a b=some r->(R0 [c.enc a,d.enc b] []).run=some r):c8 P G f (va0 c d λa b=>rdO R (o a b)) :=
 Jc6 (Bc2 hb (k:=λa b=>DT.ofOption (o a b)) λa b r hr=>h a b r (by rw[Ya5] at hr;exact hr)) λa b y out hr=>by
  obtain⟨e,x,o',h1,h2⟩:=vc4 hr;exact⟨e,x,o',by rw[Ya5,h1],h2⟩
theorem je0(hb:c8 P G f R0)(R:RR ρ){o:α->β->γ->Option (a7×List a8)}(h:∀a b g r,o a b g=some r->(R0 [c.enc a,d.enc b,e.enc g] []).run=some r):c8 P G f (Ab0 c d e λa b g=>rdO R (o a b g)) :=
 Jc7 (ld1 hb (k:=λa b g=>DT.ofOption (o a b g)) λa b g r hr=>h a b g r (by rw[Ya5] at hr;exact hr)) λa b g y out hr=>by
  obtain⟨e,x,o',h1,h2⟩:=vc4 hr;exact⟨e,x,o',by rw[Ya5,h1],h2⟩
end
inductive Kc where
 |o (k:Sk)
 |c (es:Nat) (f:a7->a7)
def Fd8:Kc->a7->Bool
 |.o k,x=>ld2 k x
 |.c es _,.tree es' _ _=>Nat.beq es es'
 |.c _ _,_=>false
def Fd9:Kc->a7->a7
 |.o k,x=>Fd3 k x
 |.c _ f,x=>f x
def Gd0(k:Kc)(x:a7)(z:Bool):Bool:=match k with
 |.o _=>z
 |.c _ f=>Bool.and (Sc9 f x) z
theorem ld4{k:Kc}{x:a7}{z:Bool}(h:Fd8 k x=true)(hc:Gd0 k x z=true):x=Fd9 k x/\z=true:=by
 cases k with
 |o k=>exact⟨Bc3 h,hc⟩
 |c es f =>
  have hc:Bool.and (Sc9 f x) z=true:=hc;rw[Qbd] at hc;exact⟨wd8 hc.1,hc.2⟩
def Tc3(ks:List Kc):List a7->Bool :=
 List.rec (motive:=λ_=>List a7->Bool) (λl=>List.rec (motive:=λ_=>Bool) true (λ_ _ _=>false) l)
  (λk _ ih l=>List.rec (motive:=λ_=>Bool) false (λx r _=>Bool.and (Fd8 k x) (ih r)) l) ks
def Cc0(ks:List Kc):List a7->List a7 :=
 List.rec (motive:=λ_=>List a7->List a7) (λ_=>[]) (λk _ ih l=>Fd9 k (hdA l)::ih (tlA l)) ks
def Tc4(z:Bool)(ks:List Kc):List a7->Bool :=
 List.rec (motive:=λ_=>List a7->Bool) (λ_=>z) (λk _ ih l=>Gd0 k (hdA l) (ih (tlA l))) ks
theorem lc8{z:Bool}:∀{ks:List Kc} {l:List a7},Tc3 ks l=true->Tc4 z ks l=true->l=Cc0 ks l/\z=true
 |[],[],_,hc=>⟨rfl,hc⟩
 |[],x::r,h,_=>by cases h
 |k::ks,[],h,_=>by cases h
 |k::ks,x::r,h,hc=>by
  have h:Bool.and (Fd8 k x) (Tc3 ks r)=true:=h;rw[Qbd] at h;have hc:Gd0 k x (Tc4 z ks r)=true:=hc;obtain⟨e1,h2⟩:=ld4 h.1 hc;obtain⟨e2,h3⟩:=lc8 h.2 h2;refine⟨?_,h3⟩;show x::r=Fd9 k x::Cc0 ks r;rw[<- e1,<- e2]
inductive K where
 |o (k:Sk)
 |c (es:Nat) (f:a7->a7)
 |fn (f:Nat) (l:List Kc)
def isK:K->a7->Bool
 |.o k,x=>ld2 k x
 |.c es _,.tree es' _ _=>Nat.beq es es'
 |.fn f l,.fn f' r=>Bool.and (Nat.beq f f') (Tc3 l r)
 |.c _ _,_=>false
 |.fn _ _,_=>false
def asK:K->a7->a7
 |.o k,x=>Fd3 k x
 |.c _ f,x=>f x
 |.fn f l,x=>.fn f (Cc0 l (cellsOf x))
def cnK(k:K)(x:a7)(z:Bool):Bool:=match k with
 |.o _=>z
 |.c _ f=>Bool.and (Sc9 f x) z
 |.fn _ l=>Tc4 z l (cellsOf x)
theorem Tc5{k:K}{x:a7}{z:Bool}(h:isK k x=true)(hc:cnK k x z=true):x=asK k x/\z=true:=by
 unfold isK at h
 split at h
 ·exact⟨Bc3 h,hc⟩
 ·have hc:Bool.and (Sc9 _ _) z=true:=hc;rw[Qbd] at hc;exact⟨wd8 hc.1,hc.2⟩
 ·rename_i f l f' r;rw[Qbd] at h;obtain⟨e,hz⟩:=lc8 h.2 hc;refine⟨?_,hz⟩;show a7.fn f' r=.fn f (Cc0 l r);rw[<- e,Qae h.1]
 ·cases h
 ·cases h
def vc5(ks:List K):List a7->Bool :=
 List.rec (motive:=λ_=>List a7->Bool) (λl=>List.rec (motive:=λ_=>Bool) true (λ_ _ _=>false) l)
  (λk _ ih l=>List.rec (motive:=λ_=>Bool) false (λx r _=>Bool.and (isK k x) (ih r)) l) ks
def lc9(ks:List K):List a7->List a7 :=
 List.rec (motive:=λ_=>List a7->List a7) (λ_=>[]) (λk _ ih l=>asK k (hdA l)::ih (tlA l)) ks
def vc6(z:Bool)(ks:List K):List a7->Bool :=
 List.rec (motive:=λ_=>List a7->Bool) (λ_=>z) (λk _ ih l=>cnK k (hdA l) (ih (tlA l))) ks
theorem kb6{z:Bool}:∀{ks:List K} {l:List a7},vc5 ks l=true->vc6 z ks l=true->l=lc9 ks l/\z=true
 |[],[],_,hc=>⟨rfl,hc⟩
 |[],x::r,h,_=>by cases h
 |k::ks,[],h,_=>by cases h
 |k::ks,x::r,h,hc=>by
  have h:Bool.and (isK k x) (vc5 ks r)=true:=h;rw[Qbd] at h;have hc:cnK k x (vc6 z ks r)=true:=hc;obtain⟨e1,h2⟩:=Tc5 h.1 hc;obtain⟨e2,h3⟩:=kb6 h.2 h2;refine⟨?_,h3⟩;show x::r=asK k x::lc9 ks r;rw[<- e1,<- e2]
inductive S2 where
 |s (k:K)
 |agg (l:List K)
 |tup (l:List K)
 |fn (f:Nat) (l:List K)
def isS:S2->a7->Bool
 |.s k,x=>isK k x
 |.agg l,.agg r=>vc5 l r
 |.tup l,.tup r=>vc5 l r
 |.fn f l,.fn f' r=>Bool.and (Nat.beq f f') (vc5 l r)
 |_,_=>false
def asS:S2->a7->a7
 |.s k,x=>asK k x
 |.agg l,x=>.agg (lc9 l (cellsOf x))
 |.tup l,x=>.tup (lc9 l (cellsOf x))
 |.fn f l,x=>.fn f (lc9 l (cellsOf x))
def cnS(k:S2)(x:a7)(z:Bool):Bool:=match k with
 |.s k=>cnK k x z
 |.agg l=>vc6 z l (cellsOf x)
 |.tup l=>vc6 z l (cellsOf x)
 |.fn _ l=>vc6 z l (cellsOf x)
theorem Gd1{k:S2}{x:a7}{z:Bool}(h:isS k x=true)(hc:cnS k x z=true):x=asS k x/\z=true:=by
 unfold isS at h
 split at h
 ·exact Tc5 h hc
 ·rename_i l r;obtain⟨e,hz⟩:=kb6 h hc;exact⟨congrArg a7.agg e,hz⟩
 ·rename_i l r;obtain⟨e,hz⟩:=kb6 h hc;exact⟨congrArg a7.tup e,hz⟩
 ·rename_i f l f' r;rw[Qbd] at h;obtain⟨e,hz⟩:=kb6 h.2 hc;refine⟨?_,hz⟩;show a7.fn f' r=.fn f (lc9 l r);rw[<- e,Qae h.1]
 ·cases h
def Tc6(ks:List S2):List a7->Bool :=
 List.rec (motive:=λ_=>List a7->Bool) (λl=>List.rec (motive:=λ_=>Bool) true (λ_ _ _=>false) l)
  (λk _ ih l=>List.rec (motive:=λ_=>Bool) false (λx r _=>Bool.and (isS k x) (ih r)) l) ks
def Jc8(ks:List S2):List a7->List a7 :=
 List.rec (motive:=λ_=>List a7->List a7) (λ_=>[]) (λk _ ih l=>asS k (hdA l)::ih (tlA l)) ks
def ld5(z:Bool)(ks:List S2):List a7->Bool :=
 List.rec (motive:=λ_=>List a7->Bool) (λ_=>z) (λk _ ih l=>cnS k (hdA l) (ih (tlA l))) ks
theorem Cc1{z:Bool}:∀{ks:List S2} {l:List a7},Tc6 ks l=true->ld5 z ks l=true->l=Jc8 ks l/\z=true
 |[],[],_,hc=>⟨rfl,hc⟩
 |[],x::r,h,_=>by cases h
 |k::ks,[],h,_=>by cases h
 |k::ks,x::r,h,hc=>by
  have h:Bool.and (isS k x) (Tc6 ks r)=true:=h;rw[Qbd] at h;have hc:cnS k x (ld5 z ks r)=true:=hc;obtain⟨e1,h2⟩:=Gd1 h.1 hc;obtain⟨e2,h3⟩:=Cc1 h.2 h2;refine⟨?_,h3⟩;show x::r=asS k x::Jc8 ks r;rw[<- e1,<- e2]
def Gd2(ks:List (List K)):List (List a7)->Bool :=
 List.rec (motive:=λ_=>List (List a7)->Bool) (λl=>List.rec (motive:=λ_=>Bool) true (λ_ _ _=>false) l)
  (λk _ ih l=>List.rec (motive:=λ_=>Bool) false (λx r _=>Bool.and (vc5 k x) (ih r)) l) ks
def Gd3(ks:List (List K)):List (List a7)->List (List a7) :=
 List.rec (motive:=λ_=>List (List a7)->List (List a7)) (λ_=>[]) (λk _ ih l=>lc9 k (hdR l)::ih (tlR l)) ks
def Gd4(z:Bool)(ks:List (List K)):List (List a7)->Bool :=
 List.rec (motive:=λ_=>List (List a7)->Bool) (λ_=>z) (λk _ ih l=>vc6 (ih (tlR l)) k (hdR l)) ks
theorem Cc2{z:Bool}:∀{ks:List (List K)} {l:List (List a7)},Gd2 ks l=true->Gd4 z ks l=true->l=Gd3 ks l/\z=true
 |[],[],_,hc=>⟨rfl,hc⟩
 |[],x::r,h,_=>by cases h
 |k::ks,[],h,_=>by cases h
 |k::ks,x::r,h,hc=>by
  have h:Bool.and (vc5 k x) (Gd2 ks r)=true:=h;rw[Qbd] at h;have hc:vc6 (Gd4 z ks r) k x=true:=hc;obtain⟨e1,h2⟩:=kb6 h.1 hc;obtain⟨e2,h3⟩:=Cc2 h.2 h2;refine⟨?_,h3⟩;show x::r=lc9 k x::Gd3 ks r;rw[<- e1,<- e2]
def ru2(n:Nat)(l:List S2):List S2:=Nat.rec (motive:=λ_=>List S2) l (λ_ ih=>.s (.o .unk)::ih) n
structure B2 where
 et:Nat
 es:Nat
 own:Bool
 rows:Option (List (List K))
@[reducible] def isE(o:Option (List (List K)))(l:List (List a7)):Bool:=Option.rec (motive:=λ_=>Bool) true (λks=>Gd2 ks l) o
@[reducible] def asE(o:Option (List (List K)))(l:List (List a7)):List (List a7):=Option.rec (motive:=λ_=>List (List a7)) l (λks=>Gd3 ks l) o
@[reducible] def cnO(o:Option (List (List K)))(l:List (List a7))(z:Bool):Bool:=Option.rec (motive:=λ_=>Bool) z (λks=>Gd4 z ks l) o
def isB(k:B2)(x:a8):Bool :=
 Bool.and (Bool.and (Nat.beq k.et x.et) (Nat.beq k.es x.es)) (Bool.and (eqB k.own x.own) (Bool.and (!x.dead) (Bool.and (Nat.beq x.g 0) (isE k.rows x.elems))))
theorem Gd5{k:B2}{x:a8}{z:Bool}(h:isB k x=true)(hc:cnO k.rows x.elems z=true):x=⟨k.et,k.es,asE k.rows x.elems,k.own,false,0⟩/\z=true:=by
 unfold isB at h;simp only[Qbd] at h;obtain⟨⟨h1,h2⟩,h3,h4,h5,h6⟩:=h;have h1:=Qae h1;have h2:=Qae h2;have h5:=Qae h5;have h4:x.dead=false:=by simpa using h4
 obtain⟨et,es,el,ow,de,g⟩:=x;obtain⟨et',es',ow',rows⟩:=k
 simp only at *
 subst h1 h2 h4 h5;have h3:ow'=ow:=by cases ow'<;>cases ow<;>first | rfl | cases h3
 subst h3;cases rows with
 |none=>exact⟨rfl,hc⟩
 |some ks =>
  obtain⟨e,hz⟩:=Cc2 h6 hc
  grind
def Tc7(ks:List B2):List a8->Bool :=
 List.rec (motive:=λ_=>List a8->Bool) (λl=>List.rec (motive:=λ_=>Bool) true (λ_ _ _=>false) l)
  (λk _ ih l=>List.rec (motive:=λ_=>Bool) false (λx r _=>Bool.and (isB k x) (ih r)) l) ks
def Jc9(ks:List B2):List a8->List a8 :=
 List.rec (motive:=λ_=>List a8->List a8) (λ_=>[]) (λk _ ih l=>⟨k.et,k.es,asE k.rows (hdB l),k.own,false,0⟩::ih (tlB l)) ks
def ld6(z:Bool)(ks:List B2):List a8->Bool :=
 List.rec (motive:=λ_=>List a8->Bool) (λ_=>z) (λk _ ih l=>cnO k.rows (hdB l) (ih (tlB l))) ks
theorem Cc3{z:Bool}:∀{ks:List B2} {l:List a8},Tc7 ks l=true->ld6 z ks l=true->l=Jc9 ks l/\z=true
 |[],[],_,hc=>⟨rfl,hc⟩
 |[],x::r,h,_=>by cases h
 |k::ks,[],h,_=>by cases h
 |k::ks,x::r,h,hc=>by
  have h:Bool.and (isB k x) (Tc7 ks r)=true:=h;rw[Qbd] at h;have hc:cnO k.rows x.elems (ld6 z ks r)=true:=hc;obtain⟨e1,h2⟩:=Gd5 h.1 hc;obtain⟨e2,h3⟩:=Cc3 h.2 h2;refine⟨?_,h3⟩;show x::r=⟨k.et,k.es,asE k.rows x.elems,k.own,false,0⟩::Jc9 ks r;rw[<- e1,<- e2]
structure Al2(π σ:Type) where
 sh:List S2
 bl:List B2
 rd:List a7->List a8->π×σ
def ld7{π σ:Type}(l:List (Al2 π σ))(t:St):DT (π×σ) :=
 List.rec (motive:=λ_=>DT (π×σ)) .fail
  (λx _ ih=>Bool.rec (motive:=λ_=>DT (π×σ)) ih (.guard (ld5 (ld6 true x.bl t.H) x.sh t.a) (.ret (x.rd t.a t.H))) (Bool.and (Tc6 x.sh t.a) (Tc7 x.bl t.H))) l
theorem cc2{π σ:Type}{enc:π->σ->St}{t:St}{q:π×σ}:∀{l:List (Al2 π σ)},(∀x,x∈l->∀a H,(⟨Jc8 x.sh a,Jc9 x.bl H⟩:St)=enc (x.rd a H).1 (x.rd a H).2) ->
  (ld7 l t).run=some q->t=enc q.1 q.2
 |[],_,h=>by cases h
 |x::l,hl,h=>by
  have h:(Bool.rec (motive:=λ_=>DT (π×σ)) (ld7 l t) (.guard (ld5 (ld6 true x.bl t.H) x.sh t.a) (.ret (x.rd t.a t.H))) (Bool.and (Tc6 x.sh t.a) (Tc7 x.bl t.H))).run=some q:=h
  cases hb:Bool.and (Tc6 x.sh t.a) (Tc7 x.bl t.H) with
  |false=>rw[hb] at h;exact cc2 (λy hy=>hl y (.tail _ hy)) h
  |true =>
   rw[hb] at h;obtain⟨h1,h2⟩:=DT.run_guard_some h;cases h2;rw[Qbd] at hb;obtain⟨e1,h3⟩:=Cc1 hb.1 h1;obtain⟨e2,_⟩:=Cc3 hb.2 h3;rw[<- hl x (.head _) t.a t.H,<- e1,<- e2]
def Ma5{π:Type}(x:Al2 π Unit)(k:π->DT (a7×List a8)):Sum:=λargs blks=>(ld7 [x] ⟨args,blks⟩).bind λq=>k q.1
theorem P6{P:Program}{G:Nat->List Value}{f:FuncId}{R:Sum}{π:Type}{x:Al2 π Unit}{enc:π->St}{k:π->DT (a7×List a8)}
  (hx:∀a H,(⟨Jc8 x.sh a,Jc9 x.bl H⟩:St)=enc (x.rd a H).1) (hb:c8 P G f R)
  (h:∀p r,(k p).run=some r->(R (enc p).a (enc p).H).run=some r):c8 P G f (Ma5 x k):=hb.le λargs blks r hr=>by
 obtain⟨q,h1,h2⟩:=DT.run_bind_some hr;have e:=cc2 (enc:=λp _=>enc p) (V2.mem (.cons hx .nil)) h1
 grind
@[reducible] def slT(l:List a7)(n:Nat):a7:=hdA (Nat.rec (motive:=λ_=>List a7->List a7) (λl=>l) (λ_ ih l=>ih (tlA l)) n l)
@[reducible] def rwT(l:List (List a7))(n:Nat):List a7:=hdR (Nat.rec (motive:=λ_=>List (List a7)->List (List a7)) (λl=>l) (λ_ ih l=>ih (tlR l)) n l)
@[reducible] def elT(l:List a8)(n:Nat):List (List a7):=hdB (Nat.rec (motive:=λ_=>List a8->List a8) (λl=>l) (λ_ ih l=>ih (tlB l)) n l)
@[reducible] def xit(o:Option Nat):c7:=Option.rec (motive:=λ_=>c7) .ret (λid=>.exit id) o
theorem Gd6(o:Option Nat):xit o≠.normal:=by cases o<;>exact λh=>by cases h
abbrev Xs(π σ:Type):=List (Option Nat×(π->σ->St))
def xOf{π σ:Type}(xs:Xs π σ)(p:π)(s:σ)(t:Nat):Nat->Option (c7×St) :=
 List.rec (motive:=λ_=>Nat->Option (c7×St)) (λ_=>none) (λx _ ih k=>sel (Nat.beq t k) (some (xit x.1,x.2 p s)) (ih (k+1))) xs
def Gd7{π σ:Type}(xs:Xs π σ)(p:π)(r:Nat×σ):Nat->DT (c7×St) :=
 List.rec (motive:=λ_=>Nat->DT (c7×St)) (λ_=>.fail) (λx _ ih k=>.ite (Nat.beq r.1 k) (.ret (xit x.1,x.2 p r.2)) (ih (k+1))) xs
theorem mc0{π σ:Type}(p:π)(r:Nat×σ):∀(xs:Xs π σ) (k:Nat),(Gd7 xs p r k).run=xOf xs p r.2 r.1 k
 |[],k=>rfl
 |x::xs,k=>by
  show (DT.ite (Nat.beq r.1 k) (.ret (xit x.1,x.2 p r.2)) (Gd7 xs p r (k+1))).run=sel (Nat.beq r.1 k) (some (xit x.1,x.2 p r.2)) (xOf xs p r.2 r.1 (k+1));rw[DT.run_ite,mc0 p r xs (k+1)];cases Nat.beq r.1 k<;>rfl
theorem Jb2{π σ:Type}(p:π)(s:σ):∀(xs:Xs π σ) (k:Nat),xOf xs p s 0 (k+1)=none
 |[],_=>rfl
 |_::xs,k=>Jb2 p s xs (k+1)
theorem Cc4{π σ:Type}{p:π}{s:σ}{t:Nat}{e:c7×St}:∀{xs:Xs π σ} {k:Nat},xOf xs p s t k=some e->e.1≠.normal
 |[],_,h=>by cases h
 |x::xs,k,h=>by
  have h:sel (Nat.beq t k) (some (xit x.1,x.2 p s)) (xOf xs p s t (k+1))=some e:=h;cases hb:Nat.beq t k with
  |true=>rw[hb] at h;cases h;exact Gd6 _
  |false=>rw[hb] at h;exact Cc4 h
theorem mc1{π σ:Type}{head:St->DT St}{body:St->DT (c7×St)}{enc:σ->St}{step:σ->Stp σ}{xs:Xs π σ}{p:π}
  (h:∀s,(Ca9 head body (enc s)).run=Ta1 (λs'=>some (.normal,enc s')) (λt=>xOf xs p s t 1) none (step s)) :
  ∀(n:Nat) (s:σ) (e:c7×St),xOf xs p (lp0 step n s).2 (lp0 step n s).1 1=some e->(fb8 head body n (enc s)).run=some e
 |n,s,e,he=>by
  have hr:=h s;cases hs:step s with
  |fail =>
   have h0:lp0 step n s=(0,s):=by
    cases n with
    |zero=>show Ta1 _ _ _ (step s)=_;rw[hs]
    |succ n=>show Ta1 _ _ _ (step s)=_;rw[hs]
   rw[h0] at he;rw[show xOf xs p s 0 1=none from Jb2 p s xs 0] at he
   cases he
  |exit t =>
   rw[lc0 hs] at he;rw[hs] at hr;have hr:(Ca9 head body (enc s)).run=xOf xs p s t 1:=hr;have he:xOf xs p s t 1=some e:=he;rw[he] at hr;obtain⟨x,t'⟩:=e;exact kd6 hr (Cc4 he)
  |next s' =>
   cases n with
   |zero =>
    have h0:lp0 step 0 s=(0,s):=by show Ta1 _ _ _ (step s)=_;rw[hs]
    rw[h0] at he;rw[show xOf xs p s 0 1=none from Jb2 p s xs 0] at he
    cases he
   |succ n =>
    rw[kc9 hs] at he;rw[hs] at hr;exact kd5 hr (mc1 h n s' e he)
section
variable{π σ:Type}
def Ub8(head:Nat->List Nat->St->DT St)(k:Nat)(keep:List Nat)(alts:List (Al2 π σ))(step:π->σ->Stp σ)(xs:Xs π σ)(s:St):DT (c7×St) :=
 (head k keep s).bind λt=>(ld7 alts t).bind λq=>Gd7 xs q.1 (lp (step q.1) q.2) 1
structure Ta6(head:Nat->List Nat->St->DT St)(k:Nat)(keep:List Nat)(body:St->DT (c7×St))(alts:List (Al2 π σ))(step:π->σ->Stp σ)(xs:Xs π σ)(enc:π->σ->St):Prop where
 ha:V2 (λx=>∀a H,(⟨Jc8 x.sh a,Jc9 x.bl H⟩:St)=enc (x.rd a H).1 (x.rd a H).2) alts
 h:∀p s,(Ca9 (head k keep) body (enc p s)).run=Ta1 (λs'=>some (.normal,enc p s')) (λt=>xOf xs p s t 1) none (step p s)
variable{E:Env}{k:Nat}{res:List qb5}{keep:List Nat}{alts:List (Al2 π σ)}{enc:π->σ->St}{step:π->σ->Stp σ}{xs:Xs π σ}{body:PS}{c:PC}{head:Nat->List Nat->St->DT St}{bd:St->DT (c7×St)}
theorem Ta6.go(w:Ta6 head k keep bd alts step xs enc){s:St}{r:c7×St}(hr:(Ub8 head k keep alts step xs s).run=some r):∃t,(head k keep s).run=some t/\(fb8 (head k keep) bd rounds t).run=some r:=by
 obtain⟨t,h1,h2⟩:=DT.run_bind_some hr;obtain⟨q,h3,h4⟩:=DT.run_bind_some h2;rw[mc0,wd6] at h4;have e:=cc2 w.ha.mem h3;refine⟨t,h1,?_⟩;rw[e];exact mc1 (w.h q.1) rounds q.2 r h4
theorem Ta6.belowC(hb:P5 E k res body c)(hN:E.N=rounds+1)(w:Ta6 Ta0 k keep (Bc4 E k res body) alts step xs enc)(s:St):H5 k res (Ub8 Ta0 k keep alts step xs s) (p7 E k (.loop keep c) s):=λr hr=>by
 obtain⟨t,h1,h2⟩:=w.go hr;rw[Ub6,hN];exact Ta2 hb.le _ _ r (Ya3 h1 h2)
end
inductive RT where
 |p
 |s (a c:RT)
 |c (x y:RT)
 |b (c:RT)
 |l (c:RT)
 |i (c:RT)
 |u (S:St->DT (c7×St))
def Jb3:RT->PC->PS
 |.s a b,.seq x y=>.seq (Jb3 a x) (Jb3 b y)
 |.c a b,.cond g x y=>.cond g (Jb3 a x) (Jb3 b y)
 |.b a,.block id x=>.block id (Jb3 a x)
 |.l a,.loop keep x=>.loop keep (Jb3 a x)
 |.u S,_=>.sum S
 |_,c=>.pc c
def Ia3:RT->PC->List ((St->DT (c7×St))×PC)
 |.s a b,.seq x y=>app (Ia3 a x) (Ia3 b y)
 |.c a b,.cond _ x y=>app (Ia3 a x) (Ia3 b y)
 |.b a,.block _ x=>Ia3 a x
 |.l a,.loop _ x=>Ia3 a x
 |.i a,.inner _ _ _ x=>Ia3 a x
 |.u S,c=>[(S,c)]
 |_,_=>[]
theorem V2.app{α:Type}{Q:α->Prop}:∀{l r:List α},V2 Q (Go.Ev.app l r)->V2 Q l/\V2 Q r
 |[],_,h=>⟨.nil,h⟩
 |_::l,_,.cons h t=>⟨.cons h (V2.app t).1,(V2.app t).2⟩
theorem Cc5{E:Env}{k:Nat}{res:List qb5}(rt:RT)(c:PC):V2 (λx=>∀s,H5 k res (x.1 s) (p7 E k x.2 s)) (Ia3 rt c)->P5 E k res (Jb3 rt c) c:=by
 induction rt generalizing c with
 |p=>intro h;cases c<;>exact .pc _
 |s a b iha ihb =>
  intro h;cases c with
  |seq x y=>exact .seq (iha x (V2.app h).1) (ihb y (V2.app h).2)
  |_=>exact .pc _
 |c a b iha ihb =>
  intro h;cases c with
  |cond g x y=>exact .cond g (iha x (V2.app h).1) (ihb y (V2.app h).2)
  |_=>exact .pc _
 |b a iha =>
  intro h;cases c with
  |block id x=>exact .block id (iha x h)
  |_=>exact .pc _
 |l a iha =>
  intro h;cases c with
  |loop keep x=>exact .loop keep (iha x h)
  |_=>exact .pc _
 |i a iha=>intro h;cases c<;>exact .pc _
 |u S =>
  intro h
  have:Ia3 (.u S) c=[(S,c)]:=by cases c<;>rfl
  rw[this] at h;cases h with
  |cons h t =>
   have e:Jb3 (.u S) c=.sum S:=by cases c<;>rfl
   rw[e];exact .sum h
def je1(l:List Nat)(c:PC):PC :=
 List.rec (motive:=λ_=>PC->PC) (λc=>c) (λn _ ih c=>match c with
  |.seq x y=>ih (match n with | 0=>x | _=>y)
  |.cond _ x y=>ih (match n with | 2=>x | _=>y)
  |.block _ x=>ih x
  |.loop _ x=>ih x
  |.loopM _ x=>ih x
  |.inner _ _ _ x=>ih x
  |c=>c) l c
end Go.Ev.L
namespace Go.Ev.L
open Go Go.Ev Go.Sort Go.Proofs
section
variable{α:Type}[Inhabited α]{P:Program}{G:Nat->List Value}{g:FuncId}{S:Sum}{t:Ty α}{enc:α->List Value}{cf:α->α->Int}
theorem Cc6(hc:c8 P G g S)(hS:∀x y,(S [.agg (t.row x),.agg (t.row y)] []).run=some (i (cf x y),[]))(hG:∀n,G n=[])(he:∀x,t.row x=(enc x).map .v)(k blk off size:Nat)(w:World) :
  CmpLays P g #[] enc k cf blk off size w:=by
 intro m os dk _ x y;generalize sortWorldK enc k w blk off m dk os=w0;have hrow:∀(z:α),J1 (λ_=>⟨0,0,0⟩) [] (λ_ _=>False) w0 (.agg (t.row z)) (.agg (enc z).toArray):=λz=>by
  refine .agg _ _ (by rw[he];simp) λi u u' hu hu'=>?_
  rw[he,Qbm] at hu;have hu':(enc z)[i]?=some u':=by simpa using hu'
  rw[hu'] at hu;injection hu with hu;subst hu;exact .v _
 obtain⟨_,h⟩:=hc _ _ _ _ (hS x y) (λk=>w0.heap.size<=k) (λ_=>⟨0,0,0⟩) (λ_ _=>False) w0 [.agg (enc x).toArray,.agg (enc y).toArray]
  ⟨λid b hb=>by simp at hb,λid id' b b' hb=>by simp at hb,λb o hf=>hf.elim,λk hk=>hk⟩ rfl
  (λi u u' hu hu'=>by
   match i,hu,hu' with
   |0,hu,hu'=>cases hu;cases hu';exact .val (hrow x)
   |1,hu,hu'=>cases hu;cases hu';exact .val (hrow y))
  (λn c v hv=>by rw[hG] at hv;simp at hv)
 refine h.mono λe w' ⟨r',h1,ρ',F',h2,h3,h4⟩=>?_
 have h5:=D8 h4;subst h5;refine⟨h1,w'.drawn-w0.drawn,w'.heap.extract w0.heap.size w'.heap.size,?_⟩;have hd:=h2.ext.drawn;have hs:=h2.ext.size;have hheap:w'.heap=w0.heap++w'.heap.extract w0.heap.size w'.heap.size:=by
  apply Array.ext_getElem?;intro j
  rcases Qan j w0.heap.size with hj|hj
  ·rw[Qdc hj,h2.ext.block j hj (by omega)]
  grind
 obtain⟨hp,tp,dr,os',out⟩:=w';have e1:=h2.ext.os;have e2:=h2.ext.tape;have e3:=h2.ext.output
 simp only at e1 e2 e3 hd hheap
 subst e1 e2 e3;unfold grow World.drewN
 simp only
 congr 1;omega
def Cc7(t:Ty α)(g:Nat)(et:Nat)(srt:List α->List α):Sum:=λargs blks=>match args,blks with
 |[.sl 0 0 n 0,.fn g' []],[⟨et',es',el,true,false,0⟩] =>
  Bool.rec (motive:=λ_=>DT (a7×List a8)) .fail (.guard (Bool.and (Nat.ble n room) (Bool.and (Nat.ble n (len el)) (okS t el 0 n))) (.ret (.v (.tuple #[]),[⟨et',es',app (bL t (srt (slR t el 0 n))) (g8 el n),true,false,0⟩])))
   (Bool.and (Nat.beq g' g) (Bool.and (Nat.beq et' et) (Nat.beq es' t.es)))
 |_,_=>.fail
theorem kb7(l:List α)(j:Nat)(h:j<l.length):l.toArray[j]! = l[j]:=by
 simp_all
theorem Cc8{f:FuncId}{et:Nat}{srt:List α->List α}(hcall:ya0 P f)(hes:0<t.es)(he:∀x,t.row x=(enc x).map .v)(hx:∀r,t.ok r=true->r=t.row (t.rd r))(h1:∀x,∀v∈enc x,v.oneCell'=true)
  (hlen:∀l,(srt l).length=l.length) (hcl:∀blk off size w,CmpLays P g #[] enc t.es cf blk off size w)
  (hcon:∀(blk cap:Nat) (d:Array α) (w:World),(∀off size,CmpLays P g #[] enc t.es cf blk off size w)->HoldsK enc t.es w blk 0 d->blk<w.heap.size->d.size<4611686018427387904 ->
   Calls P f #[.slice (some ⟨blk,0,none⟩) d.size cap,.func (.func g) #[] #[]] w λe w'=>e=.returned (.tuple #[])/\∃n os,w'=sortWorldK enc t.es w blk 0 n (srt d.toList).toArray os) :
  c8 P G f (Cc7 t g et srt):=by
 intro args blks r out hr W ρ F w args' hH hl hargs hG;refine⟨hcall,?_⟩;unfold Cc7 at hr
 split at hr
 case h_2=>cases hr
 rename_i n g' et' es' el;cases hb0:Bool.and (Nat.beq g' g) (Bool.and (Nat.beq et' et) (Nat.beq es' t.es)) with
 |false=>rw[hb0] at hr;cases hr
 |true =>
 rw[hb0] at hr;rw[Qbd,Qbd] at hb0;have q1:=Qae hb0.1;have q2:=Qae hb0.2.1;have q3:=Qae hb0.2.2;subst q1 q2 q3;obtain⟨hg0,hr⟩:=DT.run_guard_some hr;rw[Qbd,Qbd] at hg0;have hroom:n<=room:=Qbb hg0.1;have hn:=Qbb hg0.2.1;rw[i5] at hn;have hok:=hg0.2.2;injection hr with hr;injection hr with p1 p2;subst p1 p2
 match args',hl with
 |[v0,v1],_ =>
 obtain⟨a,cap,b,rfl,hb,hd,_,hncap,hspot,hcap,hq⟩:=ha4 (hargs 0 _ _ rfl rfl);obtain⟨vs1,rfl,hvs1,_⟩:=Fa0 (hargs 1 _ _ rfl rfl);have hvs1:vs1=#[]:=Array.eq_empty_of_size_eq_zero (by simpa using hvs1.symm)
 subst hvs1;rw[wa8] at *
 have hb:b=⟨et',t.es,el,true,false,0⟩:=by simpa using hb.symm
 subst hb;obtain⟨ha,hsz,hne⟩:=hq rfl;have ha:a=⟨(ρ 0).blk,(ρ 0).off+0*t.es,none⟩:=ha.resolve_left λh=>by omega
 obtain⟨cc,tt,fr,hB⟩:=hH.blk 0 _ rfl rfl;obtain⟨hfr,hW,hoff,hsize,hnF,het⟩:=hB.own rfl;subst hfr;rw[hoff,Nat.zero_mul,Nat.add_zero] at ha;subst ha;generalize hbk:(ρ 0).blk=blk at *
 -- the rows asq data
 have hrow:∀j,j<n->k8 el j=(enc (gL t (slR t el 0 n) j)).map .v:=λj hj=>by
  have h2:t.ok (k8 el (0+j))=true:=Qcf.1 hok j (by simpa using hj)
  rw[Qbh] at h2;rw[<- he,slR,Bc6 t _ hj,Qbh];exact hx _ h2
 have hld:(slR t el 0 n).length=n:=Bc5 ..;have hk:∀x,(enc x).length=t.es:=λx=>by have:=t.h0 x;rw[i5,he] at this;simpa using this
 have hlt:blk<w.heap.size:=by
  have:=hB.obj
  grind
 have hobj:w.heap[blk]?=some (.cells cc tt (0,0)):=by rw[<- hbk];exact hB.obj
 have hgd:∀(l:List α) (j:Nat) (h:j<l.length),gL t l j=l[j]:=λl j h=>by simp[gL,Qda,Qaa h]
 have hdm:∀q,q<n*t.es->q / t.es<n/\q % t.es<t.es/\(q / t.es)*t.es+q % t.es=q:=λq hq=>⟨Nat.div_lt_of_lt_mul (by rw[Qbu];exact hq),Nat.mod_lt _ hes,Nat.div_add_mod' q t.es⟩
 have hrowAt:∀j,j<el.length->el[j]?=some (k8 el j):=λj hj=>by
  unfold k8;rw[n4,Qaa hj]
 have hH0:HoldsK enc t.es w blk 0 (slR t el 0 n).toArray:=by
  intro q hq;have hq:q<n*t.es:=by rw[size_flatK] at hq;simpa [hld] using hq
  obtain⟨e1,e2,e3⟩:=hdm q hq;rw[get_flatK _ _ _ _ (by simpa [hld] using hq),kb7 _ _ (by rw[hld];exact e1),<- hgd _ _ (by rw[hld];exact e1)]
  have hcx:(k8 el (q / t.es))[q % t.es]?=some (.v ((enc (gL t (slR t el 0 n) (q / t.es)))[q % t.es]!)):=by
   grind
  obtain⟨x',h5,h6⟩:=hB.cell (q / t.es) _ (q % t.es) _ (hrowAt _ (by omega)) hcx
  have h6:x'=(enc (gL t (slR t el 0 n) (q / t.es)))[q % t.es]! :=by cases h6;rfl
  subst h6;rw[hoff] at h5;simp only[e3,Qbh] at h5;constructor
  ·simp only[World.cell?,hobj,Qbh];simpa using h5
  ·simp[World.frozen?,hobj]
 have hds:(slR t el 0 n).toArray.size=n:=by simpa using hld
 have hmax:n<4611686018427387904:=by unfold room at hroom;omega
 have hcalls:=hcon blk cap (slR t el 0 n).toArray w (λoff size=>hcl blk off size w) hH0 hlt (by rw[hds];exact hmax)
 rw[hds] at hcalls;refine hcalls.mono λe w' ⟨h5,m,os,h6⟩=>⟨_,h5,ρ,F,?_⟩
 generalize hsd:srt (slR t el 0 n)=sd at *
 have hsl:sd.length=n:=by rw[<- hsd,hlen,hld]
 have h6:w'=grow (mapBlock (Sort.ahead w m) blk (putCells id 0 (flatK enc t.es sd.toArray))) os:=h6;have hw'size:w'.heap.size=w.heap.size+os.size:=by rw[h6];simp[mapBlock]
 have hold:∀k,k<w.heap.size->k≠blk->w'.heap[k]?=w.heap[k]?:=λk h7 h8=>by
  rw[h6];simp only[grow,mapBlock];rw[Qdc (by simpa using h7),Qdh]
  simp[Ne.symm h8]
 have hnew:w'.heap[blk]?=some (.cells (putCells id 0 (flatK enc t.es sd.toArray) cc) tt (0,0)):=by
  rw[h6];simp only[grow,mapBlock];rw[Qdc (by simpa using hlt),Qdh]
  simp[hobj,onCells]
 have hcells:∀b o,F b o->w'.cell? ⟨b,o,none⟩=w.cell? ⟨b,o,none⟩:=λb o hf=>by
  have h7:b≠blk:=λh8=>hnF o (h8 ▸ hf)
  have:=Ca2 (hH.frz b o hf)
  simp only[World.cell?,hold b this h7]
 have hpc:∀q,q<cc.size->(putCells id 0 (flatK enc t.es sd.toArray) cc)[q]?=if q<n*t.es then some ((enc sd.toArray[q / t.es]!)[q % t.es]!) else cc[q]?:=λq hq=>by
  simp only[putCells,Array.getElem?_mapIdx,Qai hq,Option.map_some,size_flatK,Nat.zero_le,true_and,Qbh,Nat.sub_zero,id]
  have:sd.toArray.size=n:=by simpa using hsl
  rw[this];split
  ·next h7=>rw[get_flatK _ _ _ _ (by rw[this];exact h7)]
  ·rfl
 have hel:(app (bL t sd) (g8 el n)).length=el.length:=by
  rw[z7,Qdf,<- i5 (bL t sd),Ma4,hsl,o4,Qbr];omega
 have hnrow:∀(j:Nat) r,(app (bL t sd) (g8 el n))[j]?=some r->(j<n/\r=t.row (gL t sd j))\/(n<=j/\el[j]?=some r):=λj r hr=>by
  have hlb:(bL t sd).length=n:=by rw[<- i5,Ma4,hsl]
  rw[z7] at hr
  rcases Qan j n with h7|h7
  ·rw[Qbg (by omega)] at hr
   left;refine⟨h7,?_⟩;unfold bL at hr;rw[g9,Qbm,Qaa (by omega)] at hr
   injection hr with hr;rw[<- hr,hgd sd j (by omega)]
  ·rw[Qbf (by omega),hlb,o4,Qbj] at hr
   right;exact⟨h7,by rw[<- hr];congr 1;omega⟩
 have hcs:el.length*t.es<=cc.size:=by have:=hB.len;rw[hsize] at this;exact this
 refine⟨⟨⟨?_,?_,?_,by omega,λk h7 h8=>hold k h7 λh9=>h8 (h9 ▸ hW),hcells,?_⟩,λid b hb=>?_,λ_ _ h=>h,λ_ _ h=>.inl h,λid b' hb' hn'=>?_⟩,⟨λid b hb hd'=>?_,λid id' b b' hb hb' h7 h8 h9 h10=>?_,λb o hf=>by rw[hcells b o hf];exact hH.frz b o hf,λk hk'=>hH.new k (by omega)⟩,.ofv _⟩
 ·rw[h6];rfl
 ·rw[h6];rfl
 ·rw[h6];rfl
 ·rw[h6];exact Nat.le_add_right _ _
 ·match id,hb with
  |0,hb =>
   cases hb;exact⟨_,rfl,rfl,Qac _,λ_=>⟨rfl,rfl,by simp only[hel];exact Qac _⟩⟩
 ·match id,hb' with
  |0,hb'=>cases hb';exact absurd rfl (hn' ⟨et',t.es,el,true,false,0⟩ rfl)
 ·match id,hb with
  |0,hb =>
   cases hb;refine⟨_,tt,(0,0),by rw[hbk];exact hnew,?_,?_,?_,?_,λ_=>⟨rfl,by rw[hbk];exact hW,hoff,?_,by rw[hbk];exact hnF,het⟩,λh=>by cases h⟩
   ·rw[hoff,hsize];simp[putCells]
   ·simp only[hel];exact hB.len
   ·intro j r hr
    rcases hnrow j r hr with⟨_,h8⟩|⟨_,h8⟩
    ·rw[h8,<- i5];exact t.h0 _
    ·exact hB.rows j r h8
   ·intro j r c x hr hc;rw[hoff,Qbh]
    rcases hnrow j r hr with⟨h7,h8⟩|⟨h7,h8⟩
    ·subst h8;have hclt:c<t.es:=by
      have:=(Qab.1 hc).1
      rw[<- i5,t.h0] at this;exact this
     have hq:j*t.es+c<n*t.es:=by
      have:=Qba t.es (show j+1<=n from h7)
      rw[Qbc,Qbl] at this;omega
     have hqn:n*t.es<=el.length*t.es:=Qba _ hn;have e1:(j*t.es+c) / t.es=j:=by rw[Qbu,Nat.mul_add_div hes,Nat.div_eq_of_lt hclt,Nat.add_zero]
     have e2:(j*t.es+c) % t.es=c:=by rw[Qbu,Nat.mul_add_mod,Qbaa hclt]
     rw[he,Qbm,Qaa (by rw[hk];exact hclt)] at hc
     injection hc with hc;subst hc;refine⟨(enc (gL t sd j))[c]'(by rw[hk];exact hclt),?_,.v _ (h1 _ _ (Qby _))⟩
     rw[hpc _ (Qaj hq (Qad hqn hcs)),if_pos hq,e1,e2,kb7 _ _ (by omega),hgd sd j (by omega),getElem!_pos _ _ (by rw[hk];exact hclt)]
    ·obtain⟨x',h9,h10⟩:=hB.cell j r c x h8 hc;rw[hoff,Qbh] at h9;have hq:¬ j*t.es+c<n*t.es:=by
      have:=Qba t.es h7
      omega
     have hlt':j*t.es+c<cc.size:=(Qbo.1 h9).1;exact⟨x',by rw[hpc _ hlt',if_neg hq];exact h9,h10.adv (λ_ _ h=>h) hcells⟩
   ·rw[hsize];simp[putCells]
 ·match id,hb,id',hb' with
  |0,hb,0,hb'=>exact absurd rfl h10
end
end Go.Ev.L
namespace Go.Ev
open Go
def FW(F:Fence):Prop:=∃r,F={ Fence.wide with round:=r }
theorem FW.wide:FW Fence.wide:=⟨none,rfl⟩
theorem FW.inRound(l:Nat):FW (Fence.wide.inRound l):=⟨some l,rfl⟩
section
variable{F:Fence}{n:Nat}{P:Program}
theorem FW.fn(h:FW F)(f:FuncId):F.fn f:=by obtain⟨r,rfl⟩:=h;trivial
theorem FW.dep(h:FW F):F.depth=none:=by obtain⟨r,rfl⟩:=h;rfl
theorem FW.depS(h:FW F){p:Prop}:F.depth.isSome=true->p:=λhd=>by rw[h.dep] at hd;cases hd
theorem FW.fenced(h:FW F):Machine.fenced P F=Machine.fenced P Fence.wide:=by obtain⟨r,rfl⟩:=h;rfl
theorem FW.room(h:FW F)(k:Nat):F.room k:=λd hd=>by rw[h.dep] at hd;cases hd
theorem FW.calls(h:FW F){f:FuncId}{args:Array Value}{w:World}{R:Ending->World->Prop}:CallsIn F n P f args w R↔Calls P f args w R:=by
 refine Iff.trans ?_ (callsIn_wide (n:=n));obtain⟨r,rfl⟩:=h;exact⟨λh=>h,λh=>h⟩
theorem FW.rows(h:FW F){row:String}{args:Array Value}{w:World}{R:Value->World->Prop}(hr:Rows P row args w R):RowsIn F n P row args w R:=λc cs _=>by
 obtain⟨v,w',h1,h2⟩:=hr c cs;refine⟨v,w',h1,?_⟩;rw[h.fenced];exact stepsIn_wide.2 h2
end
section
variable{P:Program}{o:Oper}{ac:Act}{w:World}{post:Value->World->Prop}
theorem d7.inAny(h:d7 P o { ac with defers:=[] } w post){F:Fence}(hF:FW F)(n:Nat)(next:Act->World->Prop)(Q:Exit->Act->World->Prop)(hp:∀x' w',post x' w'->next (ac.put o.dst x') w'):o.wpIn F n P ac w next Q:=by
 have hput:∀v,({ ac with defers:=[] }:Act).put o.dst v={ ac.put o.dst v with defers:=[] }:=λv=>by cases o.dst<;>rfl
 have hinj:∀v x',({ ac with defers:=[] }:Act).put o.dst v=({ ac with defers:=[] }:Act).put o.dst x'->ac.put o.dst v=ac.put o.dst x':=λv x' e=>by
  rw[hput,hput] at e;have e1:=congrArg Act.tmps e
  revert e1
  cases o.dst with
  |none=>intro _;rfl
  |some d=>intro e1;show ({ ac with tmps:=_ }:Act)={ ac with tmps:=_ };congr 1
 have hnd:∀c,o.op≠.defer c:=λc hc=>by
  have h0:=h (λa' _=>a'.defers=[]) (λ_ _ _=>False) (λx' w' _=>by rw[hput])
  unfold Oper.wp at h0;have e:execOp ({ ac with defers:=[] }:Act).eval o=(do return .defer (<- resolve ({ ac with defers:=[] }:Act).eval c o.type)):=by unfold execOp;simp[hc]
  rw[e] at h0;simp only[Sem.run_bind] at h0;cases hr:(resolve ({ ac with defers:=[] }:Act).eval c o.type).run P w with
  |ok d w1 =>
   rw[hr] at h0;have h0:({ ({ ac with defers:=[] }:Act) with defers:=d::[] }.put o.dst undef).defers=[]:=h0
   revert h0
   cases o.dst<;>intro h0<;>cases h0
  |halt x w1 =>
   rw[hr] at h0;cases x<;>exact h0
 have h0:=h (λa' w'=>∃x',post x' w'/\a'=({ ac with defers:=[] }:Act).put o.dst x') (λ_ _ _=>False) (λx' w' hx=>⟨x',hx,rfl⟩)
 unfold Oper.wp at h0;refine⟨λf _=>hF.fn f,?_⟩
 rw[Oper.semAt_eq _ _ _ hnd];have hev:(execOp ac.eval o)=execOp ({ ac with defers:=[] }:Act).eval o:=rfl
 rw[hev]
 revert h0
 generalize (execOp ({ ac with defers:=[] }:Act).eval o).run P w=r
 intro h0;have hnext:∀v w',(∃x',post x' w'/\({ ac with defers:=[] }:Act).put o.dst v=({ ac with defers:=[] }:Act).put o.dst x')->next (ac.put o.dst v) w':=λv w' ⟨x',h1,h2⟩=>by
  rw[hinj v x' h2];exact hp x' w' h1
 cases r with
 |ok q w' =>
  cases q with
  |value v=>exact hnext v w' h0
  |skip=>exact hnext undef w' h0
  |defer d =>
   obtain⟨x',_,h2⟩:=h0;rw[hput] at h2
   have:=congrArg Act.defers h2
   revert this
   cases o.dst<;>intro h<;>cases h
  |enter f args =>
   refine⟨λhd=>hF.depS hd,hF.calls.2 ?_⟩
   have h0:Calls P f args w' _:=h0;refine h0.mono λe w'' he=>?_
   cases e with
   |returned v=>exact hnext v w'' he
   |panicked ch=>exact he.elim
   |outgrown=>obtain⟨a0,w0,hq⟩:=he;exact hq.elim
  |row row args =>
   refine⟨λhd=>hF.depS hd,hF.rows ?_⟩
   have h0:Rows P row args w' _:=h0;exact λc cs=>by
    obtain⟨v,w'',h1,h2⟩:=h0 c cs;exact⟨v,w'',hnext v w'' h1,h2⟩
  |round l f tmps asq body=>exact h0.elim
  |_=>exact h0.elim
 |halt x w' =>
  cases x with
  |panic v=>exact h0.elim
  |_=>exact h0.elim
end
section
variable{W W' WB:Nat->Prop}{ρ ρ0 ρ':Rho}{H H0 H1:List a8}{F F0 F':Fz}{w w0 w':World}{P:Program}
theorem ya6(H:List a8):f0 H=H.map λb=>Bool.rec (motive:=λ_=>a8) b { b with dead:=true } (n8 b):=by unfold f0;rw[g9]
theorem Kc0:(f0 H).length=H.length:=by rw[ya6];simp
theorem G3{id:Nat}{b:a8}(hb:H[id]?=some b)(hs:n8 b=false):(f0 H)[id]?=some b:=by
 rw[ya6,Qbm,hb];simp[hs]
theorem Jb4{id:Nat}{b:a8}(hb:H[id]?=some b)(hs:n8 b=true):(f0 H)[id]?=some { b with dead:=true }:=by
 rw[ya6,Qbm,hb];simp[hs]
theorem J3{id:Nat}{b:a8}(hb:(f0 H)[id]?=some b)(hd:b.dead=false):H[id]?=some b/\n8 b=false:=by
 rw[ya6,Qbm] at hb;cases h:H[id]? with
 |none=>rw[h] at hb;cases hb
 |some c =>
  rw[h] at hb;cases hs:n8 c with
  |false=>simp[hs] at hb;subst hb;exact⟨rfl,hs⟩
  |true=>simp[hs] at hb;subst hb;cases hd
def kb8(H:List a8)(id:Nat):Prop:=∃b,H[id]?=some b/\n8 b=true
def ρsp(H:List a8)(ρ ρ':Rho):Rho:=λid=>@ite _ (kb8 H id) (Classical.propDecidable _) (ρ id) (ρ' id)
theorem ρsp_on{id:Nat}(h:kb8 H id):ρsp H ρ ρ' id=ρ id:=by unfold ρsp;rw[if_pos h]
theorem ρsp_off{id:Nat}(h:¬ kb8 H id):ρsp H ρ ρ' id=ρ' id:=by unfold ρsp;rw[if_neg h]
theorem mc2:∀(H1:List a8),Qa3 [] H1=true->∀(id:Nat) c,H1[id]?=some c->n8 c=false
 |[],_,id,c,hc=>by simp at hc
 |d::r,ho,id,c,hc=>by
  have ho:Bool.and (Bool.rec (motive:=λ_=>Bool) true false (n8 d)) (Qa3 [] r)=true:=ho
  simp only[Qbd] at ho;cases id with
  |zero =>
   simp at hc;subst hc
   have:=ho.1
   cases h:n8 d with
   |false=>rfl
   |true=>rw[h] at this;cases this
  |succ id=>exact mc2 r ho.2 id c (by simpa using hc)
theorem Jb5:∀(H H1:List a8),H.length<=H1.length->Qa3 H H1=true->(l6 H H1).length=H1.length /\
  (∀(id:Nat) b,H[id]?=some b->n8 b=true->(l6 H H1)[id]?=some b) /\
  (∀(id:Nat),¬ kb8 H id->(l6 H H1)[id]?=H1[id]?/\∀c,H1[id]?=some c->n8 c=false)
 |[],H1,_,ho=>by
  refine⟨rfl,λid b hb=>by simp at hb,λid _=>⟨rfl,λc hc=>?_⟩⟩
  exact mc2 H1 ho id c hc
 |b::H,[],hl,_=>by simp at hl
 |b::H,c::H1,hl,ho=>by
  have ho:Bool.and (Bool.rec (motive:=λ_=>Bool) (Bool.rec true false (n8 c)) true (n8 b)) (Qa3 H H1)=true:=ho
  simp only[Qbd] at ho;obtain⟨h1,h2,h3⟩:=Jb5 H H1 (by simpa using hl) ho.2
  have e:l6 (b::H) (c::H1)=Bool.rec (motive:=λ_=>a8) c b (n8 b)::l6 H H1:=rfl
  rw[e];refine⟨by simp[h1],λid d hd hs=>?_,λid hn=>?_⟩
  ·cases id with
   |zero=>simp at hd;subst hd;simp[hs]
   |succ id=>simpa using h2 id d (by simpa using hd) hs
  ·cases id with
   |zero =>
    have hb:n8 b=false:=by
     cases h:n8 b with
     |false=>rfl
     |true=>exact absurd ⟨b,rfl,h⟩ hn
    rw[hb] at ho ⊢;refine⟨rfl,λd hd=>?_⟩
    simp at hd;subst hd
    have:=ho.1
    cases h:n8 c with
    |false=>rfl
    |true=>rw[h] at this;cases this
   |succ id =>
    obtain⟨k1,k2⟩:=h3 id λ⟨d,hd,hs⟩=>hn ⟨d,by simpa using hd,hs⟩
    simp_all
def Ub9(b:a8):Prop:=b.es=0/\b.et=0
def mc3(t:Nat)(b:a8):Prop:=b.es=0/\b.et=t+1
inductive XC (ρ:Rho) (H:List a8) (F:Fz) (w:World):a7->Value->Prop
 |n {x:a7} {x':Value} (h:D4 ρ (f0 H) F w x x'):XC ρ H F w x x'
 |box (id c g:Nat) (b:a8) (hb:H[id]?=some b) (hd:b.dead=false) (he:Ub9 b):XC ρ H F w (.ptr id 0 c g) (.pointer (some ⟨(ρ id).blk,c,none⟩))
 |map (id c g:Nat) (b:a8) (t:Nat) (hb:H[id]?=some b) (hd:b.dead=false) (he:mc3 t b):XC ρ H F w (.ptr id 0 c g) (.map (some (ρ id).blk))
inductive XW (ρ:Rho) (H:List a8) (F:Fz) (w:World):a7->Value->Prop
 |w {x:a7} {x':Value} (h:o5 ρ (f0 H) F w x x'):XW ρ H F w x x'
 |c {x:a7} {x':Value} (h:XC ρ H F w x x'):XW ρ H F w x x'
theorem ka7{b:a8}(h:Ub9 b):n8 b=true:=by unfold n8;rw[h.1];rfl
theorem na4{b:a8}{t:Nat}(h:mc3 t b):n8 b=true:=by unfold n8;rw[h.1];rfl
theorem XC.one{x:a7}{x':Value}(h:XC ρ H F w x x')(hb:rc7 x=true):x'.oneCell'=true:=by
 cases h with
 |n h =>
  cases h with
  |mem h=>exact h.one
  |v=>exact (by rw[<- La4];exact hb)
  |ptr=>rfl
  |sl=>rfl
  |tptr=>cases hb
  |unk=>cases hb
 |box=>rfl
 |map=>rfl
structure Gd8(ρ:Rho)(H:List a8)(F:Fz)(w:World)(b:a8)(blk:Nat):Prop where
 et:Ub9 b
 has:∃row vs t,b.elems=[row]/\w.heap[blk]?=some (.cells vs t (0,0))/\row.length<=vs.size/\∀(c:Nat) x x',row[c]?=some x->vs[c]?=some x'->x'.oneCell'=true/\XC ρ H F w x x'
def Jb6(fl:List (Nat×CK))(kl:Nat)(r:List a7)(e:MapEntry):Prop:=∃(ks:Array Value) (v:Bool),r=ks.toList.map .v++[.v (.bool v)]/\ks.size=kl/\e.key=.agg ks/\e.val=.bool v/\∀p∈fl,ca0 ks p
structure Gd9(P:Program)(w:World)(b:a8)(blk:Nat):Prop where
 has:∃t K El fl es clk,mc3 t b/\P.underlying t=some (.map K El)/\K2 P 9 K=some fl/\w.heap[blk]?=some (.map es clk)/\b.elems.length=es.size /\
  ∀(i:Nat) r e,b.elems[i]?=some r->es[i]?=some e->Jb6 fl (szT P K) r e
structure Tc8(P:Program)(WB W':Nat->Prop)(ρ:Rho)(H:List a8)(F:Fz)(w:World):Prop where
 has:∀(id:Nat) b,H[id]?=some b->n8 b=true->b.dead=false->WB (ρ id).blk/\¬ W' (ρ id).blk/\(∀o,¬ F (ρ id).blk o)/\(ρ id).blk<w.heap.size/\(Gd8 ρ H F w b (ρ id).blk\/Gd9 P w b (ρ id).blk)
 apart:∀(id id':Nat) b b',H[id]?=some b->H[id']?=some b'->n8 b=true->n8 b'=true->b.dead=false->b'.dead=false->id≠id'->(ρ id).blk≠(ρ id').blk
theorem Adv.mono(h:Adv W ρ H F w ρ' H1 F' w')(hW:∀k,W k->WB k):Adv WB ρ H F w ρ' H1 F' w' :=
 ⟨⟨h.ext.os,h.ext.tape,h.ext.output,h.ext.size,λk hk hn=>h.ext.block k hk λhw=>hn (hW k hw),h.ext.cells,h.ext.drawn⟩,h.heap,h.more,λb o hf=>(h.new b o hf).imp id (hW b),λid b' hb' hn=>hW _ (h.fresh id b' hb' hn)⟩
section
variable(hA:Adv W' ρ (f0 H) F w ρ' H1 F' w')(ho:Qa3 H H1=true)
include hA ho
theorem Tc9:H.length<=H1.length:=by
 rcases Qbq H.length with h|h
 ·omega
 ·have hlt:H.length-1<(f0 H).length:=by rw[Kc0];omega
  obtain⟨b',hb',_⟩:=hA.heap (H.length-1) _ (Qaa hlt)
  grind
theorem Ya6:(l6 H H1).length=H1.length /\
  (∀(id:Nat) b,H[id]?=some b->n8 b=true->(l6 H H1)[id]?=some b) /\
  (∀(id:Nat),¬ kb8 H id->(l6 H H1)[id]?=H1[id]?/\∀c,H1[id]?=some c->n8 c=false):=Jb5 H H1 (Tc9 hA ho) ho
theorem Kc1{id:Nat}{b:a8}(hb:(f0 (l6 H H1))[id]?=some b)(hd:b.dead=false):H1[id]?=some b/\¬ kb8 H id:=by
 obtain⟨h1,h2,h3⟩:=Ya6 hA ho;obtain⟨k1,k2⟩:=J3 hb hd;by_cases hs:kb8 H id
 ·obtain⟨c,hc,hcs⟩:=hs
  simp_all
 simp_all
theorem Kc2{id:Nat}{b:a8}(hb:H1[id]?=some b)(hd:b.dead=false):(f0 (l6 H H1))[id]?=some b/\ρsp H ρ ρ' id=ρ' id:=by
 obtain⟨h1,h2,h3⟩:=Ya6 hA ho;by_cases hs:kb8 H id
 ·obtain⟨c,hc,hcs⟩:=hs;obtain⟨b',hb',hd',_⟩:=hA.heap id _ (Jb4 hc hcs)
  simp_all
 ·obtain⟨k1,k2⟩:=h3 id hs;exact⟨G3 (k1.trans hb) (k2 b hb),ρsp_off hs⟩
theorem Jb7:Ub3 ρ' H1 (ρsp H ρ ρ') (f0 (l6 H H1)):=λid b hb hd=>by
 obtain⟨h1,h2⟩:=Kc2 hA ho hb hd
 simp_all
theorem vc7{x:a7}{x':Value}(h:o5 ρ' H1 F' w' x x'):o5 (ρsp H ρ ρ') (f0 (l6 H H1)) F' w' x x':=h.carry (Jb7 hA ho) (λ_ _ h=>h) (λ_ _ _=>rfl)
theorem Kc3(hH:n7 W' ρ' H1 F' w'):n7 W' (ρsp H ρ ρ') (f0 (l6 H H1)) F' w' :=
 hH.pull (λi=>i) (λi b hb hd=>by
  obtain⟨h1,h2⟩:=Kc1 hA ho hb hd;exact⟨h1,ρsp_off h2⟩) (λ_ _ _ _ _ _ _ _ e=>e)
theorem Cc9{x:a7}{x':Value}(h:XC ρ H F w x x'):XC (ρsp H ρ ρ') (l6 H H1) F' w' x x':=by
 obtain⟨h1,h2,h3⟩:=Ya6 hA ho;cases h with
 |n h=>exact .n ((h.adv hA).carry (Jb7 hA ho) (λ_ _ h=>h) (λ_ _ _=>rfl))
 |box id c g b hb hd he =>
  have e:ρsp H ρ ρ' id=ρ id:=ρsp_on ⟨b,hb,ka7 he⟩;rw[<- e];exact .box id c g b (h2 id b hb (ka7 he)) hd he
 |map id c g b t hb hd he =>
  have e:ρsp H ρ ρ' id=ρ id:=ρsp_on ⟨b,hb,na4 he⟩;rw[<- e];exact .map id c g b t (h2 id b hb (na4 he)) hd he
theorem ld8{x:a7}{x':Value}(h:XW ρ H F w x x'):XW (ρsp H ρ ρ') (l6 H H1) F' w' x x':=by
 cases h with
 |w h=>exact .w (vc7 hA ho (h.adv hA))
 |c h=>exact .c (Cc9 hA ho h)
theorem Kc4(hS:Tc8 P WB W' ρ H F w):Tc8 P WB W' (ρsp H ρ ρ') (l6 H H1) F' w':=by
 obtain⟨h1,h2,h3⟩:=Ya6 hA ho;have hold:∀(id:Nat) b,(l6 H H1)[id]?=some b->n8 b=true->H[id]?=some b/\kb8 H id:=λid b hb hs=>by
  by_cases hsp:kb8 H id
  ·obtain⟨c,hc,hcs⟩:=hsp;rw[h2 id c hc hcs] at hb;obtain rfl:c=b:=Qah hb;exact⟨hc,c,hc,hcs⟩
  ·obtain⟨k1,k2⟩:=h3 id hsp;rw[k1] at hb;rw[k2 b hb] at hs;cases hs
 refine⟨λid b hb hs hd=>?_,λid id' b b' hb hb' hs hs' hd hd' hne=>?_⟩
 ·obtain⟨hb0,hsp⟩:=hold id b hb hs;obtain⟨k1,k2,k3,k4,k5⟩:=hS.has id b hb0 hs hd;have hblk:w'.heap[(ρ id).blk]?=w.heap[(ρ id).blk]?:=hA.ext.block _ k4 k2;rw[ρsp_on hsp];refine⟨k1,k2,λo hf=>?_,Qaj k4 hA.ext.size,?_⟩
  ·rcases hA.new _ _ hf with h|h
   ·exact k3 o h
   ·exact k2 h
  ·rcases k5 with⟨e,row,vs,t,m1,m2,m3,m4⟩|⟨t,K,El,fl,es,clk,m1,m2,m3,m4,m5,m6⟩
   ·exact .inl ⟨e,row,vs,t,m1,hblk.trans m2,m3,λc x x' hx hx'=>⟨(m4 c x x' hx hx').1,Cc9 hA ho (m4 c x x' hx hx').2⟩⟩
   ·exact .inr ⟨t,K,El,fl,es,clk,m1,m2,m3,hblk.trans m4,m5,m6⟩
 ·obtain⟨hb0,hsp⟩:=hold id b hb hs;obtain⟨hb0',hsp'⟩:=hold id' b' hb' hs';rw[ρsp_on hsp,ρsp_on hsp'];exact hS.apart id id' b b' hb0 hb0' hs hs' hd hd' hne
theorem Uc0{id:Nat}{b:a8}(hb:(l6 H H1)[id]?=some b)(hs:n8 b=true):H[id]?=some b/\kb8 H id:=by
 obtain⟨h1,h2,h3⟩:=Ya6 hA ho;by_cases hsp:kb8 H id
 ·obtain⟨c,hc,hcs⟩:=hsp
  grind
 grind
theorem Uc1{K:Nat->Prop}(h:∀(id:Nat) b,H[id]?=some b->n8 b=true->b.dead=false->¬ K (ρ id).blk):∀(id:Nat) b,(l6 H H1)[id]?=some b->n8 b=true->b.dead=false->¬ K (ρsp H ρ ρ' id).blk:=λid b hb hs hd=>by
 obtain⟨k1,k2⟩:=Uc0 hA ho hb hs;rw[ρsp_on k2];exact h id b k1 hs hd
theorem Uc2(hW:∀k,W' k->WB k):Adv WB ρ H F w (ρsp H ρ ρ') (l6 H H1) F' w':=by
 obtain⟨h1,h2,h3⟩:=Ya6 hA ho;have hm:=hA.mono hW;refine⟨hm.ext,λid b hb=>?_,hm.more,hm.new,λid b' hb' hn=>?_⟩
 ·cases hs:n8 b with
  |true=>exact⟨b,h2 id b hb hs,rfl,Qac _,λ_=>⟨ρsp_on ⟨b,hb,hs⟩,rfl,Qac _⟩⟩
  |false =>
   have hnsp:¬ kb8 H id:=λ⟨c,hc,hcs⟩=>by
    rw[hb] at hc;cases hc;rw[hs] at hcs;cases hcs
   obtain⟨b',k1,k2,k3,k4⟩:=hm.heap id b (G3 hb hs);exact⟨b',(h3 id hnsp).1.trans k1,k2,k3,λhg=>by rw[ρsp_off hnsp];exact k4 hg⟩
 ·by_cases hsp:kb8 H id
  ·obtain⟨c,hc,hcs⟩:=hsp
   simp_all
  ·rw[ρsp_off hsp];rw[(h3 id hsp).1] at hb';refine hm.fresh id b' hb' λb hb=>?_
   cases h:H[id]? with
   |none =>
    rw[ya6,Qbm,h] at hb;cases hb
   |some c =>
    cases hs:n8 c with
    |true=>exact absurd ⟨c,h,hs⟩ hsp
    |false =>
     rw[G3 h hs] at hb;cases hb;exact hn b h
end
end
def bb8(WB W':Nat->Prop)(ds:List Deferred)(w:World):Prop:=(∀d∈ds,∃D,d={ target:=.collected D,args:=#[] }/\w.heap[D]?=some (.deferred (some []))/\¬ W' D/\D<w.heap.size/\WB D)/\ds.Nodup
def VR(ρ:Rho)(H:List a8)(F:Fz)(w:World)(a:List a7)(vs:List Value):Prop:=a.length=vs.length/\∀(i:Nat) x x',a[i]?=some x->vs[i]?=some x'->XW ρ H F w x x'
structure C2(P:Program)(WB:Nat->Prop)(K:Nat->Prop)(J:List Value->World->Prop)(ρ0:Rho)(H0:List a8)(F0:Fz)(w0:World)(H:List a8)(ds:List Deferred)(w:World)(ρ:Rho)(F:Fz)(W':Nat->Prop)(up:List Value):Prop where
 sub:∀k,W' k->WB k
 adv:Adv WB ρ0 H0 F0 w0 ρ H F w
 hrel:n7 W' ρ (f0 H) F w
 srel:Tc8 P WB W' ρ H F w
 kept:∀k,K k->¬ W' k/\k<w.heap.size
 far:∀(id:Nat) b,H[id]?=some b->n8 b=true->b.dead=false->¬ K (ρ id).blk
 jot:J up w
 marks:bb8 WB W' ds w
structure I2(P:Program)(WB:Nat->Prop)(K:Nat->Prop)(J:List Value->World->Prop)(n:Nat)(ρ0:Rho)(H0:List a8)(F0:Fz)(w0:World)(s:St)(ac:Act)(w:World)(ρ:Rho)(F:Fz)(W':Nat->Prop)(up:List Value):Prop where
 core:C2 P WB K J ρ0 H0 F0 w0 s.H ac.defers w ρ F W' up
 vals:VR ρ s.H F w s.a (ac.tmps.toList++up)
 size:ac.tmps.size=n
def Jb8(P:Program)(WB:Nat->Prop)(K:Nat->Prop)(J:List Value->World->Prop)(n:Nat)(ρ0:Rho)(H0:List a8)(F0:Fz)(w0:World)(s:St)(ac:Act)(w:World):Prop :=
 ∃ρ F W' up,I2 P WB K J n ρ0 H0 F0 w0 s ac w ρ F W' up
def Tr(ρ:Rho)(H:List a8)(F:Fz)(w:World)(ρ':Rho)(H':List a8)(F':Fz)(w':World):Prop:=∀x x',XW ρ H F w x x'->XW ρ' H' F' w' x x'
def Ta7(K:Nat->Prop)(J:List Value->World->Prop):Prop:=∀up w w',(∀k,K k->w'.heap[k]?=w.heap[k]?)->J up w->J up w'
section
variable{P:Program}{WB K:Nat->Prop}{J:List Value->World->Prop}{ρ ρ0 ρ':Rho}{H H0 H1:List a8}{F F0 F':Fz}{w w0 w':World}{W':Nat->Prop}{up:List Value}{s:St}{ac ac':Act}{E:Env}
theorem bb8.step{ds:List Deferred}(h:bb8 WB W' ds w)(he:Ext W' F w w'):bb8 WB W' ds w':=⟨λd hd=>by
 obtain⟨D,h1,h2,h3,h4,h5⟩:=h.1 d hd;exact⟨D,h1,(he.block D h4 h3).trans h2,h3,Qaj h4 he.size,h5⟩,h.2⟩
theorem C2.step{ds:List Deferred}(h:C2 P WB K J ρ0 H0 F0 w0 H ds w ρ F W' up)(hJ:Ta7 K J)(hA:Adv W' ρ (f0 H) F w ρ' H1 F' w')(ho:Qa3 H H1=true)(hH1:n7 W' ρ' H1 F' w') :
  C2 P WB K J ρ0 H0 F0 w0 (l6 H H1) ds w' (ρsp H ρ ρ') F' W' up/\Tr ρ H F w (ρsp H ρ ρ') (l6 H H1) F' w' :=
 ⟨⟨h.sub,h.adv.trans (Uc2 hA ho h.sub),Kc3 hA ho hH1,Kc4 hA ho h.srel,λk hk=>⟨(h.kept k hk).1,Qaj (h.kept k hk).2 hA.ext.size⟩,
  Uc1 hA ho h.far,hJ up w w' (λk hk=>hA.ext.block k (h.kept k hk).2 (h.kept k hk).1) h.jot,h.marks.step hA.ext⟩,λ_ _ hx=>ld8 hA ho hx⟩
structure Ba2(DS:Nat->Prop)(tm:Array Value)(ds:List Deferred)(W:Nat->Prop)(ρ0:Rho)(H0:List a8)(F0:Fz)(w0:World)(s:St)(ac:Act)(w:World):Prop where
 defers:ac.defers=ds
 size:ac.tmps.size=tm.size
 same:∀t,¬ DS t->ac.tmps[t]?=tm[t]?
 rel:∃ρ F,Adv W ρ0 H0 F0 w0 ρ s.H F w/\n7 W ρ s.H F w/\R4 ρ s.H F w s.a ac.tmps
theorem H6{ac:Act}(dst:Option Nat)(v:Value):(ac.put dst v).tmps.size=ac.tmps.size:=by cases dst<;>simp[Act.put]
theorem Ia4{ac:Act}{dst:Option Nat}{v:Value}{t:Nat}(h:dst≠some t):(ac.put dst v).tmps[t]?=ac.tmps[t]?:=by
 cases dst with
 |none=>rfl
 |some d=>exact Array.getElem?_setIfInBounds_ne λe=>h (by rw[e])
section
variable{W:Nat->Prop}{DS:Nat->Prop}{tm:Array Value}{ds:List Deferred}{Fe:Fence}{n:Nat}
variable(hF:FW Fe)(hG0:GOk E F0 w0)(hcalls:∀f,c8 E.P E.G f (E.call f))
include hF hG0 hcalls
theorem piM{ops:Array Oper}{o:Oper}{g:Option (Nat×Bool)}{s s':St}{ac:Act}{i:Nat}{rest:List Nat}{Q:Exit->Act->World->Prop}(hi:ops[i]?=some o)(hg:J2 ops o=some g)(hDS:∀d,o.dst=some d->DS d)
  (hI:Ba2 DS tm ds W ρ0 H0 F0 w0 s ac w) (he:(ja7 E s ⟨o.dst,g,[],Ia0 E.P ops o⟩).run=some s') (hK:∀ac' w',Ba2 DS tm ds W ρ0 H0 F0 w0 s' ac' w'->wpOpsIn Fe n E.P ops Q rest ac' w'):wpOpsIn Fe n E.P ops Q (i::rest) ac w:=by
 obtain⟨hd,hsz,hsm,ρ,F,hAdv,hH,hA⟩:=hI;simp only[wpOpsIn,hi];have hsame:∀v t,¬ DS t->(ac.put o.dst v).tmps[t]?=tm[t]?:=λv t ht=>(Ia4 λe=>ht (hDS t e)).trans (hsm t ht)
 rcases xb0 hg hA he with⟨hw,he⟩|⟨hw,he⟩
 ·rw[if_pos hw];unfold zb3 at he;obtain⟨⟨x,H'⟩,h1,h2⟩:=DT.run_bind_some he;have h1':(evalOp E s.a s.H (Ia0 E.P ops o)).run=some (x,H'):=h1;have hop:=rb2 (ac:={ ac with defers:=[] }) hA hH (hG0.adv hAdv) hcalls h1'
  refine hop.inAny hF n _ _ λx' w' hp=>?_
  obtain⟨ρ',F',a1,a2,a3⟩:=hp;have h2':some (⟨putA s.a o.dst x,H'⟩:St)=some s':=h2;injection h2' with h2';subst h2';exact hK _ _ ⟨(k9 _ _).trans hd,(H6 _ _).trans hsz,hsame x',ρ',F',hAdv.trans a1,a2,(hA.adv a1).putA o.dst a3⟩
 ·rw[if_neg (by simp[hw])]
  subst he;exact⟨λf _=>hF.fn f,hK _ _ ⟨(k9 _ _).trans hd,(H6 _ _).trans hsz,hsame _,ρ,F,hAdv,hH,hA.putA o.dst (.ofv _)⟩⟩
theorem Sd3{ops:Array Oper}{Q:Exit->Act->World->Prop}{rest:List Nat}:∀(r:List Oper) (k:Nat) (l:List PI) (s s':St) (ac:Act) (w:World),(∃t,ops.toList.drop k=r++t)->(∀o∈r,∀d,o.dst=some d->DS d)->eb5 E.P ops r=some l->Ba2 DS tm ds W ρ0 H0 F0 w0 s ac w->(w9 E l s).run=some s' ->
  (∀ac' w',Ba2 DS tm ds W ρ0 H0 F0 w0 s' ac' w'->wpOpsIn Fe n E.P ops Q rest ac' w')->wpOpsIn Fe n E.P ops Q (List.range' k r.length++rest) ac w
 |[],k,l,s,s',ac,w,hr,hDS,hl,hI,he,hQ=>by
  simp only[eb5] at hl;injection hl with hl;subst hl;have he':some s=some s':=he
  simp_all
 |o::r,k,l,s,s',ac,w,hr,hDS,hl,hI,he,hQ=>by
  obtain⟨t,hr⟩:=hr;obtain⟨g,l',h1,h2,rfl⟩:=Tb9 hl;have he':((ja7 E s ⟨o.dst,g,[],Ia0 E.P ops o⟩).bind (w9 E l')).run=some s':=he;obtain⟨s1,h3,h4⟩:=DT.run_bind_some he';have hi:ops[k]?=some o:=by
   have:(ops.toList.drop k)[0]?=some o:=by rw[hr];rfl
   simpa using this
  rw[show (o::r).length=r.length+1 from rfl,List.range'_succ,List.cons_append]
  refine piM hF hG0 hcalls hi h1 (λd hd=>hDS o (.head _) d hd) hI h3 λac' w' hI'=>?_
  refine Sd3 r (k+1) l' s1 s' ac' w' ⟨t,?_⟩ (λo ho=>hDS o (.tail _ ho)) h2 hI' h4 hQ
  rw[<- List.drop_drop,hr];rfl
end
theorem Ta8 (ds : List Nat) : ∀ (a l : List a7) (k i : Nat), (N8 ds a l k)[i]? = match a[i]? with
  |some x=>some (Bool.rec (motive:=λ_=>a7) x ((l[i]?).getD .unk) (ra1 (k+i) ds))
  |none=>none
 |[],l,k,i=>by simp[N8]
 |x::a,l,k,i=>by
  have e:N8 ds (x::a) l k=Bool.rec (motive:=λ_=>a7) x (hdA l) (ra1 k ds)::N8 ds a (tlA l) (k+1):=rfl
  rw[e];cases i with
  |zero=>cases l<;>rfl
  |succ i =>
   simp only[List.getElem?_cons_succ];rw[Ta8 ds a (tlA l) (k+1) i,show k+1+i=k+(i+1) by omega]
   cases l with
   |nil=>simp[tlA]
   |cons y l=>simp[tlA]
theorem Ta9(ds:List Nat):∀(a l:List a7) (k:Nat),(N8 ds a l k).length=a.length
 |[],_,_=>rfl
 |x::a,l,k=>congrArg Nat.succ (Ta9 ds a (tlA l) (k+1))
theorem Jb9(k:Nat)(l:List Nat):ra1 k l=true↔k∈l:=by
 induction l with
 |nil=>simp[ra1]
 |cons x l ih =>
  have e:ra1 k (x::l)=Bool.rec (ra1 k l) true (Nat.beq x k):=rfl;rw[e,Qbp];cases h:Nat.beq x k with
  |true=>have:=Qae h;simp[this]
  |false =>
   have:=Qbae h
   grind
theorem Vb0{x:a7}{x':Value}(h:XW ρ H F w x x'):o5 ρ (f0 H) F w (K1 H x) x':=by
 cases h with
 |w h =>
  unfold K1;split
  ·rename_i id i c g;split
   ·rename_i b hb;cases n8 b with
    |true=>exact .unk _
    |false=>exact h
   ·exact .unk _
  ·exact h
 |c h =>
  cases h with
  |n h =>
   unfold K1;split
   ·split
    ·rename_i b hb;cases n8 b with
     |true=>exact .unk _
     |false=>exact .val (.cell h)
    ·exact .unk _
   ·exact .val (.cell h)
  |box id c g b hb hd he =>
   unfold K1;simp only[n4,hb,ka7 he];exact .unk _
  |map id c g b t hb hd he =>
   unfold K1;simp only[n4,hb,na4 he];exact .unk _
theorem I2.arel{n:Nat}(h:I2 P WB K J n ρ0 H0 F0 w0 s ac w ρ F W' up):R4 ρ (f0 s.H) F w (i9 (K1 s.H) (q9 s.a n)) ac.tmps:=by
 have hl:=h.vals.1;have hn:=h.size;rw[Qdf,Array.length_toList] at hl;rw[g9,r4];refine⟨by simp;omega,λi x x' hx hx'=>?_⟩
 rw[Qbm] at hx;have hi:i<n:=hn ▸ (Qbo.1 hx').1;rw[Qbe,if_pos hi] at hx;cases hy:s.a[i]? with
 |none=>rw[hy] at hx;cases hx
 |some y =>
  rw[hy] at hx;injection hx with hx;subst hx;refine Vb0 (h.vals.2 i y x' hy ?_)
  grind
theorem rb6{n:Nat}(hJ:Ta7 K J){dd:List Nat}{s s2:St}{ac':Act}(hI:I2 P WB K J n ρ0 H0 F0 w0 s ac w ρ F W' up)(ho:Qa3 s.H s2.H=true)
  (hM:Ba2 (·∈dd) ac.tmps ac.defers W' ρ (f0 s.H) F w s2 ac' w'):Jb8 P WB K J n ρ0 H0 F0 w0 ⟨N8 dd s.a s2.a 0,l6 s.H s2.H⟩ ac' w'/\ac'.defers=ac.defers/\(∀t,¬ t∈dd->ac'.tmps[t]?=ac.tmps[t]?):=by
 obtain⟨hd,hsz,hsm,ρ',F',hA,hH,hAr⟩:=hM;obtain⟨c1,c2⟩:=hI.core.step hJ hA ho hH;refine⟨⟨_,F',W',up,hd ▸ c1,⟨by rw[Ta9];have:=hI.vals.1;rw[Qdf,Array.length_toList] at this ⊢;omega,λi y y' hy hy'=>?_⟩,hsz.trans hI.size⟩,hd,hsm⟩
 have hn:=hI.size
 simp only at hy
 rw[Ta8] at hy;cases hz:s.a[i]? with
 |none=>rw[hz] at hy;cases hy
 |some z =>
  rw[hz] at hy;injection hy with hy;rw[Qbh] at hy
  rcases Qan i n with hi|hi
  ·rw[Qbg (by rw[Array.length_toList];omega)] at hy'
   have hy':ac'.tmps[i]?=some y':=by simpa using hy'
   cases hm:ra1 i dd with
   |true =>
    rw[hm] at hy;have hy:(s2.a[i]?).getD .unk=y:=hy;cases hq:s2.a[i]? with
    |none=>rw[hq] at hy;subst hy;exact .w (.unk _)
    |some q =>
     rw[hq] at hy;have hy:q=y:=hy;subst hy;exact .w (vc7 hA ho (hAr.2 i q y' hq hy'))
   |false =>
    rw[hm] at hy;have hy:z=y:=hy;subst hy;have hnm:¬ i∈dd:=λh=>by rw[(Jb9 i dd).2 h] at hm;cases hm
    rw[hsm i hnm] at hy';refine c2 _ _ (hI.vals.2 i z y' hz ?_)
    grind
  ·have hlen : s2.a.length = n := by
    have:=hAr.1
    omega
   have hnone:s2.a[i]?=none:=Qal (by omega)
   rw[Qbf (by rw[Array.length_toList];omega)] at hy'
   have hy0:(ac.tmps.toList++up)[i]?=some y':=by
    grind
   rw[hnone] at hy;cases hm:ra1 i dd with
   |true=>rw[hm] at hy;have hy:a7.unk=y:=hy;subst hy;exact .w (.unk _)
   |false=>rw[hm] at hy;have hy:z=y:=hy;subst hy;exact c2 _ _ (hI.vals.2 i z y' hz hy0)
theorem ld9{Fe:Fence}{n m k kk:Nat}(hF:FW Fe)(hG0:GOk E F0 w0)(hcalls:∀f,c8 E.P E.G f (E.call f))(hJ:Ta7 K J){ops:Array Oper}{Q:Exit->Act->World->Prop}{rest:List Nat}{r:List Oper}{l:List PI}{dd:List Nat}{x:c7}{s s':St}
  (hr:∃t,ops.toList.drop k=r++t) (hDS:∀o∈r,∀d,o.dst=some d->d∈dd) (hl:eb5 E.P ops r=some l) (hI:Jb8 E.P WB K J n ρ0 H0 F0 w0 s ac w) (he:(p7 E kk (.mask n dd (.ops l)) s).run=some (x,s'))
  (hQ:∀ac' w',Jb8 E.P WB K J n ρ0 H0 F0 w0 s' ac' w'->ac'.defers=ac.defers->(∀t,¬ t∈dd->ac'.tmps[t]?=ac.tmps[t]?)->wpOpsIn Fe m E.P ops Q rest ac' w'):x=.normal/\wpOpsIn Fe m E.P ops Q (List.range' k r.length++rest) ac w:=by
 obtain⟨ρ,F,W',up,hI⟩:=hI;have he':((p7 E kk (.ops l) ⟨i9 (K1 s.H) (q9 s.a n),f0 s.H⟩).bind λr=>.guard (Qa3 s.H r.2.H) (.ret (r.1,⟨N8 dd s.a r.2.a 0,l6 s.H r.2.H⟩))).run=some (x,s'):=he
 obtain⟨⟨x1,s1⟩,h1,h2⟩:=DT.run_bind_some he';obtain⟨ho,h2⟩:=DT.run_guard_some h2;have h2:some (x1,(⟨N8 dd s.a s1.a 0,l6 s.H s1.H⟩:St))=some (x,s'):=h2;injection h2 with h2;injection h2 with e1 e2;subst e1 e2
 have h1':((w9 E l ⟨i9 (K1 s.H) (q9 s.a n),f0 s.H⟩).bind λs=>.ret (c7.normal,s)).run=some (x1,s1):=h1
 obtain⟨s2,h3,h4⟩:=DT.run_bind_some h1';have h4:some (c7.normal,s2)=some (x1,s1):=h4;injection h4 with h4;injection h4 with e1 e2;subst e1 e2
 refine⟨rfl,?_⟩;have hG:GOk E F w:=hG0.adv hI.core.adv;refine Sd3 (DS:=(·∈dd)) (tm:=ac.tmps) (ds:=ac.defers) (W:=W') (ρ0:=ρ) (H0:=f0 s.H) (F0:=F) (w0:=w) hF hG hcalls r k l _ s2 ac w hr hDS hl ⟨rfl,rfl,λ_ _=>rfl,ρ,F,.refl,hI.core.hrel,hI.arel⟩ h3 λac' w' hM=>?_
 obtain⟨k1,k2,k3⟩:=rb6 hJ hI ho hM;exact hQ ac' w' k1 k2 k3
end
end Go.Ev
