/- Own work. -/
import Derived.Test.YtgphembaimondaaGreatDoorEvDraw1
import Derived.Shelf.SlSortCmp.WholeK
import Derived.CallsIn
import Derived.RangeFuncIn
import Derived.RangeFuncRecord
import Derived.RangeFuncLeaves
import Derived.ControlIn
import Derived.LoopNIn
import Derived.TacticsIn
set_option linter.all false
noncomputable section
def Qda:=@List.getD_eq_getElem?_getD
def Qdb:=@Bool.not_eq_true'
def Qdc:=@Array.getElem?_append_left
def Qdd:=@Array.all_eq_true_iff_forall_mem
def Qde:=@List.mem_filterMap
def Qdf:=@Bool.or_eq_true
def Qdg:=@Array.getElem?_modify
def Qdh:=@Go.Ev.Agr.arg
namespace Go.Ev
open Go
def Hb1(E:Env)(a:List a7)(g:Option (Nat×Bool)):Option Bool :=
 match g with
 |none=>some true
 |some (d,want)=>match c8 E a (.t d) with
  |.v (.bool b)=>some (match want with | true=>b | false=>!b)
  |.v (.tuple _)=>some false
  |_=>none
section
variable{E:Env}{a a':List a7}{s s':St}{p:PI}
theorem mb2{g:Option (Nat×Bool)}(h:Agr a a' (lb4 g)):Hb1 E a g=Hb1 E a' g:=by
 cases g with
 |none=>rfl
 |some g =>
  obtain⟨d,want⟩:=g;simp only[Hb1];rw[Agr.t (E:=E) (h d (by simp[lb4]))]
theorem qb0(he:(ma7 E s p).run=some s'):∃b,Hb1 E s.a p.guard=some b/\(b=true->(Gb6 E s p).run=some s')/\(b=false->s'=⟨putA s.a p.dst (.v (.tuple #[])),s.H⟩):=by
 obtain⟨dst,g,hide,op⟩:=p;cases g with
 |none=>exact⟨true,rfl,λ_=>he,λh=>by cases h⟩
 |some g =>
  obtain⟨d,want⟩:=g;rw[Db7] at he;simp only[Hb1]
  revert he
  generalize c8 E s.a (.t d)=u;intro he
  split at he
  ·rename_i b
   rcases DT.run_ite_some he with⟨h1,h2⟩|⟨h1,h2⟩
   ·grind
   ·exact⟨false,congrArg some h1,λh=>by (cases h),λ_=>by simpa using h2.symm⟩
  ·simp_all
  ·cases he
theorem vc0{ρ:Rho}{H:List a8}{F:Fz}{w:World}{ops:Array Oper}{o:Oper}{g:Option (Nat×Bool)}{tmps:Array Value}{b:Bool}(hg:K0 ops o=some g)(hA:T1 ρ H F w a tmps)(ho:Hb1 E a g=some b) :
  Region.wanted o (yielded ops tmps)=b:=by
 unfold K0 at hg;unfold Region.wanted;cases hgo:o.guard with
 |none =>
  simp only[hgo] at hg ⊢;injection hg with hg;subst hg;injection ho
 |some jw =>
  obtain⟨j,want⟩:=jw;simp only[hgo] at hg ⊢;cases hj:ops[j]? with
  |none=>simp[hj] at hg
  |some oj =>
  simp only[hj] at hg;cases hd:oj.dst with
  |none=>simp[hd] at hg
  |some d =>
  simp only[hd] at hg;injection hg with hg;subst hg;have hrel:∀v,c8 E a (.t d)=.v v->tmps[d]?=some v:=λv hv=>by
   rw[za0] at hv
   rcases Qan d a.length with hlt|hge
   ·rw[Qaa hlt] at hv;have hlt':d<tmps.size:=hA.1 ▸ hlt;have h1:=hA.2 d _ _ (Qaa hlt) (Qai hlt');simp only[Option.getD_some] at hv;rw[hv] at h1;rw[Qai hlt',F9 h1]
   ·rw[Qal hge] at hv;cases hv
  simp only[Hb1] at ho
  revert ho hrel
  generalize c8 E a (.t d)=u;intro ho hrel
  split at ho
  ·rename_i b';rw[Ra3 hj hd (hrel _ rfl)];injection ho with ho;subst ho
   grind
  ·rename_i vs;rw[Ka2 hj hd (hrel _ rfl)];injection ho with ho
  ·cases ho
theorem vc1(he:(Gb6 E s p).run=some s'):∃x H',(evalOp E s.a (kb9 s.H (va4 s.a p.hide)) p.op).run=some (x,H')/\s'=⟨putA s.a p.dst x,va5 s.H H' (va4 s.a p.hide)⟩:=by
 unfold Gb6 at he;obtain⟨⟨x,H1⟩,h1,h2⟩:=DT.run_bind_some he;have h2':some (⟨putA s.a p.dst x,H1⟩:St)=some s':=h2;injection h2' with h2';subst h2';cases hh:p.hide with
 |nil =>
  rw[hh] at h1;exact⟨x,H1,h1,rfl⟩
 |cons d l =>
  rw[hh] at h1;have h1':((evalOp E s.a (kb9 s.H (va4 s.a (d::l))) p.op).bind λr=>.ret (r.1,va5 s.H r.2 (va4 s.a (d::l)))).run=some (x,H1):=h1
  obtain⟨⟨y,H'⟩,h3,h4⟩:=DT.run_bind_some h1';have h4':some (y,va5 s.H H' (va4 s.a (d::l)))=some (x,H1):=h4
  grind
end
def ba0(ops:Array Oper)(j:Nat):Oper:=ops.getD j default
theorem R2{ops:Array Oper}{j:Nat}(h:j<ops.size):ops[j]?=some (ba0 ops j):=by simp[ba0,Array.getD,h]
def mb3(ops:Array Oper)(j:Nat):Option (Nat×Bool):=(K0 ops (ba0 ops j)).getD none
def w6(tr:Nat)(P:Program)(ops:Array Oper)(j:Nat):Nat:=hb9 tr P ops (ba0 ops j)
def E1(tr:Nat)(P:Program)(ops:Array Oper)(j:Nat):PO:=va9 tr (Na1 P ops (ba0 ops j))
def L3(ops:Array Oper)(j:Nat):Option Nat:=(ba0 ops j).dst
def gb6(tr:Nat)(P:Program)(ops:Array Oper)(M:List Nat)(j:Nat):PI:=⟨L3 ops j,mb3 ops j,if Nat.beq (w6 tr P ops j) 2 then xb1 ops M j else [],E1 tr P ops j⟩
theorem Mc3{tr:Nat}{P:Program}{ops:Array Oper}{M:List Nat}:∀{r:List Oper} {k:Nat} {ks:List (Nat×PI)},rc8 tr P ops M k r=some ks->∀(i:Nat) o,r[i]?=some o ->
  ∃g,K0 ops o=some g/\ks[i]?=some (hb9 tr P ops o,⟨o.dst,g,if Nat.beq (hb9 tr P ops o) 2 then xb1 ops M (k+i) else [],va9 tr (Na1 P ops o)⟩)
 |[],k,ks,h,i,o,ho=>by simp at ho
 |o'::r,k,ks,h,i,o,ho=>by
  simp only[rc8] at h;cases h1:cPI tr P ops M k o' with
  |none=>simp[h1] at h
  |some x =>
  cases h2:rc8 tr P ops M (k+1) r with
  |none=>simp[h1,h2] at h
  |some l =>
  simp only[h1,h2] at h;injection h with h;subst h;cases i with
  |zero =>
   simp at ho
   subst ho;unfold cPI at h1
   grind
  |succ i =>
   obtain⟨g,h3,h4⟩:=Mc3 h2 i o (by simpa using ho)
   grind
structure DC(tr:Nat)(P:Program)(ops:Array Oper)(M:List Nat)(ks:List (Nat×PI)):Prop where
 rows:jc1 ops M=true
 guard:∀j,j<ops.size->K0 ops (ba0 ops j)=some (mb3 ops j)
 at':∀j,j<ops.size->ks[j]?=some (w6 tr P ops j,gb6 tr P ops M j)
 one:∀j,j<ops.size->db3 ops M ks j=true
section
variable{tr:Nat}{P:Program}{ops:Array Oper}{M:List Nat}{ks:List (Nat×PI)}
theorem xb9{dsts:List Nat}{asq l:List PI}{ps:List (PO×PO)}(h:na2 tr P ops=.draw dsts asq l ps) :
  ∃M ks,DC tr P ops M ks/\dsts=ops.toList.filterMap (·.dst)/\asq=(List.range ops.size).filterMap (Ha0 ks)/\l=(List.range ops.size).filterMap (ib0 ks)/\ps=Z5 ops.size M ks:=by
 unfold na2 at h
 simp only at h
 cases hk:rc8 tr P ops (Region.before ops).toList 0 ops.toList with
 |none=>simp[hk] at h
 |some ks =>
 simp only[hk,Nb8] at h
 split at h
 case h_2=>cases h
 rename_i hc;injection h with e1 e2 e3 e4;rw[Qbd] at hc;refine⟨_,ks,⟨hc.1,λj hj=>?_,λj hj=>?_,λj hj=>Qcf.1 hc.2 j (Qcj.2 hj)⟩,e1.symm,e2.symm,e3.symm,e4.symm⟩
 all_goals
  obtain⟨g,h1,h2⟩:=Mc3 hk j (ba0 ops j) (by simpa using R2 hj)
  have hg:mb3 ops j=g:=by simp[mb3,h1]
 ·rw[hg];exact h1
 ·rw[h2];simp only[gb6,hg,Qbh,w6,E1,L3];rfl
theorem vc2{dsts:List Nat}{asq l:List PI}{ps:List (PO×PO)}(h:fa9 P ops=.draw dsts asq l ps) :
  ∃tr M ks,DC tr P ops M ks/\dsts=ops.toList.filterMap (·.dst)/\asq=(List.range ops.size).filterMap (Ha0 ks)/\l=(List.range ops.size).filterMap (ib0 ks)/\ps=Z5 ops.size M ks:=by
 unfold fa9 at h
 split at h
 ·rename_i a b c d h1;injection h with e1 e2 e3 e4;subst e1 e2 e3 e4;exact⟨0,xb9 h1⟩
 ·split at h
  ·rename_i a b c d h1;injection h with e1 e2 e3 e4;subst e1 e2 e3 e4;exact⟨1,xb9 h1⟩
  ·exact⟨2,xb9 h⟩
theorem Na2(j:Nat):w6 tr P ops j=0\/w6 tr P ops j=1\/w6 tr P ops j=2:=by
 unfold w6 hb9
 grind
theorem vc3{j:Nat}(h:w6 tr P ops j=1):Lb5 (E1 tr P ops j)=true:=by
 unfold w6 hb9 at h
 split at h
 ·cases h
 ·split at h
  ·assumption
  ·cases h
theorem Qb0(o:PO):Lb5 o=true\/Lb9 o=true:=by cases o<;>first | exact .inl rfl | exact .inr rfl
theorem qb1{j:Nat}(h:w6 tr P ops j=2):Lb9 (E1 tr P ops j)=true:=by
 unfold w6 hb9 at h
 split at h
 ·cases h
 ·split at h
  ·cases h
  ·rename_i h2;exact (Qb0 _).resolve_left h2
theorem Qb1{j:Nat}(h:w6 tr P ops j=0):sa4 (ba0 ops j)=true:=by
 unfold w6 hb9 at h
 grind
variable(hD:DC tr P ops M ks)
include hD
theorem DC.slots{i j d:Nat}(hi:i<ops.size)(hj:j<ops.size)(hd:L3 ops i=some d) :
  (d∈lb4 (mb3 ops j)++Ga9 (E1 tr P ops j)->n8 M i j=true\/(Qa8 (E1 tr P ops j)=true/\sa4 (ba0 ops i)=false/\(n8 M j i=true\/i=j)))/\(i=j\/L3 ops j≠some d):=by
 have h:=hD.one j hj;unfold db3 at h;rw[hD.at' j hj] at h;simp only[Qbd] at h;have h1:=Qcf.1 h.1.1.1 i (Qcj.2 hi);have hd':(ba0 ops i).dst=some d:=hd;simp only[R2 hi,hd',Qbd,Qdf,Qdb] at h1;refine⟨λhm=>?_,?_⟩
 ·rcases h1.1 with (h2|h2)|h2
  ·have:(lb4 (mb3 ops j)++Ga9 (E1 tr P ops j)).contains d=false:=h2
   simp_all
  ·exact .inl h2
  ·exact .inr ⟨h2.1.1,h2.1.2,h2.2.imp id Qae⟩
 ·rcases h1.2 with h2|h2
  ·simp_all
  ·refine .inr λe=>?_
   have h3:(L3 ops j != some d)=true:=h2;rw[e] at h3
   simp at h3
theorem DC.bare{j:Nat}(hj:j<ops.size):rc9 (E1 tr P ops j)=true:=by
 have h:=hD.one j hj;unfold db3 at h;rw[hD.at' j hj] at h;simp only[Qbd] at h;exact h.1.1.2
theorem DC.allocDst{j:Nat}(hj:j<ops.size)(h0:w6 tr P ops j=0):∃d,L3 ops j=some d:=by
 have h:=hD.one j hj;unfold db3 at h;rw[hD.at' j hj] at h;simp only[Qbd,Qdf,Qdb] at h
 rcases h.1.2 with h2|h2
 ·rw[h0] at h2;cases h2
 ·exact Qbi.1 h2
theorem DC.chain{i j:Nat}(hi:i<j)(hj:j<ops.size)(hki:w6 tr P ops i=2)(hkj:w6 tr P ops j=2):n8 M i j=true/\∀a,n8 M a i=true->n8 M a j=true:=by
 have h:=hD.one j hj;unfold db3 at h;rw[hD.at' j hj] at h;simp only[Qbd,Qdf,Qdb] at h
 rcases h.2 with h2|h2
 ·rw[hkj] at h2;cases h2
 ·have h3:=Qcf.1 h2 i (Qcj.2 hi);rw[hD.at' i (by omega),hki] at h3
  simp only[Qbd] at h3;refine⟨h3.1,λa ha=>?_⟩
  have h4:=Qae h3.2;unfold n8 at ha ⊢
  grind
theorem DC.pair{i j:Nat}(hi:i<ops.size)(hj:j<ops.size)(hkj:w6 tr P ops j=1)(hki:w6 tr P ops i=2)(h1:n8 M i j=false)(h2:n8 M j i=false) :
  (E1 tr P ops j,E1 tr P ops i)∈Z5 ops.size M ks:=by
 unfold Z5;rw[List.mem_flatMap];refine⟨j,Qcj.2 hj,?_⟩;rw[hD.at' j hj,hkj]
 simp only
 rw[Qde];refine⟨i,Qcj.2 hi,?_⟩;rw[hD.at' i hi,hki];simp[h1,h2,gb6]
end
structure Qb2(E:Env)(ops:Array Oper)(ks:List (Nat×PI))(s:St)(U T:Nat->St):Prop where
 u0:U 0=s
 u:∀j,j<ops.size->Ra5 E (Ha0 ks) U j
 t0:T 0=U ops.size
 t:∀j,j<ops.size->Ra5 E (ib0 ks) T j
def kc3(z:List a7):a8:={ et:=0,es:=z.length,elems:=[z],own:=true,dead:=false,g:=0 }
def Hb2:PO->Nat->a7
 |.alloc _,n=>.ptr n 0 0 0
 |_,n=>.sl n 0 0 0
def kc4:PO->a8
 |.alloc z=>kc3 z
 |.bslice et es _ _ _=>{ et,es,elems:=[],own:=true,dead:=false,g:=0 }
 |_=>kc3 []
theorem Vc0(o:PO):(kc4 o).dead=false:=by cases o<;>rfl
theorem Rd7(o:PO):(kc4 o).g=0:=by cases o<;>rfl
theorem ed0{tr:Nat}{P:Program}{ops:Array Oper}{j:Nat}(ha:sa4 (ba0 ops j)=true){E:Env}{a:List a7}{H:List a8}{r:a7×List a8}(he:(evalOp E a H (E1 tr P ops j)).run=some r) :
  (ba0 ops j).guard=none/\∀a H,(evalOp E a H (E1 tr P ops j)).run=some (Hb2 (E1 tr P ops j) H.length,H++[kc4 (E1 tr P ops j)]):=by
 unfold sa4 at ha;cases hop:(ba0 ops j).op with
 |alloc t =>
  simp only[hop] at ha;have hg:(ba0 ops j).guard=none:=by simpa using ha
  cases hz:zeT P t with
  |none =>
   exfalso;have hbad:E1 tr P ops j=.bad:=by simp[E1,va9,Na1,cOp,hop,hz]
   rw[hbad] at he;cases he
  |some z =>
   have hpo:E1 tr P ops j=.alloc z:=by simp[E1,va9,Na1,cOp,hop,hz]
   refine⟨hg,λa H=>?_⟩
   rw[hpo];simp only[evalOp,DT.run_ret,i9,S9,A4,Hb2,kc4,kc3]
 |buildSlice t n ps =>
  simp only[hop] at ha
  split at ha
  ·rename_i hps;have hg:(ba0 ops j).guard=none:=by simpa using ha
   have hpo:E1 tr P ops j=.bad\/∃e es,E1 tr P ops j=.bslice e es 0 [] []:=by
    simp only[E1,Na1,cOp,hop];cases P.underlying t with
    |none=>exact .inl rfl
    |some u =>
     cases u with
     |slice e =>
      simp only[hps];cases zeT P e with
      |none=>exact .inl rfl
      |some z =>
       simp only[qa1];split
       ·exact .inr ⟨e,szT P e,by simp[va9]⟩
       ·exact .inl rfl
     |_=>exact .inl rfl
   rcases hpo with hpo|⟨e,es,hpo⟩
   ·rw[hpo] at he;cases he
   ·refine⟨hg,λa H=>?_⟩
    rw[hpo];simp only[evalOp,i8,List.map_nil,Ua6,freezeCells,DT.run_ret,i9,S9,A4,Hb2,kc4,ba2]
  ·cases ha
 |_=>simp[hop] at ha
theorem qb2(a:List a7)(dst:Option Nat)(x:a7):(putA a dst x).length=a.length:=by
 rw[eb3];cases dst<;>simp
theorem qb3{a:List a7}{dst:Option Nat}{x:a7}{t:Nat}(h:dst≠some t):(putA a dst x)[t]?=a[t]?:=by
 rw[eb3]
 grind
theorem Mb0{a:List a7}{d:Nat}{x:a7}(h:d<a.length):(putA a (some d) x)[d]?=some x:=by
 rw[eb3]
 simp_all
section
variable{tr:Nat}{E:Env}{ops:Array Oper}{M:List Nat}{ks:List (Nat×PI)}{s:St}{U T:Nat->St}
variable(hD:DC tr E.P ops M ks)(hT:Qb2 E ops ks s U T)
include hD
theorem Na3{i j:Nat}(hj:j<ops.size)(hi:i<ops.size)(hb:n8 M i j=true):i<j:=by
 refine Eb0 hD.rows (· < j) (λm o ho hm i hi=>?_) j _ (R2 hj) (λi hi=>eb5 hD.rows (R2 hj) hi) i hi hb
 have:=eb5 hD.rows ho hi
 omega
theorem kc5{j:Nat}(hj:j<ops.size)(h:w6 tr E.P ops j=0):Ha0 ks j=some (gb6 tr E.P ops M j)/\ib0 ks j=none:=by
 unfold Ha0 ib0;rw[hD.at' j hj,h];exact⟨rfl,rfl⟩
theorem ed1{j:Nat}(hj:j<ops.size)(h:w6 tr E.P ops j≠0):Ha0 ks j=none/\ib0 ks j=some (gb6 tr E.P ops M j):=by
 unfold Ha0 ib0;rw[hD.at' j hj]
 rcases Na2 (tr:=tr) (P:=E.P) (ops:=ops) j with h'|h'|h'
 ·exact absurd h' h
 ·rw[h'];exact⟨rfl,rfl⟩
 simp_all
include hT
theorem kc6{j:Nat}(hj:j<ops.size)(h:w6 tr E.P ops j≠0):U (j+1)=U j:=by
 have:=hT.u j hj
 unfold Ra5 at this;rw[(ed1 hD hj h).1] at this;exact this
theorem qb4{j:Nat}(hj:j<ops.size)(h:w6 tr E.P ops j=0):T (j+1)=T j:=by
 have:=hT.t j hj
 unfold Ra5 at this;rw[(kc5 hD hj h).2] at this;exact this
theorem Ha3{j:Nat}(hj:j<ops.size)(h:w6 tr E.P ops j=0):∃d,(ba0 ops j).guard=none/\L3 ops j=some d/\(∀a H,(evalOp E a H (E1 tr E.P ops j)).run=some (Hb2 (E1 tr E.P ops j) H.length,H++[kc4 (E1 tr E.P ops j)])) /\
  U (j+1)=⟨putA (U j).a (some d) (Hb2 (E1 tr E.P ops j) (U j).H.length),(U j).H++[kc4 (E1 tr E.P ops j)]⟩:=by
 have hst:=hT.u j hj;unfold Ra5 at hst;rw[(kc5 hD hj h).1] at hst;obtain⟨d,hd⟩:=hD.allocDst hj h;have ha:=Qb1 h;have hg:(ba0 ops j).guard=none:=by
  unfold sa4 at ha
  split at ha
  ·simpa using ha
  ·split at ha
   ·simpa using ha
   ·cases ha
  ·cases ha
 have hgd:mb3 ops j=none:=by simp[mb3,K0,hg]
 have hhide:(gb6 tr E.P ops M j).hide=[]:=by simp[gb6,h]
 obtain⟨b,h1,h2,h3⟩:=qb0 hst;have hb:b=true:=by
  have:Hb1 E (U j).a (mb3 ops j)=some b:=h1
  rw[hgd] at this;injection this with this;exact this.symm
 obtain⟨x,H',h4,h5⟩:=vc1 (h2 hb);rw[hhide] at h4 h5;have h4':(evalOp E (U j).a (U j).H (E1 tr E.P ops j)).run=some (x,H'):=h4;obtain⟨_,hev⟩:=ed0 ha h4';refine⟨d,hg,hd,hev,?_⟩;rw[hev] at h4';injection h4' with h4';injection h4' with e1 e2;subst e1 e2;rw[h5];show (⟨putA (U j).a (L3 ops j) _,_⟩:St)=_;rw[hd];rfl
theorem kc7{j:Nat}(hj:j<ops.size)(h:w6 tr E.P ops j≠0):∃b,Hb1 E (T j).a (mb3 ops j)=some b /\
  (b=true->∃x H',(evalOp E (T j).a (kb9 (T j).H (va4 (T j).a (gb6 tr E.P ops M j).hide)) (E1 tr E.P ops j)).run=some (x,H') /\
   T (j+1)=⟨putA (T j).a (L3 ops j) x,va5 (T j).H H' (va4 (T j).a (gb6 tr E.P ops M j).hide)⟩) /\
  (b=false->T (j+1)=⟨putA (T j).a (L3 ops j) (.v (.tuple #[])),(T j).H⟩):=by
 have hst:=hT.t j hj;unfold Ra5 at hst;rw[(ed1 hD hj h).2] at hst;obtain⟨b,h1,h2,h3⟩:=qb0 hst;exact⟨b,h1,λhb=>vc1 (h2 hb),h3⟩
theorem kc8{t:Nat}:∀(d u:Nat),u+d<=ops.size->(∀j,u<=j->j<u+d->w6 tr E.P ops j=0->L3 ops j≠some t)->(U (u+d)).a[t]?=(U u).a[t]?
 |0,u,_,_=>rfl
 |d+1,u,hb,hn=>by
  have ih:=kc8 d u (by omega) λj h1 h2=>hn j h1 (by omega)
  rw[<- ih];show (U (u+d+1)).a[t]?=_;by_cases hk:w6 tr E.P ops (u+d)=0
  ·obtain⟨d',_,hd',_,hU⟩:=Ha3 hD hT (j:=u+d) (by omega) hk
   rw[hU];exact qb3 (hd' ▸ hn (u+d) (by omega) (by omega) hk)
  ·rw[kc6 hD hT (by omega) hk]
theorem mb4{t:Nat}:∀(d u:Nat),u+d<=ops.size->(∀j,u<=j->j<u+d->w6 tr E.P ops j≠0->L3 ops j≠some t)->(T (u+d)).a[t]?=(T u).a[t]?
 |0,u,_,_=>rfl
 |d+1,u,hb,hn=>by
  have ih:=mb4 d u (by omega) λj h1 h2=>hn j h1 (by omega)
  rw[<- ih];show (T (u+d+1)).a[t]?=_;by_cases hk:w6 tr E.P ops (u+d)=0
  ·rw[qb4 hD hT (by omega) hk]
  ·obtain⟨b,h1,h2,h3⟩:=kc7 hD hT (j:=u+d) (by omega) hk
   have hne:=hn (u+d) (by omega) (by omega) hk
   cases b with
   |true =>
    obtain⟨x,H',_,h5⟩:=h2 rfl;rw[h5];exact qb3 hne
   |false=>rw[h3 rfl];exact qb3 hne
theorem Ya7:∀j,j<=ops.size->(U j).a.length=s.a.length/\(T j).a.length=s.a.length:=by
 have hu:∀j,j<=ops.size->(U j).a.length=s.a.length:=by
  intro j
  induction j with
  |zero=>intro _;rw[hT.u0]
  |succ j ih =>
   intro hj;by_cases hk:w6 tr E.P ops j=0
   ·obtain⟨d',_,hd',_,hU⟩:=Ha3 hD hT (j:=j) (by omega) hk
    rw[hU];simp only[qb2];exact ih (by omega)
   ·rw[kc6 hD hT (by omega) hk];exact ih (by omega)
 intro j
 induction j with
 |zero=>intro _;exact⟨hu 0 (by omega),by rw[hT.t0];exact hu _ (Qac _)⟩
 |succ j ih =>
  intro hj;refine⟨hu _ hj,?_⟩;by_cases hk:w6 tr E.P ops j=0
  ·rw[qb4 hD hT (by omega) hk];exact (ih (by omega)).2
  ·obtain⟨b,h1,h2,h3⟩:=kc7 hD hT (j:=j) (by omega) hk
   cases b with
   |true =>
    obtain⟨x,H',_,h5⟩:=h2 rfl;rw[h5];simp only[qb2];exact (ih (by omega)).2
   |false=>rw[h3 rfl];simp only[qb2];exact (ih (by omega)).2
theorem ed2{j:Nat}(hj:j<ops.size)(hl:Qa8 (E1 tr E.P ops j)=false):Agr (T j).a (T ops.size).a (lb4 (mb3 ops j)++Ga9 (E1 tr E.P ops j)):=λt ht=>by
 have:=mb4 hD hT (t:=t) (ops.size-j) j (by omega) λi h1 h2 hk he=>by
  have hi:i<ops.size:=by omega
  rcases (hD.slots hi hj he).1 ht with hb|hb
  ·have:=Na3 hD hj hi hb
   omega
  ·rw[hl] at hb;cases hb.1
 grind
theorem Jd1{j d:Nat}(hj:j<ops.size)(hd:L3 ops j=some d):(T ops.size).a[d]?=(T (j+1)).a[d]?:=by
 have:=mb4 hD hT (t:=d) (ops.size-(j+1)) (j+1) (by omega) λi h1 h2 hk he=>by
  have hi:i<ops.size:=by omega
  rcases (hD.slots hi hj he).2 with h|h
  ·omega
  ·exact h hd
 grind
theorem kc9{j d v:Nat}(hj:j<ops.size)(h:w6 tr E.P ops j=0)(hd:L3 ops j=some d)(hlt:d<s.a.length)(hv:v<=ops.size):(T v).a[d]?=some (Hb2 (E1 tr E.P ops j) (U j).H.length):=by
 have hne:∀i,i<ops.size->i≠j->L3 ops i≠some d:=λi hi hij he=>by
  rcases (hD.slots hi hj he).2 with h|h
  ·exact hij h
  ·exact h hd
 have h1:=mb4 hD hT (t:=d) v 0 (by omega) λi _ h2 hk=>hne i (by omega) λe=>hk (e ▸ h)
 rw[Qbh] at h1;rw[h1,hT.t0];have h2:=kc8 hD hT (t:=d) (ops.size-(j+1)) (j+1) (by omega) λi h3 h4 _=>hne i (by omega) (by omega)
 rw[show j+1+(ops.size-(j+1))=ops.size by omega] at h2
 rw[h2];obtain⟨d',_,hd',_,hU⟩:=Ha3 hD hT hj h
 have:d'=d:=Qah (hd'.symm.trans hd)
 subst this;rw[hU];exact Mb0 (by rw[(Ya7 hD hT j (by omega)).1];exact hlt)
theorem lc0:∀(d u:Nat),u+d<=ops.size->∃l,(U (u+d)).H=(U u).H++l
 |0,u,_=>⟨[],by simp⟩
 |d+1,u,hb=>by
  obtain⟨l,hl⟩:=lc0 d u (by omega)
  show ∃l,(U (u+d+1)).H=_;by_cases hk:w6 tr E.P ops (u+d)=0
  ·obtain⟨d',_,hd',_,hU⟩:=Ha3 hD hT (j:=u+d) (by omega) hk
   simp_all
  ·exact⟨l,by rw[kc6 hD hT (by omega) hk,hl]⟩
theorem fe5{i j:Nat}(hij:i<j)(hj:j<=ops.size)(hk:w6 tr E.P ops i=0):(U i).H.length<(U j).H.length:=by
 obtain⟨d',_,hd',_,hU⟩:=Ha3 hD hT (j:=i) (by omega) hk
 obtain⟨l,hl⟩:=lc0 hD hT (j-(i+1)) (i+1) (by omega)
 rw[show i+1+(j-(i+1))=j by omega] at hl
 rw[hl,hU];simp
theorem Fc8{j:Nat}(hj:j<=ops.size):s.H.length<=(U j).H.length/\∀i,i<s.H.length->(U j).H[i]?=s.H[i]?:=by
 obtain⟨l,hl⟩:=lc0 hD hT j 0 (by omega)
 rw[Qbh,hT.u0] at hl
 grind
theorem Fc9{j:Nat}(hj:j<ops.size)(hk:w6 tr E.P ops j=0):(T 0).H[(U j).H.length]?=some (kc4 (E1 tr E.P ops j)):=by
 obtain⟨d',_,hd',_,hU⟩:=Ha3 hD hT hj hk;obtain⟨l,hl⟩:=lc0 hD hT (ops.size-(j+1)) (j+1) (by omega)
 rw[show j+1+(ops.size-(j+1))=ops.size by omega,hU] at hl
 rw[hT.t0,hl];simp
theorem ed3:∀(v:Nat),v<=ops.size->∀id,s.H.length<=id->id<(U v).H.length->∃j,j<v/\w6 tr E.P ops j=0/\id=(U j).H.length
 |0,_,id,h1,h2=>by rw[hT.u0] at h2;omega
 |v+1,hv,id,h1,h2=>by
  by_cases hk:w6 tr E.P ops v=0
  ·obtain⟨d',_,hd',_,hU⟩:=Ha3 hD hT (j:=v) (by omega) hk
   rw[hU] at h2
   simp at h2
   by_cases he:id<(U v).H.length
   ·obtain⟨j,h3,h4,h5⟩:=ed3 v (by omega) id h1 he
    grind
   grind
  ·rw[kc6 hD hT (by omega) hk] at h2
   obtain⟨j,h3,h4,h5⟩:=ed3 v (by omega) id h1 h2
   grind
end
section
variable{E:Env}{a a':List a7}
theorem qb5{o:PO}(h:Agr a a' (Ga9 o)):ka5 E a o=ka5 E a' o:=by
 cases o with
 |load ks n agg x=>simp only[ka5,Qdh (E:=E) (x:=x) h]
 |idxS es x i=>simp only[ka5,Qdh (E:=E) h.left]
 |slice es x lo hi=>simp only[ka5,Qdh (E:=E) h.left.left]
 |_=>rfl
theorem Yb3{o:PO}(h:Agr a a' (Ga9 o)):A3 E a o=A3 E a' o:=by
 cases o with
 |store n x y=>simp only[A3,Qdh (E:=E) h.left]
 |append et es by' x y=>simp only[A3,Qdh (E:=E) h.left]
 |copy es x y=>simp only[A3,Qdh (E:=E) h.left]
 |apre es x y=>simp only[A3,Qdh (E:=E) h.left]
 |clr es z x=>simp only[A3,Qdh (E:=E) h]
 |call f xs=>simp only[A3,Agr.args (E:=E) h]
 |calld x xs=>simp only[A3,Agr.args (E:=E) h.right,Qdh (E:=E) h.left]
 |invk tbl x xs=>simp only[A3,Agr.args (E:=E) h.right,Qdh (E:=E) h.left]
 |_=>rfl
theorem qb6{o:PO}(h:Qa8 o=true):ka5 E a o=[]:=by cases o<;>first | rfl | cases h
theorem ib5{o:PO}(h:Qa8 o=true):A3 E a o=[]:=by cases o<;>first | rfl | cases h
theorem Qb3:∀{l:List (PO×PO)},ea3 E a l=true->∀{p:PO×PO},p∈l->∀id∈ka5 E a p.1,id∉A3 E a p.2
 |[],_,p,hp=>by cases hp
 |q::l,h,p,hp=>by
  have e:ea3 E a (q::l)=Bool.rec false (ea3 E a l) (Ba8 (ka5 E a q.1) (A3 E a q.2)):=rfl;rw[e] at h;cases hq:Ba8 (ka5 E a q.1) (A3 E a q.2) with
  |false=>rw[hq] at h;cases h
  |true =>
   rw[hq] at h
   rcases Qbp.1 hp with rfl|hp
   ·exact xb6 hq
   ·exact Qb3 h hp
theorem mb5:∀{l:List PI},Ga6 a l=true->∀p∈l,∀d,p.dst=some d->d<a.length
 |[],_,p,hp=>by cases hp
 |q::l,h,p,hp=>λd hd=>by
  have e:Ga6 a (q::l)=(match q.dst with
   |some d=>match nth a d with
    |some _=>Ga6 a l
    |none=>false
   |none=>false):=rfl
  rw[e] at h;cases hq:q.dst with
  |none=>simp[hq] at h
  |some d' =>
  simp only[hq,n9] at h;cases hn:a[d']? with
  |none=>simp[hn] at h
  |some x =>
  simp only[hn] at h
  rcases Qbp.1 hp with rfl|hp
  ·have:d'=d:=Qah (hq.symm.trans hd)
   subst this;exact (Qab.1 hn).1
  ·exact mb5 h p hp d hd
theorem Qb4{tr:Nat}{P:Program}{ops:Array Oper}{j:Nat}:w6 tr P ops j=0↔sa4 (ba0 ops j)=true:=by
 refine⟨Qb1,λh=>?_⟩
 unfold w6 hb9;rw[if_pos h]
end
section
variable{tr:Nat}{E:Env}{ops:Array Oper}{M:List Nat}{ks:List (Nat×PI)}{s:St}{U T:Nat->St}
variable(hD:DC tr E.P ops M ks)(hT:Qb2 E ops ks s U T)(hin:∀j,j<ops.size->w6 tr E.P ops j=0->∀d,L3 ops j=some d->d<s.a.length)
include hD hT
theorem ed4{j:Nat}(hj:j<ops.size):ka5 E (T j).a (E1 tr E.P ops j)=ka5 E (T ops.size).a (E1 tr E.P ops j):=by
 cases hl:Qa8 (E1 tr E.P ops j) with
 |true=>rw[qb6 hl,qb6 hl]
 |false=>exact qb5 (ed2 hD hT hj hl).right
theorem Vc1{j:Nat}(hj:j<ops.size):A3 E (T j).a (E1 tr E.P ops j)=A3 E (T ops.size).a (E1 tr E.P ops j):=by
 cases hl:Qa8 (E1 tr E.P ops j) with
 |true=>rw[ib5 hl,ib5 hl]
 |false=>exact Yb3 (ed2 hD hT hj hl).right
theorem Mb1{j:Nat}(hj:j<ops.size)(h:w6 tr E.P ops j=1):∃b x,Hb1 E (T j).a (mb3 ops j)=some b/\T (j+1)=⟨putA (T j).a (L3 ops j) x,(T j).H⟩ /\
  (b=true->(evalOp E (T j).a (T j).H (E1 tr E.P ops j)).run=some (x,(T j).H))/\(b=false->x=.v (.tuple #[])):=by
 obtain⟨b,h1,h2,h3⟩:=kc7 hD hT hj (by omega)
 have hh:(gb6 tr E.P ops M j).hide=[]:=by simp[gb6,h]
 cases b with
 |true =>
  obtain⟨x,H',h4,h5⟩:=h2 rfl;rw[hh] at h4 h5;have h4':(evalOp E (T j).a (T j).H (E1 tr E.P ops j)).run=some (x,H'):=h4;have he:=(pb5 (vc3 h) h4').1;subst he;exact⟨true,x,h1,h5,λ_=>h4',λh=>by cases h⟩
 |false=>exact⟨false,_,h1,h3 rfl,λh=>(by cases h),λ_=>rfl⟩
theorem Gc0:∀(d u:Nat),u+d<=ops.size->(∀j,u<=j->j<u+d->w6 tr E.P ops j≠2)->(T (u+d)).H=(T u).H
 |0,u,_,_=>rfl
 |d+1,u,hb,hn=>by
  have ih:=Gc0 d u (by omega) λj h1 h2=>hn j h1 (by omega)
  rw[<- ih];show (T (u+d+1)).H=_
  rcases Na2 (tr:=tr) (P:=E.P) (ops:=ops) (u+d) with hk|hk|hk
  ·rw[qb4 hD hT (by omega) hk]
  ·obtain⟨b,x,_,h2,_⟩:=Mb1 hD hT (j:=u+d) (by omega) hk
   rw[h2]
  ·exact absurd hk (hn (u+d) (by omega) (by omega))
include hin
theorem wd7{j:Nat}(hj:j<ops.size)(h:w6 tr E.P ops j=2)(id:Nat):id∈va4 (T j).a (gb6 tr E.P ops M j).hide↔∃b,b<ops.size/\w6 tr E.P ops b=0/\n8 M b j=false/\id=(U b).H.length:=by
 have hh:(gb6 tr E.P ops M j).hide=xb1 ops M j:=by simp[gb6,h]
 rw[hh];unfold va4;rw[i8,Qbz];constructor
 ·rintro⟨d,hd,he⟩;unfold xb1 at hd;rw[Qde] at hd;obtain⟨b,hb,hb2⟩:=hd;have hb1:=Qcj.1 hb;simp only[R2 hb1] at hb2
  split at hb2
  ·rename_i hc;rw[Qbd,Qdb] at hc;have hk:w6 tr E.P ops b=0:=Qb4.2 hc.1;have ha:=kc9 hD hT hb1 hk hb2 (hin b hb1 hk d hb2) (v:=j) (by omega)
   rw[n9,ha] at he;exact⟨b,hb1,hk,hc.2,by rw[<- he];cases E1 tr E.P ops b<;>rfl⟩
  ·cases hb2
 ·rintro⟨b,hb1,hk,hc,rfl⟩;obtain⟨d,hd⟩:=hD.allocDst hb1 hk;refine⟨d,?_,?_⟩
  ·unfold xb1;rw[Qde];refine⟨b,Qcj.2 hb1,?_⟩;have h2:(sa4 (ba0 ops b)&&!n8 M b j)=true:=by rw[Qb4.1 hk,hc];rfl
   simp only[R2 hb1,h2,if_true];exact hd
  ·rw[n9,kc9 hD hT hb1 hk hd (hin b hb1 hk d hd) (v:=j) (by omega)]
   cases E1 tr E.P ops b<;>rfl
theorem lc1{j:Nat}(hj:j<ops.size)(h:w6 tr E.P ops j=2):∃b x,Hb1 E (T j).a (mb3 ops j)=some b/\(T (j+1)).a=putA (T j).a (L3 ops j) x /\
  (b=true->∃hid H',(∀id,id∈hid↔∃b,b<ops.size/\w6 tr E.P ops b=0/\n8 M b j=false/\id=(U b).H.length) /\
   (evalOp E (T j).a (L7 (T j).H (·∈hid)) (E1 tr E.P ops j)).run=some (x,H')/\(T (j+1)).H=va5 (T j).H H' hid) /\
  (b=false->x=.v (.tuple #[])/\(T (j+1)).H=(T j).H):=by
 obtain⟨b,h1,h2,h3⟩:=kc7 hD hT hj (by omega)
 cases b with
 |true =>
  obtain⟨x,H',h4,h5⟩:=h2 rfl;rw[Uc9] at h4;exact⟨true,x,h1,by rw[h5],λ_=>⟨_,H',wd7 hD hT hin hj h,h4,by rw[h5]⟩,λh=>by cases h⟩
 |false=>exact⟨false,_,h1,by rw[h3 rfl],λh=>(by cases h),λ_=>⟨rfl,by rw[h3 rfl]⟩⟩
omit hD hT hin in
theorem dc5{H:List a8}{l:List Nat}(hb:∀id∈l,id<H.length):p4 (·∈l) (L7 H (·∈l)) (L7 H (·∈l)) (L7 H (·∈l)) (L7 H (·∈l)) :=
 ⟨rfl,λ_ _=>rfl,λid b hD hb=>by
  rw[T2 hD] at hb;simp only[Qce] at hb;obtain⟨c,_,rfl⟩:=hb
  rfl,λ_ _=>rfl,λ_ _=>rfl,λid h=>by rw[Ba5];exact hb id h⟩
theorem lc2{b:Nat}(hb:b<ops.size)(hk:w6 tr E.P ops b=0):∀(v:Nat),v<=ops.size->(∀h,h<v->w6 tr E.P ops h=2->n8 M b h=false)->(T v).H[(U b).H.length]?=(T 0).H[(U b).H.length]?
 |0,_,_=>rfl
 |v+1,hv,hn=>by
  have ih:=lc2 hb hk v (by omega) λh h1=>hn h (by omega)
  rw[<- ih]
  rcases Na2 (tr:=tr) (P:=E.P) (ops:=ops) v with h0|h0|h0
  ·rw[qb4 hD hT (by omega) h0]
  ·obtain⟨b,x,_,h2,_⟩:=Mb1 hD hT (j:=v) (by omega) h0
   rw[h2]
  ·obtain⟨bb,x,h1,_,h3,h4⟩:=lc1 hD hT hin (j:=v) (by omega) h0
   cases bb with
   |false=>rw[(h4 rfl).2]
   |true =>
    obtain⟨hid,H',h5,h6,h7⟩:=h3 rfl;rw[h7]
    -- every va4 block stands in the heap
    have hall:∀id∈hid,id<(T v).H.length:=λid hid'=>by
     obtain⟨b',k1,k2,k3,rfl⟩:=(h5 id).1 hid'
     have:=lc2 k1 k2 v (by omega) λh h1 h2=>by
      cases hc:n8 M b' h with
      |false=>rfl
      |true =>
       rw[(hD.chain h1 (by omega) h2 h0).2 b' hc] at k3
       cases k3
     have hz:=Fc9 hD hT k1 k2;rw[hz] at this;exact (Qab.1 this).1
    have hm:(U b).H.length∈hid:=(h5 _).2 ⟨b,hb,hk,hn v (by omega) h0,rfl⟩
    obtain⟨H2',_,hM⟩:=(dc5 hall).evalOp (E:=E) (a:=(T v).a) (qb1 h0) h6;refine xb8 hm (hall _ hm) ?_;exact hM.bound _ hm
theorem ed5{j:Nat}(hj:j<ops.size)(h0:w6 tr E.P ops j=2){b:Nat}(k1:b<ops.size)(k2:w6 tr E.P ops b=0)(k3:n8 M b j=false):(U b).H.length<(T j).H.length:=by
 have:=lc2 hD hT hin k1 k2 j (by omega) λh h1 h2=>by
  cases hc:n8 M b h with
  |false=>rfl
  |true =>
   rw[(hD.chain h1 hj h2 h0).2 b hc] at k3;cases k3
 have hz:=Fc9 hD hT k1 k2;rw[hz] at this;exact (Qab.1 this).1
theorem wd8{j:Nat}(hj:j<ops.size){id:Nat}(hn:w6 tr E.P ops j=2->id∉A3 E (T ops.size).a (E1 tr E.P ops j)):B7 (T j).H (T (j+1)).H id:=by
 rcases Na2 (tr:=tr) (P:=E.P) (ops:=ops) j with h0|h0|h0
 ·rw[qb4 hD hT hj h0];exact .refl _ _
 ·obtain⟨b,x,_,h2,_⟩:=Mb1 hD hT hj h0;rw[h2];exact .refl _ _
 ·obtain⟨bb,x,h1,_,h3,h4⟩:=lc1 hD hT hin hj h0;cases bb with
  |false=>rw[(h4 rfl).2];exact .refl _ _
  |true =>
   obtain⟨hid,H',h5,h6,h7⟩:=h3 rfl;rw[h7];have hall:∀id∈hid,id<(T j).H.length:=λid hid'=>by
    obtain⟨b',k1,k2,k3,rfl⟩:=(h5 id).1 hid';exact ed5 hD hT hin hj h0 k1 k2 k3
   obtain⟨H2',_,hM⟩:=(dc5 hall).evalOp (E:=E) (a:=(T j).a) (qb1 h0) h6;intro b hb;by_cases hm:id∈hid
   ·refine⟨b,?_,.refl b⟩;rw[xb8 hm (hall _ hm) (hM.bound _ hm)];exact hb
   ·rw[Pb9 hm];have hslots:A3 E (T j).a (E1 tr E.P ops j)=A3 E (T ops.size).a (E1 tr E.P ops j):=Vc1 hD hT hj;exact kc2 (qb1 h0) h6 (by rw[hslots];exact hn h0) b (by rw[F4 (D:=(·∈hid)) hm];exact hb)
theorem Gc1{id:Nat}:∀(d u:Nat),u+d<=ops.size->(∀j,u<=j->j<u+d->w6 tr E.P ops j=2->id∉A3 E (T ops.size).a (E1 tr E.P ops j))->B7 (T u).H (T (u+d)).H id
 |0,u,_,_=>.refl _ _
 |d+1,u,hb,hn =>
  (Gc1 d u (by omega) λj h1 h2=>hn j h1 (by omega)).trans (wd8 hD hT hin (j:=u+d) (by omega) (hn (u+d) (by omega) (by omega)))
end
section
variable{W:Nat->Prop}{ρ ρ':Rho}{H H':List a8}{F F':Fz}{w w':World}
def dc6(ρ:Rho)(H:List a8)(ρ':Rho)(H':List a8):Prop:=∀(id:Nat) b,H[id]?=some b->b.dead=false->∃b',H'[id]?=some b'/\b'.dead=false/\b.g<=b'.g/\(b'.g=b.g->ρ' id=ρ id/\b'.es=b.es/\b.elems.length<=b'.elems.length)
section
variable(hk:dc6 ρ H ρ' H')(hm:∀b o,F b o->F' b o)(hc:∀b o,F b o->w'.cell? ⟨b,o,none⟩=w.cell? ⟨b,o,none⟩)
include hk hm hc
theorem E0.carry{x:a7}{x':Value}(h:E0 ρ H F w x x'):E0 ρ' H' F' w' x x':=by
 cases h with
 |mem h=>exact .mem (h.adv hm hc)
 |v=>exact .v _
 |ptr id i c g a b hb hd hg h =>
  obtain⟨b',hb',hd',hg',e⟩:=hk id b hb hd;refine .ptr id i c g a b' hb' hd' (Qad hg hg') λhge=>?_
  grind
 |sl id off n g a cap b hb hd hg hn hs hm h =>
  obtain⟨b',hb',hd',hg',e⟩:=hk id b hb hd;refine .sl id off n g a cap b' hb' hd' (Qad hg hg') hn hs hm λhge=>?_
  grind
 |tptr cs a vs hs hF hw hr=>exact .tptr cs a vs hs (λc hlt=>hm _ _ (hF c hlt)) (λc hlt=>(hc _ _ (hF c hlt)).trans (hw c hlt)) (λc hlt=>(hr c hlt).adv hm hc)
 |unk x'=>exact .unk x'
theorem L1.carry{x:a7}{x':Value}(h:L1 ρ H F w x x'):L1 ρ' H' F' w' x x':=by
 cases h with
 |cell h=>exact .cell (h.carry hk hm hc)
 |agg cs vs hl h=>exact .agg cs vs hl λi x x' hx hx'=>(h i x x' hx hx').carry hk hm hc
 |fn f caps vs hl h=>exact .fn f caps vs hl λi x x' hx hx'=>(h i x x' hx hx').carry hk hm hc
theorem o9.carry{x:a7}{x':Value}(h:o9 ρ H F w x x'):o9 ρ' H' F' w' x x':=by
 cases h with
 |val h=>exact .val (h.carry hk hm hc)
 |tup xs vs hl h=>exact .tup xs vs hl λi x x' hx hx'=>(h i x x' hx hx').carry hk hm hc
theorem T1.carry{a:List a7}{vs:Array Value}(h:T1 ρ H F w a vs):T1 ρ' H' F' w' a vs :=
 ⟨h.1,λi x x' hx hx'=>(h.2 i x x' hx hx').carry hk hm hc⟩
end
end
section
variable{W:Nat->Prop}{ρ0:Rho}{H0:List a8}{F0:Fz}{w0 w:World}
variable{tr:Nat}{E:Env}{ops:Array Oper}{M:List Nat}{ks:List (Nat×PI)}{s:St}{U T:Nat->St}
def o6(listed:Array Bool)(j:Nat):Prop:=listed.getD j true=true
def C0(tr:Nat)(P:Program)(ops:Array Oper)(U:Nat->St)(listed:Array Bool)(id:Nat):Prop:=∃b,b<ops.size/\w6 tr P ops b=0/\¬ o6 listed b/\id=(U b).H.length
def F5(ops:Array Oper)(listed:Array Bool)(t:Nat):Prop:=∃i,i<ops.size/\L3 ops i=some t/\¬ o6 listed i
theorem C5{listed:Array Bool}{i j:Nat}(hi:i<listed.size):o6 (listed.setIfInBounds i true) j↔o6 listed j\/j=i:=by
 unfold o6;by_cases e:i=j
 ·simp_all
 ·have:j≠i:=λh=>e h.symm
  simp_all
theorem Ra6{listed:Array Bool}{i:Nat}(h:i∈Region.ready .any ops listed):i<ops.size/\¬ o6 listed i/\(listed.size=ops.size->∀e∈p5 (ba0 ops i),e<ops.size->o6 listed e):=by
 unfold Region.ready at h;rw[List.mem_filter] at h;obtain⟨h1,h2⟩:=h;have hi:=Qcj.1 h1;rw[R2 hi] at h2;simp only[Option.map_some,Option.getD_some,Qbd,Qdb] at h2;refine⟨hi,λh=>?_,λhsz e he hlt=>?_⟩
 ·unfold o6 at h;rw[h] at h2;cases h2.1
 ·obtain⟨ed,h3,h4,h5⟩:=ka8.1 he;have h6:(ba0 ops i).after.all (λe=>!Region.binds .any e||listed.getD e.on false)=true:=h2.2
  rw[Qdd] at h6;have h7:=h6 ed h3;rw[h4,h5] at h7;simp only[Bool.not_true,Bool.false_or] at h7;unfold o6
  simp_all
variable(hD:DC tr E.P ops M ks)(hT:Qb2 E ops ks s U T)(hin:∀j,j<ops.size->w6 tr E.P ops j=0->∀d,L3 ops j=some d->d<s.a.length)
include hD
theorem Vc2{listed:Array Bool}(hsz:listed.size=ops.size){i:Nat}(hi:i<ops.size){x:a7}(hx:∀d,L3 ops i=some d->d<(T ops.size).a.length->(T ops.size).a[d]?=some x) :
  pa6 (T ops.size).a s.a (F5 ops (listed.setIfInBounds i true))=putA (pa6 (T ops.size).a s.a (F5 ops listed)) (L3 ops i) x:=by
 refine Qcd λt=>?_
 have hopen:∀t,L3 ops i≠some t->(F5 ops (listed.setIfInBounds i true) t↔F5 ops listed t):=λt hne=>by
  constructor
  ·rintro⟨j,h1,h2,h3⟩;exact⟨j,h1,h2,λh=>h3 ((C5 (hsz ▸ hi)).2 (.inl h))⟩
  ·rintro⟨j,h1,h2,h3⟩;refine⟨j,h1,h2,λh=>?_⟩
   rcases (C5 (hsz ▸ hi)).1 h with h|h
   ·exact h3 h
   ·subst h;exact hne h2
 by_cases hd:L3 ops i=some t
 ·have hno : ¬ F5 ops (listed.setIfInBounds i true) t := by
   rintro⟨j,h1,h2,h3⟩
   rcases (hD.slots hi h1 hd).2 with h|h
   ·exact h3 ((C5 (hsz ▸ hi)).2 (.inr h.symm))
   ·exact h h2
  rw[qa5 hno,hd]
  rcases Qan t (T ops.size).a.length with hlt|hge
  ·rw[Mb0 (by rw[qa4];exact hlt)]
   exact hx t hd hlt
  ·rw[Qal hge,Qal (by rw[qb2,qa4];exact hge)]
 ·rw[qb3 hd];by_cases ho:F5 ops listed t
  ·rcases Qan t (T ops.size).a.length with hlt|hge
   ·rw[pb9 ho hlt,pb9 ((hopen t hd).2 ho) hlt]
   ·rw[Qal (by rw[qa4];exact hge),Qal (by rw[qa4];exact hge)]
  ·rw[qa5 ho,qa5 λh=>ho ((hopen t hd).1 h)]
include hT
end
section
variable{W:Nat->Prop}{ρ0:Rho}{H0:List a8}{F0:Fz}{w0 w:World}
variable{tr:Nat}{E:Env}{ops:Array Oper}{M:List Nat}{ks:List (Nat×PI)}{s:St}{U T:Nat->St}
variable(hD:DC tr E.P ops M ks)(hT:Qb2 E ops ks s U T)(hin:∀j,j<ops.size->w6 tr E.P ops j=0->∀d,L3 ops j=some d->d<s.a.length)
variable(hpairs:ea3 E (T ops.size).a (Z5 ops.size M ks)=true)
variable(hG0:GOk E F0 w0)(hcalls:∀f,d6 E.P E.G f (E.call f))
theorem dc7{listed:Array Bool}(hsz:listed.size=ops.size){i:Nat}(hi:i<ops.size)(hk:w6 tr E.P ops i≠0):C0 tr E.P ops U (listed.setIfInBounds i true)=C0 tr E.P ops U listed:=by
 funext id;refine propext ⟨λ⟨b,h1,h2,h3,h4⟩=>⟨b,h1,h2,λh=>h3 ((C5 (hsz ▸ hi)).2 (.inl h)),h4⟩,λ⟨b,h1,h2,h3,h4⟩=>⟨b,h1,h2,λh=>?_,h4⟩⟩
 rcases (C5 (hsz ▸ hi)).1 h with h|h
 ·exact h3 h
 ·subst h;exact hk h2
include hD
include hT hin hpairs hG0 hcalls
end
section
variable{W:Nat->Prop}{ρ0:Rho}{H0:List a8}{F0:Fz}{w0 w:World}
variable{tr:Nat}{E:Env}{ops:Array Oper}{M:List Nat}{ks:List (Nat×PI)}{s:St}{U T:Nat->St}
variable(hD:DC tr E.P ops M ks)(hT:Qb2 E ops ks s U T)(hin:∀j,j<ops.size->w6 tr E.P ops j=0->∀d,L3 ops j=some d->d<s.a.length)(hlen:H0.length<=s.H.length)
include hD hT hin hlen
omit hT hin hlen in
theorem dc8{listed:Array Bool}(hsz:listed.size=ops.size)(h:Region.ready .any ops listed=[]):∀j,j<ops.size->o6 listed j:=by
 intro j
 induction j using Nat.strongRecOn with
 |_ j ih =>
  intro hj;apply Qbx;intro hn;have hmem:j∈Region.ready .any ops listed:=by
   unfold Region.ready;rw[List.mem_filter];refine⟨Qcj.2 hj,?_⟩;rw[R2 hj];simp only[Option.map_some,Option.getD_some,Qbd,Qdb];refine⟨by unfold o6 at hn;simpa using hn,?_⟩
   rw[Qdd];intro e he;cases hb:Region.binds .any e with
   |false=>rfl
   |true =>
    have hd:e.on∈p5 (ba0 ops j):=ka8.2 ⟨e,he,hb,rfl⟩;have hlt:=eb5 hD.rows (R2 hj) hd
    have:=ih e.on hlt (by omega)
    unfold o6 at this
    grind
  rw[h] at hmem;cases hmem
def s7(listed:Array Bool):Nat:=(listed.toList.filter λb=>!b).length
omit hD hT hin hlen in
theorem ha0:∀(l:List Bool) (i:Nat),l[i]?=some false->((l.set i true).filter λb=>!b).length+1=(l.filter λb=>!b).length
 |[],i,h=>by simp at h
 |b::l,0,h=>by
  simp at h
  subst h;simp
 |b::l,i+1,h=>by
  have ih:=ha0 l i (by simpa using h)
  grind
omit hD hT hin hlen in
theorem na5{listed:Array Bool}(h:s7 listed=0)(j:Nat):o6 listed j:=by
 unfold s7 at h;unfold o6;rw[List.length_eq_zero_iff,List.filter_eq_nil_iff] at h
 rcases Qan j listed.size with hj|hj
 ·have:=h listed[j] (by simp)
  simp_all
 simp_all
variable(hpairs:ea3 E (T ops.size).a (Z5 ops.size M ks)=true)(hG0:GOk E F0 w0)(hcalls:∀f,d6 E.P E.G f (E.call f))
include hpairs hG0 hcalls
end
abbrev Sum:=List a7->List a8->DT (a7×List a8)
def ALe(x y:a7):Prop:=∀ρ H F w v,o9 ρ H F w x v->o9 ρ H F w y v
theorem ALe.refl(x:a7):ALe x x:=λ_ _ _ _ _ h=>h
inductive Qb5:List a7->List a7->Prop
 |nil:Qb5 [] []
 |cons {x y l r} (h:ALe x y) (t:Qb5 l r):Qb5 (x::l) (y::r)
theorem Qb5.refl:∀l,Qb5 l l
 |[]=>.nil
 |x::l=>.cons (.refl x) (Qb5.refl l)
theorem Qb5.length{l r}(h:Qb5 l r):l.length=r.length:=by induction h<;>simp_all
theorem Qb5.get{l r}(h:Qb5 l r):∀(i:Nat) y,r[i]?=some y->∃x,l[i]?=some x/\ALe x y:=by
 induction h with
 |nil=>intro i y hy;simp at hy
 |cons h t ih =>
  grind
theorem d6.refine{P:Program}{G:Nat->List Value}{f:FuncId}{S S':Sum}(h:d6 P G f S)
  (hr:∀args blks r,(S' args blks).run=some r->∃Ya0,Qb5 args Ya0/\(S Ya0 blks).run=some r):d6 P G f S':=by
 intro args blks r out he W ρ F w args' hH hlen hargs hG;obtain⟨Ya0,ha,he2⟩:=hr args blks _ he;refine h Ya0 blks r out he2 W ρ F w args' hH (ha.length ▸ hlen) (λi y x' hy hx'=>?_) hG
 obtain⟨x,hx,hle⟩:=ha.get i y hy;exact hle _ _ _ _ _ (hargs i x x' hx hx')
def Rd8(l:List (Nat×Sum)):FuncId->Sum :=
 List.rec (motive:=λ_=>FuncId->Sum) (λ_ _ _=>.fail) (λp _ ih f=>Bool.rec (motive:=λ_=>Sum) (ih f) p.2 (Nat.beq p.1 f)) l
def w7(P:Program)(G:Nat->List Value):List (Nat×Sum)->Prop
 |[]=>True
 |p::l=>d6 P G p.1 p.2/\w7 P G l
theorem Mc4{P:Program}{G:Nat->List Value}:∀{l:List (Nat×Sum)},w7 P G l->∀f,d6 P G f (Rd8 l f)
 |[],_,f=>λargs blks r out h=>by cases h
 |(n,S)::l,h,f=>by
  show d6 P G f (Bool.rec (motive:=λ_=>Sum) (Rd8 l f) S (Nat.beq n f))
  cases hb:Nat.beq n f with
  |false=>exact Mc4 h.2 f
  |true=>rw[<- Qae hb];exact h.1
inductive PS where
 |pc (c:PC)
 |seq (a b:PS)
 |cond (c:Arg) (x y:PS)
 |block (id:Nat) (c:PS)
 |loop (keep:List Nat) (c:PS)
 |sum (S:St->DT (c9×St))
def fe6(E:Env)(k:Nat)(c:PS):St->DT (c9×St) :=
 PS.rec (motive:=λ_=>St->DT (c9×St))
  (λc=>q8 E k c)
  (λ_ _ x y s=>(x s).bind λr=>c9.rec (motive:=λ_=>DT (c9×St)) (y r.2) (λid=>.ret (.exit id,r.2)) (.ret (.ret,r.2)) r.1)
  (λc _ _ x y s=>match c8 E s.a c with
   |.v (.bool b)=>.ite b (x s) (y s)
   |_=>.fail)
  (λid _ x s=>(x s).bind λr=>c9.rec (motive:=λ_=>DT (c9×St)) (.ret (.normal,r.2))
   (λid'=>Bool.rec (.ret (.exit id',r.2)) (.ret (.normal,r.2)) (Nat.beq id' id)) (.ret (.ret,r.2)) r.1)
  (λkeep _ x=>Wa1 (λs=>tidy k ⟨C4 keep s.a 0,s.H⟩) x E.N)
  (λS=>S) c
def G4{α:Type}(x y:DT α):Prop:=∀r,x.run=some r->y.run=some r
theorem G4.refl{α:Type}(x:DT α):G4 x x:=λ_ h=>h
theorem G4.bind{α β:Type}{x y:DT α}{f g:α->DT β}(h:G4 x y)(hf:∀a,G4 (f a) (g a)):G4 (x.bind f) (y.bind g):=λr hr=>by
 obtain⟨a,h1,h2⟩:=DT.run_bind_some hr;rw[DT.run_bind,h a h1];exact hf a r h2
theorem G4.ite{α:Type}{b:Bool}{x y x' y':DT α}(h:G4 x x')(h':G4 y y'):G4 (.ite b x y) (.ite b x' y'):=λr hr=>by
 rw[DT.run_ite] at hr ⊢
 split at hr
 ·next hb=>simpa [hb] using h r hr
 ·next hb=>simpa [hb] using h' r hr
theorem G4.fail{α:Type}(y:DT α):G4 .fail y:=λ_ h=>by cases h
theorem Ra7{head:St->DT St}{body body':St->DT (c9×St)}(h:∀s,G4 (body s) (body' s)):∀n s,G4 (Wa1 head body n s) (Wa1 head body' n s)
 |0,s=>.refl _
 |n+1,s=>by
  show G4 ((head s).bind λs=>(body s).bind _) ((head s).bind λs=>(body' s).bind _)
  refine G4.bind (.refl _) λs=>(h s).bind λr=>?_
  rcases r with⟨x,s'⟩
  cases x with
  |normal=>exact Ra7 h n s'
  |exit id=>exact .refl _
  |ret=>exact .refl _
inductive na6 (E:Env) (k:Nat):PS->PC->Prop
 |pc (c:PC):na6 E k (.pc c) c
 |seq {a b:PS} {a' b':PC} (h:na6 E k a a') (h':na6 E k b b'):na6 E k (.seq a b) (.seq a' b')
 |cond (c:Arg) {a b:PS} {a' b':PC} (h:na6 E k a a') (h':na6 E k b b'):na6 E k (.cond c a b) (.cond c a' b')
 |block (id:Nat) {a:PS} {a':PC} (h:na6 E k a a'):na6 E k (.block id a) (.block id a')
 |loop (keep:List Nat) {a:PS} {a':PC} (h:na6 E k a a'):na6 E k (.loop keep a) (.loop keep a')
 |sum {S:St->DT (c9×St)} {c:PC} (h:∀s,G4 (S s) (q8 E k c s)):na6 E k (.sum S) c
theorem na6.le{E:Env}{k:Nat}{a:PS}{c:PC}(h:na6 E k a c):∀s,G4 (fe6 E k a s) (q8 E k c s):=by
 induction h with
 |pc c=>exact λs=>.refl _
 |seq h h' ih ih' =>
  intro s;refine (ih s).bind λr=>?_
  rcases r with⟨x,s'⟩
  cases x with
  |normal=>exact ih' s'
  |exit id=>exact .refl _
  |ret=>exact .refl _
 |cond c h h' ih ih' =>
  intro s;show G4 (match c8 E s.a c with | .v (.bool b)=>_ | _=>_) (match c8 E s.a c with | .v (.bool b)=>_ | _=>_)
  split
  ·exact .ite (ih s) (ih' s)
  ·exact .fail _
 |block id h ih=>exact λs=>(ih s).bind λr=>.refl _
 |loop keep h ih=>exact λs=>Ra7 ih _ s
 |sum h=>exact h
def Ha4(head:St->DT St)(body:St->DT (c9×St))(s:St):DT (c9×St) :=
 (body s).bind λr=>c9.rec (motive:=λ_=>DT (c9×St)) ((head r.2).bind λs=>.ret (.normal,s)) (λid=>.ret (.exit id,r.2)) (.ret (.ret,r.2)) r.1
def mb6(head:St->DT St)(body:St->DT (c9×St))(n:Nat)(s:St):DT (c9×St) :=
 (body s).bind λr=>c9.rec (motive:=λ_=>DT (c9×St)) (Wa1 head body n r.2) (λid=>.ret (.exit id,r.2)) (.ret (.ret,r.2)) r.1
theorem eb6{head:St->DT St}{body:St->DT (c9×St)}{n:Nat}{s t:St}{r:c9×St}(h:(head s).run=some t)(h2:(mb6 head body n t).run=some r):(Wa1 head body (n+1) s).run=some r:=by
 show ((head s).bind λs=>mb6 head body n s).run=some r
 rw[DT.run_bind,h];exact h2
theorem wd9{head:St->DT St}{body:St->DT (c9×St)}{n:Nat}{s t:St}{r:c9×St}(h:(Ha4 head body s).run=some (.normal,t))(h2:(mb6 head body n t).run=some r):(mb6 head body (n+1) s).run=some r:=by
 obtain⟨⟨x,s1⟩,h3,h4⟩:=DT.run_bind_some h;cases x with
 |normal =>
  obtain⟨t',h5,h6⟩:=DT.run_bind_some h4;cases h6;show ((body s).bind _).run=_;rw[DT.run_bind,h3];exact eb6 h5 h2
 |exit id=>cases h4
 |ret=>cases h4
theorem xd0{head:St->DT St}{body:St->DT (c9×St)}{n:Nat}{s t:St}{x:c9}(h:(Ha4 head body s).run=some (x,t))(hx:x≠.normal):(mb6 head body n s).run=some (x,t):=by
 obtain⟨⟨y,s1⟩,h3,h4⟩:=DT.run_bind_some h;cases y with
 |normal =>
  obtain⟨t',h5,h6⟩:=DT.run_bind_some h4
  simp_all
 |exit id =>
  show ((body s).bind _).run=_;rw[DT.run_bind,h3];exact h4
 |ret =>
  show ((body s).bind _).run=_;rw[DT.run_bind,h3];exact h4
@[reducible] def Ya8(k:Nat)(keep:List Nat)(s:St):DT St:=tidy k ⟨C4 keep s.a 0,s.H⟩
theorem dc9(E:Env)(k:Nat)(keep:List Nat)(c:PC)(s:St):q8 E k (.loop keep c) s=Wa1 (Ya8 k keep) (q8 E k c) E.N s:=rfl
inductive Sh where
 |unk
 |int
 |bool
 |tree (es:Nat)
 |ptr (id i c g:Nat)
@[reducible] def sel{α:Type}(c:Bool)(t e:α):α:=Bool.rec (motive:=λ_=>α) e t c
theorem Ba6{g a:Int}(h:a>0):(Int.tmod g a).toNat<a.toNat:=by
 have:=Int.tmod_lt_of_pos g h
 omega
@[reducible] def i(n:Int):a7:=.v (.int .i64 n)
@[reducible] def b(x:Bool):a7:=.v (.bool x)
def xd1:a7->Option Int
 |.v (.int .i64 n)=>some n
 |_=>none
theorem xd2{x:a7}{n:Int}(h:xd1 x=some n):x=i n:=by
 unfold xd1 at h
 grind
abbrev W(n:Int):Int:=IntKind.wrap .i64 n
structure Cod(α:Type) where
 enc:α->a7
 dec:a7->Option α
 grd:a7->Bool
 ok:∀x a,dec x=some a->grd x=true->ALe x (enc a)
theorem ALe.of{x y:a7}(h:x=y):ALe x y:=h ▸ .refl x
def cI:Cod Int:=⟨i,xd1,λ_=>true,λ_ _ h _=>.of (xd2 h)⟩
theorem E4.get{F:Fz}{w:World}{es n:Nat}{get get':Nat->List a7}{v:Value}(h:E4 F w (.tree es n get) v)(he:∀k,k<n->get' k=get k):E4 F w (.tree es n get') v:=by
 cases h with
 |tree _ _ _ a cap cs hs hcap hes hF hw hr =>
  refine .tree es n get' a cap cs hs hcap (λi hi=>by rw[he i hi];exact hes i hi) hF hw (λi c hi hc=>?_)
  grind
 |nil=>exact .nil _ _
theorem ALe.tree{es n:Nat}{get get':Nat->List a7}(he:∀k,k<n->get' k=get k):ALe (.tree es n get) (.tree es n get'):=λρ H F w v h=>.val (.cell (.mem ((Q9 h).get he)))
def g3(x y z:Int):Nat->List a7
 |0=>[i x]
 |1=>[i y]
 |_=>[i z]
def xd3:List a7->Option Int
 |[x]=>xd1 x
 |_=>none
def d3(x:a7):Option (Int×Int×Int):=match x with
 |.tree 1 3 get=>Option.rec (motive:=λ_=>Option (Int×Int×Int)) none (λa=>Option.rec (motive:=λ_=>Option (Int×Int×Int)) none (λb=>Option.rec (motive:=λ_=>Option (Int×Int×Int)) none (λc=>some (a,b,c)) (xd3 (get 2))) (xd3 (get 1))) (xd3 (get 0))
 |_=>none
def d1(x:a7):Option Int:=match x with
 |.tree 1 1 get=>xd3 (get 0)
 |_=>none
structure IL where
 n:Nat
 g:Nat->Int
structure LL where
 a:IL
 b:IL
def onO{α:Type}(x:Option α)(k:α->DT (a7×List a8)):DT (a7×List a8):=Option.rec (motive:=λ_=>DT (a7×List a8)) .fail k x
theorem u9{α:Type}{x:Option α}{k:α->DT (a7×List a8)}{r:a7×List a8}(h:(onO x k).run=some r):∃a,x=some a/\(k a).run=some r:=by
 cases x with
 |none=>cases h
 |some a=>exact⟨a,rfl,h⟩
section
variable{α β γ δ:Type}
def Rd9(k:DT (a7×List a8)):Sum:=λargs blks=>match args,blks with
 |[],[]=>k
 |_,_=>.fail
def G9(c:Cod α)(k:α->DT (a7×List a8)):Sum:=λargs blks=>match args,blks with
 |[x],[]=>onO (c.dec x) λa=>.guard (c.grd x) (k a)
 |_,_=>.fail
def pa5(c:Cod α)(d:Cod β)(k:α->β->DT (a7×List a8)):Sum:=λargs blks=>match args,blks with
 |[x,y],[]=>onO (c.dec x) λa=>onO (d.dec y) λb=>.guard (c.grd x) (.guard (d.grd y) (k a b))
 |_,_=>.fail
def Hb3(c:Cod α)(d:Cod β)(e:Cod γ)(k:α->β->γ->DT (a7×List a8)):Sum:=λargs blks=>match args,blks with
 |[x,y,z],[]=>onO (c.dec x) λa=>onO (d.dec y) λb=>onO (e.dec z) λg=>.guard (c.grd x) (.guard (d.grd y) (.guard (e.grd z) (k a b g)))
 |_,_=>.fail
def Qb6(c:Cod α)(d:Cod β)(e:Cod γ)(f:Cod δ)(k:α->β->γ->δ->DT (a7×List a8)):Sum:=λargs blks=>match args,blks with
 |[x,y,z,w],[]=>onO (c.dec x) λa=>onO (d.dec y) λb=>onO (e.dec z) λg=>onO (f.dec w) λj=>.guard (c.grd x) (.guard (d.grd y) (.guard (e.grd z) (.guard (f.grd w) (k a b g j))))
 |_,_=>.fail
variable{P:Program}{G:Nat->List Value}{f:FuncId}{R:Sum}{c:Cod α}{d:Cod β}{e:Cod γ}{c4:Cod δ}
theorem d6.le{S':Sum}(h:d6 P G f R)(hr:∀args blks r,(S' args blks).run=some r->(R args blks).run=some r):d6 P G f S' :=
 h.refine λargs blks r hh=>⟨args,.refl _,hr args blks r hh⟩
theorem xd4{k}(hb:d6 P G f R)(h:∀r,k.run=some r->(R [] []).run=some r):d6 P G f (Rd9 k):=hb.le λargs blks r hr=>by
 unfold Rd9 at hr
 split at hr
 ·exact h r hr
 ·cases hr
theorem eb7{k:α->_}(hb:d6 P G f R)(h:∀a r,(k a).run=some r->(R [c.enc a] []).run=some r):d6 P G f (G9 c k):=hb.refine λargs blks r hr=>by
 unfold G9 at hr
 split at hr
 ·obtain⟨a,h1,hr⟩:=u9 hr;obtain⟨g1,hr⟩:=DT.run_guard_some hr;exact⟨_,.cons (c.ok _ a h1 g1) .nil,h a r hr⟩
 ·cases hr
theorem Mc5{k:α->β->_}(hb:d6 P G f R)(h:∀a b r,(k a b).run=some r->(R [c.enc a,d.enc b] []).run=some r):d6 P G f (pa5 c d k):=hb.refine λargs blks r hr=>by
 unfold pa5 at hr
 split at hr
 ·obtain⟨a,h1,hr⟩:=u9 hr;obtain⟨b,h2,hr⟩:=u9 hr;obtain⟨g1,hr⟩:=DT.run_guard_some hr;obtain⟨g2,hr⟩:=DT.run_guard_some hr;exact⟨_,.cons (c.ok _ a h1 g1) (.cons (d.ok _ b h2 g2) .nil),h a b r hr⟩
 ·cases hr
theorem Mc6{k:α->β->γ->_}(hb:d6 P G f R)(h:∀a b g r,(k a b g).run=some r->(R [c.enc a,d.enc b,e.enc g] []).run=some r):d6 P G f (Hb3 c d e k):=hb.refine λargs blks r hr=>by
 unfold Hb3 at hr
 split at hr
 ·obtain⟨a,h1,hr⟩:=u9 hr;obtain⟨b,h2,hr⟩:=u9 hr;obtain⟨g,h3,hr⟩:=u9 hr;obtain⟨g1,hr⟩:=DT.run_guard_some hr;obtain⟨g2,hr⟩:=DT.run_guard_some hr;obtain⟨g3,hr⟩:=DT.run_guard_some hr;exact⟨_,.cons (c.ok _ a h1 g1) (.cons (d.ok _ b h2 g2) (.cons (e.ok _ g h3 g3) .nil)),h a b g r hr⟩
 ·cases hr
theorem xd5{k:α->β->γ->δ->_}(hb:d6 P G f R)(h:∀a b g j r,(k a b g j).run=some r->(R [c.enc a,d.enc b,e.enc g,c4.enc j] []).run=some r):d6 P G f (Qb6 c d e c4 k):=hb.refine λargs blks r hr=>by
 unfold Qb6 at hr
 split at hr
 ·obtain⟨a,h1,hr⟩:=u9 hr;obtain⟨b,h2,hr⟩:=u9 hr;obtain⟨g,h3,hr⟩:=u9 hr;obtain⟨j,h4,hr⟩:=u9 hr;obtain⟨g1,hr⟩:=DT.run_guard_some hr;obtain⟨g2,hr⟩:=DT.run_guard_some hr;obtain⟨g3,hr⟩:=DT.run_guard_some hr;obtain⟨g4,hr⟩:=DT.run_guard_some hr;exact⟨_,.cons (c.ok _ a h1 g1) (.cons (d.ok _ b h2 g2) (.cons (e.ok _ g h3 g3) (.cons (c4.ok _ j h4 g4) .nil))),h a b g j r hr⟩
 ·cases hr
end
inductive Stp (σ:Type) where
 |fail
 |next (s:σ)
 |exit (t:Nat)
@[reducible] def Ya9{σ α:Type}(f:σ->α)(x:Nat->α)(z:α)(r:Stp σ):α:=Stp.rec (motive:=λ_=>α) z f x r
def lp0{σ:Type}(step:σ->Stp σ)(n:Nat):σ->Nat×σ :=
 Nat.rec (motive:=λ_=>σ->Nat×σ) (λs=>Ya9 (λ_=>(0,s)) (λt=>(t,s)) (0,s) (step s))
  (λ_ ih s=>Ya9 (λs'=>ih s') (λt=>(t,s)) (0,s) (step s)) n
def lpS:{ f:(σ:Type)->(σ->Stp σ)->Nat->σ->Nat×σ // f=λ_=>lp0 }:=Classical.choice ⟨⟨_,rfl⟩⟩
def rounds:Nat:=18446744073709551615
def lp{σ:Type}(step:σ->Stp σ)(s:σ):Nat×σ:=lpS.1 σ step rounds s
theorem Jd2{σ:Type}(step:σ->Stp σ)(s:σ):lp step s=lp0 step rounds s:=by
 unfold lp;rw[lpS.2]
theorem vc4{σ:Type}{step:σ->Stp σ}{n:Nat}{s s':σ}(h:step s=.next s'):lp0 step (n+1) s=lp0 step n s':=by
 show Ya9 (λs'=>lp0 step n s') _ _ (step s)=_
 rw[h]
theorem vc5{σ:Type}{step:σ->Stp σ}{n t:Nat}{s:σ}(h:step s=.exit t):lp0 step n s=(t,s):=by
 cases n with
 |zero=>show Ya9 _ _ _ (step s)=_;rw[h]
 |succ n=>show Ya9 _ _ _ (step s)=_;rw[h]
inductive Sk where
 |unk
 |u
 |nil
 |bool
 |int (k:IntKind)
 |lit (k:IntKind) (n:Int)
 |blit (x:Bool)
 |tree (es:Nat)
 |ptr (id i c g:Nat)
 |sl (id g:Nat) (off n:Option Nat)
 |fn (f:Nat)
 |val
def toV:a7->Value
 |.v x=>x
 |_=>.tuple #[]
def we1:a7->ByteArray
 |.v (.string s)=>s
 |_=>⟨#[]⟩
def slO:a7->Nat
 |.sl _ off _ _=>off
 |_=>0
def slN:a7->Nat
 |.sl _ _ n _=>n
 |_=>0
@[reducible] def oN(o:Option Nat)(x:Nat):Nat:=Option.rec (motive:=λ_=>Nat) x (λy=>y) o
@[reducible] def okN(o:Option Nat)(x:Nat):Bool:=Option.rec (motive:=λ_=>Bool) true (λy=>Nat.beq y x) o
def xd6:Sk->a7->Bool
 |.unk,.unk=>true
 |.u,.v (.tuple a)=>List.rec (motive:=λ_=>Bool) true (λ_ _ _=>false) a.toList
 |.nil,.v (.slice none 0 0)=>true
 |.bool,.v (.bool _)=>true
 |.int k,.v (.int k' _)=>decide (k=k')
 |.lit k n,.v (.int k' m)=>Bool.and (decide (k=k')) (decide (n=m))
 |.blit x,.v (.bool y)=>Bool.rec (!y) y x
 |.tree es,.tree es' _ _=>Nat.beq es es'
 |.ptr id i c g,.ptr id' i' c' g'=>Bool.and (Bool.and (Nat.beq id id') (Nat.beq i i')) (Bool.and (Nat.beq c c') (Nat.beq g g'))
 |.sl id g off n,.sl id' off' n' g'=>Bool.and (Bool.and (Nat.beq id id') (Nat.beq g g')) (Bool.and (okN off off') (okN n n'))
 |.fn f,.fn f' []=>Nat.beq f f'
 |.val,.v (.string _)=>true
 |_,_=>false
def Sd0:Sk->a7->a7
 |.unk,_=>.unk
 |.u,_=>.v (.tuple #[])
 |.nil,_=>.v (.slice none 0 0)
 |.bool,x=>.v (.bool (toB x))
 |.int k,x=>.v (.int k (toI x))
 |.lit k n,_=>.v (.int k n)
 |.blit y,_=>.v (.bool y)
 |.tree es,x=>.tree es (toN x) (toG x)
 |.ptr id i c g,_=>.ptr id i c g
 |.sl id g off n,x=>.sl id (oN off (slO x)) (oN n (slN x)) g
 |.fn f,_=>.fn f []
 |.val,x=>.v (.string (we1 x))
theorem Jd3{o:Option Nat}{x:Nat}(h:okN o x=true):oN o x=x:=by
 cases o with
 |none=>rfl
 |some y=>exact Qae h
theorem Mc7{k:Sk}{x:a7}(h:xd6 k x=true):x=Sd0 k x:=by
 unfold xd6 at h
 split at h<;>first | rfl | (cases h;done) | skip
 ·rename_i a;obtain⟨l⟩:=a;cases l with
  |nil=>rfl
  |cons=>cases h
 ·rw[of_decide_eq_true h];rfl
 ·simp only[Qbd,decide_eq_true_eq] at h;rw[h.1,h.2];rfl
 ·rename_i a c;cases a<;>cases c<;>first | rfl | cases h
 ·rw[Qae h];rfl
 ·simp only[Qbd] at h;obtain⟨⟨h1,h2⟩,h3,h4⟩:=h;rw[Qae h1,Qae h2,Qae h3,Qae h4];rfl
 ·rename_i id g off n id' off' n' g';simp only[Qbd] at h;obtain⟨⟨h1,h2⟩,h3,h4⟩:=h;rw[<- Qae h1,<- Qae h2];show a7.sl id off' n' g=.sl id (oN off off') (oN n n') g;rw[Jd3 h3,Jd3 h4]
 ·rw[Qae h];rfl
inductive Sl where
 |s (k:Sk)
 |agg (l:List Sk)
 |tup (l:List Sk)
 |fn (f:Nat) (l:List Sk)
def cellsOf:a7->List a7
 |.agg l=>l
 |.tup l=>l
 |.fn _ l=>l
 |_=>[]
@[reducible] def hdR(l:List (List a7)):List a7:=List.rec (motive:=λ_=>List a7) [] (λx _ _=>x) l
@[reducible] def tlR(l:List (List a7)):List (List a7):=List.rec (motive:=λ_=>List (List a7)) [] (λ_ r _=>r) l
structure Bk where
 et:Nat
 es:Nat
 own:Bool
 rows:Option (List (List Sk))
@[reducible] def eqB(a c:Bool):Bool:=Bool.rec (!c) c a
@[reducible] def hdB(l:List a8):List (List a7):=List.rec (motive:=λ_=>List (List a7)) [] (λx _ _=>x.elems) l
@[reducible] def tlB(l:List a8):List a8:=List.rec (motive:=λ_=>List a8) [] (λ_ r _=>r) l
inductive X4 {α:Type} (P:α->Prop):List α->Prop
 |nil:X4 P []
 |cons {x:α} {l:List α} (h:P x) (t:X4 P l):X4 P (x::l)
theorem X4.mem{α:Type}{P:α->Prop}{l:List α}(h:X4 P l):∀x,x∈l->P x:=by
 induction h with
 |nil=>intro x h;cases h
 |cons h t ih =>
  simp_all
structure Alt(π σ:Type) where
 sh:List Sl
 bl:List Bk
 rd:List a7->List a8->π×σ
def ra(n:Nat)(l:List a7):List a7:=Nat.rec (motive:=λ_=>List a7) l (λ_ ih=>.unk::ih) n
def ru(n:Nat)(l:List Sl):List Sl:=Nat.rec (motive:=λ_=>List Sl) l (λ_ ih=>.s .unk::ih) n
def Sd1(k:Nat)(res:List xb0)(s:St):DT (a7×List a8) :=
 match va2 (va8 s.a s.H) res with
 |some l=>Xa2 k s.H (Ja9 l)
 |none=>.fail
def cut(k:Nat)(res:List xb0)(r:c9×St):DT (c9×St) :=
 c9.rec (motive:=λ_=>DT (c9×St)) (.ret (.normal,r.2)) (λid=>.ret (.exit id,r.2)) ((Sd1 k res r.2).bind λq=>.ret (.ret,⟨[q.1],q.2⟩)) r.1
def Mc8(E:Env)(k:Nat)(res:List xb0)(c:PS):St->DT (c9×St) :=
 PS.rec (motive:=λ_=>St->DT (c9×St))
  (λc s=>(q8 E k c s).bind (cut k res))
  (λ_ _ x y s=>(x s).bind λr=>c9.rec (motive:=λ_=>DT (c9×St)) (y r.2) (λid=>.ret (.exit id,r.2)) (.ret (.ret,r.2)) r.1)
  (λc _ _ x y s=>match c8 E s.a c with
   |.v (.bool b)=>.ite b (x s) (y s)
   |_=>.fail)
  (λid _ x s=>(x s).bind λr=>c9.rec (motive:=λ_=>DT (c9×St)) (.ret (.normal,r.2))
   (λid'=>Bool.rec (.ret (.exit id',r.2)) (.ret (.normal,r.2)) (Nat.beq id' id)) (.ret (.ret,r.2)) r.1)
  (λkeep _ x=>Wa1 (λs=>tidy k ⟨C4 keep s.a 0,s.H⟩) x E.N)
  (λS=>S) c
section
variable{k:Nat}{res:List xb0}
inductive FR (k:Nat) (res:List xb0):c9×St->c9×St->Prop
 |same (x:c9) (s:St) (h:x≠.ret):FR k res (x,s) (x,s)
 |ret (s:St) (q:a7×List a8) (h:(Sd1 k res s).run=some q):FR k res (.ret,⟨[q.1],q.2⟩) (.ret,s)
def I6(k:Nat)(res:List xb0)(x y:DT (c9×St)):Prop:=∀r,x.run=some r->∃r',y.run=some r'/\FR k res r r'
theorem I6.bind{x y:DT (c9×St)}{f g:c9×St->DT (c9×St)}(h:I6 k res x y)(hf:∀r r',FR k res r r'->I6 k res (f r) (g r')):I6 k res (x.bind f) (y.bind g):=λr hr=>by
 obtain⟨a,h1,h2⟩:=DT.run_bind_some hr;obtain⟨a',h3,h4⟩:=h a h1;obtain⟨r',h5,h6⟩:=hf a a' h4 r h2;exact⟨r',by rw[DT.run_bind,h3];exact h5,h6⟩
theorem I6.ite{b:Bool}{x y x' y':DT (c9×St)}(h:I6 k res x x')(h':I6 k res y y'):I6 k res (.ite b x y) (.ite b x' y'):=λr hr=>by
 rw[DT.run_ite] at hr;rw[DT.run_ite]
 split at hr
 ·next hb=>simpa [hb] using h r hr
 ·next hb=>simpa [hb] using h' r hr
theorem I6.one{r r':c9×St}(h:FR k res r r'):I6 k res (.ret r) (.ret r'):=λa ha=>by
 cases ha;exact⟨r',rfl,h⟩
theorem I6.cut(x:DT (c9×St)):I6 k res (x.bind (cut k res)) x:=λr hr=>by
 obtain⟨⟨a,s⟩,h1,h2⟩:=DT.run_bind_some hr;refine⟨(a,s),h1,?_⟩;cases a with
 |normal=>cases h2;exact .same _ _ (λh=>by cases h)
 |exit id=>cases h2;exact .same _ _ (λh=>by cases h)
 |ret =>
  obtain⟨q,h3,h4⟩:=DT.run_bind_some h2;cases h4;exact .ret s q h3
theorem Za0{head:St->DT St}{body body':St->DT (c9×St)}(h:∀s,I6 k res (body s) (body' s)):∀n s,I6 k res (Wa1 head body n s) (Wa1 head body' n s)
 |0,s=>λr hr=>by cases hr
 |n+1,s=>by
  intro r hr;obtain⟨t,h1,h2⟩:=DT.run_bind_some hr
  have:I6 k res ((body t).bind λr=>c9.rec (motive:=λ_=>DT (c9×St)) (Wa1 head body n r.2) (λid=>.ret (.exit id,r.2)) (.ret (.ret,r.2)) r.1) ((body' t).bind λr=>c9.rec (motive:=λ_=>DT (c9×St)) (Wa1 head body' n r.2) (λid=>.ret (.exit id,r.2)) (.ret (.ret,r.2)) r.1):=by
   refine (h t).bind λa a' ha=>?_
   cases ha with
   |same x s hx =>
    cases x with
    |normal=>exact Za0 h n s
    |exit id=>exact .one (.same _ _ hx)
    |ret=>exact absurd rfl hx
   |ret s q hq=>exact .one (.ret s q hq)
  obtain⟨r',h3,h4⟩:=this r h2;refine⟨r',?_,h4⟩;show ((head s).bind λs=>(body' s).bind _).run=_
  rw[DT.run_bind,h1];exact h3
inductive R3 (E:Env) (k:Nat) (res:List xb0):PS->PC->Prop
 |pc (c:PC):R3 E k res (.pc c) c
 |seq {a b:PS} {a' b':PC} (h:R3 E k res a a') (h':R3 E k res b b'):R3 E k res (.seq a b) (.seq a' b')
 |cond (c:Arg) {a b:PS} {a' b':PC} (h:R3 E k res a a') (h':R3 E k res b b'):R3 E k res (.cond c a b) (.cond c a' b')
 |block (id:Nat) {a:PS} {a':PC} (h:R3 E k res a a'):R3 E k res (.block id a) (.block id a')
 |loop (keep:List Nat) {a:PS} {a':PC} (h:R3 E k res a a'):R3 E k res (.loop keep a) (.loop keep a')
 |sum {S:St->DT (c9×St)} {c:PC} (h:∀s,I6 k res (S s) (q8 E k c s)):R3 E k res (.sum S) c
theorem R3.le{E:Env}{a:PS}{c:PC}(h:R3 E k res a c):∀s,I6 k res (Mc8 E k res a s) (q8 E k c s):=by
 induction h with
 |pc c=>exact λs=>.cut _
 |seq h h' ih ih' =>
  intro s;refine (ih s).bind λr r' hr=>?_
  cases hr with
  |same x s hx =>
   cases x with
   |normal=>exact ih' s
   |exit id=>exact .one (.same _ _ hx)
   |ret=>exact absurd rfl hx
  |ret s q hq=>exact .one (.ret s q hq)
 |cond c h h' ih ih' =>
  intro s;show I6 k res (match c8 E s.a c with | .v (.bool b)=>_ | _=>_) (match c8 E s.a c with | .v (.bool b)=>_ | _=>_)
  split
  ·exact .ite (ih s) (ih' s)
  ·exact λr hr=>by cases hr
 |block id h ih =>
  intro s;refine (ih s).bind λr r' hr=>?_
  cases hr with
  |same x s hx =>
   cases x with
   |normal=>exact .one (.same _ _ λh=>by cases h)
   |exit id' =>
    show I6 k res (Bool.rec (.ret (.exit id',s)) (.ret (.normal,s)) (Nat.beq id' id)) (Bool.rec (.ret (.exit id',s)) (.ret (.normal,s)) (Nat.beq id' id));cases Nat.beq id' id with
    |false=>exact .one (.same _ _ hx)
    |true=>exact .one (.same _ _ λh=>by cases h)
   |ret=>exact absurd rfl hx
  |ret s q hq=>exact .one (.ret s q hq)
 |loop keep h ih=>exact λs=>Za0 ih _ s
 |sum h=>exact h
end
def Sd2(E:Env)(fn:PFn)(body:PS)(args:List a7)(blks:List a8):DT (a7×List a8) :=
 (Mc8 E (len blks) fn.res body ⟨app args (List.replicate (fn.ntmps-len args) (.v (.tuple #[]))),blks⟩).bind λr =>
  c9.rec (motive:=λ_=>DT (a7×List a8)) (Sd1 (len blks) fn.res r.2) (λ_=>.fail) (.ret (hdA r.2.a,r.2.H)) r.1
theorem Gc2{E:Env}{fn:PFn}{body:PS}{args:List a7}{blks:List a8}(h:R3 E (len blks) fn.res body fn.body):G4 (Sd2 E fn body args blks) (j6 E fn args blks):=λr hr=>by
 obtain⟨a,h1,h2⟩:=DT.run_bind_some hr;obtain⟨a',h3,h4⟩:=h.le _ a h1;show ((q8 E (len blks) fn.body _).bind _).run=_;rw[DT.run_bind,h3];cases h4 with
 |same x s hx =>
  cases x with
  |normal=>exact h2
  |exit id=>cases h2
  |ret=>exact absurd rfl hx
 |ret s q hq =>
  cases h2;exact hq
theorem ALe.nilTree(es:Nat)(get:Nat->List a7):ALe (.v (.slice none 0 0)) (.tree es 0 get):=λρ H F w v h=>by
 have:=F9 h
 subst this;exact .val (.cell (.mem (.nil es get)))
theorem ALe.emptyTree(es:Nat)(get:Nat->List a7)(a:Addr)(c:Nat):ALe (.v (.slice (some a) 0 c)) (.tree es 0 get):=λρ H F w v h=>by
 have:=F9 h
 subst this;exact .val (.cell (.mem (.tree es 0 get a c (λ_ _=>.tuple #[]) (λh=>absurd h (by omega)) (Nat.zero_le _) (λi h=>absurd h (by omega)) (λi c h=>absurd h (by omega)) (λi c h=>absurd h (by omega)) (λi c h=>absurd h (by omega)))))
section
variable{α:Type}{row:α->List a7}{isr:List a7->Bool}{rd:List a7->α}{d:α}
theorem ed6{β:Type}(f:α->β)(l:List α):len (j9 f l)=l.length:=by rw[i9,i8,List.length_map]
theorem vc6(row:α->List a7)(d:α){l:List α}{k:Nat}(h:k<l.length):j8 (j9 row l) k=row (l.getD k d):=by
 unfold j8;rw[n9,i8,Qbm,Qda,Qaa h];rfl
theorem ed7(row:α->List a7)(l r:List α):app (j9 row l) (j9 row r)=j9 row (l++r):=by
 rw[A4,i8,i8,i8,List.map_append]
theorem Gc3(row:α->List a7)(l:List α)(k:Nat)(x:α):setAt (j9 row l) k (row x)=j9 row (l.set k x):=by
 rw[o3,i8,i8,List.map_set]
end
section
variable{α β γ δ ε ζ:Type}
variable{P:Program}{G:Nat->List Value}{f:FuncId}{R:Sum}{c:Cod α}{d:Cod β}{e:Cod γ}{c4:Cod δ}{c5:Cod ε}{c6:Cod ζ}
end
section
variable{W:Nat->Prop}{ρ:Rho}{H H':List a8}{F:Fz}{w:World}
def Z8(H:List a8):a7->Option (a7×List a8)
 |.agg cs=>match freezeCells H cs with
  |some (zs,H')=>some (.agg zs,H')
  |none=>none
 |x=>freezeCell H x
theorem Qb7(hH:o1 W ρ H F w){y z:a7}{y':Value}(hy:L1 ρ H F w y y')(he:Z8 H y=some (z,H')) :
  ∃F',Adv W ρ H F w ρ H' F' w/\o1 W ρ H' F' w/\∀ρ2 H2 F2,(∀b o,F' b o->F2 b o)->L1 ρ2 H2 F2 w z y':=by
 have cell:∀{y:a7},E0 ρ H F w y y'->freezeCell H y=some (z,H')->∃F',Adv W ρ H F w ρ H' F' w/\o1 W ρ H' F' w/\∀ρ2 H2 F2,(∀b o,F' b o->F2 b o)->L1 ρ2 H2 F2 w z y':=λ{y} hy he=>by
  obtain⟨F',h1,h2,h3,_⟩:=ib2 hH hy he;exact⟨F',h1,h2,λρ2 H2 F2 hF=>.cell (.mem (h3.adv hF λ_ _ _=>rfl))⟩
 cases y with
 |agg cs =>
  simp only[Z8] at he;cases hf:freezeCells H cs with
  |none=>rw[hf] at he;cases he
  |some q =>
   obtain⟨zs,H1⟩:=q;rw[hf] at he;have he:some (a7.agg zs,H1)=some (z,H'):=he;injection he with he;injection he with e1 e2
   subst e1 e2;obtain⟨vs,rfl,hl,hr⟩:=Z7 (.val hy);obtain⟨F',h1,h2,h3,h4,_⟩:=Ca1 hH (vs:=vs.toList) (by simpa using hl) (λi y y' h h'=>hr i y y' h (by simpa using h')) hf
   refine⟨F',h1,h2,λρ2 H2 F2 hF=>.agg _ _ (by simpa [h3] using hl) λi x x' hx hx'=>.mem ((h4 i x x' hx (by simpa using hx')).adv hF λ_ _ _=>rfl)⟩
 |v u=>cases hy with | cell h=>exact cell h he
 |tree es n get=>cases hy with | cell h=>exact cell h he
 |sl id off n g=>cases hy with | cell h=>exact cell h he
 |ptr id i c g=>cases he
 |tptr cs=>cases he
 |unk=>cases he
 |tup l=>cases he
 |fn f caps =>
  cases hy with
  |cell h=>exact cell h he
  |fn f caps vs hl h =>
   have he':freezeCell H (.fn f caps)=some (z,H'):=he;simp only[freezeCell] at he';cases hb:X2 Ua5 caps with
   |false=>simp[hb] at he'
   |true =>
    simp only[hb] at he';injection he' with he';injection he' with e1 e2
    subst e1 e2;have hm:=Mc1 (f:=f) hl h hb;exact⟨F,.refl,hH,λρ2 H2 F2 hF=>.cell (.mem (hm.adv hF λ_ _ _=>rfl))⟩
def Ca8(H:List a8):List a7->Option (List a7×List a8)
 |[]=>some ([],H)
 |x::r=>match Z8 H x with
  |some (y,H1)=>match Ca8 H1 r with
   |some (l,H2)=>some (y::l,H2)
   |none=>none
  |none=>none
theorem Eb1:∀{ys zs:List a7} {vs:List Value} {H H':List a8} {F:Fz},o1 W ρ H F w->ys.length=vs.length->(∀(i:Nat) y y',ys[i]?=some y->vs[i]?=some y'->L1 ρ H F w y y')->Ca8 H ys=some (zs,H') ->
  ∃F',Adv W ρ H F w ρ H' F' w/\o1 W ρ H' F' w/\zs.length=ys.length/\∀(i:Nat) z y',zs[i]?=some z->vs[i]?=some y'->∀ρ2 H2 F2,(∀b o,F' b o->F2 b o)->L1 ρ2 H2 F2 w z y'
 |[],zs,vs,H,H',F,hH,hl,hy,he=>by
  injection he with he;injection he with e1 e2
  subst e1 e2;exact⟨F,.refl,hH,rfl,λi z y' h=>by simp at h⟩
 |y::r,zs,[],H,H',F,hH,hl,hy,he=>by simp at hl
 |y::r,zs,v::vs,H,H',F,hH,hl,hy,he=>by
  simp only[Ca8] at he;cases h1:Z8 H y with
  |none=>rw[h1] at he;cases he
  |some q =>
  obtain⟨z,H1⟩:=q;rw[h1] at he;cases h2:Ca8 H1 r with
  |none=>simp only[h2] at he;cases he
  |some q2 =>
  obtain⟨zs2,H2⟩:=q2;simp only[h2] at he;injection he with he;injection he with e1 e2
  subst e1 e2;obtain⟨F1,a1,a2,a3⟩:=Qb7 hH (hy 0 y v rfl rfl) h1;obtain⟨F2,b1,b2,b3,b4⟩:=Eb1 (ys:=r) (vs:=vs) a2 (by simpa using hl) (λi y y' hy1 hy2=>(hy (i+1) y y' (by simpa using hy1) (by simpa using hy2)).adv a1) h2
  refine⟨F2,a1.trans b1,b2,by simp[b3],λi z' y' hz hy'=>?_⟩
  cases i with
  |zero =>
   simp at hz hy'
   subst hz hy';exact λρ3 H3 F3 hF=>a3 ρ3 H3 F3 λb o hb=>hF b o (b1.more b o hb)
  |succ i=>exact b4 i z' y' (by simpa using hz) (by simpa using hy')
def yb0(H:List a8):a7->Option a7
 |.tup l=>match Ca8 H l with
  |some (zs,_)=>some (.tup zs)
  |none=>none
 |x=>match Z8 H x with
  |some (z,_)=>some z
  |none=>none
theorem o1.less(hH:o1 W ρ H F w):o1 W ρ [] F w:=⟨λid b h=>by simp at h,λid id' b b' h=>by simp at h,hH.frz,hH.new⟩
theorem Adv.less{ρ':Rho}{F':Fz}{w':World}(h:Adv W ρ [] F w ρ' H' F' w'):Adv W ρ [] F w ρ' [] F' w' :=
 ⟨h.ext,λid b hb=>by simp at hb,h.more,h.new,λid b hb=>by simp at hb⟩
theorem Vc3{out:List a8}{x z:a7}{x':Value}{w':World}(hp:w8 W ρ [] F w x out x' w')(he:yb0 out x=some z):w8 W ρ [] F w z [] x' w':=by
 obtain⟨ρ',F',h1,h2,h3⟩:=hp;have one:∀{y:a7},L1 ρ' out F' w' y x'->(match Z8 out y with | some (z,_)=>some z | none=>none)=some z->w8 W ρ [] F w z [] x' w':=λ{y} hy he=>by
  cases hf:Z8 out y with
  |none=>rw[hf] at he;cases he
  |some q =>
   obtain⟨z1,H1⟩:=q;rw[hf] at he;have he:some z1=some z:=he;injection he with he;subst he;obtain⟨F2,a1,a2,a3⟩:=Qb7 h2 hy hf;exact⟨ρ',F2,(h1.trans a1).less,a2.less,.val (a3 _ _ _ λ_ _ h=>h)⟩
 cases h3 with
 |val h =>
  cases x with
  |tup l=>cases h with | cell h=>cases h with | mem h=>cases h
  |_=>exact one h he
 |tup xs vs hl h =>
  simp only[yb0] at he;cases hf:Ca8 out xs with
  |none=>rw[hf] at he;cases he
  |some q =>
   obtain⟨zs,H1⟩:=q;rw[hf] at he;have he:some (a7.tup zs)=some z:=he;injection he with he;subst he;obtain⟨F2,a1,a2,a3,a4⟩:=Eb1 (vs:=vs.toList) h2 (by simpa using hl) (λi y y' hy hy'=>h i y y' hy (by simpa using hy')) hf
   exact⟨ρ',F2,(h1.trans a1).less,a2.less,.tup _ _ (by simpa [a3] using hl) λi x x' hx hx'=>a4 i x x' hx (by simpa using hx') _ _ _ λ_ _ h=>h⟩
theorem w8.le{out:List a8}{x y:a7}{x':Value}{w':World}(hp:w8 W ρ H F w x out x' w')(h:ALe x y):w8 W ρ H F w y out x' w':=by
 obtain⟨ρ',F',h1,h2,h3⟩:=hp;exact⟨ρ',F',h1,h2,h _ _ _ _ _ h3⟩
end
def ec0(x:a7)(out:List a8)(y:a7):Prop:=∃z,yb0 out x=some z/\ALe z y
theorem d6.conv{P:Program}{G:Nat->List Value}{f:FuncId}{S S':Sum}(h:d6 P G f S)
  (hr:∀args blks y out,(S' args blks).run=some (y,out)->blks=[]/\out=[]/\∃x o,(S args []).run=some (x,o)/\ec0 x o y):d6 P G f S':=by
 intro args blks y out he W ρ F w args' hH hlen hargs hG;obtain⟨rfl,rfl,x,o,h1,z,h2,h3⟩:=hr args blks y out he;obtain⟨h4,h5⟩:=h args [] x o h1 W ρ F w args' hH hlen hargs hG;exact⟨h4,h5.mono λe w' ⟨r',h6,h7⟩=>⟨r',h6,(Vc3 h7 h2).le h3⟩⟩
section
variable{α β γ:Type}{P:Program}{G:Nat->List Value}{f:FuncId}{c:Cod α}{d:Cod β}{e:Cod γ}
theorem Vc4{k k':α->DT (a7×List a8)}(h:d6 P G f (G9 c k))(hk:∀a y out,(k' a).run=some (y,out)->out=[]/\∃x o,(k a).run=some (x,o)/\ec0 x o y):d6 P G f (G9 c k'):=h.conv λargs blks y out hr=>by
 unfold G9 at hr
 split at hr
 ·obtain⟨a,h1,hr⟩:=u9 hr;obtain⟨g1,hr⟩:=DT.run_guard_some hr;obtain⟨e1,x,o,e2,e3⟩:=hk a y out hr;refine⟨rfl,e1,x,o,?_,e3⟩;simp only[G9,h1,onO,g1];exact e2
 ·cases hr
theorem Vc5{k k':α->β->DT (a7×List a8)}(h:d6 P G f (pa5 c d k))(hk:∀a b y out,(k' a b).run=some (y,out)->out=[]/\∃x o,(k a b).run=some (x,o)/\ec0 x o y):d6 P G f (pa5 c d k'):=h.conv λargs blks y out hr=>by
 unfold pa5 at hr
 split at hr
 ·obtain⟨a,h1,hr⟩:=u9 hr;obtain⟨b,h2,hr⟩:=u9 hr;obtain⟨g1,hr⟩:=DT.run_guard_some hr;obtain⟨g2,hr⟩:=DT.run_guard_some hr;obtain⟨e1,x,o,e2,e3⟩:=hk a b y out hr;refine⟨rfl,e1,x,o,?_,e3⟩;simp only[pa5,h1,h2,onO,g1,g2];exact e2
 ·cases hr
theorem Vc6{k k':α->β->γ->DT (a7×List a8)}(h:d6 P G f (Hb3 c d e k))(hk:∀a b g y out,(k' a b g).run=some (y,out)->out=[]/\∃x o,(k a b g).run=some (x,o)/\ec0 x o y):d6 P G f (Hb3 c d e k'):=h.conv λargs blks y out hr=>by
 unfold Hb3 at hr
 split at hr
 ·obtain⟨a,h1,hr⟩:=u9 hr;obtain⟨b,h2,hr⟩:=u9 hr;obtain⟨g,h3,hr⟩:=u9 hr;obtain⟨g1,hr⟩:=DT.run_guard_some hr;obtain⟨g2,hr⟩:=DT.run_guard_some hr;obtain⟨g3,hr⟩:=DT.run_guard_some hr;obtain⟨e1,x,o,e2,e3⟩:=hk a b g y out hr;refine⟨rfl,e1,x,o,?_,e3⟩;simp only[Hb3,h1,h2,h3,onO,g1,g2,g3];exact e2
 ·cases hr
end
theorem ALe.tup{xs ys:List a7}(hl:xs.length=ys.length)(h:∀(i:Nat) x y,xs[i]?=some x->ys[i]?=some y->∀ρ H F w v,L1 ρ H F w x v->L1 ρ H F w y v):ALe (.tup xs) (.tup ys):=λρ H F w v hv=>by
 cases hv with
 |val hv=>cases hv with | cell hv=>cases hv with | mem hv=>cases hv
 |tup _ vs hl2 hv =>
  refine .tup _ _ (hl ▸ hl2) λi y v' hy hv'=>?_
  grind
theorem L1.treeLe{es n:Nat}{get get':Nat->List a7}(he:∀k,k<n->get' k=get k){ρ:Rho}{H:List a8}{F:Fz}{w:World}{v:Value}(h:L1 ρ H F w (.tree es n get) v):L1 ρ H F w (.tree es n get') v :=
 .cell (.mem ((Q9 (.val h)).get he))
end Go.Ev
namespace Go.Ev.L
open Go Go.Ev
def cl(p:Prop):Bool:=@decide p (Classical.propDecidable p)
theorem xd7{p:Prop}(h:p):cl p=true:=@decide_eq_true _ (Classical.propDecidable p) h
theorem Jd4{p:Prop}(h:cl p=true):p:=@of_decide_eq_true _ (Classical.propDecidable p) h
def sl{α:Type}(c:Bool)(t e:α):α:=Bool.rec (motive:=λ_=>α) e t c
theorem s6{α:Type}(t e:α):sl true t e=t:=rfl
theorem Qb8{α:Type}(t e:α):sl false t e=e:=rfl
theorem mb7{α:Type}(c:Bool)(t e:α):sl c t e=if c=true then t else e:=by cases c<;>rfl
theorem Jd5{α β:Type}{f:α->β}{c:Bool}{A B:α}{a b:β}(hA:f A=a)(hB:f B=b):f (sl c A B)=sl c a b:=by cases c<;>assumption
structure CLe(x y:a7):Prop where
 m:∀F w v,E4 F w x v->E4 F w y v
 c:∀ρ H F w v,E0 ρ H F w x v->E0 ρ H F w y v
theorem CLe.refl(x:a7):CLe x x:=⟨λ_ _ _ h=>h,λ_ _ _ _ _ h=>h⟩
theorem CLe.of{x y:a7}(h:x=y):CLe x y:=h ▸ .refl x
inductive Za1:List a7->List a7->Prop
 |nil:Za1 [] []
 |cons {x y l r} (h:CLe x y) (t:Za1 l r):Za1 (x::l) (y::r)
theorem Za1.refl:∀l,Za1 l l
 |[]=>.nil
 |x::l=>.cons (.refl x) (Za1.refl l)
theorem Za1.of{l r:List a7}(h:l=r):Za1 l r:=h ▸ .refl l
theorem Za1.length{l r}(h:Za1 l r):l.length=r.length:=by induction h<;>simp_all
theorem Za1.get{l r}(h:Za1 l r):∀(i:Nat) y,r[i]?=some y->∃x,l[i]?=some x/\CLe x y:=by
 induction h with
 |nil=>intro i y hy;simp at hy
 |cons h t ih =>
  grind
theorem ed8{F:Fz}{w:World}{es n:Nat}{get get':Nat->List a7}{v:Value}(h:E4 F w (.tree es n get) v)(he:∀k,k<n->Za1 (get k) (get' k)):E4 F w (.tree es n get') v:=by
 cases h with
 |tree _ _ _ a cap cs hs hcap hes hF hw hr =>
  refine .tree es n get' a cap cs hs hcap (λi hi=>by rw[<- (he i hi).length];exact hes i hi) hF hw (λi c hi hc=>?_)
  obtain⟨x,hx,hle⟩:=(he i hi).get c _ (Qaa hc);have hc':c<(get i).length:=(Qab.1 hx).1
  have:=hr i c hi hc'
  have e:(get i)[c]=x:=by
   grind
  rw[e] at this;exact hle.m _ _ _ this
 |nil=>exact .nil _ _
theorem CLe.tree{es n:Nat}{get get':Nat->List a7}(he:∀k,k<n->Za1 (get k) (get' k)):CLe (.tree es n get) (.tree es n get') :=
 ⟨λ_ _ _ h=>ed8 h he,λ_ _ _ _ _ h=>by cases h with | mem h=>exact .mem (ed8 h he)⟩
theorem CLe.nilTree(es:Nat)(get:Nat->List a7):CLe (.v (.slice none 0 0)) (.tree es 0 get) :=
 ⟨λ_ _ _ h=>by cases h;exact .nil es get,λ_ _ _ _ _ h=>by cases h with
  |mem h=>cases h;exact .mem (.nil es get)
  |v=>exact .mem (.nil es get)⟩
theorem CLe.ale{x y:a7}(h:CLe x y)(hx:∀(ρ:Rho) H F w v,o9 ρ H F w x v->E0 ρ H F w x v):ALe x y:=λρ H F w v hv=>.val (.cell (h.c _ _ _ _ _ (hx ρ H F w v hv)))
theorem ALe.rows{es n:Nat}{get get':Nat->List a7}(he:∀k,k<n->Za1 (get k) (get' k)):ALe (.tree es n get) (.tree es n get'):=λ_ _ _ _ _ h=>.val (.cell (.mem (ed8 (Q9 h) he)))
structure Ty(α:Type) where
 es:Nat
 row:α->List a7
 rd:List a7->α
 ok:List a7->Bool
 cks:List CK
 d:α
 h0:∀x,len (row x)=es
 h1:∀x,rd (row x)=x
 h2:∀x,ok (row x)=true
 h3:∀r,ok r=true->Za1 r (row (rd r))
 h4:∀x,Ga5 cks (row x)=true
 h5:∀x,i5 (row x) 0=row x
section
variable{α:Type}(t:Ty α)
@[reducible] def gL(l:List α)(k:Nat):α:=l.getD k t.d
@[reducible] def eL(l:List α):a7:=.tree t.es l.length (λk=>t.row (gL t l k))
def lsL(n:Nat)(get:Nat->List a7):List α:=(List.range n).map λk=>t.rd (get k)
def okL(n:Nat)(get:Nat->List a7):Bool:=(List.range n).all λk=>t.ok (get k)
def rL(v:a7):List α:=lsL t (toN v) (toG v)
def nL(v:a7):a7:=eL t (rL t v)
def ed9(f:a7->a7)(x:a7):Bool:=cl (x=f x)
def rt(l:List α):List α:=rL t (eL t l)
def okE(l:List α):Bool:=okL t (toN (eL t l)) (toG (eL t l))
def cnE(l:List α):Bool:=ed9 (nL t) (eL t l)
def bL(l:List α):List (List a7):=j9 t.row l
def rdR(el:List (List a7))(j:Nat):α:=t.rd (i5 (j8 el j) 0)
def ldR(el:List (List a7))(j:Nat):Bool:=Bool.and (Bool.and (Nat.blt j (len el)) (Nat.ble (0+t.es) (len (j8 el j)))) (Ga5 t.cks (i5 (j8 el j) 0))
def slR(el:List (List a7))(off n:Nat):List α:=lsL t n λk=>j8 el (off+k)
def okS(el:List (List a7))(off n:Nat):Bool:=okL t n λk=>j8 el (off+k)
theorem Mc9(n:Nat)(get:Nat->List a7):(lsL t n get).length=n:=by simp[lsL]
theorem Nc0{n k:Nat}(get:Nat->List a7)(h:k<n):gL t (lsL t n get) k=t.rd (get k):=by
 simp[gL,lsL,Qda,Qbm,List.getElem?_range h]
theorem Qb9{n:Nat}{get:Nat->List a7}{l:List α}(hn:n=l.length)(h:∀k,k<n->get k=t.row (gL t l k)):lsL t n get=l:=by
 apply List.ext_getElem
 ·simp[lsL,hn]
 ·intro k h1 h2;have hk:k<n:=by omega
  simp[lsL,h k hk,t.h1,gL,Qda,Qaa h2]
theorem Ra8{n:Nat}{get:Nat->List a7}{f:Nat->α}(h:∀k,k<n->get k=t.row (f k)):okL t n get=true:=by
 unfold okL;rw[Qcf];intro k hk;have hk:k<n:=by simpa using hk
 rw[h k hk];exact t.h2 _
theorem v7(l:List α):rt t l=l:=Qb9 t rfl λ_ _=>rfl
theorem Za2(l:List α):okE t l=true:=Ra8 t (f:=λk=>gL t l k) λ_ _=>rfl
theorem r4(l:List α):cnE t l=true:=xd7 (by unfold nL;rw[show rL t (eL t l)=l from v7 t l])
theorem Ra9(l:List α):len (bL t l)=l.length:=ed6 _ _
theorem Y6{l:List α}{k:Nat}(h:k<l.length):j8 (bL t l) k=t.row (gL t l k):=vc6 t.row t.d h
theorem Gc4{l:List α}{k:Nat}(h:k<l.length):rdR t (bL t l) k=gL t l k:=by unfold rdR;rw[Y6 t h,t.h5,t.h1]
theorem Gc5{l:List α}{k:Nat}(h:k<l.length):ldR t (bL t l) k=true:=by
 unfold ldR;rw[Y6 t h,t.h5,t.h4,Ra9,t.h0,Qbh,Bool.and_true]
 simp_all
theorem Za3(l r:List α):app (bL t l) (bL t r)=bL t (l++r):=ed7 _ _ _
theorem Gc6(l:List α):slR t (bL t l) 0 l.length=l:=Qb9 t rfl λk hk=>by rw[Qbh,Y6 t hk]
theorem fd0(l:List α):okS t (bL t l) 0 l.length=true:=Ra8 t (f:=λk=>gL t l k) λk hk=>by rw[Qbh,Y6 t hk]
theorem fd1(l:List α):j9 (λk=>t.row (gL t l k)) (List.range l.length)=bL t l:=by
 unfold bL;rw[i8,i8];apply List.ext_getElem
 ·simp
 simp_all
theorem vc7(l:List α)(k:Nat)(x:α):setAt (bL t l) k (t.row x)=bL t (l.set k x):=Gc3 _ _ _ _
theorem treeLe{n:Nat}{get:Nat->List a7}(h:okL t n get=true):CLe (.tree t.es n get) (eL t (lsL t n get)):=by
 unfold eL;rw[Mc9];refine .tree λk hk=>?_
 rw[Nc0 t get hk];exact t.h3 _ (Qcf.1 h k (by simpa using hk))
theorem Nc1{n:Nat}{get:Nat->List a7}(h:okL t n get=true):ALe (.tree t.es n get) (eL t (lsL t n get)):=(treeLe t h).ale λ_ _ _ _ _ h=>.mem (Q9 h)
def ga2:Cod (List α) where
 enc l:=eL t l
 dec x:=match x with
  |.tree e n get=>Bool.rec (motive:=λ_=>Option (List α)) none (some (lsL t n get)) (Nat.beq e t.es)
  |.v (.slice none 0 0)=>some []
  |.v (.slice (some _) 0 _)=>some []
  |_=>none
 grd x:=match x with
  |.tree _ n get=>okL t n get
  |_=>true
 ok x a hx hg:=by
  split at hx
  ·rename_i e n get;cases hb:Nat.beq e t.es with
   |false=>rw[hb] at hx;cases hx
   |true =>
    rw[hb] at hx;have hx:some (lsL t n get)=some a:=hx;injection hx with hx;subst hx
    have:=Qae hb
    subst this;exact Nc1 t hg
  ·injection hx with hx;subst hx;exact .nilTree _ _
  ·injection hx with hx;subst hx;exact .emptyTree _ _ _ _
  ·cases hx
def hC(get:Nat->List a7):α:=t.rd (get 0)
def tC(n:Nat)(get:Nat->List a7):List α:=lsL t n λk=>get (k+1)
theorem Nc2(a:α)(l:List α):hC t (λk=>t.row (gL t (a::l) k))=a:=t.h1 _
theorem Nc3(a:α)(l:List α):tC t l.length (λk=>t.row (gL t (a::l) k))=l:=Qb9 t rfl λk _=>rfl
theorem vc8(n:Nat)(get:Nat->List a7):lsL t (n+1) get=hC t get::tC t n get:=by
 unfold lsL hC tC lsL;rw[List.range_succ_eq_map];simp
def vc9:Cod (α×List α) where
 enc x:=eL t (x.1::x.2)
 dec x:=match x with
  |.tree e (n+1) get=>Bool.rec (motive:=λ_=>Option (α×List α)) none (some (hC t get,tC t n get)) (Nat.beq e t.es)
  |_=>none
 grd x:=match x with
  |.tree _ n get=>okL t n get
  |_=>false
 ok x a hx hg:=by
  split at hx
  ·rename_i e n get;cases hb:Nat.beq e t.es with
   |false=>rw[hb] at hx;cases hx
   |true =>
    rw[hb] at hx;have hx:some (hC t get,tC t n get)=some a:=hx;injection hx with hx;subst hx
    have:=Qae hb
    subst this;show ALe _ (eL t (hC t get::tC t n get));rw[<- vc8];exact Nc1 t hg
  ·cases hx
def ha1:Cod α where
 enc x:=.agg (t.row x)
 dec x:=match x with
  |.agg cs=>Bool.rec (motive:=λ_=>Option α) none (some (t.rd cs)) (t.ok cs)
  |_=>none
 grd _:=true
 ok x a hx _:=by
  split at hx
  ·rename_i cs;cases hb:t.ok cs with
   |false=>rw[hb] at hx;cases hx
   |true =>
    rw[hb] at hx;have hx:some (t.rd cs)=some a:=hx;injection hx with hx;subst hx;have h3:=t.h3 cs hb;intro ρ H F w v hv;obtain⟨vs,rfl,hl,hr⟩:=Z7 hv;refine .val (.agg _ _ (by rw[<- h3.length];exact hl) λi y v' hy hv'=>?_)
    obtain⟨x,hx,hle⟩:=h3.get i y hy;exact hle.c _ _ _ _ _ (hr i x v' hx hv')
  ·cases hx
end
def tLs{α:Type}(t:Ty α):Ty (List α) where
 es:=1
 row l:=[eL t l]
 rd r:=rL t (hdA r)
 ok r:=match r with
  |[.tree e n get]=>Bool.and (Nat.beq e t.es) (okL t n get)
  |[.v (.slice none 0 0)]=>true
  |_=>false
 cks:=[.sl t.es]
 d:=[]
 h0 _:=rfl
 h1 l:=v7 t l
 h2 l:=by
  show Bool.and (Nat.beq t.es t.es) (okL t l.length λk=>t.row (gL t l k))=true
  rw[Nat.beq_refl,Bool.true_and];exact Ra8 t (f:=λk=>gL t l k) λ_ _=>rfl
 h3 r h:=by
  split at h
  ·rename_i e n get;rw[Qbd] at h
   have:=Qae h.1
   subst this;exact .cons (treeLe t h.2) .nil
  ·exact .cons (CLe.nilTree _ _) .nil
  ·cases h
 h4 l:=by
  show Bool.and (Nat.beq t.es t.es) true=true;rw[Nat.beq_refl];rfl
 h5 _:=rfl
def tI:Ty Int where
 es:=1
 row n:=[i n]
 rd r:=toI (hdA r)
 ok r:=match r with
  |[.v (.int .i64 _)]=>true
  |_=>false
 cks:=[.int .i64]
 d:=0
 h0 _:=rfl
 h1 _:=rfl
 h2 _:=rfl
 h3 r h:=by
  split at h
  ·exact .refl _
  ·cases h
 h4 _:=rfl
 h5 _:=rfl
def qa6(n:Nat)(l:List a7):Bool:=Nat.rec (motive:=λ_=>List a7->Bool)
 (λl=>List.rec (motive:=λ_=>Bool) true (λ_ _ _=>false) l)
 (λ_ ih l=>List.rec (motive:=λ_=>Bool) false (λx r _=>Bool.and (gb3 (.int .i64) x) (ih r)) l) n l
def fd2(n:Nat)(l:List a7):List a7:=Nat.rec (motive:=λ_=>List a7->List a7) (λ_=>[]) (λ_ ih l=>i (toI (hdA l))::ih (tlA l)) n l
theorem qa7:∀{n:Nat} {l:List a7},qa6 n l=true->l=fd2 n l
 |0,[],_=>rfl
 |0,x::r,h=>by cases h
 |n+1,[],h=>by cases h
 |n+1,x::r,h=>by
  have h:Bool.and (gb3 (.int .i64) x) (qa6 n r)=true:=h;rw[Qbd] at h;show x::r=i (toI x)::fd2 n r;rw[<- qa7 h.2];have h1:=h.1;cases x with
  |v y=>cases y with
   |int k m =>
    have h1:decide (IntKind.i64=k)=true:=h1;rw[<- of_decide_eq_true h1];rfl
   |_=>cases h1
  |_=>cases h1
inductive Dis (H:List a8):List a8->Prop
 |refl:Dis H H
 |step {H'} (id:Nat) (h:Dis H H'):Dis H (disown H' id)
theorem qb7(H:List a8)(id j g:Nat):blkAt (disown H id) j g=(blkAt H j g).map λb=>if j=id then { b with own:=false } else b:=by
 unfold blkAt disown modAt;cases hb:nth H id with
 |none =>
  grind
 |some c =>
  simp only[n9,o3];by_cases h:j=id
  ·subst h;have hb':H[j]?=some c:=by rw[<- n9];exact hb
   grind
  grind
structure R1(ρ:Type) where
 enc:ρ->a7
 rd:List a8->a7->Option ρ
 d:ρ
 le:∀H x r,rd H x=some r->∃z H',Z8 H x=some (z,H')/\Dis H H'/\∀ρ' H2 F w v,L1 ρ' H2 F w z v->L1 ρ' H2 F w (enc r) v
 dis:∀H id x,rd (disown H id) x=rd H x
theorem R1.diss{ρ:Type}(R:R1 ρ){H H':List a8}(h:Dis H H')(x:a7):R.rd H' x=R.rd H x:=by
 induction h with
 |refl=>rfl
 |step id h ih=>rw[R.dis,ih]
theorem CLe.v{x y:a7}(h:CLe x y)(hx:∀(ρ:Rho) H F w v,L1 ρ H F w x v->E0 ρ H F w x v):∀ρ' H2 F w v,L1 ρ' H2 F w x v->L1 ρ' H2 F w y v:=λ_ _ _ _ _ hv=>.cell (h.c _ _ _ _ _ (hx _ _ _ _ _ hv))
def r1K(k:IntKind):R1 Int where
 enc n:=.v (.int k n)
 rd _ x:=match x with
  |.v (.int k' n)=>Bool.rec (motive:=λ_=>Option Int) none (some n) (decide (k=k'))
  |_=>none
 d:=0
 le H x r h:=by
  split at h
  ·rename_i k' n;cases hb:decide (k=k') with
   |false=>rw[hb] at h;cases h
   |true =>
    rw[hb] at h;have h:some n=some r:=h;injection h with h;subst h
    have:=of_decide_eq_true hb
    subst this;exact⟨_,H,rfl,.refl,λ_ _ _ _ _ h=>h⟩
  ·cases h
 dis _ _ _:=rfl
def r1I:R1 Int:=r1K .i64
def r1B:R1 Bool where
 enc n:=b n
 rd _ x:=match x with
  |.v (.bool n)=>some n
  |_=>none
 d:=false
 le H x r h:=by
  split at h
  ·injection h with h;subst h;exact⟨_,H,rfl,.refl,λ_ _ _ _ _ h=>h⟩
  ·cases h
 dis _ _ _:=rfl
theorem Rb0(H:List a8):∀(n:Nat) (l:List a7),qa6 n l=true->freezeCells H l=some (l,H)
 |0,[],_=>rfl
 |0,x::r,h=>by cases h
 |n+1,[],h=>by cases h
 |n+1,x::r,h=>by
  have e:=qa7 h;have h:Bool.and (gb3 (.int .i64) x) (qa6 n r)=true:=h;rw[Qbd] at h;have e1:x=i (toI x):=(List.cons.inj e).1;simp only[freezeCells];rw[e1];simp only[freezeCell,Gb5,Rb0 H n r h.2]
section
variable{α:Type}(t:Ty α)
def r1A(n:Nat)(ht:∀r,qa6 n r=true->t.ok r=true):R1 α where
 enc x:=.agg (t.row x)
 rd _ x:=match x with
  |.agg cs=>Bool.rec (motive:=λ_=>Option α) none (some (t.rd cs)) (qa6 n cs)
  |_=>none
 d:=t.d
 le H x r h:=by
  split at h
  ·rename_i cs;cases hb:qa6 n cs with
   |false=>rw[hb] at h;cases h
   |true =>
    rw[hb] at h;have h:some (t.rd cs)=some r:=h;injection h with h;subst h;have h3:=t.h3 cs (ht cs hb);refine⟨.agg cs,H,?_,.refl,λρ' H2 F w v hv=>?_⟩
    ·simp only[Z8,Rb0 H n cs hb]
    ·obtain⟨vs,rfl,hl,hr⟩:=Z7 (.val hv);refine .agg _ _ (by rw[<- h3.length];exact hl) λi y v' hy hv'=>?_
     obtain⟨x,hx,hle⟩:=h3.get i y hy;exact hle.c _ _ _ _ _ (hr i x v' hx hv')
  ·cases h
 dis _ _ _:=rfl
def r1L:R1 (List α) where
 enc l:=eL t l
 rd H x:=match x with
  |.v (.slice none 0 0)=>some []
  |.tree e n get=>Bool.rec (motive:=λ_=>Option (List α)) none (some (lsL t n get)) (Bool.and (Nat.beq e t.es) (okL t n get))
  |.sl id off n g=>match blkAt H id g with
   |some b=>Bool.rec (motive:=λ_=>Option (List α)) none (some (slR t b.elems off n)) (Bool.and (Nat.beq b.es t.es) (okS t b.elems off n))
   |none=>none
  |_=>none
 d:=[]
 le H x r h:=by
  split at h
  ·injection h with h;subst h;exact⟨_,H,rfl,.refl,(CLe.nilTree _ _).v λ_ _ _ _ _ h=>by cases h with | cell h=>exact h⟩
  ·rename_i e n get;cases hb:Bool.and (Nat.beq e t.es) (okL t n get) with
   |false=>rw[hb] at h;cases h
   |true =>
    rw[hb] at h;have h:some (lsL t n get)=some r:=h;injection h with h;subst h;rw[Qbd] at hb
    have:=Qae hb.1
    subst this;exact⟨_,H,rfl,.refl,(treeLe t hb.2).v λ_ _ _ _ _ h=>by cases h with | cell h=>exact h⟩
  ·rename_i id off n g;cases hk:blkAt H id g with
   |none=>simp only[hk] at h;cases h
   |some b =>
    simp only[hk] at h;cases hb:Bool.and (Nat.beq b.es t.es) (okS t b.elems off n) with
    |false=>rw[hb] at h;cases h
    |true =>
     rw[hb] at h;have h:some (slR t b.elems off n)=some r:=h;injection h with h;subst h;rw[Qbd] at hb
     have:=Qae hb.1
     refine⟨Wa6 b off n,disown H id,?_,.step id .refl,?_⟩
     ·simp only[Z8,freezeCell,hk]
     ·unfold Wa6;rw[this];exact (treeLe t hb.2).v λ_ _ _ _ _ h=>by cases h with | cell h=>exact h
  ·cases h
 dis H id x:=by
  cases x with
  |sl id' off n g =>
   simp only[qb7];cases blkAt H id' g with
   |none=>rfl
   |some b =>
    simp only[Option.map]
    split<;>rfl
  |v y=>cases y with
   |slice a n c=>cases a<;>cases n<;>cases c<;>rfl
   |_=>rfl
  |_=>rfl
end
structure RR(ρ:Type) where
 enc:ρ->a7
 rd:a7×List a8->Option ρ
 d:ρ
 le:∀x o r,rd (x,o)=some r->ec0 x o (enc r)
theorem wc0{H:List a8}{l:List a7}{z:a7×List a8}(h:Z8 H (.tup l)=some z):False:=by cases h
theorem wc1{H:List a8}{x z:a7}{H':List a8}(h:Z8 H x=some (z,H')):yb0 H x=some z:=by
 cases x with
 |tup l=>exact (wc0 h).elim
 |_=>simp only[yb0,h]
theorem Sd3{x y:a7}(h:∀ρ' H2 F w v,L1 ρ' H2 F w x v->L1 ρ' H2 F w y v)(hx:∀l,x≠.tup l):ALe x y:=λρ H F w v hv=>by
 cases hv with
 |val hv=>exact .val (h _ _ _ _ _ hv)
 |tup xs=>exact absurd rfl (hx xs)
theorem lc3{H H':List a8}{x z:a7}(h:Z8 H x=some (z,H')):∀l,z≠.tup l:=λl e=>by
 subst e;unfold Z8 at h
 split at h
 ·split at h<;>cases h
 ·unfold freezeCell at h
  split at h
  ·split at h<;>cases h
  ·cases h
  ·split at h<;>cases h
  ·split at h
   ·simp only[Wa6] at h;cases h
   ·cases h
  ·cases h
def one{ρ:Type}(a:R1 ρ):RR ρ where
 enc:=a.enc
 rd r:=a.rd r.2 r.1
 d:=a.d
 le x o r h:=by
  obtain⟨z,H',h1,_,h2⟩:=a.le o x r h;exact⟨z,wc1 h1,Sd3 h2 (lc3 h1)⟩
def two{ρ σ:Type}(a:R1 ρ)(c:R1 σ):RR (ρ×σ) where
 enc r:=.tup [a.enc r.1,c.enc r.2]
 rd r:=match r.1 with
  |.tup [x,y]=>Option.rec (motive:=λ_=>Option (ρ×σ)) none (λu=>Option.rec (motive:=λ_=>Option (ρ×σ)) none (λv=>some (u,v)) (c.rd r.2 y)) (a.rd r.2 x)
  |_=>none
 d:=(a.d,c.d)
 le q o r h:=by
  split at h
  ·rename_i x y e
   simp only at e
   subst e;cases hu:a.rd o x with
   |none=>rw[hu] at h;cases h
   |some u =>
   cases hv:c.rd o y with
   |none=>rw[hu,hv] at h;cases h
   |some v =>
   rw[hu,hv] at h;have h:some (u,v)=some r:=h;injection h with h;subst h;obtain⟨z1,H1,h1,d1,l1⟩:=a.le o x u hu;obtain⟨z2,H2,h2,d2,l2⟩:=c.le H1 y v (by rw[c.diss d1];exact hv)
   refine⟨.tup [z1,z2],by simp only[yb0,Ca8,h1,h2],ALe.tup rfl λk p q hp hq=>?_⟩
   match k,hp,hq with
   |0,hp,hq=>cases hp;cases hq;exact l1
   |1,hp,hq=>cases hp;cases hq;exact l2
  ·cases h
def okO{ρ:Type}(R:RR ρ)(o:Option (a7×List a8)):Bool:=Option.rec (motive:=λ_=>Bool) false (λr=>Option.rec (motive:=λ_=>Bool) false (λ_=>true) (R.rd r)) o
def N4{ρ:Type}(R:RR ρ)(o:Option (a7×List a8)):ρ:=Option.rec (motive:=λ_=>ρ) R.d (λr=>Option.rec (motive:=λ_=>ρ) R.d (λx=>x) (R.rd r)) o
@[reducible] def rdO{ρ:Type}(R:RR ρ)(o:Option (a7×List a8)):DT (a7×List a8):=.guard (okO R o) (.ret (R.enc (N4 R o),[]))
theorem lc4{ρ:Type}{R:RR ρ}{o:Option (a7×List a8)}{y:a7}{out:List a8}(h:(rdO R o).run=some (y,out)):out=[]/\∃x o',o=some (x,o')/\ec0 x o' y:=by
 obtain⟨h1,h2⟩:=DT.run_guard_some h;have h2:some (R.enc (N4 R o),([]:List a8))=some (y,out):=h2;injection h2 with h2;injection h2 with e1 e2;subst e1 e2
 refine⟨rfl,?_⟩;cases o with
 |none=>cases h1
 |some r =>
  obtain⟨x,o'⟩:=r;refine⟨x,o',rfl,?_⟩;cases hr:R.rd (x,o') with
  |none=>simp only[okO,hr] at h1;cases h1
  |some q =>
   simp only[N4,hr];exact R.le x o' q hr
theorem Ha5{α:Type}(o:Option α):(DT.ofOption o).run=o:=by cases o<;>rfl
section
variable{α β γ δ ε ζ:Type}{P:Program}{G:Nat->List Value}{f:FuncId}{R0:Sum}{c:Cod α}{d:Cod β}{e:Cod γ}{c4:Cod δ}{c5:Cod ε}{c6:Cod ζ}{ρ:Type}
theorem lc5(hb:d6 P G f R0)(R:RR ρ){o:α->Option (a7×List a8)}(h:∀a r,o a=some r->(R0 [c.enc a] []).run=some r):d6 P G f (G9 c λa=>rdO R (o a)) :=
 Vc4 (eb7 hb (k:=λa=>DT.ofOption (o a)) λa r hr=>h a r (by rw[Ha5] at hr;exact hr)) λa y out hr=>by
  obtain⟨e,x,o',h1,h2⟩:=lc4 hr;exact⟨e,x,o',by rw[Ha5,h1],h2⟩
theorem Sd4(hb:d6 P G f R0)(R:RR ρ){o:α->β->Option (a7×List a8)}(h:∀a b r,o a b=some r->(R0 [c.enc a,d.enc b] []).run=some r):d6 P G f (pa5 c d λa b=>rdO R (o a b)) :=
 Vc5 (Mc5 hb (k:=λa b=>DT.ofOption (o a b)) λa b r hr=>h a b r (by rw[Ha5] at hr;exact hr)) λa b y out hr=>by
  obtain⟨e,x,o',h1,h2⟩:=lc4 hr;exact⟨e,x,o',by rw[Ha5,h1],h2⟩
theorem we2(hb:d6 P G f R0)(R:RR ρ){o:α->β->γ->Option (a7×List a8)}(h:∀a b g r,o a b g=some r->(R0 [c.enc a,d.enc b,e.enc g] []).run=some r):d6 P G f (Hb3 c d e λa b g=>rdO R (o a b g)) :=
 Vc6 (Mc6 hb (k:=λa b g=>DT.ofOption (o a b g)) λa b g r hr=>h a b g r (by rw[Ha5] at hr;exact hr)) λa b g y out hr=>by
  obtain⟨e,x,o',h1,h2⟩:=lc4 hr;exact⟨e,x,o',by rw[Ha5,h1],h2⟩
theorem Sd5(hb:d6 P G f R0)(R:RR ρ){o:α->β->γ->δ->Option (a7×List a8)}(h:∀a b g j r,o a b g j=some r->(R0 [c.enc a,d.enc b,e.enc g,c4.enc j] []).run=some r):d6 P G f (Qb6 c d e c4 λa b g j=>rdO R (o a b g j)) :=
 (xd5 hb (k:=λa b g j=>DT.ofOption (o a b g j)) λa b g j r hr=>h a b g j r (by rw[Ha5] at hr;exact hr)).conv λargs blks y out hr=>by
  unfold Qb6 at hr
  split at hr
  ·obtain⟨a,h1,hr⟩:=u9 hr;obtain⟨b,h2,hr⟩:=u9 hr;obtain⟨g,h3,hr⟩:=u9 hr;obtain⟨j,h4,hr⟩:=u9 hr;obtain⟨g1,hr⟩:=DT.run_guard_some hr;obtain⟨g2,hr⟩:=DT.run_guard_some hr;obtain⟨g3,hr⟩:=DT.run_guard_some hr;obtain⟨g4,hr⟩:=DT.run_guard_some hr;obtain⟨e1,x,o',e2,e3⟩:=lc4 hr;refine⟨rfl,e1,x,o',?_,e3⟩;simp only[Qb6,h1,h2,h3,h4,onO,g1,g2,g3,g4];show (DT.ofOption (o a b g j)).run=_;rw[Ha5,e2]
  ·cases hr
end
inductive Kc where
 |o (k:Sk)
 |c (es:Nat) (f:a7->a7)
def Sd6:Kc->a7->Bool
 |.o k,x=>xd6 k x
 |.c es _,.tree es' _ _=>Nat.beq es es'
 |.c _ _,_=>false
def Sd7:Kc->a7->a7
 |.o k,x=>Sd0 k x
 |.c _ f,x=>f x
def Sd8(k:Kc)(x:a7)(z:Bool):Bool:=match k with
 |.o _=>z
 |.c _ f=>Bool.and (ed9 f x) z
theorem xd8{k:Kc}{x:a7}{z:Bool}(h:Sd6 k x=true)(hc:Sd8 k x z=true):x=Sd7 k x/\z=true:=by
 cases k with
 |o k=>exact⟨Mc7 h,hc⟩
 |c es f =>
  have hc:Bool.and (ed9 f x) z=true:=hc;rw[Qbd] at hc;exact⟨Jd4 hc.1,hc.2⟩
def fd3(ks:List Kc):List a7->Bool :=
 List.rec (motive:=λ_=>List a7->Bool) (λl=>List.rec (motive:=λ_=>Bool) true (λ_ _ _=>false) l)
  (λk _ ih l=>List.rec (motive:=λ_=>Bool) false (λx r _=>Bool.and (Sd6 k x) (ih r)) l) ks
def Nc4(ks:List Kc):List a7->List a7 :=
 List.rec (motive:=λ_=>List a7->List a7) (λ_=>[]) (λk _ ih l=>Sd7 k (hdA l)::ih (tlA l)) ks
def fd4(z:Bool)(ks:List Kc):List a7->Bool :=
 List.rec (motive:=λ_=>List a7->Bool) (λ_=>z) (λk _ ih l=>Sd8 k (hdA l) (ih (tlA l))) ks
theorem wc2{z:Bool}:∀{ks:List Kc} {l:List a7},fd3 ks l=true->fd4 z ks l=true->l=Nc4 ks l/\z=true
 |[],[],_,hc=>⟨rfl,hc⟩
 |[],x::r,h,_=>by cases h
 |k::ks,[],h,_=>by cases h
 |k::ks,x::r,h,hc=>by
  have h:Bool.and (Sd6 k x) (fd3 ks r)=true:=h;rw[Qbd] at h;have hc:Sd8 k x (fd4 z ks r)=true:=hc;obtain⟨e1,h2⟩:=xd8 h.1 hc;obtain⟨e2,h3⟩:=wc2 h.2 h2;refine⟨?_,h3⟩;show x::r=Sd7 k x::Nc4 ks r;rw[<- e1,<- e2]
inductive K where
 |o (k:Sk)
 |c (es:Nat) (f:a7->a7)
 |fn (f:Nat) (l:List Kc)
def isK:K->a7->Bool
 |.o k,x=>xd6 k x
 |.c es _,.tree es' _ _=>Nat.beq es es'
 |.fn f l,.fn f' r=>Bool.and (Nat.beq f f') (fd3 l r)
 |.c _ _,_=>false
 |.fn _ _,_=>false
def asK:K->a7->a7
 |.o k,x=>Sd0 k x
 |.c _ f,x=>f x
 |.fn f l,x=>.fn f (Nc4 l (cellsOf x))
def cnK(k:K)(x:a7)(z:Bool):Bool:=match k with
 |.o _=>z
 |.c _ f=>Bool.and (ed9 f x) z
 |.fn _ l=>fd4 z l (cellsOf x)
theorem fd5{k:K}{x:a7}{z:Bool}(h:isK k x=true)(hc:cnK k x z=true):x=asK k x/\z=true:=by
 unfold isK at h
 split at h
 ·exact⟨Mc7 h,hc⟩
 ·have hc:Bool.and (ed9 _ _) z=true:=hc;rw[Qbd] at hc;exact⟨Jd4 hc.1,hc.2⟩
 ·rename_i f l f' r;rw[Qbd] at h;obtain⟨e,hz⟩:=wc2 h.2 hc;refine⟨?_,hz⟩;show a7.fn f' r=.fn f (Nc4 l r);rw[<- e,Qae h.1]
 ·cases h
 ·cases h
def Gc7(ks:List K):List a7->Bool :=
 List.rec (motive:=λ_=>List a7->Bool) (λl=>List.rec (motive:=λ_=>Bool) true (λ_ _ _=>false) l)
  (λk _ ih l=>List.rec (motive:=λ_=>Bool) false (λx r _=>Bool.and (isK k x) (ih r)) l) ks
def wc3(ks:List K):List a7->List a7 :=
 List.rec (motive:=λ_=>List a7->List a7) (λ_=>[]) (λk _ ih l=>asK k (hdA l)::ih (tlA l)) ks
def Gc8(z:Bool)(ks:List K):List a7->Bool :=
 List.rec (motive:=λ_=>List a7->Bool) (λ_=>z) (λk _ ih l=>cnK k (hdA l) (ih (tlA l))) ks
theorem qb8{z:Bool}:∀{ks:List K} {l:List a7},Gc7 ks l=true->Gc8 z ks l=true->l=wc3 ks l/\z=true
 |[],[],_,hc=>⟨rfl,hc⟩
 |[],x::r,h,_=>by cases h
 |k::ks,[],h,_=>by cases h
 |k::ks,x::r,h,hc=>by
  have h:Bool.and (isK k x) (Gc7 ks r)=true:=h;rw[Qbd] at h;have hc:cnK k x (Gc8 z ks r)=true:=hc;obtain⟨e1,h2⟩:=fd5 h.1 hc;obtain⟨e2,h3⟩:=qb8 h.2 h2;refine⟨?_,h3⟩;show x::r=asK k x::wc3 ks r;rw[<- e1,<- e2]
inductive S2 where
 |s (k:K)
 |agg (l:List K)
 |tup (l:List K)
 |fn (f:Nat) (l:List K)
def isS:S2->a7->Bool
 |.s k,x=>isK k x
 |.agg l,.agg r=>Gc7 l r
 |.tup l,.tup r=>Gc7 l r
 |.fn f l,.fn f' r=>Bool.and (Nat.beq f f') (Gc7 l r)
 |_,_=>false
def asS:S2->a7->a7
 |.s k,x=>asK k x
 |.agg l,x=>.agg (wc3 l (cellsOf x))
 |.tup l,x=>.tup (wc3 l (cellsOf x))
 |.fn f l,x=>.fn f (wc3 l (cellsOf x))
def cnS(k:S2)(x:a7)(z:Bool):Bool:=match k with
 |.s k=>cnK k x z
 |.agg l=>Gc8 z l (cellsOf x)
 |.tup l=>Gc8 z l (cellsOf x)
 |.fn _ l=>Gc8 z l (cellsOf x)
theorem Sd9{k:S2}{x:a7}{z:Bool}(h:isS k x=true)(hc:cnS k x z=true):x=asS k x/\z=true:=by
 unfold isS at h
 split at h
 ·exact fd5 h hc
 ·rename_i l r;obtain⟨e,hz⟩:=qb8 h hc;exact⟨congrArg a7.agg e,hz⟩
 ·rename_i l r;obtain⟨e,hz⟩:=qb8 h hc;exact⟨congrArg a7.tup e,hz⟩
 ·rename_i f l f' r;rw[Qbd] at h;obtain⟨e,hz⟩:=qb8 h.2 hc;refine⟨?_,hz⟩;show a7.fn f' r=.fn f (wc3 l r);rw[<- e,Qae h.1]
 ·cases h
def fd6(ks:List S2):List a7->Bool :=
 List.rec (motive:=λ_=>List a7->Bool) (λl=>List.rec (motive:=λ_=>Bool) true (λ_ _ _=>false) l)
  (λk _ ih l=>List.rec (motive:=λ_=>Bool) false (λx r _=>Bool.and (isS k x) (ih r)) l) ks
def Vc7(ks:List S2):List a7->List a7 :=
 List.rec (motive:=λ_=>List a7->List a7) (λ_=>[]) (λk _ ih l=>asS k (hdA l)::ih (tlA l)) ks
def xd9(z:Bool)(ks:List S2):List a7->Bool :=
 List.rec (motive:=λ_=>List a7->Bool) (λ_=>z) (λk _ ih l=>cnS k (hdA l) (ih (tlA l))) ks
theorem Nc5{z:Bool}:∀{ks:List S2} {l:List a7},fd6 ks l=true->xd9 z ks l=true->l=Vc7 ks l/\z=true
 |[],[],_,hc=>⟨rfl,hc⟩
 |[],x::r,h,_=>by cases h
 |k::ks,[],h,_=>by cases h
 |k::ks,x::r,h,hc=>by
  have h:Bool.and (isS k x) (fd6 ks r)=true:=h;rw[Qbd] at h;have hc:cnS k x (xd9 z ks r)=true:=hc;obtain⟨e1,h2⟩:=Sd9 h.1 hc;obtain⟨e2,h3⟩:=Nc5 h.2 h2;refine⟨?_,h3⟩;show x::r=asS k x::Vc7 ks r;rw[<- e1,<- e2]
def Td0(ks:List (List K)):List (List a7)->Bool :=
 List.rec (motive:=λ_=>List (List a7)->Bool) (λl=>List.rec (motive:=λ_=>Bool) true (λ_ _ _=>false) l)
  (λk _ ih l=>List.rec (motive:=λ_=>Bool) false (λx r _=>Bool.and (Gc7 k x) (ih r)) l) ks
def Td1(ks:List (List K)):List (List a7)->List (List a7) :=
 List.rec (motive:=λ_=>List (List a7)->List (List a7)) (λ_=>[]) (λk _ ih l=>wc3 k (hdR l)::ih (tlR l)) ks
def Td2(z:Bool)(ks:List (List K)):List (List a7)->Bool :=
 List.rec (motive:=λ_=>List (List a7)->Bool) (λ_=>z) (λk _ ih l=>Gc8 (ih (tlR l)) k (hdR l)) ks
theorem Nc6{z:Bool}:∀{ks:List (List K)} {l:List (List a7)},Td0 ks l=true->Td2 z ks l=true->l=Td1 ks l/\z=true
 |[],[],_,hc=>⟨rfl,hc⟩
 |[],x::r,h,_=>by cases h
 |k::ks,[],h,_=>by cases h
 |k::ks,x::r,h,hc=>by
  have h:Bool.and (Gc7 k x) (Td0 ks r)=true:=h;rw[Qbd] at h;have hc:Gc8 (Td2 z ks r) k x=true:=hc;obtain⟨e1,h2⟩:=qb8 h.1 hc;obtain⟨e2,h3⟩:=Nc6 h.2 h2;refine⟨?_,h3⟩;show x::r=wc3 k x::Td1 ks r;rw[<- e1,<- e2]
def ru2(n:Nat)(l:List S2):List S2:=Nat.rec (motive:=λ_=>List S2) l (λ_ ih=>.s (.o .unk)::ih) n
structure B2 where
 et:Nat
 es:Nat
 own:Bool
 rows:Option (List (List K))
@[reducible] def isE(o:Option (List (List K)))(l:List (List a7)):Bool:=Option.rec (motive:=λ_=>Bool) true (λks=>Td0 ks l) o
@[reducible] def asE(o:Option (List (List K)))(l:List (List a7)):List (List a7):=Option.rec (motive:=λ_=>List (List a7)) l (λks=>Td1 ks l) o
@[reducible] def cnO(o:Option (List (List K)))(l:List (List a7))(z:Bool):Bool:=Option.rec (motive:=λ_=>Bool) z (λks=>Td2 z ks l) o
def isB(k:B2)(x:a8):Bool :=
 Bool.and (Bool.and (Nat.beq k.et x.et) (Nat.beq k.es x.es)) (Bool.and (eqB k.own x.own) (Bool.and (!x.dead) (Bool.and (Nat.beq x.g 0) (isE k.rows x.elems))))
theorem Td3{k:B2}{x:a8}{z:Bool}(h:isB k x=true)(hc:cnO k.rows x.elems z=true):x=⟨k.et,k.es,asE k.rows x.elems,k.own,false,0⟩/\z=true:=by
 unfold isB at h;simp only[Qbd] at h;obtain⟨⟨h1,h2⟩,h3,h4,h5,h6⟩:=h;have h1:=Qae h1;have h2:=Qae h2;have h5:=Qae h5;have h4:x.dead=false:=by simpa using h4
 obtain⟨et,es,el,ow,de,g⟩:=x;obtain⟨et',es',ow',rows⟩:=k
 simp only at *
 subst h1 h2 h4 h5;have h3:ow'=ow:=by cases ow'<;>cases ow<;>first | rfl | cases h3
 subst h3;cases rows with
 |none=>exact⟨rfl,hc⟩
 |some ks =>
  obtain⟨e,hz⟩:=Nc6 h6 hc
  grind
def fd7(ks:List B2):List a8->Bool :=
 List.rec (motive:=λ_=>List a8->Bool) (λl=>List.rec (motive:=λ_=>Bool) true (λ_ _ _=>false) l)
  (λk _ ih l=>List.rec (motive:=λ_=>Bool) false (λx r _=>Bool.and (isB k x) (ih r)) l) ks
def Vc8(ks:List B2):List a8->List a8 :=
 List.rec (motive:=λ_=>List a8->List a8) (λ_=>[]) (λk _ ih l=>⟨k.et,k.es,asE k.rows (hdB l),k.own,false,0⟩::ih (tlB l)) ks
def yd0(z:Bool)(ks:List B2):List a8->Bool :=
 List.rec (motive:=λ_=>List a8->Bool) (λ_=>z) (λk _ ih l=>cnO k.rows (hdB l) (ih (tlB l))) ks
theorem Nc7{z:Bool}:∀{ks:List B2} {l:List a8},fd7 ks l=true->yd0 z ks l=true->l=Vc8 ks l/\z=true
 |[],[],_,hc=>⟨rfl,hc⟩
 |[],x::r,h,_=>by cases h
 |k::ks,[],h,_=>by cases h
 |k::ks,x::r,h,hc=>by
  have h:Bool.and (isB k x) (fd7 ks r)=true:=h;rw[Qbd] at h;have hc:cnO k.rows x.elems (yd0 z ks r)=true:=hc;obtain⟨e1,h2⟩:=Td3 h.1 hc;obtain⟨e2,h3⟩:=Nc7 h.2 h2;refine⟨?_,h3⟩;show x::r=⟨k.et,k.es,asE k.rows x.elems,k.own,false,0⟩::Vc8 ks r;rw[<- e1,<- e2]
structure Al2(π σ:Type) where
 sh:List S2
 bl:List B2
 rd:List a7->List a8->π×σ
def yd1{π σ:Type}(l:List (Al2 π σ))(t:St):DT (π×σ) :=
 List.rec (motive:=λ_=>DT (π×σ)) .fail
  (λx _ ih=>Bool.rec (motive:=λ_=>DT (π×σ)) ih (.guard (xd9 (yd0 true x.bl t.H) x.sh t.a) (.ret (x.rd t.a t.H))) (Bool.and (fd6 x.sh t.a) (fd7 x.bl t.H))) l
theorem lc6{π σ:Type}{enc:π->σ->St}{t:St}{q:π×σ}:∀{l:List (Al2 π σ)},(∀x,x∈l->∀a H,(⟨Vc7 x.sh a,Vc8 x.bl H⟩:St)=enc (x.rd a H).1 (x.rd a H).2) ->
  (yd1 l t).run=some q->t=enc q.1 q.2
 |[],_,h=>by cases h
 |x::l,hl,h=>by
  have h:(Bool.rec (motive:=λ_=>DT (π×σ)) (yd1 l t) (.guard (xd9 (yd0 true x.bl t.H) x.sh t.a) (.ret (x.rd t.a t.H))) (Bool.and (fd6 x.sh t.a) (fd7 x.bl t.H))).run=some q:=h
  cases hb:Bool.and (fd6 x.sh t.a) (fd7 x.bl t.H) with
  |false=>rw[hb] at h;exact lc6 (λy hy=>hl y (.tail _ hy)) h
  |true =>
   rw[hb] at h;obtain⟨h1,h2⟩:=DT.run_guard_some h;cases h2;rw[Qbd] at hb;obtain⟨e1,h3⟩:=Nc5 hb.1 h1;obtain⟨e2,_⟩:=Nc7 hb.2 h3;rw[<- hl x (.head _) t.a t.H,<- e1,<- e2]
def Sa0{π:Type}(x:Al2 π Unit)(k:π->DT (a7×List a8)):Sum:=λargs blks=>(yd1 [x] ⟨args,blks⟩).bind λq=>k q.1
theorem R4{P:Program}{G:Nat->List Value}{f:FuncId}{R:Sum}{π:Type}{x:Al2 π Unit}{enc:π->St}{k:π->DT (a7×List a8)}
  (hx:∀a H,(⟨Vc7 x.sh a,Vc8 x.bl H⟩:St)=enc (x.rd a H).1) (hb:d6 P G f R)
  (h:∀p r,(k p).run=some r->(R (enc p).a (enc p).H).run=some r):d6 P G f (Sa0 x k):=hb.le λargs blks r hr=>by
 obtain⟨q,h1,h2⟩:=DT.run_bind_some hr;have e:=lc6 (enc:=λp _=>enc p) (X4.mem (.cons hx .nil)) h1
 grind
@[reducible] def slT(l:List a7)(n:Nat):a7:=hdA (Nat.rec (motive:=λ_=>List a7->List a7) (λl=>l) (λ_ ih l=>ih (tlA l)) n l)
@[reducible] def rwT(l:List (List a7))(n:Nat):List a7:=hdR (Nat.rec (motive:=λ_=>List (List a7)->List (List a7)) (λl=>l) (λ_ ih l=>ih (tlR l)) n l)
@[reducible] def elT(l:List a8)(n:Nat):List (List a7):=hdB (Nat.rec (motive:=λ_=>List a8->List a8) (λl=>l) (λ_ ih l=>ih (tlB l)) n l)
@[reducible] def xit(o:Option Nat):c9:=Option.rec (motive:=λ_=>c9) .ret (λid=>.exit id) o
theorem Td4(o:Option Nat):xit o≠.normal:=by cases o<;>exact λh=>by cases h
abbrev Xs(π σ:Type):=List (Option Nat×(π->σ->St))
def xOf{π σ:Type}(xs:Xs π σ)(p:π)(s:σ)(t:Nat):Nat->Option (c9×St) :=
 List.rec (motive:=λ_=>Nat->Option (c9×St)) (λ_=>none) (λx _ ih k=>sel (Nat.beq t k) (some (xit x.1,x.2 p s)) (ih (k+1))) xs
def Td5{π σ:Type}(xs:Xs π σ)(p:π)(r:Nat×σ):Nat->DT (c9×St) :=
 List.rec (motive:=λ_=>Nat->DT (c9×St)) (λ_=>.fail) (λx _ ih k=>.ite (Nat.beq r.1 k) (.ret (xit x.1,x.2 p r.2)) (ih (k+1))) xs
theorem wc4{π σ:Type}(p:π)(r:Nat×σ):∀(xs:Xs π σ) (k:Nat),(Td5 xs p r k).run=xOf xs p r.2 r.1 k
 |[],k=>rfl
 |x::xs,k=>by
  show (DT.ite (Nat.beq r.1 k) (.ret (xit x.1,x.2 p r.2)) (Td5 xs p r (k+1))).run=sel (Nat.beq r.1 k) (some (xit x.1,x.2 p r.2)) (xOf xs p r.2 r.1 (k+1));rw[DT.run_ite,wc4 p r xs (k+1)];cases Nat.beq r.1 k<;>rfl
theorem Rb1{π σ:Type}(p:π)(s:σ):∀(xs:Xs π σ) (k:Nat),xOf xs p s 0 (k+1)=none
 |[],_=>rfl
 |_::xs,k=>Rb1 p s xs (k+1)
theorem Nc8{π σ:Type}{p:π}{s:σ}{t:Nat}{e:c9×St}:∀{xs:Xs π σ} {k:Nat},xOf xs p s t k=some e->e.1≠.normal
 |[],_,h=>by cases h
 |x::xs,k,h=>by
  have h:sel (Nat.beq t k) (some (xit x.1,x.2 p s)) (xOf xs p s t (k+1))=some e:=h;cases hb:Nat.beq t k with
  |true=>rw[hb] at h;cases h;exact Td4 _
  |false=>rw[hb] at h;exact Nc8 h
theorem wc5{π σ:Type}{head:St->DT St}{body:St->DT (c9×St)}{enc:σ->St}{step:σ->Stp σ}{xs:Xs π σ}{p:π}
  (h:∀s,(Ha4 head body (enc s)).run=Ya9 (λs'=>some (.normal,enc s')) (λt=>xOf xs p s t 1) none (step s)) :
  ∀(n:Nat) (s:σ) (e:c9×St),xOf xs p (lp0 step n s).2 (lp0 step n s).1 1=some e->(mb6 head body n (enc s)).run=some e
 |n,s,e,he=>by
  have hr:=h s;cases hs:step s with
  |fail =>
   have h0:lp0 step n s=(0,s):=by
    cases n with
    |zero=>show Ya9 _ _ _ (step s)=_;rw[hs]
    |succ n=>show Ya9 _ _ _ (step s)=_;rw[hs]
   rw[h0] at he;rw[show xOf xs p s 0 1=none from Rb1 p s xs 0] at he
   cases he
  |exit t =>
   rw[vc5 hs] at he;rw[hs] at hr;have hr:(Ha4 head body (enc s)).run=xOf xs p s t 1:=hr;have he:xOf xs p s t 1=some e:=he;rw[he] at hr;obtain⟨x,t'⟩:=e;exact xd0 hr (Nc8 he)
  |next s' =>
   cases n with
   |zero =>
    have h0:lp0 step 0 s=(0,s):=by show Ya9 _ _ _ (step s)=_;rw[hs]
    rw[h0] at he;rw[show xOf xs p s 0 1=none from Rb1 p s xs 0] at he
    cases he
   |succ n =>
    rw[vc4 hs] at he;rw[hs] at hr;exact wd9 hr (wc5 h n s' e he)
section
variable{π σ:Type}
def ec1(head:Nat->List Nat->St->DT St)(k:Nat)(keep:List Nat)(alts:List (Al2 π σ))(step:π->σ->Stp σ)(xs:Xs π σ)(s:St):DT (c9×St) :=
 (head k keep s).bind λt=>(yd1 alts t).bind λq=>Td5 xs q.1 (lp (step q.1) q.2) 1
structure Za4(head:Nat->List Nat->St->DT St)(k:Nat)(keep:List Nat)(body:St->DT (c9×St))(alts:List (Al2 π σ))(step:π->σ->Stp σ)(xs:Xs π σ)(enc:π->σ->St):Prop where
 ha:X4 (λx=>∀a H,(⟨Vc7 x.sh a,Vc8 x.bl H⟩:St)=enc (x.rd a H).1 (x.rd a H).2) alts
 h:∀p s,(Ha4 (head k keep) body (enc p s)).run=Ya9 (λs'=>some (.normal,enc p s')) (λt=>xOf xs p s t 1) none (step p s)
variable{E:Env}{k:Nat}{res:List xb0}{keep:List Nat}{alts:List (Al2 π σ)}{enc:π->σ->St}{step:π->σ->Stp σ}{xs:Xs π σ}{body:PS}{c:PC}{head:Nat->List Nat->St->DT St}{bd:St->DT (c9×St)}
theorem Za4.go(w:Za4 head k keep bd alts step xs enc){s:St}{r:c9×St}(hr:(ec1 head k keep alts step xs s).run=some r):∃t,(head k keep s).run=some t/\(mb6 (head k keep) bd rounds t).run=some r:=by
 obtain⟨t,h1,h2⟩:=DT.run_bind_some hr;obtain⟨q,h3,h4⟩:=DT.run_bind_some h2;rw[wc4,Jd2] at h4;have e:=lc6 w.ha.mem h3;refine⟨t,h1,?_⟩;rw[e];exact wc5 (w.h q.1) rounds q.2 r h4
theorem Za4.belowC(hb:R3 E k res body c)(hN:E.N=rounds+1)(w:Za4 Ya8 k keep (Mc8 E k res body) alts step xs enc)(s:St):I6 k res (ec1 Ya8 k keep alts step xs s) (q8 E k (.loop keep c) s):=λr hr=>by
 obtain⟨t,h1,h2⟩:=w.go hr;rw[dc9,hN];exact Za0 hb.le _ _ r (eb6 h1 h2)
end
inductive RT where
 |p
 |s (a c:RT)
 |c (x y:RT)
 |b (c:RT)
 |l (c:RT)
 |i (c:RT)
 |u (S:St->DT (c9×St))
def Rb2:RT->PC->PS
 |.s a b,.seq x y=>.seq (Rb2 a x) (Rb2 b y)
 |.c a b,.cond g x y=>.cond g (Rb2 a x) (Rb2 b y)
 |.b a,.block id x=>.block id (Rb2 a x)
 |.l a,.loop keep x=>.loop keep (Rb2 a x)
 |.u S,_=>.sum S
 |_,c=>.pc c
def Na4:RT->PC->List ((St->DT (c9×St))×PC)
 |.s a b,.seq x y=>app (Na4 a x) (Na4 b y)
 |.c a b,.cond _ x y=>app (Na4 a x) (Na4 b y)
 |.b a,.block _ x=>Na4 a x
 |.l a,.loop _ x=>Na4 a x
 |.i a,.inner _ _ _ x=>Na4 a x
 |.u S,c=>[(S,c)]
 |_,_=>[]
theorem X4.app{α:Type}{Q:α->Prop}:∀{l r:List α},X4 Q (Go.Ev.app l r)->X4 Q l/\X4 Q r
 |[],_,h=>⟨.nil,h⟩
 |_::l,_,.cons h t=>⟨.cons h (X4.app t).1,(X4.app t).2⟩
theorem Nc9{E:Env}{k:Nat}{res:List xb0}(rt:RT)(c:PC):X4 (λx=>∀s,I6 k res (x.1 s) (q8 E k x.2 s)) (Na4 rt c)->R3 E k res (Rb2 rt c) c:=by
 induction rt generalizing c with
 |p=>intro h;cases c<;>exact .pc _
 |s a b iha ihb =>
  intro h;cases c with
  |seq x y=>exact .seq (iha x (X4.app h).1) (ihb y (X4.app h).2)
  |_=>exact .pc _
 |c a b iha ihb =>
  intro h;cases c with
  |cond g x y=>exact .cond g (iha x (X4.app h).1) (ihb y (X4.app h).2)
  |_=>exact .pc _
 |b a iha =>
  intro h;cases c with
  |block id x=>exact .block id (iha x h)
  |_=>exact .pc _
 |l a iha =>
  intro h;cases c with
  |loop keep x=>exact .loop keep (iha x h)
  |_=>exact .pc _
 |i a iha=>intro h;cases c<;>exact .pc _
 |u S =>
  intro h
  have:Na4 (.u S) c=[(S,c)]:=by cases c<;>rfl
  rw[this] at h;cases h with
  |cons h t =>
   have e:Rb2 (.u S) c=.sum S:=by cases c<;>rfl
   rw[e];exact .sum h
def we3(l:List Nat)(c:PC):PC :=
 List.rec (motive:=λ_=>PC->PC) (λc=>c) (λn _ ih c=>match c with
  |.seq x y=>ih (match n with | 0=>x | _=>y)
  |.cond _ x y=>ih (match n with | 2=>x | _=>y)
  |.block _ x=>ih x
  |.loop _ x=>ih x
  |.loopM _ x=>ih x
  |.inner _ _ _ x=>ih x
  |c=>c) l c
end Go.Ev.L
namespace Go.Ev.L
open Go Go.Ev Go.Sort Go.Proofs
section
variable{α:Type}[Inhabited α]{P:Program}{G:Nat->List Value}{g:FuncId}{S:Sum}{t:Ty α}{enc:α->List Value}{cf:α->α->Int}
theorem Oc0(hc:d6 P G g S)(hS:∀x y,(S [.agg (t.row x),.agg (t.row y)] []).run=some (i (cf x y),[]))(hG:∀n,G n=[])(he:∀x,t.row x=(enc x).map .v)(k blk off size:Nat)(w:World) :
  CmpLays P g #[] enc k cf blk off size w:=by
 intro m os dk _ x y;generalize sortWorldK enc k w blk off m dk os=w0;have hrow:∀(z:α),L1 (λ_=>⟨0,0,0⟩) [] (λ_ _=>False) w0 (.agg (t.row z)) (.agg (enc z).toArray):=λz=>by
  refine .agg _ _ (by rw[he];simp) λi u u' hu hu'=>?_
  rw[he,Qbm] at hu;have hu':(enc z)[i]?=some u':=by simpa using hu'
  rw[hu'] at hu;injection hu with hu;subst hu;exact .v _
 obtain⟨_,h⟩:=hc _ _ _ _ (hS x y) (λk=>w0.heap.size<=k) (λ_=>⟨0,0,0⟩) (λ_ _=>False) w0 [.agg (enc x).toArray,.agg (enc y).toArray]
  ⟨λid b hb=>by simp at hb,λid id' b b' hb=>by simp at hb,λb o hf=>hf.elim,λk hk=>hk⟩ rfl
  (λi u u' hu hu'=>by
   match i,hu,hu' with
   |0,hu,hu'=>cases hu;cases hu';exact .val (hrow x)
   |1,hu,hu'=>cases hu;cases hu';exact .val (hrow y))
  (λn c v hv=>by rw[hG] at hv;simp at hv)
 refine h.mono λe w' ⟨r',h1,ρ',F',h2,h3,h4⟩=>?_
 have h5:=F9 h4;subst h5;refine⟨h1,w'.drawn-w0.drawn,w'.heap.extract w0.heap.size w'.heap.size,?_⟩;have hd:=h2.ext.drawn;have hs:=h2.ext.size;have hheap:w'.heap=w0.heap++w'.heap.extract w0.heap.size w'.heap.size:=by
  apply Array.ext_getElem?;intro j
  rcases Qan j w0.heap.size with hj|hj
  ·rw[Qdc hj,h2.ext.block j hj (by omega)]
  grind
 obtain⟨hp,tp,dr,os',out⟩:=w';have e1:=h2.ext.os;have e2:=h2.ext.tape;have e3:=h2.ext.output
 simp only at e1 e2 e3 hd hheap
 subst e1 e2 e3;unfold grow World.drewN
 simp only
 congr 1;omega
def Oc1(t:Ty α)(g:Nat)(et:Nat)(srt:List α->List α):Sum:=λargs blks=>match args,blks with
 |[.sl 0 0 n 0,.fn g' []],[⟨et',es',el,true,false,0⟩] =>
  Bool.rec (motive:=λ_=>DT (a7×List a8)) .fail (.guard (Bool.and (Nat.ble n room) (Bool.and (Nat.ble n (len el)) (okS t el 0 n))) (.ret (.v (.tuple #[]),[⟨et',es',app (bL t (srt (slR t el 0 n))) (i5 el n),true,false,0⟩])))
   (Bool.and (Nat.beq g' g) (Bool.and (Nat.beq et' et) (Nat.beq es' t.es)))
 |_,_=>.fail
theorem qb9(l:List α)(j:Nat)(h:j<l.length):l.toArray[j]! = l[j]:=by
 simp_all
theorem Oc2{f:FuncId}{et:Nat}{srt:List α->List α}(hcall:Ca4 P f)(hes:0<t.es)(he:∀x,t.row x=(enc x).map .v)(hx:∀r,t.ok r=true->r=t.row (t.rd r))(h1:∀x,∀v∈enc x,v.oneCell'=true)
  (hlen:∀l,(srt l).length=l.length) (hcl:∀blk off size w,CmpLays P g #[] enc t.es cf blk off size w)
  (hcon:∀(blk cap:Nat) (d:Array α) (w:World),(∀off size,CmpLays P g #[] enc t.es cf blk off size w)->HoldsK enc t.es w blk 0 d->blk<w.heap.size->d.size<4611686018427387904 ->
   Calls P f #[.slice (some ⟨blk,0,none⟩) d.size cap,.func (.func g) #[] #[]] w λe w'=>e=.returned (.tuple #[])/\∃n os,w'=sortWorldK enc t.es w blk 0 n (srt d.toList).toArray os) :
  d6 P G f (Oc1 t g et srt):=by
 intro args blks r out hr W ρ F w args' hH hl hargs hG;refine⟨hcall,?_⟩;unfold Oc1 at hr
 split at hr
 case h_2=>cases hr
 rename_i n g' et' es' el;cases hb0:Bool.and (Nat.beq g' g) (Bool.and (Nat.beq et' et) (Nat.beq es' t.es)) with
 |false=>rw[hb0] at hr;cases hr
 |true =>
 rw[hb0] at hr;rw[Qbd,Qbd] at hb0;have q1:=Qae hb0.1;have q2:=Qae hb0.2.1;have q3:=Qae hb0.2.2;subst q1 q2 q3;obtain⟨hg0,hr⟩:=DT.run_guard_some hr;rw[Qbd,Qbd] at hg0;have hroom:n<=room:=Qbb hg0.1;have hn:=Qbb hg0.2.1;rw[i9] at hn;have hok:=hg0.2.2;injection hr with hr;injection hr with p1 p2;subst p1 p2
 match args',hl with
 |[v0,v1],_ =>
 obtain⟨a,cap,b,rfl,hb,hd,_,hncap,hspot,hcap,hq⟩:=ka6 (hargs 0 _ _ rfl rfl);obtain⟨vs1,rfl,hvs1,_⟩:=Ka0 (hargs 1 _ _ rfl rfl);have hvs1:vs1=#[]:=Array.eq_empty_of_size_eq_zero (by simpa using hvs1.symm)
 subst hvs1;rw[Ba3] at *
 have hb:b=⟨et',t.es,el,true,false,0⟩:=by simpa using hb.symm
 subst hb;obtain⟨ha,hsz,hne⟩:=hq rfl;have ha:a=⟨(ρ 0).blk,(ρ 0).off+0*t.es,none⟩:=ha.resolve_left λh=>by omega
 obtain⟨cc,tt,fr,hB⟩:=hH.blk 0 _ rfl rfl;obtain⟨hfr,hW,hoff,hsize,hnF,het⟩:=hB.own rfl;subst hfr;rw[hoff,Nat.zero_mul,Nat.add_zero] at ha;subst ha;generalize hbk:(ρ 0).blk=blk at *
 -- the rows asq data
 have hrow:∀j,j<n->j8 el j=(enc (gL t (slR t el 0 n) j)).map .v:=λj hj=>by
  have h2:t.ok (j8 el (0+j))=true:=Qcf.1 hok j (by simpa using hj)
  rw[Qbh] at h2;rw[<- he,slR,Nc0 t _ hj,Qbh];exact hx _ h2
 have hld:(slR t el 0 n).length=n:=Mc9 ..;have hk:∀x,(enc x).length=t.es:=λx=>by have:=t.h0 x;rw[i9,he] at this;simpa using this
 have hlt:blk<w.heap.size:=by
  have:=hB.obj
  grind
 have hobj:w.heap[blk]?=some (.cells cc tt (0,0)):=by rw[<- hbk];exact hB.obj
 have hgd:∀(l:List α) (j:Nat) (h:j<l.length),gL t l j=l[j]:=λl j h=>by simp[gL,Qda,Qaa h]
 have hdm:∀q,q<n*t.es->q / t.es<n/\q % t.es<t.es/\(q / t.es)*t.es+q % t.es=q:=λq hq=>⟨Nat.div_lt_of_lt_mul (by rw[Qbu];exact hq),Nat.mod_lt _ hes,Nat.div_add_mod' q t.es⟩
 have hrowAt:∀j,j<el.length->el[j]?=some (j8 el j):=λj hj=>by
  unfold j8;rw[n9,Qaa hj]
 have hH0:HoldsK enc t.es w blk 0 (slR t el 0 n).toArray:=by
  intro q hq;have hq:q<n*t.es:=by rw[size_flatK] at hq;simpa [hld] using hq
  obtain⟨e1,e2,e3⟩:=hdm q hq;rw[get_flatK _ _ _ _ (by simpa [hld] using hq),qb9 _ _ (by rw[hld];exact e1),<- hgd _ _ (by rw[hld];exact e1)]
  have hcx:(j8 el (q / t.es))[q % t.es]?=some (.v ((enc (gL t (slR t el 0 n) (q / t.es)))[q % t.es]!)):=by
   grind
  obtain⟨x',h5,h6⟩:=hB.cell (q / t.es) _ (q % t.es) _ (hrowAt _ (by omega)) hcx
  have h6:x'=(enc (gL t (slR t el 0 n) (q / t.es)))[q % t.es]! :=by cases h6;rfl
  subst h6;rw[hoff] at h5;simp only[e3,Qbh] at h5;constructor
  ·simp only[World.cell?,hobj,Qbh];simpa using h5
  ·simp[World.frozen?,hobj]
 have hds:(slR t el 0 n).toArray.size=n:=by simpa using hld
 have hmax:n<4611686018427387904:=by unfold room at hroom;omega
 have hcalls:=hcon blk cap (slR t el 0 n).toArray w (λoff size=>hcl blk off size w) hH0 hlt (by rw[hds];exact hmax)
 rw[hds] at hcalls;refine hcalls.mono λe w' ⟨h5,m,os,h6⟩=>⟨_,h5,ρ,F,?_⟩
 generalize hsd:srt (slR t el 0 n)=sd at *
 have hsl:sd.length=n:=by rw[<- hsd,hlen,hld]
 have h6:w'=grow (mapBlock (Sort.ahead w m) blk (putCells id 0 (flatK enc t.es sd.toArray))) os:=h6;have hw'size:w'.heap.size=w.heap.size+os.size:=by rw[h6];simp[mapBlock]
 have hold:∀k,k<w.heap.size->k≠blk->w'.heap[k]?=w.heap[k]?:=λk h7 h8=>by
  rw[h6];simp only[grow,mapBlock];rw[Qdc (by simpa using h7),Qdg]
  simp[Ne.symm h8]
 have hnew:w'.heap[blk]?=some (.cells (putCells id 0 (flatK enc t.es sd.toArray) cc) tt (0,0)):=by
  rw[h6];simp only[grow,mapBlock];rw[Qdc (by simpa using hlt),Qdg]
  simp[hobj,onCells]
 have hcells:∀b o,F b o->w'.cell? ⟨b,o,none⟩=w.cell? ⟨b,o,none⟩:=λb o hf=>by
  have h7:b≠blk:=λh8=>hnF o (h8 ▸ hf)
  have:=Ga7 (hH.frz b o hf)
  simp only[World.cell?,hold b this h7]
 have hpc:∀q,q<cc.size->(putCells id 0 (flatK enc t.es sd.toArray) cc)[q]?=if q<n*t.es then some ((enc sd.toArray[q / t.es]!)[q % t.es]!) else cc[q]?:=λq hq=>by
  simp only[putCells,Array.getElem?_mapIdx,Qai hq,Option.map_some,size_flatK,Nat.zero_le,true_and,Qbh,Nat.sub_zero,id]
  have:sd.toArray.size=n:=by simpa using hsl
  rw[this];split
  ·next h7=>rw[get_flatK _ _ _ _ (by rw[this];exact h7)]
  ·rfl
 have hel:(app (bL t sd) (i5 el n)).length=el.length:=by
  rw[A4,List.length_append,<- i9 (bL t sd),Ra9,hsl,o8,Qbr];omega
 have hnrow:∀(j:Nat) r,(app (bL t sd) (i5 el n))[j]?=some r->(j<n/\r=t.row (gL t sd j))\/(n<=j/\el[j]?=some r):=λj r hr=>by
  have hlb:(bL t sd).length=n:=by rw[<- i9,Ra9,hsl]
  rw[A4] at hr
  rcases Qan j n with h7|h7
  ·rw[Qbg (by omega)] at hr
   left;refine⟨h7,?_⟩;unfold bL at hr;rw[i8,Qbm,Qaa (by omega)] at hr
   injection hr with hr;rw[<- hr,hgd sd j (by omega)]
  ·rw[Qbf (by omega),hlb,o8,Qbj] at hr
   right;exact⟨h7,by rw[<- hr];congr 1;omega⟩
 have hcs:el.length*t.es<=cc.size:=by have:=hB.len;rw[hsize] at this;exact this
 refine⟨⟨⟨?_,?_,?_,by omega,λk h7 h8=>hold k h7 λh9=>h8 (h9 ▸ hW),hcells,?_⟩,λid b hb=>?_,λ_ _ h=>h,λ_ _ h=>.inl h,λid b' hb' hn'=>?_⟩,⟨λid b hb hd'=>?_,λid id' b b' hb hb' h7 h8 h9 h10=>?_,λb o hf=>by rw[hcells b o hf];exact hH.frz b o hf,λk hk'=>hH.new k (by omega)⟩,.ofv _⟩
 ·rw[h6];rfl
 ·rw[h6];rfl
 ·rw[h6];rfl
 ·rw[h6];exact Nat.le_add_right _ _
 ·match id,hb with
  |0,hb =>
   cases hb;exact⟨_,rfl,rfl,Qac _,λ_=>⟨rfl,rfl,by simp only[hel];exact Qac _⟩⟩
 ·match id,hb' with
  |0,hb'=>cases hb';exact absurd rfl (hn' ⟨et',t.es,el,true,false,0⟩ rfl)
 ·match id,hb with
  |0,hb =>
   cases hb;refine⟨_,tt,(0,0),by rw[hbk];exact hnew,?_,?_,?_,?_,λ_=>⟨rfl,by rw[hbk];exact hW,hoff,?_,by rw[hbk];exact hnF,het⟩,λh=>by cases h⟩
   ·rw[hoff,hsize];simp[putCells]
   ·simp only[hel];exact hB.len
   ·intro j r hr
    rcases hnrow j r hr with⟨_,h8⟩|⟨_,h8⟩
    ·rw[h8,<- i9];exact t.h0 _
    ·exact hB.rows j r h8
   ·intro j r c x hr hc;rw[hoff,Qbh]
    rcases hnrow j r hr with⟨h7,h8⟩|⟨h7,h8⟩
    ·subst h8;have hclt:c<t.es:=by
      have:=(Qab.1 hc).1
      rw[<- i9,t.h0] at this;exact this
     have hq:j*t.es+c<n*t.es:=by
      have:=Qba t.es (show j+1<=n from h7)
      rw[Qbc,Qbl] at this;omega
     have hqn:n*t.es<=el.length*t.es:=Qba _ hn;have e1:(j*t.es+c) / t.es=j:=by rw[Qbu,Nat.mul_add_div hes,Nat.div_eq_of_lt hclt,Nat.add_zero]
     have e2:(j*t.es+c) % t.es=c:=by rw[Qbu,Nat.mul_add_mod,Qbaa hclt]
     rw[he,Qbm,Qaa (by rw[hk];exact hclt)] at hc
     injection hc with hc;subst hc;refine⟨(enc (gL t sd j))[c]'(by rw[hk];exact hclt),?_,.v _ (h1 _ _ (Qby _))⟩
     rw[hpc _ (Qaj hq (Qad hqn hcs)),if_pos hq,e1,e2,qb9 _ _ (by omega),hgd sd j (by omega),getElem!_pos _ _ (by rw[hk];exact hclt)]
    ·obtain⟨x',h9,h10⟩:=hB.cell j r c x h8 hc;rw[hoff,Qbh] at h9;have hq:¬ j*t.es+c<n*t.es:=by
      have:=Qba t.es h7
      omega
     have hlt':j*t.es+c<cc.size:=(Qbo.1 h9).1;exact⟨x',by rw[hpc _ hlt',if_neg hq];exact h9,h10.adv (λ_ _ h=>h) hcells⟩
   ·rw[hsize];simp[putCells]
 ·match id,hb,id',hb' with
  |0,hb,0,hb'=>exact absurd rfl h10
end
end Go.Ev.L
namespace Go.Ev
open Go
def FW(F:Fence):Prop:=∃r,F={ Fence.wide with round:=r }
theorem FW.wide:FW Fence.wide:=⟨none,rfl⟩
theorem FW.inRound(l:Nat):FW (Fence.wide.inRound l):=⟨some l,rfl⟩
section
variable{F:Fence}{n:Nat}{P:Program}
theorem FW.fn(h:FW F)(f:FuncId):F.fn f:=by obtain⟨r,rfl⟩:=h;trivial
theorem FW.dep(h:FW F):F.depth=none:=by obtain⟨r,rfl⟩:=h;rfl
theorem FW.depS(h:FW F){p:Prop}:F.depth.isSome=true->p:=λhd=>by rw[h.dep] at hd;cases hd
theorem FW.fenced(h:FW F):Machine.fenced P F=Machine.fenced P Fence.wide:=by obtain⟨r,rfl⟩:=h;rfl
theorem FW.room(h:FW F)(k:Nat):F.room k:=λd hd=>by rw[h.dep] at hd;cases hd
theorem FW.calls(h:FW F){f:FuncId}{args:Array Value}{w:World}{R:Ending->World->Prop}:CallsIn F n P f args w R↔Calls P f args w R:=by
 refine Iff.trans ?_ (callsIn_wide (n:=n));obtain⟨r,rfl⟩:=h;exact⟨λh=>h,λh=>h⟩
theorem FW.rows(h:FW F){row:String}{args:Array Value}{w:World}{R:Value->World->Prop}(hr:Rows P row args w R):RowsIn F n P row args w R:=λc cs _=>by
 obtain⟨v,w',h1,h2⟩:=hr c cs;refine⟨v,w',h1,?_⟩;rw[h.fenced];exact stepsIn_wide.2 h2
end
section
variable{P:Program}{o:Oper}{ac:Act}{w:World}{post:Value->World->Prop}
theorem d9.inAny(h:d9 P o { ac with defers:=[] } w post){F:Fence}(hF:FW F)(n:Nat)(next:Act->World->Prop)(Q:Exit->Act->World->Prop)(hp:∀x' w',post x' w'->next (ac.put o.dst x') w'):o.wpIn F n P ac w next Q:=by
 have hput:∀v,({ ac with defers:=[] }:Act).put o.dst v={ ac.put o.dst v with defers:=[] }:=λv=>by cases o.dst<;>rfl
 have hinj:∀v x',({ ac with defers:=[] }:Act).put o.dst v=({ ac with defers:=[] }:Act).put o.dst x'->ac.put o.dst v=ac.put o.dst x':=λv x' e=>by
  rw[hput,hput] at e;have e1:=congrArg Act.tmps e
  revert e1
  cases o.dst with
  |none=>intro _;rfl
  |some d=>intro e1;show ({ ac with tmps:=_ }:Act)={ ac with tmps:=_ };congr 1
 have hnd:∀c,o.op≠.defer c:=λc hc=>by
  have h0:=h (λa' _=>a'.defers=[]) (λ_ _ _=>False) (λx' w' _=>by rw[hput])
  unfold Oper.wp at h0;have e:execOp ({ ac with defers:=[] }:Act).eval o=(do return .defer (<- resolve ({ ac with defers:=[] }:Act).eval c o.type)):=by unfold execOp;simp[hc]
  rw[e] at h0;simp only[Sem.run_bind] at h0;cases hr:(resolve ({ ac with defers:=[] }:Act).eval c o.type).run P w with
  |ok d w1 =>
   rw[hr] at h0;have h0:({ ({ ac with defers:=[] }:Act) with defers:=d::[] }.put o.dst undef).defers=[]:=h0
   revert h0
   cases o.dst<;>intro h0<;>cases h0
  |halt x w1 =>
   rw[hr] at h0;cases x<;>exact h0
 have h0:=h (λa' w'=>∃x',post x' w'/\a'=({ ac with defers:=[] }:Act).put o.dst x') (λ_ _ _=>False) (λx' w' hx=>⟨x',hx,rfl⟩)
 unfold Oper.wp at h0;refine⟨λf _=>hF.fn f,?_⟩
 rw[Oper.semAt_eq _ _ _ hnd];have hev:(execOp ac.eval o)=execOp ({ ac with defers:=[] }:Act).eval o:=rfl
 rw[hev]
 revert h0
 generalize (execOp ({ ac with defers:=[] }:Act).eval o).run P w=r
 intro h0;have hnext:∀v w',(∃x',post x' w'/\({ ac with defers:=[] }:Act).put o.dst v=({ ac with defers:=[] }:Act).put o.dst x')->next (ac.put o.dst v) w':=λv w' ⟨x',h1,h2⟩=>by
  rw[hinj v x' h2];exact hp x' w' h1
 cases r with
 |ok q w' =>
  cases q with
  |value v=>exact hnext v w' h0
  |skip=>exact hnext undef w' h0
  |defer d =>
   obtain⟨x',_,h2⟩:=h0;rw[hput] at h2
   have:=congrArg Act.defers h2
   revert this
   cases o.dst<;>intro h<;>cases h
  |enter f args =>
   refine⟨λhd=>hF.depS hd,hF.calls.2 ?_⟩
   have h0:Calls P f args w' _:=h0;refine h0.mono λe w'' he=>?_
   cases e with
   |returned v=>exact hnext v w'' he
   |panicked ch=>exact he.elim
   |outgrown=>obtain⟨a0,w0,hq⟩:=he;exact hq.elim
  |row row args =>
   refine⟨λhd=>hF.depS hd,hF.rows ?_⟩
   have h0:Rows P row args w' _:=h0;exact λc cs=>by
    obtain⟨v,w'',h1,h2⟩:=h0 c cs;exact⟨v,w'',hnext v w'' h1,h2⟩
  |round l f tmps asq body=>exact h0.elim
  |_=>exact h0.elim
 |halt x w' =>
  cases x with
  |panic v=>exact h0.elim
  |_=>exact h0.elim
end
section
variable{W W' WB:Nat->Prop}{ρ ρ0 ρ':Rho}{H H0 H1:List a8}{F F0 F':Fz}{w w0 w':World}{P:Program}
theorem Ca9(H:List a8):i6 H=H.map λb=>Bool.rec (motive:=λ_=>a8) b { b with dead:=true } (o2 b):=by unfold i6;rw[i8]
theorem Vc9:(i6 H).length=H.length:=by rw[Ca9];simp
theorem H7{id:Nat}{b:a8}(hb:H[id]?=some b)(hs:o2 b=false):(i6 H)[id]?=some b:=by
 rw[Ca9,Qbm,hb];simp[hs]
theorem Rb3{id:Nat}{b:a8}(hb:H[id]?=some b)(hs:o2 b=true):(i6 H)[id]?=some { b with dead:=true }:=by
 rw[Ca9,Qbm,hb];simp[hs]
theorem K1{id:Nat}{b:a8}(hb:(i6 H)[id]?=some b)(hd:b.dead=false):H[id]?=some b/\o2 b=false:=by
 rw[Ca9,Qbm] at hb;cases h:H[id]? with
 |none=>rw[h] at hb;cases hb
 |some c =>
  rw[h] at hb;cases hs:o2 c with
  |false=>simp[hs] at hb;subst hb;exact⟨rfl,hs⟩
  |true=>simp[hs] at hb;subst hb;cases hd
def rb0(H:List a8)(id:Nat):Prop:=∃b,H[id]?=some b/\o2 b=true
def ρsp(H:List a8)(ρ ρ':Rho):Rho:=λid=>@ite _ (rb0 H id) (Classical.propDecidable _) (ρ id) (ρ' id)
theorem ρsp_on{id:Nat}(h:rb0 H id):ρsp H ρ ρ' id=ρ id:=by unfold ρsp;rw[if_pos h]
theorem ρsp_off{id:Nat}(h:¬ rb0 H id):ρsp H ρ ρ' id=ρ' id:=by unfold ρsp;rw[if_neg h]
theorem wc6:∀(H1:List a8),Wa2 [] H1=true->∀(id:Nat) c,H1[id]?=some c->o2 c=false
 |[],_,id,c,hc=>by simp at hc
 |d::r,ho,id,c,hc=>by
  have ho:Bool.and (Bool.rec (motive:=λ_=>Bool) true false (o2 d)) (Wa2 [] r)=true:=ho
  simp only[Qbd] at ho;cases id with
  |zero =>
   simp at hc;subst hc
   have:=ho.1
   cases h:o2 d with
   |false=>rfl
   |true=>rw[h] at this;cases this
  |succ id=>exact wc6 r ho.2 id c (by simpa using hc)
theorem Rb4:∀(H H1:List a8),H.length<=H1.length->Wa2 H H1=true->(m8 H H1).length=H1.length /\
  (∀(id:Nat) b,H[id]?=some b->o2 b=true->(m8 H H1)[id]?=some b) /\
  (∀(id:Nat),¬ rb0 H id->(m8 H H1)[id]?=H1[id]?/\∀c,H1[id]?=some c->o2 c=false)
 |[],H1,_,ho=>by
  refine⟨rfl,λid b hb=>by simp at hb,λid _=>⟨rfl,λc hc=>?_⟩⟩
  exact wc6 H1 ho id c hc
 |b::H,[],hl,_=>by simp at hl
 |b::H,c::H1,hl,ho=>by
  have ho:Bool.and (Bool.rec (motive:=λ_=>Bool) (Bool.rec true false (o2 c)) true (o2 b)) (Wa2 H H1)=true:=ho
  simp only[Qbd] at ho;obtain⟨h1,h2,h3⟩:=Rb4 H H1 (by simpa using hl) ho.2
  have e:m8 (b::H) (c::H1)=Bool.rec (motive:=λ_=>a8) c b (o2 b)::m8 H H1:=rfl
  rw[e];refine⟨by simp[h1],λid d hd hs=>?_,λid hn=>?_⟩
  ·cases id with
   |zero=>simp at hd;subst hd;simp[hs]
   |succ id=>simpa using h2 id d (by simpa using hd) hs
  ·cases id with
   |zero =>
    have hb:o2 b=false:=by
     cases h:o2 b with
     |false=>rfl
     |true=>exact absurd ⟨b,rfl,h⟩ hn
    rw[hb] at ho ⊢;refine⟨rfl,λd hd=>?_⟩
    simp at hd;subst hd
    have:=ho.1
    cases h:o2 c with
    |false=>rfl
    |true=>rw[h] at this;cases this
   |succ id =>
    obtain⟨k1,k2⟩:=h3 id λ⟨d,hd,hs⟩=>hn ⟨d,by simpa using hd,hs⟩
    simp_all
def ec2(b:a8):Prop:=b.es=0/\b.et=0
def wc7(t:Nat)(b:a8):Prop:=b.es=0/\b.et=t+1
inductive XC (ρ:Rho) (H:List a8) (F:Fz) (w:World):a7->Value->Prop
 |n {x:a7} {x':Value} (h:E0 ρ (i6 H) F w x x'):XC ρ H F w x x'
 |box (id c g:Nat) (b:a8) (hb:H[id]?=some b) (hd:b.dead=false) (he:ec2 b):XC ρ H F w (.ptr id 0 c g) (.pointer (some ⟨(ρ id).blk,c,none⟩))
 |map (id c g:Nat) (b:a8) (t:Nat) (hb:H[id]?=some b) (hd:b.dead=false) (he:wc7 t b):XC ρ H F w (.ptr id 0 c g) (.map (some (ρ id).blk))
inductive XW (ρ:Rho) (H:List a8) (F:Fz) (w:World):a7->Value->Prop
 |w {x:a7} {x':Value} (h:o9 ρ (i6 H) F w x x'):XW ρ H F w x x'
 |c {x:a7} {x':Value} (h:XC ρ H F w x x'):XW ρ H F w x x'
theorem na7{b:a8}(h:ec2 b):o2 b=true:=by unfold o2;rw[h.1];rfl
theorem qa8{b:a8}{t:Nat}(h:wc7 t b):o2 b=true:=by unfold o2;rw[h.1];rfl
theorem XC.one{x:a7}{x':Value}(h:XC ρ H F w x x')(hb:Dc0 x=true):x'.oneCell'=true:=by
 cases h with
 |n h =>
  cases h with
  |mem h=>exact h.one
  |v=>exact (by rw[<- Qa9];exact hb)
  |ptr=>rfl
  |sl=>rfl
  |tptr=>cases hb
  |unk=>cases hb
 |box=>rfl
 |map=>rfl
structure Td6(ρ:Rho)(H:List a8)(F:Fz)(w:World)(b:a8)(blk:Nat):Prop where
 et:ec2 b
 has:∃row vs t,b.elems=[row]/\w.heap[blk]?=some (.cells vs t (0,0))/\row.length<=vs.size/\∀(c:Nat) x x',row[c]?=some x->vs[c]?=some x'->x'.oneCell'=true/\XC ρ H F w x x'
def Rb5(fl:List (Nat×CK))(kl:Nat)(r:List a7)(e:MapEntry):Prop:=∃(ks:Array Value) (v:Bool),r=ks.toList.map .v++[.v (.bool v)]/\ks.size=kl/\e.key=.agg ks/\e.val=.bool v/\∀p∈fl,ea4 ks p
structure Td7(P:Program)(w:World)(b:a8)(blk:Nat):Prop where
 has:∃t K El fl es clk,wc7 t b/\P.underlying t=some (.map K El)/\L6 P 9 K=some fl/\w.heap[blk]?=some (.map es clk)/\b.elems.length=es.size /\
  ∀(i:Nat) r e,b.elems[i]?=some r->es[i]?=some e->Rb5 fl (szT P K) r e
structure fd8(P:Program)(WB W':Nat->Prop)(ρ:Rho)(H:List a8)(F:Fz)(w:World):Prop where
 has:∀(id:Nat) b,H[id]?=some b->o2 b=true->b.dead=false->WB (ρ id).blk/\¬ W' (ρ id).blk/\(∀o,¬ F (ρ id).blk o)/\(ρ id).blk<w.heap.size/\(Td6 ρ H F w b (ρ id).blk\/Td7 P w b (ρ id).blk)
 apart:∀(id id':Nat) b b',H[id]?=some b->H[id']?=some b'->o2 b=true->o2 b'=true->b.dead=false->b'.dead=false->id≠id'->(ρ id).blk≠(ρ id').blk
theorem Adv.mono(h:Adv W ρ H F w ρ' H1 F' w')(hW:∀k,W k->WB k):Adv WB ρ H F w ρ' H1 F' w' :=
 ⟨⟨h.ext.os,h.ext.tape,h.ext.output,h.ext.size,λk hk hn=>h.ext.block k hk λhw=>hn (hW k hw),h.ext.cells,h.ext.drawn⟩,h.heap,h.more,λb o hf=>(h.new b o hf).imp id (hW b),λid b' hb' hn=>hW _ (h.fresh id b' hb' hn)⟩
section
variable(hA:Adv W' ρ (i6 H) F w ρ' H1 F' w')(ho:Wa2 H H1=true)
include hA ho
theorem fd9:H.length<=H1.length:=by
 rcases Qbq H.length with h|h
 ·omega
 ·have hlt:H.length-1<(i6 H).length:=by rw[Vc9];omega
  obtain⟨b',hb',_⟩:=hA.heap (H.length-1) _ (Qaa hlt)
  grind
theorem eb8:(m8 H H1).length=H1.length /\
  (∀(id:Nat) b,H[id]?=some b->o2 b=true->(m8 H H1)[id]?=some b) /\
  (∀(id:Nat),¬ rb0 H id->(m8 H H1)[id]?=H1[id]?/\∀c,H1[id]?=some c->o2 c=false):=Rb4 H H1 (fd9 hA ho) ho
theorem Wc0{id:Nat}{b:a8}(hb:(i6 (m8 H H1))[id]?=some b)(hd:b.dead=false):H1[id]?=some b/\¬ rb0 H id:=by
 obtain⟨h1,h2,h3⟩:=eb8 hA ho;obtain⟨k1,k2⟩:=K1 hb hd;by_cases hs:rb0 H id
 ·obtain⟨c,hc,hcs⟩:=hs
  simp_all
 simp_all
theorem Wc1{id:Nat}{b:a8}(hb:H1[id]?=some b)(hd:b.dead=false):(i6 (m8 H H1))[id]?=some b/\ρsp H ρ ρ' id=ρ' id:=by
 obtain⟨h1,h2,h3⟩:=eb8 hA ho;by_cases hs:rb0 H id
 ·obtain⟨c,hc,hcs⟩:=hs;obtain⟨b',hb',hd',_⟩:=hA.heap id _ (Rb3 hc hcs)
  simp_all
 ·obtain⟨k1,k2⟩:=h3 id hs;exact⟨H7 (k1.trans hb) (k2 b hb),ρsp_off hs⟩
theorem Rb6:dc6 ρ' H1 (ρsp H ρ ρ') (i6 (m8 H H1)):=λid b hb hd=>by
 obtain⟨h1,h2⟩:=Wc1 hA ho hb hd
 simp_all
theorem Gc9{x:a7}{x':Value}(h:o9 ρ' H1 F' w' x x'):o9 (ρsp H ρ ρ') (i6 (m8 H H1)) F' w' x x':=h.carry (Rb6 hA ho) (λ_ _ h=>h) (λ_ _ _=>rfl)
theorem Wc2(hH:o1 W' ρ' H1 F' w'):o1 W' (ρsp H ρ ρ') (i6 (m8 H H1)) F' w' :=
 hH.pull (λi=>i) (λi b hb hd=>by
  obtain⟨h1,h2⟩:=Wc0 hA ho hb hd;exact⟨h1,ρsp_off h2⟩) (λ_ _ _ _ _ _ _ _ e=>e)
theorem Oc3{x:a7}{x':Value}(h:XC ρ H F w x x'):XC (ρsp H ρ ρ') (m8 H H1) F' w' x x':=by
 obtain⟨h1,h2,h3⟩:=eb8 hA ho;cases h with
 |n h=>exact .n ((h.adv hA).carry (Rb6 hA ho) (λ_ _ h=>h) (λ_ _ _=>rfl))
 |box id c g b hb hd he =>
  have e:ρsp H ρ ρ' id=ρ id:=ρsp_on ⟨b,hb,na7 he⟩;rw[<- e];exact .box id c g b (h2 id b hb (na7 he)) hd he
 |map id c g b t hb hd he =>
  have e:ρsp H ρ ρ' id=ρ id:=ρsp_on ⟨b,hb,qa8 he⟩;rw[<- e];exact .map id c g b t (h2 id b hb (qa8 he)) hd he
theorem yd2{x:a7}{x':Value}(h:XW ρ H F w x x'):XW (ρsp H ρ ρ') (m8 H H1) F' w' x x':=by
 cases h with
 |w h=>exact .w (Gc9 hA ho (h.adv hA))
 |c h=>exact .c (Oc3 hA ho h)
theorem Wc3(hS:fd8 P WB W' ρ H F w):fd8 P WB W' (ρsp H ρ ρ') (m8 H H1) F' w':=by
 obtain⟨h1,h2,h3⟩:=eb8 hA ho;have hold:∀(id:Nat) b,(m8 H H1)[id]?=some b->o2 b=true->H[id]?=some b/\rb0 H id:=λid b hb hs=>by
  by_cases hsp:rb0 H id
  ·obtain⟨c,hc,hcs⟩:=hsp;rw[h2 id c hc hcs] at hb;obtain rfl:c=b:=Qah hb;exact⟨hc,c,hc,hcs⟩
  ·obtain⟨k1,k2⟩:=h3 id hsp;rw[k1] at hb;rw[k2 b hb] at hs;cases hs
 refine⟨λid b hb hs hd=>?_,λid id' b b' hb hb' hs hs' hd hd' hne=>?_⟩
 ·obtain⟨hb0,hsp⟩:=hold id b hb hs;obtain⟨k1,k2,k3,k4,k5⟩:=hS.has id b hb0 hs hd;have hblk:w'.heap[(ρ id).blk]?=w.heap[(ρ id).blk]?:=hA.ext.block _ k4 k2;rw[ρsp_on hsp];refine⟨k1,k2,λo hf=>?_,Qaj k4 hA.ext.size,?_⟩
  ·rcases hA.new _ _ hf with h|h
   ·exact k3 o h
   ·exact k2 h
  ·rcases k5 with⟨e,row,vs,t,m1,m2,m3,m4⟩|⟨t,K,El,fl,es,clk,m1,m2,m3,m4,m5,m6⟩
   ·exact .inl ⟨e,row,vs,t,m1,hblk.trans m2,m3,λc x x' hx hx'=>⟨(m4 c x x' hx hx').1,Oc3 hA ho (m4 c x x' hx hx').2⟩⟩
   ·exact .inr ⟨t,K,El,fl,es,clk,m1,m2,m3,hblk.trans m4,m5,m6⟩
 ·obtain⟨hb0,hsp⟩:=hold id b hb hs;obtain⟨hb0',hsp'⟩:=hold id' b' hb' hs';rw[ρsp_on hsp,ρsp_on hsp'];exact hS.apart id id' b b' hb0 hb0' hs hs' hd hd' hne
theorem gd0{id:Nat}{b:a8}(hb:(m8 H H1)[id]?=some b)(hs:o2 b=true):H[id]?=some b/\rb0 H id:=by
 obtain⟨h1,h2,h3⟩:=eb8 hA ho;by_cases hsp:rb0 H id
 ·obtain⟨c,hc,hcs⟩:=hsp
  grind
 grind
theorem gd1{K:Nat->Prop}(h:∀(id:Nat) b,H[id]?=some b->o2 b=true->b.dead=false->¬ K (ρ id).blk):∀(id:Nat) b,(m8 H H1)[id]?=some b->o2 b=true->b.dead=false->¬ K (ρsp H ρ ρ' id).blk:=λid b hb hs hd=>by
 obtain⟨k1,k2⟩:=gd0 hA ho hb hs;rw[ρsp_on k2];exact h id b k1 hs hd
theorem gd2(hW:∀k,W' k->WB k):Adv WB ρ H F w (ρsp H ρ ρ') (m8 H H1) F' w':=by
 obtain⟨h1,h2,h3⟩:=eb8 hA ho;have hm:=hA.mono hW;refine⟨hm.ext,λid b hb=>?_,hm.more,hm.new,λid b' hb' hn=>?_⟩
 ·cases hs:o2 b with
  |true=>exact⟨b,h2 id b hb hs,rfl,Qac _,λ_=>⟨ρsp_on ⟨b,hb,hs⟩,rfl,Qac _⟩⟩
  |false =>
   have hnsp:¬ rb0 H id:=λ⟨c,hc,hcs⟩=>by
    rw[hb] at hc;cases hc;rw[hs] at hcs;cases hcs
   obtain⟨b',k1,k2,k3,k4⟩:=hm.heap id b (H7 hb hs);exact⟨b',(h3 id hnsp).1.trans k1,k2,k3,λhg=>by rw[ρsp_off hnsp];exact k4 hg⟩
 ·by_cases hsp:rb0 H id
  ·obtain⟨c,hc,hcs⟩:=hsp
   simp_all
  ·rw[ρsp_off hsp];rw[(h3 id hsp).1] at hb';refine hm.fresh id b' hb' λb hb=>?_
   cases h:H[id]? with
   |none =>
    rw[Ca9,Qbm,h] at hb;cases hb
   |some c =>
    cases hs:o2 c with
    |true=>exact absurd ⟨c,h,hs⟩ hsp
    |false =>
     rw[H7 h hs] at hb;cases hb;exact hn b h
end
end
end Go.Ev
