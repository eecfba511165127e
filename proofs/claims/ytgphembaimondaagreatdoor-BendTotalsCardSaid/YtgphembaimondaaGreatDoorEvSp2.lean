/- Own work. -/
import Derived.Test.YtgphembaimondaaGreatDoorEvDraw1
import Derived.Shelf.SlSortCmp.WholeK
import Derived.CallsIn
import Derived.RangeFuncIn
import Derived.RangeFuncRecord
import Derived.RangeFuncLeaves
import Derived.ControlIn
import Derived.LoopNIn
import Derived.TacticsIn
set_option linter.all false
noncomputable section
def Qda:=@List.getD_eq_getElem?_getD
def Qdb:=@Bool.not_eq_true'
def Qdc:=@Array.getElem?_append_left
def Qdd:=@Array.all_eq_true_iff_forall_mem
def Qde:=@List.mem_filterMap
def Qdf:=@Bool.or_eq_true
def Qdg:=@Array.getElem?_modify
def Qdh:=@Go.Ev.Agr.arg
namespace Go.Ev
open Go
def pc7(E:Env)(a:List b9)(g:Option (Nat×Bool)):Option Bool :=
 match g with
 |none=>some true
 |some (d,want)=>match c9 E a (.t d) with
  |.v (.bool b)=>some (match want with | true=>b | false=>!b)
  |.v (.tuple _)=>some false
  |_=>none
section
variable{E:Env}{a a':List b9}{s s':St}{p:PI}
theorem Pb3{g:Option (Nat×Bool)}(h:Agr a a' (Ob5 g)):pc7 E a g=pc7 E a' g:=by
 cases g with
 |none=>rfl
 |some g =>
  obtain⟨d,want⟩:=g;simp only[pc7];rw[Agr.t (E:=E) (h d (by simp[Ob5]))]
theorem Ub4(he:(Aa3 E s p).run=some s'):∃b,pc7 E s.a p.guard=some b/\(b=true->(pc2 E s p).run=some s')/\(b=false->s'=⟨putA s.a p.dst (.v (.tuple #[])),s.H⟩):=by
 obtain⟨dst,g,hide,op⟩:=p;cases g with
 |none=>exact⟨true,rfl,λ_=>he,λh=>by cases h⟩
 |some g =>
  obtain⟨d,want⟩:=g;rw[lc1] at he;simp only[pc7]
  revert he
  generalize c9 E s.a (.t d)=u;intro he
  split at he
  ·rename_i b
   rcases DT.run_ite_some he with⟨h1,h2⟩|⟨h1,h2⟩
   ·grind
   ·exact⟨false,congrArg some h1,λh=>by (cases h),λ_=>by simpa using h2.symm⟩
  ·simp_all
  ·cases he
theorem md9{ρ:Rho}{H:List c7}{F:Fz}{w:World}{ops:Array Oper}{o:Oper}{g:Option (Nat×Bool)}{tmps:Array Value}{b:Bool}(hg:S6 ops o=some g)(hA:da4 ρ H F w a tmps)(ho:pc7 E a g=some b) :
  Region.wanted o (yielded ops tmps)=b:=by
 unfold S6 at hg;unfold Region.wanted;cases hgo:o.guard with
 |none =>
  simp only[hgo] at hg ⊢;injection hg with hg;subst hg;injection ho
 |some jw =>
  obtain⟨j,want⟩:=jw;simp only[hgo] at hg ⊢;cases hj:ops[j]? with
  |none=>simp[hj] at hg
  |some oj =>
  simp only[hj] at hg;cases hd:oj.dst with
  |none=>simp[hd] at hg
  |some d =>
  simp only[hd] at hg;injection hg with hg;subst hg;have hrel:∀v,c9 E a (.t d)=.v v->tmps[d]?=some v:=λv hv=>by
   rw[Ra2] at hv
   rcases Qan d a.length with hlt|hge
   ·rw[Qaa hlt] at hv;have hlt':d<tmps.size:=hA.1 ▸ hlt;have h1:=hA.2 d _ _ (Qaa hlt) (Qai hlt');simp only[Option.getD_some] at hv;rw[hv] at h1;rw[Qai hlt',K5 h1]
   ·rw[Qal hge] at hv;cases hv
  simp only[pc7] at ho
  revert ho hrel
  generalize c9 E a (.t d)=u;intro ho hrel
  split at ho
  ·rename_i b';rw[pb0 hj hd (hrel _ rfl)];injection ho with ho;subst ho
   grind
  ·rename_i vs;rw[fb1 hj hd (hrel _ rfl)];injection ho with ho
  ·cases ho
theorem nd0(he:(pc2 E s p).run=some s'):∃x H',(evalOp E s.a (Ob0 s.H (Ma6 s.a p.hide)) p.op).run=some (x,H')/\s'=⟨putA s.a p.dst x,Ma7 s.H H' (Ma6 s.a p.hide)⟩:=by
 unfold pc2 at he;obtain⟨⟨x,H1⟩,h1,h2⟩:=DT.run_bind_some he;have h2':some (⟨putA s.a p.dst x,H1⟩:St)=some s':=h2;injection h2' with h2';subst h2';cases hh:p.hide with
 |nil =>
  rw[hh] at h1;exact⟨x,H1,h1,rfl⟩
 |cons d l =>
  rw[hh] at h1;have h1':((evalOp E s.a (Ob0 s.H (Ma6 s.a (d::l))) p.op).bind λr=>.ret (r.1,Ma7 s.H r.2 (Ma6 s.a (d::l)))).run=some (x,H1):=h1
  obtain⟨⟨y,H'⟩,h3,h4⟩:=DT.run_bind_some h1';have h4':some (y,Ma7 s.H H' (Ma6 s.a (d::l)))=some (x,H1):=h4
  grind
end
def ma3(ops:Array Oper)(j:Nat):Oper:=ops.getD j default
theorem aa9{ops:Array Oper}{j:Nat}(h:j<ops.size):ops[j]?=some (ma3 ops j):=by simp[ma3,Array.getD,h]
def Pb4(ops:Array Oper)(j:Nat):Option (Nat×Bool):=(S6 ops (ma3 ops j)).getD none
def C3(tr:Nat)(P:Program)(ops:Array Oper)(j:Nat):Nat:=Jb9 tr P ops (ma3 ops j)
def K0(tr:Nat)(P:Program)(ops:Array Oper)(j:Nat):PO:=Na1 tr (jb8 P ops (ma3 ops j))
def U0(ops:Array Oper)(j:Nat):Option Nat:=(ma3 ops j).dst
def Ib8(tr:Nat)(P:Program)(ops:Array Oper)(M:List Nat)(j:Nat):PI:=⟨U0 ops j,Pb4 ops j,if Nat.beq (C3 tr P ops j) 2 then cc5 ops M j else [],K0 tr P ops j⟩
theorem Id8{tr:Nat}{P:Program}{ops:Array Oper}{M:List Nat}:∀{r:List Oper} {k:Nat} {ks:List (Nat×PI)},jd7 tr P ops M k r=some ks->∀(i:Nat) o,r[i]?=some o ->
  ∃g,S6 ops o=some g/\ks[i]?=some (Jb9 tr P ops o,⟨o.dst,g,if Nat.beq (Jb9 tr P ops o) 2 then cc5 ops M (k+i) else [],Na1 tr (jb8 P ops o)⟩)
 |[],k,ks,h,i,o,ho=>by simp at ho
 |o'::r,k,ks,h,i,o,ho=>by
  simp only[jd7] at h;cases h1:cPI tr P ops M k o' with
  |none=>simp[h1] at h
  |some x =>
  cases h2:jd7 tr P ops M (k+1) r with
  |none=>simp[h1,h2] at h
  |some l =>
  simp only[h1,h2] at h;injection h with h;subst h;cases i with
  |zero =>
   simp at ho
   subst ho;unfold cPI at h1
   grind
  |succ i =>
   obtain⟨g,h3,h4⟩:=Id8 h2 i o (by simpa using ho)
   grind
structure DC(tr:Nat)(P:Program)(ops:Array Oper)(M:List Nat)(ks:List (Nat×PI)):Prop where
 rows:Yc5 ops M=true
 guard:∀j,j<ops.size->S6 ops (ma3 ops j)=some (Pb4 ops j)
 at':∀j,j<ops.size->ks[j]?=some (C3 tr P ops j,Ib8 tr P ops M j)
 one:∀j,j<ops.size->Eb8 ops M ks j=true
section
variable{tr:Nat}{P:Program}{ops:Array Oper}{M:List Nat}{ks:List (Nat×PI)}
theorem dc3{dsts:List Nat}{asq l:List PI}{ps:List (PO×PO)}(h:Aa8 tr P ops=.draw dsts asq l ps) :
  ∃M ks,DC tr P ops M ks/\dsts=ops.toList.filterMap (·.dst)/\asq=(List.range ops.size).filterMap (ab8 ks)/\l=(List.range ops.size).filterMap (Kb0 ks)/\ps=ka9 ops.size M ks:=by
 unfold Aa8 at h
 simp only at h
 cases hk:jd7 tr P ops (Region.before ops).toList 0 ops.toList with
 |none=>simp[hk] at h
 |some ks =>
 simp only[hk,wc7] at h
 split at h
 case h_2=>cases h
 rename_i hc;injection h with e1 e2 e3 e4;rw[Qbd] at hc;refine⟨_,ks,⟨hc.1,λj hj=>?_,λj hj=>?_,λj hj=>Qcf.1 hc.2 j (Qcj.2 hj)⟩,e1.symm,e2.symm,e3.symm,e4.symm⟩
 all_goals
  obtain⟨g,h1,h2⟩:=Id8 hk j (ma3 ops j) (by simpa using aa9 hj)
  have hg:Pb4 ops j=g:=by simp[Pb4,h1]
 ·rw[hg];exact h1
 ·rw[h2];simp only[Ib8,hg,Qbh,C3,K0,U0];rfl
theorem nd1{dsts:List Nat}{asq l:List PI}{ps:List (PO×PO)}(h:ra5 P ops=.draw dsts asq l ps) :
  ∃tr M ks,DC tr P ops M ks/\dsts=ops.toList.filterMap (·.dst)/\asq=(List.range ops.size).filterMap (ab8 ks)/\l=(List.range ops.size).filterMap (Kb0 ks)/\ps=ka9 ops.size M ks:=by
 unfold ra5 at h
 split at h
 ·rename_i a b c d h1;injection h with e1 e2 e3 e4;subst e1 e2 e3 e4;exact⟨0,dc3 h1⟩
 ·split at h
  ·rename_i a b c d h1;injection h with e1 e2 e3 e4;subst e1 e2 e3 e4;exact⟨1,dc3 h1⟩
  ·exact⟨2,dc3 h⟩
theorem jb9(j:Nat):C3 tr P ops j=0\/C3 tr P ops j=1\/C3 tr P ops j=2:=by
 unfold C3 Jb9
 grind
theorem nd2{j:Nat}(h:C3 tr P ops j=1):uc6 (K0 tr P ops j)=true:=by
 unfold C3 Jb9 at h
 split at h
 ·cases h
 ·split at h
  ·assumption
  ·cases h
theorem yc9(o:PO):uc6 o=true\/vc0 o=true:=by cases o<;>first | exact .inl rfl | exact .inr rfl
theorem Ub5{j:Nat}(h:C3 tr P ops j=2):vc0 (K0 tr P ops j)=true:=by
 unfold C3 Jb9 at h
 split at h
 ·cases h
 ·split at h
  ·cases h
  ·rename_i h2;exact (yc9 _).resolve_left h2
theorem zc0{j:Nat}(h:C3 tr P ops j=0):Ia9 (ma3 ops j)=true:=by
 unfold C3 Jb9 at h
 grind
variable(hD:DC tr P ops M ks)
include hD
theorem DC.slots{i j d:Nat}(hi:i<ops.size)(hj:j<ops.size)(hd:U0 ops i=some d) :
  (d∈Ob5 (Pb4 ops j)++ab7 (K0 tr P ops j)->p8 M i j=true\/(ob6 (K0 tr P ops j)=true/\Ia9 (ma3 ops i)=false/\(p8 M j i=true\/i=j)))/\(i=j\/U0 ops j≠some d):=by
 have h:=hD.one j hj;unfold Eb8 at h;rw[hD.at' j hj] at h;simp only[Qbd] at h;have h1:=Qcf.1 h.1.1.1 i (Qcj.2 hi);have hd':(ma3 ops i).dst=some d:=hd;simp only[aa9 hi,hd',Qbd,Qdf,Qdb] at h1;refine⟨λhm=>?_,?_⟩
 ·rcases h1.1 with (h2|h2)|h2
  ·have:(Ob5 (Pb4 ops j)++ab7 (K0 tr P ops j)).contains d=false:=h2
   simp_all
  ·exact .inl h2
  ·exact .inr ⟨h2.1.1,h2.1.2,h2.2.imp id Qae⟩
 ·rcases h1.2 with h2|h2
  ·simp_all
  ·refine .inr λe=>?_
   have h3:(U0 ops j != some d)=true:=h2;rw[e] at h3
   simp at h3
theorem DC.bare{j:Nat}(hj:j<ops.size):jd8 (K0 tr P ops j)=true:=by
 have h:=hD.one j hj;unfold Eb8 at h;rw[hD.at' j hj] at h;simp only[Qbd] at h;exact h.1.1.2
theorem DC.allocDst{j:Nat}(hj:j<ops.size)(h0:C3 tr P ops j=0):∃d,U0 ops j=some d:=by
 have h:=hD.one j hj;unfold Eb8 at h;rw[hD.at' j hj] at h;simp only[Qbd,Qdf,Qdb] at h
 rcases h.1.2 with h2|h2
 ·rw[h0] at h2;cases h2
 ·exact Qbi.1 h2
theorem DC.chain{i j:Nat}(hi:i<j)(hj:j<ops.size)(hki:C3 tr P ops i=2)(hkj:C3 tr P ops j=2):p8 M i j=true/\∀a,p8 M a i=true->p8 M a j=true:=by
 have h:=hD.one j hj;unfold Eb8 at h;rw[hD.at' j hj] at h;simp only[Qbd,Qdf,Qdb] at h
 rcases h.2 with h2|h2
 ·rw[hkj] at h2;cases h2
 ·have h3:=Qcf.1 h2 i (Qcj.2 hi);rw[hD.at' i (by omega),hki] at h3
  simp only[Qbd] at h3;refine⟨h3.1,λa ha=>?_⟩
  have h4:=Qae h3.2;unfold p8 at ha ⊢
  grind
theorem DC.pair{i j:Nat}(hi:i<ops.size)(hj:j<ops.size)(hkj:C3 tr P ops j=1)(hki:C3 tr P ops i=2)(h1:p8 M i j=false)(h2:p8 M j i=false) :
  (K0 tr P ops j,K0 tr P ops i)∈ka9 ops.size M ks:=by
 unfold ka9;rw[List.mem_flatMap];refine⟨j,Qcj.2 hj,?_⟩;rw[hD.at' j hj,hkj]
 simp only
 rw[Qde];refine⟨i,Qcj.2 hi,?_⟩;rw[hD.at' i hi,hki];simp[h1,h2,Ib8]
end
structure zc1(E:Env)(ops:Array Oper)(ks:List (Nat×PI))(s:St)(U T:Nat->St):Prop where
 u0:U 0=s
 u:∀j,j<ops.size->pb2 E (ab8 ks) U j
 t0:T 0=U ops.size
 t:∀j,j<ops.size->pb2 E (Kb0 ks) T j
def Zc7(z:List b9):c7:={ et:=0,es:=z.length,elems:=[z],own:=true,dead:=false,g:=0 }
def pc8:PO->Nat->b9
 |.alloc _,n=>.ptr n 0 0 0
 |_,n=>.sl n 0 0 0
def Zc8:PO->c7
 |.alloc z=>Zc7 z
 |.bslice et es _ _ _=>{ et,es,elems:=[],own:=true,dead:=false,g:=0 }
 |_=>Zc7 []
theorem Td6(o:PO):(Zc8 o).dead=false:=by cases o<;>rfl
theorem Ve1(o:PO):(Zc8 o).g=0:=by cases o<;>rfl
theorem be9{tr:Nat}{P:Program}{ops:Array Oper}{j:Nat}(ha:Ia9 (ma3 ops j)=true){E:Env}{a:List b9}{H:List c7}{r:b9×List c7}(he:(evalOp E a H (K0 tr P ops j)).run=some r) :
  (ma3 ops j).guard=none/\∀a H,(evalOp E a H (K0 tr P ops j)).run=some (pc8 (K0 tr P ops j) H.length,H++[Zc8 (K0 tr P ops j)]):=by
 unfold Ia9 at ha;cases hop:(ma3 ops j).op with
 |alloc t =>
  simp only[hop] at ha;have hg:(ma3 ops j).guard=none:=by simpa using ha
  cases hz:zeT P t with
  |none =>
   exfalso;have hbad:K0 tr P ops j=.bad:=by simp[K0,Na1,jb8,cOp,hop,hz]
   rw[hbad] at he;cases he
  |some z =>
   have hpo:K0 tr P ops j=.alloc z:=by simp[K0,Na1,jb8,cOp,hop,hz]
   refine⟨hg,λa H=>?_⟩
   rw[hpo];simp only[evalOp,DT.run_ret,l6,da2,E0,pc8,Zc8,Zc7]
 |buildSlice t n ps =>
  simp only[hop] at ha
  split at ha
  ·rename_i hps;have hg:(ma3 ops j).guard=none:=by simpa using ha
   have hpo:K0 tr P ops j=.bad\/∃e es,K0 tr P ops j=.bslice e es 0 [] []:=by
    simp only[K0,jb8,cOp,hop];cases P.underlying t with
    |none=>exact .inl rfl
    |some u =>
     cases u with
     |slice e =>
      simp only[hps];cases zeT P e with
      |none=>exact .inl rfl
      |some z =>
       simp only[Fa7];split
       ·exact .inr ⟨e,szT P e,by simp[Na1]⟩
       ·exact .inl rfl
     |_=>exact .inl rfl
   rcases hpo with hpo|⟨e,es,hpo⟩
   ·rw[hpo] at he;cases he
   ·refine⟨hg,λa H=>?_⟩
    rw[hpo];simp only[evalOp,k9,List.map_nil,sb8,freezeCells,DT.run_ret,l6,da2,E0,pc8,Zc8,ma5]
  ·cases ha
 |_=>simp[hop] at ha
theorem Ub6(a:List b9)(dst:Option Nat)(x:b9):(putA a dst x).length=a.length:=by
 rw[Fb8];cases dst<;>simp
theorem Ub7{a:List b9}{dst:Option Nat}{x:b9}{t:Nat}(h:dst≠some t):(putA a dst x)[t]?=a[t]?:=by
 rw[Fb8]
 grind
theorem vc1{a:List b9}{d:Nat}{x:b9}(h:d<a.length):(putA a (some d) x)[d]?=some x:=by
 rw[Fb8]
 simp_all
section
variable{tr:Nat}{E:Env}{ops:Array Oper}{M:List Nat}{ks:List (Nat×PI)}{s:St}{U T:Nat->St}
variable(hD:DC tr E.P ops M ks)(hT:zc1 E ops ks s U T)
include hD
theorem kb0{i j:Nat}(hj:j<ops.size)(hi:i<ops.size)(hb:p8 M i j=true):i<j:=by
 refine lc4 hD.rows (· < j) (λm o ho hm i hi=>?_) j _ (aa9 hj) (λi hi=>Gb0 hD.rows (aa9 hj) hi) i hi hb
 have:=Gb0 hD.rows ho hi
 omega
theorem Zc9{j:Nat}(hj:j<ops.size)(h:C3 tr E.P ops j=0):ab8 ks j=some (Ib8 tr E.P ops M j)/\Kb0 ks j=none:=by
 unfold ab8 Kb0;rw[hD.at' j hj,h];exact⟨rfl,rfl⟩
theorem ce0{j:Nat}(hj:j<ops.size)(h:C3 tr E.P ops j≠0):ab8 ks j=none/\Kb0 ks j=some (Ib8 tr E.P ops M j):=by
 unfold ab8 Kb0;rw[hD.at' j hj]
 rcases jb9 (tr:=tr) (P:=E.P) (ops:=ops) j with h'|h'|h'
 ·exact absurd h' h
 ·rw[h'];exact⟨rfl,rfl⟩
 simp_all
include hT
theorem ad1{j:Nat}(hj:j<ops.size)(h:C3 tr E.P ops j≠0):U (j+1)=U j:=by
 have:=hT.u j hj
 unfold pb2 at this;rw[(ce0 hD hj h).1] at this;exact this
theorem Ub8{j:Nat}(hj:j<ops.size)(h:C3 tr E.P ops j=0):T (j+1)=T j:=by
 have:=hT.t j hj
 unfold pb2 at this;rw[(Zc9 hD hj h).2] at this;exact this
theorem bb2{j:Nat}(hj:j<ops.size)(h:C3 tr E.P ops j=0):∃d,(ma3 ops j).guard=none/\U0 ops j=some d/\(∀a H,(evalOp E a H (K0 tr E.P ops j)).run=some (pc8 (K0 tr E.P ops j) H.length,H++[Zc8 (K0 tr E.P ops j)])) /\
  U (j+1)=⟨putA (U j).a (some d) (pc8 (K0 tr E.P ops j) (U j).H.length),(U j).H++[Zc8 (K0 tr E.P ops j)]⟩:=by
 have hst:=hT.u j hj;unfold pb2 at hst;rw[(Zc9 hD hj h).1] at hst;obtain⟨d,hd⟩:=hD.allocDst hj h;have ha:=zc0 h;have hg:(ma3 ops j).guard=none:=by
  unfold Ia9 at ha
  split at ha
  ·simpa using ha
  ·split at ha
   ·simpa using ha
   ·cases ha
  ·cases ha
 have hgd:Pb4 ops j=none:=by simp[Pb4,S6,hg]
 have hhide:(Ib8 tr E.P ops M j).hide=[]:=by simp[Ib8,h]
 obtain⟨b,h1,h2,h3⟩:=Ub4 hst;have hb:b=true:=by
  have:pc7 E (U j).a (Pb4 ops j)=some b:=h1
  rw[hgd] at this;injection this with this;exact this.symm
 obtain⟨x,H',h4,h5⟩:=nd0 (h2 hb);rw[hhide] at h4 h5;have h4':(evalOp E (U j).a (U j).H (K0 tr E.P ops j)).run=some (x,H'):=h4;obtain⟨_,hev⟩:=be9 ha h4';refine⟨d,hg,hd,hev,?_⟩;rw[hev] at h4';injection h4' with h4';injection h4' with e1 e2;subst e1 e2;rw[h5];show (⟨putA (U j).a (U0 ops j) _,_⟩:St)=_;rw[hd];rfl
theorem ad2{j:Nat}(hj:j<ops.size)(h:C3 tr E.P ops j≠0):∃b,pc7 E (T j).a (Pb4 ops j)=some b /\
  (b=true->∃x H',(evalOp E (T j).a (Ob0 (T j).H (Ma6 (T j).a (Ib8 tr E.P ops M j).hide)) (K0 tr E.P ops j)).run=some (x,H') /\
   T (j+1)=⟨putA (T j).a (U0 ops j) x,Ma7 (T j).H H' (Ma6 (T j).a (Ib8 tr E.P ops M j).hide)⟩) /\
  (b=false->T (j+1)=⟨putA (T j).a (U0 ops j) (.v (.tuple #[])),(T j).H⟩):=by
 have hst:=hT.t j hj;unfold pb2 at hst;rw[(ce0 hD hj h).2] at hst;obtain⟨b,h1,h2,h3⟩:=Ub4 hst;exact⟨b,h1,λhb=>nd0 (h2 hb),h3⟩
theorem ad3{t:Nat}:∀(d u:Nat),u+d<=ops.size->(∀j,u<=j->j<u+d->C3 tr E.P ops j=0->U0 ops j≠some t)->(U (u+d)).a[t]?=(U u).a[t]?
 |0,u,_,_=>rfl
 |d+1,u,hb,hn=>by
  have ih:=ad3 d u (by omega) λj h1 h2=>hn j h1 (by omega)
  rw[<- ih];show (U (u+d+1)).a[t]?=_;by_cases hk:C3 tr E.P ops (u+d)=0
  ·obtain⟨d',_,hd',_,hU⟩:=bb2 hD hT (j:=u+d) (by omega) hk
   rw[hU];exact Ub7 (hd' ▸ hn (u+d) (by omega) (by omega) hk)
  ·rw[ad1 hD hT (by omega) hk]
theorem Pb5{t:Nat}:∀(d u:Nat),u+d<=ops.size->(∀j,u<=j->j<u+d->C3 tr E.P ops j≠0->U0 ops j≠some t)->(T (u+d)).a[t]?=(T u).a[t]?
 |0,u,_,_=>rfl
 |d+1,u,hb,hn=>by
  have ih:=Pb5 d u (by omega) λj h1 h2=>hn j h1 (by omega)
  rw[<- ih];show (T (u+d+1)).a[t]?=_;by_cases hk:C3 tr E.P ops (u+d)=0
  ·rw[Ub8 hD hT (by omega) hk]
  ·obtain⟨b,h1,h2,h3⟩:=ad2 hD hT (j:=u+d) (by omega) hk
   have hne:=hn (u+d) (by omega) (by omega) hk
   cases b with
   |true =>
    obtain⟨x,H',_,h5⟩:=h2 rfl;rw[h5];exact Ub7 hne
   |false=>rw[h3 rfl];exact Ub7 hne
theorem yb1:∀j,j<=ops.size->(U j).a.length=s.a.length/\(T j).a.length=s.a.length:=by
 have hu:∀j,j<=ops.size->(U j).a.length=s.a.length:=by
  intro j
  induction j with
  |zero=>intro _;rw[hT.u0]
  |succ j ih =>
   intro hj;by_cases hk:C3 tr E.P ops j=0
   ·obtain⟨d',_,hd',_,hU⟩:=bb2 hD hT (j:=j) (by omega) hk
    rw[hU];simp only[Ub6];exact ih (by omega)
   ·rw[ad1 hD hT (by omega) hk];exact ih (by omega)
 intro j
 induction j with
 |zero=>intro _;exact⟨hu 0 (by omega),by rw[hT.t0];exact hu _ (Qac _)⟩
 |succ j ih =>
  intro hj;refine⟨hu _ hj,?_⟩;by_cases hk:C3 tr E.P ops j=0
  ·rw[Ub8 hD hT (by omega) hk];exact (ih (by omega)).2
  ·obtain⟨b,h1,h2,h3⟩:=ad2 hD hT (j:=j) (by omega) hk
   cases b with
   |true =>
    obtain⟨x,H',_,h5⟩:=h2 rfl;rw[h5];simp only[Ub6];exact (ih (by omega)).2
   |false=>rw[h3 rfl];simp only[Ub6];exact (ih (by omega)).2
theorem ce1{j:Nat}(hj:j<ops.size)(hl:ob6 (K0 tr E.P ops j)=false):Agr (T j).a (T ops.size).a (Ob5 (Pb4 ops j)++ab7 (K0 tr E.P ops j)):=λt ht=>by
 have:=Pb5 hD hT (t:=t) (ops.size-j) j (by omega) λi h1 h2 hk he=>by
  have hi:i<ops.size:=by omega
  rcases (hD.slots hi hj he).1 ht with hb|hb
  ·have:=kb0 hD hj hi hb
   omega
  ·rw[hl] at hb;cases hb.1
 grind
theorem Me0{j d:Nat}(hj:j<ops.size)(hd:U0 ops j=some d):(T ops.size).a[d]?=(T (j+1)).a[d]?:=by
 have:=Pb5 hD hT (t:=d) (ops.size-(j+1)) (j+1) (by omega) λi h1 h2 hk he=>by
  have hi:i<ops.size:=by omega
  rcases (hD.slots hi hj he).2 with h|h
  ·omega
  ·exact h hd
 grind
theorem ad4{j d v:Nat}(hj:j<ops.size)(h:C3 tr E.P ops j=0)(hd:U0 ops j=some d)(hlt:d<s.a.length)(hv:v<=ops.size):(T v).a[d]?=some (pc8 (K0 tr E.P ops j) (U j).H.length):=by
 have hne:∀i,i<ops.size->i≠j->U0 ops i≠some d:=λi hi hij he=>by
  rcases (hD.slots hi hj he).2 with h|h
  ·exact hij h
  ·exact h hd
 have h1:=Pb5 hD hT (t:=d) v 0 (by omega) λi _ h2 hk=>hne i (by omega) λe=>hk (e ▸ h)
 rw[Qbh] at h1;rw[h1,hT.t0];have h2:=ad3 hD hT (t:=d) (ops.size-(j+1)) (j+1) (by omega) λi h3 h4 _=>hne i (by omega) (by omega)
 rw[show j+1+(ops.size-(j+1))=ops.size by omega] at h2
 rw[h2];obtain⟨d',_,hd',_,hU⟩:=bb2 hD hT hj h
 have:d'=d:=Qah (hd'.symm.trans hd)
 subst this;rw[hU];exact vc1 (by rw[(yb1 hD hT j (by omega)).1];exact hlt)
theorem ad5:∀(d u:Nat),u+d<=ops.size->∃l,(U (u+d)).H=(U u).H++l
 |0,u,_=>⟨[],by simp⟩
 |d+1,u,hb=>by
  obtain⟨l,hl⟩:=ad5 d u (by omega)
  show ∃l,(U (u+d+1)).H=_;by_cases hk:C3 tr E.P ops (u+d)=0
  ·obtain⟨d',_,hd',_,hU⟩:=bb2 hD hT (j:=u+d) (by omega) hk
   simp_all
  ·exact⟨l,by rw[ad1 hD hT (by omega) hk,hl]⟩
theorem jf7{i j:Nat}(hij:i<j)(hj:j<=ops.size)(hk:C3 tr E.P ops i=0):(U i).H.length<(U j).H.length:=by
 obtain⟨d',_,hd',_,hU⟩:=bb2 hD hT (j:=i) (by omega) hk
 obtain⟨l,hl⟩:=ad5 hD hT (j-(i+1)) (i+1) (by omega)
 rw[show i+1+(j-(i+1))=j by omega] at hl
 rw[hl,hU];simp
theorem Ad9{j:Nat}(hj:j<=ops.size):s.H.length<=(U j).H.length/\∀i,i<s.H.length->(U j).H[i]?=s.H[i]?:=by
 obtain⟨l,hl⟩:=ad5 hD hT j 0 (by omega)
 rw[Qbh,hT.u0] at hl
 grind
theorem Bd0{j:Nat}(hj:j<ops.size)(hk:C3 tr E.P ops j=0):(T 0).H[(U j).H.length]?=some (Zc8 (K0 tr E.P ops j)):=by
 obtain⟨d',_,hd',_,hU⟩:=bb2 hD hT hj hk;obtain⟨l,hl⟩:=ad5 hD hT (ops.size-(j+1)) (j+1) (by omega)
 rw[show j+1+(ops.size-(j+1))=ops.size by omega,hU] at hl
 rw[hT.t0,hl];simp
theorem ce2:∀(v:Nat),v<=ops.size->∀id,s.H.length<=id->id<(U v).H.length->∃j,j<v/\C3 tr E.P ops j=0/\id=(U j).H.length
 |0,_,id,h1,h2=>by rw[hT.u0] at h2;omega
 |v+1,hv,id,h1,h2=>by
  by_cases hk:C3 tr E.P ops v=0
  ·obtain⟨d',_,hd',_,hU⟩:=bb2 hD hT (j:=v) (by omega) hk
   rw[hU] at h2
   simp at h2
   by_cases he:id<(U v).H.length
   ·obtain⟨j,h3,h4,h5⟩:=ce2 v (by omega) id h1 he
    grind
   grind
  ·rw[ad1 hD hT (by omega) hk] at h2
   obtain⟨j,h3,h4,h5⟩:=ce2 v (by omega) id h1 h2
   grind
end
section
variable{E:Env}{a a':List b9}
theorem Ub9{o:PO}(h:Agr a a' (ab7 o)):wa8 E a o=wa8 E a' o:=by
 cases o with
 |load ks n agg x=>simp only[wa8,Qdh (E:=E) (x:=x) h]
 |idxS es x i=>simp only[wa8,Qdh (E:=E) h.left]
 |slice es x lo hi=>simp only[wa8,Qdh (E:=E) h.left.left]
 |_=>rfl
theorem Lc6{o:PO}(h:Agr a a' (ab7 o)):D9 E a o=D9 E a' o:=by
 cases o with
 |store n x y=>simp only[D9,Qdh (E:=E) h.left]
 |append et es by' x y=>simp only[D9,Qdh (E:=E) h.left]
 |copy es x y=>simp only[D9,Qdh (E:=E) h.left]
 |apre es x y=>simp only[D9,Qdh (E:=E) h.left]
 |clr es z x=>simp only[D9,Qdh (E:=E) h]
 |call f xs=>simp only[D9,Agr.args (E:=E) h]
 |calld x xs=>simp only[D9,Agr.args (E:=E) h.right,Qdh (E:=E) h.left]
 |invk tbl x xs=>simp only[D9,Agr.args (E:=E) h.right,Qdh (E:=E) h.left]
 |_=>rfl
theorem Vb0{o:PO}(h:ob6 o=true):wa8 E a o=[]:=by cases o<;>first | rfl | cases h
theorem Kb5{o:PO}(h:ob6 o=true):D9 E a o=[]:=by cases o<;>first | rfl | cases h
theorem zc2:∀{l:List (PO×PO)},qa0 E a l=true->∀{p:PO×PO},p∈l->∀id∈wa8 E a p.1,id∉D9 E a p.2
 |[],_,p,hp=>by cases hp
 |q::l,h,p,hp=>by
  have e:qa0 E a (q::l)=Bool.rec false (qa0 E a l) (Ua1 (wa8 E a q.1) (D9 E a q.2)):=rfl;rw[e] at h;cases hq:Ua1 (wa8 E a q.1) (D9 E a q.2) with
  |false=>rw[hq] at h;cases h
  |true =>
   rw[hq] at h
   rcases Qbp.1 hp with rfl|hp
   ·exact dc0 hq
   ·exact zc2 h hp
theorem Pb6:∀{l:List PI},ab4 a l=true->∀p∈l,∀d,p.dst=some d->d<a.length
 |[],_,p,hp=>by cases hp
 |q::l,h,p,hp=>λd hd=>by
  have e:ab4 a (q::l)=(match q.dst with
   |some d=>match nth a d with
    |some _=>ab4 a l
    |none=>false
   |none=>false):=rfl
  rw[e] at h;cases hq:q.dst with
  |none=>simp[hq] at h
  |some d' =>
  simp only[hq,p9] at h;cases hn:a[d']? with
  |none=>simp[hn] at h
  |some x =>
  simp only[hn] at h
  rcases Qbp.1 hp with rfl|hp
  ·have:d'=d:=Qah (hq.symm.trans hd)
   subst this;exact (Qab.1 hn).1
  ·exact Pb6 h p hp d hd
theorem zc3{tr:Nat}{P:Program}{ops:Array Oper}{j:Nat}:C3 tr P ops j=0↔Ia9 (ma3 ops j)=true:=by
 refine⟨zc0,λh=>?_⟩
 unfold C3 Jb9;rw[if_pos h]
end
section
variable{tr:Nat}{E:Env}{ops:Array Oper}{M:List Nat}{ks:List (Nat×PI)}{s:St}{U T:Nat->St}
variable(hD:DC tr E.P ops M ks)(hT:zc1 E ops ks s U T)(hin:∀j,j<ops.size->C3 tr E.P ops j=0->∀d,U0 ops j=some d->d<s.a.length)
include hD hT
theorem ce3{j:Nat}(hj:j<ops.size):wa8 E (T j).a (K0 tr E.P ops j)=wa8 E (T ops.size).a (K0 tr E.P ops j):=by
 cases hl:ob6 (K0 tr E.P ops j) with
 |true=>rw[Vb0 hl,Vb0 hl]
 |false=>exact Ub9 (ce1 hD hT hj hl).right
theorem Td7{j:Nat}(hj:j<ops.size):D9 E (T j).a (K0 tr E.P ops j)=D9 E (T ops.size).a (K0 tr E.P ops j):=by
 cases hl:ob6 (K0 tr E.P ops j) with
 |true=>rw[Kb5 hl,Kb5 hl]
 |false=>exact Lc6 (ce1 hD hT hj hl).right
theorem vc2{j:Nat}(hj:j<ops.size)(h:C3 tr E.P ops j=1):∃b x,pc7 E (T j).a (Pb4 ops j)=some b/\T (j+1)=⟨putA (T j).a (U0 ops j) x,(T j).H⟩ /\
  (b=true->(evalOp E (T j).a (T j).H (K0 tr E.P ops j)).run=some (x,(T j).H))/\(b=false->x=.v (.tuple #[])):=by
 obtain⟨b,h1,h2,h3⟩:=ad2 hD hT hj (by omega)
 have hh:(Ib8 tr E.P ops M j).hide=[]:=by simp[Ib8,h]
 cases b with
 |true =>
  obtain⟨x,H',h4,h5⟩:=h2 rfl;rw[hh] at h4 h5;have h4':(evalOp E (T j).a (T j).H (K0 tr E.P ops j)).run=some (x,H'):=h4;have he:=(Tb9 (nd2 h) h4').1;subst he;exact⟨true,x,h1,h5,λ_=>h4',λh=>by cases h⟩
 |false=>exact⟨false,_,h1,h3 rfl,λh=>(by cases h),λ_=>rfl⟩
theorem Bd1:∀(d u:Nat),u+d<=ops.size->(∀j,u<=j->j<u+d->C3 tr E.P ops j≠2)->(T (u+d)).H=(T u).H
 |0,u,_,_=>rfl
 |d+1,u,hb,hn=>by
  have ih:=Bd1 d u (by omega) λj h1 h2=>hn j h1 (by omega)
  rw[<- ih];show (T (u+d+1)).H=_
  rcases jb9 (tr:=tr) (P:=E.P) (ops:=ops) (u+d) with hk|hk|hk
  ·rw[Ub8 hD hT (by omega) hk]
  ·obtain⟨b,x,_,h2,_⟩:=vc2 hD hT (j:=u+d) (by omega) hk
   rw[h2]
  ·exact absurd hk (hn (u+d) (by omega) (by omega))
include hin
theorem xe3{j:Nat}(hj:j<ops.size)(h:C3 tr E.P ops j=2)(id:Nat):id∈Ma6 (T j).a (Ib8 tr E.P ops M j).hide↔∃b,b<ops.size/\C3 tr E.P ops b=0/\p8 M b j=false/\id=(U b).H.length:=by
 have hh:(Ib8 tr E.P ops M j).hide=cc5 ops M j:=by simp[Ib8,h]
 rw[hh];unfold Ma6;rw[k9,Qbz];constructor
 ·rintro⟨d,hd,he⟩;unfold cc5 at hd;rw[Qde] at hd;obtain⟨b,hb,hb2⟩:=hd;have hb1:=Qcj.1 hb;simp only[aa9 hb1] at hb2
  split at hb2
  ·rename_i hc;rw[Qbd,Qdb] at hc;have hk:C3 tr E.P ops b=0:=zc3.2 hc.1;have ha:=ad4 hD hT hb1 hk hb2 (hin b hb1 hk d hb2) (v:=j) (by omega)
   rw[p9,ha] at he;exact⟨b,hb1,hk,hc.2,by rw[<- he];cases K0 tr E.P ops b<;>rfl⟩
  ·cases hb2
 ·rintro⟨b,hb1,hk,hc,rfl⟩;obtain⟨d,hd⟩:=hD.allocDst hb1 hk;refine⟨d,?_,?_⟩
  ·unfold cc5;rw[Qde];refine⟨b,Qcj.2 hb1,?_⟩;have h2:(Ia9 (ma3 ops b)&&!p8 M b j)=true:=by rw[zc3.1 hk,hc];rfl
   simp only[aa9 hb1,h2,if_true];exact hd
  ·rw[p9,ad4 hD hT hb1 hk hd (hin b hb1 hk d hd) (v:=j) (by omega)]
   cases K0 tr E.P ops b<;>rfl
theorem ad6{j:Nat}(hj:j<ops.size)(h:C3 tr E.P ops j=2):∃b x,pc7 E (T j).a (Pb4 ops j)=some b/\(T (j+1)).a=putA (T j).a (U0 ops j) x /\
  (b=true->∃hid H',(∀id,id∈hid↔∃b,b<ops.size/\C3 tr E.P ops b=0/\p8 M b j=false/\id=(U b).H.length) /\
   (evalOp E (T j).a (U9 (T j).H (·∈hid)) (K0 tr E.P ops j)).run=some (x,H')/\(T (j+1)).H=Ma7 (T j).H H' hid) /\
  (b=false->x=.v (.tuple #[])/\(T (j+1)).H=(T j).H):=by
 obtain⟨b,h1,h2,h3⟩:=ad2 hD hT hj (by omega)
 cases b with
 |true =>
  obtain⟨x,H',h4,h5⟩:=h2 rfl;rw[Td5] at h4;exact⟨true,x,h1,by rw[h5],λ_=>⟨_,H',xe3 hD hT hin hj h,h4,by rw[h5]⟩,λh=>by cases h⟩
 |false=>exact⟨false,_,h1,by rw[h3 rfl],λh=>(by cases h),λ_=>⟨rfl,by rw[h3 rfl]⟩⟩
omit hD hT hin in
theorem Sc1{H:List c7}{l:List Nat}(hb:∀id∈l,id<H.length):w6 (·∈l) (U9 H (·∈l)) (U9 H (·∈l)) (U9 H (·∈l)) (U9 H (·∈l)) :=
 ⟨rfl,λ_ _=>rfl,λid b hD hb=>by
  rw[da5 hD] at hb;simp only[Qce] at hb;obtain⟨c,_,rfl⟩:=hb
  rfl,λ_ _=>rfl,λ_ _=>rfl,λid h=>by rw[Ta8];exact hb id h⟩
theorem ad7{b:Nat}(hb:b<ops.size)(hk:C3 tr E.P ops b=0):∀(v:Nat),v<=ops.size->(∀h,h<v->C3 tr E.P ops h=2->p8 M b h=false)->(T v).H[(U b).H.length]?=(T 0).H[(U b).H.length]?
 |0,_,_=>rfl
 |v+1,hv,hn=>by
  have ih:=ad7 hb hk v (by omega) λh h1=>hn h (by omega)
  rw[<- ih]
  rcases jb9 (tr:=tr) (P:=E.P) (ops:=ops) v with h0|h0|h0
  ·rw[Ub8 hD hT (by omega) h0]
  ·obtain⟨b,x,_,h2,_⟩:=vc2 hD hT (j:=v) (by omega) h0
   rw[h2]
  ·obtain⟨bb,x,h1,_,h3,h4⟩:=ad6 hD hT hin (j:=v) (by omega) h0
   cases bb with
   |false=>rw[(h4 rfl).2]
   |true =>
    obtain⟨hid,H',h5,h6,h7⟩:=h3 rfl;rw[h7]
    -- every Ma6 block stands in the heap
    have hall:∀id∈hid,id<(T v).H.length:=λid hid'=>by
     obtain⟨b',k1,k2,k3,rfl⟩:=(h5 id).1 hid'
     have:=ad7 k1 k2 v (by omega) λh h1 h2=>by
      cases hc:p8 M b' h with
      |false=>rfl
      |true =>
       rw[(hD.chain h1 (by omega) h2 h0).2 b' hc] at k3
       cases k3
     have hz:=Bd0 hD hT k1 k2;rw[hz] at this;exact (Qab.1 this).1
    have hm:(U b).H.length∈hid:=(h5 _).2 ⟨b,hb,hk,hn v (by omega) h0,rfl⟩
    obtain⟨H2',_,hM⟩:=(Sc1 hall).evalOp (E:=E) (a:=(T v).a) (Ub5 h0) h6;refine dc2 hm (hall _ hm) ?_;exact hM.bound _ hm
theorem ce4{j:Nat}(hj:j<ops.size)(h0:C3 tr E.P ops j=2){b:Nat}(k1:b<ops.size)(k2:C3 tr E.P ops b=0)(k3:p8 M b j=false):(U b).H.length<(T j).H.length:=by
 have:=ad7 hD hT hin k1 k2 j (by omega) λh h1 h2=>by
  cases hc:p8 M b h with
  |false=>rfl
  |true =>
   rw[(hD.chain h1 hj h2 h0).2 b hc] at k3;cases k3
 have hz:=Bd0 hD hT k1 k2;rw[hz] at this;exact (Qab.1 this).1
theorem xe4{j:Nat}(hj:j<ops.size){id:Nat}(hn:C3 tr E.P ops j=2->id∉D9 E (T ops.size).a (K0 tr E.P ops j)):F4 (T j).H (T (j+1)).H id:=by
 rcases jb9 (tr:=tr) (P:=E.P) (ops:=ops) j with h0|h0|h0
 ·rw[Ub8 hD hT hj h0];exact .refl _ _
 ·obtain⟨b,x,_,h2,_⟩:=vc2 hD hT hj h0;rw[h2];exact .refl _ _
 ·obtain⟨bb,x,h1,_,h3,h4⟩:=ad6 hD hT hin hj h0;cases bb with
  |false=>rw[(h4 rfl).2];exact .refl _ _
  |true =>
   obtain⟨hid,H',h5,h6,h7⟩:=h3 rfl;rw[h7];have hall:∀id∈hid,id<(T j).H.length:=λid hid'=>by
    obtain⟨b',k1,k2,k3,rfl⟩:=(h5 id).1 hid';exact ce4 hD hT hin hj h0 k1 k2 k3
   obtain⟨H2',_,hM⟩:=(Sc1 hall).evalOp (E:=E) (a:=(T j).a) (Ub5 h0) h6;intro b hb;by_cases hm:id∈hid
   ·refine⟨b,?_,.refl b⟩;rw[dc2 hm (hall _ hm) (hM.bound _ hm)];exact hb
   ·rw[yc8 hm];have hslots:D9 E (T j).a (K0 tr E.P ops j)=D9 E (T ops.size).a (K0 tr E.P ops j):=Td7 hD hT hj;exact Zc6 (Ub5 h0) h6 (by rw[hslots];exact hn h0) b (by rw[L8 (D:=(·∈hid)) hm];exact hb)
theorem Bd2{id:Nat}:∀(d u:Nat),u+d<=ops.size->(∀j,u<=j->j<u+d->C3 tr E.P ops j=2->id∉D9 E (T ops.size).a (K0 tr E.P ops j))->F4 (T u).H (T (u+d)).H id
 |0,u,_,_=>.refl _ _
 |d+1,u,hb,hn =>
  (Bd2 d u (by omega) λj h1 h2=>hn j h1 (by omega)).trans (xe4 hD hT hin (j:=u+d) (by omega) (hn (u+d) (by omega) (by omega)))
end
section
variable{W:Nat->Prop}{ρ ρ':Rho}{H H':List c7}{F F':Fz}{w w':World}
def Sc2(ρ:Rho)(H:List c7)(ρ':Rho)(H':List c7):Prop:=∀(id:Nat) b,H[id]?=some b->b.dead=false->∃b',H'[id]?=some b'/\b'.dead=false/\b.g<=b'.g/\(b'.g=b.g->ρ' id=ρ id/\b'.es=b.es/\b.elems.length<=b'.elems.length)
section
variable(hk:Sc2 ρ H ρ' H')(hm:∀b o,F b o->F' b o)(hc:∀b o,F b o->w'.cell? ⟨b,o,none⟩=w.cell? ⟨b,o,none⟩)
include hk hm hc
theorem J9.carry{x:b9}{x':Value}(h:J9 ρ H F w x x'):J9 ρ' H' F' w' x x':=by
 cases h with
 |mem h=>exact .mem (h.adv hm hc)
 |v=>exact .v _
 |ptr id i c g a b hb hd hg h =>
  obtain⟨b',hb',hd',hg',e⟩:=hk id b hb hd;refine .ptr id i c g a b' hb' hd' (Qad hg hg') λhge=>?_
  grind
 |sl id off n g a cap b hb hd hg hn hs hm h =>
  obtain⟨b',hb',hd',hg',e⟩:=hk id b hb hd;refine .sl id off n g a cap b' hb' hd' (Qad hg hg') hn hs hm λhge=>?_
  grind
 |tptr cs a vs hs hF hw hr=>exact .tptr cs a vs hs (λc hlt=>hm _ _ (hF c hlt)) (λc hlt=>(hc _ _ (hF c hlt)).trans (hw c hlt)) (λc hlt=>(hr c hlt).adv hm hc)
 |unk x'=>exact .unk x'
theorem S5.carry{x:b9}{x':Value}(h:S5 ρ H F w x x'):S5 ρ' H' F' w' x x':=by
 cases h with
 |cell h=>exact .cell (h.carry hk hm hc)
 |agg cs vs hl h=>exact .agg cs vs hl λi x x' hx hx'=>(h i x x' hx hx').carry hk hm hc
 |fn f caps vs hl h=>exact .fn f caps vs hl λi x x' hx hx'=>(h i x x' hx hx').carry hk hm hc
theorem v8.carry{x:b9}{x':Value}(h:v8 ρ H F w x x'):v8 ρ' H' F' w' x x':=by
 cases h with
 |val h=>exact .val (h.carry hk hm hc)
 |tup xs vs hl h=>exact .tup xs vs hl λi x x' hx hx'=>(h i x x' hx hx').carry hk hm hc
theorem da4.carry{a:List b9}{vs:Array Value}(h:da4 ρ H F w a vs):da4 ρ' H' F' w' a vs :=
 ⟨h.1,λi x x' hx hx'=>(h.2 i x x' hx hx').carry hk hm hc⟩
end
end
section
variable{W:Nat->Prop}{ρ0:Rho}{H0:List c7}{F0:Fz}{w0 w:World}
variable{tr:Nat}{E:Env}{ops:Array Oper}{M:List Nat}{ks:List (Nat×PI)}{s:St}{U T:Nat->St}
def r9(listed:Array Bool)(j:Nat):Prop:=listed.getD j true=true
def F8(tr:Nat)(P:Program)(ops:Array Oper)(U:Nat->St)(listed:Array Bool)(id:Nat):Prop:=∃b,b<ops.size/\C3 tr P ops b=0/\¬ r9 listed b/\id=(U b).H.length
def L9(ops:Array Oper)(listed:Array Bool)(t:Nat):Prop:=∃i,i<ops.size/\U0 ops i=some t/\¬ r9 listed i
theorem G5{listed:Array Bool}{i j:Nat}(hi:i<listed.size):r9 (listed.setIfInBounds i true) j↔r9 listed j\/j=i:=by
 unfold r9;by_cases e:i=j
 ·simp_all
 ·have:j≠i:=λh=>e h.symm
  simp_all
theorem pb3{listed:Array Bool}{i:Nat}(h:i∈Region.ready .any ops listed):i<ops.size/\¬ r9 listed i/\(listed.size=ops.size->∀e∈w8 (ma3 ops i),e<ops.size->r9 listed e):=by
 unfold Region.ready at h;rw[List.mem_filter] at h;obtain⟨h1,h2⟩:=h;have hi:=Qcj.1 h1;rw[aa9 hi] at h2;simp only[Option.map_some,Option.getD_some,Qbd,Qdb] at h2;refine⟨hi,λh=>?_,λhsz e he hlt=>?_⟩
 ·unfold r9 at h;rw[h] at h2;cases h2.1
 ·obtain⟨ed,h3,h4,h5⟩:=xa1.1 he;have h6:(ma3 ops i).after.all (λe=>!Region.binds .any e||listed.getD e.on false)=true:=h2.2
  rw[Qdd] at h6;have h7:=h6 ed h3;rw[h4,h5] at h7;simp only[Bool.not_true,Bool.false_or] at h7;unfold r9
  simp_all
variable(hD:DC tr E.P ops M ks)(hT:zc1 E ops ks s U T)(hin:∀j,j<ops.size->C3 tr E.P ops j=0->∀d,U0 ops j=some d->d<s.a.length)
include hD
theorem Td8{listed:Array Bool}(hsz:listed.size=ops.size){i:Nat}(hi:i<ops.size){x:b9}(hx:∀d,U0 ops i=some d->d<(T ops.size).a.length->(T ops.size).a[d]?=some x) :
  Ea9 (T ops.size).a s.a (L9 ops (listed.setIfInBounds i true))=putA (Ea9 (T ops.size).a s.a (L9 ops listed)) (U0 ops i) x:=by
 refine Qcd λt=>?_
 have hopen:∀t,U0 ops i≠some t->(L9 ops (listed.setIfInBounds i true) t↔L9 ops listed t):=λt hne=>by
  constructor
  ·rintro⟨j,h1,h2,h3⟩;exact⟨j,h1,h2,λh=>h3 ((G5 (hsz ▸ hi)).2 (.inl h))⟩
  ·rintro⟨j,h1,h2,h3⟩;refine⟨j,h1,h2,λh=>?_⟩
   rcases (G5 (hsz ▸ hi)).1 h with h|h
   ·exact h3 h
   ·subst h;exact hne h2
 by_cases hd:U0 ops i=some t
 ·have hno : ¬ L9 ops (listed.setIfInBounds i true) t := by
   rintro⟨j,h1,h2,h3⟩
   rcases (hD.slots hi h1 hd).2 with h|h
   ·exact h3 ((G5 (hsz ▸ hi)).2 (.inr h.symm))
   ·exact h h2
  rw[Ga1 hno,hd]
  rcases Qan t (T ops.size).a.length with hlt|hge
  ·rw[vc1 (by rw[Ga0];exact hlt)]
   exact hx t hd hlt
  ·rw[Qal hge,Qal (by rw[Ub6,Ga0];exact hge)]
 ·rw[Ub7 hd];by_cases ho:L9 ops listed t
  ·rcases Qan t (T ops.size).a.length with hlt|hge
   ·rw[Ub3 ho hlt,Ub3 ((hopen t hd).2 ho) hlt]
   ·rw[Qal (by rw[Ga0];exact hge),Qal (by rw[Ga0];exact hge)]
  ·rw[Ga1 ho,Ga1 λh=>ho ((hopen t hd).1 h)]
include hT
end
section
variable{W:Nat->Prop}{ρ0:Rho}{H0:List c7}{F0:Fz}{w0 w:World}
variable{tr:Nat}{E:Env}{ops:Array Oper}{M:List Nat}{ks:List (Nat×PI)}{s:St}{U T:Nat->St}
variable(hD:DC tr E.P ops M ks)(hT:zc1 E ops ks s U T)(hin:∀j,j<ops.size->C3 tr E.P ops j=0->∀d,U0 ops j=some d->d<s.a.length)
variable(hpairs:qa0 E (T ops.size).a (ka9 ops.size M ks)=true)
variable(hG0:GOk E F0 w0)(hcalls:∀f,e8 E.P E.G f (E.call f))
theorem Sc3{listed:Array Bool}(hsz:listed.size=ops.size){i:Nat}(hi:i<ops.size)(hk:C3 tr E.P ops i≠0):F8 tr E.P ops U (listed.setIfInBounds i true)=F8 tr E.P ops U listed:=by
 funext id;refine propext ⟨λ⟨b,h1,h2,h3,h4⟩=>⟨b,h1,h2,λh=>h3 ((G5 (hsz ▸ hi)).2 (.inl h)),h4⟩,λ⟨b,h1,h2,h3,h4⟩=>⟨b,h1,h2,λh=>?_,h4⟩⟩
 rcases (G5 (hsz ▸ hi)).1 h with h|h
 ·exact h3 h
 ·subst h;exact hk h2
include hD
include hT hin hpairs hG0 hcalls
end
section
variable{W:Nat->Prop}{ρ0:Rho}{H0:List c7}{F0:Fz}{w0 w:World}
variable{tr:Nat}{E:Env}{ops:Array Oper}{M:List Nat}{ks:List (Nat×PI)}{s:St}{U T:Nat->St}
variable(hD:DC tr E.P ops M ks)(hT:zc1 E ops ks s U T)(hin:∀j,j<ops.size->C3 tr E.P ops j=0->∀d,U0 ops j=some d->d<s.a.length)(hlen:H0.length<=s.H.length)
include hD hT hin hlen
omit hT hin hlen in
theorem Sc4{listed:Array Bool}(hsz:listed.size=ops.size)(h:Region.ready .any ops listed=[]):∀j,j<ops.size->r9 listed j:=by
 intro j
 induction j using Nat.strongRecOn with
 |_ j ih =>
  intro hj;apply Qbx;intro hn;have hmem:j∈Region.ready .any ops listed:=by
   unfold Region.ready;rw[List.mem_filter];refine⟨Qcj.2 hj,?_⟩;rw[aa9 hj];simp only[Option.map_some,Option.getD_some,Qbd,Qdb];refine⟨by unfold r9 at hn;simpa using hn,?_⟩
   rw[Qdd];intro e he;cases hb:Region.binds .any e with
   |false=>rfl
   |true =>
    have hd:e.on∈w8 (ma3 ops j):=xa1.2 ⟨e,he,hb,rfl⟩;have hlt:=Gb0 hD.rows (aa9 hj) hd
    have:=ih e.on hlt (by omega)
    unfold r9 at this
    grind
  rw[h] at hmem;cases hmem
def B0(listed:Array Bool):Nat:=(listed.toList.filter λb=>!b).length
omit hD hT hin hlen in
theorem sa3:∀(l:List Bool) (i:Nat),l[i]?=some false->((l.set i true).filter λb=>!b).length+1=(l.filter λb=>!b).length
 |[],i,h=>by simp at h
 |b::l,0,h=>by
  simp at h
  subst h;simp
 |b::l,i+1,h=>by
  have ih:=sa3 l i (by simpa using h)
  grind
omit hD hT hin hlen in
theorem Ba1{listed:Array Bool}(h:B0 listed=0)(j:Nat):r9 listed j:=by
 unfold B0 at h;unfold r9;rw[List.length_eq_zero_iff,List.filter_eq_nil_iff] at h
 rcases Qan j listed.size with hj|hj
 ·have:=h listed[j] (by simp)
  simp_all
 simp_all
variable(hpairs:qa0 E (T ops.size).a (ka9 ops.size M ks)=true)(hG0:GOk E F0 w0)(hcalls:∀f,e8 E.P E.G f (E.call f))
include hpairs hG0 hcalls
end
abbrev Sum:=List b9->List c7->DT (b9×List c7)
def ALe(x y:b9):Prop:=∀ρ H F w v,v8 ρ H F w x v->v8 ρ H F w y v
theorem ALe.refl(x:b9):ALe x x:=λ_ _ _ _ _ h=>h
inductive zc4:List b9->List b9->Prop
 |nil:zc4 [] []
 |cons {x y l r} (h:ALe x y) (t:zc4 l r):zc4 (x::l) (y::r)
theorem zc4.refl:∀l,zc4 l l
 |[]=>.nil
 |x::l=>.cons (.refl x) (zc4.refl l)
theorem zc4.length{l r}(h:zc4 l r):l.length=r.length:=by induction h<;>simp_all
theorem zc4.get{l r}(h:zc4 l r):∀(i:Nat) y,r[i]?=some y->∃x,l[i]?=some x/\ALe x y:=by
 induction h with
 |nil=>intro i y hy;simp at hy
 |cons h t ih =>
  grind
theorem e8.refine{P:Program}{G:Nat->List Value}{f:FuncId}{S S':Sum}(h:e8 P G f S)
  (hr:∀args blks r,(S' args blks).run=some r->∃xb4,zc4 args xb4/\(S xb4 blks).run=some r):e8 P G f S':=by
 intro args blks r out he W ρ F w args' hH hlen hargs hG;obtain⟨xb4,ha,he2⟩:=hr args blks _ he;refine h xb4 blks r out he2 W ρ F w args' hH (ha.length ▸ hlen) (λi y x' hy hx'=>?_) hG
 obtain⟨x,hx,hle⟩:=ha.get i y hy;exact hle _ _ _ _ _ (hargs i x x' hx hx')
def Ve2(l:List (Nat×Sum)):FuncId->Sum :=
 List.rec (motive:=λ_=>FuncId->Sum) (λ_ _ _=>.fail) (λp _ ih f=>Bool.rec (motive:=λ_=>Sum) (ih f) p.2 (Nat.beq p.1 f)) l
def o4(P:Program)(G:Nat->List Value):List (Nat×Sum)->Prop
 |[]=>True
 |p::l=>e8 P G p.1 p.2/\o4 P G l
theorem Id9{P:Program}{G:Nat->List Value}:∀{l:List (Nat×Sum)},o4 P G l->∀f,e8 P G f (Ve2 l f)
 |[],_,f=>λargs blks r out h=>by cases h
 |(n,S)::l,h,f=>by
  show e8 P G f (Bool.rec (motive:=λ_=>Sum) (Ve2 l f) S (Nat.beq n f))
  cases hb:Nat.beq n f with
  |false=>exact Id9 h.2 f
  |true=>rw[<- Qae hb];exact h.1
inductive PS where
 |pc (c:PC)
 |seq (a b:PS)
 |cond (c:Arg) (x y:PS)
 |block (id:Nat) (c:PS)
 |loop (keep:List Nat) (c:PS)
 |sum (S:St->DT (d8×St))
def jf8(E:Env)(k:Nat)(c:PS):St->DT (d8×St) :=
 PS.rec (motive:=λ_=>St->DT (d8×St))
  (λc=>A1 E k c)
  (λ_ _ x y s=>(x s).bind λr=>d8.rec (motive:=λ_=>DT (d8×St)) (y r.2) (λid=>.ret (.exit id,r.2)) (.ret (.ret,r.2)) r.1)
  (λc _ _ x y s=>match c9 E s.a c with
   |.v (.bool b)=>.ite b (x s) (y s)
   |_=>.fail)
  (λid _ x s=>(x s).bind λr=>d8.rec (motive:=λ_=>DT (d8×St)) (.ret (.normal,r.2))
   (λid'=>Bool.rec (.ret (.exit id',r.2)) (.ret (.normal,r.2)) (Nat.beq id' id)) (.ret (.ret,r.2)) r.1)
  (λkeep _ x=>vb3 (λs=>tidy k ⟨G4 keep s.a 0,s.H⟩) x E.N)
  (λS=>S) c
def M1{α:Type}(x y:DT α):Prop:=∀r,x.run=some r->y.run=some r
theorem M1.refl{α:Type}(x:DT α):M1 x x:=λ_ h=>h
theorem M1.bind{α β:Type}{x y:DT α}{f g:α->DT β}(h:M1 x y)(hf:∀a,M1 (f a) (g a)):M1 (x.bind f) (y.bind g):=λr hr=>by
 obtain⟨a,h1,h2⟩:=DT.run_bind_some hr;rw[DT.run_bind,h a h1];exact hf a r h2
theorem M1.ite{α:Type}{b:Bool}{x y x' y':DT α}(h:M1 x x')(h':M1 y y'):M1 (.ite b x y) (.ite b x' y'):=λr hr=>by
 rw[DT.run_ite] at hr ⊢
 split at hr
 ·next hb=>simpa [hb] using h r hr
 ·next hb=>simpa [hb] using h' r hr
theorem M1.fail{α:Type}(y:DT α):M1 .fail y:=λ_ h=>by cases h
theorem pb4{head:St->DT St}{body body':St->DT (d8×St)}(h:∀s,M1 (body s) (body' s)):∀n s,M1 (vb3 head body n s) (vb3 head body' n s)
 |0,s=>.refl _
 |n+1,s=>by
  show M1 ((head s).bind λs=>(body s).bind _) ((head s).bind λs=>(body' s).bind _)
  refine M1.bind (.refl _) λs=>(h s).bind λr=>?_
  rcases r with⟨x,s'⟩
  cases x with
  |normal=>exact pb4 h n s'
  |exit id=>exact .refl _
  |ret=>exact .refl _
inductive Ba2 (E:Env) (k:Nat):PS->PC->Prop
 |pc (c:PC):Ba2 E k (.pc c) c
 |seq {a b:PS} {a' b':PC} (h:Ba2 E k a a') (h':Ba2 E k b b'):Ba2 E k (.seq a b) (.seq a' b')
 |cond (c:Arg) {a b:PS} {a' b':PC} (h:Ba2 E k a a') (h':Ba2 E k b b'):Ba2 E k (.cond c a b) (.cond c a' b')
 |block (id:Nat) {a:PS} {a':PC} (h:Ba2 E k a a'):Ba2 E k (.block id a) (.block id a')
 |loop (keep:List Nat) {a:PS} {a':PC} (h:Ba2 E k a a'):Ba2 E k (.loop keep a) (.loop keep a')
 |sum {S:St->DT (d8×St)} {c:PC} (h:∀s,M1 (S s) (A1 E k c s)):Ba2 E k (.sum S) c
theorem Ba2.le{E:Env}{k:Nat}{a:PS}{c:PC}(h:Ba2 E k a c):∀s,M1 (jf8 E k a s) (A1 E k c s):=by
 induction h with
 |pc c=>exact λs=>.refl _
 |seq h h' ih ih' =>
  intro s;refine (ih s).bind λr=>?_
  rcases r with⟨x,s'⟩
  cases x with
  |normal=>exact ih' s'
  |exit id=>exact .refl _
  |ret=>exact .refl _
 |cond c h h' ih ih' =>
  intro s;show M1 (match c9 E s.a c with | .v (.bool b)=>_ | _=>_) (match c9 E s.a c with | .v (.bool b)=>_ | _=>_)
  split
  ·exact .ite (ih s) (ih' s)
  ·exact .fail _
 |block id h ih=>exact λs=>(ih s).bind λr=>.refl _
 |loop keep h ih=>exact λs=>pb4 ih _ s
 |sum h=>exact h
def bb3(head:St->DT St)(body:St->DT (d8×St))(s:St):DT (d8×St) :=
 (body s).bind λr=>d8.rec (motive:=λ_=>DT (d8×St)) ((head r.2).bind λs=>.ret (.normal,s)) (λid=>.ret (.exit id,r.2)) (.ret (.ret,r.2)) r.1
def Pb7(head:St->DT St)(body:St->DT (d8×St))(n:Nat)(s:St):DT (d8×St) :=
 (body s).bind λr=>d8.rec (motive:=λ_=>DT (d8×St)) (vb3 head body n r.2) (λid=>.ret (.exit id,r.2)) (.ret (.ret,r.2)) r.1
theorem Gb1{head:St->DT St}{body:St->DT (d8×St)}{n:Nat}{s t:St}{r:d8×St}(h:(head s).run=some t)(h2:(Pb7 head body n t).run=some r):(vb3 head body (n+1) s).run=some r:=by
 show ((head s).bind λs=>Pb7 head body n s).run=some r
 rw[DT.run_bind,h];exact h2
theorem xe5{head:St->DT St}{body:St->DT (d8×St)}{n:Nat}{s t:St}{r:d8×St}(h:(bb3 head body s).run=some (.normal,t))(h2:(Pb7 head body n t).run=some r):(Pb7 head body (n+1) s).run=some r:=by
 obtain⟨⟨x,s1⟩,h3,h4⟩:=DT.run_bind_some h;cases x with
 |normal =>
  obtain⟨t',h5,h6⟩:=DT.run_bind_some h4;cases h6;show ((body s).bind _).run=_;rw[DT.run_bind,h3];exact Gb1 h5 h2
 |exit id=>cases h4
 |ret=>cases h4
theorem xe6{head:St->DT St}{body:St->DT (d8×St)}{n:Nat}{s t:St}{x:d8}(h:(bb3 head body s).run=some (x,t))(hx:x≠.normal):(Pb7 head body n s).run=some (x,t):=by
 obtain⟨⟨y,s1⟩,h3,h4⟩:=DT.run_bind_some h;cases y with
 |normal =>
  obtain⟨t',h5,h6⟩:=DT.run_bind_some h4
  simp_all
 |exit id =>
  show ((body s).bind _).run=_;rw[DT.run_bind,h3];exact h4
 |ret =>
  show ((body s).bind _).run=_;rw[DT.run_bind,h3];exact h4
@[reducible] def yb2(k:Nat)(keep:List Nat)(s:St):DT St:=tidy k ⟨G4 keep s.a 0,s.H⟩
theorem Sc5(E:Env)(k:Nat)(keep:List Nat)(c:PC)(s:St):A1 E k (.loop keep c) s=vb3 (yb2 k keep) (A1 E k c) E.N s:=rfl
inductive Sh where
 |unk
 |int
 |bool
 |tree (es:Nat)
 |ptr (id i c g:Nat)
@[reducible] def sel{α:Type}(c:Bool)(t e:α):α:=Bool.rec (motive:=λ_=>α) e t c
theorem Ga2{g a:Int}(h:a>0):(Int.tmod g a).toNat<a.toNat:=by
 have:=Int.tmod_lt_of_pos g h
 omega
@[reducible] def i(n:Int):b9:=.v (.int .i64 n)
@[reducible] def b(x:Bool):b9:=.v (.bool x)
def xe7:b9->Option Int
 |.v (.int .i64 n)=>some n
 |_=>none
theorem xe8{x:b9}{n:Int}(h:xe7 x=some n):x=i n:=by
 unfold xe7 at h
 grind
abbrev W(n:Int):Int:=IntKind.wrap .i64 n
structure Cod(α:Type) where
 enc:α->b9
 dec:b9->Option α
 grd:b9->Bool
 ok:∀x a,dec x=some a->grd x=true->ALe x (enc a)
theorem ALe.of{x y:b9}(h:x=y):ALe x y:=h ▸ .refl x
def cI:Cod Int:=⟨i,xe7,λ_=>true,λ_ _ h _=>.of (xe8 h)⟩
theorem J8.get{F:Fz}{w:World}{es n:Nat}{get get':Nat->List b9}{v:Value}(h:J8 F w (.tree es n get) v)(he:∀k,k<n->get' k=get k):J8 F w (.tree es n get') v:=by
 cases h with
 |tree _ _ _ a cap cs hs hcap hes hF hw hr =>
  refine .tree es n get' a cap cs hs hcap (λi hi=>by rw[he i hi];exact hes i hi) hF hw (λi c hi hc=>?_)
  grind
 |nil=>exact .nil _ _
theorem ALe.tree{es n:Nat}{get get':Nat->List b9}(he:∀k,k<n->get' k=get k):ALe (.tree es n get) (.tree es n get'):=λρ H F w v h=>.val (.cell (.mem ((aa8 h).get he)))
def g3(x y z:Int):Nat->List b9
 |0=>[i x]
 |1=>[i y]
 |_=>[i z]
def xe9:List b9->Option Int
 |[x]=>xe7 x
 |_=>none
def d3(x:b9):Option (Int×Int×Int):=match x with
 |.tree 1 3 get=>Option.rec (motive:=λ_=>Option (Int×Int×Int)) none (λa=>Option.rec (motive:=λ_=>Option (Int×Int×Int)) none (λb=>Option.rec (motive:=λ_=>Option (Int×Int×Int)) none (λc=>some (a,b,c)) (xe9 (get 2))) (xe9 (get 1))) (xe9 (get 0))
 |_=>none
def d1(x:b9):Option Int:=match x with
 |.tree 1 1 get=>xe9 (get 0)
 |_=>none
structure IL where
 n:Nat
 g:Nat->Int
structure LL where
 a:IL
 b:IL
def onO{α:Type}(x:Option α)(k:α->DT (b9×List c7)):DT (b9×List c7):=Option.rec (motive:=λ_=>DT (b9×List c7)) .fail k x
theorem B4{α:Type}{x:Option α}{k:α->DT (b9×List c7)}{r:b9×List c7}(h:(onO x k).run=some r):∃a,x=some a/\(k a).run=some r:=by
 cases x with
 |none=>cases h
 |some a=>exact⟨a,rfl,h⟩
section
variable{α β γ δ:Type}
def Ve3(k:DT (b9×List c7)):Sum:=λargs blks=>match args,blks with
 |[],[]=>k
 |_,_=>.fail
def B5(c:Cod α)(k:α->DT (b9×List c7)):Sum:=λargs blks=>match args,blks with
 |[x],[]=>onO (c.dec x) λa=>.guard (c.grd x) (k a)
 |_,_=>.fail
def ba0(c:Cod α)(d:Cod β)(k:α->β->DT (b9×List c7)):Sum:=λargs blks=>match args,blks with
 |[x,y],[]=>onO (c.dec x) λa=>onO (d.dec y) λb=>.guard (c.grd x) (.guard (d.grd y) (k a b))
 |_,_=>.fail
def yb3(c:Cod α)(d:Cod β)(e:Cod γ)(k:α->β->γ->DT (b9×List c7)):Sum:=λargs blks=>match args,blks with
 |[x,y,z],[]=>onO (c.dec x) λa=>onO (d.dec y) λb=>onO (e.dec z) λg=>.guard (c.grd x) (.guard (d.grd y) (.guard (e.grd z) (k a b g)))
 |_,_=>.fail
def Bd3(c:Cod α)(d:Cod β)(e:Cod γ)(f:Cod δ)(k:α->β->γ->δ->DT (b9×List c7)):Sum:=λargs blks=>match args,blks with
 |[x,y,z,w],[]=>onO (c.dec x) λa=>onO (d.dec y) λb=>onO (e.dec z) λg=>onO (f.dec w) λj=>.guard (c.grd x) (.guard (d.grd y) (.guard (e.grd z) (.guard (f.grd w) (k a b g j))))
 |_,_=>.fail
variable{P:Program}{G:Nat->List Value}{f:FuncId}{R:Sum}{c:Cod α}{d:Cod β}{e:Cod γ}{c4:Cod δ}
theorem e8.le{S':Sum}(h:e8 P G f R)(hr:∀args blks r,(S' args blks).run=some r->(R args blks).run=some r):e8 P G f S' :=
 h.refine λargs blks r hh=>⟨args,.refl _,hr args blks r hh⟩
theorem ye0{k}(hb:e8 P G f R)(h:∀r,k.run=some r->(R [] []).run=some r):e8 P G f (Ve3 k):=hb.le λargs blks r hr=>by
 unfold Ve3 at hr
 split at hr
 ·exact h r hr
 ·cases hr
theorem Gb2{k:α->_}(hb:e8 P G f R)(h:∀a r,(k a).run=some r->(R [c.enc a] []).run=some r):e8 P G f (B5 c k):=hb.refine λargs blks r hr=>by
 unfold B5 at hr
 split at hr
 ·obtain⟨a,h1,hr⟩:=B4 hr;obtain⟨g1,hr⟩:=DT.run_guard_some hr;exact⟨_,.cons (c.ok _ a h1 g1) .nil,h a r hr⟩
 ·cases hr
theorem Jd0{k:α->β->_}(hb:e8 P G f R)(h:∀a b r,(k a b).run=some r->(R [c.enc a,d.enc b] []).run=some r):e8 P G f (ba0 c d k):=hb.refine λargs blks r hr=>by
 unfold ba0 at hr
 split at hr
 ·obtain⟨a,h1,hr⟩:=B4 hr;obtain⟨b,h2,hr⟩:=B4 hr;obtain⟨g1,hr⟩:=DT.run_guard_some hr;obtain⟨g2,hr⟩:=DT.run_guard_some hr;exact⟨_,.cons (c.ok _ a h1 g1) (.cons (d.ok _ b h2 g2) .nil),h a b r hr⟩
 ·cases hr
theorem Jd1{k:α->β->γ->_}(hb:e8 P G f R)(h:∀a b g r,(k a b g).run=some r->(R [c.enc a,d.enc b,e.enc g] []).run=some r):e8 P G f (yb3 c d e k):=hb.refine λargs blks r hr=>by
 unfold yb3 at hr
 split at hr
 ·obtain⟨a,h1,hr⟩:=B4 hr;obtain⟨b,h2,hr⟩:=B4 hr;obtain⟨g,h3,hr⟩:=B4 hr;obtain⟨g1,hr⟩:=DT.run_guard_some hr;obtain⟨g2,hr⟩:=DT.run_guard_some hr;obtain⟨g3,hr⟩:=DT.run_guard_some hr;exact⟨_,.cons (c.ok _ a h1 g1) (.cons (d.ok _ b h2 g2) (.cons (e.ok _ g h3 g3) .nil)),h a b g r hr⟩
 ·cases hr
theorem ye1{k:α->β->γ->δ->_}(hb:e8 P G f R)(h:∀a b g j r,(k a b g j).run=some r->(R [c.enc a,d.enc b,e.enc g,c4.enc j] []).run=some r):e8 P G f (Bd3 c d e c4 k):=hb.refine λargs blks r hr=>by
 unfold Bd3 at hr
 split at hr
 ·obtain⟨a,h1,hr⟩:=B4 hr;obtain⟨b,h2,hr⟩:=B4 hr;obtain⟨g,h3,hr⟩:=B4 hr;obtain⟨j,h4,hr⟩:=B4 hr;obtain⟨g1,hr⟩:=DT.run_guard_some hr;obtain⟨g2,hr⟩:=DT.run_guard_some hr;obtain⟨g3,hr⟩:=DT.run_guard_some hr;obtain⟨g4,hr⟩:=DT.run_guard_some hr;exact⟨_,.cons (c.ok _ a h1 g1) (.cons (d.ok _ b h2 g2) (.cons (e.ok _ g h3 g3) (.cons (c4.ok _ j h4 g4) .nil))),h a b g j r hr⟩
 ·cases hr
end
inductive Stp (σ:Type) where
 |fail
 |next (s:σ)
 |exit (t:Nat)
@[reducible] def yb4{σ α:Type}(f:σ->α)(x:Nat->α)(z:α)(r:Stp σ):α:=Stp.rec (motive:=λ_=>α) z f x r
def lp0{σ:Type}(step:σ->Stp σ)(n:Nat):σ->Nat×σ :=
 Nat.rec (motive:=λ_=>σ->Nat×σ) (λs=>yb4 (λ_=>(0,s)) (λt=>(t,s)) (0,s) (step s))
  (λ_ ih s=>yb4 (λs'=>ih s') (λt=>(t,s)) (0,s) (step s)) n
def lpS:{ f:(σ:Type)->(σ->Stp σ)->Nat->σ->Nat×σ // f=λ_=>lp0 }:=Classical.choice ⟨⟨_,rfl⟩⟩
def rounds:Nat:=18446744073709551615
def lp{σ:Type}(step:σ->Stp σ)(s:σ):Nat×σ:=lpS.1 σ step rounds s
theorem ce5{σ:Type}(step:σ->Stp σ)(s:σ):lp step s=lp0 step rounds s:=by
 unfold lp;rw[lpS.2]
theorem nd3{σ:Type}{step:σ->Stp σ}{n:Nat}{s s':σ}(h:step s=.next s'):lp0 step (n+1) s=lp0 step n s':=by
 show yb4 (λs'=>lp0 step n s') _ _ (step s)=_
 rw[h]
theorem zc5{σ:Type}{step:σ->Stp σ}{n t:Nat}{s:σ}(h:step s=.exit t):lp0 step n s=(t,s):=by
 cases n with
 |zero=>show yb4 _ _ _ (step s)=_;rw[h]
 |succ n=>show yb4 _ _ _ (step s)=_;rw[h]
inductive Sk where
 |unk
 |u
 |nil
 |bool
 |int (k:IntKind)
 |lit (k:IntKind) (n:Int)
 |blit (x:Bool)
 |tree (es:Nat)
 |ptr (id i c g:Nat)
 |sl (id g:Nat) (off n:Option Nat)
 |fn (f:Nat)
 |val
def toV:b9->Value
 |.v x=>x
 |_=>.tuple #[]
def Cf3:b9->ByteArray
 |.v (.string s)=>s
 |_=>⟨#[]⟩
def slO:b9->Nat
 |.sl _ off _ _=>off
 |_=>0
def slN:b9->Nat
 |.sl _ _ n _=>n
 |_=>0
@[reducible] def oN(o:Option Nat)(x:Nat):Nat:=Option.rec (motive:=λ_=>Nat) x (λy=>y) o
@[reducible] def okN(o:Option Nat)(x:Nat):Bool:=Option.rec (motive:=λ_=>Bool) true (λy=>Nat.beq y x) o
def ye2:Sk->b9->Bool
 |.unk,.unk=>true
 |.u,.v (.tuple a)=>List.rec (motive:=λ_=>Bool) true (λ_ _ _=>false) a.toList
 |.nil,.v (.slice none 0 0)=>true
 |.bool,.v (.bool _)=>true
 |.int k,.v (.int k' _)=>decide (k=k')
 |.lit k n,.v (.int k' m)=>Bool.and (decide (k=k')) (decide (n=m))
 |.blit x,.v (.bool y)=>Bool.rec (!y) y x
 |.tree es,.tree es' _ _=>Nat.beq es es'
 |.ptr id i c g,.ptr id' i' c' g'=>Bool.and (Bool.and (Nat.beq id id') (Nat.beq i i')) (Bool.and (Nat.beq c c') (Nat.beq g g'))
 |.sl id g off n,.sl id' off' n' g'=>Bool.and (Bool.and (Nat.beq id id') (Nat.beq g g')) (Bool.and (okN off off') (okN n n'))
 |.fn f,.fn f' []=>Nat.beq f f'
 |.val,.v (.string _)=>true
 |_,_=>false
def Ve4:Sk->b9->b9
 |.unk,_=>.unk
 |.u,_=>.v (.tuple #[])
 |.nil,_=>.v (.slice none 0 0)
 |.bool,x=>.v (.bool (toB x))
 |.int k,x=>.v (.int k (toI x))
 |.lit k n,_=>.v (.int k n)
 |.blit y,_=>.v (.bool y)
 |.tree es,x=>.tree es (toN x) (toG x)
 |.ptr id i c g,_=>.ptr id i c g
 |.sl id g off n,x=>.sl id (oN off (slO x)) (oN n (slN x)) g
 |.fn f,_=>.fn f []
 |.val,x=>.v (.string (Cf3 x))
theorem Me1{o:Option Nat}{x:Nat}(h:okN o x=true):oN o x=x:=by
 cases o with
 |none=>rfl
 |some y=>exact Qae h
theorem Jd2{k:Sk}{x:b9}(h:ye2 k x=true):x=Ve4 k x:=by
 unfold ye2 at h
 split at h<;>first | rfl | (cases h;done) | skip
 ·rename_i a;obtain⟨l⟩:=a;cases l with
  |nil=>rfl
  |cons=>cases h
 ·rw[of_decide_eq_true h];rfl
 ·simp only[Qbd,decide_eq_true_eq] at h;rw[h.1,h.2];rfl
 ·rename_i a c;cases a<;>cases c<;>first | rfl | cases h
 ·rw[Qae h];rfl
 ·simp only[Qbd] at h;obtain⟨⟨h1,h2⟩,h3,h4⟩:=h;rw[Qae h1,Qae h2,Qae h3,Qae h4];rfl
 ·rename_i id g off n id' off' n' g';simp only[Qbd] at h;obtain⟨⟨h1,h2⟩,h3,h4⟩:=h;rw[<- Qae h1,<- Qae h2];show b9.sl id off' n' g=.sl id (oN off off') (oN n n') g;rw[Me1 h3,Me1 h4]
 ·rw[Qae h];rfl
inductive Sl where
 |s (k:Sk)
 |agg (l:List Sk)
 |tup (l:List Sk)
 |fn (f:Nat) (l:List Sk)
def cellsOf:b9->List b9
 |.agg l=>l
 |.tup l=>l
 |.fn _ l=>l
 |_=>[]
@[reducible] def hdR(l:List (List b9)):List b9:=List.rec (motive:=λ_=>List b9) [] (λx _ _=>x) l
@[reducible] def tlR(l:List (List b9)):List (List b9):=List.rec (motive:=λ_=>List (List b9)) [] (λ_ r _=>r) l
structure Bk where
 et:Nat
 es:Nat
 own:Bool
 rows:Option (List (List Sk))
@[reducible] def eqB(a c:Bool):Bool:=Bool.rec (!c) c a
@[reducible] def hdB(l:List c7):List (List b9):=List.rec (motive:=λ_=>List (List b9)) [] (λx _ _=>x.elems) l
@[reducible] def tlB(l:List c7):List c7:=List.rec (motive:=λ_=>List c7) [] (λ_ r _=>r) l
inductive ia2 {α:Type} (P:α->Prop):List α->Prop
 |nil:ia2 P []
 |cons {x:α} {l:List α} (h:P x) (t:ia2 P l):ia2 P (x::l)
theorem ia2.mem{α:Type}{P:α->Prop}{l:List α}(h:ia2 P l):∀x,x∈l->P x:=by
 induction h with
 |nil=>intro x h;cases h
 |cons h t ih =>
  simp_all
structure Alt(π σ:Type) where
 sh:List Sl
 bl:List Bk
 rd:List b9->List c7->π×σ
def ra(n:Nat)(l:List b9):List b9:=Nat.rec (motive:=λ_=>List b9) l (λ_ ih=>.unk::ih) n
def ru(n:Nat)(l:List Sl):List Sl:=Nat.rec (motive:=λ_=>List Sl) l (λ_ ih=>.s .unk::ih) n
def Ve5(k:Nat)(res:List cc4)(s:St):DT (b9×List c7) :=
 match Ma4 (Na0 s.a s.H) res with
 |some l=>wb6 k s.H (eb8 l)
 |none=>.fail
def cut(k:Nat)(res:List cc4)(r:d8×St):DT (d8×St) :=
 d8.rec (motive:=λ_=>DT (d8×St)) (.ret (.normal,r.2)) (λid=>.ret (.exit id,r.2)) ((Ve5 k res r.2).bind λq=>.ret (.ret,⟨[q.1],q.2⟩)) r.1
def Jd3(E:Env)(k:Nat)(res:List cc4)(c:PS):St->DT (d8×St) :=
 PS.rec (motive:=λ_=>St->DT (d8×St))
  (λc s=>(A1 E k c s).bind (cut k res))
  (λ_ _ x y s=>(x s).bind λr=>d8.rec (motive:=λ_=>DT (d8×St)) (y r.2) (λid=>.ret (.exit id,r.2)) (.ret (.ret,r.2)) r.1)
  (λc _ _ x y s=>match c9 E s.a c with
   |.v (.bool b)=>.ite b (x s) (y s)
   |_=>.fail)
  (λid _ x s=>(x s).bind λr=>d8.rec (motive:=λ_=>DT (d8×St)) (.ret (.normal,r.2))
   (λid'=>Bool.rec (.ret (.exit id',r.2)) (.ret (.normal,r.2)) (Nat.beq id' id)) (.ret (.ret,r.2)) r.1)
  (λkeep _ x=>vb3 (λs=>tidy k ⟨G4 keep s.a 0,s.H⟩) x E.N)
  (λS=>S) c
section
variable{k:Nat}{res:List cc4}
inductive FR (k:Nat) (res:List cc4):d8×St->d8×St->Prop
 |same (x:d8) (s:St) (h:x≠.ret):FR k res (x,s) (x,s)
 |ret (s:St) (q:b9×List c7) (h:(Ve5 k res s).run=some q):FR k res (.ret,⟨[q.1],q.2⟩) (.ret,s)
def O6(k:Nat)(res:List cc4)(x y:DT (d8×St)):Prop:=∀r,x.run=some r->∃r',y.run=some r'/\FR k res r r'
theorem O6.bind{x y:DT (d8×St)}{f g:d8×St->DT (d8×St)}(h:O6 k res x y)(hf:∀r r',FR k res r r'->O6 k res (f r) (g r')):O6 k res (x.bind f) (y.bind g):=λr hr=>by
 obtain⟨a,h1,h2⟩:=DT.run_bind_some hr;obtain⟨a',h3,h4⟩:=h a h1;obtain⟨r',h5,h6⟩:=hf a a' h4 r h2;exact⟨r',by rw[DT.run_bind,h3];exact h5,h6⟩
theorem O6.ite{b:Bool}{x y x' y':DT (d8×St)}(h:O6 k res x x')(h':O6 k res y y'):O6 k res (.ite b x y) (.ite b x' y'):=λr hr=>by
 rw[DT.run_ite] at hr;rw[DT.run_ite]
 split at hr
 ·next hb=>simpa [hb] using h r hr
 ·next hb=>simpa [hb] using h' r hr
theorem O6.one{r r':d8×St}(h:FR k res r r'):O6 k res (.ret r) (.ret r'):=λa ha=>by
 cases ha;exact⟨r',rfl,h⟩
theorem O6.cut(x:DT (d8×St)):O6 k res (x.bind (cut k res)) x:=λr hr=>by
 obtain⟨⟨a,s⟩,h1,h2⟩:=DT.run_bind_some hr;refine⟨(a,s),h1,?_⟩;cases a with
 |normal=>cases h2;exact .same _ _ (λh=>by cases h)
 |exit id=>cases h2;exact .same _ _ (λh=>by cases h)
 |ret =>
  obtain⟨q,h3,h4⟩:=DT.run_bind_some h2;cases h4;exact .ret s q h3
theorem yb5{head:St->DT St}{body body':St->DT (d8×St)}(h:∀s,O6 k res (body s) (body' s)):∀n s,O6 k res (vb3 head body n s) (vb3 head body' n s)
 |0,s=>λr hr=>by cases hr
 |n+1,s=>by
  intro r hr;obtain⟨t,h1,h2⟩:=DT.run_bind_some hr
  have:O6 k res ((body t).bind λr=>d8.rec (motive:=λ_=>DT (d8×St)) (vb3 head body n r.2) (λid=>.ret (.exit id,r.2)) (.ret (.ret,r.2)) r.1) ((body' t).bind λr=>d8.rec (motive:=λ_=>DT (d8×St)) (vb3 head body' n r.2) (λid=>.ret (.exit id,r.2)) (.ret (.ret,r.2)) r.1):=by
   refine (h t).bind λa a' ha=>?_
   cases ha with
   |same x s hx =>
    cases x with
    |normal=>exact yb5 h n s
    |exit id=>exact .one (.same _ _ hx)
    |ret=>exact absurd rfl hx
   |ret s q hq=>exact .one (.ret s q hq)
  obtain⟨r',h3,h4⟩:=this r h2;refine⟨r',?_,h4⟩;show ((head s).bind λs=>(body' s).bind _).run=_
  rw[DT.run_bind,h1];exact h3
inductive ba1 (E:Env) (k:Nat) (res:List cc4):PS->PC->Prop
 |pc (c:PC):ba1 E k res (.pc c) c
 |seq {a b:PS} {a' b':PC} (h:ba1 E k res a a') (h':ba1 E k res b b'):ba1 E k res (.seq a b) (.seq a' b')
 |cond (c:Arg) {a b:PS} {a' b':PC} (h:ba1 E k res a a') (h':ba1 E k res b b'):ba1 E k res (.cond c a b) (.cond c a' b')
 |block (id:Nat) {a:PS} {a':PC} (h:ba1 E k res a a'):ba1 E k res (.block id a) (.block id a')
 |loop (keep:List Nat) {a:PS} {a':PC} (h:ba1 E k res a a'):ba1 E k res (.loop keep a) (.loop keep a')
 |sum {S:St->DT (d8×St)} {c:PC} (h:∀s,O6 k res (S s) (A1 E k c s)):ba1 E k res (.sum S) c
theorem ba1.le{E:Env}{a:PS}{c:PC}(h:ba1 E k res a c):∀s,O6 k res (Jd3 E k res a s) (A1 E k c s):=by
 induction h with
 |pc c=>exact λs=>.cut _
 |seq h h' ih ih' =>
  intro s;refine (ih s).bind λr r' hr=>?_
  cases hr with
  |same x s hx =>
   cases x with
   |normal=>exact ih' s
   |exit id=>exact .one (.same _ _ hx)
   |ret=>exact absurd rfl hx
  |ret s q hq=>exact .one (.ret s q hq)
 |cond c h h' ih ih' =>
  intro s;show O6 k res (match c9 E s.a c with | .v (.bool b)=>_ | _=>_) (match c9 E s.a c with | .v (.bool b)=>_ | _=>_)
  split
  ·exact .ite (ih s) (ih' s)
  ·exact λr hr=>by cases hr
 |block id h ih =>
  intro s;refine (ih s).bind λr r' hr=>?_
  cases hr with
  |same x s hx =>
   cases x with
   |normal=>exact .one (.same _ _ λh=>by cases h)
   |exit id' =>
    show O6 k res (Bool.rec (.ret (.exit id',s)) (.ret (.normal,s)) (Nat.beq id' id)) (Bool.rec (.ret (.exit id',s)) (.ret (.normal,s)) (Nat.beq id' id));cases Nat.beq id' id with
    |false=>exact .one (.same _ _ hx)
    |true=>exact .one (.same _ _ λh=>by cases h)
   |ret=>exact absurd rfl hx
  |ret s q hq=>exact .one (.ret s q hq)
 |loop keep h ih=>exact λs=>yb5 ih _ s
 |sum h=>exact h
end
def Ve6(E:Env)(fn:PFn)(body:PS)(args:List b9)(blks:List c7):DT (b9×List c7) :=
 (Jd3 E (len blks) fn.res body ⟨app args (List.replicate (fn.ntmps-len args) (.v (.tuple #[]))),blks⟩).bind λr =>
  d8.rec (motive:=λ_=>DT (b9×List c7)) (Ve5 (len blks) fn.res r.2) (λ_=>.fail) (.ret (hdA r.2.a,r.2.H)) r.1
theorem Bd4{E:Env}{fn:PFn}{body:PS}{args:List b9}{blks:List c7}(h:ba1 E (len blks) fn.res body fn.body):M1 (Ve6 E fn body args blks) (m9 E fn args blks):=λr hr=>by
 obtain⟨a,h1,h2⟩:=DT.run_bind_some hr;obtain⟨a',h3,h4⟩:=h.le _ a h1;show ((A1 E (len blks) fn.body _).bind _).run=_;rw[DT.run_bind,h3];cases h4 with
 |same x s hx =>
  cases x with
  |normal=>exact h2
  |exit id=>cases h2
  |ret=>exact absurd rfl hx
 |ret s q hq =>
  cases h2;exact hq
theorem ALe.nilTree(es:Nat)(get:Nat->List b9):ALe (.v (.slice none 0 0)) (.tree es 0 get):=λρ H F w v h=>by
 have:=K5 h
 subst this;exact .val (.cell (.mem (.nil es get)))
theorem ALe.emptyTree(es:Nat)(get:Nat->List b9)(a:Addr)(c:Nat):ALe (.v (.slice (some a) 0 c)) (.tree es 0 get):=λρ H F w v h=>by
 have:=K5 h
 subst this;exact .val (.cell (.mem (.tree es 0 get a c (λ_ _=>.tuple #[]) (λh=>absurd h (by omega)) (Nat.zero_le _) (λi h=>absurd h (by omega)) (λi c h=>absurd h (by omega)) (λi c h=>absurd h (by omega)) (λi c h=>absurd h (by omega)))))
section
variable{α:Type}{row:α->List b9}{isr:List b9->Bool}{rd:List b9->α}{d:α}
theorem ce6{β:Type}(f:α->β)(l:List α):len (l9 f l)=l.length:=by rw[l6,k9,List.length_map]
theorem nd4(row:α->List b9)(d:α){l:List α}{k:Nat}(h:k<l.length):j6 (l9 row l) k=row (l.getD k d):=by
 unfold j6;rw[p9,k9,Qbm,Qda,Qaa h];rfl
theorem ce7(row:α->List b9)(l r:List α):app (l9 row l) (l9 row r)=l9 row (l++r):=by
 rw[E0,k9,k9,k9,List.map_append]
theorem Bd5(row:α->List b9)(l:List α)(k:Nat)(x:α):setAt (l9 row l) k (row x)=l9 row (l.set k x):=by
 rw[r6,k9,k9,List.map_set]
end
section
variable{α β γ δ ε ζ:Type}
variable{P:Program}{G:Nat->List Value}{f:FuncId}{R:Sum}{c:Cod α}{d:Cod β}{e:Cod γ}{c4:Cod δ}{c5:Cod ε}{c6:Cod ζ}
end
section
variable{W:Nat->Prop}{ρ:Rho}{H H':List c7}{F:Fz}{w:World}
def la1(H:List c7):b9->Option (b9×List c7)
 |.agg cs=>match freezeCells H cs with
  |some (zs,H')=>some (.agg zs,H')
  |none=>none
 |x=>freezeCell H x
theorem zc6(hH:r4 W ρ H F w){y z:b9}{y':Value}(hy:S5 ρ H F w y y')(he:la1 H y=some (z,H')) :
  ∃F',Adv W ρ H F w ρ H' F' w/\r4 W ρ H' F' w/\∀ρ2 H2 F2,(∀b o,F' b o->F2 b o)->S5 ρ2 H2 F2 w z y':=by
 have cell:∀{y:b9},J9 ρ H F w y y'->freezeCell H y=some (z,H')->∃F',Adv W ρ H F w ρ H' F' w/\r4 W ρ H' F' w/\∀ρ2 H2 F2,(∀b o,F' b o->F2 b o)->S5 ρ2 H2 F2 w z y':=λ{y} hy he=>by
  obtain⟨F',h1,h2,h3,_⟩:=Kb2 hH hy he;exact⟨F',h1,h2,λρ2 H2 F2 hF=>.cell (.mem (h3.adv hF λ_ _ _=>rfl))⟩
 cases y with
 |agg cs =>
  simp only[la1] at he;cases hf:freezeCells H cs with
  |none=>rw[hf] at he;cases he
  |some q =>
   obtain⟨zs,H1⟩:=q;rw[hf] at he;have he:some (b9.agg zs,H1)=some (z,H'):=he;injection he with he;injection he with e1 e2
   subst e1 e2;obtain⟨vs,rfl,hl,hr⟩:=ga4 (.val hy);obtain⟨F',h1,h2,h3,h4,_⟩:=Ua4 hH (vs:=vs.toList) (by simpa using hl) (λi y y' h h'=>hr i y y' h (by simpa using h')) hf
   refine⟨F',h1,h2,λρ2 H2 F2 hF=>.agg _ _ (by simpa [h3] using hl) λi x x' hx hx'=>.mem ((h4 i x x' hx (by simpa using hx')).adv hF λ_ _ _=>rfl)⟩
 |v u=>cases hy with | cell h=>exact cell h he
 |tree es n get=>cases hy with | cell h=>exact cell h he
 |sl id off n g=>cases hy with | cell h=>exact cell h he
 |ptr id i c g=>cases he
 |tptr cs=>cases he
 |unk=>cases he
 |tup l=>cases he
 |fn f caps =>
  cases hy with
  |cell h=>exact cell h he
  |fn f caps vs hl h =>
   have he':freezeCell H (.fn f caps)=some (z,H'):=he;simp only[freezeCell] at he';cases hb:ia0 sb7 caps with
   |false=>simp[hb] at he'
   |true =>
    simp only[hb] at he';injection he' with he';injection he' with e1 e2
    subst e1 e2;have hm:=Id6 (f:=f) hl h hb;exact⟨F,.refl,hH,λρ2 H2 F2 hF=>.cell (.mem (hm.adv hF λ_ _ _=>rfl))⟩
def Va1(H:List c7):List b9->Option (List b9×List c7)
 |[]=>some ([],H)
 |x::r=>match la1 H x with
  |some (y,H1)=>match Va1 H1 r with
   |some (l,H2)=>some (y::l,H2)
   |none=>none
  |none=>none
theorem lc5:∀{ys zs:List b9} {vs:List Value} {H H':List c7} {F:Fz},r4 W ρ H F w->ys.length=vs.length->(∀(i:Nat) y y',ys[i]?=some y->vs[i]?=some y'->S5 ρ H F w y y')->Va1 H ys=some (zs,H') ->
  ∃F',Adv W ρ H F w ρ H' F' w/\r4 W ρ H' F' w/\zs.length=ys.length/\∀(i:Nat) z y',zs[i]?=some z->vs[i]?=some y'->∀ρ2 H2 F2,(∀b o,F' b o->F2 b o)->S5 ρ2 H2 F2 w z y'
 |[],zs,vs,H,H',F,hH,hl,hy,he=>by
  injection he with he;injection he with e1 e2
  subst e1 e2;exact⟨F,.refl,hH,rfl,λi z y' h=>by simp at h⟩
 |y::r,zs,[],H,H',F,hH,hl,hy,he=>by simp at hl
 |y::r,zs,v::vs,H,H',F,hH,hl,hy,he=>by
  simp only[Va1] at he;cases h1:la1 H y with
  |none=>rw[h1] at he;cases he
  |some q =>
  obtain⟨z,H1⟩:=q;rw[h1] at he;cases h2:Va1 H1 r with
  |none=>simp only[h2] at he;cases he
  |some q2 =>
  obtain⟨zs2,H2⟩:=q2;simp only[h2] at he;injection he with he;injection he with e1 e2
  subst e1 e2;obtain⟨F1,a1,a2,a3⟩:=zc6 hH (hy 0 y v rfl rfl) h1;obtain⟨F2,b1,b2,b3,b4⟩:=lc5 (ys:=r) (vs:=vs) a2 (by simpa using hl) (λi y y' hy1 hy2=>(hy (i+1) y y' (by simpa using hy1) (by simpa using hy2)).adv a1) h2
  refine⟨F2,a1.trans b1,b2,by simp[b3],λi z' y' hz hy'=>?_⟩
  cases i with
  |zero =>
   simp at hz hy'
   subst hz hy';exact λρ3 H3 F3 hF=>a3 ρ3 H3 F3 λb o hb=>hF b o (b1.more b o hb)
  |succ i=>exact b4 i z' y' (by simpa using hz) (by simpa using hy')
def dc4(H:List c7):b9->Option b9
 |.tup l=>match Va1 H l with
  |some (zs,_)=>some (.tup zs)
  |none=>none
 |x=>match la1 H x with
  |some (z,_)=>some z
  |none=>none
theorem r4.less(hH:r4 W ρ H F w):r4 W ρ [] F w:=⟨λid b h=>by simp at h,λid id' b b' h=>by simp at h,hH.frz,hH.new⟩
theorem Adv.less{ρ':Rho}{F':Fz}{w':World}(h:Adv W ρ [] F w ρ' H' F' w'):Adv W ρ [] F w ρ' [] F' w' :=
 ⟨h.ext,λid b hb=>by simp at hb,h.more,h.new,λid b hb=>by simp at hb⟩
theorem Td9{out:List c7}{x z:b9}{x':Value}{w':World}(hp:C4 W ρ [] F w x out x' w')(he:dc4 out x=some z):C4 W ρ [] F w z [] x' w':=by
 obtain⟨ρ',F',h1,h2,h3⟩:=hp;have one:∀{y:b9},S5 ρ' out F' w' y x'->(match la1 out y with | some (z,_)=>some z | none=>none)=some z->C4 W ρ [] F w z [] x' w':=λ{y} hy he=>by
  cases hf:la1 out y with
  |none=>rw[hf] at he;cases he
  |some q =>
   obtain⟨z1,H1⟩:=q;rw[hf] at he;have he:some z1=some z:=he;injection he with he;subst he;obtain⟨F2,a1,a2,a3⟩:=zc6 h2 hy hf;exact⟨ρ',F2,(h1.trans a1).less,a2.less,.val (a3 _ _ _ λ_ _ h=>h)⟩
 cases h3 with
 |val h =>
  cases x with
  |tup l=>cases h with | cell h=>cases h with | mem h=>cases h
  |_=>exact one h he
 |tup xs vs hl h =>
  simp only[dc4] at he;cases hf:Va1 out xs with
  |none=>rw[hf] at he;cases he
  |some q =>
   obtain⟨zs,H1⟩:=q;rw[hf] at he;have he:some (b9.tup zs)=some z:=he;injection he with he;subst he;obtain⟨F2,a1,a2,a3,a4⟩:=lc5 (vs:=vs.toList) h2 (by simpa using hl) (λi y y' hy hy'=>h i y y' hy (by simpa using hy')) hf
   exact⟨ρ',F2,(h1.trans a1).less,a2.less,.tup _ _ (by simpa [a3] using hl) λi x x' hx hx'=>a4 i x x' hx (by simpa using hx') _ _ _ λ_ _ h=>h⟩
theorem C4.le{out:List c7}{x y:b9}{x':Value}{w':World}(hp:C4 W ρ H F w x out x' w')(h:ALe x y):C4 W ρ H F w y out x' w':=by
 obtain⟨ρ',F',h1,h2,h3⟩:=hp;exact⟨ρ',F',h1,h2,h _ _ _ _ _ h3⟩
end
def Sc6(x:b9)(out:List c7)(y:b9):Prop:=∃z,dc4 out x=some z/\ALe z y
theorem e8.conv{P:Program}{G:Nat->List Value}{f:FuncId}{S S':Sum}(h:e8 P G f S)
  (hr:∀args blks y out,(S' args blks).run=some (y,out)->blks=[]/\out=[]/\∃x o,(S args []).run=some (x,o)/\Sc6 x o y):e8 P G f S':=by
 intro args blks y out he W ρ F w args' hH hlen hargs hG;obtain⟨rfl,rfl,x,o,h1,z,h2,h3⟩:=hr args blks y out he;obtain⟨h4,h5⟩:=h args [] x o h1 W ρ F w args' hH hlen hargs hG;exact⟨h4,h5.mono λe w' ⟨r',h6,h7⟩=>⟨r',h6,(Td9 h7 h2).le h3⟩⟩
section
variable{α β γ:Type}{P:Program}{G:Nat->List Value}{f:FuncId}{c:Cod α}{d:Cod β}{e:Cod γ}
theorem Ud0{k k':α->DT (b9×List c7)}(h:e8 P G f (B5 c k))(hk:∀a y out,(k' a).run=some (y,out)->out=[]/\∃x o,(k a).run=some (x,o)/\Sc6 x o y):e8 P G f (B5 c k'):=h.conv λargs blks y out hr=>by
 unfold B5 at hr
 split at hr
 ·obtain⟨a,h1,hr⟩:=B4 hr;obtain⟨g1,hr⟩:=DT.run_guard_some hr;obtain⟨e1,x,o,e2,e3⟩:=hk a y out hr;refine⟨rfl,e1,x,o,?_,e3⟩;simp only[B5,h1,onO,g1];exact e2
 ·cases hr
theorem Ud1{k k':α->β->DT (b9×List c7)}(h:e8 P G f (ba0 c d k))(hk:∀a b y out,(k' a b).run=some (y,out)->out=[]/\∃x o,(k a b).run=some (x,o)/\Sc6 x o y):e8 P G f (ba0 c d k'):=h.conv λargs blks y out hr=>by
 unfold ba0 at hr
 split at hr
 ·obtain⟨a,h1,hr⟩:=B4 hr;obtain⟨b,h2,hr⟩:=B4 hr;obtain⟨g1,hr⟩:=DT.run_guard_some hr;obtain⟨g2,hr⟩:=DT.run_guard_some hr;obtain⟨e1,x,o,e2,e3⟩:=hk a b y out hr;refine⟨rfl,e1,x,o,?_,e3⟩;simp only[ba0,h1,h2,onO,g1,g2];exact e2
 ·cases hr
theorem Ud2{k k':α->β->γ->DT (b9×List c7)}(h:e8 P G f (yb3 c d e k))(hk:∀a b g y out,(k' a b g).run=some (y,out)->out=[]/\∃x o,(k a b g).run=some (x,o)/\Sc6 x o y):e8 P G f (yb3 c d e k'):=h.conv λargs blks y out hr=>by
 unfold yb3 at hr
 split at hr
 ·obtain⟨a,h1,hr⟩:=B4 hr;obtain⟨b,h2,hr⟩:=B4 hr;obtain⟨g,h3,hr⟩:=B4 hr;obtain⟨g1,hr⟩:=DT.run_guard_some hr;obtain⟨g2,hr⟩:=DT.run_guard_some hr;obtain⟨g3,hr⟩:=DT.run_guard_some hr;obtain⟨e1,x,o,e2,e3⟩:=hk a b g y out hr;refine⟨rfl,e1,x,o,?_,e3⟩;simp only[yb3,h1,h2,h3,onO,g1,g2,g3];exact e2
 ·cases hr
end
theorem ALe.tup{xs ys:List b9}(hl:xs.length=ys.length)(h:∀(i:Nat) x y,xs[i]?=some x->ys[i]?=some y->∀ρ H F w v,S5 ρ H F w x v->S5 ρ H F w y v):ALe (.tup xs) (.tup ys):=λρ H F w v hv=>by
 cases hv with
 |val hv=>cases hv with | cell hv=>cases hv with | mem hv=>cases hv
 |tup _ vs hl2 hv =>
  refine .tup _ _ (hl ▸ hl2) λi y v' hy hv'=>?_
  grind
theorem S5.treeLe{es n:Nat}{get get':Nat->List b9}(he:∀k,k<n->get' k=get k){ρ:Rho}{H:List c7}{F:Fz}{w:World}{v:Value}(h:S5 ρ H F w (.tree es n get) v):S5 ρ H F w (.tree es n get') v :=
 .cell (.mem ((aa8 (.val h)).get he))
end Go.Ev
namespace Go.Ev.L
open Go Go.Ev
def cl(p:Prop):Bool:=@decide p (Classical.propDecidable p)
theorem ye3{p:Prop}(h:p):cl p=true:=@decide_eq_true _ (Classical.propDecidable p) h
theorem Me2{p:Prop}(h:cl p=true):p:=@of_decide_eq_true _ (Classical.propDecidable p) h
def sl{α:Type}(c:Bool)(t e:α):α:=Bool.rec (motive:=λ_=>α) e t c
theorem l0{α:Type}(t e:α):sl true t e=t:=rfl
theorem Va2{α:Type}(t e:α):sl false t e=e:=rfl
theorem pb5{α:Type}(c:Bool)(t e:α):sl c t e=if c=true then t else e:=by cases c<;>rfl
theorem Me3{α β:Type}{f:α->β}{c:Bool}{A B:α}{a b:β}(hA:f A=a)(hB:f B=b):f (sl c A B)=sl c a b:=by cases c<;>assumption
structure CLe(x y:b9):Prop where
 m:∀F w v,J8 F w x v->J8 F w y v
 c:∀ρ H F w v,J9 ρ H F w x v->J9 ρ H F w y v
theorem CLe.refl(x:b9):CLe x x:=⟨λ_ _ _ h=>h,λ_ _ _ _ _ h=>h⟩
theorem CLe.of{x y:b9}(h:x=y):CLe x y:=h ▸ .refl x
inductive yb6:List b9->List b9->Prop
 |nil:yb6 [] []
 |cons {x y l r} (h:CLe x y) (t:yb6 l r):yb6 (x::l) (y::r)
theorem yb6.refl:∀l,yb6 l l
 |[]=>.nil
 |x::l=>.cons (.refl x) (yb6.refl l)
theorem yb6.of{l r:List b9}(h:l=r):yb6 l r:=h ▸ .refl l
theorem yb6.length{l r}(h:yb6 l r):l.length=r.length:=by induction h<;>simp_all
theorem yb6.get{l r}(h:yb6 l r):∀(i:Nat) y,r[i]?=some y->∃x,l[i]?=some x/\CLe x y:=by
 induction h with
 |nil=>intro i y hy;simp at hy
 |cons h t ih =>
  grind
theorem ce8{F:Fz}{w:World}{es n:Nat}{get get':Nat->List b9}{v:Value}(h:J8 F w (.tree es n get) v)(he:∀k,k<n->yb6 (get k) (get' k)):J8 F w (.tree es n get') v:=by
 cases h with
 |tree _ _ _ a cap cs hs hcap hes hF hw hr =>
  refine .tree es n get' a cap cs hs hcap (λi hi=>by rw[<- (he i hi).length];exact hes i hi) hF hw (λi c hi hc=>?_)
  obtain⟨x,hx,hle⟩:=(he i hi).get c _ (Qaa hc);have hc':c<(get i).length:=(Qab.1 hx).1
  have:=hr i c hi hc'
  have e:(get i)[c]=x:=by
   grind
  rw[e] at this;exact hle.m _ _ _ this
 |nil=>exact .nil _ _
theorem CLe.tree{es n:Nat}{get get':Nat->List b9}(he:∀k,k<n->yb6 (get k) (get' k)):CLe (.tree es n get) (.tree es n get') :=
 ⟨λ_ _ _ h=>ce8 h he,λ_ _ _ _ _ h=>by cases h with | mem h=>exact .mem (ce8 h he)⟩
theorem CLe.nilTree(es:Nat)(get:Nat->List b9):CLe (.v (.slice none 0 0)) (.tree es 0 get) :=
 ⟨λ_ _ _ h=>by cases h;exact .nil es get,λ_ _ _ _ _ h=>by cases h with
  |mem h=>cases h;exact .mem (.nil es get)
  |v=>exact .mem (.nil es get)⟩
theorem CLe.ale{x y:b9}(h:CLe x y)(hx:∀(ρ:Rho) H F w v,v8 ρ H F w x v->J9 ρ H F w x v):ALe x y:=λρ H F w v hv=>.val (.cell (h.c _ _ _ _ _ (hx ρ H F w v hv)))
theorem ALe.rows{es n:Nat}{get get':Nat->List b9}(he:∀k,k<n->yb6 (get k) (get' k)):ALe (.tree es n get) (.tree es n get'):=λ_ _ _ _ _ h=>.val (.cell (.mem (ce8 (aa8 h) he)))
structure Ty(α:Type) where
 es:Nat
 row:α->List b9
 rd:List b9->α
 ok:List b9->Bool
 cks:List CK
 d:α
 h0:∀x,len (row x)=es
 h1:∀x,rd (row x)=x
 h2:∀x,ok (row x)=true
 h3:∀r,ok r=true->yb6 r (row (rd r))
 h4:∀x,ma4 cks (row x)=true
 h5:∀x,i9 (row x) 0=row x
section
variable{α:Type}(t:Ty α)
@[reducible] def gL(l:List α)(k:Nat):α:=l.getD k t.d
@[reducible] def eL(l:List α):b9:=.tree t.es l.length (λk=>t.row (gL t l k))
def lsL(n:Nat)(get:Nat->List b9):List α:=(List.range n).map λk=>t.rd (get k)
def okL(n:Nat)(get:Nat->List b9):Bool:=(List.range n).all λk=>t.ok (get k)
def rL(v:b9):List α:=lsL t (toN v) (toG v)
def nL(v:b9):b9:=eL t (rL t v)
def ce9(f:b9->b9)(x:b9):Bool:=cl (x=f x)
def rt(l:List α):List α:=rL t (eL t l)
def okE(l:List α):Bool:=okL t (toN (eL t l)) (toG (eL t l))
def cnE(l:List α):Bool:=ce9 (nL t) (eL t l)
def bL(l:List α):List (List b9):=l9 t.row l
def rdR(el:List (List b9))(j:Nat):α:=t.rd (i9 (j6 el j) 0)
def ldR(el:List (List b9))(j:Nat):Bool:=Bool.and (Bool.and (Nat.blt j (len el)) (Nat.ble (0+t.es) (len (j6 el j)))) (ma4 t.cks (i9 (j6 el j) 0))
def slR(el:List (List b9))(off n:Nat):List α:=lsL t n λk=>j6 el (off+k)
def okS(el:List (List b9))(off n:Nat):Bool:=okL t n λk=>j6 el (off+k)
theorem Jd4(n:Nat)(get:Nat->List b9):(lsL t n get).length=n:=by simp[lsL]
theorem Jd5{n k:Nat}(get:Nat->List b9)(h:k<n):gL t (lsL t n get) k=t.rd (get k):=by
 simp[gL,lsL,Qda,Qbm,List.getElem?_range h]
theorem zc7{n:Nat}{get:Nat->List b9}{l:List α}(hn:n=l.length)(h:∀k,k<n->get k=t.row (gL t l k)):lsL t n get=l:=by
 apply List.ext_getElem
 ·simp[lsL,hn]
 ·intro k h1 h2;have hk:k<n:=by omega
  simp[lsL,h k hk,t.h1,gL,Qda,Qaa h2]
theorem Na4{n:Nat}{get:Nat->List b9}{f:Nat->α}(h:∀k,k<n->get k=t.row (f k)):okL t n get=true:=by
 unfold okL;rw[Qcf];intro k hk;have hk:k<n:=by simpa using hk
 rw[h k hk];exact t.h2 _
theorem j9(l:List α):rt t l=l:=zc7 t rfl λ_ _=>rfl
theorem O7(l:List α):okE t l=true:=Na4 t (f:=λk=>gL t l k) λ_ _=>rfl
theorem i8(l:List α):cnE t l=true:=ye3 (by unfold nL;rw[show rL t (eL t l)=l from j9 t l])
theorem S7(l:List α):len (bL t l)=l.length:=ce6 _ _
theorem W0{l:List α}{k:Nat}(h:k<l.length):j6 (bL t l) k=t.row (gL t l k):=nd4 t.row t.d h
theorem Bd6{l:List α}{k:Nat}(h:k<l.length):rdR t (bL t l) k=gL t l k:=by unfold rdR;rw[W0 t h,t.h5,t.h1]
theorem Bd7{l:List α}{k:Nat}(h:k<l.length):ldR t (bL t l) k=true:=by
 unfold ldR;rw[W0 t h,t.h5,t.h4,S7,t.h0,Qbh,Bool.and_true]
 simp_all
theorem xa2(l r:List α):app (bL t l) (bL t r)=bL t (l++r):=ce7 _ _ _
theorem Va3(l:List α):slR t (bL t l) 0 l.length=l:=zc7 t rfl λk hk=>by rw[Qbh,W0 t hk]
theorem fb3(l:List α):okS t (bL t l) 0 l.length=true:=Na4 t (f:=λk=>gL t l k) λk hk=>by rw[Qbh,W0 t hk]
theorem kb1(l:List α):l9 (λk=>t.row (gL t l k)) (List.range l.length)=bL t l:=by
 unfold bL;rw[k9,k9];apply List.ext_getElem
 ·simp
 simp_all
theorem yb7(l:List α)(k:Nat)(x:α):setAt (bL t l) k (t.row x)=bL t (l.set k x):=Bd5 _ _ _ _
theorem treeLe{n:Nat}{get:Nat->List b9}(h:okL t n get=true):CLe (.tree t.es n get) (eL t (lsL t n get)):=by
 unfold eL;rw[Jd4];refine .tree λk hk=>?_
 rw[Jd5 t get hk];exact t.h3 _ (Qcf.1 h k (by simpa using hk))
theorem Jd6{n:Nat}{get:Nat->List b9}(h:okL t n get=true):ALe (.tree t.es n get) (eL t (lsL t n get)):=(treeLe t h).ale λ_ _ _ _ _ h=>.mem (aa8 h)
def N0:Cod (List α) where
 enc l:=eL t l
 dec x:=match x with
  |.tree e n get=>Bool.rec (motive:=λ_=>Option (List α)) none (some (lsL t n get)) (Nat.beq e t.es)
  |.v (.slice none 0 0)=>some []
  |.v (.slice (some _) 0 _)=>some []
  |_=>none
 grd x:=match x with
  |.tree _ n get=>okL t n get
  |_=>true
 ok x a hx hg:=by
  split at hx
  ·rename_i e n get;cases hb:Nat.beq e t.es with
   |false=>rw[hb] at hx;cases hx
   |true =>
    rw[hb] at hx;have hx:some (lsL t n get)=some a:=hx;injection hx with hx;subst hx
    have:=Qae hb
    subst this;exact Jd6 t hg
  ·injection hx with hx;subst hx;exact .nilTree _ _
  ·injection hx with hx;subst hx;exact .emptyTree _ _ _ _
  ·cases hx
def hC(get:Nat->List b9):α:=t.rd (get 0)
def tC(n:Nat)(get:Nat->List b9):List α:=lsL t n λk=>get (k+1)
theorem Jd7(a:α)(l:List α):hC t (λk=>t.row (gL t (a::l) k))=a:=t.h1 _
theorem Jd8(a:α)(l:List α):tC t l.length (λk=>t.row (gL t (a::l) k))=l:=zc7 t rfl λk _=>rfl
theorem nd5(n:Nat)(get:Nat->List b9):lsL t (n+1) get=hC t get::tC t n get:=by
 unfold lsL hC tC lsL;rw[List.range_succ_eq_map];simp
def nd6:Cod (α×List α) where
 enc x:=eL t (x.1::x.2)
 dec x:=match x with
  |.tree e (n+1) get=>Bool.rec (motive:=λ_=>Option (α×List α)) none (some (hC t get,tC t n get)) (Nat.beq e t.es)
  |_=>none
 grd x:=match x with
  |.tree _ n get=>okL t n get
  |_=>false
 ok x a hx hg:=by
  split at hx
  ·rename_i e n get;cases hb:Nat.beq e t.es with
   |false=>rw[hb] at hx;cases hx
   |true =>
    rw[hb] at hx;have hx:some (hC t get,tC t n get)=some a:=hx;injection hx with hx;subst hx
    have:=Qae hb
    subst this;show ALe _ (eL t (hC t get::tC t n get));rw[<- nd5];exact Jd6 t hg
  ·cases hx
def F5:Cod α where
 enc x:=.agg (t.row x)
 dec x:=match x with
  |.agg cs=>Bool.rec (motive:=λ_=>Option α) none (some (t.rd cs)) (t.ok cs)
  |_=>none
 grd _:=true
 ok x a hx _:=by
  split at hx
  ·rename_i cs;cases hb:t.ok cs with
   |false=>rw[hb] at hx;cases hx
   |true =>
    rw[hb] at hx;have hx:some (t.rd cs)=some a:=hx;injection hx with hx;subst hx;have h3:=t.h3 cs hb;intro ρ H F w v hv;obtain⟨vs,rfl,hl,hr⟩:=ga4 hv;refine .val (.agg _ _ (by rw[<- h3.length];exact hl) λi y v' hy hv'=>?_)
    obtain⟨x,hx,hle⟩:=h3.get i y hy;exact hle.c _ _ _ _ _ (hr i x v' hx hv')
  ·cases hx
end
def tLs{α:Type}(t:Ty α):Ty (List α) where
 es:=1
 row l:=[eL t l]
 rd r:=rL t (hdA r)
 ok r:=match r with
  |[.tree e n get]=>Bool.and (Nat.beq e t.es) (okL t n get)
  |[.v (.slice none 0 0)]=>true
  |_=>false
 cks:=[.sl t.es]
 d:=[]
 h0 _:=rfl
 h1 l:=j9 t l
 h2 l:=by
  show Bool.and (Nat.beq t.es t.es) (okL t l.length λk=>t.row (gL t l k))=true
  rw[Nat.beq_refl,Bool.true_and];exact Na4 t (f:=λk=>gL t l k) λ_ _=>rfl
 h3 r h:=by
  split at h
  ·rename_i e n get;rw[Qbd] at h
   have:=Qae h.1
   subst this;exact .cons (treeLe t h.2) .nil
  ·exact .cons (CLe.nilTree _ _) .nil
  ·cases h
 h4 l:=by
  show Bool.and (Nat.beq t.es t.es) true=true;rw[Nat.beq_refl];rfl
 h5 _:=rfl
def tI:Ty Int where
 es:=1
 row n:=[i n]
 rd r:=toI (hdA r)
 ok r:=match r with
  |[.v (.int .i64 _)]=>true
  |_=>false
 cks:=[.int .i64]
 d:=0
 h0 _:=rfl
 h1 _:=rfl
 h2 _:=rfl
 h3 r h:=by
  split at h
  ·exact .refl _
  ·cases h
 h4 _:=rfl
 h5 _:=rfl
def ra8(n:Nat)(l:List b9):Bool:=Nat.rec (motive:=λ_=>List b9->Bool)
 (λl=>List.rec (motive:=λ_=>Bool) true (λ_ _ _=>false) l)
 (λ_ ih l=>List.rec (motive:=λ_=>Bool) false (λx r _=>Bool.and (Ib5 (.int .i64) x) (ih r)) l) n l
def de0(n:Nat)(l:List b9):List b9:=Nat.rec (motive:=λ_=>List b9->List b9) (λ_=>[]) (λ_ ih l=>i (toI (hdA l))::ih (tlA l)) n l
theorem Ga3:∀{n:Nat} {l:List b9},ra8 n l=true->l=de0 n l
 |0,[],_=>rfl
 |0,x::r,h=>by cases h
 |n+1,[],h=>by cases h
 |n+1,x::r,h=>by
  have h:Bool.and (Ib5 (.int .i64) x) (ra8 n r)=true:=h;rw[Qbd] at h;show x::r=i (toI x)::de0 n r;rw[<- Ga3 h.2];have h1:=h.1;cases x with
  |v y=>cases y with
   |int k m =>
    have h1:decide (IntKind.i64=k)=true:=h1;rw[<- of_decide_eq_true h1];rfl
   |_=>cases h1
  |_=>cases h1
inductive Dis (H:List c7):List c7->Prop
 |refl:Dis H H
 |step {H'} (id:Nat) (h:Dis H H'):Dis H (disown H' id)
theorem Vb1(H:List c7)(id j g:Nat):blkAt (disown H id) j g=(blkAt H j g).map λb=>if j=id then { b with own:=false } else b:=by
 unfold blkAt disown modAt;cases hb:nth H id with
 |none =>
  grind
 |some c =>
  simp only[p9,r6];by_cases h:j=id
  ·subst h;have hb':H[j]?=some c:=by rw[<- p9];exact hb
   grind
  grind
structure R1(ρ:Type) where
 enc:ρ->b9
 rd:List c7->b9->Option ρ
 d:ρ
 le:∀H x r,rd H x=some r->∃z H',la1 H x=some (z,H')/\Dis H H'/\∀ρ' H2 F w v,S5 ρ' H2 F w z v->S5 ρ' H2 F w (enc r) v
 dis:∀H id x,rd (disown H id) x=rd H x
theorem R1.diss{ρ:Type}(R:R1 ρ){H H':List c7}(h:Dis H H')(x:b9):R.rd H' x=R.rd H x:=by
 induction h with
 |refl=>rfl
 |step id h ih=>rw[R.dis,ih]
theorem CLe.v{x y:b9}(h:CLe x y)(hx:∀(ρ:Rho) H F w v,S5 ρ H F w x v->J9 ρ H F w x v):∀ρ' H2 F w v,S5 ρ' H2 F w x v->S5 ρ' H2 F w y v:=λ_ _ _ _ _ hv=>.cell (h.c _ _ _ _ _ (hx _ _ _ _ _ hv))
def r1K(k:IntKind):R1 Int where
 enc n:=.v (.int k n)
 rd _ x:=match x with
  |.v (.int k' n)=>Bool.rec (motive:=λ_=>Option Int) none (some n) (decide (k=k'))
  |_=>none
 d:=0
 le H x r h:=by
  split at h
  ·rename_i k' n;cases hb:decide (k=k') with
   |false=>rw[hb] at h;cases h
   |true =>
    rw[hb] at h;have h:some n=some r:=h;injection h with h;subst h
    have:=of_decide_eq_true hb
    subst this;exact⟨_,H,rfl,.refl,λ_ _ _ _ _ h=>h⟩
  ·cases h
 dis _ _ _:=rfl
def r1I:R1 Int:=r1K .i64
def r1B:R1 Bool where
 enc n:=b n
 rd _ x:=match x with
  |.v (.bool n)=>some n
  |_=>none
 d:=false
 le H x r h:=by
  split at h
  ·injection h with h;subst h;exact⟨_,H,rfl,.refl,λ_ _ _ _ _ h=>h⟩
  ·cases h
 dis _ _ _:=rfl
theorem zc8(H:List c7):∀(n:Nat) (l:List b9),ra8 n l=true->freezeCells H l=some (l,H)
 |0,[],_=>rfl
 |0,x::r,h=>by cases h
 |n+1,[],h=>by cases h
 |n+1,x::r,h=>by
  have e:=Ga3 h;have h:Bool.and (Ib5 (.int .i64) x) (ra8 n r)=true:=h;rw[Qbd] at h;have e1:x=i (toI x):=(List.cons.inj e).1;simp only[freezeCells];rw[e1];simp only[freezeCell,pc1,zc8 H n r h.2]
section
variable{α:Type}(t:Ty α)
def r1A(n:Nat)(ht:∀r,ra8 n r=true->t.ok r=true):R1 α where
 enc x:=.agg (t.row x)
 rd _ x:=match x with
  |.agg cs=>Bool.rec (motive:=λ_=>Option α) none (some (t.rd cs)) (ra8 n cs)
  |_=>none
 d:=t.d
 le H x r h:=by
  split at h
  ·rename_i cs;cases hb:ra8 n cs with
   |false=>rw[hb] at h;cases h
   |true =>
    rw[hb] at h;have h:some (t.rd cs)=some r:=h;injection h with h;subst h;have h3:=t.h3 cs (ht cs hb);refine⟨.agg cs,H,?_,.refl,λρ' H2 F w v hv=>?_⟩
    ·simp only[la1,zc8 H n cs hb]
    ·obtain⟨vs,rfl,hl,hr⟩:=ga4 (.val hv);refine .agg _ _ (by rw[<- h3.length];exact hl) λi y v' hy hv'=>?_
     obtain⟨x,hx,hle⟩:=h3.get i y hy;exact hle.c _ _ _ _ _ (hr i x v' hx hv')
  ·cases h
 dis _ _ _:=rfl
def r1L:R1 (List α) where
 enc l:=eL t l
 rd H x:=match x with
  |.v (.slice none 0 0)=>some []
  |.tree e n get=>Bool.rec (motive:=λ_=>Option (List α)) none (some (lsL t n get)) (Bool.and (Nat.beq e t.es) (okL t n get))
  |.sl id off n g=>match blkAt H id g with
   |some b=>Bool.rec (motive:=λ_=>Option (List α)) none (some (slR t b.elems off n)) (Bool.and (Nat.beq b.es t.es) (okS t b.elems off n))
   |none=>none
  |_=>none
 d:=[]
 le H x r h:=by
  split at h
  ·injection h with h;subst h;exact⟨_,H,rfl,.refl,(CLe.nilTree _ _).v λ_ _ _ _ _ h=>by cases h with | cell h=>exact h⟩
  ·rename_i e n get;cases hb:Bool.and (Nat.beq e t.es) (okL t n get) with
   |false=>rw[hb] at h;cases h
   |true =>
    rw[hb] at h;have h:some (lsL t n get)=some r:=h;injection h with h;subst h;rw[Qbd] at hb
    have:=Qae hb.1
    subst this;exact⟨_,H,rfl,.refl,(treeLe t hb.2).v λ_ _ _ _ _ h=>by cases h with | cell h=>exact h⟩
  ·rename_i id off n g;cases hk:blkAt H id g with
   |none=>simp only[hk] at h;cases h
   |some b =>
    simp only[hk] at h;cases hb:Bool.and (Nat.beq b.es t.es) (okS t b.elems off n) with
    |false=>rw[hb] at h;cases h
    |true =>
     rw[hb] at h;have h:some (slR t b.elems off n)=some r:=h;injection h with h;subst h;rw[Qbd] at hb
     have:=Qae hb.1
     refine⟨wb0 b off n,disown H id,?_,.step id .refl,?_⟩
     ·simp only[la1,freezeCell,hk]
     ·unfold wb0;rw[this];exact (treeLe t hb.2).v λ_ _ _ _ _ h=>by cases h with | cell h=>exact h
  ·cases h
 dis H id x:=by
  cases x with
  |sl id' off n g =>
   simp only[Vb1];cases blkAt H id' g with
   |none=>rfl
   |some b =>
    simp only[Option.map]
    split<;>rfl
  |v y=>cases y with
   |slice a n c=>cases a<;>cases n<;>cases c<;>rfl
   |_=>rfl
  |_=>rfl
end
structure RR(ρ:Type) where
 enc:ρ->b9
 rd:b9×List c7->Option ρ
 d:ρ
 le:∀x o r,rd (x,o)=some r->Sc6 x o (enc r)
theorem nd7{H:List c7}{l:List b9}{z:b9×List c7}(h:la1 H (.tup l)=some z):False:=by cases h
theorem nd8{H:List c7}{x z:b9}{H':List c7}(h:la1 H x=some (z,H')):dc4 H x=some z:=by
 cases x with
 |tup l=>exact (nd7 h).elim
 |_=>simp only[dc4,h]
theorem Ve7{x y:b9}(h:∀ρ' H2 F w v,S5 ρ' H2 F w x v->S5 ρ' H2 F w y v)(hx:∀l,x≠.tup l):ALe x y:=λρ H F w v hv=>by
 cases hv with
 |val hv=>exact .val (h _ _ _ _ _ hv)
 |tup xs=>exact absurd rfl (hx xs)
theorem ad8{H H':List c7}{x z:b9}(h:la1 H x=some (z,H')):∀l,z≠.tup l:=λl e=>by
 subst e;unfold la1 at h
 split at h
 ·split at h<;>cases h
 ·unfold freezeCell at h
  split at h
  ·split at h<;>cases h
  ·cases h
  ·split at h<;>cases h
  ·split at h
   ·simp only[wb0] at h;cases h
   ·cases h
  ·cases h
def one{ρ:Type}(a:R1 ρ):RR ρ where
 enc:=a.enc
 rd r:=a.rd r.2 r.1
 d:=a.d
 le x o r h:=by
  obtain⟨z,H',h1,_,h2⟩:=a.le o x r h;exact⟨z,nd8 h1,Ve7 h2 (ad8 h1)⟩
def two{ρ σ:Type}(a:R1 ρ)(c:R1 σ):RR (ρ×σ) where
 enc r:=.tup [a.enc r.1,c.enc r.2]
 rd r:=match r.1 with
  |.tup [x,y]=>Option.rec (motive:=λ_=>Option (ρ×σ)) none (λu=>Option.rec (motive:=λ_=>Option (ρ×σ)) none (λv=>some (u,v)) (c.rd r.2 y)) (a.rd r.2 x)
  |_=>none
 d:=(a.d,c.d)
 le q o r h:=by
  split at h
  ·rename_i x y e
   simp only at e
   subst e;cases hu:a.rd o x with
   |none=>rw[hu] at h;cases h
   |some u =>
   cases hv:c.rd o y with
   |none=>rw[hu,hv] at h;cases h
   |some v =>
   rw[hu,hv] at h;have h:some (u,v)=some r:=h;injection h with h;subst h;obtain⟨z1,H1,h1,d1,l1⟩:=a.le o x u hu;obtain⟨z2,H2,h2,d2,l2⟩:=c.le H1 y v (by rw[c.diss d1];exact hv)
   refine⟨.tup [z1,z2],by simp only[dc4,Va1,h1,h2],ALe.tup rfl λk p q hp hq=>?_⟩
   match k,hp,hq with
   |0,hp,hq=>cases hp;cases hq;exact l1
   |1,hp,hq=>cases hp;cases hq;exact l2
  ·cases h
def okO{ρ:Type}(R:RR ρ)(o:Option (b9×List c7)):Bool:=Option.rec (motive:=λ_=>Bool) false (λr=>Option.rec (motive:=λ_=>Bool) false (λ_=>true) (R.rd r)) o
def F6{ρ:Type}(R:RR ρ)(o:Option (b9×List c7)):ρ:=Option.rec (motive:=λ_=>ρ) R.d (λr=>Option.rec (motive:=λ_=>ρ) R.d (λx=>x) (R.rd r)) o
@[reducible] def rdO{ρ:Type}(R:RR ρ)(o:Option (b9×List c7)):DT (b9×List c7):=.guard (okO R o) (.ret (R.enc (F6 R o),[]))
theorem ad9{ρ:Type}{R:RR ρ}{o:Option (b9×List c7)}{y:b9}{out:List c7}(h:(rdO R o).run=some (y,out)):out=[]/\∃x o',o=some (x,o')/\Sc6 x o' y:=by
 obtain⟨h1,h2⟩:=DT.run_guard_some h;have h2:some (R.enc (F6 R o),([]:List c7))=some (y,out):=h2;injection h2 with h2;injection h2 with e1 e2;subst e1 e2
 refine⟨rfl,?_⟩;cases o with
 |none=>cases h1
 |some r =>
  obtain⟨x,o'⟩:=r;refine⟨x,o',rfl,?_⟩;cases hr:R.rd (x,o') with
  |none=>simp only[okO,hr] at h1;cases h1
  |some q =>
   simp only[F6,hr];exact R.le x o' q hr
theorem bb4{α:Type}(o:Option α):(DT.ofOption o).run=o:=by cases o<;>rfl
section
variable{α β γ δ ε ζ:Type}{P:Program}{G:Nat->List Value}{f:FuncId}{R0:Sum}{c:Cod α}{d:Cod β}{e:Cod γ}{c4:Cod δ}{c5:Cod ε}{c6:Cod ζ}{ρ:Type}
theorem vb5(hb:e8 P G f R0)(R:RR ρ){o:α->Option (b9×List c7)}(h:∀a r,o a=some r->(R0 [c.enc a] []).run=some r):e8 P G f (B5 c λa=>rdO R (o a)) :=
 Ud0 (Gb2 hb (k:=λa=>DT.ofOption (o a)) λa r hr=>h a r (by rw[bb4] at hr;exact hr)) λa y out hr=>by
  obtain⟨e,x,o',h1,h2⟩:=ad9 hr;exact⟨e,x,o',by rw[bb4,h1],h2⟩
theorem Lc7(hb:e8 P G f R0)(R:RR ρ){o:α->β->Option (b9×List c7)}(h:∀a b r,o a b=some r->(R0 [c.enc a,d.enc b] []).run=some r):e8 P G f (ba0 c d λa b=>rdO R (o a b)) :=
 Ud1 (Jd0 hb (k:=λa b=>DT.ofOption (o a b)) λa b r hr=>h a b r (by rw[bb4] at hr;exact hr)) λa b y out hr=>by
  obtain⟨e,x,o',h1,h2⟩:=ad9 hr;exact⟨e,x,o',by rw[bb4,h1],h2⟩
theorem jf9(hb:e8 P G f R0)(R:RR ρ){o:α->β->γ->Option (b9×List c7)}(h:∀a b g r,o a b g=some r->(R0 [c.enc a,d.enc b,e.enc g] []).run=some r):e8 P G f (yb3 c d e λa b g=>rdO R (o a b g)) :=
 Ud2 (Jd1 hb (k:=λa b g=>DT.ofOption (o a b g)) λa b g r hr=>h a b g r (by rw[bb4] at hr;exact hr)) λa b g y out hr=>by
  obtain⟨e,x,o',h1,h2⟩:=ad9 hr;exact⟨e,x,o',by rw[bb4,h1],h2⟩
theorem Cf4(hb:e8 P G f R0)(R:RR ρ){o:α->β->γ->δ->Option (b9×List c7)}(h:∀a b g j r,o a b g j=some r->(R0 [c.enc a,d.enc b,e.enc g,c4.enc j] []).run=some r):e8 P G f (Bd3 c d e c4 λa b g j=>rdO R (o a b g j)) :=
 (ye1 hb (k:=λa b g j=>DT.ofOption (o a b g j)) λa b g j r hr=>h a b g j r (by rw[bb4] at hr;exact hr)).conv λargs blks y out hr=>by
  unfold Bd3 at hr
  split at hr
  ·obtain⟨a,h1,hr⟩:=B4 hr;obtain⟨b,h2,hr⟩:=B4 hr;obtain⟨g,h3,hr⟩:=B4 hr;obtain⟨j,h4,hr⟩:=B4 hr;obtain⟨g1,hr⟩:=DT.run_guard_some hr;obtain⟨g2,hr⟩:=DT.run_guard_some hr;obtain⟨g3,hr⟩:=DT.run_guard_some hr;obtain⟨g4,hr⟩:=DT.run_guard_some hr;obtain⟨e1,x,o',e2,e3⟩:=ad9 hr;refine⟨rfl,e1,x,o',?_,e3⟩;simp only[Bd3,h1,h2,h3,h4,onO,g1,g2,g3,g4];show (DT.ofOption (o a b g j)).run=_;rw[bb4,e2]
  ·cases hr
end
inductive Kc where
 |o (k:Sk)
 |c (es:Nat) (f:b9->b9)
def Ve8:Kc->b9->Bool
 |.o k,x=>ye2 k x
 |.c es _,.tree es' _ _=>Nat.beq es es'
 |.c _ _,_=>false
def Ve9:Kc->b9->b9
 |.o k,x=>Ve4 k x
 |.c _ f,x=>f x
def We0(k:Kc)(x:b9)(z:Bool):Bool:=match k with
 |.o _=>z
 |.c _ f=>Bool.and (ce9 f x) z
theorem ye4{k:Kc}{x:b9}{z:Bool}(h:Ve8 k x=true)(hc:We0 k x z=true):x=Ve9 k x/\z=true:=by
 cases k with
 |o k=>exact⟨Jd2 h,hc⟩
 |c es f =>
  have hc:Bool.and (ce9 f x) z=true:=hc;rw[Qbd] at hc;exact⟨Me2 hc.1,hc.2⟩
def de1(ks:List Kc):List b9->Bool :=
 List.rec (motive:=λ_=>List b9->Bool) (λl=>List.rec (motive:=λ_=>Bool) true (λ_ _ _=>false) l)
  (λk _ ih l=>List.rec (motive:=λ_=>Bool) false (λx r _=>Bool.and (Ve8 k x) (ih r)) l) ks
def Jd9(ks:List Kc):List b9->List b9 :=
 List.rec (motive:=λ_=>List b9->List b9) (λ_=>[]) (λk _ ih l=>Ve9 k (hdA l)::ih (tlA l)) ks
def de2(z:Bool)(ks:List Kc):List b9->Bool :=
 List.rec (motive:=λ_=>List b9->Bool) (λ_=>z) (λk _ ih l=>We0 k (hdA l) (ih (tlA l))) ks
theorem nd9{z:Bool}:∀{ks:List Kc} {l:List b9},de1 ks l=true->de2 z ks l=true->l=Jd9 ks l/\z=true
 |[],[],_,hc=>⟨rfl,hc⟩
 |[],x::r,h,_=>by cases h
 |k::ks,[],h,_=>by cases h
 |k::ks,x::r,h,hc=>by
  have h:Bool.and (Ve8 k x) (de1 ks r)=true:=h;rw[Qbd] at h;have hc:We0 k x (de2 z ks r)=true:=hc;obtain⟨e1,h2⟩:=ye4 h.1 hc;obtain⟨e2,h3⟩:=nd9 h.2 h2;refine⟨?_,h3⟩;show x::r=Ve9 k x::Jd9 ks r;rw[<- e1,<- e2]
inductive K where
 |o (k:Sk)
 |c (es:Nat) (f:b9->b9)
 |fn (f:Nat) (l:List Kc)
def isK:K->b9->Bool
 |.o k,x=>ye2 k x
 |.c es _,.tree es' _ _=>Nat.beq es es'
 |.fn f l,.fn f' r=>Bool.and (Nat.beq f f') (de1 l r)
 |.c _ _,_=>false
 |.fn _ _,_=>false
def asK:K->b9->b9
 |.o k,x=>Ve4 k x
 |.c _ f,x=>f x
 |.fn f l,x=>.fn f (Jd9 l (cellsOf x))
def cnK(k:K)(x:b9)(z:Bool):Bool:=match k with
 |.o _=>z
 |.c _ f=>Bool.and (ce9 f x) z
 |.fn _ l=>de2 z l (cellsOf x)
theorem de3{k:K}{x:b9}{z:Bool}(h:isK k x=true)(hc:cnK k x z=true):x=asK k x/\z=true:=by
 unfold isK at h
 split at h
 ·exact⟨Jd2 h,hc⟩
 ·have hc:Bool.and (ce9 _ _) z=true:=hc;rw[Qbd] at hc;exact⟨Me2 hc.1,hc.2⟩
 ·rename_i f l f' r;rw[Qbd] at h;obtain⟨e,hz⟩:=nd9 h.2 hc;refine⟨?_,hz⟩;show b9.fn f' r=.fn f (Jd9 l r);rw[<- e,Qae h.1]
 ·cases h
 ·cases h
def Bd8(ks:List K):List b9->Bool :=
 List.rec (motive:=λ_=>List b9->Bool) (λl=>List.rec (motive:=λ_=>Bool) true (λ_ _ _=>false) l)
  (λk _ ih l=>List.rec (motive:=λ_=>Bool) false (λx r _=>Bool.and (isK k x) (ih r)) l) ks
def od0(ks:List K):List b9->List b9 :=
 List.rec (motive:=λ_=>List b9->List b9) (λ_=>[]) (λk _ ih l=>asK k (hdA l)::ih (tlA l)) ks
def Bd9(z:Bool)(ks:List K):List b9->Bool :=
 List.rec (motive:=λ_=>List b9->Bool) (λ_=>z) (λk _ ih l=>cnK k (hdA l) (ih (tlA l))) ks
theorem Vb2{z:Bool}:∀{ks:List K} {l:List b9},Bd8 ks l=true->Bd9 z ks l=true->l=od0 ks l/\z=true
 |[],[],_,hc=>⟨rfl,hc⟩
 |[],x::r,h,_=>by cases h
 |k::ks,[],h,_=>by cases h
 |k::ks,x::r,h,hc=>by
  have h:Bool.and (isK k x) (Bd8 ks r)=true:=h;rw[Qbd] at h;have hc:cnK k x (Bd9 z ks r)=true:=hc;obtain⟨e1,h2⟩:=de3 h.1 hc;obtain⟨e2,h3⟩:=Vb2 h.2 h2;refine⟨?_,h3⟩;show x::r=asK k x::od0 ks r;rw[<- e1,<- e2]
inductive S2 where
 |s (k:K)
 |agg (l:List K)
 |tup (l:List K)
 |fn (f:Nat) (l:List K)
def isS:S2->b9->Bool
 |.s k,x=>isK k x
 |.agg l,.agg r=>Bd8 l r
 |.tup l,.tup r=>Bd8 l r
 |.fn f l,.fn f' r=>Bool.and (Nat.beq f f') (Bd8 l r)
 |_,_=>false
def asS:S2->b9->b9
 |.s k,x=>asK k x
 |.agg l,x=>.agg (od0 l (cellsOf x))
 |.tup l,x=>.tup (od0 l (cellsOf x))
 |.fn f l,x=>.fn f (od0 l (cellsOf x))
def cnS(k:S2)(x:b9)(z:Bool):Bool:=match k with
 |.s k=>cnK k x z
 |.agg l=>Bd9 z l (cellsOf x)
 |.tup l=>Bd9 z l (cellsOf x)
 |.fn _ l=>Bd9 z l (cellsOf x)
theorem We1{k:S2}{x:b9}{z:Bool}(h:isS k x=true)(hc:cnS k x z=true):x=asS k x/\z=true:=by
 unfold isS at h
 split at h
 ·exact de3 h hc
 ·rename_i l r;obtain⟨e,hz⟩:=Vb2 h hc;exact⟨congrArg b9.agg e,hz⟩
 ·rename_i l r;obtain⟨e,hz⟩:=Vb2 h hc;exact⟨congrArg b9.tup e,hz⟩
 ·rename_i f l f' r;rw[Qbd] at h;obtain⟨e,hz⟩:=Vb2 h.2 hc;refine⟨?_,hz⟩;show b9.fn f' r=.fn f (od0 l r);rw[<- e,Qae h.1]
 ·cases h
def de4(ks:List S2):List b9->Bool :=
 List.rec (motive:=λ_=>List b9->Bool) (λl=>List.rec (motive:=λ_=>Bool) true (λ_ _ _=>false) l)
  (λk _ ih l=>List.rec (motive:=λ_=>Bool) false (λx r _=>Bool.and (isS k x) (ih r)) l) ks
def Ud3(ks:List S2):List b9->List b9 :=
 List.rec (motive:=λ_=>List b9->List b9) (λ_=>[]) (λk _ ih l=>asS k (hdA l)::ih (tlA l)) ks
def ye5(z:Bool)(ks:List S2):List b9->Bool :=
 List.rec (motive:=λ_=>List b9->Bool) (λ_=>z) (λk _ ih l=>cnS k (hdA l) (ih (tlA l))) ks
theorem Kd0{z:Bool}:∀{ks:List S2} {l:List b9},de4 ks l=true->ye5 z ks l=true->l=Ud3 ks l/\z=true
 |[],[],_,hc=>⟨rfl,hc⟩
 |[],x::r,h,_=>by cases h
 |k::ks,[],h,_=>by cases h
 |k::ks,x::r,h,hc=>by
  have h:Bool.and (isS k x) (de4 ks r)=true:=h;rw[Qbd] at h;have hc:cnS k x (ye5 z ks r)=true:=hc;obtain⟨e1,h2⟩:=We1 h.1 hc;obtain⟨e2,h3⟩:=Kd0 h.2 h2;refine⟨?_,h3⟩;show x::r=asS k x::Ud3 ks r;rw[<- e1,<- e2]
def We2(ks:List (List K)):List (List b9)->Bool :=
 List.rec (motive:=λ_=>List (List b9)->Bool) (λl=>List.rec (motive:=λ_=>Bool) true (λ_ _ _=>false) l)
  (λk _ ih l=>List.rec (motive:=λ_=>Bool) false (λx r _=>Bool.and (Bd8 k x) (ih r)) l) ks
def We3(ks:List (List K)):List (List b9)->List (List b9) :=
 List.rec (motive:=λ_=>List (List b9)->List (List b9)) (λ_=>[]) (λk _ ih l=>od0 k (hdR l)::ih (tlR l)) ks
def We4(z:Bool)(ks:List (List K)):List (List b9)->Bool :=
 List.rec (motive:=λ_=>List (List b9)->Bool) (λ_=>z) (λk _ ih l=>Bd9 (ih (tlR l)) k (hdR l)) ks
theorem Kd1{z:Bool}:∀{ks:List (List K)} {l:List (List b9)},We2 ks l=true->We4 z ks l=true->l=We3 ks l/\z=true
 |[],[],_,hc=>⟨rfl,hc⟩
 |[],x::r,h,_=>by cases h
 |k::ks,[],h,_=>by cases h
 |k::ks,x::r,h,hc=>by
  have h:Bool.and (Bd8 k x) (We2 ks r)=true:=h;rw[Qbd] at h;have hc:Bd9 (We4 z ks r) k x=true:=hc;obtain⟨e1,h2⟩:=Vb2 h.1 hc;obtain⟨e2,h3⟩:=Kd1 h.2 h2;refine⟨?_,h3⟩;show x::r=od0 k x::We3 ks r;rw[<- e1,<- e2]
def ru2(n:Nat)(l:List S2):List S2:=Nat.rec (motive:=λ_=>List S2) l (λ_ ih=>.s (.o .unk)::ih) n
structure B2 where
 et:Nat
 es:Nat
 own:Bool
 rows:Option (List (List K))
@[reducible] def isE(o:Option (List (List K)))(l:List (List b9)):Bool:=Option.rec (motive:=λ_=>Bool) true (λks=>We2 ks l) o
@[reducible] def asE(o:Option (List (List K)))(l:List (List b9)):List (List b9):=Option.rec (motive:=λ_=>List (List b9)) l (λks=>We3 ks l) o
@[reducible] def cnO(o:Option (List (List K)))(l:List (List b9))(z:Bool):Bool:=Option.rec (motive:=λ_=>Bool) z (λks=>We4 z ks l) o
def isB(k:B2)(x:c7):Bool :=
 Bool.and (Bool.and (Nat.beq k.et x.et) (Nat.beq k.es x.es)) (Bool.and (eqB k.own x.own) (Bool.and (!x.dead) (Bool.and (Nat.beq x.g 0) (isE k.rows x.elems))))
theorem We5{k:B2}{x:c7}{z:Bool}(h:isB k x=true)(hc:cnO k.rows x.elems z=true):x=⟨k.et,k.es,asE k.rows x.elems,k.own,false,0⟩/\z=true:=by
 unfold isB at h;simp only[Qbd] at h;obtain⟨⟨h1,h2⟩,h3,h4,h5,h6⟩:=h;have h1:=Qae h1;have h2:=Qae h2;have h5:=Qae h5;have h4:x.dead=false:=by simpa using h4
 obtain⟨et,es,el,ow,de,g⟩:=x;obtain⟨et',es',ow',rows⟩:=k
 simp only at *
 subst h1 h2 h4 h5;have h3:ow'=ow:=by cases ow'<;>cases ow<;>first | rfl | cases h3
 subst h3;cases rows with
 |none=>exact⟨rfl,hc⟩
 |some ks =>
  obtain⟨e,hz⟩:=Kd1 h6 hc
  grind
def de5(ks:List B2):List c7->Bool :=
 List.rec (motive:=λ_=>List c7->Bool) (λl=>List.rec (motive:=λ_=>Bool) true (λ_ _ _=>false) l)
  (λk _ ih l=>List.rec (motive:=λ_=>Bool) false (λx r _=>Bool.and (isB k x) (ih r)) l) ks
def Ud4(ks:List B2):List c7->List c7 :=
 List.rec (motive:=λ_=>List c7->List c7) (λ_=>[]) (λk _ ih l=>⟨k.et,k.es,asE k.rows (hdB l),k.own,false,0⟩::ih (tlB l)) ks
def ye6(z:Bool)(ks:List B2):List c7->Bool :=
 List.rec (motive:=λ_=>List c7->Bool) (λ_=>z) (λk _ ih l=>cnO k.rows (hdB l) (ih (tlB l))) ks
theorem Kd2{z:Bool}:∀{ks:List B2} {l:List c7},de5 ks l=true->ye6 z ks l=true->l=Ud4 ks l/\z=true
 |[],[],_,hc=>⟨rfl,hc⟩
 |[],x::r,h,_=>by cases h
 |k::ks,[],h,_=>by cases h
 |k::ks,x::r,h,hc=>by
  have h:Bool.and (isB k x) (de5 ks r)=true:=h;rw[Qbd] at h;have hc:cnO k.rows x.elems (ye6 z ks r)=true:=hc;obtain⟨e1,h2⟩:=We5 h.1 hc;obtain⟨e2,h3⟩:=Kd2 h.2 h2;refine⟨?_,h3⟩;show x::r=⟨k.et,k.es,asE k.rows x.elems,k.own,false,0⟩::Ud4 ks r;rw[<- e1,<- e2]
structure Al2(π σ:Type) where
 sh:List S2
 bl:List B2
 rd:List b9->List c7->π×σ
def ye7{π σ:Type}(l:List (Al2 π σ))(t:St):DT (π×σ) :=
 List.rec (motive:=λ_=>DT (π×σ)) .fail
  (λx _ ih=>Bool.rec (motive:=λ_=>DT (π×σ)) ih (.guard (ye5 (ye6 true x.bl t.H) x.sh t.a) (.ret (x.rd t.a t.H))) (Bool.and (de4 x.sh t.a) (de5 x.bl t.H))) l
theorem bd0{π σ:Type}{enc:π->σ->St}{t:St}{q:π×σ}:∀{l:List (Al2 π σ)},(∀x,x∈l->∀a H,(⟨Ud3 x.sh a,Ud4 x.bl H⟩:St)=enc (x.rd a H).1 (x.rd a H).2) ->
  (ye7 l t).run=some q->t=enc q.1 q.2
 |[],_,h=>by cases h
 |x::l,hl,h=>by
  have h:(Bool.rec (motive:=λ_=>DT (π×σ)) (ye7 l t) (.guard (ye5 (ye6 true x.bl t.H) x.sh t.a) (.ret (x.rd t.a t.H))) (Bool.and (de4 x.sh t.a) (de5 x.bl t.H))).run=some q:=h
  cases hb:Bool.and (de4 x.sh t.a) (de5 x.bl t.H) with
  |false=>rw[hb] at h;exact bd0 (λy hy=>hl y (.tail _ hy)) h
  |true =>
   rw[hb] at h;obtain⟨h1,h2⟩:=DT.run_guard_some h;cases h2;rw[Qbd] at hb;obtain⟨e1,h3⟩:=Kd0 hb.1 h1;obtain⟨e2,_⟩:=Kd2 hb.2 h3;rw[<- hl x (.head _) t.a t.H,<- e1,<- e2]
def Za4{π:Type}(x:Al2 π Unit)(k:π->DT (b9×List c7)):Sum:=λargs blks=>(ye7 [x] ⟨args,blks⟩).bind λq=>k q.1
theorem Q0{P:Program}{G:Nat->List Value}{f:FuncId}{R:Sum}{π:Type}{x:Al2 π Unit}{enc:π->St}{k:π->DT (b9×List c7)}
  (hx:∀a H,(⟨Ud3 x.sh a,Ud4 x.bl H⟩:St)=enc (x.rd a H).1) (hb:e8 P G f R)
  (h:∀p r,(k p).run=some r->(R (enc p).a (enc p).H).run=some r):e8 P G f (Za4 x k):=hb.le λargs blks r hr=>by
 obtain⟨q,h1,h2⟩:=DT.run_bind_some hr;have e:=bd0 (enc:=λp _=>enc p) (ia2.mem (.cons hx .nil)) h1
 grind
@[reducible] def slT(l:List b9)(n:Nat):b9:=hdA (Nat.rec (motive:=λ_=>List b9->List b9) (λl=>l) (λ_ ih l=>ih (tlA l)) n l)
@[reducible] def rwT(l:List (List b9))(n:Nat):List b9:=hdR (Nat.rec (motive:=λ_=>List (List b9)->List (List b9)) (λl=>l) (λ_ ih l=>ih (tlR l)) n l)
@[reducible] def elT(l:List c7)(n:Nat):List (List b9):=hdB (Nat.rec (motive:=λ_=>List c7->List c7) (λl=>l) (λ_ ih l=>ih (tlB l)) n l)
@[reducible] def xit(o:Option Nat):d8:=Option.rec (motive:=λ_=>d8) .ret (λid=>.exit id) o
theorem We6(o:Option Nat):xit o≠.normal:=by cases o<;>exact λh=>by cases h
abbrev Xs(π σ:Type):=List (Option Nat×(π->σ->St))
def xOf{π σ:Type}(xs:Xs π σ)(p:π)(s:σ)(t:Nat):Nat->Option (d8×St) :=
 List.rec (motive:=λ_=>Nat->Option (d8×St)) (λ_=>none) (λx _ ih k=>sel (Nat.beq t k) (some (xit x.1,x.2 p s)) (ih (k+1))) xs
def We7{π σ:Type}(xs:Xs π σ)(p:π)(r:Nat×σ):Nat->DT (d8×St) :=
 List.rec (motive:=λ_=>Nat->DT (d8×St)) (λ_=>.fail) (λx _ ih k=>.ite (Nat.beq r.1 k) (.ret (xit x.1,x.2 p r.2)) (ih (k+1))) xs
theorem od1{π σ:Type}(p:π)(r:Nat×σ):∀(xs:Xs π σ) (k:Nat),(We7 xs p r k).run=xOf xs p r.2 r.1 k
 |[],k=>rfl
 |x::xs,k=>by
  show (DT.ite (Nat.beq r.1 k) (.ret (xit x.1,x.2 p r.2)) (We7 xs p r (k+1))).run=sel (Nat.beq r.1 k) (some (xit x.1,x.2 p r.2)) (xOf xs p r.2 r.1 (k+1));rw[DT.run_ite,od1 p r xs (k+1)];cases Nat.beq r.1 k<;>rfl
theorem zc9{π σ:Type}(p:π)(s:σ):∀(xs:Xs π σ) (k:Nat),xOf xs p s 0 (k+1)=none
 |[],_=>rfl
 |_::xs,k=>zc9 p s xs (k+1)
theorem Kd3{π σ:Type}{p:π}{s:σ}{t:Nat}{e:d8×St}:∀{xs:Xs π σ} {k:Nat},xOf xs p s t k=some e->e.1≠.normal
 |[],_,h=>by cases h
 |x::xs,k,h=>by
  have h:sel (Nat.beq t k) (some (xit x.1,x.2 p s)) (xOf xs p s t (k+1))=some e:=h;cases hb:Nat.beq t k with
  |true=>rw[hb] at h;cases h;exact We6 _
  |false=>rw[hb] at h;exact Kd3 h
theorem od2{π σ:Type}{head:St->DT St}{body:St->DT (d8×St)}{enc:σ->St}{step:σ->Stp σ}{xs:Xs π σ}{p:π}
  (h:∀s,(bb3 head body (enc s)).run=yb4 (λs'=>some (.normal,enc s')) (λt=>xOf xs p s t 1) none (step s)) :
  ∀(n:Nat) (s:σ) (e:d8×St),xOf xs p (lp0 step n s).2 (lp0 step n s).1 1=some e->(Pb7 head body n (enc s)).run=some e
 |n,s,e,he=>by
  have hr:=h s;cases hs:step s with
  |fail =>
   have h0:lp0 step n s=(0,s):=by
    cases n with
    |zero=>show yb4 _ _ _ (step s)=_;rw[hs]
    |succ n=>show yb4 _ _ _ (step s)=_;rw[hs]
   rw[h0] at he;rw[show xOf xs p s 0 1=none from zc9 p s xs 0] at he
   cases he
  |exit t =>
   rw[zc5 hs] at he;rw[hs] at hr;have hr:(bb3 head body (enc s)).run=xOf xs p s t 1:=hr;have he:xOf xs p s t 1=some e:=he;rw[he] at hr;obtain⟨x,t'⟩:=e;exact xe6 hr (Kd3 he)
  |next s' =>
   cases n with
   |zero =>
    have h0:lp0 step 0 s=(0,s):=by show yb4 _ _ _ (step s)=_;rw[hs]
    rw[h0] at he;rw[show xOf xs p s 0 1=none from zc9 p s xs 0] at he
    cases he
   |succ n =>
    rw[nd3 hs] at he;rw[hs] at hr;exact xe5 hr (od2 h n s' e he)
section
variable{π σ:Type}
def Sc7(head:Nat->List Nat->St->DT St)(k:Nat)(keep:List Nat)(alts:List (Al2 π σ))(step:π->σ->Stp σ)(xs:Xs π σ)(s:St):DT (d8×St) :=
 (head k keep s).bind λt=>(ye7 alts t).bind λq=>We7 xs q.1 (lp (step q.1) q.2) 1
structure yb8(head:Nat->List Nat->St->DT St)(k:Nat)(keep:List Nat)(body:St->DT (d8×St))(alts:List (Al2 π σ))(step:π->σ->Stp σ)(xs:Xs π σ)(enc:π->σ->St):Prop where
 ha:ia2 (λx=>∀a H,(⟨Ud3 x.sh a,Ud4 x.bl H⟩:St)=enc (x.rd a H).1 (x.rd a H).2) alts
 h:∀p s,(bb3 (head k keep) body (enc p s)).run=yb4 (λs'=>some (.normal,enc p s')) (λt=>xOf xs p s t 1) none (step p s)
variable{E:Env}{k:Nat}{res:List cc4}{keep:List Nat}{alts:List (Al2 π σ)}{enc:π->σ->St}{step:π->σ->Stp σ}{xs:Xs π σ}{body:PS}{c:PC}{head:Nat->List Nat->St->DT St}{bd:St->DT (d8×St)}
theorem yb8.go(w:yb8 head k keep bd alts step xs enc){s:St}{r:d8×St}(hr:(Sc7 head k keep alts step xs s).run=some r):∃t,(head k keep s).run=some t/\(Pb7 (head k keep) bd rounds t).run=some r:=by
 obtain⟨t,h1,h2⟩:=DT.run_bind_some hr;obtain⟨q,h3,h4⟩:=DT.run_bind_some h2;rw[od1,ce5] at h4;have e:=bd0 w.ha.mem h3;refine⟨t,h1,?_⟩;rw[e];exact od2 (w.h q.1) rounds q.2 r h4
theorem yb8.belowC(hb:ba1 E k res body c)(hN:E.N=rounds+1)(w:yb8 yb2 k keep (Jd3 E k res body) alts step xs enc)(s:St):O6 k res (Sc7 yb2 k keep alts step xs s) (A1 E k (.loop keep c) s):=λr hr=>by
 obtain⟨t,h1,h2⟩:=w.go hr;rw[Sc5,hN];exact yb5 hb.le _ _ r (Gb1 h1 h2)
end
inductive RT where
 |p
 |s (a c:RT)
 |c (x y:RT)
 |b (c:RT)
 |l (c:RT)
 |i (c:RT)
 |u (S:St->DT (d8×St))
def Ac0:RT->PC->PS
 |.s a b,.seq x y=>.seq (Ac0 a x) (Ac0 b y)
 |.c a b,.cond g x y=>.cond g (Ac0 a x) (Ac0 b y)
 |.b a,.block id x=>.block id (Ac0 a x)
 |.l a,.loop keep x=>.loop keep (Ac0 a x)
 |.u S,_=>.sum S
 |_,c=>.pc c
def kb2:RT->PC->List ((St->DT (d8×St))×PC)
 |.s a b,.seq x y=>app (kb2 a x) (kb2 b y)
 |.c a b,.cond _ x y=>app (kb2 a x) (kb2 b y)
 |.b a,.block _ x=>kb2 a x
 |.l a,.loop _ x=>kb2 a x
 |.i a,.inner _ _ _ x=>kb2 a x
 |.u S,c=>[(S,c)]
 |_,_=>[]
theorem ia2.app{α:Type}{Q:α->Prop}:∀{l r:List α},ia2 Q (Go.Ev.app l r)->ia2 Q l/\ia2 Q r
 |[],_,h=>⟨.nil,h⟩
 |_::l,_,.cons h t=>⟨.cons h (ia2.app t).1,(ia2.app t).2⟩
theorem Kd4{E:Env}{k:Nat}{res:List cc4}(rt:RT)(c:PC):ia2 (λx=>∀s,O6 k res (x.1 s) (A1 E k x.2 s)) (kb2 rt c)->ba1 E k res (Ac0 rt c) c:=by
 induction rt generalizing c with
 |p=>intro h;cases c<;>exact .pc _
 |s a b iha ihb =>
  intro h;cases c with
  |seq x y=>exact .seq (iha x (ia2.app h).1) (ihb y (ia2.app h).2)
  |_=>exact .pc _
 |c a b iha ihb =>
  intro h;cases c with
  |cond g x y=>exact .cond g (iha x (ia2.app h).1) (ihb y (ia2.app h).2)
  |_=>exact .pc _
 |b a iha =>
  intro h;cases c with
  |block id x=>exact .block id (iha x h)
  |_=>exact .pc _
 |l a iha =>
  intro h;cases c with
  |loop keep x=>exact .loop keep (iha x h)
  |_=>exact .pc _
 |i a iha=>intro h;cases c<;>exact .pc _
 |u S =>
  intro h
  have:kb2 (.u S) c=[(S,c)]:=by cases c<;>rfl
  rw[this] at h;cases h with
  |cons h t =>
   have e:Ac0 (.u S) c=.sum S:=by cases c<;>rfl
   rw[e];exact .sum h
def Cf5(l:List Nat)(c:PC):PC :=
 List.rec (motive:=λ_=>PC->PC) (λc=>c) (λn _ ih c=>match c with
  |.seq x y=>ih (match n with | 0=>x | _=>y)
  |.cond _ x y=>ih (match n with | 2=>x | _=>y)
  |.block _ x=>ih x
  |.loop _ x=>ih x
  |.loopM _ x=>ih x
  |.inner _ _ _ x=>ih x
  |c=>c) l c
end Go.Ev.L
namespace Go.Ev.L
open Go Go.Ev Go.Sort Go.Proofs
section
variable{α:Type}[Inhabited α]{P:Program}{G:Nat->List Value}{g:FuncId}{S:Sum}{t:Ty α}{enc:α->List Value}{cf:α->α->Int}
theorem Kd5(hc:e8 P G g S)(hS:∀x y,(S [.agg (t.row x),.agg (t.row y)] []).run=some (i (cf x y),[]))(hG:∀n,G n=[])(he:∀x,t.row x=(enc x).map .v)(k blk off size:Nat)(w:World) :
  CmpLays P g #[] enc k cf blk off size w:=by
 intro m os dk _ x y;generalize sortWorldK enc k w blk off m dk os=w0;have hrow:∀(z:α),S5 (λ_=>⟨0,0,0⟩) [] (λ_ _=>False) w0 (.agg (t.row z)) (.agg (enc z).toArray):=λz=>by
  refine .agg _ _ (by rw[he];simp) λi u u' hu hu'=>?_
  rw[he,Qbm] at hu;have hu':(enc z)[i]?=some u':=by simpa using hu'
  rw[hu'] at hu;injection hu with hu;subst hu;exact .v _
 obtain⟨_,h⟩:=hc _ _ _ _ (hS x y) (λk=>w0.heap.size<=k) (λ_=>⟨0,0,0⟩) (λ_ _=>False) w0 [.agg (enc x).toArray,.agg (enc y).toArray]
  ⟨λid b hb=>by simp at hb,λid id' b b' hb=>by simp at hb,λb o hf=>hf.elim,λk hk=>hk⟩ rfl
  (λi u u' hu hu'=>by
   match i,hu,hu' with
   |0,hu,hu'=>cases hu;cases hu';exact .val (hrow x)
   |1,hu,hu'=>cases hu;cases hu';exact .val (hrow y))
  (λn c v hv=>by rw[hG] at hv;simp at hv)
 refine h.mono λe w' ⟨r',h1,ρ',F',h2,h3,h4⟩=>?_
 have h5:=K5 h4;subst h5;refine⟨h1,w'.drawn-w0.drawn,w'.heap.extract w0.heap.size w'.heap.size,?_⟩;have hd:=h2.ext.drawn;have hs:=h2.ext.size;have hheap:w'.heap=w0.heap++w'.heap.extract w0.heap.size w'.heap.size:=by
  apply Array.ext_getElem?;intro j
  rcases Qan j w0.heap.size with hj|hj
  ·rw[Qdc hj,h2.ext.block j hj (by omega)]
  grind
 obtain⟨hp,tp,dr,os',out⟩:=w';have e1:=h2.ext.os;have e2:=h2.ext.tape;have e3:=h2.ext.output
 simp only at e1 e2 e3 hd hheap
 subst e1 e2 e3;unfold grow World.drewN
 simp only
 congr 1;omega
def Kd6(t:Ty α)(g:Nat)(et:Nat)(srt:List α->List α):Sum:=λargs blks=>match args,blks with
 |[.sl 0 0 n 0,.fn g' []],[⟨et',es',el,true,false,0⟩] =>
  Bool.rec (motive:=λ_=>DT (b9×List c7)) .fail (.guard (Bool.and (Nat.ble n room) (Bool.and (Nat.ble n (len el)) (okS t el 0 n))) (.ret (.v (.tuple #[]),[⟨et',es',app (bL t (srt (slR t el 0 n))) (i9 el n),true,false,0⟩])))
   (Bool.and (Nat.beq g' g) (Bool.and (Nat.beq et' et) (Nat.beq es' t.es)))
 |_,_=>.fail
theorem Vb3(l:List α)(j:Nat)(h:j<l.length):l.toArray[j]! = l[j]:=by
 simp_all
theorem Kd7{f:FuncId}{et:Nat}{srt:List α->List α}(hcall:Ua7 P f)(hes:0<t.es)(he:∀x,t.row x=(enc x).map .v)(hx:∀r,t.ok r=true->r=t.row (t.rd r))(h1:∀x,∀v∈enc x,v.oneCell'=true)
  (hlen:∀l,(srt l).length=l.length) (hcl:∀blk off size w,CmpLays P g #[] enc t.es cf blk off size w)
  (hcon:∀(blk cap:Nat) (d:Array α) (w:World),(∀off size,CmpLays P g #[] enc t.es cf blk off size w)->HoldsK enc t.es w blk 0 d->blk<w.heap.size->d.size<4611686018427387904 ->
   Calls P f #[.slice (some ⟨blk,0,none⟩) d.size cap,.func (.func g) #[] #[]] w λe w'=>e=.returned (.tuple #[])/\∃n os,w'=sortWorldK enc t.es w blk 0 n (srt d.toList).toArray os) :
  e8 P G f (Kd6 t g et srt):=by
 intro args blks r out hr W ρ F w args' hH hl hargs hG;refine⟨hcall,?_⟩;unfold Kd6 at hr
 split at hr
 case h_2=>cases hr
 rename_i n g' et' es' el;cases hb0:Bool.and (Nat.beq g' g) (Bool.and (Nat.beq et' et) (Nat.beq es' t.es)) with
 |false=>rw[hb0] at hr;cases hr
 |true =>
 rw[hb0] at hr;rw[Qbd,Qbd] at hb0;have q1:=Qae hb0.1;have q2:=Qae hb0.2.1;have q3:=Qae hb0.2.2;subst q1 q2 q3;obtain⟨hg0,hr⟩:=DT.run_guard_some hr;rw[Qbd,Qbd] at hg0;have hroom:n<=room:=Qbb hg0.1;have hn:=Qbb hg0.2.1;rw[l6] at hn;have hok:=hg0.2.2;injection hr with hr;injection hr with p1 p2;subst p1 p2
 match args',hl with
 |[v0,v1],_ =>
 obtain⟨a,cap,b,rfl,hb,hd,_,hncap,hspot,hcap,hq⟩:=wa9 (hargs 0 _ _ rfl rfl);obtain⟨vs1,rfl,hvs1,_⟩:=eb9 (hargs 1 _ _ rfl rfl);have hvs1:vs1=#[]:=Array.eq_empty_of_size_eq_zero (by simpa using hvs1.symm)
 subst hvs1;rw[Ta6] at *
 have hb:b=⟨et',t.es,el,true,false,0⟩:=by simpa using hb.symm
 subst hb;obtain⟨ha,hsz,hne⟩:=hq rfl;have ha:a=⟨(ρ 0).blk,(ρ 0).off+0*t.es,none⟩:=ha.resolve_left λh=>by omega
 obtain⟨cc,tt,fr,hB⟩:=hH.blk 0 _ rfl rfl;obtain⟨hfr,hW,hoff,hsize,hnF,het⟩:=hB.own rfl;subst hfr;rw[hoff,Nat.zero_mul,Nat.add_zero] at ha;subst ha;generalize hbk:(ρ 0).blk=blk at *
 -- the rows asq data
 have hrow:∀j,j<n->j6 el j=(enc (gL t (slR t el 0 n) j)).map .v:=λj hj=>by
  have h2:t.ok (j6 el (0+j))=true:=Qcf.1 hok j (by simpa using hj)
  rw[Qbh] at h2;rw[<- he,slR,Jd5 t _ hj,Qbh];exact hx _ h2
 have hld:(slR t el 0 n).length=n:=Jd4 ..;have hk:∀x,(enc x).length=t.es:=λx=>by have:=t.h0 x;rw[l6,he] at this;simpa using this
 have hlt:blk<w.heap.size:=by
  have:=hB.obj
  grind
 have hobj:w.heap[blk]?=some (.cells cc tt (0,0)):=by rw[<- hbk];exact hB.obj
 have hgd:∀(l:List α) (j:Nat) (h:j<l.length),gL t l j=l[j]:=λl j h=>by simp[gL,Qda,Qaa h]
 have hdm:∀q,q<n*t.es->q / t.es<n/\q % t.es<t.es/\(q / t.es)*t.es+q % t.es=q:=λq hq=>⟨Nat.div_lt_of_lt_mul (by rw[Qbu];exact hq),Nat.mod_lt _ hes,Nat.div_add_mod' q t.es⟩
 have hrowAt:∀j,j<el.length->el[j]?=some (j6 el j):=λj hj=>by
  unfold j6;rw[p9,Qaa hj]
 have hH0:HoldsK enc t.es w blk 0 (slR t el 0 n).toArray:=by
  intro q hq;have hq:q<n*t.es:=by rw[size_flatK] at hq;simpa [hld] using hq
  obtain⟨e1,e2,e3⟩:=hdm q hq;rw[get_flatK _ _ _ _ (by simpa [hld] using hq),Vb3 _ _ (by rw[hld];exact e1),<- hgd _ _ (by rw[hld];exact e1)]
  have hcx:(j6 el (q / t.es))[q % t.es]?=some (.v ((enc (gL t (slR t el 0 n) (q / t.es)))[q % t.es]!)):=by
   grind
  obtain⟨x',h5,h6⟩:=hB.cell (q / t.es) _ (q % t.es) _ (hrowAt _ (by omega)) hcx
  have h6:x'=(enc (gL t (slR t el 0 n) (q / t.es)))[q % t.es]! :=by cases h6;rfl
  subst h6;rw[hoff] at h5;simp only[e3,Qbh] at h5;constructor
  ·simp only[World.cell?,hobj,Qbh];simpa using h5
  ·simp[World.frozen?,hobj]
 have hds:(slR t el 0 n).toArray.size=n:=by simpa using hld
 have hmax:n<4611686018427387904:=by unfold room at hroom;omega
 have hcalls:=hcon blk cap (slR t el 0 n).toArray w (λoff size=>hcl blk off size w) hH0 hlt (by rw[hds];exact hmax)
 rw[hds] at hcalls;refine hcalls.mono λe w' ⟨h5,m,os,h6⟩=>⟨_,h5,ρ,F,?_⟩
 generalize hsd:srt (slR t el 0 n)=sd at *
 have hsl:sd.length=n:=by rw[<- hsd,hlen,hld]
 have h6:w'=grow (mapBlock (Sort.ahead w m) blk (putCells id 0 (flatK enc t.es sd.toArray))) os:=h6;have hw'size:w'.heap.size=w.heap.size+os.size:=by rw[h6];simp[mapBlock]
 have hold:∀k,k<w.heap.size->k≠blk->w'.heap[k]?=w.heap[k]?:=λk h7 h8=>by
  rw[h6];simp only[grow,mapBlock];rw[Qdc (by simpa using h7),Qdg]
  simp[Ne.symm h8]
 have hnew:w'.heap[blk]?=some (.cells (putCells id 0 (flatK enc t.es sd.toArray) cc) tt (0,0)):=by
  rw[h6];simp only[grow,mapBlock];rw[Qdc (by simpa using hlt),Qdg]
  simp[hobj,onCells]
 have hcells:∀b o,F b o->w'.cell? ⟨b,o,none⟩=w.cell? ⟨b,o,none⟩:=λb o hf=>by
  have h7:b≠blk:=λh8=>hnF o (h8 ▸ hf)
  have:=ab5 (hH.frz b o hf)
  simp only[World.cell?,hold b this h7]
 have hpc:∀q,q<cc.size->(putCells id 0 (flatK enc t.es sd.toArray) cc)[q]?=if q<n*t.es then some ((enc sd.toArray[q / t.es]!)[q % t.es]!) else cc[q]?:=λq hq=>by
  simp only[putCells,Array.getElem?_mapIdx,Qai hq,Option.map_some,size_flatK,Nat.zero_le,true_and,Qbh,Nat.sub_zero,id]
  have:sd.toArray.size=n:=by simpa using hsl
  rw[this];split
  ·next h7=>rw[get_flatK _ _ _ _ (by rw[this];exact h7)]
  ·rfl
 have hel:(app (bL t sd) (i9 el n)).length=el.length:=by
  rw[E0,List.length_append,<- l6 (bL t sd),S7,hsl,v7,Qbr];omega
 have hnrow:∀(j:Nat) r,(app (bL t sd) (i9 el n))[j]?=some r->(j<n/\r=t.row (gL t sd j))\/(n<=j/\el[j]?=some r):=λj r hr=>by
  have hlb:(bL t sd).length=n:=by rw[<- l6,S7,hsl]
  rw[E0] at hr
  rcases Qan j n with h7|h7
  ·rw[Qbg (by omega)] at hr
   left;refine⟨h7,?_⟩;unfold bL at hr;rw[k9,Qbm,Qaa (by omega)] at hr
   injection hr with hr;rw[<- hr,hgd sd j (by omega)]
  ·rw[Qbf (by omega),hlb,v7,Qbj] at hr
   right;exact⟨h7,by rw[<- hr];congr 1;omega⟩
 have hcs:el.length*t.es<=cc.size:=by have:=hB.len;rw[hsize] at this;exact this
 refine⟨⟨⟨?_,?_,?_,by omega,λk h7 h8=>hold k h7 λh9=>h8 (h9 ▸ hW),hcells,?_⟩,λid b hb=>?_,λ_ _ h=>h,λ_ _ h=>.inl h,λid b' hb' hn'=>?_⟩,⟨λid b hb hd'=>?_,λid id' b b' hb hb' h7 h8 h9 h10=>?_,λb o hf=>by rw[hcells b o hf];exact hH.frz b o hf,λk hk'=>hH.new k (by omega)⟩,.ofv _⟩
 ·rw[h6];rfl
 ·rw[h6];rfl
 ·rw[h6];rfl
 ·rw[h6];exact Nat.le_add_right _ _
 ·match id,hb with
  |0,hb =>
   cases hb;exact⟨_,rfl,rfl,Qac _,λ_=>⟨rfl,rfl,by simp only[hel];exact Qac _⟩⟩
 ·match id,hb' with
  |0,hb'=>cases hb';exact absurd rfl (hn' ⟨et',t.es,el,true,false,0⟩ rfl)
 ·match id,hb with
  |0,hb =>
   cases hb;refine⟨_,tt,(0,0),by rw[hbk];exact hnew,?_,?_,?_,?_,λ_=>⟨rfl,by rw[hbk];exact hW,hoff,?_,by rw[hbk];exact hnF,het⟩,λh=>by cases h⟩
   ·rw[hoff,hsize];simp[putCells]
   ·simp only[hel];exact hB.len
   ·intro j r hr
    rcases hnrow j r hr with⟨_,h8⟩|⟨_,h8⟩
    ·rw[h8,<- l6];exact t.h0 _
    ·exact hB.rows j r h8
   ·intro j r c x hr hc;rw[hoff,Qbh]
    rcases hnrow j r hr with⟨h7,h8⟩|⟨h7,h8⟩
    ·subst h8;have hclt:c<t.es:=by
      have:=(Qab.1 hc).1
      rw[<- l6,t.h0] at this;exact this
     have hq:j*t.es+c<n*t.es:=by
      have:=Qba t.es (show j+1<=n from h7)
      rw[Qbc,Qbl] at this;omega
     have hqn:n*t.es<=el.length*t.es:=Qba _ hn;have e1:(j*t.es+c) / t.es=j:=by rw[Qbu,Nat.mul_add_div hes,Nat.div_eq_of_lt hclt,Nat.add_zero]
     have e2:(j*t.es+c) % t.es=c:=by rw[Qbu,Nat.mul_add_mod,Qbaa hclt]
     rw[he,Qbm,Qaa (by rw[hk];exact hclt)] at hc
     injection hc with hc;subst hc;refine⟨(enc (gL t sd j))[c]'(by rw[hk];exact hclt),?_,.v _ (h1 _ _ (Qby _))⟩
     rw[hpc _ (Qaj hq (Qad hqn hcs)),if_pos hq,e1,e2,Vb3 _ _ (by omega),hgd sd j (by omega),getElem!_pos _ _ (by rw[hk];exact hclt)]
    ·obtain⟨x',h9,h10⟩:=hB.cell j r c x h8 hc;rw[hoff,Qbh] at h9;have hq:¬ j*t.es+c<n*t.es:=by
      have:=Qba t.es h7
      omega
     have hlt':j*t.es+c<cc.size:=(Qbo.1 h9).1;exact⟨x',by rw[hpc _ hlt',if_neg hq];exact h9,h10.adv (λ_ _ h=>h) hcells⟩
   ·rw[hsize];simp[putCells]
 ·match id,hb,id',hb' with
  |0,hb,0,hb'=>exact absurd rfl h10
end
end Go.Ev.L
namespace Go.Ev
open Go
def FW(F:Fence):Prop:=∃r,F={ Fence.wide with round:=r }
theorem FW.wide:FW Fence.wide:=⟨none,rfl⟩
theorem FW.inRound(l:Nat):FW (Fence.wide.inRound l):=⟨some l,rfl⟩
section
variable{F:Fence}{n:Nat}{P:Program}
theorem FW.fn(h:FW F)(f:FuncId):F.fn f:=by obtain⟨r,rfl⟩:=h;trivial
theorem FW.dep(h:FW F):F.depth=none:=by obtain⟨r,rfl⟩:=h;rfl
theorem FW.depS(h:FW F){p:Prop}:F.depth.isSome=true->p:=λhd=>by rw[h.dep] at hd;cases hd
theorem FW.fenced(h:FW F):Machine.fenced P F=Machine.fenced P Fence.wide:=by obtain⟨r,rfl⟩:=h;rfl
theorem FW.room(h:FW F)(k:Nat):F.room k:=λd hd=>by rw[h.dep] at hd;cases hd
theorem FW.calls(h:FW F){f:FuncId}{args:Array Value}{w:World}{R:Ending->World->Prop}:CallsIn F n P f args w R↔Calls P f args w R:=by
 refine Iff.trans ?_ (callsIn_wide (n:=n));obtain⟨r,rfl⟩:=h;exact⟨λh=>h,λh=>h⟩
theorem FW.rows(h:FW F){row:String}{args:Array Value}{w:World}{R:Value->World->Prop}(hr:Rows P row args w R):RowsIn F n P row args w R:=λc cs _=>by
 obtain⟨v,w',h1,h2⟩:=hr c cs;refine⟨v,w',h1,?_⟩;rw[h.fenced];exact stepsIn_wide.2 h2
end
section
variable{P:Program}{o:Oper}{ac:Act}{w:World}{post:Value->World->Prop}
theorem i6.inAny(h:i6 P o { ac with defers:=[] } w post){F:Fence}(hF:FW F)(n:Nat)(next:Act->World->Prop)(Q:Exit->Act->World->Prop)(hp:∀x' w',post x' w'->next (ac.put o.dst x') w'):o.wpIn F n P ac w next Q:=by
 have hput:∀v,({ ac with defers:=[] }:Act).put o.dst v={ ac.put o.dst v with defers:=[] }:=λv=>by cases o.dst<;>rfl
 have hinj:∀v x',({ ac with defers:=[] }:Act).put o.dst v=({ ac with defers:=[] }:Act).put o.dst x'->ac.put o.dst v=ac.put o.dst x':=λv x' e=>by
  rw[hput,hput] at e;have e1:=congrArg Act.tmps e
  revert e1
  cases o.dst with
  |none=>intro _;rfl
  |some d=>intro e1;show ({ ac with tmps:=_ }:Act)={ ac with tmps:=_ };congr 1
 have hnd:∀c,o.op≠.defer c:=λc hc=>by
  have h0:=h (λa' _=>a'.defers=[]) (λ_ _ _=>False) (λx' w' _=>by rw[hput])
  unfold Oper.wp at h0;have e:execOp ({ ac with defers:=[] }:Act).eval o=(do return .defer (<- resolve ({ ac with defers:=[] }:Act).eval c o.type)):=by unfold execOp;simp[hc]
  rw[e] at h0;simp only[Sem.run_bind] at h0;cases hr:(resolve ({ ac with defers:=[] }:Act).eval c o.type).run P w with
  |ok d w1 =>
   rw[hr] at h0;have h0:({ ({ ac with defers:=[] }:Act) with defers:=d::[] }.put o.dst undef).defers=[]:=h0
   revert h0
   cases o.dst<;>intro h0<;>cases h0
  |halt x w1 =>
   rw[hr] at h0;cases x<;>exact h0
 have h0:=h (λa' w'=>∃x',post x' w'/\a'=({ ac with defers:=[] }:Act).put o.dst x') (λ_ _ _=>False) (λx' w' hx=>⟨x',hx,rfl⟩)
 unfold Oper.wp at h0;refine⟨λf _=>hF.fn f,?_⟩
 rw[Oper.semAt_eq _ _ _ hnd];have hev:(execOp ac.eval o)=execOp ({ ac with defers:=[] }:Act).eval o:=rfl
 rw[hev]
 revert h0
 generalize (execOp ({ ac with defers:=[] }:Act).eval o).run P w=r
 intro h0;have hnext:∀v w',(∃x',post x' w'/\({ ac with defers:=[] }:Act).put o.dst v=({ ac with defers:=[] }:Act).put o.dst x')->next (ac.put o.dst v) w':=λv w' ⟨x',h1,h2⟩=>by
  rw[hinj v x' h2];exact hp x' w' h1
 cases r with
 |ok q w' =>
  cases q with
  |value v=>exact hnext v w' h0
  |skip=>exact hnext undef w' h0
  |defer d =>
   obtain⟨x',_,h2⟩:=h0;rw[hput] at h2
   have:=congrArg Act.defers h2
   revert this
   cases o.dst<;>intro h<;>cases h
  |enter f args =>
   refine⟨λhd=>hF.depS hd,hF.calls.2 ?_⟩
   have h0:Calls P f args w' _:=h0;refine h0.mono λe w'' he=>?_
   cases e with
   |returned v=>exact hnext v w'' he
   |panicked ch=>exact he.elim
   |outgrown=>obtain⟨a0,w0,hq⟩:=he;exact hq.elim
  |row row args =>
   refine⟨λhd=>hF.depS hd,hF.rows ?_⟩
   have h0:Rows P row args w' _:=h0;exact λc cs=>by
    obtain⟨v,w'',h1,h2⟩:=h0 c cs;exact⟨v,w'',hnext v w'' h1,h2⟩
  |round l f tmps asq body=>exact h0.elim
  |_=>exact h0.elim
 |halt x w' =>
  cases x with
  |panic v=>exact h0.elim
  |_=>exact h0.elim
end
section
variable{W W' WB:Nat->Prop}{ρ ρ0 ρ':Rho}{H H0 H1:List c7}{F F0 F':Fz}{w w0 w':World}{P:Program}
theorem Va4(H:List c7):j8 H=H.map λb=>Bool.rec (motive:=λ_=>c7) b { b with dead:=true } (r5 b):=by unfold j8;rw[k9]
theorem Ud5:(j8 H).length=H.length:=by rw[Va4];simp
theorem N1{id:Nat}{b:c7}(hb:H[id]?=some b)(hs:r5 b=false):(j8 H)[id]?=some b:=by
 rw[Va4,Qbm,hb];simp[hs]
theorem Ac1{id:Nat}{b:c7}(hb:H[id]?=some b)(hs:r5 b=true):(j8 H)[id]?=some { b with dead:=true }:=by
 rw[Va4,Qbm,hb];simp[hs]
theorem S8{id:Nat}{b:c7}(hb:(j8 H)[id]?=some b)(hd:b.dead=false):H[id]?=some b/\r5 b=false:=by
 rw[Va4,Qbm] at hb;cases h:H[id]? with
 |none=>rw[h] at hb;cases hb
 |some c =>
  rw[h] at hb;cases hs:r5 c with
  |false=>simp[hs] at hb;subst hb;exact⟨rfl,hs⟩
  |true=>simp[hs] at hb;subst hb;cases hd
def Vb4(H:List c7)(id:Nat):Prop:=∃b,H[id]?=some b/\r5 b=true
def ρsp(H:List c7)(ρ ρ':Rho):Rho:=λid=>@ite _ (Vb4 H id) (Classical.propDecidable _) (ρ id) (ρ' id)
theorem ρsp_on{id:Nat}(h:Vb4 H id):ρsp H ρ ρ' id=ρ id:=by unfold ρsp;rw[if_pos h]
theorem ρsp_off{id:Nat}(h:¬ Vb4 H id):ρsp H ρ ρ' id=ρ' id:=by unfold ρsp;rw[if_neg h]
theorem od3:∀(H1:List c7),vb4 [] H1=true->∀(id:Nat) c,H1[id]?=some c->r5 c=false
 |[],_,id,c,hc=>by simp at hc
 |d::r,ho,id,c,hc=>by
  have ho:Bool.and (Bool.rec (motive:=λ_=>Bool) true false (r5 d)) (vb4 [] r)=true:=ho
  simp only[Qbd] at ho;cases id with
  |zero =>
   simp at hc;subst hc
   have:=ho.1
   cases h:r5 d with
   |false=>rfl
   |true=>rw[h] at this;cases this
  |succ id=>exact od3 r ho.2 id c (by simpa using hc)
theorem Ac2:∀(H H1:List c7),H.length<=H1.length->vb4 H H1=true->(o9 H H1).length=H1.length /\
  (∀(id:Nat) b,H[id]?=some b->r5 b=true->(o9 H H1)[id]?=some b) /\
  (∀(id:Nat),¬ Vb4 H id->(o9 H H1)[id]?=H1[id]?/\∀c,H1[id]?=some c->r5 c=false)
 |[],H1,_,ho=>by
  refine⟨rfl,λid b hb=>by simp at hb,λid _=>⟨rfl,λc hc=>?_⟩⟩
  exact od3 H1 ho id c hc
 |b::H,[],hl,_=>by simp at hl
 |b::H,c::H1,hl,ho=>by
  have ho:Bool.and (Bool.rec (motive:=λ_=>Bool) (Bool.rec true false (r5 c)) true (r5 b)) (vb4 H H1)=true:=ho
  simp only[Qbd] at ho;obtain⟨h1,h2,h3⟩:=Ac2 H H1 (by simpa using hl) ho.2
  have e:o9 (b::H) (c::H1)=Bool.rec (motive:=λ_=>c7) c b (r5 b)::o9 H H1:=rfl
  rw[e];refine⟨by simp[h1],λid d hd hs=>?_,λid hn=>?_⟩
  ·cases id with
   |zero=>simp at hd;subst hd;simp[hs]
   |succ id=>simpa using h2 id d (by simpa using hd) hs
  ·cases id with
   |zero =>
    have hb:r5 b=false:=by
     cases h:r5 b with
     |false=>rfl
     |true=>exact absurd ⟨b,rfl,h⟩ hn
    rw[hb] at ho ⊢;refine⟨rfl,λd hd=>?_⟩
    simp at hd;subst hd
    have:=ho.1
    cases h:r5 c with
    |false=>rfl
    |true=>rw[h] at this;cases this
   |succ id =>
    obtain⟨k1,k2⟩:=h3 id λ⟨d,hd,hs⟩=>hn ⟨d,by simpa using hd,hs⟩
    simp_all
def Sc8(b:c7):Prop:=b.es=0/\b.et=0
def od4(t:Nat)(b:c7):Prop:=b.es=0/\b.et=t+1
inductive XC (ρ:Rho) (H:List c7) (F:Fz) (w:World):b9->Value->Prop
 |n {x:b9} {x':Value} (h:J9 ρ (j8 H) F w x x'):XC ρ H F w x x'
 |box (id c g:Nat) (b:c7) (hb:H[id]?=some b) (hd:b.dead=false) (he:Sc8 b):XC ρ H F w (.ptr id 0 c g) (.pointer (some ⟨(ρ id).blk,c,none⟩))
 |map (id c g:Nat) (b:c7) (t:Nat) (hb:H[id]?=some b) (hd:b.dead=false) (he:od4 t b):XC ρ H F w (.ptr id 0 c g) (.map (some (ρ id).blk))
inductive XW (ρ:Rho) (H:List c7) (F:Fz) (w:World):b9->Value->Prop
 |w {x:b9} {x':Value} (h:v8 ρ (j8 H) F w x x'):XW ρ H F w x x'
 |c {x:b9} {x':Value} (h:XC ρ H F w x x'):XW ρ H F w x x'
theorem Ba3{b:c7}(h:Sc8 b):r5 b=true:=by unfold r5;rw[h.1];rfl
theorem Ga4{b:c7}{t:Nat}(h:od4 t b):r5 b=true:=by unfold r5;rw[h.1];rfl
theorem XC.one{x:b9}{x':Value}(h:XC ρ H F w x x')(hb:yd1 x=true):x'.oneCell'=true:=by
 cases h with
 |n h =>
  cases h with
  |mem h=>exact h.one
  |v=>exact (by rw[<- ob7];exact hb)
  |ptr=>rfl
  |sl=>rfl
  |tptr=>cases hb
  |unk=>cases hb
 |box=>rfl
 |map=>rfl
structure We8(ρ:Rho)(H:List c7)(F:Fz)(w:World)(b:c7)(blk:Nat):Prop where
 et:Sc8 b
 has:∃row vs t,b.elems=[row]/\w.heap[blk]?=some (.cells vs t (0,0))/\row.length<=vs.size/\∀(c:Nat) x x',row[c]?=some x->vs[c]?=some x'->x'.oneCell'=true/\XC ρ H F w x x'
def Ac3(fl:List (Nat×CK))(kl:Nat)(r:List b9)(e:MapEntry):Prop:=∃(ks:Array Value) (v:Bool),r=ks.toList.map .v++[.v (.bool v)]/\ks.size=kl/\e.key=.agg ks/\e.val=.bool v/\∀p∈fl,qa1 ks p
structure We9(P:Program)(w:World)(b:c7)(blk:Nat):Prop where
 has:∃t K El fl es clk,od4 t b/\P.underlying t=some (.map K El)/\O5 P 9 K=some fl/\w.heap[blk]?=some (.map es clk)/\b.elems.length=es.size /\
  ∀(i:Nat) r e,b.elems[i]?=some r->es[i]?=some e->Ac3 fl (szT P K) r e
structure de6(P:Program)(WB W':Nat->Prop)(ρ:Rho)(H:List c7)(F:Fz)(w:World):Prop where
 has:∀(id:Nat) b,H[id]?=some b->r5 b=true->b.dead=false->WB (ρ id).blk/\¬ W' (ρ id).blk/\(∀o,¬ F (ρ id).blk o)/\(ρ id).blk<w.heap.size/\(We8 ρ H F w b (ρ id).blk\/We9 P w b (ρ id).blk)
 apart:∀(id id':Nat) b b',H[id]?=some b->H[id']?=some b'->r5 b=true->r5 b'=true->b.dead=false->b'.dead=false->id≠id'->(ρ id).blk≠(ρ id').blk
theorem Adv.mono(h:Adv W ρ H F w ρ' H1 F' w')(hW:∀k,W k->WB k):Adv WB ρ H F w ρ' H1 F' w' :=
 ⟨⟨h.ext.os,h.ext.tape,h.ext.output,h.ext.size,λk hk hn=>h.ext.block k hk λhw=>hn (hW k hw),h.ext.cells,h.ext.drawn⟩,h.heap,h.more,λb o hf=>(h.new b o hf).imp id (hW b),λid b' hb' hn=>hW _ (h.fresh id b' hb' hn)⟩
section
variable(hA:Adv W' ρ (j8 H) F w ρ' H1 F' w')(ho:vb4 H H1=true)
include hA ho
theorem de7:H.length<=H1.length:=by
 rcases Qbq H.length with h|h
 ·omega
 ·have hlt:H.length-1<(j8 H).length:=by rw[Ud5];omega
  obtain⟨b',hb',_⟩:=hA.heap (H.length-1) _ (Qaa hlt)
  grind
theorem Gb3:(o9 H H1).length=H1.length /\
  (∀(id:Nat) b,H[id]?=some b->r5 b=true->(o9 H H1)[id]?=some b) /\
  (∀(id:Nat),¬ Vb4 H id->(o9 H H1)[id]?=H1[id]?/\∀c,H1[id]?=some c->r5 c=false):=Ac2 H H1 (de7 hA ho) ho
theorem Ud6{id:Nat}{b:c7}(hb:(j8 (o9 H H1))[id]?=some b)(hd:b.dead=false):H1[id]?=some b/\¬ Vb4 H id:=by
 obtain⟨h1,h2,h3⟩:=Gb3 hA ho;obtain⟨k1,k2⟩:=S8 hb hd;by_cases hs:Vb4 H id
 ·obtain⟨c,hc,hcs⟩:=hs
  simp_all
 simp_all
theorem Ud7{id:Nat}{b:c7}(hb:H1[id]?=some b)(hd:b.dead=false):(j8 (o9 H H1))[id]?=some b/\ρsp H ρ ρ' id=ρ' id:=by
 obtain⟨h1,h2,h3⟩:=Gb3 hA ho;by_cases hs:Vb4 H id
 ·obtain⟨c,hc,hcs⟩:=hs;obtain⟨b',hb',hd',_⟩:=hA.heap id _ (Ac1 hc hcs)
  simp_all
 ·obtain⟨k1,k2⟩:=h3 id hs;exact⟨N1 (k1.trans hb) (k2 b hb),ρsp_off hs⟩
theorem Ac4:Sc2 ρ' H1 (ρsp H ρ ρ') (j8 (o9 H H1)):=λid b hb hd=>by
 obtain⟨h1,h2⟩:=Ud7 hA ho hb hd
 simp_all
theorem Cd0{x:b9}{x':Value}(h:v8 ρ' H1 F' w' x x'):v8 (ρsp H ρ ρ') (j8 (o9 H H1)) F' w' x x':=h.carry (Ac4 hA ho) (λ_ _ h=>h) (λ_ _ _=>rfl)
theorem Ud8(hH:r4 W' ρ' H1 F' w'):r4 W' (ρsp H ρ ρ') (j8 (o9 H H1)) F' w' :=
 hH.pull (λi=>i) (λi b hb hd=>by
  obtain⟨h1,h2⟩:=Ud6 hA ho hb hd;exact⟨h1,ρsp_off h2⟩) (λ_ _ _ _ _ _ _ _ e=>e)
theorem Kd8{x:b9}{x':Value}(h:XC ρ H F w x x'):XC (ρsp H ρ ρ') (o9 H H1) F' w' x x':=by
 obtain⟨h1,h2,h3⟩:=Gb3 hA ho;cases h with
 |n h=>exact .n ((h.adv hA).carry (Ac4 hA ho) (λ_ _ h=>h) (λ_ _ _=>rfl))
 |box id c g b hb hd he =>
  have e:ρsp H ρ ρ' id=ρ id:=ρsp_on ⟨b,hb,Ba3 he⟩;rw[<- e];exact .box id c g b (h2 id b hb (Ba3 he)) hd he
 |map id c g b t hb hd he =>
  have e:ρsp H ρ ρ' id=ρ id:=ρsp_on ⟨b,hb,Ga4 he⟩;rw[<- e];exact .map id c g b t (h2 id b hb (Ga4 he)) hd he
theorem ye8{x:b9}{x':Value}(h:XW ρ H F w x x'):XW (ρsp H ρ ρ') (o9 H H1) F' w' x x':=by
 cases h with
 |w h=>exact .w (Cd0 hA ho (h.adv hA))
 |c h=>exact .c (Kd8 hA ho h)
theorem Ud9(hS:de6 P WB W' ρ H F w):de6 P WB W' (ρsp H ρ ρ') (o9 H H1) F' w':=by
 obtain⟨h1,h2,h3⟩:=Gb3 hA ho;have hold:∀(id:Nat) b,(o9 H H1)[id]?=some b->r5 b=true->H[id]?=some b/\Vb4 H id:=λid b hb hs=>by
  by_cases hsp:Vb4 H id
  ·obtain⟨c,hc,hcs⟩:=hsp;rw[h2 id c hc hcs] at hb;obtain rfl:c=b:=Qah hb;exact⟨hc,c,hc,hcs⟩
  ·obtain⟨k1,k2⟩:=h3 id hsp;rw[k1] at hb;rw[k2 b hb] at hs;cases hs
 refine⟨λid b hb hs hd=>?_,λid id' b b' hb hb' hs hs' hd hd' hne=>?_⟩
 ·obtain⟨hb0,hsp⟩:=hold id b hb hs;obtain⟨k1,k2,k3,k4,k5⟩:=hS.has id b hb0 hs hd;have hblk:w'.heap[(ρ id).blk]?=w.heap[(ρ id).blk]?:=hA.ext.block _ k4 k2;rw[ρsp_on hsp];refine⟨k1,k2,λo hf=>?_,Qaj k4 hA.ext.size,?_⟩
  ·rcases hA.new _ _ hf with h|h
   ·exact k3 o h
   ·exact k2 h
  ·rcases k5 with⟨e,row,vs,t,m1,m2,m3,m4⟩|⟨t,K,El,fl,es,clk,m1,m2,m3,m4,m5,m6⟩
   ·exact .inl ⟨e,row,vs,t,m1,hblk.trans m2,m3,λc x x' hx hx'=>⟨(m4 c x x' hx hx').1,Kd8 hA ho (m4 c x x' hx hx').2⟩⟩
   ·exact .inr ⟨t,K,El,fl,es,clk,m1,m2,m3,hblk.trans m4,m5,m6⟩
 ·obtain⟨hb0,hsp⟩:=hold id b hb hs;obtain⟨hb0',hsp'⟩:=hold id' b' hb' hs';rw[ρsp_on hsp,ρsp_on hsp'];exact hS.apart id id' b b' hb0 hb0' hs hs' hd hd' hne
theorem de8{id:Nat}{b:c7}(hb:(o9 H H1)[id]?=some b)(hs:r5 b=true):H[id]?=some b/\Vb4 H id:=by
 obtain⟨h1,h2,h3⟩:=Gb3 hA ho;by_cases hsp:Vb4 H id
 ·obtain⟨c,hc,hcs⟩:=hsp
  grind
 grind
theorem de9{K:Nat->Prop}(h:∀(id:Nat) b,H[id]?=some b->r5 b=true->b.dead=false->¬ K (ρ id).blk):∀(id:Nat) b,(o9 H H1)[id]?=some b->r5 b=true->b.dead=false->¬ K (ρsp H ρ ρ' id).blk:=λid b hb hs hd=>by
 obtain⟨k1,k2⟩:=de8 hA ho hb hs;rw[ρsp_on k2];exact h id b k1 hs hd
theorem ee0(hW:∀k,W' k->WB k):Adv WB ρ H F w (ρsp H ρ ρ') (o9 H H1) F' w':=by
 obtain⟨h1,h2,h3⟩:=Gb3 hA ho;have hm:=hA.mono hW;refine⟨hm.ext,λid b hb=>?_,hm.more,hm.new,λid b' hb' hn=>?_⟩
 ·cases hs:r5 b with
  |true=>exact⟨b,h2 id b hb hs,rfl,Qac _,λ_=>⟨ρsp_on ⟨b,hb,hs⟩,rfl,Qac _⟩⟩
  |false =>
   have hnsp:¬ Vb4 H id:=λ⟨c,hc,hcs⟩=>by
    rw[hb] at hc;cases hc;rw[hs] at hcs;cases hcs
   obtain⟨b',k1,k2,k3,k4⟩:=hm.heap id b (N1 hb hs);exact⟨b',(h3 id hnsp).1.trans k1,k2,k3,λhg=>by rw[ρsp_off hnsp];exact k4 hg⟩
 ·by_cases hsp:Vb4 H id
  ·obtain⟨c,hc,hcs⟩:=hsp
   simp_all
  ·rw[ρsp_off hsp];rw[(h3 id hsp).1] at hb';refine hm.fresh id b' hb' λb hb=>?_
   cases h:H[id]? with
   |none =>
    rw[Va4,Qbm,h] at hb;cases hb
   |some c =>
    cases hs:r5 c with
    |true=>exact absurd ⟨c,h,hs⟩ hsp
    |false =>
     rw[N1 h hs] at hb;cases hb;exact hn b h
end
end
end Go.Ev
