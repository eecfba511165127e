/- Own work. -/
import Derived.Test.YtgphembaimondaaGreatDoorEvOps
import Derived.Laws.CopyRow
import Derived.Laws.IdiomCopy
import Derived.Laws.StructEq
import Derived.ChangeKeysEq
set_option linter.all false
noncomputable section
def Qba:=@Nat.mul_le_mul_right
def Qbb:=@Nat.le_of_ble_eq_true
def Qbc:=@Nat.add_mul
def Qbd:=@Bool.and_eq_true
def Qbe:=@List.getElem?_take
def Qbf:=@List.getElem?_append_right
def Qbg:=@List.getElem?_append_left
def Qbh:=@Nat.zero_add
def Qbi:=@Option.isSome_iff_exists
def Qbj:=@List.getElem?_drop
def Qbk:=@List.eq_nil_of_length_eq_zero
def Qbl:=@Nat.one_mul
def Qbm:=@List.getElem?_map
def Qbn:=@List.mem_append_left
def Qbo:=@Array.getElem?_eq_some_iff
def Qbp:=@List.mem_cons
def Qbq:=@Nat.eq_zero_or_pos
def Qbr:=@List.length_drop
def Qbs:=@Array.getElem?_toList
def Qbt:=@List.length_replicate
def Qbu:=@Nat.mul_comm
def Qbv:=@Array.getD_eq_getD_getElem?
def Qbw:=@List.map_cons
def Qbx:=@Classical.byContradiction
def Qby:=@List.getElem_mem
def Qbz:=@List.mem_map
def Qbaa:=@Nat.mod_eq_of_lt
def Qbab:=@Nat.le_mul_of_pos_right
def Qbac:=@List.getElem?_replicate
def Qbad:=@List.append_nil
def Qbae:=@Nat.ne_of_beq_eq_false
def Qbaf:=@Array.getElem?_extract
namespace Go.Ev
open Go
section
variable{W:Nat->Prop}{ρ:Rho}{H H':List c7}{F:Fz}{w:World}{E:Env}{o:Oper}{a:List b9}{ac:Act}{x:b9}
theorem kd2{P:Program}{t:TypeId}(h:szT P t≠0):∃i,P.info? t=some i/\i.size=szT P t:=by
 unfold szT at *
 grind
theorem sa1{α:Type}{n:Nat}{f:Nat->α}{j:Nat}{v:α}(h:((List.range n).map f)[j]?=some v):j<n/\f j=v:=by
 grind
theorem Fa8{P:Program}{t:TypeId}(h:agT P t=true)(w:World):(isAgg t).run P w=.ok true w:=by
 unfold agT at h
 split at h
 ·rename_i fs hu;simp[isAgg,run_underlying hu]
 ·rename_i n e hu;simp[isAgg,run_underlying hu]
 ·cases h
theorem xa0{P:Program}{t:TypeId}(h:agT P t=false)(hd:P.underlying t≠none)(w:World):(isAgg t).run P w=.ok false w:=by
 unfold agT at h;cases hu:P.underlying t with
 |none=>exact absurd hu hd
 |some d=>cases d<;>simp[hu] at h<;>simp[isAgg,run_underlying hu]
theorem Kb1(hH:r4 W ρ H F w){p:b9}{p':Value}{n:Nat}{cs:List b9}(hp:v8 ρ H F w p p')(he:Ev.loadCells H p n=some cs) :
  ∃(ad:Addr) (vs:List Value),p'=.pointer (some ad)/\(0<n->ad.spot=none)/\cs.length=n/\vs.length=n/\(∀j v,vs[j]?=some v->w.cell? ⟨ad.block,ad.off+j,none⟩=some v) /\
   ∀(j:Nat) x x',cs[j]?=some x->vs[j]?=some x'->J8 F w x x':=by
 revert he hp
 cases p with
 |ptr id i c g =>
  intro hp he;simp only[Ev.loadCells] at he;cases hbk:blkAt H id g with
  |none=>simp[hbk] at he
  |some b =>
  obtain⟨hb,hd,hg⟩:=p5 hbk;simp only[hbk,p9] at he;cases hr:b.elems[i]? with
  |none=>simp[hr] at he
  |some cells =>
  simp only[hr,l6,A8,v7] at he;cases hle:Nat.ble (c+n) cells.length with
  |false=>simp[hle] at he
  |true =>
  simp only[hle] at he;injection he with he;have hle':c+n<=cells.length:=Qbb hle;obtain⟨ad,b',e,hb',hd',hg',hh⟩:=la0 hp
  have:b'=b:=Qah (hb'.symm.trans hb)
  subst this;have had:=hh hg;obtain⟨cc,t,fr,hB⟩:=hH.blk id b' hb hd;have hcell:∀j,j<n->∃x',cc[(ρ id).off+(i*b'.es+(c+j))]?=some x'/\∀x,cells[c+j]?=some x->J8 F w x x':=λj hj=>by
   have hlt:c+j<cells.length:=by omega
   obtain⟨x',h1,h2⟩:=hB.cell i cells (c+j) _ hr (Qaa hlt);exact⟨x',h1,λx hx=>by rw[Qaa hlt] at hx;injection hx with hx;subst hx;exact h2⟩
  have hsz:∀j,j<n->(ρ id).off+(i*b'.es+(c+j))<cc.size:=λj hj=>by
   obtain⟨x',h1,_⟩:=hcell j hj;exact (Qbo.1 h1).1
  refine⟨ad,(List.range n).map λj=>cc.getD ((ρ id).off+(i*b'.es+(c+j))) undef,e,λ_=>by rw[had],?_,by simp,λj v hj=>?_,λj x x' hx hx'=>?_⟩
  ·grind
  ·obtain⟨hj1,hj2⟩:=sa1 hj;have hlt:=hsz j hj1;rw[had];rw[show (ρ id).off+(i*b'.es+c)+j=(ρ id).off+(i*b'.es+(c+j)) by omega,hB.cellAt,<- hj2]
   simp[hlt]
  ·obtain⟨hj1,hj2⟩:=sa1 hx';have hlt:=hsz j hj1;obtain⟨x'',h1,h2⟩:=hcell j hj1;rw[<- he] at hx;have hx0:cells[c+j]?=some x:=by
    rw[Qbe,if_pos hj1,Qbj] at hx;exact hx
   have:=h2 x hx0
   rw[Qai hlt] at h1;injection h1 with h1;rw[<- hj2];simp[hlt,h1,this]
 |tptr l =>
  intro hp he;simp only[Ev.loadCells,l6,A8] at he;cases hle:Nat.ble n l.length with
  |false=>simp[hle] at he
  |true =>
  simp only[hle] at he;injection he with he;have hle':n<=l.length:=Qbb hle;obtain⟨ad,vs,e,hs,hF,hw,hr⟩:=Ua2 hp;refine⟨ad,(List.range n).map vs,e,λ_=>hs,by rw[<- he];simp only[List.length_take];omega,by simp,λj v hj=>?_,λj x x' hx hx'=>?_⟩
  ·obtain⟨hj1,hj2⟩:=sa1 hj;rw[hw j (by omega),hj2]
  ·obtain⟨hj1,hj2⟩:=sa1 hx';rw[<- he,Qbe] at hx;simp only[hj1,if_true] at hx;have hlt:j<l.length:=by omega
   rw[Qaa hlt] at hx;injection hx with hx;rw[<- hx,<- hj2];exact hr j hlt
 |_=>intro _ he;cases he
theorem Id5{k:CK}{x:b9}(h:Ib5 k x=true):Rd5 k x=x\/∃es,k=.sl es/\x=.v (.slice none 0 0):=by
 unfold Ib5 at h
 split at h
 ·simp only[decide_eq_true_eq] at h;subst h;exact .inl rfl
 ·exact .inl rfl
 ·have:=Qae h;subst this;exact .inl rfl
 ·exact .inr ⟨_,rfl,rfl⟩
 ·exact .inl rfl
 ·cases h
theorem be0{ρ:Rho}{H:List c7}{x':Value}(h:v8 ρ H F w (.v (.slice none 0 0)) x'):x'=.slice none 0 0:=K5 h
theorem be1{k:CK}{y:b9}{x':Value}(h:Ib5 k y=true)(hy:J8 F w y x'):J8 F w (Rd5 k y) x':=by
 rcases Id5 h with e|⟨es,rfl,rfl⟩
 ·rw[e];exact hy
 ·cases hy;exact .nil _ _
theorem Sd3{ρ:Rho}{H:List c7}{k:CK}{y:b9}{x':Value}(h:Ib5 k y=true)(hy:J9 ρ H F w y x'):J9 ρ H F w (Rd5 k y) x':=by
 rcases Id5 h with e|⟨es,rfl,rfl⟩
 ·rw[e];exact hy
 ·have:=be0 (.val (.cell hy));subst this;exact .mem (.nil _ _)
theorem Fb1:∀(ks:List CK) (cs:List b9),(vb9 ks cs).length=ks.length
 |[],_=>rfl
 |k::ks,cs=>congrArg Nat.succ (Fb1 ks (tlA cs))
theorem cc6:∀(ks:List CK) (cs:List b9),ma4 ks cs=true->∀(j:Nat) x,(vb9 ks cs)[j]?=some x->j<ks.length/\∃k y,Ib5 k y=true/\x=Rd5 k y/\(j<cs.length->cs[j]?=some y)
 |[],_,_,j,x,hx=>by simp[vb9] at hx
 |k::ks,cs,h,j,x,hx=>by
  have h:Bool.and (Ib5 k (hdA cs)) (ma4 ks (tlA cs))=true:=h;have hx:(Rd5 k (hdA cs)::vb9 ks (tlA cs))[j]?=some x:=hx;have h':Ib5 k (hdA cs)=true/\ma4 ks (tlA cs)=true:=by simpa using h
  cases j with
  |zero =>
   simp at hx
   refine⟨by simp,k,hdA cs,h'.1,hx.symm,λhc=>?_⟩
   cases cs with
   |nil=>simp at hc
   |cons c r=>rfl
  |succ j =>
   obtain⟨h1,k',y,h2,h3,h4⟩:=cc6 ks (tlA cs) h'.2 j x (by simpa using hx)
   refine⟨by simp;omega,k',y,h2,h3,λhc=>?_⟩
   cases cs with
   |nil=>simp at hc
   |cons c r=>simp only[List.getElem?_cons_succ];exact h4 (by simpa [tlA] using hc)
theorem kd3{p:b9}{n:Nat}{q:Bool×List b9}(h:ob4 H p n=some q)(h1:q.1=true):Ev.loadCells H p n=some (A7 q.2 n)/\n<=q.2.length:=by
 revert h
 cases p with
 |ptr id i c g =>
  intro h;simp only[ob4] at h;cases hb:blkAt H id g with
  |none=>simp[hb] at h
  |some b =>
  simp only[hb] at h;injection h with h;subst h;simp only[Qbd] at h1;have hi:i<b.elems.length:=by have:=Qbb h1.1;rw[l6] at this;exact this
  have hr:j6 b.elems i=b.elems[i]:=by simp[j6,p9,Qaa hi]
  have h2:=h1.2;rw[hr] at h2 ⊢;refine⟨by simp only[Ev.loadCells,hb,p9,Qaa hi,h2],?_⟩
  have:=Qbb h2
  rw[l6] at this;rw[v7,Qbr];omega
 |tptr cs =>
  intro h;injection h with h;subst h;have h1:n.ble (len cs)=true:=h1;refine⟨by simp only[Ev.loadCells];rw[h1],?_⟩
  have:=Qbb h1
  rwa [l6] at this
 |_=>intro h;cases h
theorem Sd4(hH:r4 W ρ H F w){p:b9}{p':Value}{n:Nat}{ks:List CK}{q:Bool×List b9}(hp:v8 ρ H F w p p')(he:ob4 H p n=some q)(hok:Bool.and q.1 (Bool.and (Nat.beq (len ks) n) (ma4 ks q.2))=true) :
  ∃(ad:Addr) (vs:List Value),p'=.pointer (some ad)/\(0<n->ad.spot=none)/\(vb9 ks q.2).length=n/\vs.length=n/\(∀j v,vs[j]?=some v->w.cell? ⟨ad.block,ad.off+j,none⟩=some v) /\
   ∀(j:Nat) x x',(vb9 ks q.2)[j]?=some x->vs[j]?=some x'->J8 F w x x':=by
 simp only[Qbd] at hok;obtain⟨h1,h2,h3⟩:=hok;obtain⟨h4,h5⟩:=kd3 he h1;have h2:=Qae h2;rw[l6] at h2;obtain⟨ad,vs,e,hs,hcl,hvl,hw,hr⟩:=Kb1 hH hp h4;refine⟨ad,vs,e,hs,by rw[Fb1,h2],hvl,hw,λj x x' hx hx'=>?_⟩
 obtain⟨hj,k,y,g1,rfl,g2⟩:=cc6 ks q.2 h3 j x hx;refine be1 g1 (hr j y x' ?_ hx');rw[A8,Qbe,if_pos (by omega)]
 exact g2 (by omega)
section
variable(hA:da4 ρ H F w a ac.tmps)(hH:r4 W ρ H F w)(hG:GOk E F w)
include hA hH hG
theorem zd1{ks:List CK}{t:TypeId}{y:Operand}(ho:o.op=.load t y)(hu:E.P.underlying t≠none)
  (he:(evalOp E a H (.load ks (szT E.P t) (agT E.P t) (g9 y))).run=some (x,H')):i6 E.P o ac w (C4 W ρ H F w x H'):=by
 have hy:=l5 hA hG y;simp only[evalOp] at he;cases hl:ob4 H (c9 E a (g9 y)) (szT E.P t) with
 |none=>rw[hl] at he;cases he
 |some q =>
 rw[hl] at he;obtain⟨hgd,he⟩:=DT.run_guard_some he;obtain⟨z,h1,h2⟩:=Aa6 he;injection h2 with e1 e2;subst e1 e2
 obtain⟨ad,vs,e,hs,hcl,hvl,hw,hr⟩:=Sd4 hH hy hl hgd;generalize vb9 ks q.2=cs at *
 have hti:∃i,E.P.info? t=some i/\i.size=szT E.P t:=by
  cases hd:E.P.underlying t with
  |none=>exact absurd hd hu
  |some d=>exact Ka1 hd
 obtain⟨ti,hi1,hi2⟩:=hti
 rcases Fb0 h1 with⟨hag,rfl⟩|⟨hag,z',rfl,rfl⟩
 ·refine .value (x':=.agg vs.toArray) (w':=w) ?_ (.stay hH (.val (.agg cs vs.toArray (by simp[hcl,hvl]) λi x x' hx hx'=>.mem (hr i x x' hx (by simpa using hx')))))
  have hlc:(Go.loadCells ad (szT E.P t)).run E.P w=.ok vs.toArray w:=by
   rw[<- hvl];refine run_loadCells_list (P:=E.P) w ad vs λj v hj=>?_
   have hj':j<szT E.P t:=by rw[<- hvl];exact (Qab.1 hj).1
   rw[I5 (hs (by omega))]
   exact hw j v hj
  simp[execOp,ho,e,Instr.loadAt,Instr.sureAddr,loadVar,Fa8 hag,sizeOf,typeInfo,hi1,hi2,hlc]
 ·have h1:szT E.P t=1:=by simpa using hcl.symm
  have hv1:vs.length=1:=by omega
  obtain⟨v,rfl⟩:∃v,vs=[v]:=by
   match vs,hv1 with
   |[v],_=>exact⟨v,rfl⟩
  have hc:=hw 0 v rfl;have hsp:=hs (by omega)
  have hcell:w.cell? ad=some v:=by
   obtain⟨b,of,sp⟩:=ad
   simp_all
  refine .value (x':=v) (w':=w) ?_ (.stay hH (.val (.cell (.mem (hr 0 _ v rfl rfl)))));simp[execOp,ho,e,Instr.loadAt,Instr.sureAddr,loadVar,xa0 hag hu,hcell]
end
theorem cc7(hH:r4 W ρ H F w){id off n g:Nat}{b:c7}{y':Value}{F':Fz}(hbk:blkAt H id g=some b)(hy:v8 ρ H F w (.sl id off n g) y')
  (hmore:∀b o,F b o->F' b o) (hF':∀o,o<b.elems.length*b.es->F' (ρ id).blk ((ρ id).off+o)):J8 F' w (wb0 b off n) y':=by
 obtain⟨hb,hd,hg⟩:=p5 hbk;obtain⟨ad,cap,b',e,hb',hd',hg',hn,hspot,-,hh⟩:=wa9 hy
 have:b'=b:=Qah (hb'.symm.trans hb)
 subst this;obtain⟨h3,h4,h5⟩:=hh hg;obtain⟨cc,t,fr,hB⟩:=hH.blk id b' hb hd;rw[e]
 rcases Qbq n with hn0|hn0
 ·subst hn0;exact .tree b'.es 0 _ ad cap (λ_ _=>undef) (λ_=>hspot) hn (λi hi=>absurd hi (by omega)) (λi c hi=>absurd hi (by omega)) (λi c hi=>absurd hi (by omega)) (λi c hi=>absurd hi (by omega))
 ·have had:=h3.resolve_left (by omega)
  have hrow:∀i,i<n->∃r,b'.elems[off+i]?=some r/\j6 b'.elems (off+i)=r/\r.length=b'.es:=λi hi=>by
   have hlt:off+i<b'.elems.length:=by omega
   exact⟨_,Qaa hlt,by simp[j6,p9,Qaa hlt],hB.rows _ _ (Qaa hlt)⟩
  have hbound:∀i c,i<n->c<b'.es->(off+i)*b'.es+c<b'.elems.length*b'.es:=λi c hi hc=>by
   have h1:(off+i+1)*b'.es<=b'.elems.length*b'.es:=Qba _ (by omega)
   rw[Qbc] at h1;omega
  have hoff:∀i c,(ρ id).off+off*b'.es+(i*b'.es+c)=(ρ id).off+((off+i)*b'.es+c):=λi c=>by rw[Qbc off i];omega
  refine .tree b'.es n _ ad cap (λi c=>cc.getD ((ρ id).off+((off+i)*b'.es+c)) undef) (λ_=>by rw[had]) hn (λi hi=>?_) (λi c hi hc=>?_) (λi c hi hc=>?_) (λi c hi hc=>?_)
  ·grind
  ·simp_all
  ·rw[had];simp only;rw[hoff,hB.cellAt]
   have:=hB.room;have:=hB.len;have:=hbound i c hi hc
   have hlt:(ρ id).off+((off+i)*b'.es+c)<cc.size:=by omega
   simp[hlt]
  ·obtain⟨r,h1,h2,h6⟩:=hrow i hi;have hc':c<r.length:=by rw[<- h2];exact hc
   obtain⟨x',h7,h8⟩:=hB.cell (off+i) r c _ h1 (Qaa hc');have hlt:=(Qbo.1 h7).1;rw[Qai hlt] at h7;injection h7 with h7;have e9:cc.getD ((ρ id).off+((off+i)*b'.es+c)) undef=x':=by simp[hlt,h7]
   have e10:(j6 b'.elems (off+i))[c]=r[c]:=by congr 1
   rw[e9,e10];exact h8.adv hmore (λ_ _ _=>rfl)
theorem Kb2(hH:r4 W ρ H F w){y z:b9}{y':Value}(hy:J9 ρ H F w y y')(he:freezeCell H y=some (z,H')) :
  ∃F',Adv W ρ H F w ρ H' F' w/\r4 W ρ H' F' w/\J8 F' w z y'/\H'.length=H.length:=by
 revert he hy
 cases y with
 |v u =>
  intro hy he;simp only[freezeCell] at he;cases h1:pc1 u with
  |false=>simp[h1] at he
  |true =>
  simp only[h1] at he;injection he with he;injection he with e1 e2;subst e1 e2
  have:=K5 (.val (.cell hy))
  subst this;exact⟨F,.refl,hH,.v _ (by rw[<- ob7];exact h1),rfl⟩
 |tree es n get =>
  intro hy he;injection he with he;injection he with e1 e2;subst e1 e2
  exact⟨F,.refl,hH,aa8 (.val (.cell hy)),rfl⟩
 |fn f caps =>
  intro hy he;simp only[freezeCell] at he;cases hb:ia0 sb7 caps with
  |false=>simp[hb] at he
  |true =>
   simp only[hb] at he;injection he with he;injection he with e1 e2;subst e1 e2
   cases hy with
   |mem h=>exact⟨F,.refl,hH,h,rfl⟩
 |sl id off n g =>
  intro hy he;simp only[freezeCell] at he;cases hbk:blkAt H id g with
  |none=>simp[hbk] at he
  |some b =>
  obtain⟨hb,hd,hg⟩:=p5 hbk;simp only[hbk] at he;injection he with he;injection he with e1 e2
  have hdis:disown H id=H.set id { b with own:=false }:=by
   simp[disown,modAt,p9,hb,r6]
  rw[hdis] at e2;subst e1 e2;obtain⟨F',hadv,hH',hF'⟩:=hH.disown id b hb hd;exact⟨F',hadv,hH',cc7 hH hbk (.val (.cell hy)) hadv.more hF',by simp⟩
 |_=>intro _ he;cases he
theorem Ua4(hH:r4 W ρ H F w){ys zs:List b9}{vs:List Value}(hl:ys.length=vs.length)(hy:∀(i:Nat) y y',ys[i]?=some y->vs[i]?=some y'->J9 ρ H F w y y')(he:freezeCells H ys=some (zs,H')) :
  ∃F',Adv W ρ H F w ρ H' F' w/\r4 W ρ H' F' w/\zs.length=ys.length/\(∀(i:Nat) z y',zs[i]?=some z->vs[i]?=some y'->J8 F' w z y')/\H'.length=H.length:=by
 induction ys generalizing H F zs vs with
 |nil =>
  simp only[freezeCells] at he;injection he with he;injection he with e1 e2;subst e1 e2
  exact⟨F,.refl,hH,rfl,λi z y' h=>by simp at h,rfl⟩
 |cons y r ih =>
  cases vs with
  |nil=>simp at hl
  |cons v vs =>
  simp only[freezeCells] at he;cases h1:freezeCell H y with
  |none=>simp[h1] at he
  |some p =>
  obtain⟨y1,H1⟩:=p;simp only[h1] at he;cases h2:freezeCells H1 r with
  |none=>simp[h2] at he
  |some q =>
  obtain⟨l,H2⟩:=q;simp only[h2] at he;injection he with he;injection he with e1 e2;subst e1 e2
  obtain⟨F1,a1,hH1,m1,l1⟩:=Kb2 hH (hy 0 y v rfl rfl) h1;obtain⟨F2,a2,hH2,l2,m2,l3⟩:=ih hH1 (vs:=vs) (by simpa using hl) (λi x x' hx hx'=>(hy (i+1) x x' (by simpa using hx) (by simpa using hx')).adv a1) h2
  refine⟨F2,a1.trans a2,hH2,by simp[l2],λi z z' hz hz'=>?_,l3.trans l1⟩
  cases i with
  |zero =>
   simp at hz hz'
   subst hz hz';exact m1.adv a2.more a2.ext.cells
  |succ i=>exact m2 i z z' (by simpa using hz) (by simpa using hz')
theorem xb0{f:b9->Bool}:∀{l:List b9},ia0 f l=true->∀x∈l,f x=true
 |[],_,x,hx=>absurd hx (by simp)
 |y::r,h,x,hx=>by
  have e:ia0 f (y::r)=Bool.rec false (ia0 f r) (f y):=rfl;rw[e] at h;cases hy:f y with
  |false=>rw[hy] at h;cases h
  |true =>
   rw[hy] at h
   rcases Qbp.1 hx with rfl|hx
   ·exact hy
   ·exact xb0 h x hx
theorem Qc2{cs:List b9}{x':Value}(h:J9 ρ H F w (.tptr cs) x'):J8 F w (.tptr cs) x':=by
 obtain⟨a,vs,rfl,hs,hF,hw,hr⟩:=Ua2 (.val (.cell h));exact .tptr cs a vs hs hF hw hr
theorem Sd5(hH:r4 W ρ H F w){y z:b9}{y':Value}(hy:J9 ρ H F w y y')(he:frzCap H y=some (z,H')) :
  ∃F',Adv W ρ H F w ρ H' F' w/\r4 W ρ H' F' w/\J8 F' w z y'/\sb7 z=true:=by
 unfold frzCap at he
 split at he
 ·rename_i u
  split at he
  ·rename_i h1;injection he with he;injection he with e1 e2;subst e1 e2
   have:=K5 (.val (.cell hy))
   subst this;exact⟨F,.refl,hH,.v _ (by rw[<- ob7];exact h1),h1⟩
  ·cases he
 ·injection he with he;injection he with e1 e2;subst e1 e2
  exact⟨F,.refl,hH,aa8 (.val (.cell hy)),rfl⟩
 ·injection he with he;injection he with e1 e2;subst e1 e2
  exact⟨F,.refl,hH,Qc2 hy,rfl⟩
 ·rename_i id i c g
  split at he
  ·rename_i b hbk
   split at he
   ·rename_i hi;obtain⟨hb,hd,hg⟩:=p5 hbk;injection he with he;injection he with e1 e2
    have hdis:disown H id=H.set id { b with own:=false }:=by simp[disown,modAt,p9,hb,r6]
    rw[hdis] at e2;subst e1 e2;obtain⟨F',hadv,hH',hF'⟩:=hH.disown id b hb hd;obtain⟨ad,b2,rfl,hb2,_,_,ha⟩:=la0 (.val (.cell hy))
    have:b2=b:=Qah (hb2.symm.trans hb)
    subst this;have ha:=ha hg;subst ha;obtain⟨cc,t,fr,hB⟩:=hH.blk id b2 hb hd;rw[Nat.blt_eq,l6] at hi;have hrow:j6 b2.elems i=b2.elems[i]:=by unfold j6;rw[p9,Qaa hi]
    have hel:=Qaa hi;have hes:=hB.rows i _ hel;have hmul:i*b2.es+b2.es<=b2.elems.length*b2.es:=by rw[<- Nat.succ_mul];exact Qba _ hi
    refine⟨F',hadv,hH',?_,rfl⟩;rw[hrow,v7];have hk:∀k,k<(b2.elems[i].drop c).length->c+k<b2.elems[i].length:=λk hk=>by rw[Qbr] at hk;omega
    have hcell:∀k (hk':k<(b2.elems[i].drop c).length),∃x',cc[(ρ id).off+(i*b2.es+(c+k))]?=some x'/\J8 F w ((b2.elems[i].drop c)[k]) x':=λk hk'=>by
     have h1:=hk k hk';obtain⟨x',h2,h3⟩:=hB.cell i _ (c+k) _ hel (Qaa h1);exact⟨x',h2,by rw[List.getElem_drop];exact h3⟩
    refine .tptr _ _ (λk=>cc.getD ((ρ id).off+(i*b2.es+(c+k))) undef) rfl (λk hk'=>?_) (λk hk'=>?_) λk hk'=>?_
    ·have h1:=hk k hk'
     have:=hF' (i*b2.es+(c+k)) (by omega)
     rw[show (ρ id).off+(i*b2.es+c)+k=(ρ id).off+(i*b2.es+(c+k)) by omega]
     exact this
    ·obtain⟨x',h2,_⟩:=hcell k hk';have e:(ρ id).off+(i*b2.es+c)+k=(ρ id).off+(i*b2.es+(c+k)):=by omega
     simp only
     rw[e,hB.cellAt,h2];simp[Qbv,h2]
    ·obtain⟨x',h2,h3⟩:=hcell k hk';have e:cc.getD ((ρ id).off+(i*b2.es+(c+k))) undef=x':=by simp[Qbv,h2]
     rw[e];exact h3.adv hadv.more λ_ _ _=>rfl
   ·cases he
  ·cases he
 ·cases he
theorem xc0:∀{ys zs:List b9} {vs:List Value} {H H':List c7} {F:Fz},r4 W ρ H F w->ys.length=vs.length->(∀(i:Nat) y y',ys[i]?=some y->vs[i]?=some y'->J9 ρ H F w y y')->frzCaps H ys=some (zs,H') ->
  ∃F',Adv W ρ H F w ρ H' F' w/\r4 W ρ H' F' w/\zs.length=ys.length/\ia0 sb7 zs=true/\∀(i:Nat) z y',zs[i]?=some z->vs[i]?=some y'->J8 F' w z y'
 |[],zs,vs,H,H',F,hH,hl,hy,he=>by
  simp only[frzCaps] at he;injection he with he;injection he with e1 e2;subst e1 e2
  exact⟨F,.refl,hH,rfl,rfl,λi z y' h=>by simp at h⟩
 |y::r,zs,[],H,H',F,hH,hl,hy,he=>by simp at hl
 |y::r,zs,v::vs,H,H',F,hH,hl,hy,he=>by
  simp only[frzCaps] at he;cases h1:frzCap H y with
  |none=>simp[h1] at he
  |some p =>
  obtain⟨y1,H1⟩:=p;simp only[h1] at he;cases h2:frzCaps H1 r with
  |none=>simp[h2] at he
  |some q =>
  obtain⟨l,H2⟩:=q;simp only[h2] at he;injection he with he;injection he with e1 e2;subst e1 e2
  obtain⟨F1,a1,a2,a3,a4⟩:=Sd5 hH (hy 0 y v rfl rfl) h1;obtain⟨F2,b1,b2,b3,b4,b5⟩:=xc0 (vs:=vs) a2 (by simpa using hl) (λi z z' hz hz'=>(hy (i+1) z z' (by simpa using hz) (by simpa using hz')).adv a1) h2
  refine⟨F2,a1.trans b1,b2,by simp[b3],?_,λi z z' hz hz'=>?_⟩
  ·show Bool.rec false (ia0 sb7 l) (sb7 y1)=true;rw[a4];exact b4
  ·cases i with
   |zero =>
    simp only[List.getElem?_cons_zero] at hz hz';cases hz;cases hz';exact a3.adv b1.more b1.ext.cells
   |succ i =>
    rw[List.getElem?_cons_succ] at hz hz';exact b5 i z z' hz hz'
theorem Id6{f:FuncId}{caps:List b9}{vs:Array Value}(hl:caps.length=vs.size)(h:∀(i:Nat) x x',caps[i]?=some x->vs[i]?=some x'->J9 ρ H F w x x')(hb:ia0 sb7 caps=true):J8 F w (.fn f caps) (Qa7 f vs):=by
 refine .fn f caps vs _ rfl hl hb λi hi hi'=>?_
 have hc:=h i _ _ (Qaa hi) (Qai hi');have hp:=xb0 hb _ (Qby hi)
 revert hc hp
 cases caps[i] with
 |v u =>
  intro hc hp
  have:=K5 (.val (.cell hc))
  rw[this];exact .v _ (by rw[<- ob7];exact hp)
 |tree es n get=>intro hc hp;exact aa8 (.val (.cell hc))
 |tptr cs=>intro hc hp;exact Qc2 hc
 |_=>intro hc hp;cases hp
theorem Sb9{y:b9}{y':Value}(hy:v8 ρ H F w y y')(hp:Fa6 y=true)(hn:∀cs,y≠.agg cs):J9 ρ H F w y y'/\y'.cells=#[y']:=by
 cases hy with
 |tup=>cases hp
 |val h=>cases h with
  |agg cs=>exact absurd rfl (hn cs)
  |fn f caps vs hl h =>
   have hm:=Id6 (f:=f) hl h hp;obtain⟨p,q,r,e2⟩:=Ob2 f vs;exact⟨.mem hm,by rw[e2];rfl⟩
  |cell h =>
   refine⟨h,?_⟩;have hv:∀x:Value,x.oneCell'=true->x.cells=#[x]:=λx hx=>by cases x<;>first | rfl | cases hx
   cases h with
   |mem h=>exact hv _ h.one
   |v=>exact hv _ (by rw[<- ob7];exact hp)
   |ptr=>rfl
   |sl=>rfl
   |tptr=>rfl
   |unk=>cases hp
theorem Fb2{y:b9}{y':Value}(hy:v8 ρ H F w y y')(hp:Fa6 y=true) :
  (A0 y).length=y'.cells.toList.length/\∀(i:Nat) z z',(A0 y)[i]?=some z->y'.cells.toList[i]?=some z'->J9 ρ H F w z z':=by
 by_cases hn:∀cs,y≠.agg cs
 ·obtain⟨h1,h2⟩:=Sb9 hy hp hn;have ha:A0 y=[y]:=by
   cases y with
   |agg cs=>exact absurd rfl (hn cs)
   |_=>rfl
  grind
 ·have:∃cs,y=.agg cs:=Qbx λh=>hn λcs e=>h ⟨cs,e⟩
  obtain⟨cs,rfl⟩:=this;obtain⟨vs,rfl,hl,h⟩:=ga4 hy;exact⟨by simpa [A0,Value.cells] using hl,λi z z' hz hz'=>h i z z' hz (by simpa [Value.cells] using hz')⟩
theorem kd4{y:b9}{zs:List b9}(he:freezeCells H (A0 y)=some (zs,H')):Fa6 y=true:=by
 cases y with
 |v u =>
  simp only[A0,freezeCells,freezeCell] at he;cases h1:pc1 u with
  |true=>simpa [Fa6] using h1
  |false=>simp[h1] at he
 |tup=>simp[A0,freezeCells,freezeCell] at he
 |unk=>simp[A0,freezeCells,freezeCell] at he
 |fn f caps =>
  simp only[A0,freezeCells,freezeCell] at he;cases h1:ia0 sb7 caps with
  |true=>simpa [Fa6] using h1
  |false=>simp[h1] at he
 |_=>rfl
theorem Tb0(hH:r4 W ρ H F w){y:b9}{y':Value}{zs:List b9}(hy:v8 ρ H F w y y')(he:freezeCells H (A0 y)=some (zs,H')) :
  ∃F',Adv W ρ H F w ρ H' F' w/\r4 W ρ H' F' w/\zs.length=y'.cells.toList.length/\(∀(i:Nat) z z',zs[i]?=some z->y'.cells.toList[i]?=some z'->J8 F' w z z')/\H'.length=H.length:=by
 obtain⟨h1,h2⟩:=Fb2 hy (kd4 he);obtain⟨F',h3,h4,h5,h6,h7⟩:=Ua4 hH h1 h2 he
 grind
theorem cc8(H:List c7)(et es:Nat)(elems:List (List b9)):da2 H et es elems=H++[{ et,es,elems,own:=true,dead:=false,g:=0 }]:=by
 simp[da2,E0]
theorem r4.alloc1(h:r4 W ρ H F w)(cs:List b9)(vs:Array Value)(t:TypeId)(hl:cs.length=vs.toList.length)(hm:∀(i:Nat) z z',cs[i]?=some z->vs.toList[i]?=some z'->J8 F w z z') :
  C4 W ρ H F w (.ptr H.length 0 0 0) (da2 H 0 cs.length [cs]) (.pointer (some ⟨w.heap.size,0,none⟩)) (w.alloc (.cells vs t)):=by
 have hl':cs.length=vs.size:=by simpa using hl
 obtain ⟨h1, h2⟩ := h.alloc 0 cs.length [cs] vs t (fun i r hr => by
   cases i with
   |zero=>simp at hr;subst hr;rfl
   |succ i=>simp at hr) (by simp[hl']) (λi r c z hr hz=>by
   cases i with
   |zero =>
    simp at hr;subst hr
    have hc:c<vs.size:=hl' ▸ (Qab.1 hz).1;exact⟨vs[c],by simp[hc],hm c z _ hz (by simp[hc])⟩
   |succ i=>simp at hr) (λh=>absurd rfl h)
 rw[cc8];refine⟨_,F,h1,h2,.val (.cell (.ptr _ _ _ _ _ { et:=0,es:=cs.length,elems:=[cs],own:=true,dead:=false,g:=0 } (by simp) rfl (Qac _) λ_=>?_))⟩
 simp[ρnew]
section
variable(hA:da4 ρ H F w a ac.tmps)(hH:r4 W ρ H F w)(hG:GOk E F w)
include hA hH hG
omit hA hG in
theorem kd5{t:TypeId}{z:List b9}(ho:o.op=.alloc t)(hz:zeT E.P t=some z)(he:(evalOp E a H (.alloc z)).run=some (x,H')):i6 E.P o ac w (C4 W ρ H F w x H'):=by
 have he':some (b9.ptr (len H) 0 0 0,da2 H 0 (len z) [z])=some (x,H'):=he;injection he' with he';injection he' with e1 e2;subst e1 e2
 rw[l6,l6];unfold zeT at hz;cases hi:E.P.info? t with
 |none=>simp[hi] at hz
 |some i =>
 cases hzz:i.zero with
 |none=>simp[hi,hzz] at hz
 |some zv =>
 simp only[hi,hzz] at hz
 split at hz
 ·rename_i hall;injection hz with hz;subst hz;refine .value (x':=.pointer (some ⟨w.heap.size,0,none⟩)) (w':=w.alloc (.cells zv.cells t)) (by simp[execOp,ho,Instr.alloc,zeroValue,typeInfo,hi,hzz,newVar,newRow]) ?_
  refine r4.alloc1 hH _ zv.cells t (by simp) λi z z' h1 h2=>?_
  rw[Qbm] at h1;rw[h2] at h1
  simp at h1
  subst h1;refine .v _ ?_;rw[<- ob7]
  grind
 ·cases hz
theorem Sd6{t:TypeId}{y:Operand}(ho:o.op=.box t y)(he:(evalOp E a H (.box (g9 y))).run=some (x,H')):i6 E.P o ac w (C4 W ρ H F w x H'):=by
 have hy:=l5 hA hG y;simp only[evalOp] at he;cases hf:freezeCells H (A0 (c9 E a (g9 y))) with
 |none=>rw[hf] at he;cases he
 |some p =>
 obtain⟨cs,H1⟩:=p;rw[hf] at he;have he':some (b9.ptr (len H1) 0 0 0,da2 H1 0 (len cs) [cs])=some (x,H'):=he;injection he' with he';injection he' with e1 e2;subst e1 e2
 rw[l6,l6];obtain⟨F1,a1,hH1,hl,hm,hlen⟩:=Tb0 hH hy hf;refine .value (x':=.pointer (some ⟨w.heap.size,0,none⟩)) (w':=w.alloc (.cells (ac.eval y).cells t)) (by simp[execOp,ho,Instr.box,newVar,newRow]) ?_
 obtain⟨ρ',F',h1,h2,h3⟩:=r4.alloc1 hH1 cs (ac.eval y).cells t hl hm;exact⟨ρ',F',a1.trans h1,h2,h3⟩
omit hA hH hG in
theorem Ob6{l new:List b9}{c k:Nat}{z:b9}(hfit:c+new.length<=l.length)(h:(T8 l c new)[k]?=some z):(c<=k/\k<c+new.length/\new[k-c]?=some z)\/((k<c\/c+new.length<=k)/\l[k]?=some z):=by
 unfold T8 at h;rw[E0,E0,A8,v7,l6] at h
 grind
omit hA hH hG in
theorem Ja0{l new:List b9}{c:Nat}(hfit:c+new.length<=l.length):(T8 l c new).length=l.length:=by
 unfold T8;rw[E0,E0,A8,v7,l6];simp;omega
omit hA hH hG in
theorem Ob7{l:Array Value}{new:List Value}{c k:Nat}(hfit:c+new.length<=l.size) :
  ((l.toList.take c++new++l.toList.drop (c+new.length)).toArray)[k]?=if c<=k/\k<c+new.length then new[k-c]? else l[k]?:=by
 grind
theorem kd6{t:TypeId}{y z:Operand}(ho:o.op=.store t y z)(h0:szT E.P t≠0)(he:(evalOp E a H (.store (szT E.P t) (g9 y) (g9 z))).run=some (x,H')):i6 E.P o ac w (C4 W ρ H F w x H'):=by
 have hy:=l5 hA hG y;have hz:=l5 hA hG z;simp only[evalOp] at he
 revert he hy
 cases c9 E a (g9 y) with
 |ptr id i c g =>
  intro he hy;cases hf:freezeCells H (A0 (c9 E a (g9 z))) with
  |none=>simp[hf] at he
  |some p =>
  obtain⟨cs,H1⟩:=p;simp only[hf] at he;cases hbk:blkAt H1 id g with
  |none=>simp[hbk] at he
  |some b =>
  simp only[hbk] at he;obtain⟨hc,he⟩:=DT.run_guard_some he;simp only[Qbd] at hc;obtain⟨⟨hown,hn⟩,hilt0,hfit⟩:=hc;have hilt0:i<b.elems.length:=by have:=Qbb hilt0;rw[l6] at this;exact this
  have hr:b.elems[i]?=some (j6 b.elems i):=by simp[j6,p9,Qaa hilt0]
  generalize j6 b.elems i=cells at *
  simp only[l6,r6] at he hn hfit;have he':some (b9.v (.tuple #[]),H1.set id { b with elems:=b.elems.set i (T8 cells c cs) })=some (x,H'):=he
  injection he' with he';injection he' with e1 e2;subst e1 e2
  have hn:=Qae hn;have hfit:c+szT E.P t<=cells.length:=Qbb hfit;rw[<- hn] at hfit;obtain⟨F1,a1,hH1,hl,hm,hlen⟩:=Tb0 hH hz hf;obtain⟨hb,hd,hg⟩:=p5 hbk;obtain⟨ad,b',e,hb',hd',hg',hh⟩:=la0 (hy.adv a1)
  have:b'=b:=Qah (hb'.symm.trans hb)
  subst this;have had:=hh hg;obtain⟨cc,tt,fr,hB⟩:=hH1.blk id b' hb hd;obtain⟨hfr,hW,hoff,hsize,hnF,het⟩:=hB.own hown;subst hfr;have hrl:=hB.rows i cells hr;have hilt:=(Qab.1 hr).1;have hbnd:i*b'.es+b'.es<=b'.elems.length*b'.es:=by
   have:=Qba b'.es (show i+1<=b'.elems.length from hilt)
   grind
  have hlenB:=hB.len;have hl2:(ac.eval z).cells.toList.length=cs.length:=hl.symm;have hone:∀v∈(ac.eval z).cells.toList,v.oneCell'=true:=λv hv=>by
   obtain⟨k,hk,rfl⟩:=List.mem_iff_getElem.1 hv;have hk':k<cs.length:=by omega
   exact (hm k _ _ (Qaa hk') (Qaa hk)).one
  have hfits:i*b'.es+c+(ac.eval z).cells.toList.length<=cc.size:=by rw[hl2];omega
  have hstore:=run_storeCells_at (P:=E.P) (ρ id).blk (i*b'.es+c) tt (ac.eval z).cells.toList 0 cc w hB.obj (by simpa using hfits) hone
  simp only[Nat.add_zero] at hstore;obtain⟨ti,hi1,hi2⟩:=kd2 h0;have hsz0:(ac.eval z).cells.size=ti.size:=by rw[hi2,<- hn,<- hl2];simp
  have had':ad=⟨(ρ id).blk,i*b'.es+c,none⟩:=by rw[had,hoff,Qbh]
  refine .skip (w':=w.setRow (ρ id).blk (cc.toList.take (i*b'.es+c)++(ac.eval z).cells.toList++cc.toList.drop (i*b'.es+c+(ac.eval z).cells.toList.length)).toArray) ?_ ?_
  ·simp[execOp,ho,e,had',Instr.storeAt,Instr.sureAddr,storeVar,sizeOf,typeInfo,hi1,hsz0,hstore]
  ·have hget : ∀ (i' : Nat) r, (b'.elems.set i (T8 cells c cs))[i']? = some r → (i' = i ∧ r = T8 cells c cs) ∨ (i' ≠ i ∧ b'.elems[i']? = some r) := fun i' r hr' => by
    by_cases e:i=i'
    ·subst e;simp[hilt] at hr';exact .inl ⟨rfl,hr'.symm⟩
    ·rw[Qaf e] at hr';exact .inr ⟨λh=>e h.symm,hr'⟩
   obtain⟨h3,h4⟩:=hH1.rewrite id b' { b' with elems:=b'.elems.set i (T8 cells c cs) } hb hd hown cc tt hB
    (cc.toList.take (i*b'.es+c)++(ac.eval z).cells.toList++cc.toList.drop (i*b'.es+c+(ac.eval z).cells.toList.length)).toArray
    (by simp at hfits ⊢;omega) rfl rfl hown hd (Qac _) (λ_=>by simp) (by simpa using hlenB)
    (λi' r hr'=>by
     rcases hget i' r hr' with⟨rfl,rfl⟩|⟨_,hr''⟩
     ·rw[Ja0 hfit];exact hrl
     ·exact hB.rows i' r hr'')
    (λi' r k u hr' hu=>by
     rw[Ob7 hfits]
     rcases hget i' r hr' with⟨rfl,rfl⟩|⟨hne,hr''⟩
     ·rcases Ob6 hfit hu with⟨h1,h2,h3⟩|⟨h1,h3⟩
      ·rw[if_pos (by omega)]
       have hk:k-c<(ac.eval z).cells.toList.length:=by omega
       refine⟨(ac.eval z).cells.toList[k-c],?_,hm (k-c) u _ h3 (Qaa hk)⟩;rw[show i'*b'.es+k-(i'*b'.es+c)=k-c by omega,Qaa hk]
      ·have hk:=(Qab.1 h3).1;rw[if_neg (by omega)]
       have:=hB.cell i' cells k u hr h3
       rwa [hoff,Qbh] at this
     ·have hk:k<b'.es:=by rw[<- hB.rows i' r hr''];exact (Qab.1 hu).1
      have hnot:¬ (i*b'.es+c<=i'*b'.es+k/\i'*b'.es+k<i*b'.es+c+(ac.eval z).cells.toList.length):=by
       rcases Qan i' i with hlt|hge
       ·have:=Qba b'.es (show i'+1<=i from hlt)
        rw[Qbc,Qbl] at this;omega
       ·have:=Qba b'.es (show i+1<=i' by omega)
        rw[Qbc,Qbl] at this;omega
      rw[if_neg hnot]
      have:=hB.cell i' r k u hr'' hu
      rwa [hoff,Qbh] at this)
   exact⟨ρ,F1,a1.trans h3,h4,.ofv _⟩
 |_=>intro he;cases he
end
end
section
variable{W:Nat->Prop}{ρ:Rho}{H H':List c7}{F:Fz}{w:World}{E:Env}{o:Oper}{a:List b9}{ac:Act}{x:b9}
theorem Qc3{k m es:Nat}(h:k<m*es):k / es<m/\k % es<es/\k / es*es+k % es=k:=by
  have hes:0 < es:=by
    grind
  refine⟨Nat.div_lt_of_lt_mul (by rwa [Qbu] at h),Nat.mod_lt _ hes,?_⟩
  rw[Qbu];exact Nat.div_add_mod k es
structure kd7(F:Fz)(w:World)(es:Nat)(news:List (List b9))(x':Value)(nv:List Value):Prop where
  rows:∀(i:Nat) r,news[i]?=some r->r.length=es
  len:nv.length=news.length*es
  form:(x'=.slice none 0 0/\news=[])\/∃ad cap,x'=.slice (some ad) news.length cap/\(0<news.length->ad.spot=none)/\∀j v,nv[j]?=some v->w.cell? (ad.add j)=some v
  cell:∀(i:Nat) r (c:Nat) u,news[i]?=some r->r[c]?=some u->∃u',nv[i*es+c]?=some u'/\J8 F w u u'
  one:∀u∈nv,u.oneCell'=true
theorem kd7.mk'{es:Nat}{news:List (List b9)}{ad:Addr}{cap:Nat}(hs:0<news.length->ad.spot=none)(f:Nat->Value)(rows:∀(i:Nat) r,news[i]?=some r->r.length=es)
    (hc:∀k,k<news.length*es->w.cell? ⟨ad.block,ad.off+k,none⟩=some (f k))
    (hr:∀(i:Nat) r (c:Nat) u,news[i]?=some r->r[c]?=some u->J8 F w u (f (i*es+c))) :
    kd7 F w es news (.slice (some ad) news.length cap) ((List.range (news.length*es)).map f):=by
  refine⟨rows,by simp,.inr ⟨ad,cap,rfl,hs,λj v hj=>?_⟩,λi r c u h1 h2=>?_,λu hu=>?_⟩
  · obtain⟨h1,h2⟩:=sa1 hj
    have hpos:0 < news.length:=by
      grind
    rw[I5 (hs hpos),hc j h1,h2]
  · have hi:=(Qab.1 h1).1
    have hcl:c<es:=by rw[<- rows i r h1];exact (Qab.1 h2).1
    have hlt:i*es+c < news.length*es:=by
      have:=Qba es (show i+1<=news.length from hi)
      grind
    simp_all
  · obtain⟨k,hk,rfl⟩:=Qbz.1 hu
    have hk':k<news.length*es:=by simpa using hk
    obtain⟨h1,h2,h3⟩:=Qc3 hk';have hlen:=rows (k / es) _ (Qaa h1)
    have:=hr (k / es) _ (k % es) _ (Qaa h1) (Qaa (by omega))
    rw[h3] at this;exact this.one
theorem xc1(hH:r4 W ρ H F w){es:Nat}{y:b9}{y':Value}{news:List (List b9)}(hy:v8 ρ H F w y y')(he:elemsOf es H y=some news) :
    ∃nv,kd7 F w es news y' nv:=by
  revert he hy
  cases y with
  | sl id off n g =>
    intro hy he;simp only[elemsOf] at he;cases hbk:blkAt H id g with
    |none=>simp[hbk] at he
    |some b =>
    obtain⟨hb,hd,hg⟩:=p5 hbk;cases hbe:Nat.beq b.es es with
    |false=>simp[hbk,hbe] at he
    |true =>
    have hbes:=Qae hbe;simp only[hbk,hbe,A8,v7] at he;injection he with he;obtain⟨ad,cap,b',e,hb',hd',hg',hn,hspot,-,hh⟩:=wa9 hy
    have:b'=b:=Qah (hb'.symm.trans hb)
    subst this;obtain⟨h3,h4,h5⟩:=hh hg;obtain⟨cc,t,fr,hB⟩:=hH.blk id b' hb hd;have hnl:news.length=n:=by rw[<- he];simp;omega
    have hget:∀ (i:Nat) r,news[i]?=some r→i < n∧b'.elems[off+i]?=some r:=fun i r hr=>by
      rw[<- he] at hr
      rcases Qan i n with hi|hi
      · rw[Qbe,if_pos hi,Qbj] at hr;exact⟨hi,hr⟩
      · rw[Qal (by simp;omega)] at hr;cases hr
    rw[e,<- hnl];refine⟨_,kd7.mk' (λ_=>hspot) (λk=>cc.getD ((ρ id).off+(off*es+k)) undef) (λi r hr=>by rw[<- hbes];exact hB.rows _ r (hget i r hr).2) (λk hk=>?_) (λi r c u h1 h2=>?_)⟩
    · rw[hnl] at hk
      have hn0 : 0 < n := by rcases Qbq n with h0 | h0; · subst h0; simp at hk
                             · exact h0
      have had:=h3.resolve_left (by omega)
      have hle:(off+n)*es<=b'.elems.length*b'.es:=by rw[hbes];exact Qba _ h5
      rw[Qbc] at hle
      have:=hB.len;have:=hB.room
      have hlt:(ρ id).off+(off*es+k)<cc.size:=by omega
      rw[had]
      simp only
      rw[hbes,Qag,hB.cellAt];simp[hlt]
    · obtain⟨hi,hr⟩:=hget i r h1
      obtain⟨x',h6,h7⟩:=hB.cell _ r c u hr h2;have e2:(ρ id).off+((off+i)*b'.es+c)=(ρ id).off+(off*es+(i*es+c)):=by rw[hbes,Qbc];omega
      simp_all
  | tree es' n get =>
    intro hy he;simp only[elemsOf] at he;cases hbe:Nat.beq es' es with
    |false=>simp[hbe] at he
    |true =>
    have hbes:=Qae hbe;simp only[hbe,k9] at he;injection he with he;have ht:=aa8 hy;cases ht with
    |tree _ _ _ ad cap cs hs hcap hes' hF hw hr =>
    have hnl:news.length=n:=by rw[<- he];simp
    have hget:∀ (i:Nat) r,news[i]?=some r→i < n∧get i=r:=fun i r hr=>by
      rw[<- he] at hr;exact sa1 hr
    conv=>arg 1;ext nv;rw[<- hnl]
    refine⟨_,kd7.mk' (λh=>hs (by omega)) (λk=>cs (k / es) (k % es)) (λi r hr=>by obtain⟨h1,h2⟩:=hget i r hr;rw[<- h2,hes' i h1,hbes]) (λk hk=>?_) (λi r c u h1 h2=>?_)⟩
    · rw[hnl] at hk
      obtain⟨h1,h2,h3⟩:=Qc3 hk
      grind
    · obtain⟨hi,hgi⟩:=hget i r h1
      subst hgi;have hcl:=(Qab.1 h2).1;have hce:c<es:=by rw[<- hbes,<- hes' i hi];exact hcl
      have hd1:(i*es+c) / es=i:=by
        rw[Qbu,Nat.mul_add_div (by omega),Nat.div_eq_of_lt hce];omega
      have hd2:(i*es+c) % es=c:=by rw[Qbu,Nat.mul_add_mod,Qbaa hce]
      grind
    | nil =>
      subst he;exact⟨[],λi r h=>by simp at h,by simp,.inl ⟨rfl,rfl⟩,λi r c u h=>by simp at h,λu h=>by simp at h⟩
  | v u =>
    intro hy he;have e:=K5 hy;unfold elemsOf at he
    split at he
    · cases ‹b9.v u=_›
    · cases ‹b9.v u=_›
    · rename_i heq
      injection heq with heq;injection he with he;subst he;exact⟨[],λi r h=>by simp at h,by simp,.inl ⟨by rw[e,heq],rfl⟩,λi r c u h=>by simp at h,λu h=>by simp at h⟩
    · rename_i heq
      injection heq with heq;injection he with he;subst he;exact⟨[],λi r h=>by simp at h,by simp,.inr ⟨_,_,by rw[e,heq];rfl,λh=>absurd h (by simp),λj v h=>by simp at h⟩,λi r c u h=>by simp at h,λu h=>by simp at h⟩
    · cases he
  |_=>intro _ he;cases he
end
section
variable{W:Nat->Prop}{ρ:Rho}{H H':List c7}{F:Fz}{w:World}{E:Env}{o:Oper}{a:List b9}{ac:Act}{x:b9}
theorem aa0{P:Program}{t e:TypeId}{i:TypeInfo}(ty:TypeId)(ht:P.underlying t=some (.slice e))(hi:P.info? e=some i)(base xa:Option Addr)(n cap c:Nat)(hn:n<=cap)(w:World) :
  (Builtin.append_ #[t,t] ty #[.slice base n cap,.slice xa 0 c]).run P w=.ok (.slice base n cap) w:=by
 cases xa<;>cases base<;>simp[Builtin.append_,run_underlying ht,sizeOf,typeInfo,hi,Builtin.lenOf,Builtin.firstCells,hn,storeCells,Go.loadCells,loadCellsFrom]
section
variable(hA:da4 ρ H F w a ac.tmps)(hH:r4 W ρ H F w)(hG:GOk E F w)
include hA hH hG
theorem Yc8{t e:TypeId}{y z:Operand}{c:Call}(ho:o.op=.call c)(hcb:c.callee=.builtin .append)(hca:c.args=#[y,z])(hct:c.argTypes=#[t,t])
  (hu:E.P.underlying t=some (.slice e)) {ei:TypeInfo} (hei:E.P.info? e=some ei) {zv:Value} (hz:ei.zero=some zv) (hzs:zv.cells.size=ei.size) (hes:0<ei.size) (hbp:0<ei.bytes) (het:e≠0)
  (he:(evalOp E a H (.append e (szT E.P e) (byT E.P e) (g9 y) (g9 z))).run=some (x,H')):i6 E.P o ac w (C4 W ρ H F w x H'):=by
 have hy:=l5 hA hG y;have hzr:=l5 hA hG z;have hes':szT E.P e=ei.size:=by simp[szT,hei]
 have hby:byT E.P e=ei.bytes:=by simp[byT,hei]
 rw[hes',hby] at he;simp only[evalOp,appendA] at he;cases hel:elemsOf ei.size H (c9 E a (g9 z)) with
 |none=>simp[hel] at he
 |some news =>
 simp only[hel,l6] at he;obtain⟨nv,hN⟩:=xc1 hH hzr hel;have hrun:∀{r:Value} {w':World},(Builtin.append_ #[t,t] o.type #[ac.eval y,ac.eval z]).run E.P w=.ok r w'->(execOp ac.eval o).run E.P w=.ok (.value r) w':=λ{r w'} h=>by
  unfold execOp;simp[ho,hcb,hca,hct,resolve,invoke,builtin,h]
 have hmax:∀m,m*ei.bytes<=room->m<=maxLen:=λm h=>by
  have:m<=room:=Qad (Qbab m hbp) h
  unfold room at this;unfold maxLen;omega
 revert he hy
 generalize c9 E a (g9 y)=p;intro hy he
 split at he
 ·-- nil
  have e0:=K5 hy
  rcases DT.run_ite_some he with⟨h0,he⟩|⟨h0,he⟩
  ·have h0:=Qae h0;have he':=Qah he;injection he' with e1 e2;subst e1 e2
   have hnil:news=[]:=Qbk h0
   rcases hN.form with⟨hx,_⟩|⟨ad,cap,hx,_,_⟩
   ·exact .value (hrun (by rw[e0,hx];exact aa0 _ hu hei none none 0 0 0 (Qac _) w)) (.stay hH (.ofv _))
   ·exact .value (hrun (by rw[e0,hx,h0];exact aa0 _ hu hei none (some ad) 0 0 cap (Qac _) w)) (.stay hH (.ofv _))
  ·have h0:news.length≠0:=Qbae h0;obtain⟨hb,he⟩:=DT.run_guard_some he;have hb:news.length*ei.bytes<=room:=Qbb hb;have he':=Qah he;injection he' with e1 e2;subst e1 e2
   rcases hN.form with⟨_,hx⟩|⟨ad,cap,hx,hsp,hcells⟩
   ·simp[hx] at h0
   ·obtain ⟨v', w', hr, hown, hgrow, _, hblk⟩ := run_append_own_at (P := E.P) w w.heap.size t o.type e ei zv ei.size ei.bytes hu hei hz rfl rfl hzs hes (.slice none 0 0) 0 [] ⟨by simp, .inl ⟨rfl, rfl⟩⟩
     ad news.length cap nv hN.len hcells hN.one (by rw[Qbh];exact hmax _ hb) (by rw[Qbh];exact hb) (Qac _)
    rcases hown.2 with⟨_,h1⟩|⟨gb,cap',cur,rfl,hbg,hg,hnc,hcm,hcs,htake⟩
    ·omega
    have hcur:∀(j:Nat) u,nv[j]?=some u->cur[j]?=some u:=λj u hj=>by
     have hlt:=(Qab.1 hj).1;have h2:(cur.toList.take ((0+news.length)*ei.size))[j]?=some u:=by rw[htake];simpa using hj
     rw[Qbe] at h2
     split at h2
     ·simpa using h2
     ·cases h2
    obtain⟨h3,h4⟩:=hH.newAt hgrow.os hgrow.tape hgrow.output (Pc7 _ _ _ hr) hgrow.size (λk hk=>hgrow.block k hk (by simp[Value.ownBlock])) gb hbg e ei.size news cur e hg hN.rows
     (by rw[hcs];exact Qba _ (by omega)) (λi r c u h1 h2=>by obtain⟨u',h5,h6⟩:=hN.cell i r c u h1 h2;exact⟨u',hcur _ _ h5,h6⟩) (λ_=>rfl)
    refine .value (hrun (by rw[e0,hx];exact hr)) ?_
    rw[cc8];refine⟨_,F,h3,h4,.val (.cell ?_)⟩;rw[Qbh];refine .sl _ _ _ _ _ _ { et:=e,es:=ei.size,elems:=news,own:=true,dead:=false,g:=0 } (by simp) rfl (Qac _) (by omega) rfl hcm λ_=>⟨.inr ?_,?_,by simp⟩
    ·simp[ρnew]
    ·simp[ρnew,hcs]
 ·-- a slice of its own
  rename_i id off n g;cases hbk:blkAt H id g with
  |none=>simp[hbk] at he
  |some b =>
  obtain⟨hb,hd,hg⟩:=p5 hbk;simp only[hbk] at he;cases hc4:(b.own&&Nat.beq off 0&&Nat.beq b.es ei.size&&Nat.beq b.et e) with
  |false=>simp[hc4] at he
  |true =>
  simp only[hc4] at he;simp only[Qbd] at hc4;obtain⟨⟨⟨hown0,hoff⟩,hbes⟩,hbet⟩:=hc4;have hoff:=Qae hoff;have hbes:=Qae hbes;have hbet:=Qae hbet;subst hoff;obtain⟨ad0,cap0,b',e0,hb',hd',hg',hn,hspot,hcm0,hh⟩:=wa9 hy
  have:b'=b:=Qah (hb'.symm.trans hb)
  subst this;obtain⟨h3,h4,h5⟩:=hh hg;obtain⟨hbb,he⟩:=DT.run_guard_some he;simp only[Qbd] at hbb;obtain⟨hnl,hbb⟩:=hbb;have hnl:=Qae hnl;have hbb:(n+news.length)*ei.bytes<=room:=Qbb hbb;have he':=Qah he;injection he' with e1 e2;subst e1 e2
  rw[r6,E0];by_cases h0:news.length=0
  ·obtain⟨cc,tt,fr,hB⟩:=hH.blk id b' hb hd;obtain⟨hfr,hW,hoff0,hsize,hnF,htt⟩:=hB.own hown0;subst hfr;have htt':tt=e:=by rw[<- hbet];exact htt (by rw[hbet];exact het)
   have hid:id<H.length:=(Qab.1 hb).1;have hnil:news=[]:=Qbk h0;subst hnil;have hoffz:(ρ id).off=0:=hoff0;obtain⟨h6,h7⟩:=hH.moveAt id b' { b' with elems:=b'.elems++[],g:=g+1 } hb hd hown0 rfl rfl rfl (Qac _) (Qac _)
    (λk hk hne=>rfl) (ρ id).blk (.inl rfl) cc tt hB.obj hown0 hd (by simp;omega) (λh=>htt h)
    (λi r hr=>by simp only[Qbad] at hr ⊢;exact hB.rows i r hr)
    (by simp only[Qbad];have:=hB.len;omega)
    (λi r k u hr hu=>by
     simp only[Qbad] at hr ⊢;obtain⟨u',h8,h9⟩:=hB.cell i r k u hr hu;rw[hoffz,Qbh] at h8;exact⟨u',h8,h9⟩)
   have hval:(execOp ac.eval o).run E.P w=.ok (.value (ac.eval y)) w:=by
    rcases hN.form with⟨hx,_⟩|⟨ad,cap,hx,_,_⟩
    ·exact hrun (by rw[e0,hx];exact aa0 _ hu hei (some ad0) none n cap0 0 hn w)
    ·exact hrun (by rw[e0,hx];exact aa0 _ hu hei (some ad0) (some ad) n cap0 cap hn w)
   refine .value hval ⟨_,F,h6,h7,?_⟩;rw[e0];refine .val (.cell (.sl _ _ _ _ _ _ { b' with elems:=b'.elems++[],g:=g+1 } (by simp[hid]) hd (Qac _) (by simpa using hn) hspot hcm0 λ_=>⟨.inr ?_,?_,by simp;omega⟩))
   ·have:=h3.resolve_left (by omega)
    rw[this];simp[ρset,hoffz]
   ·simp only[ρset,if_true,Qbh] at h4 ⊢;rw[h4,hsize]
  ·rcases hN.form with⟨_,hx⟩|⟨ad,cap,hx,hsp,hcells⟩
   ·simp[hx] at h0
   obtain⟨cc,tt,fr,hB⟩:=hH.blk id b' hb hd;obtain⟨hfr,hW,hoff0,hsize,hnF,htt⟩:=hB.own hown0;subst hfr;have htt':tt=e:=by rw[<- hbet];exact htt (by rw[hbet];exact het)
   have had:ad0=⟨(ρ id).blk,0,none⟩:=by
    grind
   have hcap:cap0*ei.size=cc.size:=by rw[<- hsize,<- h4,hbes];simp
   have hxl:(cc.toList.take (n*ei.size)).length=n*ei.size:=by
    have:n*ei.size<=cap0*ei.size:=Qba _ hn
    simp;omega
   obtain⟨v',w',hr,hown,hgrow,_,hblk⟩:=run_append_own_at (P:=E.P) w 0 t o.type e ei zv ei.size ei.bytes hu hei hz rfl rfl hzs hes (.slice (some ⟨(ρ id).blk,0,none⟩) n cap0) n (cc.toList.take (n*ei.size))
    ⟨hxl,.inr ⟨(ρ id).blk,cap0,cc,rfl,Nat.zero_le _,by rw[<- htt'];exact hB.obj,hn,hcm0,hcap.symm,rfl⟩⟩
    ad news.length cap nv hN.len hcells hN.one (hmax _ hbb) hbb (Nat.zero_le _)
   rcases hown.2 with⟨_,h1⟩|⟨gb,cap',cur,rfl,_,hgo,hnc,hcm,hcs,htake⟩
   ·omega
   have hgb:gb=(ρ id).blk\/w.heap.size<=gb:=by
    rcases hblk with h|h<;>simp[Value.ownBlock] at h<;>omega
   have hcur:∀(j:Nat) u,(cc.toList.take (n*ei.size)++nv)[j]?=some u->cur[j]?=some u:=λj u hj=>by
    rw[<- htake,Qbe] at hj
    split at hj
    ·simpa using hj
    ·cases hj
   have hoffz:(ρ id).off=0:=hoff0;obtain⟨h6,h7⟩:=hH.moveAt id b' { b' with elems:=b'.elems++news,g:=g+1 } hb hd hown0 hgrow.os hgrow.tape hgrow.output (Pc7 _ _ _ hr) hgrow.size
    (λk hk hne=>hgrow.block k hk (by simp[Value.ownBlock];exact hne)) gb hgb cur e hgo hown0 hd (by simp;omega) (λ_=>hbet.symm)
    (λi r hr=>by
     simp only at hr ⊢
     rcases Qan i b'.elems.length with hi|hi
     ·rw[Qbg hi] at hr;exact hB.rows i r hr
     ·rw[Qbf hi] at hr;rw[hbes];exact hN.rows _ r hr)
    (by simp only[List.length_append];rw[hbes,hcs,<- hnl];exact Qba _ hnc)
    (λi r k u hr hu=>by
     simp only at hr ⊢
     rcases Qan i b'.elems.length with hi|hi
     ·rw[Qbg hi] at hr;obtain⟨u',h8,h9⟩:=hB.cell i r k u hr hu;rw[hoffz,Qbh] at h8;have hk:k<ei.size:=by rw[<- hbes,<- hB.rows i r hr];exact (Qab.1 hu).1
      have hlt:i*b'.es+k<n*ei.size:=by
       have:=Qba ei.size (show i+1<=n by omega)
       rw[Qbc,Qbl] at this;rw[hbes];omega
      refine⟨u',hcur _ _ ?_,h9⟩;rw[Qbg (by omega),Qbe,if_pos hlt]
      simpa using h8
     ·rw[Qbf hi] at hr;obtain⟨u',h8,h9⟩:=hN.cell _ r k u hr hu;refine⟨u',hcur _ _ ?_,h9⟩;have e9:i*b'.es=n*ei.size+(i-b'.elems.length)*ei.size:=by rw[<- Qbc,hbes];congr 1;omega
      rw[Qbf (by omega),hxl,show i*b'.es+k-n*ei.size=(i-b'.elems.length)*ei.size+k by omega]
      exact h8)
   have hid:id<H.length:=(Qab.1 hb).1;refine .value (hrun (by rw[e0,had,hx];exact hr)) ⟨_,F,h6,h7,.val (.cell (.sl _ _ _ _ _ _ { b' with elems:=b'.elems++news,g:=g+1 } (by simp[hid]) hd (Qac _) hnc rfl hcm λ_=>⟨.inr ?_,?_,by simp;omega⟩))⟩
   ·simp[ρset]
   ·simp only[ρset,if_true,Qbh,hbes,hcs]
 ·cases he
end
end
section
variable{W:Nat->Prop}{ρ:Rho}{H H':List c7}{F:Fz}{w:World}{E:Env}{o:Oper}{a:List b9}{ac:Act}{x:b9}
theorem kd8(off:Nat):∀(l:List Value) (s:Nat) (cells:Array Value) (k:Nat),off+s+l.length<=cells.size ->
  ((l.zipIdx s).foldl (λcs (p:Value×Nat)=>cs.setIfInBounds (off+p.2) p.1) cells).size=cells.size /\
  ((l.zipIdx s).foldl (λcs (p:Value×Nat)=>cs.setIfInBounds (off+p.2) p.1) cells)[k]?=if off+s<=k/\k<off+s+l.length then l[k-(off+s)]? else cells[k]?
 |[],s,cells,k,_=>by
  refine⟨rfl,?_⟩;rw[if_neg (by simp)]
  rfl
 |v::l,s,cells,k,h=>by
  have ih:=kd8 off l (s+1) (cells.setIfInBounds (off+s) v) k (by simp at h ⊢;omega)
  simp only[List.zipIdx_cons,List.foldl_cons]
  grind
theorem Sd7(cells:Array Value)(vs:Array Value)(off k:Nat)(h:off+vs.size<=cells.size) :
  (vs.zipIdx.foldl (λcs (p:Value×Nat)=>cs.setIfInBounds (off+p.2) p.1) cells).size=cells.size /\
  (vs.zipIdx.foldl (λcs (p:Value×Nat)=>cs.setIfInBounds (off+p.2) p.1) cells)[k]?=if off<=k/\k<off+vs.size then vs[k-off]? else cells[k]?:=by
 have:=kd8 off vs.toList 0 cells k (by simpa using h)
 rw[<- Array.foldl_toList];simpa using this
theorem Yc9(place:Nat->Option (Nat×Nat)):∀(parts:List (Nat×Nat×b9)) (parts':List (Nat×Value)) (cells:List b9) (cells':Array Value) (cs:List b9),
  parts.length=parts'.length->(∀(i:Nat) p p',parts[i]?=some p->parts'[i]?=some p'->place p'.1=some (p.1,p.2.1)/\v8 ρ H F w p.2.2 p'.2) ->
  cells.length=cells'.size->(∀(i:Nat) x x',cells[i]?=some x->cells'[i]?=some x'->J9 ρ H F w x x')->sb8 cells parts=some cs ->
  ∃cs',Instr.fill place cells' parts'=some cs'/\cs'.size=cells'.size/\cs.length=cells.length/\∀(i:Nat) x x',cs[i]?=some x->cs'[i]?=some x'->J9 ρ H F w x x'
 |[],parts',cells,cells',cs,hl,_,hc,hr,he=>by
  have:parts'=[]:=Qbk (by simpa using hl.symm)
  subst this;simp only[sb8] at he;injection he with he;subst he;exact⟨cells',rfl,rfl,rfl,hr⟩
 |(off,size,y)::parts,parts',cells,cells',cs,hl,hp,hc,hr,he=>by
  cases parts' with
  |nil=>simp at hl
  |cons p' parts' =>
  obtain⟨i0,y'⟩:=p';obtain⟨hpl,hy⟩:=hp 0 _ _ rfl rfl
  simp only at hpl hy
  simp only[sb8,l6] at he;cases hb:(Fa6 y&&Nat.beq (A0 y).length size&&Nat.ble (off+size) cells.length) with
  |false=>simp[hb] at he
  |true =>
  simp only[hb] at he;simp only[Qbd] at hb;obtain⟨⟨h1,h2⟩,h3⟩:=hb;have h2:=Qae h2;have h3:off+size<=cells.length:=Qbb h3;obtain⟨h4,h5⟩:=Fb2 hy h1;have h4':(A0 y).length=y'.cells.size:=by simpa using h4
  have hfit:off+(A0 y).length<=cells.length:=by omega
  have hstep:=λk=>Sd7 cells' y'.cells off k (by omega)
  obtain⟨cs',h6,h7,h8,h9⟩:=Yc9 place parts parts' (T8 cells off (A0 y)) (y'.cells.zipIdx.foldl (λcs (p:Value×Nat)=>cs.setIfInBounds (off+p.2) p.1) cells') cs
   (by simpa using hl) (λi p p' h h'=>hp (i+1) p p' (by simpa using h) (by simpa using h')) (by rw[Ja0 hfit,(hstep 0).1];exact hc)
   (λk u u' hu hu'=>by
    rw[(hstep k).2] at hu'
    rcases Ob6 hfit hu with⟨g1,g2,g3⟩|⟨g1,g3⟩
    ·rw[if_pos (by omega)] at hu'
     exact h5 _ u u' g3 (by simpa using hu')
    ·rw[if_neg (by omega)] at hu'
     exact hr k u u' g3 hu') he
  refine⟨cs',?_,h7.trans (hstep 0).1,by rw[h8,Ja0 hfit],h9⟩
  unfold Instr.fill
  simp_all
theorem Qc4{P:Program}{t:TypeId}:∀{ps:List (Nat×Operand)} {l:List (Nat×Nat×Arg)},Fa7 P t ps=some l ->
  l.length=ps.length/\∀(i:Nat) p q,l[i]?=some p->ps[i]?=some q->Ob3 P t q.1=some (p.1,p.2.1)/\p.2.2=g9 q.2
 |[],l,h=>by
  simp only[Fa7] at h
  simp_all
 |(i0,y)::ps,l,h=>by
  simp only[Fa7] at h;cases hp:Ob3 P t i0 with
  |none=>simp[hp] at h
  |some os =>
  obtain⟨off,size⟩:=os;simp only[hp] at h;cases hc:Fa7 P t ps with
  |none=>simp[hc] at h
  |some r =>
  simp only[hc] at h;injection h with h;subst h;obtain⟨h1,h2⟩:=Qc4 hc
  grind
theorem Kb3{α β:Type}{P:Program}(g:α->Sem β)(h:α->β)(w:World):∀(l:List α),(∀y∈l,(g y).run P w=.ok (h y) w)->(l.mapM g).run P w=.ok (l.map h) w
 |[],_=>by simp
 |y::l,hy=>by
  have ih:=Kb3 g h w l (λz hz=>hy z (by simp[hz]))
  simp_all
theorem Tb1{α β:Type}{P:Program}(g:α->Sem β)(h:α->β)(w:World)(l:Array α)(hl:∀y∈l,(g y).run P w=.ok (h y) w):(l.mapM g).run P w=.ok (l.map h) w:=by
 rw[Array.mapM_eq_mapM_toList]
 have:=Kb3 g h w l.toList (λy hy=>hl y (by simpa using hy))
 simp only[Sem.run_map,this,Result.andThen_ok];congr 1;apply Array.ext';simp
section
variable(hA:da4 ρ H F w a ac.tmps)(hH:r4 W ρ H F w)(hG:GOk E F w)
include hA hH hG
omit hH in
theorem Qc5{ps:List (Nat×Operand)}{t:TypeId}{l:List (Nat×Nat×Arg)}(hc:Fa7 E.P t ps=some l) :
  (l9 (λp=>(p.1,p.2.1,c9 E a p.2.2)) l).length=(ps.map λp=>(p.1,ac.eval p.2)).length /\
  ∀(i:Nat) p p',(l9 (λp=>(p.1,p.2.1,c9 E a p.2.2)) l)[i]?=some p->(ps.map λp=>(p.1,ac.eval p.2))[i]?=some p'->Ob3 E.P t p'.1=some (p.1,p.2.1)/\v8 ρ H F w p.2.2 p'.2:=by
 obtain⟨h1,h2⟩:=Qc4 hc;rw[k9];refine⟨by simp[h1],λi p p' hp hp'=>?_⟩
 rw[Qbm] at hp hp';cases hl:l[i]? with
 |none=>simp[hl] at hp
 |some q =>
 cases hq:ps[i]? with
 |none=>simp[hq] at hp'
 |some q' =>
 simp[hl] at hp;simp[hq] at hp';subst hp hp';obtain⟨h3,h4⟩:=h2 i q q' hl hq;exact⟨h3,by simp only[h4];exact l5 hA hG q'.2⟩
omit hA hG hH in
theorem Ua5{t:TypeId}{z:List b9}(hz:zeT E.P t=some z):∃i zv,E.P.info? t=some i/\i.zero=some zv/\z=zv.cells.toList.map .v/\(∀u∈zv.cells.toList,u.oneCell'=true):=by
 unfold zeT at hz;cases hi:E.P.info? t with
 |none=>simp[hi] at hz
 |some i =>
 cases hzz:i.zero with
 |none=>simp[hi,hzz] at hz
 |some zv =>
 simp only[hi,hzz] at hz
 split at hz
 ·rename_i hall;injection hz with hz;exact⟨i,zv,rfl,hzz,hz.symm,λu hu=>by rw[<- ob7];exact List.all_eq_true.1 hall u hu⟩
 ·cases hz
theorem kd9{t:TypeId}{ps:Array (Nat×Operand)}{z:List b9}{l:List (Nat×Nat×Arg)}(ho:o.op=.build t ps)(hz:zeT E.P t=some z)(hc:Fa7 E.P t ps.toList=some l)(hall:Yc2 E.P t=true)
  (he:(evalOp E a H (.build z l)).run=some (x,H')):i6 E.P o ac w (C4 W ρ H F w x H'):=by
 simp only[evalOp] at he;cases hf:sb8 z (l9 (λp=>(p.1,p.2.1,c9 E a p.2.2)) l) with
 |none=>rw[hf] at he;cases he
 |some cs =>
 rw[hf] at he;have he':=Qah he;injection he' with e1 e2;subst e1 e2
 obtain⟨ti,zv,hi,hzz,rfl,hone⟩:=Ua5 hz;obtain⟨hl1,hl2⟩:=Qc5 hA hG hc;have hfill:=λplace hpl=>Yc9 (ρ:=ρ) (H:=H) (F:=F) (w:=w) place _ (ps.toList.map λp=>(p.1,ac.eval p.2)) (zv.cells.toList.map .v) zv.cells cs hl1 hpl (by simp)
  (λi u u' h h'=>by
   rw[Qbm] at h
   have:zv.cells.toList[i]?=some u':=by simpa using h'
   rw[this] at h
   simp at h
   subst h;exact .v _) hf
 unfold Yc2 at hall;cases hu:E.P.underlying t with
 |none=>simp[hu] at hall
 |some d =>
 cases d with
 |struct fs =>
  simp only[hu] at hall;have hmap:(fs.mapM λf=>(do pure (f.offset,<- sizeOf f.type):Sem (Nat×Nat))).run E.P w=.ok (fs.map λf=>(f.offset,szT E.P f.type)) w:=by
   refine Tb1 _ _ w fs λf hf=>?_
   have hsome:=Array.all_eq_true_iff_forall_mem.1 hall f hf;obtain⟨fi,hfi⟩:=Qbi.1 hsome;simp[sizeOf,typeInfo,hfi,szT]
  obtain⟨cs',h1,h2,h3,h4⟩:=hfill (λi=>(fs.map λf=>(f.offset,szT E.P f.type))[i]?) (λi p p' hp hp'=>by
   obtain⟨h1,h2⟩:=hl2 i p p' hp hp';refine⟨?_,h2⟩;unfold Ob3 at h1;simp only[hu] at h1;cases hfi:fs[p'.1]? with
   |none=>simp[hfi] at h1
   |some f=>simp[hfi] at h1 ⊢;exact h1)
  refine .value (x':=.agg cs') (w':=w) ?_ (.stay hH (.val (.agg cs cs' (by rw[h3,h2];simp) h4)))
  have hps:(ps.map λ(p:Nat×Operand)=>(p.1,ac.eval p.2)).toList=ps.toList.map λp=>(p.1,ac.eval p.2):=by simp
  have hb:(Instr.build t (ps.map λ(p:Nat×Operand)=>(p.1,ac.eval p.2))).run E.P w=.ok (.agg cs') w:=by
   unfold Instr.build;simp only[Sem.run_bind,zeroValue,typeInfo,run_program,Result.andThen_ok,hi,Sem.run_pure,hzz,run_underlying hu,hmap,hps,h1]
  simp only[execOp,ho,Sem.run_bind,hb,Result.andThen_ok,Sem.run_pure]
 |array n e =>
  simp only[hu] at hall;obtain⟨ei,hei⟩:=Qbi.1 hall;obtain⟨cs',h1,h2,h3,h4⟩:=hfill (λi=>some (i*ei.size,ei.size)) (λi p p' hp hp'=>by
   obtain⟨h1,h2⟩:=hl2 i p p' hp hp';refine⟨?_,h2⟩;unfold Ob3 at h1;simp only[hu,szT,hei] at h1;exact h1)
  refine .value (x':=.agg cs') (w':=w) ?_ (.stay hH (.val (.agg cs cs' (by rw[h3,h2];simp) h4)))
  have hps:(ps.map λ(p:Nat×Operand)=>(p.1,ac.eval p.2)).toList=ps.toList.map λp=>(p.1,ac.eval p.2):=by simp
  have hb:(Instr.build t (ps.map λ(p:Nat×Operand)=>(p.1,ac.eval p.2))).run E.P w=.ok (.agg cs') w:=by
   unfold Instr.build;simp only[Sem.run_bind,zeroValue,typeInfo,run_program,Result.andThen_ok,hi,Sem.run_pure,hzz,run_underlying hu,sizeOf,hei,hps,h1]
  simp only[execOp,ho,Sem.run_bind,hb,Result.andThen_ok,Sem.run_pure]
 |_=>simp[hu] at hall
omit hA hG hH in
theorem xc2(es:Nat):∀(n:Nat) (l:List b9),n*es<=l.length->(ma5 es n l).length=n/\∀(i:Nat) r,(ma5 es n l)[i]?=some r->r=(l.drop (i*es)).take es/\i<n
 |0,l,_=>⟨rfl,λi r h=>by simp[ma5] at h⟩
 |n+1,l,h=>by
  rw[Qbc,Qbl] at h;obtain⟨h1,h2⟩:=xc2 es n (l.drop es) (by simp;omega)
  have e:ma5 es (n+1) l=l.take es::ma5 es n (l.drop es):=by simp[ma5,A8,v7]
  rw[e];refine⟨by simp[h1],λi r hr=>?_⟩
  cases i with
  |zero=>simp at hr;subst hr;simp
  |succ i =>
   obtain⟨h3,h4⟩:=h2 i r (by simpa using hr)
   refine⟨?_,by omega⟩
   rw[h3,List.drop_drop,Qbc,Qbl,Nat.add_comm es]
omit hA hG hH in
theorem r4.allocRow(h:r4 W ρ H F w)(et es n:Nat)(cs:List b9)(vs:Array Value)(cap:Nat)(hes:0<es)(hl:cs.length=n*es)(hcap:vs.size=cap*es)(hn:n<=cap)(hm:cap<=maxLen)
  (hr:∀(i:Nat) z z',cs[i]?=some z->vs[i]?=some z'->J8 F w z z') :
  C4 W ρ H F w (.sl H.length 0 n 0) (da2 H et es (ma5 es n cs)) (.slice (some ⟨w.heap.size,0,none⟩) n cap) (w.alloc (.cells vs et)):=by
 obtain⟨hc1,hc2⟩:=xc2 es n cs (by omega)
 have hle:n*es<=cap*es:=Qba _ hn
 obtain ⟨h1, h2⟩ := h.alloc et es (ma5 es n cs) vs et (fun i r hr' => by
   obtain⟨h3,h4⟩:=hc2 i r hr'
   have:=Qba es (show i+1<=n from h4)
   rw[Qbc,Qbl] at this;rw[h3];simp;omega) (by rw[hc1,hcap];exact hle) (λi r c z hr' hz=>by
   obtain⟨h3,h4⟩:=hc2 i r hr';subst h3;have hcl:c<es:=by
    have:=(Qab.1 hz).1
    simp at this
    omega
   rw[Qbe,if_pos hcl,Qbj] at hz;have hlt:i*es+c<vs.size:=by have:=(Qab.1 hz).1;omega
   exact⟨vs[i*es+c],by simp[hlt],hr _ z _ hz (by simp[hlt])⟩) (λ_=>rfl)
 rw[cc8];refine⟨_,F,h1,h2,.val (.cell (.sl _ _ _ _ _ _ { et,es,elems:=ma5 es n cs,own:=true,dead:=false,g:=0 } (by simp) rfl (Qac _) hn rfl hm λ_=>⟨.inr ?_,?_,by simp[hc1]⟩))⟩
 ·simp[ρnew]
 ·simp[ρnew,hcap]
omit hA hG hH in
theorem fb0(z:List b9):∀(n k:Nat),0<z.length->k<n*z.length->((List.replicate n z).flatten)[k]?=z[k % z.length]?
 |0,k,_,h=>by simp at h
 |n+1,k,hz,h=>by
  rw[List.replicate_succ,List.flatten_cons]
  rcases Qan k z.length with hk|hk
  ·rw[Qbg hk,Qbaa hk]
  ·rw[Qbf hk];rw[Qbc,Qbl] at h;rw[fb0 z n (k-z.length) hz (by omega)]
   congr 1
   conv=>rhs;rw[show k=k-z.length+z.length by omega,Nat.add_mod_right]
theorem Zc0{t e:TypeId}{n:Nat}{ps:Array (Nat×Operand)}{z:List b9}{l:List (Nat×Nat×Arg)}(ho:o.op=.buildSlice t n ps)(hu:E.P.underlying t=some (.slice e))(hz:zeT E.P e=some z)(hc:Fa7 E.P t ps.toList=some l)
  (hlim:n*szT E.P e<=16777216) (hzl:z.length=szT E.P e) (hpos:0<szT E.P e)
  (he:(evalOp E a H (.bslice e (szT E.P e) n (List.replicate n z).flatten l)).run=some (x,H')):i6 E.P o ac w (C4 W ρ H F w x H'):=by
 simp only[evalOp] at he;cases hf:sb8 (List.replicate n z).flatten (l9 (λp=>(p.1,p.2.1,c9 E a p.2.2)) l) with
 |none=>rw[hf] at he;cases he
 |some cs =>
 simp only[hf] at he;cases hfr:freezeCells H cs with
 |none=>rw[hfr] at he;cases he
 |some q =>
 obtain⟨cs2,H1⟩:=q;simp only[hfr,l6] at he;have he':=Qah he;injection he' with e1 e2;subst e1 e2
 obtain⟨ti,zv,hi,hzz,rfl,hone⟩:=Ua5 hz;have hts:szT E.P e=ti.size:=by simp[szT,hi]
 rw[hts] at hzl hpos hlim;have hzs:zv.cells.size=ti.size:=by simpa using hzl
 obtain⟨hl1,hl2⟩:=Qc5 hA hG hc
 let cells0:Array Value:=(Array.range (n*ti.size)).map (zv.cells[· % zv.cells.size]!)
 have hflen:((List.replicate n (zv.cells.toList.map b9.v)).flatten).length=n*ti.size:=by simp[List.length_flatten,hzs]
 obtain ⟨cs', h1, h2, h3, h4⟩ := Yc9 (ρ := ρ) (H := H) (F := F) (w := w) (fun i => some (i * ti.size, ti.size)) _ (ps.toList.map fun p => (p.1, ac.eval p.2)) _ cells0 cs hl1 (fun i p p' hp hp' => by
   obtain⟨h1,h2⟩:=hl2 i p p' hp hp';refine⟨?_,h2⟩;unfold Ob3 at h1;simp only[hu,szT,hi] at h1;exact h1) (by rw[hflen];simp[cells0]) (λk u u' hk hk'=>by
   have hlt:k<n*ti.size:=by have:=(Qab.1 hk).1;omega
   rw[fb0 _ n k (by simp;omega) (by simp[hzs];exact hlt)] at hk
   simp[hzs] at hk;obtain⟨b,hb1,rfl⟩:=hk;simp[cells0,hlt,hzs] at hk';rw[getElem!_def,hb1] at hk'
   simp at hk'
   subst hk';exact .v _) hf
 have hvs:cs'.size=n*ti.size:=by rw[h2];simp[cells0]
 obtain⟨F1,a1,hH1,h5,h6,h7⟩:=Ua4 hH (vs:=cs'.toList) (by rw[h3,hflen];simp[hvs]) (λi y y' hy hy'=>h4 i y y' hy (by simpa using hy')) hfr
 have hb:(Instr.buildSlice t n (ps.map λ(p:Nat×Operand)=>(p.1,ac.eval p.2))).run E.P w=.ok (.slice (some ⟨w.heap.size,0,none⟩) n n) (w.alloc (.cells cs' e)):=by
  have hps:(ps.map λ(p:Nat×Operand)=>(p.1,ac.eval p.2)).toList=ps.toList.map λp=>(p.1,ac.eval p.2):=by simp
  unfold Instr.buildSlice;have hlim':¬ (n*ti.size>2 ^ 24):=by omega
  by_cases h0:n*ti.size=0
  ·have hn0 : n = 0 := by
    rcases Qbq n with h|h
    ·exact h
    ·have:=Nat.mul_pos h hpos;omega
   subst hn0;have h1':Instr.fill (λi=>some (i*ti.size,ti.size)) #[] (ps.toList.map λp=>(p.1,ac.eval p.2))=some cs':=by
    grind
   have hr0:∀f:Nat->Value,(Array.range (0*ti.size)).map f=#[]:=by simp
   simp only[Sem.run_bind,run_underlying hu,Result.andThen_ok,sizeOf,typeInfo,run_program,hi,Sem.run_pure,if_neg hlim',if_pos h0,hps,hr0,h1',newRow,run_newObj];rfl
  ·have hlim2:¬ (16777216<n*ti.size):=by omega
   have hn0:¬ (n=0\/ti.size=0):=by
    grind
   simp only[Sem.run_bind,run_underlying hu,Result.andThen_ok,sizeOf,typeInfo,run_program,hi,Sem.run_pure,if_neg hlim',if_neg h0,zeroValue,hzz,hps];have h1':Instr.fill (λi=>some (i*ti.size,ti.size)) ((Array.range (n*ti.size)).map λx=>zv.cells[x % zv.cells.size]!) (ps.toList.map λp=>(p.1,ac.eval p.2))=some cs':=h1
   simp only[h1',newRow,run_newObj,Sem.run_bind,Result.andThen_ok,Sem.run_pure];rfl
 refine .value (x':=.slice (some ⟨w.heap.size,0,none⟩) n n) (w':=w.alloc (.cells cs' e)) (by simp only[execOp,ho,Sem.run_bind,hb,Result.andThen_ok,Sem.run_pure]) ?_
 rw[hts]
 obtain ⟨ρ', F', g1, g2, g3⟩ := r4.allocRow (H := H1) hH1 e ti.size n cs2 cs' n hpos (by rw [h5, h3, hflen]) hvs (Qac _) (by
   have:n<=n*ti.size:=Qbab n hpos
   unfold maxLen;omega) (λi z z' hz1 hz2=>h6 i z z' hz1 (by simpa using hz2))
 exact⟨ρ',F',a1.trans g1,g2,g3⟩
theorem zd2{t e:TypeId}{y yc:Operand}{z:List b9}(ho:o.op=.makeSlice t y yc)(hu:E.P.underlying t=some (.slice e))(hz:zeT E.P e=some z)(hzl:z.length=szT E.P e)(hpos:0<szT E.P e)
  (he:(evalOp E a H (.mksl e (szT E.P e) (byT E.P e) z (g9 y) (g9 yc))).run=some (x,H')):i6 E.P o ac w (C4 W ρ H F w x H'):=by
 have hy:=l5 hA hG y;have hyc:=l5 hA hG yc;simp only[evalOp] at he;cases h1:S4 (c9 E a (g9 y)) with
 |none=>simp[h1] at he
 |some n =>
 cases h2:S4 (c9 E a (g9 yc)) with
 |none=>simp[h1,h2] at he
 |some m =>
 simp only[h1,h2,l6] at he;obtain⟨k1,e1⟩:=Ua3 h1 hy;obtain⟨k2,e2⟩:=Ua3 h2 hyc;obtain⟨hb,he⟩:=DT.run_guard_some he;simp only[Qbd] at hb;obtain⟨⟨⟨hb1,hb2⟩,hb3⟩,hb4⟩:=hb;obtain⟨g1,g2,_⟩:=ob8 hb1;obtain⟨g3,g4,_⟩:=ob8 hb2;have hb3:=Qbb hb3;have hb4:=Qbb hb4;have he':=Qah he;injection he' with e3 e4;subst e3 e4
 obtain⟨ti,zv,hi,hzz,rfl,hone⟩:=Ua5 hz;have hts:szT E.P e=ti.size:=by simp[szT,hi]
 have hby:byT E.P e=ti.bytes:=by simp[byT,hi]
 rw[hts] at hzl hpos ⊢;rw[hby] at hb4;have hzs:zv.cells.size=ti.size:=by simpa using hzl
 unfold room at g2 g4 hb4;have hbytes:(ti.bytes:Int)*m<=281474976710656:=by
  grind
 have hr:=run_make (P:=E.P) w t e ti zv hu hi hzz k1 k2 n m g1 (by omega) hbytes (by omega)
 refine .value (x':=.slice (some ⟨w.heap.size,0,none⟩) n.toNat m.toNat) (w':=w.alloc (.cells (madeCells zv.cells (m.toNat*ti.size)) e)) (by simp only[execOp,ho,e1,e2,Sem.run_bind,hr,Result.andThen_ok,Sem.run_pure]) ?_
 have hch:da2 H e ti.size (List.replicate n.toNat (zv.cells.toList.map b9.v))=da2 H e ti.size (ma5 ti.size n.toNat (List.replicate n.toNat (zv.cells.toList.map b9.v)).flatten):=by
  congr 1;have hgen:∀(q:Nat) (zz:List b9),zz.length=ti.size->ma5 ti.size q (List.replicate q zz).flatten=List.replicate q zz:=λq zz hq=>by
   induction q with
   |zero=>rfl
   |succ q ih =>
    simp only[ma5,List.replicate_succ,List.flatten_cons,A8,v7];rw[List.take_left' hq,List.drop_left' hq,ih]
  simp_all
 rw[hch];have hflen:((List.replicate n.toNat (zv.cells.toList.map b9.v)).flatten).length=n.toNat*ti.size:=by simp[List.length_flatten,hzs]
 refine r4.allocRow hH e ti.size n.toNat _ _ m.toNat hpos hflen (by simp[madeCells]) hb3 (by unfold maxLen;omega) λi u u' hu1 hu2=>?_
 have hlt:i<n.toNat*ti.size:=by have:=(Qab.1 hu1).1;omega
 have hle:n.toNat*ti.size<=m.toNat*ti.size:=Qba _ hb3;rw[fb0 _ n.toNat i (by simp;omega) (by simp[hzs];exact hlt)] at hu1
 simp[hzs] at hu1;obtain⟨b,hb1,rfl⟩:=hu1;have hlt2:i<m.toNat*ti.size:=by omega
 simp[madeCells,hlt2,hzs] at hu2;rw[getElem!_def,hb1] at hu2
 simp at hu2
 subst hu2;exact .v _ (hone _ (by simpa using Array.mem_of_getElem? hb1))
end
end
section
variable{W:Nat->Prop}{ρ:Rho}{H H':List c7}{F:Fz}{w:World}{E:Env}{o:Oper}{a:List b9}{ac:Act}{x:b9}
theorem ld0:∀(ts:List Nat) (vs:List Value) (t:Nat) (g:Nat->Option Value),Ma4 g ts=some vs->t∈ts->g t=some (Hd9 ts vs t)
 |[],_,_,_,_,h=>by simp at h
 |s::ts,vs,t,g,hm,h=>by
  rw[Qc0] at hm;cases hg:g s with
  |none=>simp[hg] at hm
  |some v =>
  cases hr:Ma4 g ts with
  |none=>simp[hg,hr] at hm
  |some r =>
  simp[hg,hr] at hm;subst hm;simp only[Hd9];cases hb:Nat.beq s t with
  |true=>have:=Qae hb;subst this;exact hg
  |false =>
   have hne:=Qbae hb
   rcases Qbp.1 h with h|h
   ·exact absurd h.symm hne
   ·exact ld0 ts r t g hr h
theorem Fb3:∀(l:List Operand) (ts:List Nat),Aa7 l=some ts->∀x∈l,(∀t,x=.tmp t->t∈ts)/\∀g,x≠.global g
 |[],_,_,_,hx=>by simp at hx
 |y::l,ts,h,x,hx=>by
  cases y with
  |tmp t =>
   simp only[Aa7] at h;cases hr:Aa7 l with
   |none=>simp[hr] at h
   |some r =>
   simp[hr] at h;subst h
   rcases Qbp.1 hx with rfl|hx
   ·simp_all
   ·obtain⟨h1,h2⟩:=Fb3 l r hr x hx
    simp_all
  |global g=>simp[Aa7] at h
  |const v =>
   rcases Qbp.1 hx with rfl|hx
   ·simp_all
   ·exact Fb3 l ts h x hx
  |func f =>
   rcases Qbp.1 hx with rfl|hx
   ·simp_all
   ·exact Fb3 l ts h x hx
section
variable(hA:da4 ρ H F w a ac.tmps)(hH:r4 W ρ H F w)(hG:GOk E F w)
include hA hH hG
theorem Qc6{ts:List Nat}(hts:Aa7 o.op.operands.toList=some ts)(hs:∀cs b,o.op≠.select cs b)(he:(opt (Lc3 E a (kc9 o) ts) H).run=some (x,H')):i6 E.P o ac w (C4 W ρ H F w x H'):=by
 obtain⟨y,h1,h2⟩:=Aa6 he;injection h2 with e1 e2;subst e1 e2
 unfold Lc3 at h1;cases hm:Ma4 (λt=>jd4 (c9 E a (.t t))) ts with
 |none=>simp[hm] at h1
 |some vs =>
 simp only[hm,Id1] at h1;have hcongr:execOp ac.eval o=execOp (Id0 ts vs) (kc9 o):=by
  have:execOp (Id0 ts vs) (kc9 o)=execOp (Id0 ts vs) o:=rfl
  rw[this];refine execOp_congr o hs λz hz=>?_
  obtain⟨h3,h4⟩:=Fb3 _ ts hts z (by simpa using hz)
  cases z with
  |tmp t =>
   have:=ld0 ts vs t _ hm (h3 t rfl)
   exact ae9 (l5 hA hG (.tmp t)) this
  |const v=>rfl
  |func f=>rfl
  |global g=>exact absurd rfl (h4 g)
 split at h1
 ·rename_i v hr;injection h1 with h1;subst h1;exact .value (x':=v) (w':=w) (by rw[hcongr];exact yd6 hr w) (.stay hH (.ofVal v))
 ·cases h1
omit hH in
theorem ld1 {z : Option Operand} {n m : Nat} {code : BoundsCode} {d : Nat} (he : ((match z.map (fun y => c9 E a (g9 y)) with
  |none=>DT.ret d
  |some x=>match S4 x with
   |some m=>.guard (inB m (n+1)) (.ret m.toNat)
   |none=>.fail):DT Nat).run=some m) :
  (z=none/\m=d)\/∃y,z=some y/\m<=n/\∀n',n<=n'->(Instr.sliceBound (ac.eval y) n' code).run E.P w=.ok m w:=by
 cases z with
 |none=>exact .inl ⟨rfl,(Qah he).symm⟩
 |some y =>
  right;simp only[Option.map_some] at he;cases hi:S4 (c9 E a (g9 y)) with
  |none=>simp[hi] at he
  |some k =>
  simp only[hi] at he;obtain⟨h1,h2⟩:=DT.run_guard_some he
  have:=Qah h2
  subst this;obtain⟨g1,g2,g3⟩:=ob8 h1;obtain⟨kk,e⟩:=Ua3 hi (l5 hA hG y);refine⟨y,rfl,by omega,λn' hn=>?_⟩
  have hle:k<=(n':Int):=by omega
  simp[Instr.sliceBound,e,asIntOf,g1,hle]
omit hH in
theorem Ob8{n l h:Nat}{lo hi:Option Operand}(he:(Sb4 n ((lo.map g9).map (c9 E a)) ((hi.map g9).map (c9 E a))).run=some (l,h)) :
  l<=h/\h<=n/\∀cap,n<=cap->(Instr.sliceBounds true n cap (lo.map ac.eval) (hi.map ac.eval) none).run E.P w=.ok (l,h,cap) w:=by
 unfold Sb4 at he;simp only[Option.map_map,Function.comp_def] at he;obtain⟨h',h1,h2⟩:=DT.run_bind_some he;have hb1:=ld1 hA hG (z:=hi) (n:=n) (d:=n) (code:=.sliceAcap) h1;have h2':(l,h).2=h'/\((lo=none/\l=0)\/∃y,lo=some y/\l<=h'/\∀n',h'<=n'->(Instr.sliceBound (ac.eval y) n' .sliceB).run E.P w=.ok l w):=by
  cases lo with
  |none =>
   simp_all
  |some y =>
   simp only[Option.map_some] at h2;cases hi2:S4 (c9 E a (g9 y)) with
   |none=>simp[hi2] at h2
   |some k =>
   simp only[hi2] at h2;obtain⟨g1,g2⟩:=DT.run_guard_some h2
   have:=Qah g2
   injection this with e1 e2;have hb2:=ld1 hA hG (z:=some y) (n:=h') (d:=0) (m:=k.toNat) (code:=.sliceB) (by simp only[Option.map_some,hi2];rw[show (DT.guard (inB k (h'+1)) (DT.ret k.toNat)).run=some k.toNat by unfold DT.guard;rw[DT.run_ite,g1];rfl])
   simp_all
 obtain⟨e,hl⟩:=h2'
 simp only at e
 subst e;have hhn:h<=n:=by rcases hb1 with⟨_,h3⟩ | ⟨_,_,h3,_⟩<;>omega
 have hlh:l<=h:=by rcases hl with⟨_,h3⟩ | ⟨_,_,h3,_⟩<;>omega
 refine⟨hlh,hhn,λcap hcap=>?_⟩
 unfold Instr.sliceBounds
 rcases hb1 with⟨rfl,rfl⟩|⟨y1,rfl,_,k1⟩<;>rcases hl with⟨rfl,rfl⟩|⟨y2,rfl,_,k2⟩
 ·simp
 ·simp_all
 ·simp[k1 cap hcap]
 simp_all
theorem ld2{t e:TypeId}{y:Operand}{lo hi:Option Operand}{ei:TypeInfo}(ho:o.op=.slice t y lo hi none)(hu:E.P.underlying t=some (.slice e))(hei:E.P.info? e=some ei)
  (he:(evalOp E a H (.slice (szT E.P e) (g9 y) (lo.map g9) (hi.map g9))).run=some (x,H')):i6 E.P o ac w (C4 W ρ H F w x H'):=by
 have hy:=l5 hA hG y;have hes:szT E.P e=ei.size:=by simp[szT,hei]
 have hrun : ∀ {ad : Option Addr} {n cap l h : Nat}, ac.eval y = .slice ad n cap → (Instr.sliceBounds true n cap (lo.map ac.eval) (hi.map ac.eval) none).run E.P w = .ok (l, h, cap) w →
   (execOp ac.eval o).run E.P w=.ok (.value (.slice (if cap=l then ad else ad.map (·.add (l*ei.size))) (h-l) (cap-l))) w:=λ{ad n cap l h} e1 e2=>by
  unfold execOp;simp[ho,Instr.sliceAt,run_underlying hu,Instr.slice,e1,e2,sizeOf,typeInfo,hei]
 rw[hes] at he;simp only[evalOp] at he
 revert he hy
 generalize c9 E a (g9 y)=p;intro he hy
 split at he
 ·rename_i id off n g;cases hbk:blkAt H id g with
  |none=>simp[hbk] at he
  |some b =>
  obtain⟨hb,hd,hg⟩:=p5 hbk;cases hbe:Nat.beq b.es ei.size with
  |false=>simp[hbk,hbe] at he
  |true =>
  have hbes:=Qae hbe;simp only[hbk,hbe] at he;obtain⟨⟨l,h⟩,h1,h2⟩:=DT.run_bind_some he;have he':=Qah h2;injection he' with e1 e2;subst e1 e2
  obtain⟨g1,g2,g3⟩:=Ob8 hA hG h1;obtain⟨ad,cap,b',e0,hb',hd',hg',hn,hspot,hcm0,hh⟩:=wa9 hy
  have:b'=b:=Qah (hb'.symm.trans hb)
  subst this;obtain⟨h3,h4,h5⟩:=hh hg;have hr:=hrun e0 (g3 cap hn);have hform:(if cap=l then some ad else (some ad).map (·.add (l*ei.size)))=some (if cap=l then ad else ad.add (l*ei.size)):=by split<;>rfl
  rw[hform] at hr;refine .value hr (.stay hH (.val (.cell (.sl _ _ _ _ _ _ b' hb hd hg' (by omega) ?_ (by omega) λ_=>⟨?_,?_,by omega⟩))))
  ·split
   ·exact hspot
   ·rw[I5 hspot]
  ·by_cases hc:cap=l
   ·grind
   ·rw[if_neg hc];right;have had:=h3.resolve_left (by omega)
    rw[I5 hspot,had,hbes,Qbc]
    simp;omega
  ·rw[<- h4];congr 1;omega
 ·rename_i es' n get;cases hbe:Nat.beq es' ei.size with
  |false=>simp[hbe] at he
  |true =>
  have hbes:=Qae hbe;simp only[hbe] at he;obtain⟨⟨l,h⟩,h1,h2⟩:=DT.run_bind_some he;have he':=Qah h2;injection he' with e1 e2;subst e1 e2
  obtain⟨g1,g2,g3⟩:=Ob8 hA hG h1;have ht:=aa8 hy;generalize hv:ac.eval y=v at *
  cases ht with
  |tree _ _ _ ad cap cs hs hcap hes' hF hw hr =>
  have hr0:=hrun rfl (g3 cap hcap);have hform:(if cap=l then some ad else (some ad).map (·.add (l*ei.size)))=some (if cap=l then ad else ad.add (l*ei.size)):=by split<;>rfl
  rw[hform] at hr0;refine .value hr0 (.stay hH (.val (.cell (.mem ?_))));by_cases hc:cap=l
  ·rw[if_pos hc];exact .tree _ _ _ ad _ (λi c=>cs (l+i) c) (λh=>hs (by omega)) (by omega) (λi hi=>absurd hi (by omega)) (λi c hi=>absurd hi (by omega)) (λi c hi=>absurd hi (by omega)) (λi c hi=>absurd hi (by omega))
  ·rw[if_neg hc];have e3:∀i c,ad.off+l*ei.size+(i*es'+c)=ad.off+((l+i)*es'+c):=λi c=>by rw[Qbc,hbes];omega
   refine .tree _ _ _ _ _ (λi c=>cs (l+i) c) (λh=>by rw[I5 (hs (by omega))]) (by omega) (λi hi=>hes' _ (by omega)) (λi c hi hc'=>?_) (λi c hi hc'=>?_) (λi c hi hc'=>hr (l+i) c (by omega) hc')
   ·rw[I5 (hs (by omega))];simp only;rw[e3];exact hF _ _ (by omega) hc'
   ·rw[I5 (hs (by omega))];simp only;rw[e3];exact hw _ _ (by omega) hc'
  |nil =>
   have hr:=hrun rfl (g3 0 (Qac _))
   have:l=0:=by omega
   have:h=0:=by omega
   subst l h;exact .value hr (.stay hH (.val (.cell (.mem (.nil _ _)))))
 ·obtain⟨⟨l,h⟩,h1,h2⟩:=DT.run_bind_some he;have he':=Qah h2;injection he' with e1 e2;subst e1 e2
  obtain⟨g1,g2,g3⟩:=Ob8 hA hG h1;have hr:=hrun (K5 hy) (g3 0 (Qac _))
  have:l=0:=by omega
  have:h=0:=by omega
  subst l h;exact .value hr (.stay hH (.ofv _))
 ·cases he
end
section
variable(hA:da4 ρ H F w a ac.tmps)(hH:r4 W ρ H F w)(hG:GOk E F w)
include hA hH hG
theorem Sd8{t e:TypeId}{n:Nat}{y:Operand}{ei:TypeInfo}(ho:o.op=.slice t y none none none)(hu:E.P.underlying t=some (.array n e))(hei:E.P.info? e=some ei)(hn0:0<n)(he0:0<szT E.P e)
  (he:(evalOp E a H (.asl n (szT E.P e) (g9 y))).run=some (x,H')):i6 E.P o ac w (C4 W ρ H F w x H'):=by
 have hy:=l5 hA hG y;have hes:szT E.P e=ei.size:=by simp[szT,hei]
 have he:aslA n (szT E.P e) (c9 E a (g9 y)) H=some (x,H'):=jb7 he;rw[hes] at he he0
 revert he hy
 generalize c9 E a (g9 y)=p;intro hy he;unfold aslA at he
 split at he
 ·rename_i id i c g;cases hbk:blkAt H id g with
  |none=>simp[hbk] at he
  |some b =>
  obtain⟨hb,hd,hg⟩:=p5 hbk;simp only[hbk] at he
  split at he
  ·rename_i hcond;rw[Qbd,Nat.blt_eq,l6,l6] at hcond;obtain⟨hi,hfit⟩:=hcond;have hfit:=Qbb hfit;injection he with he;injection he with e1 e2
   have hdis:disown H id=H.set id { b with own:=false }:=by
    simp[disown,modAt,p9,hb,r6]
   rw[hdis] at e2;subst e1 e2;obtain⟨F',hadv,hH',hF'⟩:=hH.disown id b hb hd;obtain⟨ad,b',e0,hb',hd',hg',hh⟩:=la0 hy
   have:b'=b:=Qah (hb'.symm.trans hb)
   subst this;have had:=hh hg;obtain⟨cc,ct,fr,hB⟩:=hH.blk id b' hb hd;have hspot:ad.spot=none:=by rw[had]
   have hrun:(execOp ac.eval o).run E.P w=.ok (.value (.slice (some ad) n n)) w:=by
    unfold execOp;simp[ho,Instr.sliceAt,run_underlying hu,e0,Instr.sureAddr,Instr.sliceBounds,sizeOf,typeInfo,hei];intro _;rw[I5 hspot];simp[<- hspot]
   refine .value hrun ⟨ρ,F',hadv,hH',.val (.cell (.mem ?_))⟩;have hr0:b'.elems[i]?=some b'.elems[i]:=Qaa hi;have hrow:j6 b'.elems i=b'.elems[i]:=by simp[j6,p9,hr0]
   have hrl:=hB.rows i _ hr0;rw[hrow] at hfit ⊢;generalize b'.elems[i]=r at hr0 hrl hfit;have hin:∀j k,j<n->k<ei.size->c+(j*ei.size+k)<r.length:=λj k hj hk=>by
    have h1:(j+1)*ei.size<=n*ei.size:=Qba _ (by omega)
    rw[Qbc] at h1;omega
   have hbound:∀k,k<r.length->i*b'.es+k<b'.elems.length*b'.es:=λk hk=>by
    have h1:(i+1)*b'.es<=b'.elems.length*b'.es:=Qba _ (by omega)
    rw[Qbc] at h1;omega
   have hoff:∀j k,(ρ id).off+(i*b'.es+c)+(j*ei.size+k)=(ρ id).off+(i*b'.es+(c+(j*ei.size+k))):=λj k=>by omega
   have hget:∀j,j<n->(A7 (i9 r (c+j*ei.size)) ei.size).length=ei.size:=λj hj=>by
    rw[A8,v7,List.length_take,Qbr]
    have:=hin j (ei.size-1) hj (by omega)
    omega
   refine .tree ei.size n _ ad n (λj k=>cc.getD ((ρ id).off+(i*b'.es+(c+(j*ei.size+k)))) undef) (λ_=>hspot) (Qac _) hget (λj k hj hk=>?_) (λj k hj hk=>?_) (λj k hj hk=>?_)
   ·rw[had];simp only;rw[hoff];exact hF' _ (hbound _ (hin j k hj hk))
   ·rw[had];simp only;rw[hoff,hB.cellAt]
    have:=hB.room;have:=hB.len;have:=hbound _ (hin j k hj hk)
    have hlt:(ρ id).off+(i*b'.es+(c+(j*ei.size+k)))<cc.size:=by omega
    simp[hlt]
   ·have hk':k<ei.size:=by rw[<- hget j hj];exact hk
    obtain⟨x',h7,h8⟩:=hB.cell i r (c+(j*ei.size+k)) _ hr0 (Qaa (hin j k hj hk'));have hlt:=(Qbo.1 h7).1;rw[Qai hlt] at h7;injection h7 with h7;have e9:cc.getD ((ρ id).off+(i*b'.es+(c+(j*ei.size+k)))) undef=x':=by simp[hlt,h7]
    have e10:(A7 (i9 r (c+j*ei.size)) ei.size)[k]=r[c+(j*ei.size+k)]'(hin j k hj hk'):=by
     have q:(A7 (i9 r (c+j*ei.size)) ei.size)[k]?=r[c+(j*ei.size+k)]?:=by
      rw[A8,v7,Qbe,if_pos hk',Qbj];congr 1;omega
     rw[Qaa hk,Qaa (hin j k hj hk')] at q;exact Qah q
    rw[e9,e10];exact h8.adv hadv.more (λ_ _ _=>rfl)
  ·cases he
 ·cases he
end
end
theorem Fb4{k:Nat}{x:b9}{b:Bool}(hp:we1 x=true)(h:Xc8 k x=some b):Aa2 k x=some b:=by
  unfold Xc8 at h
  split at h
  · rename_i es n get
    cases n with
    |zero=>simp[we1] at hp
    |succ n=>exact h
  · exact h
section
variable{W:Nat->Prop}{ρ:Rho}{H H':List c7}{F:Fz}{w:World}{E:Env}{o:Oper}{a:List b9}{ac:Act}{x:b9}
theorem be2{y:b9}{y':Value}(hy:v8 ρ H F w y y')(hp:Pc8 y=true):J9 ρ H F w y y':=by
  have hn:∀cs,y≠.agg cs:=λcs e=>by subst e;cases hp
  have hp':Fa6 y=true:=by
    cases y with
    | fn f caps=>cases caps with
      |nil=>rfl
      |cons=>cases hp
    |_=>first | exact hp | cases hp
  exact (Sb9 hy hp' hn).1
theorem uc8{f:b9->Bool}:∀{l:List b9},ia0 f l=true->∀y∈l,f y=true
  |[],_,y,hy=>by simp at hy
  | z::l,h,y,hy=>by
    have h':(Bool.rec false (ia0 f l) (f z):Bool)=true:=h;cases hz:f z with
    |false=>rw[hz] at h';cases h'
    | true =>
      rw[hz] at h'
      rcases Qbp.1 hy with rfl|hy
      · exact hz
      · exact uc8 h' y hy
section
variable(hA:da4 ρ H F w a ac.tmps)(hH:r4 W ρ H F w)(hG:GOk E F w)
include hA hH hG
omit hH in
theorem xc3(xs:List Operand):(l9 (c9 E a) (xs.map g9)).length=(xs.map ac.eval).length/\∀(i:Nat) y y',(l9 (c9 E a) (xs.map g9))[i]?=some y->(xs.map ac.eval)[i]?=some y'->v8 ρ H F w y y':=by
  rw[k9];refine⟨by simp,λi y y' hy hy'=>?_⟩
  rw[List.map_map,Qbm] at hy;rw[Qbm] at hy';cases hx:xs[i]? with
  |none=>simp[hx] at hy
  |some z =>
  simp[hx] at hy hy';subst hy hy';exact l5 hA hG z
theorem zd3{f:FuncId}{first caps:Array Operand}(ho:o.op=.makeFunc (.func f) first caps)(hf:first.isEmpty=true)(hlt:Nat.ble bfB f=false)
    (he:(evalOp E a H (.mkfn f (caps.toList.map g9))).run=some (x,H')):i6 E.P o ac w (C4 W ρ H F w x H'):=by
  simp only[evalOp,hlt] at he;cases hb:ia0 Pc8 (l9 (c9 E a) (caps.toList.map g9)) with
  |false=>simp[hb] at he
  |true =>
  simp only[hb] at he;have he':=Qah he;injection he' with e1 e2;subst e1 e2
  obtain⟨h1,h2⟩:=xc3 hA hG caps.toList;have hfirst:first=#[]:=by simpa using hf
  refine .value (x':=Qa7 f (caps.map ac.eval)) (w':=w) (by simp[execOp,ho,Instr.makeFunc,hfirst,wb7 hlt]) (.stay hH (.val (.fn f _ _ (by rw[h1];simp) λi y y' hy hy'=>?_)))
  exact be2 (h2 i y y' hy (by rw[<- Qbs] at hy';simpa using hy')) (uc8 hb y (List.mem_of_getElem? hy))
theorem zd4{f:FuncId}{first caps:Array Operand}(ho:o.op=.makeFunc (.func f) first caps)(hf:first.isEmpty=true)
    (he:(evalOp E a H (.mkfz f (caps.toList.map g9))).run=some (x,H')):i6 E.P o ac w (C4 W ρ H F w x H'):=by
  simp only[evalOp] at he;cases hlt:Nat.ble bfB f with
  |true=>rw[hlt] at he;cases he
  |false =>
  rw[hlt] at he
  simp only at he
  obtain⟨h1,h2⟩:=xc3 hA hG caps.toList;cases hb:ia0 Pc8 (l9 (c9 E a) (caps.toList.map g9)) with
  |false=>rw[hb] at he;cases he
  |true =>
  rw[hb] at he
  simp only at he
  cases hz:frzCaps H (l9 (c9 E a) (caps.toList.map g9)) with
  |none=>rw[hz] at he;cases he
  |some q =>
  obtain⟨l,H1⟩:=q;rw[hz] at he;have he':=Qah he;injection he' with e1 e2;subst e1 e2
  obtain⟨F',k1,k2,k3,k4,k5⟩:=xc0 (vs:=(caps.map ac.eval).toList) hH (by rw[h1];simp) (λi y y' hy hy'=>be2 (h2 i y y' hy (by simpa using hy')) (uc8 hb y (List.mem_of_getElem? hy))) hz
  have hfirst:first=#[]:=by simpa using hf
  refine .value (x':=Qa7 f (caps.map ac.eval)) (w':=w) (by simp[execOp,ho,Instr.makeFunc,hfirst,wb7 hlt]) ⟨ρ,F',k1,k2,.val (.cell (.mem (.fn f _ _ _ rfl (by rw[k3,h1];simp) k4 λi hi hi'=>?_)))⟩
  exact k5 i _ _ (Qaa hi) (by rw[Qbs,Qai hi'])
theorem zd5{f:FuncId}{first caps:Array Operand}(ho:o.op=.makeFunc (.func f) first caps)(hc:caps.isEmpty=true)
    (he:(evalOp E a H (.mkfn (f+bfB) (first.toList.map g9))).run=some (x,H')):i6 E.P o ac w (C4 W ρ H F w x H'):=by
  have hge:Nat.ble bfB (f+bfB)=true:=by rw[Nat.ble_eq];exact Nat.le_add_left _ _
  obtain⟨h1,h2⟩:=xc3 (E:=E) hA hG first.toList;simp only[evalOp,hge] at he
  revert he h1 h2
  generalize l9 (c9 E a) (first.toList.map g9)=l;intro h1 h2 he
  split at he
  · rename_i c cs
    have he':=Qah he;injection he' with e1 e2;subst e1 e2
    have hcaps:caps=#[]:=by simpa using hc
    have hl:first.size=1:=by
      simp_all
    obtain⟨z,hz⟩:∃ z,first=#[z]:=by
      obtain⟨l⟩:=first
      match l,hl with
      |[z],_=>exact⟨z,rfl⟩
    subst hz;obtain⟨vs,ev,hlv,hv⟩:=ga4 (h2 0 _ (ac.eval z) rfl rfl);have hne:vs≠#[]:=λe=>by rw[e] at hlv;simp at hlv
    have e0:f+bfB-bfB=f:=Nat.add_sub_cancel f bfB;refine .value (x':=Qa7 (f+bfB) vs) (w':=w) (by rw[jd6 hge hne,e0];simp[execOp,ho,Instr.makeFunc,hcaps,ev]) (.stay hH (.val (.fn (f+bfB) _ vs hlv hv)))
  · cases he
omit hA hH hG in
theorem be3{cs:List b9}{vs:Array Value}{t:TypeId}{off n:Nat}{y:b9}{ks:List CK}(hn:n=szT E.P t)(hu:(E.P.underlying t).isSome=true)(hl:cs.length=vs.size)(hr:∀(i:Nat) x x',cs[i]?=some x->vs[i]?=some x'->J9 ρ H F w x x')
    (hfit:off+n<=cs.length) (hks:ks.length=n) (hok:ma4 ks (cs.drop off)=true) (hy:eb7 (agT E.P t) (vb9 ks (cs.drop off))=some y):∃y',(part t vs off).run E.P w=.ok y' w/\v8 ρ H F w y y':=by
  obtain⟨d,hd⟩:=Qbi.1 hu;obtain⟨ti,hi1,hi2⟩:=Ka1 hd
  have hget:∀ (i:Nat) z z',(vb9 ks (cs.drop off))[i]?=some z→(vs.extract off (off+n))[i]?=some z'→J9 ρ H F w z z':=fun i z z' hz hz'=>by
    obtain⟨hj,k,y,g1,rfl,g2⟩:=cc6 ks _ hok i z hz;have g3:=g2 (by rw[Qbr];omega)
    rw[Qbj] at g3;rw[Qbaf] at hz'
    split at hz'
    · exact Sd3 g1 (hr _ y z' g3 hz')
    · cases hz'
  rcases Fb0 hy with⟨hag,rfl⟩|⟨hag,z,hz,rfl⟩
  · exact⟨.agg (vs.extract off (off+n)),by simp[part,Fa8 hag,sizeOf,typeInfo,hi1,hi2,hn],.val (.agg _ _ (by simp[Fb1];omega) hget)⟩
  · have h1 : n = 1 := by
      have:=congrArg List.length hz
      simp[Fb1] at this;omega
    subst h1;have hlt:off<vs.size:=by omega
    have hne:E.P.underlying t≠none:=by rw[hd];simp
    have hlt2:0<(vs.extract off (off+1)).size:=by simp;omega
    refine⟨vs[off],by simp[part,xa0 hag hne,hlt],.val (.cell (hget 0 y vs[off] (by rw[hz];rfl) ?_))⟩
    simp_all
omit hA hH hG in
theorem we9{cs:List b9}{vs:Array Value}{t:TypeId}{off n:Nat}{y:b9}(hn:n=szT E.P t)(hu:(E.P.underlying t).isSome=true)(hl:cs.length=vs.size)(hr:∀(i:Nat) x x',cs[i]?=some x->vs[i]?=some x'->J9 ρ H F w x x')
    (hfit:off+n<=cs.length) (hy:eb7 (agT E.P t) ((cs.drop off).take n)=some y):∃y',(part t vs off).run E.P w=.ok y' w/\v8 ρ H F w y y':=by
  obtain⟨d,hd⟩:=Qbi.1 hu;obtain⟨ti,hi1,hi2⟩:=Ka1 hd
  have hget:∀ (i:Nat) z z',((cs.drop off).take n)[i]?=some z→(vs.extract off (off+n))[i]?=some z'→J9 ρ H F w z z':=fun i z z' hz hz'=>by
    rw[Qbe] at hz
    split at hz
    · rename_i hi
      rw[Qbj] at hz;rw[Qbaf] at hz'
      split at hz'
      · exact hr _ z z' hz hz'
      · cases hz'
    · cases hz
  rcases Fb0 hy with⟨hag,rfl⟩|⟨hag,z,hz,rfl⟩
  · exact⟨.agg (vs.extract off (off+n)),by simp[part,Fa8 hag,sizeOf,typeInfo,hi1,hi2,hn],.val (.agg _ _ (by simp;omega) hget)⟩
  · have h1 : n = 1 := by
      have:=congrArg List.length hz
      simp at this
      omega
    subst h1;have hlt:off<vs.size:=by omega
    have hne:E.P.underlying t≠none:=by rw[hd];simp
    have hz0:cs[off]?=some y:=by
      have:=congrArg (λl=>l[0]?) hz
      simpa using this
    exact⟨vs[off],by simp[part,xa0 hag hne,hlt],.val (.cell (hr off _ _ hz0 (Qai hlt)))⟩
theorem ld3{t:TypeId}{y:Operand}{f:Nat}{fs:Array Field}{fd:Field}(ho:o.op=.field t y f)(hu:E.P.underlying t=some (.struct fs))(hf:fs[f]?=some fd)(hsome:(E.P.underlying fd.type).isSome=true)
    (he:(evalOp E a H (.field fd.offset (szT E.P fd.type) (agT E.P fd.type) (g9 y))).run=some (x,H')):i6 E.P o ac w (C4 W ρ H F w x H'):=by
  have hy:=l5 hA hG y;simp only[evalOp] at he
  revert he hy
  generalize c9 E a (g9 y)=p;intro he hy
  split at he
  · rename_i cs
    simp only[l6,A8,v7] at he;cases hb:Nat.ble (fd.offset+szT E.P fd.type) cs.length with
    |false=>simp[hb] at he
    |true =>
    simp only[hb] at he;obtain⟨z,h1,h2⟩:=Aa6 he;injection h2 with e1 e2;subst e1 e2
    obtain⟨vs,e0,hl,hr⟩:=ga4 hy;obtain⟨y',h3,h4⟩:=we9 rfl hsome hl hr (Qbb hb) h1;exact .value (x':=y') (w':=w) (by simp[execOp,ho,Instr.field,run_underlying hu,hf,e0,asAgg,h3]) (.stay hH h4)
  · cases he
theorem ld4{ks:List CK}{t e:TypeId}{n:Nat}{y z:Operand}(ho:o.op=.index t y z)(hu:E.P.underlying t=some (.array n e))(hsome:(E.P.underlying e).isSome=true)
    (he:(evalOp E a H (.index ks n (szT E.P e) (agT E.P e) (g9 y) (g9 z))).run=some (x,H')):i6 E.P o ac w (C4 W ρ H F w x H'):=by
  have hy:=l5 hA hG y;have hz:=l5 hA hG z;simp only[evalOp] at he
  revert he hy
  generalize c9 E a (g9 y)=p;intro he hy
  split at he
  · rename_i cs m hm
    obtain⟨kk,ek⟩:=Ua3 hm hz;obtain⟨hb,he⟩:=DT.run_guard_some he;simp only[Qbd] at hb;obtain⟨hb,hb2,hb3,hb4⟩:=hb;obtain⟨g1,g2,g3⟩:=ob8 hb;simp only[l6,v7] at he hb2 hb3 hb4;obtain⟨q,h1,h2⟩:=Aa6 he;injection h2 with e1 e2;subst e1 e2
    obtain⟨vs,e0,hl,hr⟩:=ga4 hy;obtain⟨y',h3,h4⟩:=be3 rfl hsome hl hr (Qbb hb2) (Qae hb3) hb4 h1;obtain⟨d,hd⟩:=Qbi.1 hsome;obtain⟨ti,hi1,hi2⟩:=Ka1 hd;rw[<- hi2] at h3;exact .value (x':=y') (w':=w) (by simp[execOp,ho,Instr.index,ek,asIntOf,run_underlying hu,e0,g1,g2,sizeOf,typeInfo,hi1,h3]) (.stay hH h4)
  · cases he
theorem zd6{t:TypeId}{y z:Operand}(ho:o.op=.index t y z)(hu:E.P.underlying t=some .string)
    (he:(evalOp E a H (.sidx (g9 y) (g9 z))).run=some (x,H')):i6 E.P o ac w (C4 W ρ H F w x H'):=by
  have hy:=l5 hA hG y;have hz:=l5 hA hG z;simp only[evalOp] at he
  revert he hy
  generalize c9 E a (g9 y)=p;intro he hy
  split at he
  · rename_i s
    split at he
    · rename_i m hm
      obtain⟨kk,ek⟩:=Ua3 hm hz;obtain⟨hb,he⟩:=DT.run_guard_some he;obtain⟨g1,g2,g3⟩:=ob8 hb;have he:some (b9.v (.int .u8 (sAt s m)),H)=some (x,H'):=he;injection he with he;injection he with e1 e2;subst e1 e2
      have e0:=K5 hy;have hlt:m.toNat<s.size:=by omega
      have hget:s[m.toNat]?=some s[m.toNat]:=by
        simp[getElem?_def,hlt]
      refine .value (x':=.int .u8 (sAt s m)) (w':=w) ?_ (.stay hH (.ofv _));have hs:sAt s m=(s[m.toNat].toNat:Int):=by unfold sAt;rw[hget]
      simp[execOp,ho,Instr.index,ek,asIntOf,run_underlying hu,e0,g1,hget,hs]
    · cases he
  · cases he
theorem zd7{t:TypeId}{y:Operand}{c:Call}(ho:o.op=.call c)(hcb:c.callee=.builtin .len)(hca:c.args=#[y])(hct:c.argTypes=#[t])(hu:E.P.underlying t=some .string)
    (he:(evalOp E a H (.slen (g9 y))).run=some (x,H')):i6 E.P o ac w (C4 W ρ H F w x H'):=by
  have hy:=l5 hA hG y;simp only[evalOp] at he
  revert he hy
  generalize c9 E a (g9 y)=p;intro he hy
  split at he
  · rename_i s
    have he:some (b9.v (.int .i64 s.size),H)=some (x,H'):=he;injection he with he;injection he with e1 e2;subst e1 e2
    have e0:=K5 hy;refine .value (x':=.int .i64 s.size) (w':=w) ?_ (.stay hH (.ofv _));unfold execOp;simp[ho,hcb,hca,hct,resolve,invoke,builtin,e0,Builtin.len_,run_underlying hu,goInt]
  · cases he
theorem Sd9{t e:TypeId}{y:Operand}{c:Call}(ho:o.op=.call c)(hcb:c.callee=.builtin .len)(hca:c.args=#[y])(hct:c.argTypes=#[t])(hu:E.P.underlying t=some (.slice e))
    (he:(evalOp E a H (.len (g9 y))).run=some (x,H')):i6 E.P o ac w (C4 W ρ H F w x H'):=by
  have hy:=l5 hA hG y;simp only[evalOp] at he;obtain⟨z,h1,h2⟩:=Aa6 he;injection h2 with e1 e2;subst e1 e2
  have hrun:∀ {ad:Option Addr} {n cap:Nat},ac.eval y=.slice ad n cap→(execOp ac.eval o).run E.P w=.ok (.value (.int .i64 n)) w:=fun {ad n cap} e1=>by
    unfold execOp;simp[ho,hcb,hca,hct,resolve,invoke,builtin,e1,Builtin.len_,run_underlying hu,goInt]
  revert h1 hy
  generalize c9 E a (g9 y)=p;intro h1 hy;unfold if8 at h1
  split at h1
  · injection h1 with h1
    subst h1;obtain⟨ad,cap,b',e0,_⟩:=wa9 hy;exact .value (hrun e0) (.stay hH (.ofv _))
  · injection h1 with h1
    subst h1;have ht:=aa8 hy;generalize hv:ac.eval y=v at *
    cases ht with
    |tree _ _ _ ad cap cs hs hcap hes' hF hw hr=>exact .value (hrun rfl) (.stay hH (.ofv _))
    |nil=>exact .value (hrun rfl) (.stay hH (.ofv _))
  · injection h1 with h1
    subst h1;exact .value (hrun (K5 hy)) (.stay hH (.ofv _))
  · cases h1
omit hA hG in
theorem Lc4{t e:TypeId}{n:Nat}{y:Operand}{c:Call}(ho:o.op=.call c)(hcb:c.callee=.builtin .len)(hca:c.args=#[y])(hct:c.argTypes=#[t])(hu:E.P.underlying t=some (.array n e))
    (he:(evalOp E a H (.mv (.c (.v (.int .i64 n))))).run=some (x,H')):i6 E.P o ac w (C4 W ρ H F w x H'):=by
  have he':some (b9.v (.int .i64 n),H)=some (x,H'):=he;injection he' with he';injection he' with h1 h2;subst h1 h2;refine .value (x':=.int .i64 n) (w':=w) ?_ (.stay hH (.ofv _));unfold execOp;simp[ho,hcb,hca,hct,resolve,invoke,builtin,Builtin.len_,run_underlying hu,goInt]
omit hA hH hG in
theorem ld5{P:Program}{t e:TypeId}(hu:P.underlying t=some (.slice e))(ap aq:Option Addr)(n c m k:Nat)(h3:ap.isNone=true\/aq.isNone=true) :
    (Op.equal t (.slice ap n c) (.slice aq m k)).run P w=.ok (ap.isNone&&aq.isNone) w:=by
  have h:∀ d:Nat,(Op.equalIn (d+1) t (.slice ap n c) (.slice aq m k)).run P w=.ok (ap.isNone&&aq.isNone) w:=fun d=>by
    cases ap<;>cases aq<;>first | (simp at h3;done) | simp[Op.equalIn,run_underlying hu]
  exact h 9999
omit hA hH hG in
theorem Td0{P:Program}{t e:TypeId}(hu:P.underlying t=some (.pointer e))(ap aq:Option Addr)(h3:ap.isNone=true\/aq.isNone=true) :
    (Op.equal t (.pointer ap) (.pointer aq)).run P w=.ok (ap.isNone&&aq.isNone) w:=by
  have h:∀ d:Nat,(Op.equalIn (d+1) t (.pointer ap) (.pointer aq)).run P w=.ok (ap.isNone&&aq.isNone) w:=fun d=>by
    cases ap<;>cases aq<;>first | (simp at h3;done) | simp[Op.equalIn,run_underlying hu]
  exact h 9999
omit hA hH hG in
theorem xc4{P:Program}{t:TypeId}{ps rs:Array TypeId}{v:Bool}(hu:P.underlying t=some (.func ps rs v)) :
    (Op.equal t .nilFunc .nilFunc).run P w=.ok true w/\(∀f c,(Op.equal t .nilFunc (.func f #[] c)).run P w=.ok false w)/\∀f c,(Op.equal t (.func f #[] c) .nilFunc).run P w=.ok false w:=by
  have h1:∀d:Nat,(Op.equalIn (d+1) t .nilFunc .nilFunc).run P w=.ok true w:=λd=>by simp[Op.equalIn,run_underlying hu]
  have h2:∀(d:Nat) f c,(Op.equalIn (d+1) t .nilFunc (.func f #[] c)).run P w=.ok false w:=λd f c=>by simp[Op.equalIn,run_underlying hu]
  have h3:∀(d:Nat) f c,(Op.equalIn (d+1) t (.func f #[] c) .nilFunc).run P w=.ok false w:=λd f c=>by simp[Op.equalIn,run_underlying hu]
  exact⟨h1 9999,h2 9999,h3 9999⟩
omit hA hH hG in
theorem Ue9{t:TypeId}{p q:b9}{p' q':Value}{bp bq:Bool}(hp:v8 ρ H F w p p')(hq:v8 ρ H F w q q')(h1:Aa2 (ab6 E.P t) p=some bp)(h2:Aa2 (ab6 E.P t) q=some bq)(h3:bp=true\/bq=true) :
    (Op.equal t p' q').run E.P w=.ok (bp&&bq) w/\(∀op y z,(eqGuard op t y z p' q').run E.P w=.ok () w)/\(∀op,op=.eql\/op=.neq->binOp op t p' q'=if op=.eql then (do pure (.bool (<- Op.equal t p' q'))) else (do pure (.bool (!(<- Op.equal t p' q'))))):=by
  unfold ab6 at h1 h2;cases hu:E.P.underlying t with
  |none=>simp[hu,Aa2] at h1
  |some d =>
  cases d with
  | slice e =>
    simp only[hu] at h1 h2
    have form:∀ {r:b9} {r':Value} {b:Bool},v8 ρ H F w r r'→Aa2 0 r=some b→∃ ad n c,r'=.slice ad n c∧ad.isNone=b:=fun {r r' b} hr hb=>by
      unfold Aa2 at hb
      split at hb<;>first | cases hb | skip
      · exact⟨none,_,_,K5 hr,rfl⟩
      · exact⟨some _,_,_,K5 hr,rfl⟩
      · obtain⟨ad,cap,b',e0,_⟩:=wa9 hr;exact⟨some ad,_,_,e0,rfl⟩
      · split at hb
        · cases hb
        · injection hb with hb;subst hb
          have ht:=aa8 hr;cases ht with
          |tree _ _ _ ad cap cs hs hcap hes' hF hw hr=>exact⟨some ad,_,_,rfl,rfl⟩
      all_goals contradiction
    obtain⟨ap,np,cp,rfl,rfl⟩:=form hp h1;obtain⟨aq,nq,cq,rfl,rfl⟩:=form hq h2;refine⟨ld5 hu ap aq np cp nq cq h3,λop y z=>?_,λop hop=>?_⟩
    · cases op<;>simp[eqGuard]
    · rcases hop with rfl | rfl<;>rfl
  | pointer e =>
    simp only[hu] at h1 h2
    have form:∀ {r:b9} {r':Value} {b:Bool},v8 ρ H F w r r'→Aa2 1 r=some b→∃ ad,r'=.pointer ad∧ad.isNone=b:=fun {r r' b} hr hb=>by
      unfold Aa2 at hb
      split at hb<;>first | cases hb | skip
      all_goals first
        |contradiction
        |exact⟨none,K5 hr,rfl⟩
        |(obtain⟨ad,b',e0,_⟩:=la0 hr;exact⟨some ad,e0,rfl⟩)
        |(obtain⟨ad,vs,e0,_⟩:=Ua2 hr;exact⟨some ad,e0,rfl⟩)
    obtain⟨ap,rfl,rfl⟩:=form hp h1;obtain⟨aq,rfl,rfl⟩:=form hq h2;refine⟨Td0 hu ap aq h3,λop y z=>?_,λop hop=>?_⟩
    · cases op<;>simp[eqGuard]
    · rcases hop with rfl | rfl<;>rfl
  | func ps rs v =>
    simp only[hu] at h1 h2
    have form:∀ {r:b9} {r':Value} {b:Bool},v8 ρ H F w r r'→Aa2 2 r=some b→(r'=.nilFunc∧b=true)∨∃ f c,r'=.func f #[] c∧b=false:=fun {r r' b} hr hb=>by
      unfold Aa2 at hb
      split at hb<;>first | cases hb | skip
      all_goals first
        |contradiction
        |exact .inl ⟨K5 hr,rfl⟩
        | (split at hb
           · cases hb
           · rename_i hlt
             obtain⟨vs,e0,_⟩:=eb9 hr;injection hb with hb;exact .inr ⟨_,_,e0.trans (wb7 hlt vs),hb.symm⟩)
    rcases form hp h1 with⟨rfl,rfl⟩|⟨f1,c1,rfl,rfl⟩<;>rcases form hq h2 with⟨rfl,rfl⟩|⟨f2,c2,rfl,rfl⟩
    all_goals first
      |(simp at h3;done)
      | (refine ⟨?_, fun op y z => ?_, fun op hop => ?_⟩
         · first | exact (xc4 hu).1 | exact (xc4 hu).2.1 _ _ | exact (xc4 hu).2.2 _ _
         · cases op<;>simp[eqGuard]
         · rcases hop with rfl | rfl<;>rfl)
  |_=>simp[hu,Aa2] at h1
theorem Qc7{op:BinOp}{neg:Bool}{t u:TypeId}{y z:Operand}{ts:List Nat}(ho:o.op=.binOp op t y z u)(hop:(op=.eql/\neg=false)\/(op=.neq/\neg=true))(hts:Aa7 o.op.operands.toList=some ts)
    (he:(evalOp E a H (.eqn (ab6 E.P t) neg (g9 y) (g9 z) (kc9 o) ts)).run=some (x,H')):i6 E.P o ac w (C4 W ρ H F w x H'):=by
  have hy:=l5 hA hG y;have hz:=l5 hA hG z;simp only[evalOp] at he
  have hgen:(opt (Lc3 E a (kc9 o) ts) H).run=some (x,H')→i6 E.P o ac w (C4 W ρ H F w x H') :=
    Qc6 hA hH hG hts (λcs b e=>by rw[ho] at e;cases e)
  have hfin : ∀ {bp bq : Bool}, Aa2 (ab6 E.P t) (c9 E a (g9 y)) = some bp → Aa2 (ab6 E.P t) (c9 E a (g9 z)) = some bq → (bp = true ∨ bq = true) →
      (execOp ac.eval o).run E.P w=.ok (.value (.bool (match neg with | true=>!(bp&&bq) | false=>bp&&bq))) w:=λ{bp bq} h1 h2 h3=>by
    obtain⟨g1,g2,g3⟩:=Ue9 hy hz h1 h2 h3
    rcases hop with⟨rfl,rfl⟩|⟨rfl,rfl⟩
    · simp only[execOp,ho,Sem.run_bind,g2,Result.andThen_ok,g3 .eql (.inl rfl),if_pos,g1,Sem.run_pure]
    · have hne:¬ (BinOp.neq=BinOp.eql):=by decide
      simp only[execOp,ho,Sem.run_bind,g2,Result.andThen_ok,g3 .neq (.inr rfl),if_neg hne,g1,Sem.run_pure]
  obtain⟨hpos,he⟩:=DT.run_guard_some he;rw[Qbd] at hpos;unfold Ue0 at he
  split at he
  · rename_i b h1 h2
    have h1:=Fb4 hpos.1 h1;have h2:=Fb4 hpos.2 h2;obtain⟨q,e1,e2⟩:=Aa6 he;injection e1 with e1;injection e2 with e2 e3;subst e1 e2 e3
    refine .value (hfin h1 h2 (.inl rfl)) ?_;cases neg<;>exact .stay hH (.ofv _)
  · rename_i h1 h2
    have h1:=Fb4 hpos.1 h1;have h2:=Fb4 hpos.2 h2;obtain⟨q,e1,e2⟩:=Aa6 he;injection e1 with e1;injection e2 with e2 e3;subst e1 e2 e3
    refine .value (hfin h1 h2 (.inr rfl)) ?_;cases neg<;>exact .stay hH (.ofv _)
  · exact hgen he
end
end
section
variable{W:Nat->Prop}{ρ:Rho}{H H':List c7}{F:Fz}{w:World}{E:Env}{o:Oper}{a:List b9}{ac:Act}{x:b9}
theorem Id7(hH:r4 W ρ H F w){id off es:Nat}{b':c7}(hb:H[id]?=some b')(hd:b'.dead=false)(hown:b'.own=true)(hbes:b'.es=es){cc:Array Value}{tt:TypeId}(hB:pc3 W F w (ρ id) b' cc tt (0,0)){news:List (List b9)}{nv:List Value}
  (hl:nv.length=news.length*es) (hrow:∀(i:Nat) r,news[i]?=some r->r.length=es) (hcell:∀(i:Nat) r (c:Nat) u,news[i]?=some r->r[c]?=some u->∃u',nv[i*es+c]?=some u'/\J8 F w u u') (hfit:off+news.length<=b'.elems.length) :
  off*es+news.length*es<=cc.size /\
  Adv W ρ H F w ρ (H.set id { b' with elems:=b'.elems.take off++(news++b'.elems.drop (off+news.length)) }) F (w.setRow (ρ id).blk (cc.toList.take (off*es)++nv++cc.toList.drop (off*es+news.length*es)).toArray) /\
  r4 W ρ (H.set id { b' with elems:=b'.elems.take off++(news++b'.elems.drop (off+news.length)) }) F (w.setRow (ρ id).blk (cc.toList.take (off*es)++nv++cc.toList.drop (off*es+news.length*es)).toArray):=by
 obtain⟨hfr,hW,hoff0,hsize,hnF,htt⟩:=hB.own hown;have hlenB:=hB.len;generalize hm:news.length=m at *
 have hfc:off*es+m*es<=cc.size:=by
  have h8:(off+m)*es<=b'.elems.length*b'.es:=by rw[hbes];exact Qba _ hfit
  grind
 have hel2:(b'.elems.take off++(news++b'.elems.drop (off+m))).length=b'.elems.length:=by simp;omega
 have hget:∀(i:Nat) r,(b'.elems.take off++(news++b'.elems.drop (off+m)))[i]?=some r->(off<=i/\i<off+m/\news[i-off]?=some r)\/((i<off\/off+m<=i)/\b'.elems[i]?=some r):=λi r hr=>by
  rcases Qan i off with hi|hi
  ·rw[Qbg (by simp;omega),Qbe,if_pos hi] at hr
   exact .inr ⟨.inl hi,hr⟩
  ·rw[Qbf (by simp;omega)] at hr
   have e9:i-(b'.elems.take off).length=i-off:=by simp;omega
   rw[e9] at hr
   rcases Qan i (off+m) with hi2|hi2
   ·rw[Qbg (by omega)] at hr
    exact .inl ⟨hi,hi2,hr⟩
   ·rw[Qbf (by omega),Qbj] at hr
    have e10:off+m+(i-off-news.length)=i:=by omega
    rw[e10] at hr;exact .inr ⟨.inr hi2,hr⟩
 obtain⟨h6,h7⟩:=hH.rewrite id b' { b' with elems:=b'.elems.take off++(news++b'.elems.drop (off+m)) } hb hd hown cc tt hB
  (cc.toList.take (off*es)++nv++cc.toList.drop (off*es+m*es)).toArray
  (by simp;omega) rfl rfl hown hd (Qac _) (λ_=>by simp only;omega) (by simp only;rw[hel2];exact hlenB)
  (λi r hr=>by
   rcases hget i r hr with⟨h1,h2,h8⟩|⟨_,h8⟩
   ·rw[hbes];exact hrow _ r h8
   ·exact hB.rows i r h8)
  (λi r k u hr hu=>by
   have hsa:=Ob7 (l:=cc) (new:=nv) (c:=off*es) (k:=i*b'.es+k) (by rw[hl];exact hfc)
   rw[hl] at hsa;rw[hsa,hbes]
   rcases hget i r hr with⟨h1,h2,h8⟩|⟨h1,h8⟩
   ·have hk:k<es:=by rw[<- hrow _ r h8];exact (Qab.1 hu).1
    obtain⟨u',h9,h10⟩:=hcell _ r k u h8 hu;have e11:i*es=off*es+(i-off)*es:=by rw[<- Qbc];congr 1;omega
    have e12:(i-off)*es+k<m*es:=by
     have:=Qba es (show i-off+1<=m by omega)
     rw[Qbc,Qbl] at this;omega
    rw[if_pos (by omega)]
    refine⟨u',?_,h10⟩;rw[show i*es+k-off*es=(i-off)*es+k by omega]
    exact h9
   ·have hk:k<es:=by rw[<- hbes,<- hB.rows _ r h8];exact (Qab.1 hu).1
    obtain⟨u',h9,h10⟩:=hB.cell i r k u h8 hu;rw[hoff0,Qbh,hbes] at h9;have hnot:¬ (off*es<=i*es+k/\i*es+k<off*es+m*es):=by
     rcases h1 with h1|h1
     ·have:=Qba es (show i+1<=off from h1)
      rw[Qbc,Qbl] at this;omega
     ·have:=Qba es h1
      rw[Qbc] at this;omega
    rw[if_neg hnot];exact⟨u',h9,h10⟩)
 exact⟨hfc,h6,h7⟩
theorem pc4{P:Program}{t e:TypeId}{i:TypeInfo}(ty:TypeId)(ht:P.underlying t=some (.slice e))(hi:P.info? e=some i)(g n cap:Nat)(x':Value)(k:Nat)(cur:Array Value)(tt:TypeId)(nv:List Value)
  (hg:w.heap[g]?=some (.cells cur tt (0,0))) (hx:(x'=.slice none 0 0/\k=0)\/∃ad c,x'=.slice (some ad) k c/\∀j v,nv[j]?=some v->w.cell? (ad.add j)=some v) (hl:nv.length=k*i.size) (hcap:n+k<=cap) (hfit:n*i.size+k*i.size<=cur.size) (h1:∀v∈nv,v.oneCell'=true) :
  (Builtin.append_ #[t,t] ty #[.slice (some ⟨g,0,none⟩) n cap,x']).run P w=.ok (.slice (some ⟨g,0,none⟩) (n+k) cap) (w.setRow g (cur.toList.take (n*i.size)++nv++cur.toList.drop (n*i.size+k*i.size)).toArray):=by
 have hst:=run_storeCells_at (P:=P) g (n*i.size) tt nv 0 cur w hg (by rw[hl];simpa using hfit) h1
 simp only[Nat.add_zero,hl] at hst;have hadd:(⟨g,0,none⟩:Addr).add (n*i.size)=⟨g,n*i.size,none⟩:=by
  have:=I5 (ad:=⟨g,0,none⟩) rfl (n*i.size)
  simpa using this
 rcases hx with⟨rfl,rfl⟩|⟨ad,c,rfl,hc⟩
 ·have hn0:nv=[]:=Qbk (by simpa using hl)
  subst hn0;simp only[Nat.zero_mul,Nat.add_zero] at hst ⊢;simp[Builtin.append_,run_underlying ht,sizeOf,typeInfo,hi,Builtin.lenOf,Builtin.firstCells,show n<=cap by omega,hadd,hst]
 ·have hf:=run_firstCells_some (P:=P) (w:=w) i.size k ad k c nv hl hc;simp[Builtin.append_,run_underlying ht,sizeOf,typeInfo,hi,Builtin.lenOf,hcap,hf,hadd,hst]
section
variable(hA:da4 ρ H F w a ac.tmps)(hH:r4 W ρ H F w)(hG:GOk E F w)
include hA hH hG
theorem xc5{t e:TypeId}{y z:Operand}{c:Call}(ho:o.op=.call c)(hcb:c.callee=.builtin .append)(hca:c.args=#[y,z])(hct:c.argTypes=#[t,t])
  (hu:E.P.underlying t=some (.slice e)) {ei:TypeInfo} (hei:E.P.info? e=some ei) (hes:0<ei.size)
  (he:(evalOp E a H (.apre (szT E.P e) (g9 y) (g9 z))).run=some (x,H')):i6 E.P o ac w (C4 W ρ H F w x H'):=by
 have hy:=l5 hA hG y;have hzr:=l5 hA hG z;have hes':szT E.P e=ei.size:=by simp[szT,hei]
 rw[hes'] at he;simp only[evalOp,apreA] at he;cases hel:elemsOf ei.size H (c9 E a (g9 z)) with
 |none=>simp[hel] at he
 |some news =>
 simp only[hel] at he;obtain⟨nv,hN⟩:=xc1 hH hzr hel;have hrun:∀{r:Value} {w':World},(Builtin.append_ #[t,t] o.type #[ac.eval y,ac.eval z]).run E.P w=.ok r w'->(execOp ac.eval o).run E.P w=.ok (.value r) w':=λ{r w'} h=>by
  unfold execOp;simp[ho,hcb,hca,hct,resolve,invoke,builtin,h]
 revert he hy
 generalize c9 E a (g9 y)=p;intro hy he
 split at he
 ·have e0:=K5 hy;obtain⟨h0,he⟩:=DT.run_guard_some he;rw[l6] at h0;have h0:=Qae h0;have he:some (b9.v (.slice none 0 0),H)=some (x,H'):=he;injection he with he;injection he with e1 e2;subst e1 e2
  rcases hN.form with⟨hx,_⟩|⟨ad,cap,hx,_,_⟩
  ·exact .value (hrun (by rw[e0,hx];exact aa0 _ hu hei none none 0 0 0 (Qac _) w)) (.stay hH (.ofv _))
  ·exact .value (hrun (by rw[e0,hx,h0];exact aa0 _ hu hei none (some ad) 0 0 cap (Qac _) w)) (.stay hH (.ofv _))
 ·rename_i id off n g;cases hbk:blkAt H id g with
  |none=>simp[hbk] at he
  |some b =>
  obtain⟨hb,hd,hg⟩:=p5 hbk;simp only[hbk] at he
  split at he
  case h_2=>cases he
  rename_i hc4;simp only[Qbd] at hc4;obtain⟨⟨hown,hoff⟩,hbes⟩:=hc4;have hoff:=Qae hoff;have hbes:=Qae hbes;subst hoff;obtain⟨hle,he⟩:=DT.run_guard_some he;rw[l6,l6] at hle;have hle:=Qbb hle;have he:some (b9.sl id 0 (n+len news) g,setAt H id { b with elems:=app (A7 b.elems n) (app news (i9 b.elems (n+len news))) })=some (x,H'):=he
  injection he with he;injection he with e1 e2;subst e1 e2
  rw[r6,E0,E0,A8,v7,l6];obtain⟨ad,cap,b',e0,hb',hd',hg',hn,hspot,hcm0,hh⟩:=wa9 hy
  have:b'=b:=Qah (hb'.symm.trans hb)
  subst this;obtain⟨h3,h4,h5⟩:=hh hg;obtain⟨cc,tt,fr,hB⟩:=hH.blk id b' hb hd;obtain⟨hfr,hW,hoff0,hsize,hnF,htt⟩:=hB.own hown;subst hfr;obtain⟨hfc,h6,h7⟩:=Id7 hH (off:=n) hb hd hown hbes hB hN.len hN.rows hN.cell hle;have had:ad=⟨(ρ id).blk,0,none⟩:=by
   simp_all
  have hcap:n+news.length<=cap:=by
   have h8:=hB.len;rw[hbes] at h8;rw[Qbh,hbes] at h4;have h9:b'.elems.length*ei.size<=cap*ei.size:=by omega
   have:=Nat.le_of_mul_le_mul_right h9 hes
   omega
  have hxf:(ac.eval z=.slice none 0 0/\news.length=0)\/∃ad cap,ac.eval z=.slice (some ad) news.length cap/\∀j v,nv[j]?=some v->w.cell? (ad.add j)=some v:=by
   rcases hN.form with⟨h1,h2⟩|⟨ad,cap,h1,_,h2⟩
   ·exact .inl ⟨h1,by simp[h2]⟩
   ·exact .inr ⟨ad,cap,h1,h2⟩
  have hr:=pc4 (P:=E.P) (w:=w) (t:=t) o.type hu hei (ρ id).blk n cap (ac.eval z) news.length cc tt nv hB.obj hxf hN.len hcap hfc hN.one;have hid:id<H.length:=(Qab.1 hb).1;refine .value (hrun (by rw[e0,had];exact hr)) ⟨ρ,F,h6,h7,.val (.cell (.sl _ _ _ _ _ _ { b' with elems:=b'.elems.take n++(news++b'.elems.drop (n+news.length)) } (by simp[hid]) hd hg' hcap rfl hcm0 λ_=>⟨.inr ?_,h4,by simp;omega⟩))⟩
  rw[hoff0];simp
 ·cases he
theorem Qc8{t e:TypeId}{y:Operand}{z:List b9}{c:Call}(ho:o.op=.call c)(hcb:c.callee=.builtin .clear)(hca:c.args=#[y])(hct:c.argTypes=#[t])
  (hu:E.P.underlying t=some (.slice e)) (hz:zeT E.P e=some z) (hpos:0<szT E.P e)
  (he:(evalOp E a H (.clr (szT E.P e) z (g9 y))).run=some (x,H')):i6 E.P o ac w (C4 W ρ H F w x H'):=by
 have hy:=l5 hA hG y;obtain⟨ti,zv,hi,hzz,hzr,hone⟩:=Ua5 hz;have hes':szT E.P e=ti.size:=by simp[szT,hi]
 rw[hes'] at he hpos;simp only[evalOp] at he;have he:=jb7 he;have hrun:∀{r:Value} {w':World},(Builtin.clear_ #[t] o.type #[ac.eval y]).run E.P w=.ok r w'->(execOp ac.eval o).run E.P w=.ok (.value r) w':=λ{r w'} h=>by
  unfold execOp;simp[ho,hcb,hca,hct,resolve,invoke,builtin,h]
 revert he hy
 generalize c9 E a (g9 y)=p;intro hy he;unfold clrA at he
 split at he
 ·have e0:=K5 hy;have he:some (b9.v (.tuple #[]),H)=some (x,H'):=he;injection he with he;injection he with e1 e2;subst e1 e2
  exact .value (hrun (by rw[e0];simp[Builtin.clear_,run_underlying hu])) (.stay hH (.ofv _))
 ·rename_i id off n g;cases hbk:blkAt H id g with
  |none=>simp[hbk] at he
  |some b =>
  obtain⟨hb,hd,hg⟩:=p5 hbk;simp only[hbk] at he
  split at he
  case h_2=>cases he
  rename_i hc4;simp only[Qbd] at hc4;obtain⟨⟨hown,hbes⟩,hzl⟩:=hc4;have hbes:=Qae hbes;rw[l6] at hzl;have hzl:=Qae hzl;have he:some (b9.v (.tuple #[]),setAt H id { b with elems:=app (A7 b.elems off) (app (List.replicate n z) (i9 b.elems (off+n))) })=some (x,H'):=he
  injection he with he;injection he with e1 e2;subst e1 e2
  rw[r6,E0,E0,A8,v7];obtain⟨ad,cap,b',e0,hb',hd',hg',hn,hspot,hcm0,hh⟩:=wa9 hy
  have:b'=b:=Qah (hb'.symm.trans hb)
  subst this;obtain⟨h3,h4,h5⟩:=hh hg;obtain⟨cc,tt,fr,hB⟩:=hH.blk id b' hb hd;obtain⟨hfr,hW,hoff0,hsize,hnF,htt⟩:=hB.own hown;subst hfr;have hzs:zv.cells.size=ti.size:=by rw[hzr] at hzl;simpa using hzl
  have hzc:(Builtin.zeroCells zv.cells n).toList.length=n*ti.size:=by simp[Builtin.zeroCells,hzs]
  obtain⟨hfc,h6,h7⟩:=Id7 hH (off:=off) (news:=List.replicate n z) (nv:=(Builtin.zeroCells zv.cells n).toList) hb hd hown hbes hB (by rw[hzc,Qbt]) (λj r hr=>by rw[Qbac] at hr;split at hr<;>cases hr;exact hzl)
   (λj r k u hr hu=>by
    rw[Qbac] at hr
    split at hr
    case isFalse=>cases hr
    rename_i hj;injection hr with hr;subst hr;have hk:k<ti.size:=by rw[<- hzl];exact (Qab.1 hu).1
    rw[hzr,Qbm] at hu;have hkz:k<zv.cells.size:=by omega
    have hq:zv.cells.toList[k]?=some zv.cells[k]:=by simp[hkz]
    rw[hq] at hu;injection hu with hu;subst hu;refine⟨zv.cells[k],?_,.v _ (hone _ (by simp))⟩
    have hlt:j*ti.size+k<n*ti.size:=by
     have:=Qba ti.size (show j+1<=n from hj)
     rw[Qbc,Qbl] at this;omega
    have hm4:(j*ti.size+k) % ti.size=k:=by rw[Qbu,Nat.mul_add_mod,Qbaa hk]
    simp only[Builtin.zeroCells,hzs,Qbs];rw[Array.getElem?_map,Array.getElem?_range,if_pos hlt];simp[hm4,hkz])
   (by rw[Qbt];exact h5)
  simp only[Qbt] at hfc h6 h7
  rcases Qbq n with hn0|hn0
  ·subst hn0;have hset:H.set id { b' with elems:=b'.elems.take off++(List.replicate 0 z++b'.elems.drop (off+0)) }=H:=by
    have:({ b' with elems:=b'.elems.take off++(List.replicate 0 z++b'.elems.drop (off+0)) }:c7)=b':=by simp
    rw[this];apply List.ext_getElem?
    grind
   rw[hset];exact .value (hrun (by rw[e0];simp[Builtin.clear_,run_underlying hu])) (.stay hH (.ofv _))
  ·have had : ad = ⟨(ρ id).blk, off * ti.size, none⟩ := by
    grind
   have hst:=run_storeCells_at (P:=E.P) (ρ id).blk (off*ti.size) tt (Builtin.zeroCells zv.cells n).toList 0 cc w hB.obj (by rw[hzc];simpa using hfc) (λv hv=>by
    have hv':v∈Builtin.zeroCells zv.cells n:=by simpa using hv
    obtain⟨q,hq,rfl⟩:=Array.mem_iff_getElem.1 hv';have hq':q<n*ti.size:=by rw[<- hzc];simpa using hq
    simp only[Builtin.zeroCells,Array.getElem_map,Array.getElem_range];have hqm:q % zv.cells.size<zv.cells.size:=Nat.mod_lt _ (by omega)
    rw[getElem!_pos zv.cells _ hqm];exact hone _ (by simp))
   simp only[Nat.add_zero,hzc] at hst;obtain⟨n',rfl⟩:∃n',n=n'+1:=⟨n-1,by omega⟩
   refine .value (w':=w.setRow (ρ id).blk (cc.toList.take (off*ti.size)++(Builtin.zeroCells zv.cells (n'+1)).toList++cc.toList.drop (off*ti.size+(n'+1)*ti.size)).toArray) (hrun (r:=.tuple #[]) ?_) ⟨ρ,F,h6,h7,.ofv _⟩;rw[e0,had];simp[Builtin.clear_,run_underlying hu,zeroValue,typeInfo,hi,hzz,hst]
 ·cases he
end
end
def qa1(cs:Array Value)(p:Nat×CK):Prop:=match p.2 with
 |.int k=>∃n,cs[p.1]?=some (.int k n)
 |.bool=>∃b,cs[p.1]?=some (.bool b)
 |_=>False
def Na2(cs ds:Array Value)(p:Nat×CK):Bool:=match cs[p.1]?,ds[p.1]? with
 |some (.int _ a),some (.int _ b)=>a==b
 |some (.bool a),some (.bool b)=>a==b
 |_,_=>false
theorem uc9{P:Program}{t:TypeId}(h:∀fs,P.underlying t≠some (.struct fs))(h':∀n e,P.underlying t≠some (.array n e)):agT P t=false:=by
 unfold agT
 simp_all
section
variable{P:Program}{w:World}
theorem xc6{t:TypeId}{cs:Array Value}{off:Nat}{l:List (Nat×CK)}(hu:P.underlying t≠none)(hne:agT P t=false->l≠[]/\∀p∈l,p.1=0)
  (hl:∀p∈l,p.1<szT P t) (hok:∀p∈l,qa1 cs (off+p.1,p.2)) :
  ∃v,(part t cs off).run P w=.ok v w/\(agT P t=true->v=.agg v.cells)/\(agT P t=false->v.cells=#[v])/\∀p∈l,v.cells[p.1]?=cs[off+p.1]?:=by
 cases hd:P.underlying t with
 |none=>exact absurd hd hu
 |some d =>
 obtain⟨ti,hi1,hi2⟩:=Ka1 hd;cases hag:agT P t with
 |true =>
  refine⟨.agg (cs.extract off (off+szT P t)),by simp[part,Fa8 hag,sizeOf,typeInfo,hi1,hi2],λ_=>rfl,(λh=>by cases h),λp hp=>?_⟩
  have h1:=hl p hp;have h2:off+p.1<cs.size:=by
   have:=hok p hp
   unfold qa1 at this
   grind
  show (cs.extract off (off+szT P t))[p.1]?=_
  grind
 |false =>
  obtain⟨hne,h0⟩:=hne hag;obtain⟨p,l',rfl⟩:=List.exists_cons_of_ne_nil hne;have hp0:=h0 p (by simp)
  have hv:∃v,cs[off]?=some v/\v.cells=#[v]:=by
   have:=hok p (by simp)
   rw[hp0] at this;unfold qa1 at this
   split at this
   ·obtain⟨n,h⟩:=this;exact⟨_,h,rfl⟩
   ·obtain⟨n,h⟩:=this;exact⟨_,h,rfl⟩
   ·exact this.elim
  obtain⟨v,hv,hc⟩:=hv;refine⟨v,by simp[part,xa0 hag (by rw[hd];simp),hv],(λh=>by cases h),λ_=>hc,λq hq=>?_⟩
  grind
theorem ya5{off n:Nat}{x:Option (List (Nat×CK))}{l:List (Nat×CK)}(h:wb9 off n x=some l):∃l',x=some l'/\(∀p∈l',p.1<n)/\l=l'.map λp=>(off+p.1,p.2):=by
 unfold wb9 at h;cases x with
 |none=>cases h
 |some l' =>
  simp only at h
  split at h
  ·rename_i hall;injection h with h;refine⟨l',rfl,λp hp=>?_,h.symm⟩
   have h1:=List.all_eq_true.1 hall p hp
   simp_all
  ·cases h
theorem Td1{v v':Value}{cs ds:Array Value}{off:Nat}{l:List (Nat×CK)}(h:∀p∈l,v.cells[p.1]?=cs[off+p.1]?)(h':∀p∈l,v'.cells[p.1]?=ds[off+p.1]?) :
  l.all (Na2 v.cells v'.cells)=(l.map λp=>(off+p.1,p.2)).all (Na2 cs ds):=by
 induction l with
 |nil=>rfl
 |cons p l ih =>
  rw[Qbw,List.all_cons,List.all_cons,ih (λq hq=>h q (by simp[hq])) (λq hq=>h' q (by simp[hq]))]
  congr 1;unfold Na2
  simp_all
structure xe0(P:Program)(w:World)(d:Nat)(t:TypeId)(l:List (Nat×CK)):Prop where
 und:P.underlying t≠none
 one:agT P t=false->l≠[]/\∀p∈l,p.1=0
 eq:∀v v':Value,(agT P t=true->v=.agg v.cells)->(agT P t=true->v'=.agg v'.cells)->(agT P t=false->v.cells=#[v])->(agT P t=false->v'.cells=#[v'])->(∀p∈l,qa1 v.cells p)->(∀p∈l,qa1 v'.cells p)->(Op.equalIn d t v v').run P w=.ok (l.all (Na2 v.cells v'.cells)) w
theorem xe0.step {d : Nat} {t : TypeId} {l : List (Nat × CK)} (h : xe0 P w d t l) {xs ys : Array Value} {off : Nat} (hl : ∀ p ∈ l, p.1 < szT P t) (hx : ∀ p ∈ l.map fun p => (off + p.1, p.2), qa1 xs p) (hy : ∀ p ∈ l.map fun p => (off + p.1, p.2), qa1 ys p) :
  ∃a b,(part t xs off).run P w=.ok a w/\(part t ys off).run P w=.ok b w/\(Op.equalIn d t a b).run P w=.ok ((l.map λp=>(off+p.1,p.2)).all (Na2 xs ys)) w:=by
 have hx':∀p∈l,qa1 xs (off+p.1,p.2):=λp hp=>hx _ (Qbz.2 ⟨p,hp,rfl⟩)
 have hy':∀p∈l,qa1 ys (off+p.1,p.2):=λp hp=>hy _ (Qbz.2 ⟨p,hp,rfl⟩)
 obtain⟨a,a1,a2,a4,a3⟩:=xc6 (w:=w) h.und h.one hl hx';obtain⟨b,b1,b2,b4,b3⟩:=xc6 (w:=w) h.und h.one hl hy';refine⟨a,b,a1,b1,?_⟩;rw[<- Td1 a3 b3];refine h.eq a b a2 b2 a4 b4 (λp hp=>?_) (λp hp=>?_)
 ·have:=hx' p hp;unfold qa1 at this ⊢;rw[a3 p hp];exact this
 ·have:=hy' p hp;unfold qa1 at this ⊢;rw[b3 p hp];exact this
theorem ab9:∀(d:Nat) (t:TypeId) (l:List (Nat×CK)),O5 P d t=some l->xe0 P w d t l
 |0,_,_,h=>by cases h
 |d+1,t,l,h=>by
  unfold O5 at h;cases hu:P.underlying t with
  |none=>simp[hu] at h
  |some u =>
  cases u with
  |int k =>
   simp only[hu] at h;injection h with h;subst h
   have hag:agT P t=false:=uc9 (by simp[hu]) (by simp[hu])
   refine⟨by simp[hu],λ_=>⟨by simp,by simp⟩,λv v' _ _ k1 k2 h1 h2=>?_⟩
   obtain⟨n,e1⟩:=h1 (0,.int k) (by simp)
   obtain⟨m,e2⟩:=h2 (0,.int k) (by simp)
   rw[k1 hag] at e1;rw[k2 hag] at e2;have e1':v=.int k n:=by simpa using e1
   have e2':v'=.int k m:=by simpa using e2
   subst e1' e2';rw[run_equalIn_int w d t k k n m hu];simp[Na2,Value.cells]
  |bool =>
   simp only[hu] at h;injection h with h;subst h
   have hag:agT P t=false:=uc9 (by simp[hu]) (by simp[hu])
   refine⟨by simp[hu],λ_=>⟨by simp,by simp⟩,λv v' _ _ k1 k2 h1 h2=>?_⟩
   obtain⟨n,e1⟩:=h1 (0,.bool) (by simp)
   obtain⟨m,e2⟩:=h2 (0,.bool) (by simp)
   rw[k1 hag] at e1;rw[k2 hag] at e2;have e1':v=.bool n:=by simpa using e1
   have e2':v'=.bool m:=by simpa using e2
   subst e1' e2';rw[run_equalIn_bool w d t n m hu];simp[Na2,Value.cells]
  |struct fs =>
   simp only[hu] at h
   split at h
   ·cases h
   rename_i hp;refine⟨by simp[hu],λhag=>by simp[agT,hu] at hag,λv v' h1 h2 _ _ h3 h4=>?_⟩
   have hag:agT P t=true:=by simp[agT,hu]
   rw[h1 hag,h2 hag];generalize v.cells=xs at *
   generalize v'.cells=ys at *
   have hfo:P.fieldsOf t=fs:=by simp[Program.fieldsOf,hu]
   rw[run_equalIn_struct w d t xs ys (by rw[hfo];exact hu) (by simpa using hp),hfo]
   show _=Result.ok (l.all (Na2 xs ys)) w
   clear hfo hu h1 h2 hag
   generalize fs.toList=fl at *
   induction fl generalizing l with
   |nil =>
    simp only[List.map_nil,ca0] at h;injection h with h;subst h
    simp[Op.eqFields]
   |cons f fl ih =>
    simp only[Qbw,ca0] at h
    split at h
    ·rename_i l1 l2 e1 e2;injection h with h;subst h
     split at e1
     ·cases e1
     rename_i hnm;obtain⟨l',g1,g2,g3⟩:=ya5 e1;subst g3;obtain⟨a,b,p1,p2,p3⟩:=(ab9 d f.type l' g1).step (w:=w) g2 (λp hp=>h3 p (Qbn _ hp)) (λp hp=>h4 p (Qbn _ hp))
     rw[List.all_append];simp only[Op.eqFields];rw[if_pos hnm];simp only[Sem.run_bind,p1,p2,p3,Result.andThen_ok];cases hb:((l'.map λp=>(f.offset+p.1,p.2)).all (Na2 xs ys)) with
     |false=>simp
     |true =>
      grind
    ·cases h
  |array n e =>
   simp only[hu] at h
   split at h
   case isFalse=>cases h
   rename_i hi;obtain⟨ti,hi⟩:=Qbi.1 hi;refine⟨by simp[hu],λhag=>by simp[agT,hu] at hag,λv v' h1 h2 _ _ h3 h4=>?_⟩
   have hag:agT P t=true:=by simp[agT,hu]
   rw[h1 hag,h2 hag];generalize v.cells=xs at *
   generalize v'.cells=ys at *
   have hsz:P.cellsOf e=szT P e:=by simp[Program.cellsOf,szT,hi]
   rw[run_equalIn_array w d xs ys hu hi,hsz];show _=Result.ok (l.all (Na2 xs ys)) w
   clear hu h1 h2 hag
   generalize List.range n=fl at *
   induction fl generalizing l with
   |nil =>
    simp only[List.map_nil,ca0] at h;injection h with h;subst h
    simp[Op.eqItems]
   |cons f fl ih =>
    simp only[Qbw,ca0] at h
    split at h
    ·rename_i l1 l2 e1 e2;injection h with h;subst h
     obtain⟨l',g1,g2,g3⟩:=ya5 e1;subst g3;obtain⟨a,b,p1,p2,p3⟩:=(ab9 d e l' g1).step (w:=w) g2 (λp hp=>h3 p (Qbn _ hp)) (λp hp=>h4 p (Qbn _ hp))
     rw[List.all_append];simp only[Op.eqItems];simp only[Sem.run_bind,p1,p2,p3,Result.andThen_ok];cases hb:((l'.map λp=>(f*szT P e+p.1,p.2)).all (Na2 xs ys)) with
     |false=>simp
     |true =>
      grind
    ·cases h
  |_=>simp[hu] at h
end
section
variable{W:Nat->Prop}{ρ:Rho}{H H':List c7}{F:Fz}{w:World}{E:Env}{o:Oper}{a:List b9}{ac:Act}{x:b9}
theorem Tb2(cs:List b9)(n:Nat):hdA (i9 cs n)=(cs[n]?).getD .unk:=by
 rw[v7]
 induction cs generalizing n with
 |nil=>cases n<;>rfl
 |cons c r ih =>
  cases n with
  |zero=>rfl
  |succ n=>simpa using ih n
theorem xb1{cs:List b9}{vs:Array Value}(hl:cs.length=vs.size)(hr:∀(i:Nat) x x',cs[i]?=some x->vs[i]?=some x'->J9 ρ H F w x x'){k:CK}{n:Nat}(hk:(∃i,k=.int i)\/k=.bool)(h:Ib5 k (hdA (i9 cs n))=true) :
  qa1 vs (n,k)/\∃v,vs[n]?=some v/\hdA (i9 cs n)=.v v:=by
 rw[Tb2] at h ⊢
 rcases Qan n cs.length with hlt|hge
 ·rw[Qaa hlt] at h ⊢;simp only[Option.getD_some] at h ⊢;have hlt':n<vs.size:=hl ▸ hlt;have hc:=hr n _ _ (Qaa hlt) (Qai hlt');generalize cs[n]=y at *
  have hy:∃v,y=.v v/\((∃i m,k=.int i/\v=.int i m)\/(k=.bool/\∃m,v=.bool m)):=by
   rcases hk with⟨i,rfl⟩|rfl
   ·cases y with
    |v u =>
     cases u with
     |int k' m =>
      have:i=k':=by simpa [Ib5] using h
      simp_all
     |_=>cases h
    |_=>cases h
   ·cases y with
    |v u =>
     cases u with
     |bool m=>exact⟨_,rfl,.inr ⟨rfl,_,rfl⟩⟩
     |_=>cases h
    |_=>cases h
  obtain⟨v,rfl,hv⟩:=hy
  have:=K5 (.val (.cell hc))
  refine⟨?_,v,by rw[Qai hlt',this],rfl⟩
  rcases hv with⟨i,m,rfl,rfl⟩|⟨rfl,m,rfl⟩
  ·exact⟨m,by rw[Qai hlt',this]⟩
  ·exact⟨m,by rw[Qai hlt',this]⟩
 ·rw[Qal hge] at h
  rcases hk with⟨i,rfl⟩|rfl<;>cases h
theorem Ua6{P:Program}:∀(d:Nat) (t:TypeId) (l:List (Nat×CK)),O5 P d t=some l->∀p∈l,(∃i,p.2=.int i)\/p.2=.bool
 |0,_,_,h=>by cases h
 |d+1,t,l,h=>by
  have hs:∀{off n:Nat} {e:TypeId} {l:List (Nat×CK)},wb9 off n (O5 P d e)=some l->∀p∈l,(∃i,p.2=.int i)\/p.2=.bool:=λ{off n e l} h p hp=>by
   obtain⟨l',g1,_,rfl⟩:=ya5 h;obtain⟨q,hq,rfl⟩:=Qbz.1 hp;exact Ua6 d e l' g1 q hq
  have hc:∀(xs:List (Option (List (Nat×CK)))) (l:List (Nat×CK)),(∀x∈xs,∀l,x=some l->∀p∈l,(∃i,p.2=.int i)\/p.2=.bool)->ca0 xs=some l->∀p∈l,(∃i,p.2=.int i)\/p.2=.bool:=λxs=>by
   induction xs with
   |nil=>intro l _ h;simp only[ca0] at h;injection h with h;subst h;simp
   |cons x xs ih =>
    intro l hx h;simp only[ca0] at h;cases x with
    |none=>cases h
    |some l1 =>
    cases e2:ca0 xs with
    |none=>simp[e2] at h
    |some l2 =>
    simp only[e2] at h;injection h with h;subst h
    intro p hp
    rcases List.mem_append.1 hp with hp|hp
    ·exact hx (some l1) (by simp) _ rfl p hp
    ·exact ih l2 (λx hx'=>hx x (by simp[hx'])) e2 p hp
  unfold O5 at h
  grind
theorem xb2{α:Type}{f g:α->Option (List (Nat×CK))}(h:∀x l,f x=some l->g x=some l):∀(xs:List α) (l:List (Nat×CK)),ca0 (xs.map f)=some l->ca0 (xs.map g)=some l
 |[],_,e=>e
 |x::xs,l,e=>by
  simp only[Qbw,ca0] at e ⊢;cases h1:f x with
  |none=>simp[h1] at e
  |some l1 =>
  cases h2:ca0 (xs.map f) with
  |none=>simp[h1,h2] at e
  |some l2 =>
  rw[h x l1 h1,xb2 h xs l2 h2];simpa [h1,h2] using e
theorem lc0{off n:Nat}{x y:Option (List (Nat×CK))}(h:∀l,x=some l->y=some l){l:List (Nat×CK)}(e:wb9 off n x=some l):wb9 off n y=some l:=by
 cases hx:x with
 |none=>rw[hx] at e;cases e
 |some l'=>rw[h l' hx,<- hx];exact e
theorem xc7{P:Program}:∀(d:Nat) (t:TypeId) (l:List (Nat×CK)),O5 P d t=some l->O5 P (d+1) t=some l
 |0,_,_,h=>by cases h
 |d+1,t,l,h=>by
  have ih:=xc7 (P:=P) d;unfold O5 at h ⊢
  split at h
  ·exact h
  ·exact h
  ·split at h
   ·cases h
   ·rename_i h1;rw[if_neg h1];refine xb2 (λf l e=>?_) _ _ h
    split at e
    ·cases e
    ·rename_i h2;rw[if_neg h2];exact lc0 (ih _) e
  ·split at h
   ·rename_i h1;rw[if_pos h1];exact xb2 (λf l e=>lc0 (ih _) e) _ _ h
   ·cases h
  ·cases h
theorem Ob9{P:Program}{d:Nat}{t:TypeId}{l:List (Nat×CK)}(h:O5 P d t=some l):∀k,O5 P (d+k) t=some l
 |0=>h
 |k+1=>xc7 _ _ _ (Ob9 h k)
theorem xc8{fl:List (Nat×CK)}{cs:List b9}(h:yd0 fl cs=true):∀p∈fl,Ib5 p.2 (hdA (i9 cs p.1))=true:=by
 induction fl with
 |nil=>simp
 |cons p fl ih =>
  have h':Bool.and (Ib5 p.2 (hdA (i9 cs p.1))) (yd0 fl cs)=true:=h
  simp_all
section
variable(hA:da4 ρ H F w a ac.tmps)(hH:r4 W ρ H F w)(hG:GOk E F w)
include hA hH hG
theorem Qc9{op:BinOp}{neg:Bool}{t u:TypeId}{y z:Operand}{fl:List (Nat×CK)}(ho:o.op=.binOp op t y z u)(hop:(op=.eql/\neg=false)\/(op=.neq/\neg=true))(hag:agT E.P t=true)(hf:O5 E.P 9 t=some fl)(hgt:E.P.eqGuardType E.P.depth t=false)
  (he:(evalOp E a H (.eqc neg fl (g9 y) (g9 z))).run=some (x,H')):i6 E.P o ac w (C4 W ρ H F w x H'):=by
 have hy:=l5 hA hG y;have hz:=l5 hA hG z;simp only[evalOp] at he
 revert he hy hz
 generalize c9 E a (g9 y)=p;generalize c9 E a (g9 z)=q;intro he hy hz
 split at he
 case h_2=>cases he
 rename_i cs ds;have hh:=DT.run_guard_some he
 clear he
 obtain⟨hg,he⟩:=hh;simp only[Qbd] at hg;have he':some (b9.v (.bool (Le8 neg (Ib6 fl cs ds))),H)=some (x,H'):=he;injection he' with he';injection he' with e1 e2;subst e1 e2
 obtain⟨vs,ey,hl,hr⟩:=ga4 hy;obtain⟨us,ez,hl',hr'⟩:=ga4 hz;have hk:=Ua6 9 t fl hf;have h1:=xc8 hg.1;have h2:=xc8 hg.2;have k1:∀p∈fl,qa1 vs p:=λp hp=>(xb1 hl hr (hk p hp) (h1 p hp)).1
 have k2:∀p∈fl,qa1 us p:=λp hp=>(xb1 hl' hr' (hk p hp) (h2 p hp)).1
 have hF':=(ab9 (w:=w) (9+9991) t fl (Ob9 hf 9991)).eq (.agg vs) (.agg us) (λ_=>rfl) (λ_=>rfl) (λh=>by rw[hag] at h;cases h) (λh=>by rw[hag] at h;cases h) k1 k2
 have heq:fl.all (Na2 vs us)=Ib6 fl cs ds:=by
  clear hF' hg hf he
  induction fl with
  |nil=>rfl
  |cons p fl ih =>
   have e:Ib6 (p::fl) cs ds=(Ue1 p.2 (hdA (i9 cs p.1)) (hdA (i9 ds p.1))&&Ib6 fl cs ds):=rfl;rw[List.all_cons,ih (λq hq=>hk q (by simp[hq])) (λq hq=>h1 q (by simp[hq])) (λq hq=>h2 q (by simp[hq])) (λq hq=>k1 q (by simp[hq])) (λq hq=>k2 q (by simp[hq])),e]
   congr 1;obtain⟨g1,v,g2,g3⟩:=xb1 hl hr (hk p (by simp)) (h1 p (by simp))
   obtain⟨g4,v',g5,g6⟩:=xb1 hl' hr' (hk p (by simp)) (h2 p (by simp))
   obtain⟨n,kk⟩:=p
   simp only at *
   rw[g3,g6];unfold Na2;rw[g2,g5]
   rcases hk (n,kk) (by simp) with⟨i,hi⟩|hi
   ·simp only at hi;subst hi
    obtain⟨m,hm⟩:=g1;obtain⟨m',hm'⟩:=g4;simp only[g2,g5,Option.some.injEq] at hm hm';subst hm hm';rfl
   ·simp only at hi;subst hi
    obtain⟨m,hm⟩:=g1;obtain⟨m',hm'⟩:=g4;simp only[g2,g5,Option.some.injEq] at hm hm';subst hm hm';rfl
 rw[<- heq];have hF':(Op.equalIn 10000 t (.agg vs) (.agg us)).run E.P w=.ok (fl.all (Na2 vs us)) w:=hF'
 rcases hop with⟨rfl,rfl⟩|⟨rfl,rfl⟩
 ·refine .value (x':=.bool (fl.all (Na2 vs us))) (w':=w) ?_ (.stay hH (.ofv _));simp only[execOp,ho,ey,ez,Sem.run_bind,run_eqGuard_agg w .eql t y z vs us hgt,Result.andThen_ok,run_eql_struct,hF',Sem.run_pure]
 ·refine .value (x':=.bool (!(fl.all (Na2 vs us)))) (w':=w) ?_ (.stay hH (.ofv _));simp only[execOp,ho,ey,ez,Sem.run_bind,run_eqGuard_agg w .neq t y z vs us hgt,Result.andThen_ok,run_neq_struct,hF',Sem.run_pure]
end
end
def Ua7(P:Program)(f:FuncId):Prop:=∃fn,P.funcs[f]?=some fn/\fn.body.isSome=true/\fn.name ≠ "runtime.NumGoroutine"
def e8(P:Program)(G:Nat->List Value)(f:FuncId)(S:List b9->List c7->DT (b9×List c7)):Prop :=
 ∀(args:List b9) (blks:List c7) (r:b9) (out:List c7),(S args blks).run=some (r,out) ->
  ∀(W:Nat->Prop) (ρ:Rho) (F:Fz) (w:World) (args':List Value),r4 W ρ blks F w->args.length=args'.length->(∀(i:Nat) x x',args[i]?=some x->args'[i]?=some x'->v8 ρ blks F w x x') ->
   (∀g (c:Nat) x,(G g)[c]?=some x->x.oneCell'=true/\F g c/\w.cell? ⟨g,c,none⟩=some x) ->
   Ua7 P f/\Calls P f args'.toArray w λe w'=>∃r',e=.returned r'/\C4 W ρ blks F w r out r' w'
section
variable{W:Nat->Prop}{ρ ρ1:Rho}{H H2 blks out:List c7}{F F1:Fz}{w w1:World}
def Td2(ρ:Rho)(H:List c7)(lent:Nat->Prop):Fz:=λb o=>∃id bb,lent id/\H[id]?=some bb/\bb.own=true/\b=(ρ id).blk/\(ρ id).off<=o/\o<(ρ id).off+bb.elems.length*bb.es
def Rc0(ρ:Rho)(H:List c7)(F:Fz)(lent:Nat->Prop):Fz:=λb o=>F b o\/Td2 ρ H lent b o
def Tb3(W:Nat->Prop)(ρ:Rho)(H:List c7)(w:World)(pos:Nat->Option Nat):Nat->Prop :=
 λk=>W k/\(w.heap.size<=k\/∃id b j,pos id=some j/\H[id]?=some b/\b.own=true/\(ρ id).blk=k)
def Kb4(ρ:Rho)(H:List c7)(F F1:Fz)(lent:Nat->Prop)(held:Prop):Fz:=λb o=>F1 b o/\(held\/¬ Td2 ρ H lent b o\/F b o)
def ca7(ρ ρ1:Rho)(n k:Nat)(pos:Nat->Option Nat):Rho:=λid=>match pos id with
 |some j=>ρ1 j
 |none=>if id<n then ρ id else ρ1 (k+(id-n))
structure ld6(H:List c7)(blks out H2:List c7)(pos:Nat->Option Nat)(lent:Nat->Prop)(held:Prop):Prop where
 posLt:∀id j,pos id=some j->id<H.length/\j<blks.length
 posInj:∀id id' j,pos id=some j->pos id'=some j->id=id'
 posAll:∀j,j<blks.length->∃id,pos id=some j
 blkOk:∀(id j:Nat) b,pos id=some j->H[id]?=some b->blks[j]?=some { b with g:=0 }/\b.dead=false
 lentOk:∀id,lent id->pos id=none/\∃b,H[id]?=some b/\b.dead=false
 outLen:blks.length<=out.length
 old:∀(id:Nat) b2,id<H.length->pos id=none->H2[id]?=some b2->∃b,H[id]?=some b/\b2={ b with own:=b2.own }/\(b2.own=b.own\/(held/\lent id/\b2.own=false))
 oldDis:∀(id:Nat) b2,held->lent id->H2[id]?=some b2->b2.own=false
 root:∀(id j:Nat) b2,pos id=some j->H2[id]?=some b2->∃b c,H[id]?=some b/\out[j]?=some c/\b2={ c with g:=b.g+c.g }
 new:∀(id:Nat) b2,H.length<=id->H2[id]?=some b2->out[blks.length+(id-H.length)]?=some b2
 len:H2.length=H.length+(out.length-blks.length)
theorem ld6.start{pos:Nat->Option Nat}{lent:Nat->Prop}{held:Prop}(hS:ld6 H blks out H2 pos lent held)(hH:r4 W ρ H F w)(inv:Nat->Nat)(hinv:∀j,j<blks.length->pos (inv j)=some j) :
  r4 (Tb3 W ρ H w pos) (λj=>ρ (inv j)) blks (Rc0 ρ H F lent) w:=by
 have hsub:∀(j:Nat) c,blks[j]?=some c->∃b,H[inv j]?=some b/\c={ b with g:=0 }/\b.dead=false:=λj c hc=>by
  have hj:=(Qab.1 hc).1;have hp:=hinv j hj;have hlt:=(hS.posLt _ _ hp).1;obtain⟨h1,h2⟩:=hS.blkOk _ j _ hp (Qaa hlt);exact⟨H[inv j],Qaa hlt,Qah (hc.symm.trans h1),h2⟩
 have hL:∀(id:Nat) b,(∃j,pos id=some j)->H[id]?=some b->b.dead=false->b.own=true->∀o,¬ Td2 ρ H lent (ρ id).blk o:=λid b hj hb hd ho o hl=>by
  obtain⟨id',bb,hl1,hb',ho',he,_⟩:=hl;obtain⟨hn,b2,hb2,hd2⟩:=hS.lentOk id' hl1
  have:b2=bb:=Qah (hb2.symm.trans hb')
  subst this;have hne:id≠id':=λe=>by subst e;obtain⟨j,hj⟩:=hj;rw[hn] at hj;cases hj
  exact hH.apart id id' b b2 hb hb' hd hd2 ho hne he
 refine⟨λj c hc _=>?_,λj j' c c' hc hc' _ _ ho hne=>?_,λb o hf=>?_,λk hk=>⟨hH.new k hk,.inl hk⟩⟩
 ·obtain⟨b,hb,rfl,hd⟩:=hsub j c hc;have hp:=hinv j (Qab.1 hc).1;obtain⟨cc,t,fr,hB⟩:=hH.blk _ b hb hd;refine⟨cc,t,fr,hB.obj,hB.room,hB.len,hB.rows,λi r k x hr hx=>?_,λho=>?_,λho o hlt=>.inl (hB.kept ho o hlt)⟩
  ·obtain⟨x',h1,h2⟩:=hB.cell i r k x hr hx;exact⟨x',h1,h2.adv (λ_ _ h=>.inl h) (λ_ _ _=>rfl)⟩
  ·obtain⟨h1,h2,h3,h4,h5,h6⟩:=hB.own ho;refine⟨h1,⟨h2,.inr ⟨inv j,b,j,hp,hb,ho,rfl⟩⟩,h3,h4,λo hf=>?_,h6⟩
   rcases hf with hf|hf
   ·exact h5 o hf
   simp_all
 ·obtain⟨b,hb,rfl,hd⟩:=hsub j c hc;obtain⟨b',hb',rfl,hd'⟩:=hsub j' c' hc';refine hH.apart _ _ b b' hb hb' hd hd' ho λe=>hne ?_
  grind
 ·rcases hf with hf|⟨id,bb,hl,hb,ho,rfl,h1,h2⟩
  ·exact hH.frz b o hf
  ·obtain⟨hn,b2,hb2,hd2⟩:=hS.lentOk id hl
   have:b2=bb:=Qah (hb2.symm.trans hb)
   subst this;obtain⟨cc,t,fr,hB⟩:=hH.blk id b2 hb hd2;rw[hB.cellAt]
   have:o<cc.size:=by have:=hB.room;have:=hB.len;omega
   simp[this]
theorem ld7{x:b9}(h:sb7 x=true)(hx:Xc7 x=false):ra7 x=false:=by
 cases x with
 |fn=>cases h
 |tree=>cases hx
 |tptr=>cases hx
 |_=>rfl
theorem J8.bare{x:b9}{x':Value}{F':Fz}{w':World}(h:J8 F w x x')(hx:ra7 x=false):J8 F' w' x x':=by
 induction h with
 |v _ h1=>exact .v _ h1
 |fn f caps vs x' e hl hb h ih =>
  refine .fn f caps vs x' e hl hb λi hi hi'=>ih i hi hi' ?_
  have hx':caps.any Xc7=false:=hx;rw[List.any_eq_false] at hx';exact ld7 (xb0 hb _ (Qby hi)) (by simpa using hx' _ (Qby hi))
 |tree=>cases hx
 |nil=>cases hx
 |tptr=>cases hx
theorem ld6.join{pos:Nat->Option Nat}{lent:Nat->Prop}{held:Prop}(hS:ld6 H blks out H2 pos lent held)(hH:r4 W ρ H F w)(inv:Nat->Nat)(hinv:∀j,j<blks.length->pos (inv j)=some j)
  (hA:Adv (Tb3 W ρ H w pos) (λj=>ρ (inv j)) blks (Rc0 ρ H F lent) w ρ1 out F1 w1) (h1:r4 (Tb3 W ρ H w pos) ρ1 out F1 w1)
  (hbare:held\/∀(i:Nat) c (j:Nat) r (k:Nat) x,out[i]?=some c->c.elems[j]?=some r->r[k]?=some x->ra7 x=false) :
  Adv W ρ H F w (ca7 ρ ρ1 H.length blks.length pos) H2 (Kb4 ρ H F F1 lent held) w1/\r4 W (ca7 ρ ρ1 H.length blks.length pos) H2 (Kb4 ρ H F F1 lent held) w1:=by
 have hFF1:∀b o,F b o->F1 b o:=λb o h=>hA.more b o (.inl h)
 have hmore:∀b o,F b o->Kb4 ρ H F F1 lent held b o:=λb o h=>⟨hFF1 b o h,.inr (.inr h)⟩
 have hcells:∀b o,F b o->w1.cell? ⟨b,o,none⟩=w.cell? ⟨b,o,none⟩:=λb o h=>hA.ext.cells b o (.inl h)
 -- the ids
 have hρroot:∀id j,pos id=some j->ca7 ρ ρ1 H.length blks.length pos id=ρ1 j:=λid j h=>by simp[ca7,h]
 have hρold:∀id,id<H.length->pos id=none->ca7 ρ ρ1 H.length blks.length pos id=ρ id:=λid hid h=>by simp[ca7,h,hid]
 have hposnew:∀id,H.length<=id->pos id=none:=λid hid=>by
  cases h:pos id with
  |none=>rfl
  |some j=>have:=(hS.posLt id j h).1;omega
 have hρnew:∀id,H.length<=id->ca7 ρ ρ1 H.length blks.length pos id=ρ1 (blks.length+(id-H.length)):=λid hid=>by
  have:¬ id<H.length:=by omega
  simp[ca7,hposnew id hid,this]
 have hposinv:∀id j,pos id=some j->inv j=id:=λid j h=>hS.posInj _ _ j (hinv j (hS.posLt id j h).2) h
 -- a block of the caller's own,not handed over,is no block of the callee's
 have hnotW:∀(id:Nat) b,H[id]?=some b->b.dead=false->b.own=true->pos id=none->¬ Tb3 W ρ H w pos (ρ id).blk:=λid b hb hd ho hp hw=>by
  obtain⟨cc,t,fr,hB⟩:=hH.blk id b hb hd
  rcases hw.2 with hge|⟨id',b',j,hp',hb',ho',he⟩
  ·have:=hB.lt;omega
  ·have hne:id≠id':=λe=>by subst e;rw[hp] at hp';cases hp'
   exact hH.apart id id' b b' hb hb' hd (hS.blkOk id' j b' hp' hb').2 ho hne he.symm
 have hblkOld:∀(id:Nat) b,H[id]?=some b->b.dead=false->pos id=none->¬ Tb3 W ρ H w pos (ρ id).blk->w1.heap[(ρ id).blk]?=w.heap[(ρ id).blk]?:=λid b hb hd hp hn=>by
  obtain⟨cc,t,fr,hB⟩:=hH.blk id b hb hd;exact hA.ext.block _ hB.lt hn
 -- any old block,handed over or not: not in the callee's hands unless it is owned and a root
 have hnotW':∀(id:Nat) b,H[id]?=some b->b.dead=false->pos id=none->¬ Tb3 W ρ H w pos (ρ id).blk:=λid b hb hd hp hw=>by
  obtain⟨cc,t,fr,hB⟩:=hH.blk id b hb hd
  rcases hw.2 with hge|⟨id',b',j,hp',hb',ho',he⟩
  ·have:=hB.lt;omega
  ·have hne:id'≠id:=λe=>by subst e;rw[hp] at hp';cases hp'
   exact hH.apart id' id b' b hb' hb (hS.blkOk id' j b' hp' hb').2 hd ho' hne he
 have hLold:∀b o,Td2 ρ H lent b o->¬ Tb3 W ρ H w pos b:=λb o hl hw=>by
  obtain⟨id,bb,hl1,hb,ho,rfl,_⟩:=hl;obtain⟨hn,b2,hb2,hd2⟩:=hS.lentOk id hl1;exact hnotW' id b2 hb2 hd2 hn hw
 -- where F1 is new
 have hF1:∀b o,F1 b o->F b o\/Td2 ρ H lent b o\/Tb3 W ρ H w pos b:=λb o h=>by
  rcases hA.new b o h with (h|h)|h
  ·exact .inl h
  ·exact .inr (.inl h)
  ·exact .inr (.inr h)
 -- the callee's block j,asq the caller knows it
 have hcallee : ∀ (j : Nat) c, out[j]? = some c → c.dead = false →
   ∀(id':Nat) b',H[id']?=some b'->b'.dead=false->pos id'=none->(b'.own=true\/c.own=true)->(ρ1 j).blk≠(ρ id').blk:=λj c hc hcd id' b' hb' hd' hp' ho e=>by
  have hinW:Tb3 W ρ H w pos (ρ1 j).blk->False:=λhw=>hnotW' id' b' hb' hd' hp' (e ▸ hw)
  rcases ho with ho|ho
  ·by_cases hf:∀b,blks[j]?=some b->c.g≠b.g
   ·exact hinW (hA.fresh j c hc hf)
   ·have:∃b,blks[j]?=some b/\c.g=b.g:=Qbx λhne=>hf λb hb hg=>hne ⟨b,hb,hg⟩
    obtain⟨b0,hb0,hg0⟩:=this;obtain⟨c',hc',_,_,e4⟩:=hA.heap j b0 hb0
    have:c'=c:=Qah (hc'.symm.trans hc)
    subst this;have hρ:=(e4 hg0).1;have hjlt:=(Qab.1 hb0).1;have hp:=hinv j hjlt;have hlt:=(hS.posLt _ _ hp).1;have hroot:=hS.blkOk _ j _ hp (Qaa hlt);have hne:id'≠inv j:=λe=>by rw[e,hp] at hp';cases hp'
    rw[hρ] at e;exact hH.apart id' (inv j) b' _ hb' (Qaa hlt) hd' hroot.2 ho hne e.symm
  ·obtain⟨cc,t,fr,hB⟩:=h1.blk j c hc hcd;exact hinW (hB.own ho).2.1
 -- each block of the new heap
 have hsplit : ∀ (id : Nat) b2, H2[id]? = some b2 → (∃ b, id < H.length ∧ pos id = none ∧ H[id]? = some b ∧ b2 = { b with own := b2.own } ∧ (b2.own = b.own ∨ (held ∧ lent id ∧ b2.own = false))) ∨
   (∃j b c,pos id=some j/\H[id]?=some b/\out[j]?=some c/\b2={ c with g:=b.g+c.g }/\ca7 ρ ρ1 H.length blks.length pos id=ρ1 j) \/
   (∃j,H.length<=id/\j=blks.length+(id-H.length)/\out[j]?=some b2/\ca7 ρ ρ1 H.length blks.length pos id=ρ1 j):=λid b2 hb2=>by
  rcases Qan id H.length with hid|hid
  ·cases hp:pos id with
   |none =>
    obtain⟨b,h2,h3,h4⟩:=hS.old id b2 hid hp hb2;exact .inl ⟨b,hid,rfl,h2,h3,h4⟩
   |some j =>
    obtain⟨b,c,h2,h3,h4⟩:=hS.root id j b2 hp hb2;exact .inr (.inl ⟨j,b,c,rfl,h2,h3,h4,hρroot id j hp⟩)
  ·exact .inr (.inr ⟨_,hid,rfl,hS.new id b2 hid hb2,hρnew id hid⟩)
 have hm1:∀{i:Nat} {c:c7} {j:Nat} {r:List b9} {k:Nat} {x:b9} {x':Value},out[i]?=some c->c.elems[j]?=some r->r[k]?=some x->J8 F1 w1 x x'->J8 (Kb4 ρ H F F1 lent held) w1 x x':=λ{i c j r k x x'} h2 h3 h4 hm=>by
  rcases hbare with hh|hh
  ·exact hm.adv (λb o h=>⟨h,.inl hh⟩) (λ_ _ _=>rfl)
  ·exact hm.bare (hh i c j r k x h2 h3 h4)
 -- the callee's own blocks stand in the new relation
 have hBout:∀(j:Nat) c,out[j]?=some c->c.dead=false->∀g,∃cc t fr,pc3 W (Kb4 ρ H F F1 lent held) w1 (ρ1 j) { c with g:=g } cc t fr:=λj c hc hcd g=>by
  obtain⟨cc,t,fr,hB⟩:=h1.blk j c hc hcd;refine⟨cc,t,fr,hB.obj,hB.room,hB.len,hB.rows,λi r k x hr hx=>?_,λho=>?_,λho o hlt=>?_⟩
  ·obtain⟨x',h2,h3⟩:=hB.cell i r k x hr hx;exact⟨x',h2,hm1 hc hr hx h3⟩
  ·obtain⟨g1,g2,g3,g4,g5,g6⟩:=hB.own ho;exact⟨g1,g2.1,g3,g4,λo hf=>g5 o hf.1,g6⟩
  ·have hk:=hB.kept ho o hlt;by_cases hl:Td2 ρ H lent (ρ1 j).blk ((ρ1 j).off+o)
   ·obtain⟨id',bb,hl1,hb',ho',he,_⟩:=hl;obtain⟨hn,b2,hb2,hd2⟩:=hS.lentOk id' hl1
    have:b2=bb:=Qah (hb2.symm.trans hb')
    subst this;exact absurd he (hcallee j c hc hcd id' b2 hb' hd2 hn (.inl ho'))
   ·exact⟨hk,.inr (.inl hl)⟩
 -- the caller's other blocks
 have hBold : ∀ (id : Nat) b (b2 : c7), id < H.length → pos id = none → H[id]? = some b → b.dead = false → b2 = { b with own := b2.own } → (b2.own = b.own ∨ (held ∧ lent id ∧ b2.own = false)) → (held → lent id → b2.own = false) →
   ∃cc t fr,pc3 W (Kb4 ρ H F F1 lent held) w1 (ρ id) b2 cc t fr:=λid b b2 hid hp hb hd e ho hdis=>by
  obtain⟨cc,t,fr,hB⟩:=hH.blk id b hb hd;have hobj:=hblkOld id b hb hd hp (hnotW' id b hb hd hp);have e1:b2.elems=b.elems:=by rw[e]
  have e2:b2.es=b.es:=by rw[e]
  have e3:b2.et=b.et:=by rw[e]
  refine⟨cc,t,fr,hobj.trans hB.obj,hB.room,by rw[e1,e2];exact hB.len,by rw[e1,e2];exact hB.rows,λi r k x hr hx=>?_,λho2=>?_,λho2 o hlt=>?_⟩
  ·rw[e1] at hr;obtain⟨x',h2,h3⟩:=hB.cell i r k x hr hx;rw[e2];exact⟨x',h2,h3.adv hmore hcells⟩
  ·have hbo : b.own = true := by
    rcases ho with ho|⟨_,_,ho⟩
    ·rw[<- ho];exact ho2
    ·rw[ho] at ho2;cases ho2
   obtain⟨g1,g2,g3,g4,g5,g6⟩:=hB.own hbo;refine⟨g1,g2,g3,g4,λo hf=>?_,by rw[e3];exact g6⟩
   obtain⟨hf1,hf2⟩:=hf
   rcases hF1 _ _ hf1 with h|h|h
   ·exact g5 o h
   ·rcases hf2 with hh|hh|hh
    ·-- held: the lent block is another one
     obtain⟨id',bb,hl1,hb',ho',he,_⟩:=h;obtain⟨hn,b3,hb3,hd3⟩:=hS.lentOk id' hl1
     have:b3=bb:=Qah (hb3.symm.trans hb')
     subst this;by_cases heq:id=id'
     ·subst heq;rw[hdis hh hl1] at ho2;cases ho2
     ·exact hH.apart id id' b b3 hb hb' hd hd3 hbo heq he
    ·exact hh h
    ·exact g5 o hh
   ·exact hnotW id b hb hd hbo hp h
  ·rw[e1,e2] at hlt;cases hbo:b.own with
   |false=>exact hmore _ _ (hB.kept hbo o hlt)
   |true =>
    rcases ho with ho|⟨hh,hl,_⟩
    ·rw[hbo,ho2] at ho;cases ho
    ·refine⟨hA.more _ _ (.inr ⟨id,b,hl,hb,hbo,rfl,by omega,by omega⟩),.inl hh⟩
 have hdisAll:∀(id:Nat) b2,H2[id]?=some b2->held->lent id->b2.own=false:=λid b2 hb2 hh hl=>hS.oldDis id b2 hh hl hb2
 constructor
 ·refine⟨⟨hA.ext.os,hA.ext.tape,hA.ext.output,hA.ext.size,λk hk hw=>hA.ext.block k hk λh=>hw h.1,hcells,hA.ext.drawn⟩,λid b hb=>?_,hmore,λb o hf=>?_,λid b2 hb2 hn=>?_⟩
  ·have hid:=(Qab.1 hb).1;have hlt2:id<H2.length:=by have:=hS.len;omega
   have hb2:H2[id]?=some H2[id]:=Qaa hlt2
   rcases hsplit id _ hb2 with⟨b',_,hp,hb',e,_⟩|⟨j,b',c,hp,hb',hc,e,hρ⟩|⟨j,hge,_⟩
   ·grind
   ·have:b'=b:=Qah (hb'.symm.trans hb)
    subst this;obtain⟨hbj,hdb⟩:=hS.blkOk id j b' hp hb;obtain⟨c',hc',d1,d2,d3⟩:=hA.heap j _ hbj
    grind
   ·omega
  ·rcases hF1 b o hf.1 with h|h|h
   ·exact .inl h
   ·obtain⟨id',bb,hl1,hb',ho',rfl,_⟩:=h;obtain⟨hn,b3,hb3,hd3⟩:=hS.lentOk id' hl1
    have:b3=bb:=Qah (hb3.symm.trans hb')
    subst this;obtain⟨cc,t,fr,hB⟩:=hH.blk id' b3 hb' hd3;exact .inr (hB.own ho').2.1
   ·exact .inr h.1
  ·rcases hsplit id b2 hb2 with⟨b',_,hp,hb',e,_⟩|⟨j,b',c,hp,hb',hc,e,hρ⟩|⟨j,hge,hj,hc,hρ⟩
   ·grind
   ·rw[hρ];refine (hA.fresh j c hc λbj hbj=>?_).1
    obtain⟨hbj',_⟩:=hS.blkOk id j b' hp hb'
    have:bj={ b' with g:=0 }:=Qah (hbj.symm.trans hbj')
    subst this;intro hg;refine hn b' hb' ?_;rw[e]
    simp at hg ⊢
    omega
   ·rw[hρ];refine (hA.fresh j b2 hc λbj hbj=>?_).1
    have:=(Qab.1 hbj).1
    omega
 ·refine⟨λid b2 hb2 hd2=>?_,λid id' b b' hb hb' hd hd' ho hne=>?_,λb o hf=>h1.frz b o hf.1,λk hk=>(h1.new k hk).1⟩
  ·rcases hsplit id b2 hb2 with⟨b',hid,hp,hb',e,ho⟩|⟨j,b',c,hp,hb',hc,e,hρ⟩|⟨j,hge,hj,hc,hρ⟩
   ·rw[hρold id hid hp];exact hBold id b' b2 hid hp hb' (by rw[e] at hd2;exact hd2) e ho (hdisAll id b2 hb2)
   ·rw[hρ,e];exact hBout j c hc (by rw[e] at hd2;exact hd2) _
   ·rw[hρ];exact hBout j b2 hc hd2 b2.g
  ·rcases hsplit id b hb with ⟨b1, hid, hp, hb1, e, hoo⟩ | ⟨j, b1, c, hp, hb1, hc, e, hρ⟩ | ⟨j, hge, hj, hc, hρ⟩ <;>
    rcases hsplit id' b' hb' with⟨b1',hid',hp',hb1',e',hoo'⟩|⟨j',b1',c',hp',hb1',hc',e',hρ'⟩|⟨j',hge',hj',hc',hρ'⟩
   ·rw[hρold id hid hp,hρold id' hid' hp'];have hbo:b1.own=true:=by
     rcases hoo with h|⟨_,_,h⟩
     ·rw[<- h];exact ho
     ·rw[h] at ho;cases ho
    exact hH.apart id id' b1 b1' hb1 hb1' (by rw[e] at hd;exact hd) (by rw[e'] at hd';exact hd') hbo hne
   ·have hbo : b1.own = true := by
     rcases hoo with h|⟨_,_,h⟩
     ·rw[<- h];exact ho
     ·rw[h] at ho;cases ho
    rw[hρold id hid hp,hρ'];exact (hcallee j' c' hc' (by rw[e'] at hd';exact hd') id b1 hb1 (by rw[e] at hd;exact hd) hp (.inl hbo)).symm
   ·have hbo : b1.own = true := by
     rcases hoo with h|⟨_,_,h⟩
     ·rw[<- h];exact ho
     ·rw[h] at ho;cases ho
    rw[hρold id hid hp,hρ'];exact (hcallee j' b' hc' hd' id b1 hb1 (by rw[e] at hd;exact hd) hp (.inl hbo)).symm
   ·rw[hρ,hρold id' hid' hp'];exact hcallee j c hc (by rw[e] at hd;exact hd) id' b1' hb1' (by rw[e'] at hd';exact hd') hp' (.inr (by rw[e] at ho;exact ho))
   ·rw[hρ,hρ'];refine h1.apart j j' c c' hc hc' (by rw[e] at hd;exact hd) (by rw[e'] at hd';exact hd') (by rw[e] at ho;exact ho) λh=>hne ?_
    subst h;exact hS.posInj id id' j hp hp'
   ·rw[hρ,hρ'];refine h1.apart j j' c b' hc hc' (by rw[e] at hd;exact hd) hd' (by rw[e] at ho;exact ho) λh=>?_
    have:=(hS.posLt id j hp).2
    omega
   ·rw[hρ,hρold id' hid' hp'];exact hcallee j b hc hd id' b1' hb1' (by rw[e'] at hd';exact hd') hp' (.inr ho)
   ·rw[hρ,hρ'];refine h1.apart j j' b c' hc hc' hd (by rw[e'] at hd';exact hd') ho λh=>?_
    have:=(hS.posLt id' j' hp').2
    omega
   ·rw[hρ,hρ'];exact h1.apart j j' b b' hc hc' hd hd' ho λh=>hne (by omega)
end
end Go.Ev
